/- What reads as data has the shape of its type: numbers that fit, strings and slices no longer than the row allows, cells that are there. -/
import Derived.SizedLaws
import Derived.Deep.Slices
import Derived.OpenShut
import Derived.Laws.Cover2
namespace Go.Sees
open Go.Deep

/-- the cells 'cs' are a value of the type t, as 'k' levels show it -/
def Sees (P : Program) (w : World) (R : Nat) : Nat → TypeId → List Value → Prop
  | 0, _, _ => True
  | k + 1, t, cs =>
    match P.underlying t with
    | some .bool => ∃ b, cs = [.bool b]
    | some (.int q) => ∃ n, cs = [.int q n] ∧ (Lit.int q n).wf = true
    | some (.float q) => ∃ n, cs = [.float q n]
    | some .string => ∃ s : ByteArray, cs = [.string s] ∧ s.size ≤ R ∧ s.size ≤ maxLen
    | some (.slice e) => cs = [.slice none 0 0] ∨ ∃ a len cap, cs = [.slice (some a) len cap] ∧ len ≤ cap ∧ cap ≤ maxLen ∧ cap * P.bytesOf e ≤ R ∧
        ∀ i, i < cap → ∃ es, w.cells? 0 (a.add (i * P.cellsOf e)) (P.cellsOf e) = some es ∧ Sees P w R k e es
    | some (.struct fs) => cs.length = P.cellsOf t ∧ ∀ f ∈ fs.toList, Sees P w R k f.type ((cs.drop f.offset).take (P.cellsOf f.type))
    | _ => True

section
variable {H : Type} {enc : TypeId × Value → H} {P : Program} {w : World} {R : Nat}

theorem weightsAll_mem {e : TypeId} : ∀ {l : List (DataW H)} {d : DataW H}, d ∈ l → ∀ n ∈ d.weights P e, n ∈ DataW.weightsAll P e l
  | x :: l, d, h, n, hn => by
    simp only [DataW.weightsAll, List.mem_append]
    rcases List.mem_cons.1 h with rfl | h
    · exact .inl hn
    · exact .inr (weightsAll_mem h n hn)

theorem sees_of_trod : ∀ (k : Nat) (fuel : Nat) (t : TypeId) (cs : List Value) (x : DataW H × List MemPlace),
    DataW.trod enc P w 0 (fun _ => true) true fuel t cs = some x → (∀ n ∈ x.1.weights P t, n ≤ R) → Sees P w R k t cs
  | 0, _, _, _, _, _, _ => trivial
  | k + 1, fuel, t, cs, x, h, hw => by
    unfold Sees
    cases hu : P.underlying t with
    | none => trivial
    | some u =>
      cases u with
      | bool => obtain ⟨b, rfl, _⟩ := DataW.trod_bool hu h; exact ⟨b, rfl⟩
      | int q => obtain ⟨n, rfl, _, e⟩ := DataW.trod_int hu h; exact ⟨n, rfl, e⟩
      | float q =>
        cases fuel with
        | zero => simp [DataW.trod] at h
        | succ n =>
          unfold DataW.trod at h
          rw [hu] at h
          split at h <;> simp_all
      | string =>
        obtain ⟨s, rfl, rfl, e⟩ := DataW.trod_string hu h
        exact ⟨s, rfl, by simpa [DataW.weights] using hw, e⟩
      | slice e =>
        rcases open_slice hu h with ⟨rfl, _⟩ | ⟨a, len, cap, m, n, D, Pl, rfl, _, hl, hm, hmm, rfl, hx⟩
        · exact .inl rfl
        · simp only [if_true] at hmm
          subst hmm
          simp only [DataW.weights, hu, List.length_map, List.length_range, List.mem_cons, List.mem_append] at hw
          refine .inr ⟨a, len, m, rfl, hl, hm, ?_, ?_⟩
          · have := hw _ (.inl rfl)
            rwa [show len + (m - len) = m by omega] at this
          · intro i hi
            obtain ⟨es, h1, h2⟩ := hx i hi
            refine ⟨es, h1, sees_of_trod k n e es _ h2 fun n hn => hw n (.inr ?_)⟩
            by_cases hc : i < len
            · exact .inl (weightsAll_mem (List.mem_map.2 ⟨i, by simpa using hc, rfl⟩) n hn)
            · refine .inr (weightsAll_mem (List.mem_map.2 ⟨i - len, by simp; omega, ?_⟩) n hn)
              rw [show len + (i - len) = i by omega]
      | struct fs =>
        obtain ⟨xs, n, _, rfl, hl, hn, hf⟩ := DataW.trod_struct hu h
        refine ⟨hl, fun f hfm => ?_⟩
        obtain ⟨j, hj⟩ := List.getElem?_of_mem hfm
        rw [Array.getElem?_toList] at hj
        have hjl : j < fs.size := (Array.getElem?_eq_some_iff.1 hj).1
        have h2 := hf j f hj
        obtain ⟨y, hy⟩ : ∃ y, xs[j]? = some y := ⟨xs[j], by simp [hn, hjl]⟩
        rw [hy] at h2
        refine sees_of_trod k n f.type _ y h2 fun n hn => hw n ?_
        simp only [DataW.weights, hu]
        refine DataW.weights_mem_each (j := j) (t := f.type) (d := y.1) ?_ ?_ n hn
        · rw [List.getElem?_map, Array.getElem?_toList, hj]; rfl
        · rw [List.getElem?_map, hy]; rfl
      | _ => trivial

theorem Sees.int {k : Nat} {t : TypeId} {q : IntKind} {cs : List Value} (hu : P.underlying t = some (.int q)) (h : Sees P w R (k + 1) t cs) : ∃ n, cs = [.int q n] ∧ (Lit.int q n).wf = true := by
  unfold Sees at h; rw [hu] at h; exact h
theorem Sees.bool {k : Nat} {t : TypeId} {cs : List Value} (hu : P.underlying t = some .bool) (h : Sees P w R (k + 1) t cs) : ∃ b, cs = [.bool b] := by
  unfold Sees at h; rw [hu] at h; exact h
theorem Sees.float {k : Nat} {t : TypeId} {q : FloatKind} {cs : List Value} (hu : P.underlying t = some (.float q)) (h : Sees P w R (k + 1) t cs) : ∃ n, cs = [.float q n] := by
  unfold Sees at h; rw [hu] at h; exact h
theorem Sees.string {k : Nat} {t : TypeId} {cs : List Value} (hu : P.underlying t = some .string) (h : Sees P w R (k + 1) t cs) : ∃ s : ByteArray, cs = [.string s] ∧ s.size ≤ R := by
  unfold Sees at h; rw [hu] at h; obtain ⟨s, e, f, _⟩ := h; exact ⟨s, e, f⟩
theorem Sees.struct {k : Nat} {t : TypeId} {fs : Array Field} {cs : List Value} (hu : P.underlying t = some (.struct fs)) (h : Sees P w R (k + 1) t cs) :
    cs.length = P.cellsOf t ∧ ∀ f ∈ fs.toList, Sees P w R k f.type ((cs.drop f.offset).take (P.cellsOf f.type)) := by
  unfold Sees at h; rw [hu] at h; exact h
theorem Sees.slice {k : Nat} {t e : TypeId} {a : Option Addr} {len cap : Nat} (hu : P.underlying t = some (.slice e)) (h : Sees P w R (k + 1) t [.slice a len cap]) :
    (a = none ∧ len = 0 ∧ cap = 0) ∨ ∃ b, a = some b ∧ len ≤ cap ∧ cap ≤ maxLen ∧ cap * P.bytesOf e ≤ R ∧ ∀ i, i < cap → ∃ es, w.cells? 0 (b.add (i * P.cellsOf e)) (P.cellsOf e) = some es ∧ Sees P w R k e es := by
  unfold Sees at h; rw [hu] at h
  rcases h with h | ⟨b, l, c, h, h1, h2, h3, h4⟩
  · simp only [List.cons.injEq, Value.slice.injEq, and_true] at h; exact .inl h
  · simp only [List.cons.injEq, Value.slice.injEq, and_true] at h
    obtain ⟨rfl, rfl, rfl⟩ := h
    exact .inr ⟨b, rfl, h1, h2, h3, h4⟩
theorem Sees.isSlice {k : Nat} {t e : TypeId} {v : Value} (hu : P.underlying t = some (.slice e)) (h : Sees P w R (k + 1) t [v]) : ∃ a len cap, v = .slice a len cap := by
  unfold Sees at h; rw [hu] at h
  rcases h with h | ⟨b, l, c, h, _⟩ <;> (simp only [List.cons.injEq, and_true] at h; exact ⟨_, _, _, h⟩)

/-- the row's own form: argument j -/
theorem sees_arg {ts : List TypeId} {ds : List (DataW H)} (hsz : (DataW.weightsEach P ts ds).all (· ≤ reachBytes) = true) (k : Nat) {j : Nat} {t : TypeId} {d : DataW H} {v : Value} {p : List MemPlace}
    (ht : ts[j]? = some t) (hd : ds[j]? = some d) (h : DataW.Trod enc P w 0 (fun _ => true) true t v d p) : Sees P w 140737488351232 k t v.cells.toList := by
  obtain ⟨fuel, h⟩ := h
  refine sees_of_trod k fuel t _ _ h fun n hn => ?_
  have := List.all_eq_true.1 hsz n (DataW.weights_mem_each ht hd n hn)
  exact of_decide_eq_true this
end
end Go.Sees
