/- A slice that came in, as a list: rows of s cells where it points. -/
import Derived.Test.YtmdojgkgohmghaaOwn
import Derived.Test.YtmdojgkgohmghaaSees
namespace Go.Own
/-- Rows of s cells lie where a slice that came in points. -/
def ArrAt {α : Type} (w : World) (A : Option Addr) (f : α → List Value) (s : Nat) (l : List α) : Prop :=
  ∀ i (hi : i < l.length), ∃ blk off, A = some ⟨blk, off, none⟩ ∧ blk < w.heap.size ∧ ∀ j u, (f l[i])[j]? = some u → w.cell? ⟨blk, off + i * s + j, none⟩ = some u
theorem ArrAt.below {α : Type} {w w' : World} {A : Option Addr} {f : α → List Value} {s : Nat} {l : List α} (h : ArrAt w A f s l) (hb : Go.RowKit.Below w.heap.size w w') : ArrAt w' A f s l := fun i hi => by
  obtain ⟨blk, off, e, h1, h2⟩ := h i hi
  exact ⟨blk, off, e, Nat.lt_of_lt_of_le h1 hb.size, fun j u hu => (hb.cell (p := ⟨blk, _, none⟩) h1).trans (h2 j u hu)⟩
theorem ArrAt.keep {α : Type} {G : Nat → Prop} {w w' : World} {A : Option Addr} {f : α → List Value} {s : Nat} {l : List α} (h : ArrAt w A f s l) (hF : Fr G w w') (hG : ∀ p, A = some p → ¬ G p.block) : ArrAt w' A f s l := fun i hi => by
  obtain ⟨blk, off, e, h1, h2⟩ := h i hi
  refine ⟨blk, off, e, Nat.lt_of_lt_of_le h1 hF.size, fun j u hu => ?_⟩
  rw [← h2 j u hu]
  simp only [World.cell?, hF.block blk h1 (hG _ e)]
open Go.Sees in
/-- What came in, as a list. -/
theorem arr_of {α : Type} {P : Program} {w : World} {R k len cap : Nat} {A : Option Addr} {t e : TypeId} {f : α → List Value} {s : Nat} {Q : α → Prop} (hs : P.cellsOf e = s) (h0 : 0 < s) (hf : ∀ x, (f x).length = s) (hu : P.underlying t = some (.slice e))
    (one : ∀ cs, Sees P w R k e cs → ∃ x, Q x ∧ cs = f x) (h : Sees P w R (k + 1) t [.slice A len cap]) : ∃ l : List α, l.length = len ∧ len ≤ cap ∧ len ≤ maxLen ∧ len * P.bytesOf e ≤ R ∧ ArrAt w A f s l ∧ ∀ x ∈ l, Q x := by
  rcases h.slice hu with ⟨rfl, rfl, rfl⟩ | ⟨b, rfl, hlc, hcm, hR, hcells⟩
  · exact ⟨[], rfl, Nat.le_refl _, Nat.zero_le _, by simp, fun i hi => by simp at hi, fun x hx => by simp at hx⟩
  · rw [hs] at hcells
    have one' : ∀ i, i < cap → ∃ x : α, Q x ∧ ∀ j u, (f x)[j]? = some u → w.cell? (b.add (i * s + j)) = some u := by
      intro i hi
      obtain ⟨es, he, hse⟩ := hcells i hi
      obtain ⟨x, hQ, rfl⟩ := one _ hse
      refine ⟨x, hQ, fun j u hj => ?_⟩
      have ht : j < s := by have := (List.getElem?_eq_some_iff.1 hj).1; rw [hf] at this; exact this
      have := (World.cells?_some he).2.2 j ht
      rw [show (b.add (i * s)).add j = b.add (i * s + j) by unfold Addr.add; split <;> split <;> split <;> simp_all <;> omega] at this
      rw [this]; exact hj
    have all : ∀ n, n ≤ cap → ∃ l : List α, l.length = n ∧ (∀ x ∈ l, Q x) ∧ ∀ i (hi : i < l.length) j u, (f l[i])[j]? = some u → w.cell? (b.add (i * s + j)) = some u := by
      intro n
      induction n with
      | zero => intro _; exact ⟨[], rfl, fun x hx => by simp at hx, fun i hi => by simp at hi⟩
      | succ n ih =>
        intro hn
        obtain ⟨l, h1, h2, h3⟩ := ih (by omega)
        obtain ⟨x, hx, hxc⟩ := one' n (by omega)
        refine ⟨l ++ [x], by simp [h1], fun y hy => ?_, fun i hi j u hj => ?_⟩
        · rcases List.mem_append.1 hy with hy | hy
          · exact h2 y hy
          · rw [List.mem_singleton.1 hy]; exact hx
        · by_cases hjn : i < l.length
          · rw [List.getElem_append_left hjn] at hj; exact h3 i hjn j u hj
          · have e : i = l.length := by simp at hi; omega
            subst e
            rw [List.getElem_append_right (Nat.le_refl _)] at hj
            simp at hj
            rw [h1]
            exact hxc j u hj
    obtain ⟨l, h1, h2, h3⟩ := all len hlc
    refine ⟨l, h1, hlc, by omega, Nat.le_trans (Nat.mul_le_mul_right _ hlc) hR, fun i hi => ?_, h2⟩
    have hpos : 0 < (f l[i]).length := by rw [hf]; exact h0
    have hsp : b.spot = none ∧ b.block < w.heap.size := by
      obtain ⟨x, hx, hxc⟩ := one' 0 (by omega)
      have hx0 : 0 < (f x).length := by rw [hf]; exact h0
      have h := hxc 0 _ (List.getElem?_eq_getElem hx0)
      have hb0 : b.add (0 * s + 0) = b := by simp [Addr.add]
      rw [hb0] at h
      refine ⟨?_, World.block_lt_of_cell? w b h⟩
      unfold World.cell? at h
      split at h
      · cases hs : b.spot with
        | none => rfl
        | some y => simp [hs] at h
      · cases h
    obtain ⟨blk, off, sp⟩ := b
    obtain ⟨rfl, hb⟩ := hsp
    refine ⟨blk, off, rfl, hb, fun j u hj => ?_⟩
    have := h3 i hi j u hj
    rwa [show (⟨blk, off, none⟩ : Addr).add (i * s + j) = ⟨blk, off + i * s + j, none⟩ by unfold Addr.add; split <;> simp_all; omega] at this
end Go.Own
