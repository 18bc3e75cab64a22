/- Layer share: its functions as the printed texts call them. -/
import Derived.Test.YtecbfpdkbackmaaShareDrop
namespace Go.Proofs.Ytecbfpdkbackmaa.Share
open Go.RowKit Go.Shelf Go.Sort Go.Proofs.Ytecbfpdkbackmaa.P11 Go.Proofs.YtecbfpdkbackmaaW.PrintWords Go.Proofs.YtecbfpdkbackmaaW.PrintLast Go.Proofs.YtecbfpdkbackmaaW.PrintMore
set_option linter.unusedVariables false
set_option linter.unusedSimpArgs false

abbrev lt (x y : S27) : Bool := ltOf cmpB x y
def Strict (l : List S27) : Prop := l.Pairwise fun x y => lt x y = true
theorem lt_trans {x y z : S27} (h1 : lt x y = true) (h2 : lt y z = true) : lt x z = true := cmp_swo.trans x y z h1 h2
theorem lt_asymm {x y : S27} (h : lt x y = true) : lt y x = false := by
  unfold lt at *; rw [lt_iff] at *; simp at *; omega
theorem right_at {l : List S27} (h : rightB l = true) (i : Nat) (hi : i < l.length) : rightAt l i = true := by
  unfold rightB at h
  simp only [Bool.and_eq_true, List.all_eq_true, List.mem_range] at h
  exact h.2 i hi
theorem right_next {l : List S27} (h : rightB l = true) (i : Nat) (hi : i + 1 < l.length) : lt l[i] l[i + 1] = true := by
  have := right_at h (i + 1) hi
  unfold rightAt at this
  simp only [Bool.and_eq_true, Bool.or_eq_true, decide_eq_true_eq] at this
  have h2 := this.1.2.resolve_left (by omega)
  rw [show (((i + 1 : Nat) : Int) - 1) = ((i : Nat) : Int) by omega, rd_get l i (by omega), rd_get l (i + 1) hi] at h2
  unfold lt ltOf; simpa using h2
theorem right_strict {l : List S27} (h : rightB l = true) : Strict l := by
  unfold Strict
  rw [List.pairwise_iff_getElem]
  intro i j hi hj hij
  obtain ⟨d, rfl⟩ : ∃ d, j = i + 1 + d := ⟨j - (i + 1), by omega⟩
  induction d with
  | zero => exact right_next h i hj
  | succ d ih => exact lt_trans (ih (by omega) (by omega)) (right_next h (i + 1 + d) hj)

/-- the list with one more -/
def insO (l : List S27) (o : S27) : List S27 := l.filter (fun x => lt x o) ++ o :: l.filter (fun x => !lt x o)
theorem found_no {l : List S27} {c h : Int} (hf : (found l c h).2 = false) : ∀ x ∈ l, keyB c h x = false := by
  intro x hx
  unfold found at hf
  cases e : l.find? (keyB c h) with
  | none => have := List.find?_eq_none.1 e x hx; simpa using this
  | some y => rw [e] at hf; cases hf
theorem lt_of_no {x o : S27} (h : keyB o.f0 o.f1 x = false) : lt x o = true ∨ lt o x = true := by
  unfold keyB at h; unfold lt; rw [lt_iff, lt_iff]; simp at *; omega
theorem insO_perm (l : List S27) (o : S27) : (insO l o).Perm (l ++ [o]) := by
  unfold insO
  refine List.perm_middle.trans ?_
  refine (List.Perm.cons o (List.filter_append_perm (fun x => lt x o) l)).trans ?_
  exact (List.perm_append_comm (l₁ := [o]) (l₂ := l))
theorem insO_strict {l : List S27} {o : S27} (hs : Strict l) (hf : (found l o.f0 o.f1).2 = false) : Strict (insO l o) := by
  unfold Strict insO at *
  rw [List.pairwise_append, List.pairwise_cons]
  refine ⟨hs.filter _, ⟨fun x hx => ?_, hs.filter _⟩, fun x hx y hy => ?_⟩
  · simp only [List.mem_filter] at hx
    rcases lt_of_no (found_no hf x hx.1) with h | h
    · rw [h] at hx; simp at hx
    · exact h
  · simp only [List.mem_filter] at hx
    rcases List.mem_cons.1 hy with rfl | hy
    · exact hx.2
    · simp only [List.mem_filter] at hy
      rcases lt_of_no (found_no hf y hy.1) with h | h
      · rw [h] at hy; simp at hy
      · exact lt_trans hx.2 h
theorem strict_apart {l : List S27} (hs : Strict l) {a b : S27} (ha : a ∈ l) (hb : b ∈ l) (h1 : lt b a = false) (h2 : lt a b = false) : a = b := by
  unfold Strict at hs
  rw [List.pairwise_iff_getElem] at hs
  obtain ⟨i, hi, rfl⟩ := List.getElem_of_mem ha
  obtain ⟨j, hj, rfl⟩ := List.getElem_of_mem hb
  rcases Nat.lt_trichotomy i j with h | h | h
  · have := hs i j hi hj h; rw [h2] at this; cases this
  · subst h; rfl
  · have := hs j i hj hi h; rw [h1] at this; cases this
theorem strict_sorted {l : List S27} (hs : Strict l) : SortedL l := List.Pairwise.imp (fun h => lt_asymm h) hs
theorem ins_unique {l l' : List S27} {o : S27} (hs : Strict l) (hf : (found l o.f0 o.f1).2 = false) (hp : l'.Perm (l ++ [o])) (hso : SortedL l') : l' = insO l o := by
  have hi := insO_strict hs hf
  have hp2 : l'.Perm (insO l o) := hp.trans (insO_perm l o).symm
  refine List.Perm.eq_of_pairwise (le := fun x y => lt y x = false) (fun a b ha hb h1 h2 => ?_) hso (strict_sorted hi) hp2
  exact strict_apart hi (hp2.mem_iff.1 ha) hb h1 h2

def addF (l : List S27) (o : S27) : List S27 × Int :=
  if rightB l = true then (if oneB o = true then (if (found l o.f0 o.f1).2 = true then ([], 8) else (if l.length = 12 then ([], 16) else (if l.countP (fun x => x.f0 == o.f0) = 4 then ([], 16) else (if l.any (fun x => clashB x o) = true then ([], 13) else (insO l o, 0))))) else ([], 1)) else ([], 1)
def dropR (l : List S27) (c h : Int) : List S27 × S27 × Int :=
  if rightB l = true then (if (found l c h).2 = true then (dropF l (found l c h).1, (found l c h).1, 0) else ([], z27, 14)) else ([], z27, 1)
def clearR (l : List S27) (c : Int) : List S27 × Int := if rightB l = true then (clearF l c, 0) else ([], 1)
end Go.Proofs.Ytecbfpdkbackmaa.Share

namespace Go.Proofs.Ytecbfpdkbackmaa.P11
open Go.RowKit Go.Shelf Go.Proofs.Ytecbfpdkbackmaa.Share Go.Proofs.YtecbfpdkbackmaaW.PrintWords Go.Proofs.YtecbfpdkbackmaaW.PrintLast Go.Proofs.YtecbfpdkbackmaaW.PrintMore
set_option linter.unusedVariables false

def share_Right.f (l0 : List S27) : Option Bool := some (rightB l0)
theorem share_Right.calls (A0 : Option Addr) (c0 : Nat) (l0 : List S27) (r : Bool) (w : World) (hr0 : Kd.C k27 w A0 l0.length l0) (hc0 : l0.length ≤ c0) (h : share_Right.f l0 = some r) :
    Calls Try.prog 11 #[.slice A0 l0.length c0] w fun e w' => e = .returned (.bool r) ∧ Below w.heap.size w w' := by
  obtain rfl := Option.some.inj h
  exact right_calls A0 c0 l0 w hr0 hc0
def share_Uses.f (l0 : List S27) (a1 : Int) : Option Int := some ((l0.countP (fun x => x.f2 == a1) : Nat) : Int)
theorem share_Uses.calls (A0 : Option Addr) (c0 : Nat) (l0 : List S27) (a1 : Int) (r : Int) (w : World) (hr0 : Kd.C k27 w A0 l0.length l0) (hc0 : l0.length ≤ c0) (h : share_Uses.f l0 a1 = some r) :
    Calls Try.prog 15 #[.slice A0 l0.length c0, .int .u32 a1] w fun e w' => e = .returned (.int .i64 r) ∧ Below w.heap.size w w' := by
  obtain rfl := Option.some.inj h
  exact uses_calls A0 c0 l0 a1 w hr0 hr0.2.1
def share_Has.f (l0 : List S27) (a1 a2 : Int) : Option Bool := some (decide (0 < l0.countP (fun x => x.f0 == a1 && x.f2 == a2)))
theorem share_Has.calls (A0 : Option Addr) (c0 : Nat) (l0 : List S27) (a1 a2 : Int) (r : Bool) (w : World) (hr0 : Kd.C k27 w A0 l0.length l0) (hc0 : l0.length ≤ c0) (h : share_Has.f l0 a1 a2 = some r) :
    Calls Try.prog 17 #[.slice A0 l0.length c0, .int .u32 a1, .int .u32 a2] w fun e w' => e = .returned (.bool r) ∧ Below w.heap.size w w' := by
  obtain rfl := Option.some.inj h
  exact has_calls A0 c0 l0 a1 a2 w hr0 hr0.2.1

def share_Add.f (l0 : List S27) (a1_0 a1_1 a1_2 a1_3 a1_4 : Int) : Option (List S27 × Int) := if l0.length ≤ 100 then some (addF l0 ⟨a1_0, a1_1, a1_2, a1_3, a1_4⟩) else none
theorem share_Add.calls (A0 : Option Addr) (c0 : Nat) (l0 : List S27) (a1_0 a1_1 a1_2 a1_3 a1_4 : Int) (r1 : List S27) (r2 : Int) (w : World) (hr0 : Kd.C k27 w A0 l0.length l0) (hc0 : l0.length ≤ c0) (h : share_Add.f l0 a1_0 a1_1 a1_2 a1_3 a1_4 = some (r1, r2)) :
    Calls Try.prog 18 #[.slice A0 l0.length c0, .agg #[.int .u32 a1_0, .int .u32 a1_1, .int .u32 a1_2, .int .u32 a1_3, .int .u32 a1_4]] w fun e w' => ∃ v0, e = .returned (.tuple #[v0, .int .i64 r2]) ∧ Kd.R k27 27 w' w.heap.size (fun _ => True) v0 r1 ∧ Below w.heap.size w w' := by
  unfold share_Add.f at h
  split at h
  · rename_i hl
    obtain ⟨o, ho⟩ : ∃ o : S27, (⟨a1_0, a1_1, a1_2, a1_3, a1_4⟩ : S27) = o := ⟨_, rfl⟩
    have hv : (Value.agg #[.int .u32 a1_0, .int .u32 a1_1, .int .u32 a1_2, .int .u32 a1_3, .int .u32 a1_4]) = opn o := by rw [← ho]
    rw [ho] at h
    rw [hv]
    have h' := Option.some.inj h
    have nope : ∀ n : Int, (Calls Try.prog 18 #[.slice A0 l0.length c0, opn o] w fun e w' => e = .returned (.tuple #[.slice none 0 0, .int .i64 n]) ∧ Below w.heap.size w w') → Calls Try.prog 18 #[.slice A0 l0.length c0, opn o] w fun e w' => ∃ v0, e = .returned (.tuple #[v0, .int .i64 n]) ∧ Kd.R k27 27 w' w.heap.size (fun _ => True) v0 [] ∧ Below w.heap.size w w' :=
      fun n hc => hc.mono fun e w' ⟨he, hb⟩ => ⟨_, he, Kd.R_nil _ _ _ _ _, hb⟩
    unfold addF at h'
    split at h'
    · rename_i hr
      split at h'
      · rename_i h1
        split at h'
        · rename_i h2
          obtain ⟨rfl, rfl⟩ := Prod.mk.inj h'
          exact nope 8 (add_3 A0 c0 l0 o w hr0 hc0 (by omega) hr h1 h2)
        · rename_i h2
          have h2' : (found l0 o.f0 o.f1).2 = false := by simpa using h2
          split at h'
          · rename_i h3
            obtain ⟨rfl, rfl⟩ := Prod.mk.inj h'
            exact nope 16 (add_4 A0 c0 l0 o w hr0 hc0 (by omega) hr h1 h2' h3)
          · rename_i h3
            split at h'
            · rename_i h4
              obtain ⟨rfl, rfl⟩ := Prod.mk.inj h'
              exact nope 16 (add_5 A0 c0 l0 o w hr0 hc0 (by omega) hr h1 h2' h3 h4)
            · rename_i h4
              split at h'
              · rename_i h5
                obtain ⟨rfl, rfl⟩ := Prod.mk.inj h'
                exact nope 13 (add_6 A0 c0 l0 o w hr0 hc0 (by omega) hr h1 h2' h3 h4 h5)
              · rename_i h5
                obtain ⟨rfl, rfl⟩ := Prod.mk.inj h'
                refine (add_ok A0 c0 l0 o w hr0 hc0 (by omega) hr h1 h2' h3 h4 (by simpa using h5)).mono ?_
                rintro e w' ⟨v0, l', he, hp, hs, hR, hb⟩
                rw [ins_unique (right_strict hr) h2' hp hs] at hR
                exact ⟨v0, he, hR, hb⟩
      · rename_i h1
        obtain ⟨rfl, rfl⟩ := Prod.mk.inj h'
        exact nope 1 (add_2 A0 c0 l0 o w hr0 hc0 (by omega) hr (by simpa using h1))
    · rename_i hr
      obtain ⟨rfl, rfl⟩ := Prod.mk.inj h'
      exact nope 1 (add_1 A0 c0 l0 o w hr0 hc0 (by omega) (by simpa using hr))
  · cases h

def share_Drop.f (l0 : List S27) (a1 a2 : Int) : Option (List S27 × Int × Int × Int × Int × Int × Int) := some ((dropR l0 a1 a2).1, (dropR l0 a1 a2).2.1.f0, (dropR l0 a1 a2).2.1.f1, (dropR l0 a1 a2).2.1.f2, (dropR l0 a1 a2).2.1.f3, (dropR l0 a1 a2).2.1.f4, (dropR l0 a1 a2).2.2)
theorem share_Drop.calls (A0 : Option Addr) (c0 : Nat) (l0 : List S27) (a1 a2 : Int) (r1 : List S27) (r2 r3 r4 r5 r6 r7 : Int) (w : World) (hr0 : Kd.C k27 w A0 l0.length l0) (hc0 : l0.length ≤ c0) (h : share_Drop.f l0 a1 a2 = some (r1, r2, r3, r4, r5, r6, r7)) :
    Calls Try.prog 21 #[.slice A0 l0.length c0, .int .u32 a1, .int .u32 a2] w fun e w' => ∃ v0, e = .returned (.tuple #[v0, .agg #[.int .u32 r2, .int .u32 r3, .int .u32 r4, .int .u32 r5, .int .u32 r6], .int .i64 r7]) ∧ Kd.R k27 27 w' w.heap.size (fun _ => True) v0 r1 ∧ Below w.heap.size w w' := by
  unfold share_Drop.f at h
  simp only [Option.some.injEq, Prod.mk.injEq] at h
  obtain ⟨rfl, rfl, rfl, rfl, rfl, rfl, rfl⟩ := h
  unfold dropR
  by_cases hr : rightB l0 = true
  · by_cases h2 : (found l0 a1 a2).2 = true
    · simp only [if_pos hr, if_pos h2]
      exact drop_ok A0 c0 l0 a1 a2 w hr0 hc0 hr h2
    · simp only [if_pos hr, if_neg h2]
      exact (drop_2 A0 c0 l0 a1 a2 w hr0 hc0 hr (by simpa using h2)).mono fun e w' ⟨he, hb⟩ => ⟨_, he, Kd.R_nil _ _ _ _ _, hb⟩
  · simp only [if_neg hr]
    exact (drop_1 A0 c0 l0 a1 a2 w hr0 hc0 (by simpa using hr)).mono fun e w' ⟨he, hb⟩ => ⟨_, he, Kd.R_nil _ _ _ _ _, hb⟩

def share_Clear.f (l0 : List S27) (a1 : Int) : Option (List S27 × Int) := some (clearR l0 a1)
theorem share_Clear.calls (A0 : Option Addr) (c0 : Nat) (l0 : List S27) (a1 : Int) (r1 : List S27) (r2 : Int) (w : World) (hr0 : Kd.C k27 w A0 l0.length l0) (hc0 : l0.length ≤ c0) (h : share_Clear.f l0 a1 = some (r1, r2)) :
    Calls Try.prog 23 #[.slice A0 l0.length c0, .int .u32 a1] w fun e w' => ∃ v0, e = .returned (.tuple #[v0, .int .i64 r2]) ∧ Kd.R k27 27 w' w.heap.size (fun _ => True) v0 r1 ∧ Below w.heap.size w w' := by
  have h' := Option.some.inj h
  unfold clearR at h'
  split at h' <;> rename_i hr
  · obtain ⟨rfl, rfl⟩ := Prod.mk.inj h'
    exact clear_yes A0 c0 l0 a1 w hr0 hc0 hr
  · obtain ⟨rfl, rfl⟩ := Prod.mk.inj h'
    exact (clear_no A0 c0 l0 a1 w hr0 hc0 (by simpa using hr)).mono fun e w' ⟨he, hb⟩ => ⟨_, he, Kd.R_nil _ _ _ _ _, hb⟩
end Go.Proofs.Ytecbfpdkbackmaa.P11
