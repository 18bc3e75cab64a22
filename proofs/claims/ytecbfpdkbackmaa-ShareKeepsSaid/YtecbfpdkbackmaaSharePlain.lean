/- Layer share: the plain laws of lists of opens; no memory in sight. -/
import Derived.Test.YtecbfpdkbackmaaShareGiven
import Derived.Test.YtecbfpdkbackmaaP11x3
namespace Go.Proofs.Ytecbfpdkbackmaa.Share
open Go.RowKit Go.Sort Go.Proofs.Ytecbfpdkbackmaa.P11 Go.Proofs.YtecbfpdkbackmaaW.PrintWords Go.Proofs.YtecbfpdkbackmaaW.PrintLast Go.Proofs.YtecbfpdkbackmaaW.PrintMore
set_option linter.unusedVariables false
set_option linter.unusedSimpArgs false

theorem alive_true : lamellalaw11_alive.f = some true := by decide +kernel

theorem w64 (x : Int) (h : -9223372036854775808 ≤ x ∧ x ≤ 9223372036854775807) : wrap64 x = x := by unfold wrap64; omega
theorem same_loop (l : List S27) (hl : l.length ≤ 4096) : ∀ (d k i : Nat), l.length - i ≤ d → d < k → lamellaref11_Same.l0 k l l i = some true := by
  intro d
  induction d with
  | zero =>
    intro k i hd hk
    obtain ⟨k, rfl⟩ : ∃ m, k = m + 1 := ⟨k - 1, by omega⟩
    simp only [lamellaref11_Same.l0]
    rw [if_neg (by omega)]
  | succ d ih =>
    intro k i hd hk
    obtain ⟨k, rfl⟩ : ∃ m, k = m + 1 := ⟨k - 1, by omega⟩
    simp only [lamellaref11_Same.l0]
    by_cases hlt : i < l.length
    · rw [if_pos (by omega), if_pos (by omega), if_pos (by omega), if_neg (by simp), w64 _ (by omega)]
      exact ih k (i + 1) (by omega) (by omega)
    · rw [if_neg (by omega)]
theorem same_f (l : List S27) (hl : l.length ≤ 4096) (k : Nat) (hk : 5000 ≤ k) : lamellaref11_Same.f k l l = some true := by
  unfold lamellaref11_Same.f
  rw [if_pos rfl]
  exact same_loop l hl 4096 k 0 (by omega) (by omega)

/-! ### a right list, said by its members -/
structure RightL (l : List S27) : Prop where
  len : l.length ≤ 12
  one : ∀ x ∈ l, oneB x = true
  four : ∀ x ∈ l, l.countP (fun y => y.f0 == x.f0) ≤ 4
  strict : Strict l
  apart : l.Pairwise fun x y => clashB x y = false
theorem clash_comm (x y : S27) : clashB x y = clashB y x := by
  unfold clashB
  rw [show (x.f2 == y.f2) = (y.f2 == x.f2) from by rw [Bool.eq_iff_iff, beq_iff_eq, beq_iff_eq]; exact ⟨Eq.symm, Eq.symm⟩, Bool.or_comm]
theorem rightL_of {l : List S27} (h : rightB l = true) : RightL l where
  len := right_len h
  one := fun x hx => by
    obtain ⟨i, hi, rfl⟩ := List.getElem_of_mem hx
    have := right_at h i hi
    unfold rightAt at this
    simp only [Bool.and_eq_true] at this
    rw [← rd_get l i hi]; exact this.1.1.1
  four := fun x hx => by
    obtain ⟨i, hi, rfl⟩ := List.getElem_of_mem hx
    have := right_at h i hi
    unfold rightAt at this
    simp only [Bool.and_eq_true, decide_eq_true_eq] at this
    have h2 := this.1.1.2
    rwa [rd_get l i hi] at h2
  strict := right_strict h
  apart := by
    rw [List.pairwise_iff_getElem]
    intro i j hi hj hij
    have := right_at h j hj
    unfold rightAt at this
    simp only [Bool.and_eq_true, Bool.not_eq_true', List.any_eq_false] at this
    have h2 := this.2 l[i] (by rw [List.mem_take_iff_getElem]; exact ⟨i, by omega, rfl⟩)
    rw [rd_get l j hj] at h2
    simpa using h2
theorem rightL_to {l : List S27} (h : RightL l) : rightB l = true := by
  refine Share.right_yes l h.len (fun j hj => ?_)
  unfold rightAt
  rw [rd_get l j hj, h.one _ (List.getElem_mem hj), decide_eq_true (h.four _ (List.getElem_mem hj))]
  have e1 : (decide (j = 0) || decide (cmpB (rd_T27 l ((j : Int) - 1)) l[j] < 0)) = true := by
    by_cases hj0 : j = 0
    · simp [hj0]
    · obtain ⟨i, rfl⟩ : ∃ i, j = i + 1 := ⟨j - 1, by omega⟩
      rw [show (((i + 1 : Nat) : Int) - 1) = ((i : Nat) : Int) by omega, rd_get l i (by omega)]
      have hs := h.strict
      unfold Strict at hs
      rw [List.pairwise_iff_getElem] at hs
      have := hs i (i + 1) (by omega) hj (by omega)
      unfold lt ltOf at this
      rw [this]; simp
  have e2 : (l.take j).any (fun x => clashB x l[j]) = false := by
    rw [List.any_eq_false]
    intro x hx
    rw [List.mem_take_iff_getElem] at hx
    obtain ⟨i, hi, rfl⟩ := hx
    have ha := h.apart
    rw [List.pairwise_iff_getElem] at ha
    have := ha i j (by omega) hj (by omega)
    rw [this]; simp
  rw [e1, e2]; rfl
theorem right_iff (l : List S27) : rightB l = true ↔ RightL l := ⟨rightL_of, rightL_to⟩

/-- may it be added? -/
structure MayAdd (l : List S27) (o : S27) : Prop where
  right : RightL l
  one : oneB o = true
  new : ∀ x ∈ l, keyB o.f0 o.f1 x = false
  room : l.length < 12
  few : l.countP (fun x => x.f0 == o.f0) < 4
  apart : ∀ x ∈ l, clashB x o = false
theorem found_yes {l : List S27} {c h : Int} (hn : ∀ x ∈ l, keyB c h x = false) : (found l c h).2 = false := by
  unfold found
  rw [List.find?_eq_none.2 (fun x hx => by rw [hn x hx]; simp)]
theorem count_four {l : List S27} (h : RightL l) (c : Int) : l.countP (fun x => x.f0 == c) ≤ 4 := by
  by_cases hx : ∃ x ∈ l, x.f0 = c
  · obtain ⟨x, hx, rfl⟩ := hx
    exact h.four x hx
  · have : l.countP (fun x => x.f0 == c) = 0 := by
      rw [List.countP_eq_zero]
      intro x hx' h; exact hx ⟨x, hx', by simpa using h⟩
    omega
theorem add_yes {l : List S27} {o : S27} (h : MayAdd l o) : addF l o = (insO l o, 0) := by
  unfold addF
  rw [if_pos (rightL_to h.right), if_pos h.one, if_neg (by rw [found_yes h.new]; decide), if_neg (by have := h.room; omega), if_neg (by have := h.few; omega), if_neg]
  rw [Bool.not_eq_true, List.any_eq_false]
  intro x hx; rw [h.apart x hx]; simp
theorem add_zero {l : List S27} {o : S27} (h : (addF l o).2 = 0) : MayAdd l o := by
  unfold addF at h
  split at h
  · rename_i hr
    have hR := rightL_of hr
    split at h
    · rename_i h1
      split at h
      · cases h
      · rename_i h2
        split at h
        · cases h
        · rename_i h3
          split at h
          · cases h
          · rename_i h4
            split at h
            · cases h
            · rename_i h5
              exact ⟨hR, h1, found_no (by simpa using h2), by have := hR.len; omega, by have := count_four hR o.f0; omega, fun x hx => by
                rw [Bool.not_eq_true, List.any_eq_false] at h5
                simpa using h5 x hx⟩
    · cases h
  · cases h
theorem add_fst {l : List S27} {o : S27} (h : ¬ (addF l o).2 = 0) : (addF l o).1 = [] := by
  unfold addF at *
  repeat' split at h
  all_goals first
    | (repeat' split) <;> first | rfl | (exfalso; simp_all)
theorem mem_ins {l : List S27} {o x : S27} : x ∈ insO l o ↔ x ∈ l ∨ x = o := by
  rw [(insO_perm l o).mem_iff]; simp
theorem len_ins (l : List S27) (o : S27) : (insO l o).length = l.length + 1 := by rw [(insO_perm l o).length_eq]; simp
theorem count_ins (l : List S27) (o : S27) (c : Int) : (insO l o).countP (fun x => x.f0 == c) = l.countP (fun x => x.f0 == c) + (if o.f0 = c then 1 else 0) := by
  rw [(insO_perm l o).countP_eq, List.countP_append]; simp [List.countP_cons]
theorem ins_right {l : List S27} {o : S27} (h : MayAdd l o) : RightL (insO l o) where
  len := by rw [len_ins]; have := h.room; omega
  one := fun x hx => by
    rcases mem_ins.1 hx with hx | rfl
    · exact h.right.one x hx
    · exact h.one
  four := fun x hx => by
    rw [count_ins]
    have h4 := count_four h.right x.f0
    split
    · rename_i e; have := h.few; rw [e] at this; omega
    · omega
  strict := insO_strict h.right.strict (found_yes h.new)
  apart := by
    have hp : (l ++ [o]).Pairwise fun x y => clashB x y = false := by
      rw [List.pairwise_append]
      refine ⟨h.right.apart, List.pairwise_singleton _ _, fun x hx y hy => ?_⟩
      rw [List.mem_singleton.1 hy]; exact h.apart x hx
    exact (List.Perm.pairwise_iff (fun {x y} e => by rw [clash_comm]; exact e) (insO_perm l o)).2 hp
end Go.Proofs.Ytecbfpdkbackmaa.Share
