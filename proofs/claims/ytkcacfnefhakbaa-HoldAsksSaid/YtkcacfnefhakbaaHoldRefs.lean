/- Layer hold: the document's own questions about a lock, as plain laws. -/
import Derived.Test.YtkcacfnefhakbaaHoldPlain
import Derived.Test.YtkcacfnefhakbaaP12x5
import Derived.Test.YtkcacfnefhakbaaP12x7
import Derived.Test.YtkcacfnefhakbaaP12x11
namespace Go.Proofs.Ytkcacfnefhakbaa.HoldL
open Go.RowKit Go.Proofs.Ytkcacfnefhakbaa.P12 Go.Proofs.YtkcacfnefhakbaaW.PrintWords Go.Proofs.YtkcacfnefhakbaaW.PrintLast Go.Proofs.YtkcacfnefhakbaaW.PrintMore
set_option linter.unusedVariables false
set_option linter.unusedSimpArgs false

set_option maxHeartbeats 2000000 in
theorem refRight_loop (f e u c : Int) (fc g : Bool) (l : List S40) (hl : l.length ≤ 4096) (hu : u ≤ 2) : ∀ (d k i : Nat), l.length - i ≤ d → d < k → (∀ j, j < i → rowOk u l j = true) → i ≤ l.length →
    lamellaref12_Right.l0 k (l.length : Int) i f e u c fc g l = some (rowsOk u l) := by
  intro d
  induction d with
  | zero =>
    intro k i hd hk hall hi
    obtain ⟨k, rfl⟩ : ∃ m, k = m + 1 := ⟨k - 1, by omega⟩
    simp only [lamellaref12_Right.l0]
    rw [if_neg (by omega), rows_yes (fun j hj => hall j (by omega))]
  | succ d ih =>
    intro k i hd hk hall hi
    obtain ⟨k, rfl⟩ : ∃ m, k = m + 1 := ⟨k - 1, by omega⟩
    by_cases hlt : i < l.length
    · have e1 : wrap64 ((i : Int) - 1) = (i : Int) - 1 := w64 _ (by omega)
      have e2 : wrap64 ((i : Int) + 1) = ((i + 1 : Nat) : Int) := by rw [w64 _ (by omega)]; omega
      simp only [lamellaref12_Right.l0]
      rw [if_pos (by omega), if_pos (by omega), if_pos (by omega), e1, e2]
      have next := fun (h : rowOk u l i = true) => ih k (i + 1) (by omega) (by omega) (fun j hj => by
        by_cases hji : j = i
        · subst hji; exact h
        · exact hall j (by omega)) (by omega)
      cases hro : rowOk u l i with
      | true =>
        rw [next hro]
        unfold rowOk at hro
        simp only [Bool.and_eq_true, Bool.or_eq_true, Bool.not_eq_true', decide_eq_true_eq, decide_eq_false_iff_not] at hro
        obtain ⟨h1, h2, h3, h4⟩ := hro
        repeat' split
        all_goals first | rfl | (exfalso; omega)
      | false =>
        rw [rows_no hlt hro]
        unfold rowOk at hro
        simp only [Bool.and_eq_false_iff, Bool.or_eq_false_iff, Bool.not_eq_false', decide_eq_true_eq, decide_eq_false_iff_not] at hro
        repeat' split
        all_goals first | rfl | (exfalso; omega)
    · exact ih (k + 1) i (by omega) (by omega) hall hi
theorem refRight_f (f e u c : Int) (fc g : Bool) (l : List S40) (hl : l.length ≤ 4096) (k : Nat) (hk : 4200 ≤ k) : lamellaref12_Right.f k f e u c fc g l = some (rightB u c fc g l) := by
  obtain ⟨k, rfl⟩ : ∃ m, k = m + 2 := ⟨k - 2, by omega⟩
  unfold lamellaref12_Right.f rightB
  simp only [lamellaref12_Right.j0]
  by_cases h1 : u > 2
  · rw [if_pos h1, decide_eq_false (show ¬ u ≤ 2 by omega)]; simp
  have lp := refRight_loop f e u c fc g l hl (by omega) 4096 (k + 1) 0 (by omega) (by omega) (fun j hj => absurd hj (Nat.not_lt_zero _)) (Nat.zero_le _)
  rw [show ((0 : Nat) : Int) = 0 by rfl] at lp
  rw [if_neg h1, decide_eq_true (show u ≤ 2 by omega)]
  by_cases h2 : c > 1024
  · rw [if_pos h2, decide_eq_false (show ¬ c ≤ 1024 by omega)]; simp
  rw [if_neg h2, decide_eq_true (show c ≤ 1024 by omega)]
  by_cases h3 : (l.length : Int) > 4
  · rw [if_pos h3, decide_eq_false (show ¬ l.length ≤ 4 by omega)]; simp
  rw [if_neg h3, decide_eq_true (show l.length ≤ 4 by omega)]
  simp only [Bool.true_and]
  by_cases h4 : (l.length : Int) > 0
  · rw [if_pos h4, decide_eq_false (show ¬ l.length = 0 by omega)]
    cases fc <;> cases g <;> simp [lp]
  · rw [if_neg h4, decide_eq_true (show l.length = 0 by omega)]
    simp [lp]
theorem refMode_loop (f e u c : Int) (fc g : Bool) (l : List S40) (cl : Int) (hl : l.length ≤ 4096) : ∀ (d k i : Nat), l.length - i ≤ d → d < k → i ≤ l.length → (∀ x ∈ l.take i, (x.f0 == cl) = false) →
    lamellaref12_Mode.l0 k cl i f e u c fc g l = some (modeF l cl) := by
  intro d
  induction d with
  | zero =>
    intro k i hd hk hi hall
    obtain ⟨k, rfl⟩ : ∃ m, k = m + 1 := ⟨k - 1, by omega⟩
    simp only [lamellaref12_Mode.l0]
    rw [if_neg (by omega)]
    unfold modeF
    rw [List.find?_eq_none.2 (fun x hx => by rw [hall x (by rw [List.take_of_length_le (by omega)]; exact hx)]; simp)]
  | succ d ih =>
    intro k i hd hk hi hall
    by_cases hlt : i < l.length
    · obtain ⟨k, rfl⟩ : ∃ m, k = m + 1 := ⟨k - 1, by omega⟩
      simp only [lamellaref12_Mode.l0]
      rw [if_pos (by omega), if_pos (by omega), rd_get l i hlt, show wrap64 ((i : Int) + 1) = ((i + 1 : Nat) : Int) by rw [w64 _ (by omega)]; omega]
      by_cases h : l[i].f0 = cl
      · rw [if_pos h]
        unfold modeF
        have : l.find? (fun h => h.f0 == cl) = some l[i] := by
          rw [List.find?_eq_some_iff_getElem]
          refine ⟨by simpa using h, i, hlt, rfl, fun j hj => ?_⟩
          rw [hall _ (by rw [List.mem_take_iff_getElem]; exact ⟨j, by omega, rfl⟩)]; rfl
        rw [this]
      · rw [if_neg h]
        refine ih k (i + 1) (by omega) (by omega) (by omega) (fun x hx => ?_)
        rw [List.take_succ_eq_append_getElem hlt, List.mem_append] at hx
        rcases hx with hx | hx
        · exact hall x hx
        · rw [List.mem_singleton.1 hx]; simpa using h
    · exact ih k i (by omega) (by omega) hi hall
theorem refOthers_loop (f e u c : Int) (fc g : Bool) (l : List S40) (cl m : Int) (hl : l.length ≤ 4096) : ∀ (d k i : Nat), l.length - i ≤ d → d < k → i ≤ l.length →
    lamellaref12_Others.l0 k cl m (othersF (l.take i) cl m) i f e u c fc g l = some (othersF l cl m) := by
  intro d
  induction d with
  | zero =>
    intro k i hd hk hi
    obtain ⟨k, rfl⟩ : ∃ m, k = m + 1 := ⟨k - 1, by omega⟩
    simp only [lamellaref12_Others.l0]
    rw [if_neg (by omega), List.take_of_length_le (by omega)]
  | succ d ih =>
    intro k i hd hk hi
    by_cases hlt : i < l.length
    · obtain ⟨k, rfl⟩ : ∃ m, k = m + 1 := ⟨k - 1, by omega⟩
      have next := ih k (i + 1) (by omega) (by omega) (by omega)
      have hlen : (othersF (l.take i) cl m).length < 35184372088832 := by
        unfold othersF; rw [List.length_map]; exact Nat.lt_of_le_of_lt (List.length_filter_le _ _) (by simp; omega)
      simp only [lamellaref12_Others.l0]
      rw [if_pos (by omega), if_pos (by omega), rd_get l i hlt, show wrap64 ((i : Int) + 1) = ((i + 1 : Nat) : Int) by rw [w64 _ (by omega)]; omega]
      have e : othersF (l.take (i + 1)) cl m = othersF (l.take i) cl m ++ (if othP cl m l[i] = true then [l[i].f0] else []) := by
        unfold othersF
        rw [List.take_succ_eq_append_getElem hlt, List.filter_append, List.map_append, List.filter_cons]
        split <;> simp
      rw [e] at next
      unfold othP at next
      by_cases h1 : l[i].f0 = cl
      · rw [if_pos h1]; simpa [h1] using next
      · rw [if_neg h1]
        by_cases h2 : m = 1
        · rw [if_pos h2]
          by_cases h3 : l[i].f1 = 2
          · rw [if_pos h3, if_pos hlen]; simpa [h1, h2, h3] using next
          · rw [if_neg h3]; simpa [h1, h2, h3] using next
        · rw [if_neg h2, if_pos hlen]; simpa [h1, h2] using next
    · exact ih k i (by omega) (by omega) hi
theorem refOthers_f (f e u c : Int) (fc g : Bool) (l : List S40) (cl m : Int) (hl : l.length ≤ 4096) (k : Nat) (hk : 4200 ≤ k) : lamellaref12_Others.f k f e u c fc g l cl m = some (othersF l cl m) := by
  unfold lamellaref12_Others.f
  exact refOthers_loop f e u c fc g l cl m hl 4096 k 0 (by omega) (by omega) (Nat.zero_le _)
theorem refMode_f (f e u c : Int) (fc g : Bool) (l : List S40) (cl : Int) (hl : l.length ≤ 4096) (k : Nat) (hk : 4200 ≤ k) : lamellaref12_Mode.f k f e u c fc g l cl = some (modeF l cl) := by
  unfold lamellaref12_Mode.f
  exact refMode_loop f e u c fc g l cl hl 4096 k 0 (by omega) (by omega) (Nat.zero_le _) (fun x hx => by simp at hx)
theorem refWithout_loop (f e u c : Int) (fc g : Bool) (l : List S40) (cl : Int) (hl : l.length ≤ 4096) : ∀ (d k i : Nat), l.length - i ≤ d → d < k → i ≤ l.length →
    lamellaref12_Without.l0 k cl (withoutF (l.take i) cl) i f e u c fc g l = some (f, e, u, c, fc, g, withoutF l cl) := by
  intro d
  induction d with
  | zero =>
    intro k i hd hk hi
    obtain ⟨k, rfl⟩ : ∃ m, k = m + 1 := ⟨k - 1, by omega⟩
    simp only [lamellaref12_Without.l0]
    rw [if_neg (by omega), List.take_of_length_le (by omega)]
  | succ d ih =>
    intro k i hd hk hi
    by_cases hlt : i < l.length
    · obtain ⟨k, rfl⟩ : ∃ m, k = m + 1 := ⟨k - 1, by omega⟩
      have next := ih k (i + 1) (by omega) (by omega) (by omega)
      have hlen : (withoutF (l.take i) cl).length < 4096 := by
        unfold withoutF; exact Nat.lt_of_le_of_lt (List.length_filter_le _ _) (by simp; omega)
      simp only [lamellaref12_Without.l0]
      rw [if_pos (by omega), if_pos (by omega), rd_get l i hlt, show wrap64 ((i : Int) + 1) = ((i + 1 : Nat) : Int) by rw [w64 _ (by omega)]; omega]
      have e : withoutF (l.take (i + 1)) cl = withoutF (l.take i) cl ++ (if (!(l[i].f0 == cl)) = true then [l[i]] else []) := by
        unfold withoutF
        rw [List.take_succ_eq_append_getElem hlt, List.filter_append, List.filter_cons]
        split <;> simp
      rw [e] at next
      by_cases h1 : l[i].f0 = cl
      · rw [if_pos h1]; simpa [h1] using next
      · rw [if_neg h1, if_pos (by omega)]; simpa [h1] using next
    · exact ih k i (by omega) (by omega) hi
theorem refWithout_f (f e u c : Int) (fc g : Bool) (l : List S40) (cl : Int) (hl : l.length ≤ 4096) (k : Nat) (hk : 4200 ≤ k) : lamellaref12_Without.f k f e u c fc g l cl = some (f, e, u, c, fc, g, withoutF l cl) := by
  unfold lamellaref12_Without.f
  exact refWithout_loop f e u c fc g l cl hl 4096 k 0 (by omega) (by omega) (Nat.zero_le _)
end Go.Proofs.Ytkcacfnefhakbaa.HoldL
