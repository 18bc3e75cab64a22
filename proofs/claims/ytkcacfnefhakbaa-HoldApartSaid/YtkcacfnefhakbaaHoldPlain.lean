/- Layer hold: the plain laws of locks: what may be, how a client holds, who else does; no memory in sight. -/
import Derived.Test.YtkcacfnefhakbaaP12x3
import Derived.Test.YtkcacfnefhakbaaHoldWithout
namespace Go.Proofs.Ytkcacfnefhakbaa.HoldL
open Go.RowKit Go.Proofs.Ytkcacfnefhakbaa.P12 Go.Proofs.YtkcacfnefhakbaaW.PrintWords Go.Proofs.YtkcacfnefhakbaaW.PrintLast Go.Proofs.YtkcacfnefhakbaaW.PrintMore
set_option linter.unusedVariables false
set_option linter.unusedSimpArgs false

theorem w64 (x : Int) (h : -9223372036854775808 ≤ x ∧ x ≤ 9223372036854775807) : wrap64 x = x := by unfold wrap64; omega
theorem rd_get (l : List S40) (i : Nat) (h : i < l.length) : rd_T40 l i = l[i] := by unfold rd_T40; simp [List.getD, h]
def rowOk (u : Int) (l : List S40) (i : Nat) : Bool := decide (1 ≤ (rd_T40 l i).f1) && (decide ((rd_T40 l i).f1 ≤ u) && ((!decide ((rd_T40 l i).f1 = 2) || decide (l.length ≤ 1)) && (decide (i = 0) || decide ((rd_T40 l ((i : Int) - 1)).f0 < (rd_T40 l i).f0))))
def rowsOk (u : Int) (l : List S40) : Bool := (List.range l.length).all (rowOk u l)
/-- may a lock be? -/
def rightB (u c : Int) (fc g : Bool) (l : List S40) : Bool := decide (u ≤ 2) && (decide (c ≤ 1024) && (decide (l.length ≤ 4) && ((decide (l.length = 0) || (fc && !g)) && rowsOk u l)))
def modeF (l : List S40) (cl : Int) : Int := match l.find? (fun h => h.f0 == cl) with | some h => h.f1 | none => 0
def othP (cl m : Int) (h : S40) : Bool := !(h.f0 == cl) && (!(m == 1) || h.f1 == 2)
def othersF (l : List S40) (cl m : Int) : List Int := (l.filter (othP cl m)).map (·.f0)

theorem rows_no {u : Int} {l : List S40} {i : Nat} (hi : i < l.length) (h : rowOk u l i = false) : rowsOk u l = false := by
  unfold rowsOk; rw [List.all_eq_false]; exact ⟨i, by simpa using hi, by rw [h]; simp⟩
theorem rows_yes {u : Int} {l : List S40} (h : ∀ i, i < l.length → rowOk u l i = true) : rowsOk u l = true := by
  unfold rowsOk; rw [List.all_eq_true]; exact fun i hi => h i (by simpa using hi)
theorem rows_at {u : Int} {l : List S40} (h : rowsOk u l = true) (i : Nat) (hi : i < l.length) : rowOk u l i = true := by
  unfold rowsOk at h; rw [List.all_eq_true] at h; exact h i (by simpa using hi)
theorem right_loop (f e u c : Int) (fc g : Bool) (l : List S40) (hl : l.length ≤ 4096) : ∀ (d k i : Nat), l.length - i ≤ d → d < k → (∀ j, j < i → rowOk u l j = true) → i ≤ l.length →
    hold_Right.l0 k l (l.length : Int) i f e u c fc g l = some (rowsOk u l) := by
  intro d
  induction d with
  | zero =>
    intro k i hd hk hall hi
    obtain ⟨k, rfl⟩ : ∃ m, k = m + 1 := ⟨k - 1, by omega⟩
    simp only [hold_Right.l0]
    rw [if_neg (by omega), rows_yes (fun j hj => hall j (by omega))]
  | succ d ih =>
    intro k i hd hk hall hi
    obtain ⟨k, rfl⟩ : ∃ m, k = m + 1 := ⟨k - 1, by omega⟩
    by_cases hlt : i < l.length
    · have e1 : wrap64 ((i : Int) - 1) = (i : Int) - 1 := w64 _ (by omega)
      have e2 : wrap64 ((i : Int) + 1) = ((i + 1 : Nat) : Int) := by rw [w64 _ (by omega)]; omega
      simp only [hold_Right.l0]
      rw [if_pos (by omega), if_pos (by omega), if_pos (by omega), e1, e2]
      have next := fun (h : rowOk u l i = true) => ih k (i + 1) (by omega) (by omega) (fun j hj => by
        by_cases hji : j = i
        · subst hji; exact h
        · exact hall j (by omega)) (by omega)
      cases hro : rowOk u l i with
      | true =>
        rw [next hro]
        unfold rowOk at hro
        simp only [Bool.and_eq_true, Bool.or_eq_true, Bool.not_eq_true', decide_eq_true_eq, decide_eq_false_iff_not] at hro
        obtain ⟨h1, h2, h3, h4⟩ := hro
        repeat' split
        all_goals first | rfl | (exfalso; omega)
      | false =>
        rw [rows_no hlt hro]
        unfold rowOk at hro
        simp only [Bool.and_eq_false_iff, Bool.or_eq_false_iff, Bool.not_eq_false', decide_eq_true_eq, decide_eq_false_iff_not] at hro
        repeat' split
        all_goals first | rfl | (exfalso; omega)
    · exact ih (k + 1) i (by omega) (by omega) hall hi
theorem right_f (f e u c : Int) (fc g : Bool) (l : List S40) (hl : l.length ≤ 4096) (k : Nat) (hk : 4200 ≤ k) : hold_Right.f k f e u c fc g l = some (rightB u c fc g l) := by
  obtain ⟨k, rfl⟩ : ∃ m, k = m + 2 := ⟨k - 2, by omega⟩
  have lp := right_loop f e u c fc g l hl 4096 k 0 (by omega) (by omega) (fun j hj => absurd hj (Nat.not_lt_zero _)) (Nat.zero_le _)
  rw [show ((0 : Nat) : Int) = 0 by rfl] at lp
  unfold hold_Right.f rightB
  simp only [hold_Right.j0, hold_Right.j1]
  by_cases h1 : u > 2
  · rw [if_pos h1, decide_eq_false (show ¬ u ≤ 2 by omega)]; simp
  rw [if_neg h1, decide_eq_true (show u ≤ 2 by omega)]
  by_cases h2 : c > 1024
  · rw [if_pos h2, decide_eq_false (show ¬ c ≤ 1024 by omega)]; simp
  rw [if_neg h2, decide_eq_true (show c ≤ 1024 by omega)]
  by_cases h3 : (l.length : Int) > 4
  · rw [if_pos (decide_eq_true h3), decide_eq_false (show ¬ l.length ≤ 4 by omega)]; rfl
  rw [if_neg (by rw [decide_eq_true_eq]; exact h3), decide_eq_true (show l.length ≤ 4 by omega)]
  simp only [Bool.true_and]
  by_cases h4 : (l.length : Int) > 0
  · rw [if_pos h4, decide_eq_false (show ¬ l.length = 0 by omega)]
    cases fc <;> cases g <;> simp [lp]
  · rw [if_neg h4, decide_eq_true (show l.length = 0 by omega)]
    simp [lp]
theorem mode_loop (l : List S40) (cl : Int) (hl : l.length ≤ 4096) : ∀ (d k i : Nat), l.length - i ≤ d → d < k → i ≤ l.length → (∀ x ∈ l.take i, (x.f0 == cl) = false) →
    hold_Mode.l0 k cl l (l.length : Int) i = some (modeF l cl) := by
  intro d
  induction d with
  | zero =>
    intro k i hd hk hi hall
    obtain ⟨k, rfl⟩ : ∃ m, k = m + 1 := ⟨k - 1, by omega⟩
    simp only [hold_Mode.l0]
    rw [if_neg (by omega)]
    unfold modeF
    rw [List.find?_eq_none.2 (fun x hx => by rw [hall x (by rw [List.take_of_length_le (by omega)]; exact hx)]; simp)]
  | succ d ih =>
    intro k i hd hk hi hall
    by_cases hlt : i < l.length
    · obtain ⟨k, rfl⟩ : ∃ m, k = m + 1 := ⟨k - 1, by omega⟩
      simp only [hold_Mode.l0]
      rw [if_pos (by omega), if_pos (by omega), if_pos (by omega), rd_get l i hlt, show wrap64 ((i : Int) + 1) = ((i + 1 : Nat) : Int) by rw [w64 _ (by omega)]; omega]
      by_cases h : l[i].f0 = cl
      · rw [if_pos h]
        unfold modeF
        have : l.find? (fun h => h.f0 == cl) = some l[i] := by
          rw [List.find?_eq_some_iff_getElem]
          refine ⟨by simpa using h, i, hlt, rfl, fun j hj => ?_⟩
          rw [hall _ (by rw [List.mem_take_iff_getElem]; exact ⟨j, by omega, rfl⟩)]; rfl
        rw [this]
      · rw [if_neg h]
        refine ih k (i + 1) (by omega) (by omega) (by omega) (fun x hx => ?_)
        rw [List.take_succ_eq_append_getElem hlt, List.mem_append] at hx
        rcases hx with hx | hx
        · exact hall x hx
        · rw [List.mem_singleton.1 hx]; simpa using h
    · exact ih k i (by omega) (by omega) hi hall
theorem mode_f (f e u c : Int) (fc g : Bool) (l : List S40) (cl : Int) (hl : l.length ≤ 4096) (k : Nat) (hk : 4200 ≤ k) : hold_Mode.f k f e u c fc g l cl = some (if rightB u c fc g l = true then modeF l cl else 0) := by
  unfold hold_Mode.f
  rw [right_f f e u c fc g l hl k hk]
  simp only [Option.bind_some]
  split
  · exact mode_loop l cl hl 4096 k 0 (by omega) (by omega) (Nat.zero_le _) (fun x hx => by simp at hx)
  · rfl
theorem others_loop (l : List S40) (cl m : Int) (hl : l.length ≤ 4096) : ∀ (d k i : Nat), l.length - i ≤ d → d < k → i ≤ l.length →
    hold_Others.l0 k cl m (othersF (l.take i) cl m) l (l.length : Int) i = some (othersF l cl m) := by
  intro d
  induction d with
  | zero =>
    intro k i hd hk hi
    obtain ⟨k, rfl⟩ : ∃ m, k = m + 1 := ⟨k - 1, by omega⟩
    simp only [hold_Others.l0]
    rw [if_neg (by omega), List.take_of_length_le (by omega)]
  | succ d ih =>
    intro k i hd hk hi
    by_cases hlt : i < l.length
    · obtain ⟨k, rfl⟩ : ∃ m, k = m + 1 := ⟨k - 1, by omega⟩
      have next := ih k (i + 1) (by omega) (by omega) (by omega)
      have hlen : (othersF (l.take i) cl m).length < 35184372088832 := by
        unfold othersF; rw [List.length_map]; exact Nat.lt_of_le_of_lt (List.length_filter_le _ _) (by simp; omega)
      simp only [hold_Others.l0]
      rw [if_pos (by omega), if_pos (by omega), if_pos (by omega), rd_get l i hlt, show wrap64 ((i : Int) + 1) = ((i + 1 : Nat) : Int) by rw [w64 _ (by omega)]; omega]
      have e : othersF (l.take (i + 1)) cl m = othersF (l.take i) cl m ++ (if othP cl m l[i] = true then [l[i].f0] else []) := by
        unfold othersF
        rw [List.take_succ_eq_append_getElem hlt, List.filter_append, List.map_append, List.filter_cons]
        split <;> simp
      rw [e] at next
      unfold othP at next
      by_cases h1 : l[i].f0 = cl
      · rw [if_pos h1]; simpa [h1] using next
      · rw [if_neg h1]
        by_cases h2 : m = 1
        · rw [if_pos h2]
          by_cases h3 : l[i].f1 = 2
          · rw [if_pos h3, if_pos hlen]; simpa [h1, h2, h3] using next
          · rw [if_neg h3]; simpa [h1, h2, h3] using next
        · rw [if_neg h2, if_pos hlen]; simpa [h1, h2] using next
    · exact ih k i (by omega) (by omega) hi
theorem others_f (f e u c : Int) (fc g : Bool) (l : List S40) (cl m : Int) (hl : l.length ≤ 4096) (k : Nat) (hk : 4200 ≤ k) : hold_Others.f k f e u c fc g l cl m = some (if rightB u c fc g l = true then othersF l cl m else []) := by
  unfold hold_Others.f
  rw [right_f f e u c fc g l hl k hk]
  simp only [Option.bind_some]
  split
  · exact others_loop l cl m hl 4096 k 0 (by omega) (by omega) (Nat.zero_le _)
  · rfl
end Go.Proofs.Ytkcacfnefhakbaa.HoldL
