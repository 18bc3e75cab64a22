/- Whether every lock may be, and what is asked of it, are the document's, and every new one: the call returns true whatever the input. No condition. -/
import Derived.Test.YtkcacfnefhakbaaHoldOpen
import Derived.Test.YtkcacfnefhakbaaP12x8
namespace Go.Proofs.Ytkcacfnefhakbaa.holdRights
open Go.RowKit Go.Sees Go.Proofs.Ytkcacfnefhakbaa.HoldL Go.Proofs.Ytkcacfnefhakbaa.P12 Go.Proofs.Ytkcacfnefhakbaa.Opens Go.Proofs.YtkcacfnefhakbaaW.PrintWords Go.Proofs.YtkcacfnefhakbaaW.PrintLast Go.Proofs.YtkcacfnefhakbaaW.PrintMore
set_option linter.unusedVariables false
set_option linter.unusedSimpArgs false

theorem alive_true : lamellalaw12_alive.f = some true := rfl
theorem right_long (f e u c : Int) (fc g : Bool) (l : List S40) (hl : 4 < l.length) (k : Nat) : hold_Right.f (k + 2) f e u c fc g l = some false := by
  unfold hold_Right.f
  simp only [hold_Right.j0, if_true, if_pos (show decide ((l.length : Int) > 4) = true from decide_eq_true (by omega))]
  repeat' split
  all_goals rfl
set_option maxHeartbeats 2000000 in
theorem refRight_loop (f e u c : Int) (fc g : Bool) (l : List S40) (hl : l.length ≤ 4096) (hu : u ≤ 2) : ∀ (d k i : Nat), l.length - i ≤ d → d < k → (∀ j, j < i → rowOk u l j = true) → i ≤ l.length →
    lamellaref12_Right.l0 k (l.length : Int) i f e u c fc g l = some (rowsOk u l) := by
  intro d
  induction d with
  | zero =>
    intro k i hd hk hall hi
    obtain ⟨k, rfl⟩ : ∃ m, k = m + 1 := ⟨k - 1, by omega⟩
    simp only [lamellaref12_Right.l0]
    rw [if_neg (by omega), rows_yes (fun j hj => hall j (by omega))]
  | succ d ih =>
    intro k i hd hk hall hi
    obtain ⟨k, rfl⟩ : ∃ m, k = m + 1 := ⟨k - 1, by omega⟩
    by_cases hlt : i < l.length
    · have e1 : wrap64 ((i : Int) - 1) = (i : Int) - 1 := w64 _ (by omega)
      have e2 : wrap64 ((i : Int) + 1) = ((i + 1 : Nat) : Int) := by rw [w64 _ (by omega)]; omega
      simp only [lamellaref12_Right.l0]
      rw [if_pos (by omega), if_pos (by omega), if_pos (by omega), e1, e2]
      have next := fun (h : rowOk u l i = true) => ih k (i + 1) (by omega) (by omega) (fun j hj => by
        by_cases hji : j = i
        · subst hji; exact h
        · exact hall j (by omega)) (by omega)
      cases hro : rowOk u l i with
      | true =>
        rw [next hro]
        unfold rowOk at hro
        simp only [Bool.and_eq_true, Bool.or_eq_true, Bool.not_eq_true', decide_eq_true_eq, decide_eq_false_iff_not] at hro
        obtain ⟨h1, h2, h3, h4⟩ := hro
        repeat' split
        all_goals first | rfl | (exfalso; omega)
      | false =>
        rw [rows_no hlt hro]
        unfold rowOk at hro
        simp only [Bool.and_eq_false_iff, Bool.or_eq_false_iff, Bool.not_eq_false', decide_eq_true_eq, decide_eq_false_iff_not] at hro
        repeat' split
        all_goals first | rfl | (exfalso; omega)
    · exact ih (k + 1) i (by omega) (by omega) hall hi
theorem refRight_f (f e u c : Int) (fc g : Bool) (l : List S40) (hl : l.length ≤ 4096) (k : Nat) (hk : 4200 ≤ k) : lamellaref12_Right.f k f e u c fc g l = some (rightB u c fc g l) := by
  obtain ⟨k, rfl⟩ : ∃ m, k = m + 2 := ⟨k - 2, by omega⟩
  unfold lamellaref12_Right.f rightB
  simp only [lamellaref12_Right.j0]
  by_cases h1 : u > 2
  · rw [if_pos h1, decide_eq_false (show ¬ u ≤ 2 by omega)]; simp
  have lp := refRight_loop f e u c fc g l hl (by omega) 4096 (k + 1) 0 (by omega) (by omega) (fun j hj => absurd hj (Nat.not_lt_zero _)) (Nat.zero_le _)
  rw [show ((0 : Nat) : Int) = 0 by rfl] at lp
  rw [if_neg h1, decide_eq_true (show u ≤ 2 by omega)]
  by_cases h2 : c > 1024
  · rw [if_pos h2, decide_eq_false (show ¬ c ≤ 1024 by omega)]; simp
  rw [if_neg h2, decide_eq_true (show c ≤ 1024 by omega)]
  by_cases h3 : (l.length : Int) > 4
  · rw [if_pos h3, decide_eq_false (show ¬ l.length ≤ 4 by omega)]; simp
  rw [if_neg h3, decide_eq_true (show l.length ≤ 4 by omega)]
  simp only [Bool.true_and]
  by_cases h4 : (l.length : Int) > 0
  · rw [if_pos h4, decide_eq_false (show ¬ l.length = 0 by omega)]
    cases fc <;> cases g <;> simp [lp]
  · rw [if_neg h4, decide_eq_true (show l.length = 0 by omega)]
    simp [lp]
theorem refMode_loop (f e u c : Int) (fc g : Bool) (l : List S40) (cl : Int) (hl : l.length ≤ 4096) : ∀ (d k i : Nat), l.length - i ≤ d → d < k → i ≤ l.length → (∀ x ∈ l.take i, (x.f0 == cl) = false) →
    lamellaref12_Mode.l0 k cl i f e u c fc g l = some (modeF l cl) := by
  intro d
  induction d with
  | zero =>
    intro k i hd hk hi hall
    obtain ⟨k, rfl⟩ : ∃ m, k = m + 1 := ⟨k - 1, by omega⟩
    simp only [lamellaref12_Mode.l0]
    rw [if_neg (by omega)]
    unfold modeF
    rw [List.find?_eq_none.2 (fun x hx => by rw [hall x (by rw [List.take_of_length_le (by omega)]; exact hx)]; simp)]
  | succ d ih =>
    intro k i hd hk hi hall
    by_cases hlt : i < l.length
    · obtain ⟨k, rfl⟩ : ∃ m, k = m + 1 := ⟨k - 1, by omega⟩
      simp only [lamellaref12_Mode.l0]
      rw [if_pos (by omega), if_pos (by omega), rd_get l i hlt, show wrap64 ((i : Int) + 1) = ((i + 1 : Nat) : Int) by rw [w64 _ (by omega)]; omega]
      by_cases h : l[i].f0 = cl
      · rw [if_pos h]
        unfold modeF
        have : l.find? (fun h => h.f0 == cl) = some l[i] := by
          rw [List.find?_eq_some_iff_getElem]
          refine ⟨by simpa using h, i, hlt, rfl, fun j hj => ?_⟩
          rw [hall _ (by rw [List.mem_take_iff_getElem]; exact ⟨j, by omega, rfl⟩)]; rfl
        rw [this]
      · rw [if_neg h]
        refine ih k (i + 1) (by omega) (by omega) (by omega) (fun x hx => ?_)
        rw [List.take_succ_eq_append_getElem hlt, List.mem_append] at hx
        rcases hx with hx | hx
        · exact hall x hx
        · rw [List.mem_singleton.1 hx]; simpa using h
    · exact ih k i (by omega) (by omega) hi hall
theorem refOthers_loop (f e u c : Int) (fc g : Bool) (l : List S40) (cl m : Int) (hl : l.length ≤ 4096) : ∀ (d k i : Nat), l.length - i ≤ d → d < k → i ≤ l.length →
    lamellaref12_Others.l0 k cl m (othersF (l.take i) cl m) i f e u c fc g l = some (othersF l cl m) := by
  intro d
  induction d with
  | zero =>
    intro k i hd hk hi
    obtain ⟨k, rfl⟩ : ∃ m, k = m + 1 := ⟨k - 1, by omega⟩
    simp only [lamellaref12_Others.l0]
    rw [if_neg (by omega), List.take_of_length_le (by omega)]
  | succ d ih =>
    intro k i hd hk hi
    by_cases hlt : i < l.length
    · obtain ⟨k, rfl⟩ : ∃ m, k = m + 1 := ⟨k - 1, by omega⟩
      have next := ih k (i + 1) (by omega) (by omega) (by omega)
      have hlen : (othersF (l.take i) cl m).length < 35184372088832 := by
        unfold othersF; rw [List.length_map]; exact Nat.lt_of_le_of_lt (List.length_filter_le _ _) (by simp; omega)
      simp only [lamellaref12_Others.l0]
      rw [if_pos (by omega), if_pos (by omega), rd_get l i hlt, show wrap64 ((i : Int) + 1) = ((i + 1 : Nat) : Int) by rw [w64 _ (by omega)]; omega]
      have e : othersF (l.take (i + 1)) cl m = othersF (l.take i) cl m ++ (if othP cl m l[i] = true then [l[i].f0] else []) := by
        unfold othersF
        rw [List.take_succ_eq_append_getElem hlt, List.filter_append, List.map_append, List.filter_cons]
        split <;> simp
      rw [e] at next
      unfold othP at next
      by_cases h1 : l[i].f0 = cl
      · rw [if_pos h1]; simpa [h1] using next
      · rw [if_neg h1]
        by_cases h2 : m = 1
        · rw [if_pos h2]
          by_cases h3 : l[i].f1 = 2
          · rw [if_pos h3, if_pos hlen]; simpa [h1, h2, h3] using next
          · rw [if_neg h3]; simpa [h1, h2, h3] using next
        · rw [if_neg h2, if_pos hlen]; simpa [h1, h2] using next
    · exact ih k i (by omega) (by omega) hi
theorem same_ints (os : List Int) (hl : os.length ≤ 4096) : ∀ (d k i : Nat), os.length - i ≤ d → d < k → lamellalaw12_HoldRights.l0 k os os i = some true := by
  intro d
  induction d with
  | zero =>
    intro k i hd hk
    obtain ⟨k, rfl⟩ : ∃ m, k = m + 1 := ⟨k - 1, by omega⟩
    simp only [lamellalaw12_HoldRights.l0]
    rw [if_neg (by omega)]
  | succ d ih =>
    intro k i hd hk
    obtain ⟨k, rfl⟩ : ∃ m, k = m + 1 := ⟨k - 1, by omega⟩
    simp only [lamellalaw12_HoldRights.l0]
    by_cases hlt : i < os.length
    · rw [if_pos (by omega), if_pos (by omega), if_pos (by omega), if_pos trivial, show wrap64 ((i : Int) + 1) = ((i + 1 : Nat) : Int) by rw [w64 _ (by omega)]; omega]
      exact ih k (i + 1) (by omega) (by omega)
    · rw [if_neg (by omega)]
theorem pure_true (f e u c : Int) (fc g : Bool) (l : List S40) (cl m : Int) : lamellalaw12_HoldRights.f 5000 f e u c fc g l cl m = some true := by
  unfold lamellalaw12_HoldRights.f
  rw [alive_true]
  simp only [Option.bind_some, if_true]
  by_cases h : (l.length : Int) > 100
  · rw [if_pos h, right_long f e u c fc g l (by omega) 4998]; rfl
  have hl : l.length ≤ 4096 := by omega
  rw [if_neg h, refRight_f f e u c fc g l hl 5000 (by omega), right_f f e u c fc g l hl 5000 (by omega)]
  simp only [Option.bind_some, bne_self_eq_false, Bool.false_eq_true, if_false]
  have hs : lamellaref12_Same.f 5000 cl 1 0 0 false false [] cl 1 0 0 false false [] = some true := by
    unfold lamellaref12_Same.f
    simp [lamellaref12_Same.j0, lamellaref12_Same.l0]
  unfold hold_Fresh.f
  simp only [Option.bind_some, hs, Bool.not_true]
  simp only [lamellalaw12_HoldRights.j0, Bool.false_eq_true, if_false]
  rw [others_f f e u c fc g l cl m hl 4999 (by omega), mode_f f e u c fc g l cl hl 4999 (by omega)]
  simp only [Option.bind_some]
  by_cases hr : rightB u c fc g l = true
  · simp only [if_pos hr]
    have ho : lamellaref12_Others.f 4999 f e u c fc g l cl m = some (othersF l cl m) := by
      unfold lamellaref12_Others.f
      exact refOthers_loop f e u c fc g l cl m hl 4096 4999 0 (by omega) (by omega) (Nat.zero_le _)
    have hm : lamellaref12_Mode.f 4999 f e u c fc g l cl = some (modeF l cl) := by
      unfold lamellaref12_Mode.f
      exact refMode_loop f e u c fc g l cl hl 4096 4999 0 (by omega) (by omega) (Nat.zero_le _) (fun x hx => by simp at hx)
    rw [ho, hm]
    simp only [Option.bind_some, if_true, bne_self_eq_false]
    simp only [lamellalaw12_HoldRights.j1, Bool.false_eq_true, if_false]
    have hlo : (othersF l cl m).length ≤ 4096 := by
      unfold othersF; rw [List.length_map]; exact Nat.le_trans (List.length_filter_le _ _) hl
    exact same_ints _ hlo 4096 4998 0 (by omega) (by omega)
  · simp only [if_neg hr]
    simp
theorem holdRights_walk (a0 : Array Value) (a1 : Int) (a2 : Int) (w : World) (w0 : Sees Try.prog w 140737488351232 5 25 a0.toList) (w1 : (Lit.int .u32 a1).wf = true) (w2 : (Lit.int .u32 a2).wf = true) :
    Calls Try.prog 3 #[.agg a0, .int .u32 a1, .int .u32 a2] w fun e w' => e = .returned (.bool true) ∧ Below w.heap.size w w' := by
  obtain ⟨f, e, u, c, fc, g, A, cp, l, rfl, hc, hC, -, -, -⟩ := sees_lock w0
  exact lamellalaw12_HoldRights.calls 5000 f e u c fc g A cp l a1 a2 true w hC hc (pure_true f e u c fc g l a1 a2)
end Go.Proofs.Ytkcacfnefhakbaa.holdRights
