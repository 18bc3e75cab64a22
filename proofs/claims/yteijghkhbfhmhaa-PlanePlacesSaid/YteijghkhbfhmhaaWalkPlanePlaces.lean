/- Every unit's place, and the unit of every place, are the document's: the call returns true whatever the input. No condition. -/
import Derived.Test.YteijghkhbfhmhaaPlane
import Derived.Test.YteijghkhbfhmhaaSees
namespace Go.Proofs.Yteijghkhbfhmhaa.planePlaces
open Go.RowKit Go.FInt Go.Sees Go.Proofs.Yteijghkhbfhmhaa.Plane
set_option linter.unusedVariables false
set_option linter.unusedSimpArgs false

theorem bl {B : Nat} {w w1 : World} (h : Below B w w1) (n : Nat) : Below B w (w1.drewN n) := ⟨h.os, h.tape, h.output, h.size, h.block⟩

theorem yes_yes (k n : Int) (x y : Nat) (c r : Int) (w : World) (h1 : 1 ≤ n) (h2 : n ≤ 16) (h3 : 0 ≤ k) (h4 : k / n < 2147483648) (h5 : k ≤ 9223372036854775807) (hat : At x y n c r) :
    Calls Try.prog 3 #[.int .i64 k, .int .i64 n, .float .f64 x, .float .f64 y] w fun e w' => e = .returned (.bool true) ∧ Below w.heap.size w w' := by
  have hk : k / n * n + k % n = k := by rw [Int.mul_comm]; exact Int.mul_ediv_add_emod k n
  have hm1 := Int.emod_nonneg k (by omega : n ≠ 0)
  have hm2 := Int.emod_lt_of_pos k (by omega : 0 < n)
  have hd1 : 0 ≤ k / n := Int.ediv_nonneg h3 (by omega)
  have HK := Lib.hid hk
  clear hk
  have hu : 0 ≤ r * n + c := by have := (mul_bd r n hat.2.2.2.2.2.2.1 (by have := hat.2.2.2.2.2.2.2; omega) hat.1 hat.2.1).1; have := hat.2.2.2.2.1; omega
  have HA := Lib.hid hat
  clear hat
  go_enter Try.func3, Try.ntmps3
  go_wp2_with (first | (go_at_call 8; refine (alive_any _).mono ?_; rintro e wA ⟨rfl, mA, rfl⟩) | (go_at_call 9; refine (place_yes k n _ h1 h2 h3 h4 h5).mono ?_; rintro e w1 ⟨re, im, rfl, ire, iim, m1, rfl⟩; have IR := Lib.hid ire; have II := Lib.hid iim; clear ire iim) | (go_at_call 10; refine (unit_yes x y n c r _ HA.out).mono ?_; rintro e w1 ⟨rfl, rfl⟩) | (go_at_call 11; refine (refUnit_yes x y n c r _ HA.out).mono ?_; rintro e w1 ⟨rfl, rfl⟩))
  refine (refOk_yes k n _ h1 h2 h3 h4 h5).mono ?_
  rintro e w1 ⟨rfl, rfl⟩
  go_wp2_with fail
  refine (unit_yes _ _ n (k % n) (k / n) _ ⟨h1, h2, IR.out, II.out, hm1, hm2, hd1, h4⟩).mono ?_
  rintro e w1 ⟨rfl, rfl⟩
  rw [HK.out]
  go_wp2_with fail
  refine (refPlace_any k n _ h1 h2 h3 h4 h5).mono ?_
  rintro e w2 ⟨re2, im2, rfl, ir2, ii2, m2, rfl⟩
  have IR2 := Lib.hid ir2
  have II2 := Lib.hid ii2
  clear ir2 ii2
  go_wp2_with fail
  refine (same_yes _ _ _ _ _ _ _ IR.out IR2.out II.out II2.out).mono ?_
  rintro e w3 ⟨rfl, rfl⟩
  go_wp2
  go_ret
  exact ⟨rfl, by repeat (first | exact Below.refl _ _ | apply bl)⟩

theorem yes_no (k n : Int) (x y : Nat) (w : World) (h1 : 1 ≤ n) (h2 : n ≤ 16) (h3 : 0 ≤ k) (h4 : k / n < 2147483648) (h5 : k ≤ 9223372036854775807) (hat : ∀ c r, ¬ At x y n c r) :
    Calls Try.prog 3 #[.int .i64 k, .int .i64 n, .float .f64 x, .float .f64 y] w fun e w' => e = .returned (.bool true) ∧ Below w.heap.size w w' := by
  have hk : k / n * n + k % n = k := by rw [Int.mul_comm]; exact Int.mul_ediv_add_emod k n
  have hm1 := Int.emod_nonneg k (by omega : n ≠ 0)
  have hm2 := Int.emod_lt_of_pos k (by omega : 0 < n)
  have hd1 : 0 ≤ k / n := Int.ediv_nonneg h3 (by omega)
  have HK := Lib.hid hk
  clear hk
  have HA := Lib.hid hat
  clear hat
  go_enter Try.func3, Try.ntmps3
  go_wp2_with (first | (go_at_call 8; refine (alive_any _).mono ?_; rintro e wA ⟨rfl, mA, rfl⟩) | (go_at_call 9; refine (place_yes k n _ h1 h2 h3 h4 h5).mono ?_; rintro e w1 ⟨re, im, rfl, ire, iim, m1, rfl⟩; have IR := Lib.hid ire; have II := Lib.hid iim; clear ire iim) | (go_at_call 10; refine (unit_no x y n _ HA.out).mono ?_; rintro e w1 ⟨rfl, rfl⟩) | (go_at_call 11; refine (refUnit_no x y n _ HA.out).mono ?_; rintro e w1 ⟨rfl, rfl⟩))
  refine (refOk_yes k n _ h1 h2 h3 h4 h5).mono ?_
  rintro e w1 ⟨rfl, rfl⟩
  go_wp2_with fail
  refine (unit_yes _ _ n (k % n) (k / n) _ ⟨h1, h2, IR.out, II.out, hm1, hm2, hd1, h4⟩).mono ?_
  rintro e w1 ⟨rfl, rfl⟩
  rw [HK.out]
  go_wp2_with fail
  refine (refPlace_any k n _ h1 h2 h3 h4 h5).mono ?_
  rintro e w2 ⟨re2, im2, rfl, ir2, ii2, m2, rfl⟩
  have IR2 := Lib.hid ir2
  have II2 := Lib.hid ii2
  clear ir2 ii2
  go_wp2_with fail
  refine (same_yes _ _ _ _ _ _ _ IR.out IR2.out II.out II2.out).mono ?_
  rintro e w3 ⟨rfl, rfl⟩
  go_wp2
  go_ret
  exact ⟨rfl, by repeat (first | exact Below.refl _ _ | apply bl)⟩

theorem no_yes (k n : Int) (x y : Nat) (c r : Int) (w : World) (hno : ¬ (1 ≤ n ∧ n ≤ 16 ∧ 0 ≤ k ∧ k / n < 2147483648)) (h5 : k ≤ 9223372036854775807) (hat : At x y n c r) :
    Calls Try.prog 3 #[.int .i64 k, .int .i64 n, .float .f64 x, .float .f64 y] w fun e w' => e = .returned (.bool true) ∧ Below w.heap.size w w' := by
  have HN := Lib.hid hno
  clear hno
  have hu : 0 ≤ r * n + c := by have := (mul_bd r n hat.2.2.2.2.2.2.1 (by have := hat.2.2.2.2.2.2.2; omega) hat.1 hat.2.1).1; have := hat.2.2.2.2.1; omega
  have HA := Lib.hid hat
  clear hat
  go_enter Try.func3, Try.ntmps3
  go_wp2_with (first | (go_at_call 8; refine (alive_any _).mono ?_; rintro e wA ⟨rfl, mA, rfl⟩) | (go_at_call 9; refine (place_no k n _ HN.out h5).mono ?_; rintro e w1 ⟨rfl, rfl⟩) | (go_at_call 10; refine (unit_yes x y n c r _ HA.out).mono ?_; rintro e w1 ⟨rfl, rfl⟩) | (go_at_call 11; refine (refUnit_yes x y n c r _ HA.out).mono ?_; rintro e w1 ⟨rfl, rfl⟩))
  refine (refOk_no k n _ HN.out h5).mono ?_
  rintro e w1 ⟨rfl, rfl⟩
  have z1 := eql_int isInt_zero isInt_zero rfl
  go_wp2
  go_ret
  exact ⟨rfl, by repeat (first | exact Below.refl _ _ | apply bl)⟩

theorem no_no (k n : Int) (x y : Nat) (w : World) (hno : ¬ (1 ≤ n ∧ n ≤ 16 ∧ 0 ≤ k ∧ k / n < 2147483648)) (h5 : k ≤ 9223372036854775807) (hat : ∀ c r, ¬ At x y n c r) :
    Calls Try.prog 3 #[.int .i64 k, .int .i64 n, .float .f64 x, .float .f64 y] w fun e w' => e = .returned (.bool true) ∧ Below w.heap.size w w' := by
  have HN := Lib.hid hno
  clear hno
  have HA := Lib.hid hat
  clear hat
  go_enter Try.func3, Try.ntmps3
  go_wp2_with (first | (go_at_call 8; refine (alive_any _).mono ?_; rintro e wA ⟨rfl, mA, rfl⟩) | (go_at_call 9; refine (place_no k n _ HN.out h5).mono ?_; rintro e w1 ⟨rfl, rfl⟩) | (go_at_call 10; refine (unit_no x y n _ HA.out).mono ?_; rintro e w1 ⟨rfl, rfl⟩) | (go_at_call 11; refine (refUnit_no x y n _ HA.out).mono ?_; rintro e w1 ⟨rfl, rfl⟩))
  refine (refOk_no k n _ HN.out h5).mono ?_
  rintro e w1 ⟨rfl, rfl⟩
  have z1 := eql_int isInt_zero isInt_zero rfl
  go_wp2
  go_ret
  exact ⟨rfl, by repeat (first | exact Below.refl _ _ | apply bl)⟩

theorem planePlaces_walk (a0 : Int) (a1 : Int) (a2 : Nat) (a3 : Nat) (w : World) (w0 : (Lit.int .i64 a0).wf = true) (w1 : (Lit.int .i64 a1).wf = true) :
    Calls Try.prog 3 #[.int .i64 a0, .int .i64 a1, .float .f64 a2, .float .f64 a3] w fun e w' => e = .returned (.bool true) ∧ Below w.heap.size w w' := by
  have b0 := (bounds_i64 w0).2
  by_cases h : 1 ≤ a1 ∧ a1 ≤ 16 ∧ 0 ≤ a0 ∧ a0 / a1 < 2147483648
  · by_cases g : ∃ c r, At a2 a3 a1 c r
    · obtain ⟨c, r, g⟩ := g
      exact yes_yes a0 a1 a2 a3 c r w h.1 h.2.1 h.2.2.1 h.2.2.2 b0 g
    · exact yes_no a0 a1 a2 a3 w h.1 h.2.1 h.2.2.1 h.2.2.2 b0 (fun c r k => g ⟨c, r, k⟩)
  · by_cases g : ∃ c r, At a2 a3 a1 c r
    · obtain ⟨c, r, g⟩ := g
      exact no_yes a0 a1 a2 a3 c r w h b0 g
    · exact no_no a0 a1 a2 a3 w h b0 (fun c r k => g ⟨c, r, k⟩)
end Go.Proofs.Yteijghkhbfhmhaa.planePlaces
