/- So many steps on as there are columns lies the same column, a row further: the call returns true whatever the input. No condition. -/
import Derived.Test.YteijghkhbfhmhaaPlaneMore
import Derived.Test.YteijghkhbfhmhaaSees
namespace Go.Proofs.Yteijghkhbfhmhaa.planeRounds
open Go.RowKit Go.FInt Go.Sees Go.Proofs.Yteijghkhbfhmhaa.Plane
set_option linter.unusedVariables false
set_option linter.unusedSimpArgs false

theorem div_le (k n : Int) (h1 : 1 ≤ n) (h3 : 0 ≤ k) : k / n ≤ k := Int.ediv_le_self n h3

theorem rounds (k n : Int) (w : World) (h1 : 1 ≤ n) (h2 : n ≤ 16) (h3 : 0 ≤ k) (h5 : k ≤ 4294967295) (hk : k / n < 2147483648) :
    Calls Try.prog 6 #[.int .u32 k, .int .i64 n] w fun e w' => e = .returned (.bool true) ∧ Below w.heap.size w w' := by
  have HK := Lib.hid hk
  clear hk
  go_enter Try.func6, Try.ntmps6
  go_wp2_with fail
  refine (alive_any _).mono ?_
  rintro e wA ⟨rfl, mA, rfl⟩
  go_wp2_with fail
  refine (place_here k n _ h1 h2 h3 HK.out (by omega)).mono ?_
  rintro e w1 ⟨p, q, rfl, hz, m1, rfl⟩
  have HZ := Lib.hid hz
  clear hz
  go_wp2_with fail
  go_loop [7, 8] (fun u v => ∃ (i : Int) (a b : Nat), u = .complex .f64 a b ∧ v = .int .i64 i ∧ 0 ≤ i ∧ i ≤ n ∧ Hid (Here a b (k + i) n)) (fun _ v => (n - intOf v).toNat)
  case atStart => exact ⟨0, p, q, rfl, rfl, by omega, by omega, Lib.hid (by rw [Int.add_zero]; exact HZ.out)⟩
  case round =>
    obtain ⟨i, a, b, rfl, rfl, hi0, hi1, HY⟩ := hrel
    by_cases hlt : i < n
    · by_cases hk : (k + i + 1) / n < 2147483648
      · have HS := Lib.hid (fun W => step_here a b (k + i) n W HY.out hk)
        clear hk
        go_wp2_with (go_at_call 15; refine (HS.out _).mono ?_; rintro e w2 ⟨c, d, rfl, hp, rfl⟩; have HP := Lib.hid hp; clear hp)
        go_round
        case rel => exact ⟨i + 1, c, d, rfl, rfl, by omega, by omega, Lib.hid (by rw [← Int.add_assoc]; exact HP.out)⟩
        case measure => simp [intOf]; omega
      · obtain ⟨hst, hl⟩ := step_stop a b (k + i) n w HY.out hk
        have HS := Lib.hid (fun W => (step_stop a b (k + i) n W HY.out hk).1)
        have hg := geq_int HY.out.2.2.2.2.2 (ofInt 2147483647 (by omega)) (by omega)
        rw [show FloatKind.f64.nearest 2147483647 = 4746794007244308480 by decide +kernel] at hg
        clear hst hl hk
        go_wp2_with (first | (go_at_call 15; refine (HS.out _).mono ?_; rintro e w2 ⟨rfl, rfl⟩) | (go_at_call 8; refine (alive_any _).mono ?_; rintro e wB ⟨rfl, mB, rfl⟩))
        go_ret
        exact ⟨rfl, by repeat (first | exact Below.refl _ _ | apply bl)⟩
    · obtain rfl : i = n := by omega
      have hzz := HZ.out
      have hyy := HY.out
      obtain ⟨x1, b1, i1⟩ := add_int hzz.2.2.2.2.1 isInt_zero (by have := hzz.at.2.2.2.2.1; have := hzz.at.2.2.2.2.2.1; omega)
      obtain ⟨y1, b2, i2⟩ := add_int hzz.2.2.2.2.2 isInt_1 (by have := hzz.at.2.2.2.2.2.2.1; have := hzz.2.2.2.1; omega)
      have s1 : ∀ W, (binOp .add 24 (.complex .f64 p q) (.complex .f64 0 4607182418800017408)).run Try.prog W = .ok (.complex .f64 x1 y1) W := csum (.inl rfl) b1 b2
      have e1 := eql_int hyy.2.2.2.2.1 i1 (by simp)
      have e2 := eql_int hyy.2.2.2.2.2 i2 (by rw [show k + i = k + 1 * i by omega, Int.add_mul_ediv_right _ _ (by omega)])
      have hd : k + i - k = i := by omega
      have HB : Hid (∀ W, Calls Try.prog 18 #[.complex .f64 p q, .complex .f64 a b, .int .i64 i] W fun e w' => e = .returned (.tuple #[.int .i64 i, .bool true]) ∧ W = w') := Lib.hid (fun W => by have := between_here p q a b k (k + i) i W HZ.out HY.out; rwa [hd] at this)
      clear hzz hyy b1 b2 i1 i2 hd
      go_wp2_with (first | (go_at_call 18; refine (HB.out _).mono ?_; rintro e w2 ⟨rfl, rfl⟩) | (go_at_call 8; refine (alive_any _).mono ?_; rintro e wB ⟨rfl, mB, rfl⟩))
      go_ret
      exact ⟨rfl, by repeat (first | exact Below.refl _ _ | apply bl)⟩

theorem beyond (k n : Int) (w : World) (h1 : 1 ≤ n) (h2 : n ≤ 16) (h3 : 0 ≤ k) (h5 : k ≤ 4294967295) (hk : ¬ k / n < 2147483648) :
    Calls Try.prog 6 #[.int .u32 k, .int .i64 n] w fun e w' => e = .returned (.bool true) ∧ Below w.heap.size w w' := by
  have HN := Lib.hid (fun (hh : 1 ≤ n ∧ n ≤ 16 ∧ 0 ≤ k ∧ k / n < 2147483648) => hk hh.2.2.2)
  have hb : decide (2147483647 < k) = true := by have := div_le k n h1 h3; simp; omega
  clear hk
  go_enter Try.func6, Try.ntmps6
  go_wp2_with (first | (go_at_call 9; refine (place_no k n _ HN.out (by omega)).mono ?_; rintro e w2 ⟨rfl, rfl⟩) | (go_at_call 8; refine (alive_any _).mono ?_; rintro e wB ⟨rfl, mB, rfl⟩))
  go_ret
  exact ⟨rfl, by repeat (first | exact Below.refl _ _ | apply bl)⟩

theorem planeRounds_walk (a0 : Int) (a1 : Int) (w : World) (w0 : (Lit.int .u32 a0).wf = true) (w1 : (Lit.int .i64 a1).wf = true) :
    Calls Try.prog 6 #[.int .u32 a0, .int .i64 a1] w fun e w' => e = .returned (.bool true) ∧ Below w.heap.size w w' := by
  have b0 := bounds_u32 w0
  by_cases h1 : 1 ≤ a1
  · by_cases h2 : a1 ≤ 16
    · by_cases hk : a0 / a1 < 2147483648
      · exact rounds a0 a1 w h1 h2 b0.1 b0.2 hk
      · exact beyond a0 a1 w h1 h2 b0.1 b0.2 hk
    · have c4 : decide (16 < a1) = true := by simp; omega
      go_enter Try.func6, Try.ntmps6
      go_wp2_with (go_at_call 8; refine (alive_any _).mono ?_; rintro e wA ⟨rfl, mA, rfl⟩)
      go_ret
      exact ⟨rfl, by repeat (first | exact Below.refl _ _ | apply bl)⟩
  · have c4 : decide (a1 < 1) = true := by simp; omega
    go_enter Try.func6, Try.ntmps6
    go_wp2_with (go_at_call 8; refine (alive_any _).mono ?_; rintro e wA ⟨rfl, mA, rfl⟩)
    go_ret
    exact ⟨rfl, by repeat (first | exact Below.refl _ _ | apply bl)⟩
end Go.Proofs.Yteijghkhbfhmhaa.planeRounds
