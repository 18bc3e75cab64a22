/- More of layer plane: the next unit's place told by the unit's number. -/
import Derived.Test.YteijghkhbfhmhaaPlane
namespace Go.Proofs.Yteijghkhbfhmhaa.Plane
open Go.RowKit Go.FInt
set_option linter.unusedVariables false
set_option linter.unusedSimpArgs false

theorem bl {B : Nat} {w w1 : World} (h : Below B w w1) (n : Nat) : Below B w (w1.drewN n) := ⟨h.os, h.tape, h.output, h.size, h.block⟩

theorem unit_div (r n c : Int) (h0 : 0 ≤ c) (h1 : c < n) : (r * n + c) / n = r ∧ (r * n + c) % n = c :=
  (Int.ediv_emod_unique (by omega)).2 ⟨by rw [Int.mul_comm n r]; omega, h0, h1⟩
theorem unit_of (k n : Int) : k / n * n + k % n = k := by rw [Int.mul_comm]; exact Int.mul_ediv_add_emod k n

theorem next_in (k n : Int) (h : 1 ≤ n) (hc : k % n + 1 < n) : (k + 1) / n = k / n ∧ (k + 1) % n = k % n + 1 := by
  have h1 := Int.emod_nonneg k (by omega : n ≠ 0)
  have e := unit_of k n
  have := unit_div (k / n) n (k % n + 1) (by omega) hc
  rwa [show k / n * n + (k % n + 1) = k + 1 by omega] at this
theorem next_wrap (k n : Int) (h : 1 ≤ n) (hc : k % n + 1 = n) : (k + 1) / n = k / n + 1 ∧ (k + 1) % n = 0 := by
  have e := unit_of k n
  have := unit_div (k / n + 1) n 0 (by omega) (by omega)
  rwa [show (k / n + 1) * n + 0 = k + 1 by rw [Int.add_mul]; omega] at this

/-- the place of unit k -/
def Here (re im : Nat) (k n : Int) : Prop := 1 ≤ n ∧ n ≤ 16 ∧ 0 ≤ k ∧ k / n < 2147483648 ∧ IsInt re (k % n) ∧ IsInt im (k / n)

theorem Here.at {re im : Nat} {k n : Int} (h : Here re im k n) : At re im n (k % n) (k / n) := by
  obtain ⟨h1, h2, h3, h4, h5, h6⟩ := h
  exact ⟨h1, h2, h5, h6, Int.emod_nonneg k (by omega), Int.emod_lt_of_pos k (by omega), Int.ediv_nonneg h3 (by omega), h4⟩

theorem At.here {re im : Nat} {n c r : Int} (h : At re im n c r) : Here re im (r * n + c) n := by
  obtain ⟨h1, h2, h3, h4, h5, h6, h7, h8⟩ := h
  obtain ⟨e1, e2⟩ := unit_div r n c h5 h6
  have := (mul_bd r n h7 (by omega) h1 h2).1
  exact ⟨h1, h2, by omega, by rw [e1]; exact h8, by rw [e2]; exact h3, by rw [e1]; exact h4⟩

theorem unit_here (re im : Nat) (k n : Int) (w : World) (h : Here re im k n) : Calls Try.prog 10 #[.complex .f64 re im, .int .i64 n] w fun e w' => e = .returned (.tuple #[.int .i64 k, .bool true]) ∧ w = w' := by
  have := unit_yes re im n _ _ w h.at
  rwa [unit_of] at this
theorem refUnit_here (re im : Nat) (k n : Int) (w : World) (h : Here re im k n) : Calls Try.prog 11 #[.complex .f64 re im, .int .i64 n] w fun e w' => e = .returned (.int .i64 k) ∧ w = w' := by
  have := refUnit_yes re im n _ _ w h.at
  rwa [unit_of] at this

theorem step_here (re im : Nat) (k n : Int) (w : World) (h : Here re im k n) (hk : (k + 1) / n < 2147483648) : Calls Try.prog 15 #[.complex .f64 re im, .int .i64 n] w fun e w' =>
    ∃ a b, e = .returned (.tuple #[.complex .f64 a b, .bool true]) ∧ Here a b (k + 1) n ∧ w = w' := by
  have ha := h.at
  have hlt := ha.2.2.2.2.2.1
  by_cases hc : k % n + 1 < n
  · obtain ⟨e1, e2⟩ := next_in k n h.1 hc
    refine (step_in re im n _ _ w ha hc).mono ?_
    rintro e w' ⟨a, b, rfl, i1, i2, rfl⟩
    exact ⟨a, b, rfl, ⟨h.1, h.2.1, by have := h.2.2.1; omega, hk, by rw [e2]; exact i1, by rw [e1]; exact i2⟩, rfl⟩
  · obtain ⟨e1, e2⟩ := next_wrap k n h.1 (by omega)
    refine (step_wrap re im n _ _ w ha (by omega) (by omega)).mono ?_
    rintro e w' ⟨a, b, rfl, i1, i2, rfl⟩
    exact ⟨a, b, rfl, ⟨h.1, h.2.1, by have := h.2.2.1; omega, hk, by rw [e2]; exact i1, by rw [e1]; exact i2⟩, rfl⟩

theorem step_stop (re im : Nat) (k n : Int) (w : World) (h : Here re im k n) (hk : ¬ (k + 1) / n < 2147483648) : (Calls Try.prog 15 #[.complex .f64 re im, .int .i64 n] w fun e w' => e = .returned (.tuple #[.complex .f64 0 0, .bool false]) ∧ w = w') ∧ k / n = 2147483647 := by
  have ha := h.at
  have hlt := ha.2.2.2.2.2.1
  have hr := h.2.2.2.1
  by_cases hc : k % n + 1 < n
  · obtain ⟨e1, e2⟩ := next_in k n h.1 hc
    omega
  · obtain ⟨e1, e2⟩ := next_wrap k n h.1 (by omega)
    exact ⟨step_last re im n _ _ w ha (by omega) (by omega), by omega⟩

theorem place_here (k n : Int) (w : World) (h1 : 1 ≤ n) (h2 : n ≤ 16) (h3 : 0 ≤ k) (h4 : k / n < 2147483648) (h5 : k ≤ 9223372036854775807) : Calls Try.prog 9 #[.int .i64 k, .int .i64 n] w fun e w' =>
    ∃ re im, e = .returned (.tuple #[.complex .f64 re im, .int .i64 0]) ∧ Here re im k n ∧ ∃ m, w' = w.drewN m := by
  refine (place_yes k n w h1 h2 h3 h4 h5).mono ?_
  rintro e w' ⟨re, im, rfl, i1, i2, m, rfl⟩
  exact ⟨re, im, rfl, ⟨h1, h2, h3, h4, i1, i2⟩, m, rfl⟩
theorem refPlace_here (k n : Int) (w : World) (h1 : 1 ≤ n) (h2 : n ≤ 16) (h3 : 0 ≤ k) (h4 : k / n < 2147483648) (h5 : k ≤ 9223372036854775807) : Calls Try.prog 14 #[.int .i64 k, .int .i64 n] w fun e w' =>
    ∃ re im, e = .returned (.complex .f64 re im) ∧ Here re im k n ∧ ∃ m, w' = w.drewN m := by
  refine (refPlace_any k n w h1 h2 h3 h4 h5).mono ?_
  rintro e w' ⟨re, im, rfl, i1, i2, m, rfl⟩
  exact ⟨re, im, rfl, ⟨h1, h2, h3, h4, i1, i2⟩, m, rfl⟩
theorem same_here (a b c d : Nat) (k n : Int) (w : World) (h : Here a b k n) (h' : Here c d k n) : Calls Try.prog 13 #[.complex .f64 a b, .complex .f64 c d] w fun e w' => e = .returned (.bool true) ∧ w = w' :=
  same_yes a b c d _ _ w h.2.2.2.2.1 h'.2.2.2.2.1 h.2.2.2.2.2 h'.2.2.2.2.2
theorem between_here (a b c d : Nat) (k l n : Int) (w : World) (h : Here a b k n) (h' : Here c d l n) : Calls Try.prog 18 #[.complex .f64 a b, .complex .f64 c d, .int .i64 n] w fun e w' => e = .returned (.tuple #[.int .i64 (l - k), .bool true]) ∧ w = w' := by
  have := between_yes a b c d n _ _ _ _ w h.at h'.at
  rwa [unit_of, unit_of] at this
theorem here_bd {re im : Nat} {k n : Int} (h : Here re im k n) : 0 ≤ k ∧ k ≤ 34359738367 := by
  obtain ⟨h1, h2, h3, h4, _, _⟩ := h
  have e := unit_of k n
  have := mul_bd (k / n) n (Int.ediv_nonneg h3 (by omega)) (by omega) h1 h2
  have h5 := Int.emod_lt_of_pos k (by omega : 0 < n)
  have h6 : k / n * n ≤ 2147483647 * n := Int.mul_le_mul_of_nonneg_right (by omega) (by omega)
  omega
end Go.Proofs.Yteijghkhbfhmhaa.Plane
