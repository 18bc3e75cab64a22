/- The contracts of layer plane: places, units, steps, turns, servers, and the document's own. -/
import Derived.Test.YtaipmnelcpilaaaProg
import Derived.Test.YtaipmnelcpilaaaFloat
import Derived.WalkLawsBesides
import Derived.WalkKit
import Derived.Deep.QuietTactic
import Derived.BigQuiet
import Derived.Lib.Hide
namespace Go.Proofs.Ytaipmnelcpilaaa.Plane
open Go.RowKit Go.FInt
set_option linter.unusedVariables false
set_option linter.unusedSimpArgs false

theorem columns_yes (n : Int) (w : World) (h1 : 1 ≤ n) (h2 : n ≤ 16) : Calls Try.prog 29 #[.int .i64 n] w fun e w' => e = .returned (.bool true) ∧ w = w' := by
  go_enter Try.func29, Try.ntmps29
  go_wp2
  go_ret
  exact ⟨rfl, rfl⟩
theorem columns_no (n : Int) (w : World) (h1 : ¬ (1 ≤ n ∧ n ≤ 16)) : Calls Try.prog 29 #[.int .i64 n] w fun e w' => e = .returned (.bool false) ∧ w = w' := by
  by_cases h : n < 1
  · clear h1
    go_enter Try.func29, Try.ntmps29
    go_wp2
    go_ret
    exact ⟨rfl, rfl⟩
  · have h' : decide (n ≤ 16) = false := by simp; omega
    have h'' : decide (1 ≤ n) = true := by simp; omega
    clear h1
    go_enter Try.func29, Try.ntmps29
    go_wp2
    go_ret
    exact ⟨rfl, rfl⟩

def Placed (k n : Int) (w : World) (e : Ending) (w' : World) : Prop :=
  ∃ re im, e = .returned (.tuple #[.complex .f64 re im, .int .i64 0]) ∧ IsInt re (k % n) ∧ IsInt im (k / n) ∧ ∃ m, w' = w.drewN m

theorem place_yes (k n : Int) (w : World) (h1 : 1 ≤ n) (h2 : n ≤ 16) (h3 : 0 ≤ k) (h4 : k / n < 2147483648) (h5 : k ≤ 9223372036854775807) : Calls Try.prog 28 #[.int .i64 k, .int .i64 n] w (Placed k n w) := by
  have hm1 := Int.emod_nonneg k (by omega : n ≠ 0)
  have hm2 := Int.emod_lt_of_pos k (by omega : 0 < n)
  have hd1 : 0 ≤ k / n := Int.ediv_nonneg h3 (by omega)
  have E1 := ofInt (k % n) (by omega)
  have E2 := ofInt (k / n) (by omega)
  have E1 := Lib.hid E1
  have E2 := Lib.hid E2
  go_enter Try.func28, Try.ntmps28
  go_wp2_with (go_at_call 29; refine (columns_yes _ _ h1 h2).mono ?_; rintro e w1 ⟨rfl, rfl⟩)
  go_quiet (fail)
  go_wp2
  go_ret2
  exact ⟨_, _, rfl, E1.out, E2.out, _, rfl⟩

theorem place_no (k n : Int) (w : World) (h : ¬ (1 ≤ n ∧ n ≤ 16 ∧ 0 ≤ k ∧ k / n < 2147483648)) (h5 : k ≤ 9223372036854775807) : Calls Try.prog 28 #[.int .i64 k, .int .i64 n] w fun e w' => e = .returned (.tuple #[.complex .f64 0 0, .int .i64 1]) ∧ w = w' := by
  by_cases hc : 1 ≤ n ∧ n ≤ 16
  · obtain ⟨h1, h2⟩ := hc
    by_cases hk : k < 0
    · clear h
      go_enter Try.func28, Try.ntmps28
      go_wp2_with (go_at_call 29; refine (columns_yes _ _ h1 h2).mono ?_; rintro e w1 ⟨rfl, rfl⟩)
      go_ret2
      exact ⟨rfl, rfl⟩
    · have hd : 2147483648 ≤ k / n := by omega
      clear h
      go_enter Try.func28, Try.ntmps28
      go_wp2_with (go_at_call 29; refine (columns_yes _ _ h1 h2).mono ?_; rintro e w1 ⟨rfl, rfl⟩)
      go_ret2
      exact ⟨rfl, rfl⟩
  · clear h
    have HC := Lib.hid hc
    clear hc
    go_enter Try.func28, Try.ntmps28
    go_wp2_with (go_at_call 29; refine (columns_no _ _ HC.out).mono ?_; rintro e w1 ⟨rfl, rfl⟩)
    go_ret2
    exact ⟨rfl, rfl⟩

/-- the unit's column and row, as numbers -/
def At (re im : Nat) (n c r : Int) : Prop := 1 ≤ n ∧ n ≤ 16 ∧ IsInt re c ∧ IsInt im r ∧ 0 ≤ c ∧ c < n ∧ 0 ≤ r ∧ r < 2147483648

theorem isInt_31 : IsInt 4746794007248502784 2147483648 := ofInt 2147483648 (by decide)

theorem geq_int {x y : Nat} {a b : Int} (hx : IsInt x a) (hy : IsInt y b) (h : b ≤ a) : (FloatKind.f64.format.order x y == some .gt || FloatKind.f64.format.order x y == some .eq) = true := by
  show (Ieee.double.order x y == some .gt || Ieee.double.order x y == some .eq) = true
  rw [order_int hx hy]
  rcases Int.lt_trichotomy a b with h1 | h1 | h1
  · omega
  · rw [Int.compare_eq_eq.2 h1]; rfl
  · rw [Int.compare_eq_gt.2 h1]; rfl
theorem ngeq_int {x y : Nat} {a b : Int} (hx : IsInt x a) (hy : IsInt y b) (h : a < b) : (FloatKind.f64.format.order x y == some .gt || FloatKind.f64.format.order x y == some .eq) = false := by
  show (Ieee.double.order x y == some .gt || Ieee.double.order x y == some .eq) = false
  rw [order_int hx hy, Int.compare_eq_lt.2 h]; rfl
theorem lss_int {x y : Nat} {a b : Int} (hx : IsInt x a) (hy : IsInt y b) (h : a < b) : (FloatKind.f64.format.order x y == some .lt) = true := by
  show (Ieee.double.order x y == some .lt) = true
  rw [order_int hx hy, Int.compare_eq_lt.2 h]; rfl
theorem eql_int {x y : Nat} {a b : Int} (hx : IsInt x a) (hy : IsInt y b) (h : a = b) : (FloatKind.f64.format.order x y == some .eq) = true := by
  show (Ieee.double.order x y == some .eq) = true
  rw [order_int hx hy, Int.compare_eq_eq.2 h]; rfl
theorem neq_int {x y : Nat} {a b : Int} (hx : IsInt x a) (hy : IsInt y b) (h : a ≠ b) : (FloatKind.f64.format.order x y == some .eq) = false := by
  show (Ieee.double.order x y == some .eq) = false
  rw [order_int hx hy]
  rcases Int.lt_trichotomy a b with h1 | h1 | h1
  · rw [Int.compare_eq_lt.2 h1]; rfl
  · exact absurd h1 h
  · rw [Int.compare_eq_gt.2 h1]; rfl

theorem mul_bd (r n : Int) (h5 : 0 ≤ r) (h6 : r ≤ 2147483648) (h1 : 1 ≤ n) (h2 : n ≤ 16) : 0 ≤ r * n ∧ r * n ≤ 34359738368 := by
  constructor
  · exact Int.mul_nonneg h5 (by omega)
  · have a : r * n ≤ 2147483648 * n := Int.mul_le_mul_of_nonneg_right h6 (by omega)
    omega

theorem unit_yes (re im : Nat) (n c r : Int) (w : World) (h : At re im n c r) : Calls Try.prog 26 #[.complex .f64 re im, .int .i64 n] w fun e w' => e = .returned (.tuple #[.int .i64 (r * n + c), .bool true]) ∧ w = w' := by
  obtain ⟨h1, h2, hc, hr, h3, h4, h5, h6⟩ := h
  have g1 := geq_int hc isInt_zero h3
  have g2 : (FloatKind.f64.format.order re (floatOfInt .f64 n) == some .lt) = true := lss_int hc (ofInt n (by omega)) h4
  have g3 := geq_int hr isInt_zero h5
  have g4 := lss_int hr isInt_31 h6
  have t1 := fun W => run_convert_float_int (P := Try.prog) W 44 3 .f64 .i64 re c rfl Try.underlying3 (toInt_int hc (by omega) (by omega))
  have t2 := fun W => run_convert_float_int (P := Try.prog) W 44 3 .f64 .i64 im r rfl Try.underlying3 (toInt_int hr (by omega) (by omega))
  have e1 : (FloatKind.f64.format.order (floatOfInt .f64 c) re == some .eq) = true := eql_int (ofInt c (by omega)) hc rfl
  have e2 : (FloatKind.f64.format.order (floatOfInt .f64 r) im == some .eq) = true := eql_int (ofInt r (by omega)) hr rfl
  have HC := Lib.hid hc
  have HR := Lib.hid hr
  clear hc hr
  have hm := mul_bd r n h5 (by omega) h1 h2
  obtain ⟨hm1, hm2⟩ := hm
  go_enter Try.func26, Try.ntmps26
  go_wp2_with (go_at_call 29; refine (columns_yes _ _ h1 h2).mono ?_; rintro e w1 ⟨rfl, rfl⟩)
  go_ret2
  exact ⟨rfl, rfl⟩

/-- what the tests say of a place that is none -/
theorem at_of (re im : Nat) (n : Int) (h1 : 1 ≤ n) (h2 : n ≤ 16)
    (g1 : (FloatKind.f64.format.order re 0 == some .gt || FloatKind.f64.format.order re 0 == some .eq) = true) (g2 : (FloatKind.f64.format.order re (floatOfInt .f64 n) == some .lt) = true)
    (g3 : (FloatKind.f64.format.order im 0 == some .gt || FloatKind.f64.format.order im 0 == some .eq) = true) (g4 : (FloatKind.f64.format.order im 4746794007248502784 == some .lt) = true) :
    ∃ c r, floatToIntVal .f64 re .i64 = some c ∧ floatToIntVal .f64 im .i64 = some r ∧ 0 ≤ c ∧ c < n ∧ 0 ≤ r ∧ r < 2147483648 := by
  obtain ⟨c, a1, a2, a3⟩ := trunc_lt (x := re) (by have := g1; simp at this; exact this) (ofInt n (by omega)) (by have := g2; simp at this; exact this) (by omega)
  obtain ⟨r, b1, b2, b3⟩ := trunc_lt (x := im) (by have := g3; simp at this; exact this) isInt_31 (by have := g4; simp at this; exact this) (by omega)
  exact ⟨c, r, a1, b1, a2, a3, b2, b3⟩

theorem unit_no (re im : Nat) (n : Int) (w : World) (h : ∀ c r, ¬ At re im n c r) : Calls Try.prog 26 #[.complex .f64 re im, .int .i64 n] w fun e w' => e = .returned (.tuple #[.int .i64 0, .bool false]) ∧ w = w' := by
  by_cases hc : 1 ≤ n ∧ n ≤ 16
  · obtain ⟨h1, h2⟩ := hc
    cases g1 : (FloatKind.f64.format.order re 0 == some .gt || FloatKind.f64.format.order re 0 == some .eq) with
    | false =>
      clear h
      go_enter Try.func26, Try.ntmps26
      go_wp2_with (go_at_call 29; refine (columns_yes _ _ h1 h2).mono ?_; rintro e w1 ⟨rfl, rfl⟩)
      go_ret2
      exact ⟨rfl, rfl⟩
    | true =>
      cases g2 : (FloatKind.f64.format.order re (floatOfInt .f64 n) == some .lt) with
      | false =>
        clear h
        go_enter Try.func26, Try.ntmps26
        go_wp2_with (go_at_call 29; refine (columns_yes _ _ h1 h2).mono ?_; rintro e w1 ⟨rfl, rfl⟩)
        go_ret2
        exact ⟨rfl, rfl⟩
      | true =>
        cases g3 : (FloatKind.f64.format.order im 0 == some .gt || FloatKind.f64.format.order im 0 == some .eq) with
        | false =>
          clear h
          go_enter Try.func26, Try.ntmps26
          go_wp2_with (go_at_call 29; refine (columns_yes _ _ h1 h2).mono ?_; rintro e w1 ⟨rfl, rfl⟩)
          go_ret2
          exact ⟨rfl, rfl⟩
        | true =>
          cases g4 : (FloatKind.f64.format.order im 4746794007248502784 == some .lt) with
          | false =>
            clear h
            go_enter Try.func26, Try.ntmps26
            go_wp2_with (go_at_call 29; refine (columns_yes _ _ h1 h2).mono ?_; rintro e w1 ⟨rfl, rfl⟩)
            go_ret2
            exact ⟨rfl, rfl⟩
          | true =>
            obtain ⟨c, r, t1, t2, h3, h4, h5, h6⟩ := at_of re im n h1 h2 g1 g2 g3 g4
            have t1 := fun W => run_convert_float_int (P := Try.prog) W 44 3 .f64 .i64 re c rfl Try.underlying3 t1
            have t2 := fun W => run_convert_float_int (P := Try.prog) W 44 3 .f64 .i64 im r rfl Try.underlying3 t2
            have hb : (FloatKind.f64.format.order (floatOfInt .f64 c) re == some .eq && FloatKind.f64.format.order (floatOfInt .f64 r) im == some .eq) = false := by
              cases hb : (FloatKind.f64.format.order (floatOfInt .f64 c) re == some .eq && FloatKind.f64.format.order (floatOfInt .f64 r) im == some .eq) with
              | false => rfl
              | true =>
                simp only [Bool.and_eq_true, beq_iff_eq] at hb
                exact absurd ⟨h1, h2, isInt_of_eq (by omega) hb.1, isInt_of_eq (by omega) hb.2, h3, h4, h5, h6⟩ (h c r)
            clear h
            go_enter Try.func26, Try.ntmps26
            go_wp2_with (go_at_call 29; refine (columns_yes _ _ h1 h2).mono ?_; rintro e w1 ⟨rfl, rfl⟩)
            go_ret2
            exact ⟨rfl, rfl⟩
  · clear h
    have HC := Lib.hid hc
    clear hc
    go_enter Try.func26, Try.ntmps26
    go_wp2_with (go_at_call 29; refine (columns_no _ _ HC.out).mono ?_; rintro e w1 ⟨rfl, rfl⟩)
    go_ret2
    exact ⟨rfl, rfl⟩

theorem csum {op : BinOp} (hop : op = .add ∨ op = .sub) {a b c d x y : Nat} (h1 : floatBits op .f64 a c = some x) (h2 : floatBits op .f64 b d = some y) (W : World) :
    (binOp op 45 (.complex .f64 a b) (.complex .f64 c d)).run Try.prog W = .ok (.complex .f64 x y) W :=
  run_complex_sum W op hop 45 .f64 a b c d x y (by simp [cSumBits, h1, h2])

/-- a place's column and row -/
def Spot (c r : Int) (w : World) (e : Ending) (w' : World) : Prop :=
  ∃ a b, e = .returned (.tuple #[.complex .f64 a b, .bool true]) ∧ IsInt a c ∧ IsInt b r ∧ w = w'

/-- the rest of any number, as Go's '%' and a correction give it -/
theorem rest_eq (t n : Int) (h : 1 ≤ n) : (if t.tmod n < 0 then t.tmod n + n else t.tmod n) = t % n := by
  have h1 := Int.emod_nonneg t (by omega : n ≠ 0)
  have h2 := Int.emod_lt_of_pos t (by omega : 0 < n)
  rw [Int.tmod_eq_emod]
  by_cases h3 : 0 ≤ t ∨ n ∣ t
  · rw [if_pos h3]; split <;> omega
  · rw [if_neg h3]
    have : (n.natAbs : Int) = n := by omega
    have h4 : t % n ≠ 0 := fun e => h3 (.inr (Int.dvd_of_emod_eq_zero e))
    rw [this]; split <;> omega
theorem tmod_bd (t n : Int) (h : 1 ≤ n) : -n < t.tmod n ∧ t.tmod n < n := by
  have h1 := Int.emod_nonneg t (by omega : n ≠ 0)
  have h2 := Int.emod_lt_of_pos t (by omega : 0 < n)
  rw [Int.tmod_eq_emod]
  have : (n.natAbs : Int) = n := by omega
  by_cases h3 : 0 ≤ t ∨ n ∣ t
  · rw [if_pos h3]; omega
  · have h4 : t % n ≠ 0 := fun e => h3 (.inr (Int.dvd_of_emod_eq_zero e))
    rw [if_neg h3]; omega

theorem turn_no (re im : Nat) (n c r t : Int) (h : At re im n c r) (ht : -9223372036854775808 ≤ t ∧ t ≤ 9223372036854775807) (hn : t.tmod n < 0) (ho : n ≤ c + t % n) :
    ∃ x y, IsInt x (c + t % n - n) ∧ IsInt y r ∧ ∀ w, Calls Try.prog 25 #[.complex .f64 re im, .int .i64 t, .int .i64 n] w fun e w' => e = .returned (.tuple #[.complex .f64 x y, .bool true]) ∧ w = w' := by
  have HU := Lib.hid (fun w => unit_yes re im n c r w h)
  obtain ⟨h1, h2, hx, hy, h3, h4, h5, h6⟩ := h
  have hr := rest_eq t n h1
  rw [if_pos hn] at hr
  obtain ⟨hb1, hb2⟩ := tmod_bd t n h1
  have hm1 := Int.emod_nonneg t (by omega : n ≠ 0)
  have hm2 := Int.emod_lt_of_pos t (by omega : 0 < n)
  obtain ⟨x1, b1, i1⟩ := add_int hx (ofInt (t % n) (by omega)) (by omega)
  obtain ⟨y1, b2, i2⟩ := add_int hy isInt_zero (by omega)
  rw [Int.add_zero] at i2
  have s1 : ∀ W, (binOp .add 45 (.complex .f64 re im) (.complex .f64 (floatOfInt .f64 (t.tmod n + n)) 0)).run Try.prog W = .ok (.complex .f64 x1 y1) W := by rw [hr]; exact csum (.inl rfl) b1 b2
  obtain ⟨x2, b3, i3⟩ := sub_int i1 (ofInt n (by omega)) (by omega)
  obtain ⟨y2, b4, i4⟩ := sub_int i2 isInt_zero (by omega)
  rw [Int.sub_zero] at i4
  have s2 : ∀ W, (binOp .sub 45 (.complex .f64 x1 y1) (.complex .f64 (floatOfInt .f64 n) 0)).run Try.prog W = .ok (.complex .f64 x2 y2) W := csum (.inr rfl) b3 b4
  have t1 : (FloatKind.f64.format.order x1 (floatOfInt .f64 n) == some .gt || FloatKind.f64.format.order x1 (floatOfInt .f64 n) == some .eq) = true := geq_int i1 (ofInt n (by omega)) ho
  have I3 := Lib.hid i3
  have I4 := Lib.hid i4
  clear hx hy b1 b2 b3 b4 i1 i2 i3 i4 ho hr hm1 hm2
  refine ⟨_, _, I3.out, I4.out, fun w => ?_⟩
  clear I3 I4
  go_enter Try.func25, Try.ntmps25
  go_wp2_with (go_at_call 26; refine (HU.out _).mono ?_; rintro e w1 ⟨rfl, rfl⟩)
  go_ret2
  exact ⟨rfl, rfl⟩

theorem turn_ni (re im : Nat) (n c r t : Int) (h : At re im n c r) (ht : -9223372036854775808 ≤ t ∧ t ≤ 9223372036854775807) (hn : t.tmod n < 0) (ho : c + t % n < n) :
    ∃ x y, IsInt x (c + t % n) ∧ IsInt y r ∧ ∀ w, Calls Try.prog 25 #[.complex .f64 re im, .int .i64 t, .int .i64 n] w fun e w' => e = .returned (.tuple #[.complex .f64 x y, .bool true]) ∧ w = w' := by
  have HU := Lib.hid (fun w => unit_yes re im n c r w h)
  obtain ⟨h1, h2, hx, hy, h3, h4, h5, h6⟩ := h
  have hr := rest_eq t n h1
  rw [if_pos hn] at hr
  obtain ⟨hb1, hb2⟩ := tmod_bd t n h1
  have hm1 := Int.emod_nonneg t (by omega : n ≠ 0)
  have hm2 := Int.emod_lt_of_pos t (by omega : 0 < n)
  obtain ⟨x1, b1, i1⟩ := add_int hx (ofInt (t % n) (by omega)) (by omega)
  obtain ⟨y1, b2, i2⟩ := add_int hy isInt_zero (by omega)
  rw [Int.add_zero] at i2
  have s1 : ∀ W, (binOp .add 45 (.complex .f64 re im) (.complex .f64 (floatOfInt .f64 (t.tmod n + n)) 0)).run Try.prog W = .ok (.complex .f64 x1 y1) W := by rw [hr]; exact csum (.inl rfl) b1 b2
  have t1 : (FloatKind.f64.format.order x1 (floatOfInt .f64 n) == some .gt || FloatKind.f64.format.order x1 (floatOfInt .f64 n) == some .eq) = false := ngeq_int i1 (ofInt n (by omega)) ho
  have I3 := Lib.hid i1
  have I4 := Lib.hid i2
  clear hx hy b1 b2 i1 i2 ho hr hm1 hm2
  refine ⟨_, _, I3.out, I4.out, fun w => ?_⟩
  clear I3 I4
  go_enter Try.func25, Try.ntmps25
  go_wp2_with (go_at_call 26; refine (HU.out _).mono ?_; rintro e w1 ⟨rfl, rfl⟩)
  go_ret2
  exact ⟨rfl, rfl⟩

theorem turn_po (re im : Nat) (n c r t : Int) (h : At re im n c r) (ht : -9223372036854775808 ≤ t ∧ t ≤ 9223372036854775807) (hn : 0 ≤ t.tmod n) (ho : n ≤ c + t % n) :
    ∃ x y, IsInt x (c + t % n - n) ∧ IsInt y r ∧ ∀ w, Calls Try.prog 25 #[.complex .f64 re im, .int .i64 t, .int .i64 n] w fun e w' => e = .returned (.tuple #[.complex .f64 x y, .bool true]) ∧ w = w' := by
  have HU := Lib.hid (fun w => unit_yes re im n c r w h)
  obtain ⟨h1, h2, hx, hy, h3, h4, h5, h6⟩ := h
  have hr := rest_eq t n h1
  rw [if_neg (by omega)] at hr
  obtain ⟨hb1, hb2⟩ := tmod_bd t n h1
  have hm1 := Int.emod_nonneg t (by omega : n ≠ 0)
  have hm2 := Int.emod_lt_of_pos t (by omega : 0 < n)
  obtain ⟨x1, b1, i1⟩ := add_int hx (ofInt (t % n) (by omega)) (by omega)
  obtain ⟨y1, b2, i2⟩ := add_int hy isInt_zero (by omega)
  rw [Int.add_zero] at i2
  have s1 : ∀ W, (binOp .add 45 (.complex .f64 re im) (.complex .f64 (floatOfInt .f64 (t.tmod n)) 0)).run Try.prog W = .ok (.complex .f64 x1 y1) W := by rw [hr]; exact csum (.inl rfl) b1 b2
  obtain ⟨x2, b3, i3⟩ := sub_int i1 (ofInt n (by omega)) (by omega)
  obtain ⟨y2, b4, i4⟩ := sub_int i2 isInt_zero (by omega)
  rw [Int.sub_zero] at i4
  have s2 : ∀ W, (binOp .sub 45 (.complex .f64 x1 y1) (.complex .f64 (floatOfInt .f64 n) 0)).run Try.prog W = .ok (.complex .f64 x2 y2) W := csum (.inr rfl) b3 b4
  have t1 : (FloatKind.f64.format.order x1 (floatOfInt .f64 n) == some .gt || FloatKind.f64.format.order x1 (floatOfInt .f64 n) == some .eq) = true := geq_int i1 (ofInt n (by omega)) ho
  have I3 := Lib.hid i3
  have I4 := Lib.hid i4
  clear hx hy b1 b2 b3 b4 i1 i2 i3 i4 ho hr hm1 hm2
  refine ⟨_, _, I3.out, I4.out, fun w => ?_⟩
  clear I3 I4
  go_enter Try.func25, Try.ntmps25
  go_wp2_with (go_at_call 26; refine (HU.out _).mono ?_; rintro e w1 ⟨rfl, rfl⟩)
  go_ret2
  exact ⟨rfl, rfl⟩

theorem turn_pi (re im : Nat) (n c r t : Int) (h : At re im n c r) (ht : -9223372036854775808 ≤ t ∧ t ≤ 9223372036854775807) (hn : 0 ≤ t.tmod n) (ho : c + t % n < n) :
    ∃ x y, IsInt x (c + t % n) ∧ IsInt y r ∧ ∀ w, Calls Try.prog 25 #[.complex .f64 re im, .int .i64 t, .int .i64 n] w fun e w' => e = .returned (.tuple #[.complex .f64 x y, .bool true]) ∧ w = w' := by
  have HU := Lib.hid (fun w => unit_yes re im n c r w h)
  obtain ⟨h1, h2, hx, hy, h3, h4, h5, h6⟩ := h
  have hr := rest_eq t n h1
  rw [if_neg (by omega)] at hr
  obtain ⟨hb1, hb2⟩ := tmod_bd t n h1
  have hm1 := Int.emod_nonneg t (by omega : n ≠ 0)
  have hm2 := Int.emod_lt_of_pos t (by omega : 0 < n)
  obtain ⟨x1, b1, i1⟩ := add_int hx (ofInt (t % n) (by omega)) (by omega)
  obtain ⟨y1, b2, i2⟩ := add_int hy isInt_zero (by omega)
  rw [Int.add_zero] at i2
  have s1 : ∀ W, (binOp .add 45 (.complex .f64 re im) (.complex .f64 (floatOfInt .f64 (t.tmod n)) 0)).run Try.prog W = .ok (.complex .f64 x1 y1) W := by rw [hr]; exact csum (.inl rfl) b1 b2
  have t1 : (FloatKind.f64.format.order x1 (floatOfInt .f64 n) == some .gt || FloatKind.f64.format.order x1 (floatOfInt .f64 n) == some .eq) = false := ngeq_int i1 (ofInt n (by omega)) ho
  have I3 := Lib.hid i1
  have I4 := Lib.hid i2
  clear hx hy b1 b2 i1 i2 ho hr hm1 hm2
  refine ⟨_, _, I3.out, I4.out, fun w => ?_⟩
  clear I3 I4
  go_enter Try.func25, Try.ntmps25
  go_wp2_with (go_at_call 26; refine (HU.out _).mono ?_; rintro e w1 ⟨rfl, rfl⟩)
  go_ret2
  exact ⟨rfl, rfl⟩

/-- the column by a turn -/
def turned (c t n : Int) : Int := if c + t % n < n then c + t % n else c + t % n - n
theorem turned_mod (c t n : Int) (h0 : 0 ≤ c) (h1 : c < n) : turned c t n = (c + t) % n := by
  have hm1 := Int.emod_nonneg t (by omega : n ≠ 0)
  have hm2 := Int.emod_lt_of_pos t (by omega : 0 < n)
  have e : (c + t) % n = (c + t % n) % n := by simp
  rw [e]
  unfold turned
  split
  · exact (Int.emod_eq_of_lt (by omega) (by omega)).symm
  · have e2 : (c + t % n) % n = (c + t % n - n) % n := by simp
    rw [e2]
    exact (Int.emod_eq_of_lt (by omega) (by omega)).symm

theorem turn_fix (re im : Nat) (n c r t : Int) (h : At re im n c r) (ht : -9223372036854775808 ≤ t ∧ t ≤ 9223372036854775807) :
    ∃ x y, IsInt x ((c + t) % n) ∧ IsInt y r ∧ ∀ w, Calls Try.prog 25 #[.complex .f64 re im, .int .i64 t, .int .i64 n] w fun e w' => e = .returned (.tuple #[.complex .f64 x y, .bool true]) ∧ w = w' := by
  have e := turned_mod c t n h.2.2.2.2.1 h.2.2.2.2.2.1
  rw [← e]; unfold turned
  by_cases hn : t.tmod n < 0
  · by_cases ho : c + t % n < n
    · rw [if_pos ho]; exact turn_ni re im n c r t h ht hn ho
    · rw [if_neg ho]; exact turn_no re im n c r t h ht hn (by omega)
  · by_cases ho : c + t % n < n
    · rw [if_pos ho]; exact turn_pi re im n c r t h ht (by omega) ho
    · rw [if_neg ho]; exact turn_po re im n c r t h ht (by omega) (by omega)
theorem turn_yes (re im : Nat) (n c r t : Int) (w : World) (h : At re im n c r) (ht : -9223372036854775808 ≤ t ∧ t ≤ 9223372036854775807) :
    Calls Try.prog 25 #[.complex .f64 re im, .int .i64 t, .int .i64 n] w (Spot ((c + t) % n) r w) := by
  obtain ⟨x, y, i1, i2, hc⟩ := turn_fix re im n c r t h ht
  exact (hc w).mono fun e w' ⟨he, hw⟩ => ⟨x, y, he, i1, i2, hw⟩

theorem turn_none (re im : Nat) (n t : Int) (w : World) (h : ∀ c r, ¬ At re im n c r) : Calls Try.prog 25 #[.complex .f64 re im, .int .i64 t, .int .i64 n] w fun e w' => e = .returned (.tuple #[.complex .f64 0 0, .bool false]) ∧ w = w' := by
  have HU := Lib.hid (unit_no re im n w h)
  clear h
  go_enter Try.func25, Try.ntmps25
  go_wp2_with (go_at_call 26; refine HU.out.mono ?_; rintro e w1 ⟨rfl, rfl⟩)
  go_ret2
  exact ⟨rfl, rfl⟩

end Go.Proofs.Ytaipmnelcpilaaa.Plane
