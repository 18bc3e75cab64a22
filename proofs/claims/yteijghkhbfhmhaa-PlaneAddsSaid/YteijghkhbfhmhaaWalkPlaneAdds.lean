/- How many units lie between adds up, and is one more for the next unit: the call returns true whatever the input. No condition. -/
import Derived.Test.YteijghkhbfhmhaaPlaneMore
import Derived.Test.YteijghkhbfhmhaaSees
namespace Go.Proofs.Yteijghkhbfhmhaa.planeAdds
open Go.RowKit Go.FInt Go.Sees Go.Proofs.Yteijghkhbfhmhaa.Plane
set_option linter.unusedVariables false
set_option linter.unusedSimpArgs false

theorem div_small (k n : Int) (h1 : 1 ≤ n) (h3 : 0 ≤ k) (h : k < 2147483648) : k / n < 2147483648 := by
  have : k / n ≤ k := Int.ediv_le_self n h3
  omega

theorem many (a b c n : Int) (w : World) (h1 : 1 ≤ n) (h2 : n ≤ 16) (ha : 0 ≤ a ∧ a ≤ 4294967295) (hb : 0 ≤ b ∧ b ≤ 4294967295) (hc : 0 ≤ c ∧ c ≤ 4294967295) :
    Calls Try.prog 7 #[.int .u32 a, .int .u32 b, .int .u32 c, .int .i64 n] w fun e w' => e = .returned (.bool true) ∧ Below w.heap.size w w' := by
  have a1 : 0 ≤ a % 2147483648 := by omega
  have a2 : a % 2147483648 < 2147483648 := by omega
  have b1 : 0 ≤ b % 2147483648 := by omega
  have b2 : b % 2147483648 < 2147483648 := by omega
  have c1 : 0 ≤ c % 2147483648 := by omega
  have c2 : c % 2147483648 < 2147483648 := by omega
  obtain ⟨ha1, ha2⟩ := ha
  obtain ⟨hb1, hb2⟩ := hb
  obtain ⟨hc1, hc2⟩ := hc
  go_enter Try.func7, Try.ntmps7
  go_wp2_with fail
  refine (alive_any _).mono ?_
  rintro e wA ⟨rfl, mA, rfl⟩
  go_wp2_with fail
  refine (place_here _ n _ h1 h2 a1 (div_small _ n h1 a1 a2) (by omega)).mono ?_
  rintro e w1 ⟨x1, y1, rfl, hx, m1, rfl⟩
  have HX := Lib.hid hx
  clear hx
  go_wp2_with fail
  refine (place_here _ n _ h1 h2 b1 (div_small _ n h1 b1 b2) (by omega)).mono ?_
  rintro e w2 ⟨x2, y2, rfl, hy, m2, rfl⟩
  have HY := Lib.hid hy
  clear hy
  go_wp2_with fail
  refine (place_here _ n _ h1 h2 c1 (div_small _ n h1 c1 c2) (by omega)).mono ?_
  rintro e w3 ⟨x3, y3, rfl, hz, m3, rfl⟩
  have HZ := Lib.hid hz
  clear hz
  go_wp2_with fail
  refine (between_here _ _ _ _ _ _ n _ HX.out HY.out).mono ?_
  rintro e w4 ⟨rfl, rfl⟩
  go_wp2_with fail
  refine (between_here _ _ _ _ _ _ n _ HY.out HZ.out).mono ?_
  rintro e w5 ⟨rfl, rfl⟩
  go_wp2_with fail
  refine (between_here _ _ _ _ _ _ n _ HX.out HZ.out).mono ?_
  rintro e w6 ⟨rfl, rfl⟩
  have hs : ((b % 2147483648 - a % 2147483648 + (c % 2147483648 - b % 2147483648) : Int) == c % 2147483648 - a % 2147483648) = true := by rw [beq_iff_eq]; omega
  have hs2 : ((b % 2147483648 - a % 2147483648 + (c % 2147483648 - b % 2147483648) : Int) != c % 2147483648 - a % 2147483648) = false := by rw [bne, hs]; rfl
  go_wp2_with fail
  refine (refOk_yes _ n _ h1 h2 a1 (div_small _ n h1 a1 a2) (by omega)).mono ?_
  rintro e w7 ⟨rfl, rfl⟩
  go_wp2_with fail
  by_cases hk : (c % 2147483648 + 1) / n < 2147483648
  · refine (step_here _ _ _ n _ HZ.out hk).mono ?_
    rintro e w8 ⟨p, q, rfl, hp, rfl⟩
    have HP := Lib.hid hp
    clear hp hk
    go_wp2_with fail
    refine (between_here _ _ _ _ _ _ n _ HX.out HP.out).mono ?_
    rintro e w9 ⟨rfl, rfl⟩
    have hs3 : ((c % 2147483648 + 1 - a % 2147483648 : Int) == c % 2147483648 - a % 2147483648 + 1) = true := by rw [beq_iff_eq]; omega
    go_wp2_with fail
    refine (alive_any _).mono ?_
    rintro e wB ⟨rfl, mB, rfl⟩
    go_wp2
    go_ret
    exact ⟨rfl, by repeat (first | exact Below.refl _ _ | apply bl)⟩
  · obtain ⟨hst, hl⟩ := step_stop _ _ _ n _ HZ.out hk
    have hg := geq_int HZ.out.2.2.2.2.2 (ofInt 2147483647 (by omega)) (by omega)
    refine hst.mono ?_
    rintro e w8 ⟨rfl, rfl⟩
    clear hst hl hk
    rw [show FloatKind.f64.nearest 2147483647 = 4746794007244308480 by decide +kernel] at hg
    go_wp2_with fail
    refine (alive_any _).mono ?_
    rintro e wB ⟨rfl, mB, rfl⟩
    go_wp2
    go_ret
    exact ⟨rfl, by repeat (first | exact Below.refl _ _ | apply bl)⟩

theorem planeAdds_walk (a0 : Int) (a1 : Int) (a2 : Int) (a3 : Int) (w : World) (w0 : (Lit.int .u32 a0).wf = true) (w1 : (Lit.int .u32 a1).wf = true) (w2 : (Lit.int .u32 a2).wf = true) (w3 : (Lit.int .i64 a3).wf = true) :
    Calls Try.prog 7 #[.int .u32 a0, .int .u32 a1, .int .u32 a2, .int .i64 a3] w fun e w' => e = .returned (.bool true) ∧ Below w.heap.size w w' := by
  by_cases h1 : 1 ≤ a3
  · by_cases h2 : a3 ≤ 16
    · exact many a0 a1 a2 a3 w h1 h2 (bounds_u32 w0) (bounds_u32 w1) (bounds_u32 w2)
    · have c4 : decide (16 < a3) = true := by simp; omega
      go_enter Try.func7, Try.ntmps7
      go_wp2_with (go_at_call 8; refine (alive_any _).mono ?_; rintro e wA ⟨rfl, mA, rfl⟩)
      go_ret
      exact ⟨rfl, by repeat (first | exact Below.refl _ _ | apply bl)⟩
  · have c4 : decide (a3 < 1) = true := by simp; omega
    go_enter Try.func7, Try.ntmps7
    go_wp2_with (go_at_call 8; refine (alive_any _).mono ?_; rintro e wA ⟨rfl, mA, rfl⟩)
    go_ret
    exact ⟨rfl, by repeat (first | exact Below.refl _ _ | apply bl)⟩
end Go.Proofs.Yteijghkhbfhmhaa.planeAdds
