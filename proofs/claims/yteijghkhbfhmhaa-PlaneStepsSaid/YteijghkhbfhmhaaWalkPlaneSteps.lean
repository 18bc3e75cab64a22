/- The next unit's place is the document's: the call returns true whatever the input. No condition. -/
import Derived.Test.YteijghkhbfhmhaaPlaneMore
import Derived.Test.YteijghkhbfhmhaaSees
namespace Go.Proofs.Yteijghkhbfhmhaa.planeSteps
open Go.RowKit Go.FInt Go.Sees Go.Proofs.Yteijghkhbfhmhaa.Plane
set_option linter.unusedVariables false
set_option linter.unusedSimpArgs false

/-- a unit that may be -/
def May (k n : Int) : Prop := 1 ≤ n ∧ n ≤ 16 ∧ 0 ≤ k ∧ k / n < 2147483648
/-- the second half's way: 0: not asked; 1: asked -/
theorem none_way (k n : Int) (x y : Nat) (w : World) (hk : -9223372036854775808 ≤ k ∧ k ≤ 9223372036854775807) (h : ∀ c r, ¬ At x y n c r) :
    Calls Try.prog 4 #[.int .i64 k, .int .i64 n, .float .f64 x, .float .f64 y] w fun e w' => e = .returned (.bool true) ∧ Below w.heap.size w w' := by
  have H := Lib.hid h
  have z1 := eql_int isInt_zero isInt_zero rfl
  clear h
  go_enter Try.func4, Try.ntmps4
  go_wp2_with (first | (go_at_call 8; refine (alive_any _).mono ?_; rintro e wA ⟨rfl, mA, rfl⟩) | (go_at_call 15; refine (step_no _ _ _ _ H.out).mono ?_; rintro e w1 ⟨rfl, rfl⟩) | (go_at_call 11; refine (refUnit_no _ _ _ _ H.out).mono ?_; rintro e w1 ⟨rfl, rfl⟩))
  go_ret
  exact ⟨rfl, by repeat (first | exact Below.refl _ _ | apply bl)⟩

theorem last_way (k n u : Int) (x y : Nat) (w : World) (hk : -9223372036854775808 ≤ k ∧ k ≤ 9223372036854775807) (h : Here x y u n) (hu : ¬ (u + 1) / n < 2147483648) :
    Calls Try.prog 4 #[.int .i64 k, .int .i64 n, .float .f64 x, .float .f64 y] w fun e w' => e = .returned (.bool true) ∧ Below w.heap.size w w' := by
  have H := Lib.hid h
  have z1 := eql_int isInt_zero isInt_zero rfl
  obtain ⟨hb1, hb2⟩ := here_bd h
  have HN := Lib.hid (fun (hh : 1 ≤ n ∧ n ≤ 16 ∧ 0 ≤ u + 1 ∧ (u + 1) / n < 2147483648) => hu hh.2.2.2)
  have HS := Lib.hid (fun W => (step_stop x y u n W h hu).1)
  clear h hu
  go_enter Try.func4, Try.ntmps4
  go_wp2_with (first | (go_at_call 8; refine (alive_any _).mono ?_; rintro e wA ⟨rfl, mA, rfl⟩) | (go_at_call 15; refine (HS.out _).mono ?_; rintro e w1 ⟨rfl, rfl⟩) | (go_at_call 11; refine (refUnit_here _ _ _ _ _ H.out).mono ?_; rintro e w1 ⟨rfl, rfl⟩) | (go_at_call 12; refine (refOk_no _ _ _ HN.out (by omega)).mono ?_; rintro e w1 ⟨rfl, rfl⟩))
  go_ret
  exact ⟨rfl, by repeat (first | exact Below.refl _ _ | apply bl)⟩

/-- the first half goes on -/
theorem first_half (k n u : Int) (x y : Nat) (w : World) (hk1 : -9223372036854775808 ≤ k) (hk2 : k ≤ 9223372036854775807) (h : Here x y u n) (hu : (u + 1) / n < 2147483648)
    (q : May k n ∧ k ≠ 9223372036854775807 ∧ May (k + 1) n ∨ ¬ May k n ∨ k = 9223372036854775807 ∨ (May k n ∧ k ≠ 9223372036854775807 ∧ ¬ May (k + 1) n)) :
    Calls Try.prog 4 #[.int .i64 k, .int .i64 n, .float .f64 x, .float .f64 y] w fun e w' => e = .returned (.bool true) ∧ Below w.heap.size w w' := by
  have H := Lib.hid h
  obtain ⟨hb1, hb2⟩ := here_bd h
  have h1 := h.1
  have h2 := h.2.1
  have hu0 : 0 ≤ u + 1 := by omega
  have HU := Lib.hid hu
  have Q := Lib.hid q
  clear h hu q
  go_enter Try.func4, Try.ntmps4
  go_wp2_with fail
  refine (alive_any _).mono ?_
  rintro e wA ⟨rfl, mA, rfl⟩
  go_wp2_with fail
  refine (step_here _ _ u n _ H.out HU.out).mono ?_
  rintro e w1 ⟨p, q, rfl, hp, rfl⟩
  have HP := Lib.hid hp
  clear hp
  go_wp2_with fail
  refine (refUnit_here _ _ u n _ H.out).mono ?_
  rintro e w2 ⟨rfl, rfl⟩
  go_wp2_with fail
  refine (refOk_yes _ _ _ h1 h2 hu0 HU.out (by omega)).mono ?_
  rintro e w3 ⟨rfl, rfl⟩
  go_wp2_with fail
  refine (refPlace_here (u + 1) n _ h1 h2 hu0 HU.out (by omega)).mono ?_
  rintro e w4 ⟨a, b, rfl, hab, m4, rfl⟩
  have HAB := Lib.hid hab
  clear hab
  go_wp2_with fail
  refine (same_here _ _ _ _ _ n _ HP.out HAB.out).mono ?_
  rintro e w5 ⟨rfl, rfl⟩
  go_wp2_with fail
  rcases Q.out with ⟨⟨_, _, k3, k4⟩, km, ⟨_, _, l3, l4⟩⟩ | hno | hmax | ⟨⟨_, _, k3, k4⟩, km, hno⟩
  · have kb : ((k : Int) == 9223372036854775807) = false := by simp; omega
    have K4 := Lib.hid k4
    have L4 := Lib.hid l4
    clear k4 l4
    refine (refOk_yes _ _ _ h1 h2 k3 K4.out (by omega)).mono ?_
    rintro e w6 ⟨rfl, rfl⟩
    go_wp2_with fail
    refine (refOk_yes _ _ _ h1 h2 l3 L4.out (by omega)).mono ?_
    rintro e w6 ⟨rfl, rfl⟩
    go_wp2_with fail
    refine (refPlace_here k n _ h1 h2 k3 K4.out (by omega)).mono ?_
    rintro e w4 ⟨c, d, rfl, hcd, m5, rfl⟩
    have HCD := Lib.hid hcd
    clear hcd
    go_wp2_with fail
    refine (step_here _ _ k n _ HCD.out L4.out).mono ?_
    rintro e w1 ⟨p', q', rfl, hp, rfl⟩
    have HP' := Lib.hid hp
    clear hp
    go_wp2_with fail
    refine (alive_any _).mono ?_
    rintro e wA ⟨rfl, mA, rfl⟩
    go_wp2_with fail
    refine (refPlace_here (k + 1) n _ h1 h2 l3 L4.out (by omega)).mono ?_
    rintro e w4 ⟨f, g, rfl, hfg, m5, rfl⟩
    have HFG := Lib.hid hfg
    clear hfg
    go_wp2_with fail
    refine (same_here _ _ _ _ _ n _ HP'.out HFG.out).mono ?_
    rintro e w5 ⟨rfl, rfl⟩
    go_wp2
    go_ret
    exact ⟨rfl, by repeat (first | exact Below.refl _ _ | apply bl)⟩
  · have HN := Lib.hid hno
    clear hno
    refine (refOk_no _ _ _ HN.out (by omega)).mono ?_
    rintro e w6 ⟨rfl, rfl⟩
    go_wp2_with (go_at_call 8; refine (alive_any _).mono ?_; rintro e wA ⟨rfl, mA, rfl⟩)
    go_ret
    exact ⟨rfl, by repeat (first | exact Below.refl _ _ | apply bl)⟩
  · have hok : ∃ b : Bool, ∀ W, Calls Try.prog 12 #[.int .i64 k, .int .i64 n] W fun e w' => e = .returned (.bool b) ∧ W = w' := by
      by_cases hm : May k n
      · exact ⟨true, fun W => refOk_yes k n W hm.1 hm.2.1 hm.2.2.1 hm.2.2.2 (by omega)⟩
      · exact ⟨false, fun W => refOk_no k n W hm (by omega)⟩
    obtain ⟨b, hok⟩ := hok
    have kb : ((k : Int) == 9223372036854775807) = true := by simp; omega
    clear hmax
    refine (hok _).mono ?_
    rintro e w6 ⟨rfl, rfl⟩
    clear hok
    cases b
    all_goals
      go_wp2_with (go_at_call 8; refine (alive_any _).mono ?_; rintro e wA ⟨rfl, mA, rfl⟩)
      go_ret
      exact ⟨rfl, by repeat (first | exact Below.refl _ _ | apply bl)⟩
  · have kb : ((k : Int) == 9223372036854775807) = false := by simp; omega
    have K4 := Lib.hid k4
    have HN := Lib.hid hno
    clear k4 hno
    refine (refOk_yes _ _ _ h1 h2 k3 K4.out (by omega)).mono ?_
    rintro e w6 ⟨rfl, rfl⟩
    go_wp2_with fail
    refine (refOk_no _ _ _ HN.out (by omega)).mono ?_
    rintro e w6 ⟨rfl, rfl⟩
    go_wp2_with (go_at_call 8; refine (alive_any _).mono ?_; rintro e wA ⟨rfl, mA, rfl⟩)
    go_ret
    exact ⟨rfl, by repeat (first | exact Below.refl _ _ | apply bl)⟩

theorem planeSteps_walk (a0 : Int) (a1 : Int) (a2 : Nat) (a3 : Nat) (w : World) (w0 : (Lit.int .i64 a0).wf = true) (w1 : (Lit.int .i64 a1).wf = true) :
    Calls Try.prog 4 #[.int .i64 a0, .int .i64 a1, .float .f64 a2, .float .f64 a3] w fun e w' => e = .returned (.bool true) ∧ Below w.heap.size w w' := by
  have b0 := bounds_i64 w0
  by_cases g : ∃ c r, At a2 a3 a1 c r
  · obtain ⟨c, r, g⟩ := g
    have h := g.here
    by_cases hu : (r * a1 + c + 1) / a1 < 2147483648
    · refine first_half a0 a1 _ a2 a3 w b0.1 b0.2 h hu ?_
      by_cases hm : May a0 a1
      · by_cases hx : a0 = 9223372036854775807
        · exact .inr (.inr (.inl hx))
        · by_cases hn : May (a0 + 1) a1
          · exact .inl ⟨hm, hx, hn⟩
          · exact .inr (.inr (.inr ⟨hm, hx, hn⟩))
      · exact .inr (.inl hm)
    · exact last_way a0 a1 _ a2 a3 w b0 h hu
  · exact none_way a0 a1 a2 a3 w b0 (fun c r k => g ⟨c, r, k⟩)
end Go.Proofs.Yteijghkhbfhmhaa.planeSteps
