-- Written by a program of this session (wip/tools/printplus.py) over the kit's printer: some functions are given by hand.
import Derived.Test.YtmdojgkgohmghaaP04x0
namespace Go.Proofs.Ytmdojgkgohmghaa.P04
open Go.RowKit Go.Proofs.YtmdojgkgohmghaaW.PrintWords Go.Proofs.YtmdojgkgohmghaaW.PrintLast Go.Proofs.YtmdojgkgohmghaaW.PrintMore
attribute [local go_sem] max2_int min2_int max_two min_two max_three min_three max_four min_four   -- for this text's walks alone
set_option linter.unusedVariables false
set_option maxRecDepth 100000
set_option linter.unusedSimpArgs false

/-! ### lamellalaw04_few: function 22 -/
/-! ### lamellalaw04_whole: function 19 -/
def lamellalaw04_whole.l0 : Nat → ByteArray → Option (ByteArray)
  | 0, _ => none
  | k + 1, x0 => if (x0.size : Int) < 256 then (if x0.size + 1 ≤ 9223372036854775807 then (lamellalaw04_whole.l0 k (x0 ++ (⟨#[0]⟩ : ByteArray))) else (none)) else (if 0 ≤ 256 then (if 256 ≤ (x0.size : Int) then (some (x0.extract 0 256)) else (none)) else (none))
def lamellalaw04_whole.f (k : Nat) (a0 : ByteArray) : Option (ByteArray) := lamellalaw04_whole.l0 k a0
set_option maxHeartbeats 8000000 in
set_option maxRecDepth 100000 in
theorem lamellalaw04_whole.calls (k : Nat) (a0 : ByteArray) (r : ByteArray) (w : World) (h : lamellalaw04_whole.f k a0 = some r) :
    Calls Try.prog 19 #[.string a0] w fun e w' => e = .returned (.string r) ∧ Drawn0 w w' := by
  have H : (lamellalaw04_whole.l0 k a0) = some r := h
  clear h
  have H' := Aside0.mk H
  clear H
  go_enter Try.func19, Try.ntmps19
  go_wp2
  go_loopg [0] k (fun kq v0 w' => ∃ (x0_1 : ByteArray), v0 = .string x0_1 ∧ Aside0 (lamellalaw04_whole.l0 kq x0_1 = some r) ∧ Aside0 (kq ≤ k) ∧ Drawn0 w w')
  case atStart => exact ⟨(a0), (by first | rfl | (simp; done) | (simp [*]; done)), H', ⟨Nat.le_refl _⟩, by repeat (first | exact Drawn0.refl _ | apply Drawn0.step)⟩
  case round =>
    clear H'
    try clear c1
    obtain ⟨x0_1, rfl, HA, HK1, ⟨m1, rfl⟩⟩ := hrel
    cases gk with
    | zero => exact absurd HA.out (by simp [lamellalaw04_whole.l0])
    | succ k1 =>
      have H := HA.out
      clear HA
      simp only [lamellalaw04_whole.l0] at H
      by_cases c2 : (x0_1.size : Int) < 256
      · rw [if_pos c2] at H
        have c2b0 : decide ((x0_1.size : Int) < 256) = true := decide_eq_true c2
        have c2b1 : decide (x0_1.size < 256) = true := decide_eq_true (by omega)
        clear c2
        by_cases c3 : x0_1.size + 1 ≤ 9223372036854775807
        · rw [if_pos c3] at H
          have c3b0 := eq_true c3
          have c3b1 : decide (x0_1.size + 1 ≤ 9223372036854775807) = true := decide_eq_true c3
          try have c3b2 : (9223372036854775807 < x0_1.size + 1) = False := eq_false (Nat.not_lt.2 c3)
          have H' := Aside0.mk H
          clear H
          go_wp2
          go_roundg k1
          case measure => have := HK1.out; omega
          case rel => exact ⟨(x0_1 ++ (⟨#[0]⟩ : ByteArray)), (by first | rfl | (simp; done) | (simp [*]; done)), H', ⟨by have := HK1.out; omega⟩, by repeat (first | exact Drawn0.refl _ | apply Drawn0.step)⟩
        · rw [if_neg c3] at H
          exact absurd H (by simp)
      · rw [if_neg c2] at H
        have c2b0 : decide ((x0_1.size : Int) < 256) = false := decide_eq_false c2
        have c2b1 : decide (x0_1.size < 256) = false := decide_eq_false (by omega)
        clear c2
        by_cases c4 : 0 ≤ 256
        · rw [if_pos c4] at H
          have c4b0 := eq_true c4
          have c4b1 : decide (0 ≤ 256) = true := decide_eq_true c4
          clear c4
          by_cases c5 : 256 ≤ (x0_1.size : Int)
          · rw [if_pos c5] at H
            have c5b0 := eq_true c5
            have c5b1 : decide (256 ≤ (x0_1.size : Int)) = true := decide_eq_true c5
            clear c5
            obtain rfl := Option.some.inj H
            go_wp2
            all_goals
              go_ret
              exact ⟨by first | rfl | (simp; done) | (simp [*]; done), by repeat (first | exact Drawn0.refl _ | apply Drawn0.step)⟩
          · rw [if_neg c5] at H
            exact absurd H (by simp)
        · rw [if_neg c4] at H
          exact absurd H (by simp)

/-! ### lamellalaw04_same: function 14 -/
end Go.Proofs.Ytmdojgkgohmghaa.P04
