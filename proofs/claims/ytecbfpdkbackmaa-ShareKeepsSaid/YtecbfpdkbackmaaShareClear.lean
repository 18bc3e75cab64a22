/- Layer share: all of a client's opens away. -/
import Derived.Test.YtecbfpdkbackmaaShareDelete2
namespace Go.Proofs.Ytecbfpdkbackmaa.Share
open Go.RowKit Go.Shelf Go.Blk Go.Proofs.Ytecbfpdkbackmaa.P11 Go.Proofs.YtecbfpdkbackmaaW.PrintWords Go.Proofs.YtecbfpdkbackmaaW.PrintLast Go.Proofs.YtecbfpdkbackmaaW.PrintMore
set_option linter.unusedVariables false
set_option linter.unusedSimpArgs false

def clearF (l : List S27) (client : Int) : List S27 := l.filter (fun x => !(x.f0 == client))

theorem right_len {l : List S27} (h : rightB l = true) : l.length ≤ 12 := by
  unfold rightB at h; simp only [Bool.and_eq_true, decide_eq_true_eq] at h; exact h.1

set_option maxHeartbeats 1000000 in
theorem clear_no (A0 : Option Addr) (c0 : Nat) (l0 : List S27) (client : Int) (w : World) (hr0 : Kd.C k27 w A0 l0.length l0) (hc0 : l0.length ≤ c0) (hr : rightB l0 = false) :
    Calls Try.prog 23 #[.slice A0 l0.length c0, .int .u32 client] w fun e w' => e = .returned (.tuple #[.slice none 0 0, .int .i64 1]) ∧ Below w.heap.size w w' := by
  have HC := Lib.hid (fun W h => right_calls A0 c0 l0 W h hc0)
  rw [hr] at HC
  have HR := Lib.hid hr0
  clear hr hr0 hc0
  go_enter Try.func23, Try.ntmps23
  go_wp2_with (go_at_call 11; refine (HC.out _ (Kd.C_below HR.out (boxed w _))).mono ?_; rintro e w1 ⟨rfl, hb⟩)
  go_ret2
  exact ⟨rfl, (boxed w _).trans (hb.mono (by simp))⟩

set_option maxHeartbeats 1000000 in
theorem clear_yes (A0 : Option Addr) (c0 : Nat) (l0 : List S27) (client : Int) (w : World) (hr0 : Kd.C k27 w A0 l0.length l0) (hc0 : l0.length ≤ c0) (hr : rightB l0 = true) :
    Calls Try.prog 23 #[.slice A0 l0.length c0, .int .u32 client] w fun e w' => ∃ v0, e = .returned (.tuple #[v0, .int .i64 0]) ∧ Kd.R k27 27 w' w.heap.size (fun _ => True) v0 (clearF l0 client) ∧ Below w.heap.size w w' := by
  have HC := Lib.hid (fun W h => right_calls A0 c0 l0 W h hc0)
  have HL := Lib.hid (right_len hr)
  rw [hr] at HC
  have HR := Lib.hid hr0
  have HP := Lib.hid (clear_predF client w.heap.size (w.alloc (.cells #[.int .u32 client] 23)) (by simp) (by simp))
  clear hr hr0 hc0
  go_enter Try.func23, Try.ntmps23
  go_wp2_with (first | (go_at_call 11; refine (HC.out _ (Kd.C_below HR.out (boxed w _))).mono ?_; rintro e w1 ⟨rfl, hb⟩; have HB1 := Lib.hid hb; clear hb) | (go_at_call 39; refine (clone_calls A0 c0 l0 _ (Kd.C_below (Kd.C_below HR.out (boxed w _)) HB1.out) (by have := HL.out; omega)).mono ?_; rintro e w2 ⟨v, rfl, ho, hb⟩; have HO2 := Lib.hid ho; have HB2 := Lib.hid hb; clear ho hb) | (go_at_call 41; refine (delete_calls _ _ _ l0 _ _ _ (HB1.out.trans (HB2.out.mono HB1.out.size)) (Kd.R_lower HO2.out HB1.out.size) (by have := HL.out; omega) (enters_of Try.func43 (by kernel_rfl) rfl) HP.out).mono ?_; rintro e w3 ⟨v', rfl, ho, hb⟩; have HO3 := Lib.hid ho; have HB3 := Lib.hid hb; clear ho hb))
  go_ret2
  exact ⟨_, rfl, Kd.R_lower HO3.out (by simp), (boxed w _).trans (HB3.out.mono (by simp))⟩
end Go.Proofs.Ytecbfpdkbackmaa.Share
