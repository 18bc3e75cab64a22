/- Layer hold: who asks for a hold: the walk, a theorem for each way; then as the printed texts call it. -/
import Derived.Test.YtkcacfnefhakbaaHoldPlain
import Derived.Test.YtkcacfnefhakbaaHoldSort
import Derived.Test.YtkcacfnefhakbaaP12x4
namespace Go.Proofs.Ytkcacfnefhakbaa.HoldL
open Go.RowKit Go.Shelf Go.Blk Go.Proofs.Ytkcacfnefhakbaa.P12 Go.Proofs.YtkcacfnefhakbaaW.PrintWords Go.Proofs.YtkcacfnefhakbaaW.PrintLast Go.Proofs.YtkcacfnefhakbaaW.PrintMore
attribute [local go_sem] max2_int max_two
set_option linter.unusedVariables false
set_option linter.unusedSimpArgs false

theorem row_one {w : World} {g : Nat} {o : S40} (h : w.heap[g]? = some (.cells (cellsOf o) 40 (0, 0))) : Kd.C k40 w (some ⟨g, 0, none⟩) 1 [o] := by
  refine ⟨rfl, by decide, fun _ => ⟨_, rfl, fun j p hj => ?_⟩⟩
  have c := blk2 h
  match j, hj with
  | 0, hj =>
    obtain rfl : o = p := by simpa using hj
    refine ⟨_, rfl, k40_mk w o, fun i u hi => ?_⟩
    match i, hi with
    | 0, hi => obtain rfl : Value.int .u32 o.f0 = u := by simpa using hi
               exact c.1
    | 1, hi => obtain rfl : Value.int .u32 o.f1 = u := by simpa using hi
               exact c.2.2.1
theorem set7 {w : World} {base b : Nat} {v : Value} {xs : List S40} (h : Kd.R k40 40 w base (fun _ => True) v xs) (hb : b < base) (a0 a1 a2 a3 a4 a5 a6 : Value) : Kd.R k40 40 (((((((w.setCell ⟨b, 0, none⟩ a0).setCell ⟨b, 1, none⟩ a1).setCell ⟨b, 2, none⟩ a2).setCell ⟨b, 3, none⟩ a3).setCell ⟨b, 4, none⟩ a4).setCell ⟨b, 5, none⟩ a5).setCell ⟨b, 6, none⟩ a6) base (fun _ => True) v xs :=
  R_low (R_low (R_low (R_low (R_low (R_low (R_low h hb _) hb _) hb _) hb _) hb _) hb _) hb _
theorem below7 {B b : Nat} {w0 w : World} (h : Below B w0 w) (hb : B ≤ b) (a0 a1 a2 a3 a4 a5 a6 : Value) : Below B w0 (((((((w.setCell ⟨b, 0, none⟩ a0).setCell ⟨b, 1, none⟩ a1).setCell ⟨b, 2, none⟩ a2).setCell ⟨b, 3, none⟩ a3).setCell ⟨b, 4, none⟩ a4).setCell ⟨b, 5, none⟩ a5).setCell ⟨b, 6, none⟩ a6) :=
  ((((((h.setCell hb _).setCell hb _).setCell hb _).setCell hb _).setCell hb _).setCell hb _).setCell hb _
theorem far7 {w : World} {g b : Nat} {q : Obj} (h : w.heap[g]? = some q) (hne : g ≠ b) (a0 a1 a2 a3 a4 a5 a6 : Value) : (((((((w.setCell ⟨b, 0, none⟩ a0).setCell ⟨b, 1, none⟩ a1).setCell ⟨b, 2, none⟩ a2).setCell ⟨b, 3, none⟩ a3).setCell ⟨b, 4, none⟩ a4).setCell ⟨b, 5, none⟩ a5).setCell ⟨b, 6, none⟩ a6).heap[g]? = some q :=
  set_far (set_far (set_far (set_far (set_far (set_far (set_far h hne _) hne _) hne _) hne _) hne _) hne _) hne _

set_option maxHeartbeats 4000000 in
theorem ask_no1 (f e u c : Int) (fc g : Bool) (A0 : Option Addr) (c0 : Nat) (l : List S40) (cl m : Int) (w : World) (hr0 : Kd.C k40 w A0 l.length l) (hc0 : l.length ≤ c0) (hl : l.length ≤ 100) (hr : rightB u c fc g l = false) :
    Calls Try.prog 17 #[.agg (lockA f e u c fc g (.slice A0 l.length c0)), .int .u32 cl, .int .u32 m] w fun ex w' => ∃ v, ex = .returned (.tuple #[.agg (lockA 0 0 0 0 false false v), .int .i64 0, .int .i64 1]) ∧ Kd.R k40 40 w' w.heap.size (fun _ => True) v [] ∧ Below w.heap.size w w' := by
  obtain ⟨w2, hw2⟩ : ∃ w2, (w.alloc (.cells (lockA f e u c fc g (.slice A0 l.length c0)) 25)).alloc (.cells zlock 25) = w2 := ⟨_, rfl⟩
  have hs2 : w2.heap.size = w.heap.size + 2 := by rw [← hw2]; simp
  have HB2 := Lib.hid (show Below w.heap.size w w2 by rw [← hw2]; have h1 := boxed w (.cells (lockA f e u c fc g (.slice A0 l.length c0)) 25); exact h1.alloc h1.size _)
  have BL2 := Lib.hid (show w2.heap[w.heap.size]? = some (.cells (lockA f e u c fc g (.slice A0 l.length c0)) 25 (0, 0)) by rw [← hw2]; exact alloc_old (alloc_at w _) _)
  have BZ2 := Lib.hid (show w2.heap[w.heap.size + 1]? = some (.cells zlock 25 (0, 0)) by rw [← hw2]; have := alloc_at (w.alloc (.cells (lockA f e u c fc g (.slice A0 l.length c0)) 25)) (.cells zlock 25); simpa using this)
  have HRT := Lib.hid (fun W h => hold_Right.calls 4200 f e u c fc g A0 c0 l false W h hc0 (by rw [right_f f e u c fc g l (by omega) 4200 (by omega), hr]))
  have HR := Lib.hid hr0
  have HL := Lib.hid hl
  have hx := blk7 BL2.out
  have hz := blk7 BZ2.out
  have HS2 := Lib.hid (show w.heap.size + 2 ≤ w2.heap.size by omega)
  clear hs2
  clear hr0 hc0 hl hr
  go_enter Try.func17, Try.ntmps17
  go_wp2_with (first | (go_at_call 9; refine (HRT.out _ (Kd.C_below HR.out HB2.out)).mono ?_; rintro ex w3 ⟨rfl, hb⟩; clear hw2; have HB3 := Lib.hid (HB2.out.trans (hb.mono HB2.out.size)); have HS3 := Lib.hid (Nat.le_trans HS2.out hb.size); have BL3 := Lib.hid (below_old BL2.out hb); have BZ3 := Lib.hid (below_old BZ2.out hb); clear hx hz; have hx := blk7 BL3.out; have hz := blk7 BZ3.out; clear hb))
  refine bodyPost_ret (results_list (rs := [.cell 6 25, .tmp 7, .tmp 8]) rfl (by simp) (.cell (w.heap.size + 1) 25 (zlock) (0, 0) _ rfl (put7 BZ3.out) Try.underlying25 rfl (by kernel_rfl) (.tmp (.tmp .nil)))) rfl ?_
  exact ⟨_, rfl, Kd.R_nil _ _ _ _ _, below7 HB3.out (by omega) _ _ _ _ _ _ _⟩

set_option maxHeartbeats 4000000 in
theorem ask_no2 (f e u c : Int) (fc g : Bool) (A0 : Option Addr) (c0 : Nat) (l : List S40) (cl m : Int) (w : World) (hr0 : Kd.C k40 w A0 l.length l) (hc0 : l.length ≤ c0) (hl : l.length ≤ 100) (hr : rightB u c fc g l = true) (hm : m < 1) :
    Calls Try.prog 17 #[.agg (lockA f e u c fc g (.slice A0 l.length c0)), .int .u32 cl, .int .u32 m] w fun ex w' => ∃ v, ex = .returned (.tuple #[.agg (lockA 0 0 0 0 false false v), .int .i64 0, .int .i64 1]) ∧ Kd.R k40 40 w' w.heap.size (fun _ => True) v [] ∧ Below w.heap.size w w' := by
  obtain ⟨w2, hw2⟩ : ∃ w2, (w.alloc (.cells (lockA f e u c fc g (.slice A0 l.length c0)) 25)).alloc (.cells zlock 25) = w2 := ⟨_, rfl⟩
  have hs2 : w2.heap.size = w.heap.size + 2 := by rw [← hw2]; simp
  have HB2 := Lib.hid (show Below w.heap.size w w2 by rw [← hw2]; have h1 := boxed w (.cells (lockA f e u c fc g (.slice A0 l.length c0)) 25); exact h1.alloc h1.size _)
  have BL2 := Lib.hid (show w2.heap[w.heap.size]? = some (.cells (lockA f e u c fc g (.slice A0 l.length c0)) 25 (0, 0)) by rw [← hw2]; exact alloc_old (alloc_at w _) _)
  have BZ2 := Lib.hid (show w2.heap[w.heap.size + 1]? = some (.cells zlock 25 (0, 0)) by rw [← hw2]; have := alloc_at (w.alloc (.cells (lockA f e u c fc g (.slice A0 l.length c0)) 25)) (.cells zlock 25); simpa using this)
  have HRT := Lib.hid (fun W h => hold_Right.calls 4200 f e u c fc g A0 c0 l true W h hc0 (by rw [right_f f e u c fc g l (by omega) 4200 (by omega), hr]))
  obtain ⟨os, hos⟩ : ∃ os, othersF l cl m = os := ⟨_, rfl⟩
  have HOT := Lib.hid (fun W h => hold_Others.calls 4200 f e u c fc g A0 c0 l cl m os W h hc0 (by rw [others_f f e u c fc g l cl m (by omega) 4200 (by omega), if_pos hr, hos]))
  obtain ⟨mo, hmo⟩ : ∃ mo, modeF l cl = mo := ⟨_, rfl⟩
  have HMO := Lib.hid (fun W h => hold_Mode.calls 4200 f e u c fc g A0 c0 l cl mo W h hc0 (by rw [mode_f f e u c fc g l cl (by omega) 4200 (by omega), if_pos hr, hmo]))
  have HFR := Lib.hid (fun W h => hold_fresh.calls f e u c fc g A0 c0 l f e u c fc g l W h hc0 (by unfold hold_fresh.f api_Holder.f; rw [if_pos hl]; rfl))
  obtain ⟨l5, hl5⟩ : ∃ l5, withoutF l cl = l5 := ⟨_, rfl⟩
  have hl5n : l5.length ≤ 100 := by rw [← hl5]; exact Nat.le_trans (List.length_filter_le _ _) hl
  have HWO := Lib.hid (fun W h => without_calls f e u c fc g A0 c0 l cl W h hl)
  rw [hl5] at HWO
  have HR := Lib.hid hr0
  have HL := Lib.hid hl
  have hx := blk7 BL2.out
  have hz := blk7 BZ2.out
  have HS2 := Lib.hid (show w.heap.size + 2 ≤ w2.heap.size by omega)
  clear hs2
  have hd1 : decide (m < 1) = true := decide_eq_true hm
  clear hr0 hc0 hl hr hm hos hmo hl5 hl5n
  go_enter Try.func17, Try.ntmps17
  go_wp2_with (first | (go_at_call 9; refine (HRT.out _ (Kd.C_below HR.out HB2.out)).mono ?_; rintro ex w3 ⟨rfl, hb⟩; clear hw2; have HB3 := Lib.hid (HB2.out.trans (hb.mono HB2.out.size)); have HS3 := Lib.hid (Nat.le_trans HS2.out hb.size); have BL3 := Lib.hid (below_old BL2.out hb); have BZ3 := Lib.hid (below_old BZ2.out hb); clear hx hz; have hx := blk7 BL3.out; have hz := blk7 BZ3.out; clear hb))
  refine bodyPost_ret (results_list (rs := [.cell 6 25, .tmp 7, .tmp 8]) rfl (by simp) (.cell (w.heap.size + 1) 25 (zlock) (0, 0) _ rfl (put7 BZ3.out) Try.underlying25 rfl (by kernel_rfl) (.tmp (.tmp .nil)))) rfl ?_
  exact ⟨_, rfl, Kd.R_nil _ _ _ _ _, below7 HB3.out (by omega) _ _ _ _ _ _ _⟩

set_option maxHeartbeats 4000000 in
theorem ask_no3 (f e u c : Int) (fc g : Bool) (A0 : Option Addr) (c0 : Nat) (l : List S40) (cl m : Int) (w : World) (hr0 : Kd.C k40 w A0 l.length l) (hc0 : l.length ≤ c0) (hl : l.length ≤ 100) (hr : rightB u c fc g l = true) (hm : 2 < m) :
    Calls Try.prog 17 #[.agg (lockA f e u c fc g (.slice A0 l.length c0)), .int .u32 cl, .int .u32 m] w fun ex w' => ∃ v, ex = .returned (.tuple #[.agg (lockA 0 0 0 0 false false v), .int .i64 0, .int .i64 1]) ∧ Kd.R k40 40 w' w.heap.size (fun _ => True) v [] ∧ Below w.heap.size w w' := by
  obtain ⟨w2, hw2⟩ : ∃ w2, (w.alloc (.cells (lockA f e u c fc g (.slice A0 l.length c0)) 25)).alloc (.cells zlock 25) = w2 := ⟨_, rfl⟩
  have hs2 : w2.heap.size = w.heap.size + 2 := by rw [← hw2]; simp
  have HB2 := Lib.hid (show Below w.heap.size w w2 by rw [← hw2]; have h1 := boxed w (.cells (lockA f e u c fc g (.slice A0 l.length c0)) 25); exact h1.alloc h1.size _)
  have BL2 := Lib.hid (show w2.heap[w.heap.size]? = some (.cells (lockA f e u c fc g (.slice A0 l.length c0)) 25 (0, 0)) by rw [← hw2]; exact alloc_old (alloc_at w _) _)
  have BZ2 := Lib.hid (show w2.heap[w.heap.size + 1]? = some (.cells zlock 25 (0, 0)) by rw [← hw2]; have := alloc_at (w.alloc (.cells (lockA f e u c fc g (.slice A0 l.length c0)) 25)) (.cells zlock 25); simpa using this)
  have HRT := Lib.hid (fun W h => hold_Right.calls 4200 f e u c fc g A0 c0 l true W h hc0 (by rw [right_f f e u c fc g l (by omega) 4200 (by omega), hr]))
  obtain ⟨os, hos⟩ : ∃ os, othersF l cl m = os := ⟨_, rfl⟩
  have HOT := Lib.hid (fun W h => hold_Others.calls 4200 f e u c fc g A0 c0 l cl m os W h hc0 (by rw [others_f f e u c fc g l cl m (by omega) 4200 (by omega), if_pos hr, hos]))
  obtain ⟨mo, hmo⟩ : ∃ mo, modeF l cl = mo := ⟨_, rfl⟩
  have HMO := Lib.hid (fun W h => hold_Mode.calls 4200 f e u c fc g A0 c0 l cl mo W h hc0 (by rw [mode_f f e u c fc g l cl (by omega) 4200 (by omega), if_pos hr, hmo]))
  have HFR := Lib.hid (fun W h => hold_fresh.calls f e u c fc g A0 c0 l f e u c fc g l W h hc0 (by unfold hold_fresh.f api_Holder.f; rw [if_pos hl]; rfl))
  obtain ⟨l5, hl5⟩ : ∃ l5, withoutF l cl = l5 := ⟨_, rfl⟩
  have hl5n : l5.length ≤ 100 := by rw [← hl5]; exact Nat.le_trans (List.length_filter_le _ _) hl
  have HWO := Lib.hid (fun W h => without_calls f e u c fc g A0 c0 l cl W h hl)
  rw [hl5] at HWO
  have HR := Lib.hid hr0
  have HL := Lib.hid hl
  have hx := blk7 BL2.out
  have hz := blk7 BZ2.out
  have HS2 := Lib.hid (show w.heap.size + 2 ≤ w2.heap.size by omega)
  clear hs2
  have hd1 : decide (m < 1) = false := decide_eq_false (by omega)
  have hd2 : decide (m > 2) = true := decide_eq_true hm
  clear hr0 hc0 hl hr hm hos hmo hl5 hl5n
  go_enter Try.func17, Try.ntmps17
  go_wp2_with (first | (go_at_call 9; refine (HRT.out _ (Kd.C_below HR.out HB2.out)).mono ?_; rintro ex w3 ⟨rfl, hb⟩; clear hw2; have HB3 := Lib.hid (HB2.out.trans (hb.mono HB2.out.size)); have HS3 := Lib.hid (Nat.le_trans HS2.out hb.size); have BL3 := Lib.hid (below_old BL2.out hb); have BZ3 := Lib.hid (below_old BZ2.out hb); clear hx hz; have hx := blk7 BL3.out; have hz := blk7 BZ3.out; clear hb))
  refine bodyPost_ret (results_list (rs := [.cell 6 25, .tmp 7, .tmp 8]) rfl (by simp) (.cell (w.heap.size + 1) 25 (zlock) (0, 0) _ rfl (put7 BZ3.out) Try.underlying25 rfl (by kernel_rfl) (.tmp (.tmp .nil)))) rfl ?_
  exact ⟨_, rfl, Kd.R_nil _ _ _ _ _, below7 HB3.out (by omega) _ _ _ _ _ _ _⟩

set_option maxHeartbeats 4000000 in
theorem ask_gone (f e u c : Int) (fc : Bool) (A0 : Option Addr) (c0 : Nat) (l : List S40) (cl m : Int) (w : World) (hr0 : Kd.C k40 w A0 l.length l) (hc0 : l.length ≤ c0) (hl : l.length ≤ 100) (hr : rightB u c fc true l = true) (hm1 : 1 ≤ m) (hm2 : m ≤ 2) :
    Calls Try.prog 17 #[.agg (lockA f e u c fc true (.slice A0 l.length c0)), .int .u32 cl, .int .u32 m] w fun ex w' => ∃ v, ex = .returned (.tuple #[.agg (lockA f e u c fc true v), .int .i64 4, .int .i64 0]) ∧ Kd.R k40 40 w' w.heap.size (fun _ => True) v l ∧ Below w.heap.size w w' := by
  obtain ⟨w2, hw2⟩ : ∃ w2, (w.alloc (.cells (lockA f e u c fc true (.slice A0 l.length c0)) 25)).alloc (.cells zlock 25) = w2 := ⟨_, rfl⟩
  have hs2 : w2.heap.size = w.heap.size + 2 := by rw [← hw2]; simp
  have HB2 := Lib.hid (show Below w.heap.size w w2 by rw [← hw2]; have h1 := boxed w (.cells (lockA f e u c fc true (.slice A0 l.length c0)) 25); exact h1.alloc h1.size _)
  have BL2 := Lib.hid (show w2.heap[w.heap.size]? = some (.cells (lockA f e u c fc true (.slice A0 l.length c0)) 25 (0, 0)) by rw [← hw2]; exact alloc_old (alloc_at w _) _)
  have BZ2 := Lib.hid (show w2.heap[w.heap.size + 1]? = some (.cells zlock 25 (0, 0)) by rw [← hw2]; have := alloc_at (w.alloc (.cells (lockA f e u c fc true (.slice A0 l.length c0)) 25)) (.cells zlock 25); simpa using this)
  have HRT := Lib.hid (fun W h => hold_Right.calls 4200 f e u c fc true A0 c0 l true W h hc0 (by rw [right_f f e u c fc true l (by omega) 4200 (by omega), hr]))
  obtain ⟨os, hos⟩ : ∃ os, othersF l cl m = os := ⟨_, rfl⟩
  have HOT := Lib.hid (fun W h => hold_Others.calls 4200 f e u c fc true A0 c0 l cl m os W h hc0 (by rw [others_f f e u c fc true l cl m (by omega) 4200 (by omega), if_pos hr, hos]))
  obtain ⟨mo, hmo⟩ : ∃ mo, modeF l cl = mo := ⟨_, rfl⟩
  have HMO := Lib.hid (fun W h => hold_Mode.calls 4200 f e u c fc true A0 c0 l cl mo W h hc0 (by rw [mode_f f e u c fc true l cl (by omega) 4200 (by omega), if_pos hr, hmo]))
  have HFR := Lib.hid (fun W h => hold_fresh.calls f e u c fc true A0 c0 l f e u c fc true l W h hc0 (by unfold hold_fresh.f api_Holder.f; rw [if_pos hl]; rfl))
  obtain ⟨l5, hl5⟩ : ∃ l5, withoutF l cl = l5 := ⟨_, rfl⟩
  have hl5n : l5.length ≤ 100 := by rw [← hl5]; exact Nat.le_trans (List.length_filter_le _ _) hl
  have HWO := Lib.hid (fun W h => without_calls f e u c fc true A0 c0 l cl W h hl)
  rw [hl5] at HWO
  have HR := Lib.hid hr0
  have HL := Lib.hid hl
  have hx := blk7 BL2.out
  have hz := blk7 BZ2.out
  have HS2 := Lib.hid (show w.heap.size + 2 ≤ w2.heap.size by omega)
  clear hs2
  have hd1 : decide (m < 1) = false := decide_eq_false (by omega)
  have hd2 : decide (m > 2) = false := decide_eq_false (by omega)
  clear hr0 hc0 hl hr hm1 hm2 hos hmo hl5 hl5n
  go_enter Try.func17, Try.ntmps17
  go_wp2_with (first | (go_at_call 9; refine (HRT.out _ (Kd.C_below HR.out HB2.out)).mono ?_; rintro ex w3 ⟨rfl, hb⟩; clear hw2; have HB3 := Lib.hid (HB2.out.trans (hb.mono HB2.out.size)); have HS3 := Lib.hid (Nat.le_trans HS2.out hb.size); have BL3 := Lib.hid (below_old BL2.out hb); have BZ3 := Lib.hid (below_old BZ2.out hb); clear hx hz; have hx := blk7 BL3.out; have hz := blk7 BZ3.out; clear hb) | (go_at_call 23; refine (HFR.out _ (Kd.C_below HR.out HB3.out)).mono ?_; rintro ex w6 ⟨v, rfl, ho, hb⟩; have HO6 := Lib.hid (Kd.R_lower ho HS3.out); obtain ⟨Av, cv, rfl⟩ := Kd.R_slice HO6.out; clear ho; have HB6 := Lib.hid (HB3.out.trans (hb.mono HB3.out.size)); have HS6 := Lib.hid (Nat.le_trans HS3.out hb.size); have BL6 := Lib.hid (below_old BL3.out hb); have BZ6 := Lib.hid (below_old BZ3.out hb); clear hx hz; have hx := blk7 BL6.out; have hz := blk7 BZ6.out; clear hb))
  refine bodyPost_ret (results_list (rs := [.cell 6 25, .tmp 7, .tmp 8]) rfl (by simp) (.cell (w.heap.size + 1) 25 (lockA f e u c fc true (.slice Av l.length cv)) (0, 0) _ rfl (put7 BZ6.out) Try.underlying25 rfl (by kernel_rfl) (.tmp (.tmp .nil)))) rfl ?_
  exact ⟨_, rfl, Kd.R_lower (set7 HO6.out (by omega) _ _ _ _ _ _ _) (by omega), below7 HB6.out (by omega) _ _ _ _ _ _ _⟩

set_option maxHeartbeats 4000000 in
theorem ask_others (f e u c : Int) (fc : Bool) (A0 : Option Addr) (c0 : Nat) (l : List S40) (cl m : Int) (w : World) (hr0 : Kd.C k40 w A0 l.length l) (hc0 : l.length ≤ c0) (hl : l.length ≤ 100) (hr : rightB u c fc false l = true) (hm1 : 1 ≤ m) (hm2 : m ≤ 2) (ho : 0 < (othersF l cl m).length) :
    Calls Try.prog 17 #[.agg (lockA f e u c fc false (.slice A0 l.length c0)), .int .u32 cl, .int .u32 m] w fun ex w' => ∃ v, ex = .returned (.tuple #[.agg (lockA f e u c fc false v), .int .i64 2, .int .i64 0]) ∧ Kd.R k40 40 w' w.heap.size (fun _ => True) v l ∧ Below w.heap.size w w' := by
  obtain ⟨w2, hw2⟩ : ∃ w2, (w.alloc (.cells (lockA f e u c fc false (.slice A0 l.length c0)) 25)).alloc (.cells zlock 25) = w2 := ⟨_, rfl⟩
  have hs2 : w2.heap.size = w.heap.size + 2 := by rw [← hw2]; simp
  have HB2 := Lib.hid (show Below w.heap.size w w2 by rw [← hw2]; have h1 := boxed w (.cells (lockA f e u c fc false (.slice A0 l.length c0)) 25); exact h1.alloc h1.size _)
  have BL2 := Lib.hid (show w2.heap[w.heap.size]? = some (.cells (lockA f e u c fc false (.slice A0 l.length c0)) 25 (0, 0)) by rw [← hw2]; exact alloc_old (alloc_at w _) _)
  have BZ2 := Lib.hid (show w2.heap[w.heap.size + 1]? = some (.cells zlock 25 (0, 0)) by rw [← hw2]; have := alloc_at (w.alloc (.cells (lockA f e u c fc false (.slice A0 l.length c0)) 25)) (.cells zlock 25); simpa using this)
  have HRT := Lib.hid (fun W h => hold_Right.calls 4200 f e u c fc false A0 c0 l true W h hc0 (by rw [right_f f e u c fc false l (by omega) 4200 (by omega), hr]))
  obtain ⟨os, hos⟩ : ∃ os, othersF l cl m = os := ⟨_, rfl⟩
  have HOT := Lib.hid (fun W h => hold_Others.calls 4200 f e u c fc false A0 c0 l cl m os W h hc0 (by rw [others_f f e u c fc false l cl m (by omega) 4200 (by omega), if_pos hr, hos]))
  obtain ⟨mo, hmo⟩ : ∃ mo, modeF l cl = mo := ⟨_, rfl⟩
  have HMO := Lib.hid (fun W h => hold_Mode.calls 4200 f e u c fc false A0 c0 l cl mo W h hc0 (by rw [mode_f f e u c fc false l cl (by omega) 4200 (by omega), if_pos hr, hmo]))
  have HFR := Lib.hid (fun W h => hold_fresh.calls f e u c fc false A0 c0 l f e u c fc false l W h hc0 (by unfold hold_fresh.f api_Holder.f; rw [if_pos hl]; rfl))
  obtain ⟨l5, hl5⟩ : ∃ l5, withoutF l cl = l5 := ⟨_, rfl⟩
  have hl5n : l5.length ≤ 100 := by rw [← hl5]; exact Nat.le_trans (List.length_filter_le _ _) hl
  have HWO := Lib.hid (fun W h => without_calls f e u c fc false A0 c0 l cl W h hl)
  rw [hl5] at HWO
  have HR := Lib.hid hr0
  have HL := Lib.hid hl
  have hx := blk7 BL2.out
  have hz := blk7 BZ2.out
  have HS2 := Lib.hid (show w.heap.size + 2 ≤ w2.heap.size by omega)
  clear hs2
  have hd1 : decide (m < 1) = false := decide_eq_false (by omega)
  have hd2 : decide (m > 2) = false := decide_eq_false (by omega)
  have hos1 : decide (0 < os.length) = true := decide_eq_true (by rw [← hos]; omega)
  clear hr0 hc0 hl hr ho hm1 hm2 hos hmo hl5 hl5n
  go_enter Try.func17, Try.ntmps17
  go_wp2_with (first | (go_at_call 9; refine (HRT.out _ (Kd.C_below HR.out HB2.out)).mono ?_; rintro ex w3 ⟨rfl, hb⟩; clear hw2; have HB3 := Lib.hid (HB2.out.trans (hb.mono HB2.out.size)); have HS3 := Lib.hid (Nat.le_trans HS2.out hb.size); have BL3 := Lib.hid (below_old BL2.out hb); have BZ3 := Lib.hid (below_old BZ2.out hb); clear hx hz; have hx := blk7 BL3.out; have hz := blk7 BZ3.out; clear hb) | (go_at_call 13; refine (HOT.out _ (Kd.C_below HR.out HB3.out)).mono ?_; rintro ex w4 ⟨vo, rfl, ho, hb⟩; obtain ⟨Ao, co, rfl⟩ := Kd.R_slice ho; clear ho; have HB4 := Lib.hid (HB3.out.trans (hb.mono HB3.out.size)); have HS4 := Lib.hid (Nat.le_trans HS3.out hb.size); have BL4 := Lib.hid (below_old BL3.out hb); have BZ4 := Lib.hid (below_old BZ3.out hb); clear hx hz; have hx := blk7 BL4.out; have hz := blk7 BZ4.out; clear hb) | (go_at_call 23; refine (HFR.out _ (Kd.C_below HR.out HB4.out)).mono ?_; rintro ex w6 ⟨v, rfl, ho, hb⟩; have HO6 := Lib.hid (Kd.R_lower ho HS4.out); obtain ⟨Av, cv, rfl⟩ := Kd.R_slice HO6.out; clear ho; have HB6 := Lib.hid (HB4.out.trans (hb.mono HB4.out.size)); have HS6 := Lib.hid (Nat.le_trans HS4.out hb.size); have BL6 := Lib.hid (below_old BL4.out hb); have BZ6 := Lib.hid (below_old BZ4.out hb); clear hx hz; have hx := blk7 BL6.out; have hz := blk7 BZ6.out; clear hb))
  refine bodyPost_ret (results_list (rs := [.cell 6 25, .tmp 7, .tmp 8]) rfl (by simp) (.cell (w.heap.size + 1) 25 (lockA f e u c fc false (.slice Av l.length cv)) (0, 0) _ rfl (put7 BZ6.out) Try.underlying25 rfl (by kernel_rfl) (.tmp (.tmp .nil)))) rfl ?_
  exact ⟨_, rfl, Kd.R_lower (set7 HO6.out (by omega) _ _ _ _ _ _ _) (by omega), below7 HB6.out (by omega) _ _ _ _ _ _ _⟩

set_option maxHeartbeats 4000000 in
theorem ask_has (f e u c : Int) (fc : Bool) (A0 : Option Addr) (c0 : Nat) (l : List S40) (cl m : Int) (w : World) (hr0 : Kd.C k40 w A0 l.length l) (hc0 : l.length ≤ c0) (hl : l.length ≤ 100) (hr : rightB u c fc false l = true) (hm1 : 1 ≤ m) (hm2 : m ≤ 2) (ho : (othersF l cl m).length = 0) (hh : m ≤ modeF l cl) :
    Calls Try.prog 17 #[.agg (lockA f e u c fc false (.slice A0 l.length c0)), .int .u32 cl, .int .u32 m] w fun ex w' => ∃ v, ex = .returned (.tuple #[.agg (lockA f e u c fc false v), .int .i64 1, .int .i64 0]) ∧ Kd.R k40 40 w' w.heap.size (fun _ => True) v l ∧ Below w.heap.size w w' := by
  obtain ⟨w2, hw2⟩ : ∃ w2, (w.alloc (.cells (lockA f e u c fc false (.slice A0 l.length c0)) 25)).alloc (.cells zlock 25) = w2 := ⟨_, rfl⟩
  have hs2 : w2.heap.size = w.heap.size + 2 := by rw [← hw2]; simp
  have HB2 := Lib.hid (show Below w.heap.size w w2 by rw [← hw2]; have h1 := boxed w (.cells (lockA f e u c fc false (.slice A0 l.length c0)) 25); exact h1.alloc h1.size _)
  have BL2 := Lib.hid (show w2.heap[w.heap.size]? = some (.cells (lockA f e u c fc false (.slice A0 l.length c0)) 25 (0, 0)) by rw [← hw2]; exact alloc_old (alloc_at w _) _)
  have BZ2 := Lib.hid (show w2.heap[w.heap.size + 1]? = some (.cells zlock 25 (0, 0)) by rw [← hw2]; have := alloc_at (w.alloc (.cells (lockA f e u c fc false (.slice A0 l.length c0)) 25)) (.cells zlock 25); simpa using this)
  have HRT := Lib.hid (fun W h => hold_Right.calls 4200 f e u c fc false A0 c0 l true W h hc0 (by rw [right_f f e u c fc false l (by omega) 4200 (by omega), hr]))
  obtain ⟨os, hos⟩ : ∃ os, othersF l cl m = os := ⟨_, rfl⟩
  have HOT := Lib.hid (fun W h => hold_Others.calls 4200 f e u c fc false A0 c0 l cl m os W h hc0 (by rw [others_f f e u c fc false l cl m (by omega) 4200 (by omega), if_pos hr, hos]))
  obtain ⟨mo, hmo⟩ : ∃ mo, modeF l cl = mo := ⟨_, rfl⟩
  have HMO := Lib.hid (fun W h => hold_Mode.calls 4200 f e u c fc false A0 c0 l cl mo W h hc0 (by rw [mode_f f e u c fc false l cl (by omega) 4200 (by omega), if_pos hr, hmo]))
  have HFR := Lib.hid (fun W h => hold_fresh.calls f e u c fc false A0 c0 l f e u c fc false l W h hc0 (by unfold hold_fresh.f api_Holder.f; rw [if_pos hl]; rfl))
  obtain ⟨l5, hl5⟩ : ∃ l5, withoutF l cl = l5 := ⟨_, rfl⟩
  have hl5n : l5.length ≤ 100 := by rw [← hl5]; exact Nat.le_trans (List.length_filter_le _ _) hl
  have HWO := Lib.hid (fun W h => without_calls f e u c fc false A0 c0 l cl W h hl)
  rw [hl5] at HWO
  have HR := Lib.hid hr0
  have HL := Lib.hid hl
  have hx := blk7 BL2.out
  have hz := blk7 BZ2.out
  have HS2 := Lib.hid (show w.heap.size + 2 ≤ w2.heap.size by omega)
  clear hs2
  have hd1 : decide (m < 1) = false := decide_eq_false (by omega)
  have hd2 : decide (m > 2) = false := decide_eq_false (by omega)
  have hos1 : decide (0 < os.length) = false := decide_eq_false (by rw [← hos]; omega)
  have hmo1 : decide (m ≤ mo) = true := decide_eq_true (by rw [← hmo]; omega)
  clear hr0 hc0 hl hr ho hh hm1 hm2 hos hmo hl5 hl5n
  go_enter Try.func17, Try.ntmps17
  go_wp2_with (first | (go_at_call 9; refine (HRT.out _ (Kd.C_below HR.out HB2.out)).mono ?_; rintro ex w3 ⟨rfl, hb⟩; clear hw2; have HB3 := Lib.hid (HB2.out.trans (hb.mono HB2.out.size)); have HS3 := Lib.hid (Nat.le_trans HS2.out hb.size); have BL3 := Lib.hid (below_old BL2.out hb); have BZ3 := Lib.hid (below_old BZ2.out hb); clear hx hz; have hx := blk7 BL3.out; have hz := blk7 BZ3.out; clear hb) | (go_at_call 13; refine (HOT.out _ (Kd.C_below HR.out HB3.out)).mono ?_; rintro ex w4 ⟨vo, rfl, ho, hb⟩; obtain ⟨Ao, co, rfl⟩ := Kd.R_slice ho; clear ho; have HB4 := Lib.hid (HB3.out.trans (hb.mono HB3.out.size)); have HS4 := Lib.hid (Nat.le_trans HS3.out hb.size); have BL4 := Lib.hid (below_old BL3.out hb); have BZ4 := Lib.hid (below_old BZ3.out hb); clear hx hz; have hx := blk7 BL4.out; have hz := blk7 BZ4.out; clear hb) | (go_at_call 14; refine (HMO.out _ (Kd.C_below HR.out HB4.out)).mono ?_; rintro ex w5 ⟨rfl, hb⟩; have HB5 := Lib.hid (HB4.out.trans (hb.mono HB4.out.size)); have HS5 := Lib.hid (Nat.le_trans HS4.out hb.size); have BL5 := Lib.hid (below_old BL4.out hb); have BZ5 := Lib.hid (below_old BZ4.out hb); clear hx hz; have hx := blk7 BL5.out; have hz := blk7 BZ5.out; clear hb) | (go_at_call 23; refine (HFR.out _ (Kd.C_below HR.out HB5.out)).mono ?_; rintro ex w6 ⟨v, rfl, ho, hb⟩; have HO6 := Lib.hid (Kd.R_lower ho HS5.out); obtain ⟨Av, cv, rfl⟩ := Kd.R_slice HO6.out; clear ho; have HB6 := Lib.hid (HB5.out.trans (hb.mono HB5.out.size)); have HS6 := Lib.hid (Nat.le_trans HS5.out hb.size); have BL6 := Lib.hid (below_old BL5.out hb); have BZ6 := Lib.hid (below_old BZ5.out hb); clear hx hz; have hx := blk7 BL6.out; have hz := blk7 BZ6.out; clear hb))
  refine bodyPost_ret (results_list (rs := [.cell 6 25, .tmp 7, .tmp 8]) rfl (by simp) (.cell (w.heap.size + 1) 25 (lockA f e u c fc false (.slice Av l.length cv)) (0, 0) _ rfl (put7 BZ6.out) Try.underlying25 rfl (by kernel_rfl) (.tmp (.tmp .nil)))) rfl ?_
  exact ⟨_, rfl, Kd.R_lower (set7 HO6.out (by omega) _ _ _ _ _ _ _) (by omega), below7 HB6.out (by omega) _ _ _ _ _ _ _⟩

set_option maxHeartbeats 4000000 in
theorem ask_wait (f e u c : Int)  (A0 : Option Addr) (c0 : Nat) (l : List S40) (cl m : Int) (w : World) (hr0 : Kd.C k40 w A0 l.length l) (hc0 : l.length ≤ c0) (hl : l.length ≤ 100) (hr : rightB u c false false l = true) (hm1 : 1 ≤ m) (hm2 : m ≤ 2) (ho : (othersF l cl m).length = 0) (hh : ¬ m ≤ modeF l cl) :
    Calls Try.prog 17 #[.agg (lockA f e u c false false (.slice A0 l.length c0)), .int .u32 cl, .int .u32 m] w fun ex w' => ∃ v, ex = .returned (.tuple #[.agg (lockA f e u c false false v), .int .i64 3, .int .i64 0]) ∧ Kd.R k40 40 w' w.heap.size (fun _ => True) v (withoutF l cl) ∧ Below w.heap.size w w' := by
  obtain ⟨w2, hw2⟩ : ∃ w2, (w.alloc (.cells (lockA f e u c false false (.slice A0 l.length c0)) 25)).alloc (.cells zlock 25) = w2 := ⟨_, rfl⟩
  have hs2 : w2.heap.size = w.heap.size + 2 := by rw [← hw2]; simp
  have HB2 := Lib.hid (show Below w.heap.size w w2 by rw [← hw2]; have h1 := boxed w (.cells (lockA f e u c false false (.slice A0 l.length c0)) 25); exact h1.alloc h1.size _)
  have BL2 := Lib.hid (show w2.heap[w.heap.size]? = some (.cells (lockA f e u c false false (.slice A0 l.length c0)) 25 (0, 0)) by rw [← hw2]; exact alloc_old (alloc_at w _) _)
  have BZ2 := Lib.hid (show w2.heap[w.heap.size + 1]? = some (.cells zlock 25 (0, 0)) by rw [← hw2]; have := alloc_at (w.alloc (.cells (lockA f e u c false false (.slice A0 l.length c0)) 25)) (.cells zlock 25); simpa using this)
  have HRT := Lib.hid (fun W h => hold_Right.calls 4200 f e u c false false A0 c0 l true W h hc0 (by rw [right_f f e u c false false l (by omega) 4200 (by omega), hr]))
  obtain ⟨os, hos⟩ : ∃ os, othersF l cl m = os := ⟨_, rfl⟩
  have HOT := Lib.hid (fun W h => hold_Others.calls 4200 f e u c false false A0 c0 l cl m os W h hc0 (by rw [others_f f e u c false false l cl m (by omega) 4200 (by omega), if_pos hr, hos]))
  obtain ⟨mo, hmo⟩ : ∃ mo, modeF l cl = mo := ⟨_, rfl⟩
  have HMO := Lib.hid (fun W h => hold_Mode.calls 4200 f e u c false false A0 c0 l cl mo W h hc0 (by rw [mode_f f e u c false false l cl (by omega) 4200 (by omega), if_pos hr, hmo]))
  have HFR := Lib.hid (fun W h => hold_fresh.calls f e u c false false A0 c0 l f e u c false false l W h hc0 (by unfold hold_fresh.f api_Holder.f; rw [if_pos hl]; rfl))
  obtain ⟨l5, hl5⟩ : ∃ l5, withoutF l cl = l5 := ⟨_, rfl⟩
  have hl5n : l5.length ≤ 100 := by rw [← hl5]; exact Nat.le_trans (List.length_filter_le _ _) hl
  have HWO := Lib.hid (fun W h => without_calls f e u c false false A0 c0 l cl W h hl)
  rw [hl5] at HWO
  have HR := Lib.hid hr0
  have HL := Lib.hid hl
  have hx := blk7 BL2.out
  have hz := blk7 BZ2.out
  have HS2 := Lib.hid (show w.heap.size + 2 ≤ w2.heap.size by omega)
  clear hs2
  have hd1 : decide (m < 1) = false := decide_eq_false (by omega)
  have hd2 : decide (m > 2) = false := decide_eq_false (by omega)
  have hos1 : decide (0 < os.length) = false := decide_eq_false (by rw [← hos]; omega)
  have hmo1 : decide (m ≤ mo) = false := decide_eq_false (by rw [← hmo]; omega)
  rw [hl5]
  clear hr0 hc0 hl hr ho hh hm1 hm2 hos hmo hl5 hl5n
  go_enter Try.func17, Try.ntmps17
  go_wp2_with (first | (go_at_call 9; refine (HRT.out _ (Kd.C_below HR.out HB2.out)).mono ?_; rintro ex w3 ⟨rfl, hb⟩; clear hw2; have HB3 := Lib.hid (HB2.out.trans (hb.mono HB2.out.size)); have HS3 := Lib.hid (Nat.le_trans HS2.out hb.size); have BL3 := Lib.hid (below_old BL2.out hb); have BZ3 := Lib.hid (below_old BZ2.out hb); clear hx hz; have hx := blk7 BL3.out; have hz := blk7 BZ3.out; clear hb) | (go_at_call 13; refine (HOT.out _ (Kd.C_below HR.out HB3.out)).mono ?_; rintro ex w4 ⟨vo, rfl, ho, hb⟩; obtain ⟨Ao, co, rfl⟩ := Kd.R_slice ho; clear ho; have HB4 := Lib.hid (HB3.out.trans (hb.mono HB3.out.size)); have HS4 := Lib.hid (Nat.le_trans HS3.out hb.size); have BL4 := Lib.hid (below_old BL3.out hb); have BZ4 := Lib.hid (below_old BZ3.out hb); clear hx hz; have hx := blk7 BL4.out; have hz := blk7 BZ4.out; clear hb) | (go_at_call 14; refine (HMO.out _ (Kd.C_below HR.out HB4.out)).mono ?_; rintro ex w5 ⟨rfl, hb⟩; have HB5 := Lib.hid (HB4.out.trans (hb.mono HB4.out.size)); have HS5 := Lib.hid (Nat.le_trans HS4.out hb.size); have BL5 := Lib.hid (below_old BL4.out hb); have BZ5 := Lib.hid (below_old BZ4.out hb); clear hx hz; have hx := blk7 BL5.out; have hz := blk7 BZ5.out; clear hb) | (go_at_call 24; refine (HWO.out _ (Kd.C_below HR.out HB5.out)).mono ?_; rintro ex w6 ⟨v, rfl, ho, hb⟩; have HO6 := Lib.hid (Kd.R_lower ho HS5.out); obtain ⟨Av, cv, rfl⟩ := Kd.R_slice HO6.out; clear ho; have HB6 := Lib.hid (HB5.out.trans (hb.mono HB5.out.size)); have HS6 := Lib.hid (Nat.le_trans HS5.out hb.size); have BL6 := Lib.hid (below_old BL5.out hb); have BZ6 := Lib.hid (below_old BZ5.out hb); clear hx hz; have hx := blk7 BL6.out; have hz := blk7 BZ6.out; clear hb; have hne1 : ¬ w.heap.size + 1 = w.heap.size := (by omega); have hne2 : ¬ w.heap.size = w.heap.size + 1 := (by omega)))
  refine bodyPost_ret (results_list (rs := [.cell 6 25, .tmp 7, .tmp 8]) rfl (by simp) (.cell (w.heap.size + 1) 25 (lockA f e u c false false (.slice Av l5.length cv)) (0, 0) _ rfl (put7 (far7 BZ6.out hne1 _ _ _ _ _ _ _)) Try.underlying25 rfl (by kernel_rfl) (.tmp (.tmp .nil)))) rfl ?_
  exact ⟨_, rfl, Kd.R_lower (set7 (set7 HO6.out (by omega) _ _ _ _ _ _ _) (by omega) _ _ _ _ _ _ _) (by omega), below7 (below7 HB6.out (Nat.le_refl _) _ _ _ _ _ _ _) (by omega) _ _ _ _ _ _ _⟩

set_option maxHeartbeats 4000000 in
theorem ask_turn1 (f e u c : Int)  (A0 : Option Addr) (c0 : Nat) (l : List S40) (cl m : Int) (w : World) (hr0 : Kd.C k40 w A0 l.length l) (hc0 : l.length ≤ c0) (hl : l.length ≤ 100) (r1 r2 r3 r4 : Int) (r5 r6 : Bool) (r7 : List S40) (hr : rightB u c true false l = true) (hm1 : 1 ≤ m) (hm2 : m ≤ 2) (ho : (othersF l cl m).length = 0) (hh : ¬ m ≤ modeF l cl) (ht : hold_turn.f f e u c true false (withoutF l cl) = some (r1, r2, r3, r4, r5, r6, r7)) (he : m = 2) (hu : ¬ u = 0) :
    Calls Try.prog 17 #[.agg (lockA f e u c true false (.slice A0 l.length c0)), .int .u32 cl, .int .u32 m] w fun ex w' => ∃ v, ex = .returned (.tuple #[.agg (lockA r1 r2 r3 r4 r5 r6 v), .int .i64 3, .int .i64 0]) ∧ Kd.R k40 40 w' w.heap.size (fun _ => True) v r7 ∧ Below w.heap.size w w' := by
  obtain ⟨w2, hw2⟩ : ∃ w2, (w.alloc (.cells (lockA f e u c true false (.slice A0 l.length c0)) 25)).alloc (.cells zlock 25) = w2 := ⟨_, rfl⟩
  have hs2 : w2.heap.size = w.heap.size + 2 := by rw [← hw2]; simp
  have HB2 := Lib.hid (show Below w.heap.size w w2 by rw [← hw2]; have h1 := boxed w (.cells (lockA f e u c true false (.slice A0 l.length c0)) 25); exact h1.alloc h1.size _)
  have BL2 := Lib.hid (show w2.heap[w.heap.size]? = some (.cells (lockA f e u c true false (.slice A0 l.length c0)) 25 (0, 0)) by rw [← hw2]; exact alloc_old (alloc_at w _) _)
  have BZ2 := Lib.hid (show w2.heap[w.heap.size + 1]? = some (.cells zlock 25 (0, 0)) by rw [← hw2]; have := alloc_at (w.alloc (.cells (lockA f e u c true false (.slice A0 l.length c0)) 25)) (.cells zlock 25); simpa using this)
  have HRT := Lib.hid (fun W h => hold_Right.calls 4200 f e u c true false A0 c0 l true W h hc0 (by rw [right_f f e u c true false l (by omega) 4200 (by omega), hr]))
  obtain ⟨os, hos⟩ : ∃ os, othersF l cl m = os := ⟨_, rfl⟩
  have HOT := Lib.hid (fun W h => hold_Others.calls 4200 f e u c true false A0 c0 l cl m os W h hc0 (by rw [others_f f e u c true false l cl m (by omega) 4200 (by omega), if_pos hr, hos]))
  obtain ⟨mo, hmo⟩ : ∃ mo, modeF l cl = mo := ⟨_, rfl⟩
  have HMO := Lib.hid (fun W h => hold_Mode.calls 4200 f e u c true false A0 c0 l cl mo W h hc0 (by rw [mode_f f e u c true false l cl (by omega) 4200 (by omega), if_pos hr, hmo]))
  have HFR := Lib.hid (fun W h => hold_fresh.calls f e u c true false A0 c0 l f e u c true false l W h hc0 (by unfold hold_fresh.f api_Holder.f; rw [if_pos hl]; rfl))
  obtain ⟨l5, hl5⟩ : ∃ l5, withoutF l cl = l5 := ⟨_, rfl⟩
  have hl5n : l5.length ≤ 100 := by rw [← hl5]; exact Nat.le_trans (List.length_filter_le _ _) hl
  have HWO := Lib.hid (fun W h => without_calls f e u c true false A0 c0 l cl W h hl)
  rw [hl5] at HWO
  have HR := Lib.hid hr0
  have HL := Lib.hid hl
  have hx := blk7 BL2.out
  have hz := blk7 BZ2.out
  have HS2 := Lib.hid (show w.heap.size + 2 ≤ w2.heap.size by omega)
  clear hs2
  have hd1 : decide (m < 1) = false := decide_eq_false (by omega)
  have hd2 : decide (m > 2) = false := decide_eq_false (by omega)
  have hos1 : decide (0 < os.length) = false := decide_eq_false (by rw [← hos]; omega)
  have hmo1 : decide (m ≤ mo) = false := decide_eq_false (by rw [← hmo]; omega)
  have HTU := Lib.hid (fun (W : World) (A : Option Addr) (c' : Nat) (h : Kd.C k40 W A l5.length l5) (h' : l5.length ≤ c') => hold_turn.calls f e u c true false A c' l5 r1 r2 r3 r4 r5 r6 r7 W h h' (by rw [← hl5]; exact ht))
  have hq1 : (m == 2) = true := by rw [he]; rfl
  have hq2 : (u == 0) = false := beq_eq_false_iff_ne.2 hu
  have hq1' : (m = 2) = True := eq_true he
  have hq2' : (u = 0) = False := eq_false hu
  clear ht he hu
  clear hr0 hc0 hl hr ho hh hm1 hm2 hos hmo hl5 hl5n
  go_enter Try.func17, Try.ntmps17
  go_wp2_with (first | (go_at_call 9; refine (HRT.out _ (Kd.C_below HR.out HB2.out)).mono ?_; rintro ex w3 ⟨rfl, hb⟩; clear hw2; have HB3 := Lib.hid (HB2.out.trans (hb.mono HB2.out.size)); have HS3 := Lib.hid (Nat.le_trans HS2.out hb.size); have BL3 := Lib.hid (below_old BL2.out hb); have BZ3 := Lib.hid (below_old BZ2.out hb); clear hx hz; have hx := blk7 BL3.out; have hz := blk7 BZ3.out; clear hb) | (go_at_call 13; refine (HOT.out _ (Kd.C_below HR.out HB3.out)).mono ?_; rintro ex w4 ⟨vo, rfl, ho, hb⟩; obtain ⟨Ao, co, rfl⟩ := Kd.R_slice ho; clear ho; have HB4 := Lib.hid (HB3.out.trans (hb.mono HB3.out.size)); have HS4 := Lib.hid (Nat.le_trans HS3.out hb.size); have BL4 := Lib.hid (below_old BL3.out hb); have BZ4 := Lib.hid (below_old BZ3.out hb); clear hx hz; have hx := blk7 BL4.out; have hz := blk7 BZ4.out; clear hb) | (go_at_call 14; refine (HMO.out _ (Kd.C_below HR.out HB4.out)).mono ?_; rintro ex w5 ⟨rfl, hb⟩; have HB5 := Lib.hid (HB4.out.trans (hb.mono HB4.out.size)); have HS5 := Lib.hid (Nat.le_trans HS4.out hb.size); have BL5 := Lib.hid (below_old BL4.out hb); have BZ5 := Lib.hid (below_old BZ4.out hb); clear hx hz; have hx := blk7 BL5.out; have hz := blk7 BZ5.out; clear hb) | (go_at_call 24; refine (HWO.out _ (Kd.C_below HR.out HB5.out)).mono ?_; rintro ex w6 ⟨v, rfl, ho, hb⟩; have HO6 := Lib.hid (Kd.R_lower ho HS5.out); obtain ⟨Av, cv, rfl⟩ := Kd.R_slice HO6.out; clear ho; have HB6 := Lib.hid (HB5.out.trans (hb.mono HB5.out.size)); have HS6 := Lib.hid (Nat.le_trans HS5.out hb.size); have BL6 := Lib.hid (below_old BL5.out hb); have BZ6 := Lib.hid (below_old BZ5.out hb); clear hx hz; have hx := blk7 BL6.out; have hz := blk7 BZ6.out; clear hb; have hne1 : ¬ w.heap.size + 1 = w.heap.size := (by omega); have hne2 : ¬ w.heap.size = w.heap.size + 1 := (by omega)) | (go_at_call 25; have h7 := below7 HB6.out (Nat.le_refl w.heap.size) (.int .u32 f) (.int .u32 e) (.int .u32 u) (.int .u32 c) (.bool true) (.bool false) (.slice Av l5.length cv); have h6 := below7 (Below.refl w.heap.size w6) (Nat.le_refl w.heap.size) (.int .u32 f) (.int .u32 e) (.int .u32 u) (.int .u32 c) (.bool true) (.bool false) (.slice Av l5.length cv); have z7 := far7 BZ6.out hne1 (.int .u32 f) (.int .u32 e) (.int .u32 u) (.int .u32 c) (.bool true) (.bool false) (.slice Av l5.length cv); have o7 := set7 HO6.out (show w.heap.size < w.heap.size + 2 by omega) (.int .u32 f) (.int .u32 e) (.int .u32 u) (.int .u32 c) (.bool true) (.bool false) (.slice Av l5.length cv); refine (HTU.out _ Av cv (Kd.R_reads' o7).2.2 (Kd.R_reads' o7).2.1).mono ?_; rintro ex w8 ⟨v8, rfl, ho, hb⟩; have HB8 := Lib.hid (h7.trans (hb.mono h7.size)); have BZ8 := Lib.hid (below_old z7 hb); have HO8 := Lib.hid (Kd.R_lower ho (Nat.le_trans HS6.out h6.size)); obtain ⟨A8, c8, rfl⟩ := Kd.R_slice HO8.out; clear ho hb h6 h7 z7 o7 hx hz; have hz := blk7 BZ8.out))
  refine bodyPost_ret (results_list (rs := [.cell 6 25, .tmp 7, .tmp 8]) rfl (by simp) (.cell (w.heap.size + 1) 25 (lockA r1 r2 r3 r4 r5 r6 (.slice A8 r7.length c8)) (0, 0) _ rfl (put7 BZ8.out) Try.underlying25 rfl (by kernel_rfl) (.tmp (.tmp .nil)))) rfl ?_
  exact ⟨_, rfl, Kd.R_lower (set7 HO8.out (by omega) _ _ _ _ _ _ _) (by omega), below7 HB8.out (by omega) _ _ _ _ _ _ _⟩

set_option maxHeartbeats 4000000 in
theorem ask_turn2 (f e u c : Int)  (A0 : Option Addr) (c0 : Nat) (l : List S40) (cl m : Int) (w : World) (hr0 : Kd.C k40 w A0 l.length l) (hc0 : l.length ≤ c0) (hl : l.length ≤ 100) (r1 r2 r3 r4 : Int) (r5 r6 : Bool) (r7 : List S40) (hr : rightB u c true false l = true) (hm1 : 1 ≤ m) (hm2 : m ≤ 2) (ho : (othersF l cl m).length = 0) (hh : ¬ m ≤ modeF l cl) (ht : hold_turn.f f e u c true false (withoutF l cl) = some (r1, r2, r3, r4, r5, r6, r7)) (he : ¬ m = 2) (hu : u = 2) :
    Calls Try.prog 17 #[.agg (lockA f e u c true false (.slice A0 l.length c0)), .int .u32 cl, .int .u32 m] w fun ex w' => ∃ v, ex = .returned (.tuple #[.agg (lockA r1 r2 r3 r4 r5 r6 v), .int .i64 3, .int .i64 0]) ∧ Kd.R k40 40 w' w.heap.size (fun _ => True) v r7 ∧ Below w.heap.size w w' := by
  obtain ⟨w2, hw2⟩ : ∃ w2, (w.alloc (.cells (lockA f e u c true false (.slice A0 l.length c0)) 25)).alloc (.cells zlock 25) = w2 := ⟨_, rfl⟩
  have hs2 : w2.heap.size = w.heap.size + 2 := by rw [← hw2]; simp
  have HB2 := Lib.hid (show Below w.heap.size w w2 by rw [← hw2]; have h1 := boxed w (.cells (lockA f e u c true false (.slice A0 l.length c0)) 25); exact h1.alloc h1.size _)
  have BL2 := Lib.hid (show w2.heap[w.heap.size]? = some (.cells (lockA f e u c true false (.slice A0 l.length c0)) 25 (0, 0)) by rw [← hw2]; exact alloc_old (alloc_at w _) _)
  have BZ2 := Lib.hid (show w2.heap[w.heap.size + 1]? = some (.cells zlock 25 (0, 0)) by rw [← hw2]; have := alloc_at (w.alloc (.cells (lockA f e u c true false (.slice A0 l.length c0)) 25)) (.cells zlock 25); simpa using this)
  have HRT := Lib.hid (fun W h => hold_Right.calls 4200 f e u c true false A0 c0 l true W h hc0 (by rw [right_f f e u c true false l (by omega) 4200 (by omega), hr]))
  obtain ⟨os, hos⟩ : ∃ os, othersF l cl m = os := ⟨_, rfl⟩
  have HOT := Lib.hid (fun W h => hold_Others.calls 4200 f e u c true false A0 c0 l cl m os W h hc0 (by rw [others_f f e u c true false l cl m (by omega) 4200 (by omega), if_pos hr, hos]))
  obtain ⟨mo, hmo⟩ : ∃ mo, modeF l cl = mo := ⟨_, rfl⟩
  have HMO := Lib.hid (fun W h => hold_Mode.calls 4200 f e u c true false A0 c0 l cl mo W h hc0 (by rw [mode_f f e u c true false l cl (by omega) 4200 (by omega), if_pos hr, hmo]))
  have HFR := Lib.hid (fun W h => hold_fresh.calls f e u c true false A0 c0 l f e u c true false l W h hc0 (by unfold hold_fresh.f api_Holder.f; rw [if_pos hl]; rfl))
  obtain ⟨l5, hl5⟩ : ∃ l5, withoutF l cl = l5 := ⟨_, rfl⟩
  have hl5n : l5.length ≤ 100 := by rw [← hl5]; exact Nat.le_trans (List.length_filter_le _ _) hl
  have HWO := Lib.hid (fun W h => without_calls f e u c true false A0 c0 l cl W h hl)
  rw [hl5] at HWO
  have HR := Lib.hid hr0
  have HL := Lib.hid hl
  have hx := blk7 BL2.out
  have hz := blk7 BZ2.out
  have HS2 := Lib.hid (show w.heap.size + 2 ≤ w2.heap.size by omega)
  clear hs2
  have hd1 : decide (m < 1) = false := decide_eq_false (by omega)
  have hd2 : decide (m > 2) = false := decide_eq_false (by omega)
  have hos1 : decide (0 < os.length) = false := decide_eq_false (by rw [← hos]; omega)
  have hmo1 : decide (m ≤ mo) = false := decide_eq_false (by rw [← hmo]; omega)
  have HTU := Lib.hid (fun (W : World) (A : Option Addr) (c' : Nat) (h : Kd.C k40 W A l5.length l5) (h' : l5.length ≤ c') => hold_turn.calls f e u c true false A c' l5 r1 r2 r3 r4 r5 r6 r7 W h h' (by rw [← hl5]; exact ht))
  have hq1 : (m == 2) = false := beq_eq_false_iff_ne.2 he
  have hq2 : (u == 2) = true := by rw [hu]; rfl
  have hq3 : (u == 0) = false := by rw [hu]; rfl
  have hq1' : (m = 2) = False := eq_false he
  have hq2' : (u = 2) = True := eq_true hu
  have hq3' : (u = 0) = False := eq_false (by omega)
  clear ht he hu
  clear hr0 hc0 hl hr ho hh hm1 hm2 hos hmo hl5 hl5n
  go_enter Try.func17, Try.ntmps17
  go_wp2_with (first | (go_at_call 9; refine (HRT.out _ (Kd.C_below HR.out HB2.out)).mono ?_; rintro ex w3 ⟨rfl, hb⟩; clear hw2; have HB3 := Lib.hid (HB2.out.trans (hb.mono HB2.out.size)); have HS3 := Lib.hid (Nat.le_trans HS2.out hb.size); have BL3 := Lib.hid (below_old BL2.out hb); have BZ3 := Lib.hid (below_old BZ2.out hb); clear hx hz; have hx := blk7 BL3.out; have hz := blk7 BZ3.out; clear hb) | (go_at_call 13; refine (HOT.out _ (Kd.C_below HR.out HB3.out)).mono ?_; rintro ex w4 ⟨vo, rfl, ho, hb⟩; obtain ⟨Ao, co, rfl⟩ := Kd.R_slice ho; clear ho; have HB4 := Lib.hid (HB3.out.trans (hb.mono HB3.out.size)); have HS4 := Lib.hid (Nat.le_trans HS3.out hb.size); have BL4 := Lib.hid (below_old BL3.out hb); have BZ4 := Lib.hid (below_old BZ3.out hb); clear hx hz; have hx := blk7 BL4.out; have hz := blk7 BZ4.out; clear hb) | (go_at_call 14; refine (HMO.out _ (Kd.C_below HR.out HB4.out)).mono ?_; rintro ex w5 ⟨rfl, hb⟩; have HB5 := Lib.hid (HB4.out.trans (hb.mono HB4.out.size)); have HS5 := Lib.hid (Nat.le_trans HS4.out hb.size); have BL5 := Lib.hid (below_old BL4.out hb); have BZ5 := Lib.hid (below_old BZ4.out hb); clear hx hz; have hx := blk7 BL5.out; have hz := blk7 BZ5.out; clear hb) | (go_at_call 24; refine (HWO.out _ (Kd.C_below HR.out HB5.out)).mono ?_; rintro ex w6 ⟨v, rfl, ho, hb⟩; have HO6 := Lib.hid (Kd.R_lower ho HS5.out); obtain ⟨Av, cv, rfl⟩ := Kd.R_slice HO6.out; clear ho; have HB6 := Lib.hid (HB5.out.trans (hb.mono HB5.out.size)); have HS6 := Lib.hid (Nat.le_trans HS5.out hb.size); have BL6 := Lib.hid (below_old BL5.out hb); have BZ6 := Lib.hid (below_old BZ5.out hb); clear hx hz; have hx := blk7 BL6.out; have hz := blk7 BZ6.out; clear hb; have hne1 : ¬ w.heap.size + 1 = w.heap.size := (by omega); have hne2 : ¬ w.heap.size = w.heap.size + 1 := (by omega)) | (go_at_call 25; have h7 := below7 HB6.out (Nat.le_refl w.heap.size) (.int .u32 f) (.int .u32 e) (.int .u32 u) (.int .u32 c) (.bool true) (.bool false) (.slice Av l5.length cv); have h6 := below7 (Below.refl w.heap.size w6) (Nat.le_refl w.heap.size) (.int .u32 f) (.int .u32 e) (.int .u32 u) (.int .u32 c) (.bool true) (.bool false) (.slice Av l5.length cv); have z7 := far7 BZ6.out hne1 (.int .u32 f) (.int .u32 e) (.int .u32 u) (.int .u32 c) (.bool true) (.bool false) (.slice Av l5.length cv); have o7 := set7 HO6.out (show w.heap.size < w.heap.size + 2 by omega) (.int .u32 f) (.int .u32 e) (.int .u32 u) (.int .u32 c) (.bool true) (.bool false) (.slice Av l5.length cv); refine (HTU.out _ Av cv (Kd.R_reads' o7).2.2 (Kd.R_reads' o7).2.1).mono ?_; rintro ex w8 ⟨v8, rfl, ho, hb⟩; have HB8 := Lib.hid (h7.trans (hb.mono h7.size)); have BZ8 := Lib.hid (below_old z7 hb); have HO8 := Lib.hid (Kd.R_lower ho (Nat.le_trans HS6.out h6.size)); obtain ⟨A8, c8, rfl⟩ := Kd.R_slice HO8.out; clear ho hb h6 h7 z7 o7 hx hz; have hz := blk7 BZ8.out))
  refine bodyPost_ret (results_list (rs := [.cell 6 25, .tmp 7, .tmp 8]) rfl (by simp) (.cell (w.heap.size + 1) 25 (lockA r1 r2 r3 r4 r5 r6 (.slice A8 r7.length c8)) (0, 0) _ rfl (put7 BZ8.out) Try.underlying25 rfl (by kernel_rfl) (.tmp (.tmp .nil)))) rfl ?_
  exact ⟨_, rfl, Kd.R_lower (set7 HO8.out (by omega) _ _ _ _ _ _ _) (by omega), below7 HB8.out (by omega) _ _ _ _ _ _ _⟩

set_option maxHeartbeats 4000000 in
theorem ask_fulla (f e u c : Int)  (A0 : Option Addr) (c0 : Nat) (l : List S40) (cl m : Int) (w : World) (hr0 : Kd.C k40 w A0 l.length l) (hc0 : l.length ≤ c0) (hl : l.length ≤ 100) (hr : rightB u c true false l = true) (hm1 : 1 ≤ m) (hm2 : m ≤ 2) (ho : (othersF l cl m).length = 0) (hh : ¬ m ≤ modeF l cl) (he : m = 2) (hu : u = 0) (hf : (withoutF l cl).length = 4) :
    Calls Try.prog 17 #[.agg (lockA f e u c true false (.slice A0 l.length c0)), .int .u32 cl, .int .u32 m] w fun ex w' => ∃ v, ex = .returned (.tuple #[.agg (lockA f e u c true false v), .int .i64 2, .int .i64 0]) ∧ Kd.R k40 40 w' w.heap.size (fun _ => True) v (withoutF l cl) ∧ Below w.heap.size w w' := by
  obtain ⟨w2, hw2⟩ : ∃ w2, (w.alloc (.cells (lockA f e u c true false (.slice A0 l.length c0)) 25)).alloc (.cells zlock 25) = w2 := ⟨_, rfl⟩
  have hs2 : w2.heap.size = w.heap.size + 2 := by rw [← hw2]; simp
  have HB2 := Lib.hid (show Below w.heap.size w w2 by rw [← hw2]; have h1 := boxed w (.cells (lockA f e u c true false (.slice A0 l.length c0)) 25); exact h1.alloc h1.size _)
  have BL2 := Lib.hid (show w2.heap[w.heap.size]? = some (.cells (lockA f e u c true false (.slice A0 l.length c0)) 25 (0, 0)) by rw [← hw2]; exact alloc_old (alloc_at w _) _)
  have BZ2 := Lib.hid (show w2.heap[w.heap.size + 1]? = some (.cells zlock 25 (0, 0)) by rw [← hw2]; have := alloc_at (w.alloc (.cells (lockA f e u c true false (.slice A0 l.length c0)) 25)) (.cells zlock 25); simpa using this)
  have HRT := Lib.hid (fun W h => hold_Right.calls 4200 f e u c true false A0 c0 l true W h hc0 (by rw [right_f f e u c true false l (by omega) 4200 (by omega), hr]))
  obtain ⟨os, hos⟩ : ∃ os, othersF l cl m = os := ⟨_, rfl⟩
  have HOT := Lib.hid (fun W h => hold_Others.calls 4200 f e u c true false A0 c0 l cl m os W h hc0 (by rw [others_f f e u c true false l cl m (by omega) 4200 (by omega), if_pos hr, hos]))
  obtain ⟨mo, hmo⟩ : ∃ mo, modeF l cl = mo := ⟨_, rfl⟩
  have HMO := Lib.hid (fun W h => hold_Mode.calls 4200 f e u c true false A0 c0 l cl mo W h hc0 (by rw [mode_f f e u c true false l cl (by omega) 4200 (by omega), if_pos hr, hmo]))
  have HFR := Lib.hid (fun W h => hold_fresh.calls f e u c true false A0 c0 l f e u c true false l W h hc0 (by unfold hold_fresh.f api_Holder.f; rw [if_pos hl]; rfl))
  obtain ⟨l5, hl5⟩ : ∃ l5, withoutF l cl = l5 := ⟨_, rfl⟩
  have hl5n : l5.length ≤ 100 := by rw [← hl5]; exact Nat.le_trans (List.length_filter_le _ _) hl
  have HWO := Lib.hid (fun W h => without_calls f e u c true false A0 c0 l cl W h hl)
  rw [hl5] at HWO
  have HR := Lib.hid hr0
  have HL := Lib.hid hl
  have hx := blk7 BL2.out
  have hz := blk7 BZ2.out
  have HS2 := Lib.hid (show w.heap.size + 2 ≤ w2.heap.size by omega)
  clear hs2
  have hd1 : decide (m < 1) = false := decide_eq_false (by omega)
  have hd2 : decide (m > 2) = false := decide_eq_false (by omega)
  have hos1 : decide (0 < os.length) = false := decide_eq_false (by rw [← hos]; omega)
  have hmo1 : decide (m ≤ mo) = false := decide_eq_false (by rw [← hmo]; omega)
  have hf1 : ((l5.length : Int) == 4) = true := by rw [beq_iff_eq, ← hl5]; omega
  have hf2 : (l5.length == 4) = true := by rw [beq_iff_eq, ← hl5]; omega
  have hf3 : (l5.length = 4) = True := eq_true (by rw [← hl5]; omega)
  have hf4 : ((l5.length : Int) = 4) = True := eq_true (by rw [← hl5]; omega)
  have hq1 : (m == 2) = true := by rw [he]; rfl
  have hq2 : (u == 0) = true := by rw [hu]; rfl
  have hq1' : (m = 2) = True := eq_true he
  have hq2' : (u = 0) = True := eq_true hu
  clear he hu
  rw [hl5]
  clear hr0 hc0 hl hr ho hh hf hm1 hm2 hos hmo hl5 hl5n
  go_enter Try.func17, Try.ntmps17
  go_wp2_with (first | (go_at_call 9; refine (HRT.out _ (Kd.C_below HR.out HB2.out)).mono ?_; rintro ex w3 ⟨rfl, hb⟩; clear hw2; have HB3 := Lib.hid (HB2.out.trans (hb.mono HB2.out.size)); have HS3 := Lib.hid (Nat.le_trans HS2.out hb.size); have BL3 := Lib.hid (below_old BL2.out hb); have BZ3 := Lib.hid (below_old BZ2.out hb); clear hx hz; have hx := blk7 BL3.out; have hz := blk7 BZ3.out; clear hb) | (go_at_call 13; refine (HOT.out _ (Kd.C_below HR.out HB3.out)).mono ?_; rintro ex w4 ⟨vo, rfl, ho, hb⟩; obtain ⟨Ao, co, rfl⟩ := Kd.R_slice ho; clear ho; have HB4 := Lib.hid (HB3.out.trans (hb.mono HB3.out.size)); have HS4 := Lib.hid (Nat.le_trans HS3.out hb.size); have BL4 := Lib.hid (below_old BL3.out hb); have BZ4 := Lib.hid (below_old BZ3.out hb); clear hx hz; have hx := blk7 BL4.out; have hz := blk7 BZ4.out; clear hb) | (go_at_call 14; refine (HMO.out _ (Kd.C_below HR.out HB4.out)).mono ?_; rintro ex w5 ⟨rfl, hb⟩; have HB5 := Lib.hid (HB4.out.trans (hb.mono HB4.out.size)); have HS5 := Lib.hid (Nat.le_trans HS4.out hb.size); have BL5 := Lib.hid (below_old BL4.out hb); have BZ5 := Lib.hid (below_old BZ4.out hb); clear hx hz; have hx := blk7 BL5.out; have hz := blk7 BZ5.out; clear hb) | (go_at_call 24; refine (HWO.out _ (Kd.C_below HR.out HB5.out)).mono ?_; rintro ex w6 ⟨v, rfl, ho, hb⟩; have HO6 := Lib.hid (Kd.R_lower ho HS5.out); obtain ⟨Av, cv, rfl⟩ := Kd.R_slice HO6.out; clear ho; have HB6 := Lib.hid (HB5.out.trans (hb.mono HB5.out.size)); have HS6 := Lib.hid (Nat.le_trans HS5.out hb.size); have BL6 := Lib.hid (below_old BL5.out hb); have BZ6 := Lib.hid (below_old BZ5.out hb); clear hx hz; have hx := blk7 BL6.out; have hz := blk7 BZ6.out; clear hb; have hne1 : ¬ w.heap.size + 1 = w.heap.size := (by omega); have hne2 : ¬ w.heap.size = w.heap.size + 1 := (by omega)))
  refine bodyPost_ret (results_list (rs := [.cell 6 25, .tmp 7, .tmp 8]) rfl (by simp) (.cell (w.heap.size + 1) 25 (lockA f e u c true false (.slice Av l5.length cv)) (0, 0) _ rfl (put7 (far7 BZ6.out hne1 _ _ _ _ _ _ _)) Try.underlying25 rfl (by kernel_rfl) (.tmp (.tmp .nil)))) rfl ?_
  exact ⟨_, rfl, Kd.R_lower (set7 (set7 HO6.out (by omega) _ _ _ _ _ _ _) (by omega) _ _ _ _ _ _ _) (by omega), below7 (below7 HB6.out (Nat.le_refl _) _ _ _ _ _ _ _) (by omega) _ _ _ _ _ _ _⟩

set_option maxHeartbeats 4000000 in
theorem ask_fullb (f e u c : Int)  (A0 : Option Addr) (c0 : Nat) (l : List S40) (cl m : Int) (w : World) (hr0 : Kd.C k40 w A0 l.length l) (hc0 : l.length ≤ c0) (hl : l.length ≤ 100) (hr : rightB u c true false l = true) (hm1 : 1 ≤ m) (hm2 : m ≤ 2) (ho : (othersF l cl m).length = 0) (hh : ¬ m ≤ modeF l cl) (he : ¬ m = 2) (hu : ¬ u = 2) (hf : (withoutF l cl).length = 4) :
    Calls Try.prog 17 #[.agg (lockA f e u c true false (.slice A0 l.length c0)), .int .u32 cl, .int .u32 m] w fun ex w' => ∃ v, ex = .returned (.tuple #[.agg (lockA f e u c true false v), .int .i64 2, .int .i64 0]) ∧ Kd.R k40 40 w' w.heap.size (fun _ => True) v (withoutF l cl) ∧ Below w.heap.size w w' := by
  obtain ⟨w2, hw2⟩ : ∃ w2, (w.alloc (.cells (lockA f e u c true false (.slice A0 l.length c0)) 25)).alloc (.cells zlock 25) = w2 := ⟨_, rfl⟩
  have hs2 : w2.heap.size = w.heap.size + 2 := by rw [← hw2]; simp
  have HB2 := Lib.hid (show Below w.heap.size w w2 by rw [← hw2]; have h1 := boxed w (.cells (lockA f e u c true false (.slice A0 l.length c0)) 25); exact h1.alloc h1.size _)
  have BL2 := Lib.hid (show w2.heap[w.heap.size]? = some (.cells (lockA f e u c true false (.slice A0 l.length c0)) 25 (0, 0)) by rw [← hw2]; exact alloc_old (alloc_at w _) _)
  have BZ2 := Lib.hid (show w2.heap[w.heap.size + 1]? = some (.cells zlock 25 (0, 0)) by rw [← hw2]; have := alloc_at (w.alloc (.cells (lockA f e u c true false (.slice A0 l.length c0)) 25)) (.cells zlock 25); simpa using this)
  have HRT := Lib.hid (fun W h => hold_Right.calls 4200 f e u c true false A0 c0 l true W h hc0 (by rw [right_f f e u c true false l (by omega) 4200 (by omega), hr]))
  obtain ⟨os, hos⟩ : ∃ os, othersF l cl m = os := ⟨_, rfl⟩
  have HOT := Lib.hid (fun W h => hold_Others.calls 4200 f e u c true false A0 c0 l cl m os W h hc0 (by rw [others_f f e u c true false l cl m (by omega) 4200 (by omega), if_pos hr, hos]))
  obtain ⟨mo, hmo⟩ : ∃ mo, modeF l cl = mo := ⟨_, rfl⟩
  have HMO := Lib.hid (fun W h => hold_Mode.calls 4200 f e u c true false A0 c0 l cl mo W h hc0 (by rw [mode_f f e u c true false l cl (by omega) 4200 (by omega), if_pos hr, hmo]))
  have HFR := Lib.hid (fun W h => hold_fresh.calls f e u c true false A0 c0 l f e u c true false l W h hc0 (by unfold hold_fresh.f api_Holder.f; rw [if_pos hl]; rfl))
  obtain ⟨l5, hl5⟩ : ∃ l5, withoutF l cl = l5 := ⟨_, rfl⟩
  have hl5n : l5.length ≤ 100 := by rw [← hl5]; exact Nat.le_trans (List.length_filter_le _ _) hl
  have HWO := Lib.hid (fun W h => without_calls f e u c true false A0 c0 l cl W h hl)
  rw [hl5] at HWO
  have HR := Lib.hid hr0
  have HL := Lib.hid hl
  have hx := blk7 BL2.out
  have hz := blk7 BZ2.out
  have HS2 := Lib.hid (show w.heap.size + 2 ≤ w2.heap.size by omega)
  clear hs2
  have hd1 : decide (m < 1) = false := decide_eq_false (by omega)
  have hd2 : decide (m > 2) = false := decide_eq_false (by omega)
  have hos1 : decide (0 < os.length) = false := decide_eq_false (by rw [← hos]; omega)
  have hmo1 : decide (m ≤ mo) = false := decide_eq_false (by rw [← hmo]; omega)
  have hf1 : ((l5.length : Int) == 4) = true := by rw [beq_iff_eq, ← hl5]; omega
  have hf2 : (l5.length == 4) = true := by rw [beq_iff_eq, ← hl5]; omega
  have hf3 : (l5.length = 4) = True := eq_true (by rw [← hl5]; omega)
  have hf4 : ((l5.length : Int) = 4) = True := eq_true (by rw [← hl5]; omega)
  have hq1 : (m == 2) = false := beq_eq_false_iff_ne.2 he
  have hq2 : (u == 2) = false := beq_eq_false_iff_ne.2 hu
  have hq1' : (m = 2) = False := eq_false he
  have hq2' : (u = 2) = False := eq_false hu
  clear he hu
  rw [hl5]
  clear hr0 hc0 hl hr ho hh hf hm1 hm2 hos hmo hl5 hl5n
  go_enter Try.func17, Try.ntmps17
  go_wp2_with (first | (go_at_call 9; refine (HRT.out _ (Kd.C_below HR.out HB2.out)).mono ?_; rintro ex w3 ⟨rfl, hb⟩; clear hw2; have HB3 := Lib.hid (HB2.out.trans (hb.mono HB2.out.size)); have HS3 := Lib.hid (Nat.le_trans HS2.out hb.size); have BL3 := Lib.hid (below_old BL2.out hb); have BZ3 := Lib.hid (below_old BZ2.out hb); clear hx hz; have hx := blk7 BL3.out; have hz := blk7 BZ3.out; clear hb) | (go_at_call 13; refine (HOT.out _ (Kd.C_below HR.out HB3.out)).mono ?_; rintro ex w4 ⟨vo, rfl, ho, hb⟩; obtain ⟨Ao, co, rfl⟩ := Kd.R_slice ho; clear ho; have HB4 := Lib.hid (HB3.out.trans (hb.mono HB3.out.size)); have HS4 := Lib.hid (Nat.le_trans HS3.out hb.size); have BL4 := Lib.hid (below_old BL3.out hb); have BZ4 := Lib.hid (below_old BZ3.out hb); clear hx hz; have hx := blk7 BL4.out; have hz := blk7 BZ4.out; clear hb) | (go_at_call 14; refine (HMO.out _ (Kd.C_below HR.out HB4.out)).mono ?_; rintro ex w5 ⟨rfl, hb⟩; have HB5 := Lib.hid (HB4.out.trans (hb.mono HB4.out.size)); have HS5 := Lib.hid (Nat.le_trans HS4.out hb.size); have BL5 := Lib.hid (below_old BL4.out hb); have BZ5 := Lib.hid (below_old BZ4.out hb); clear hx hz; have hx := blk7 BL5.out; have hz := blk7 BZ5.out; clear hb) | (go_at_call 24; refine (HWO.out _ (Kd.C_below HR.out HB5.out)).mono ?_; rintro ex w6 ⟨v, rfl, ho, hb⟩; have HO6 := Lib.hid (Kd.R_lower ho HS5.out); obtain ⟨Av, cv, rfl⟩ := Kd.R_slice HO6.out; clear ho; have HB6 := Lib.hid (HB5.out.trans (hb.mono HB5.out.size)); have HS6 := Lib.hid (Nat.le_trans HS5.out hb.size); have BL6 := Lib.hid (below_old BL5.out hb); have BZ6 := Lib.hid (below_old BZ5.out hb); clear hx hz; have hx := blk7 BL6.out; have hz := blk7 BZ6.out; clear hb; have hne1 : ¬ w.heap.size + 1 = w.heap.size := (by omega); have hne2 : ¬ w.heap.size = w.heap.size + 1 := (by omega)))
  refine bodyPost_ret (results_list (rs := [.cell 6 25, .tmp 7, .tmp 8]) rfl (by simp) (.cell (w.heap.size + 1) 25 (lockA f e u c true false (.slice Av l5.length cv)) (0, 0) _ rfl (put7 (far7 BZ6.out hne1 _ _ _ _ _ _ _)) Try.underlying25 rfl (by kernel_rfl) (.tmp (.tmp .nil)))) rfl ?_
  exact ⟨_, rfl, Kd.R_lower (set7 (set7 HO6.out (by omega) _ _ _ _ _ _ _) (by omega) _ _ _ _ _ _ _) (by omega), below7 (below7 HB6.out (Nat.le_refl _) _ _ _ _ _ _ _) (by omega) _ _ _ _ _ _ _⟩

set_option maxHeartbeats 4000000 in
theorem ask_oka (f e u c : Int)  (A0 : Option Addr) (c0 : Nat) (l : List S40) (cl m : Int) (w : World) (hr0 : Kd.C k40 w A0 l.length l) (hc0 : l.length ≤ c0) (hl : l.length ≤ 100) (hr : rightB u c true false l = true) (hm1 : 1 ≤ m) (hm2 : m ≤ 2) (ho : (othersF l cl m).length = 0) (hh : ¬ m ≤ modeF l cl) (he : m = 2) (hu : u = 0) (hf : ¬ (withoutF l cl).length = 4) (hN : ∀ x ∈ l, Nn x) (hcl : 0 ≤ cl ∧ cl ≤ 4294967295) :
    Calls Try.prog 17 #[.agg (lockA f e u c true false (.slice A0 l.length c0)), .int .u32 cl, .int .u32 m] w fun ex w' => ∃ v l', l'.Perm (withoutF l cl ++ [⟨cl, m⟩]) ∧ SortedL l' ∧ ex = .returned (.tuple #[.agg (lockA f e (if u < m then m else u) c true false v), .int .i64 1, .int .i64 0]) ∧ Kd.R k40 40 w' w.heap.size (fun _ => True) v l' ∧ Below w.heap.size w w' := by
  obtain ⟨w2, hw2⟩ : ∃ w2, (w.alloc (.cells (lockA f e u c true false (.slice A0 l.length c0)) 25)).alloc (.cells zlock 25) = w2 := ⟨_, rfl⟩
  have hs2 : w2.heap.size = w.heap.size + 2 := by rw [← hw2]; simp
  have HB2 := Lib.hid (show Below w.heap.size w w2 by rw [← hw2]; have h1 := boxed w (.cells (lockA f e u c true false (.slice A0 l.length c0)) 25); exact h1.alloc h1.size _)
  have BL2 := Lib.hid (show w2.heap[w.heap.size]? = some (.cells (lockA f e u c true false (.slice A0 l.length c0)) 25 (0, 0)) by rw [← hw2]; exact alloc_old (alloc_at w _) _)
  have BZ2 := Lib.hid (show w2.heap[w.heap.size + 1]? = some (.cells zlock 25 (0, 0)) by rw [← hw2]; have := alloc_at (w.alloc (.cells (lockA f e u c true false (.slice A0 l.length c0)) 25)) (.cells zlock 25); simpa using this)
  have HRT := Lib.hid (fun W h => hold_Right.calls 4200 f e u c true false A0 c0 l true W h hc0 (by rw [right_f f e u c true false l (by omega) 4200 (by omega), hr]))
  obtain ⟨os, hos⟩ : ∃ os, othersF l cl m = os := ⟨_, rfl⟩
  have HOT := Lib.hid (fun W h => hold_Others.calls 4200 f e u c true false A0 c0 l cl m os W h hc0 (by rw [others_f f e u c true false l cl m (by omega) 4200 (by omega), if_pos hr, hos]))
  obtain ⟨mo, hmo⟩ : ∃ mo, modeF l cl = mo := ⟨_, rfl⟩
  have HMO := Lib.hid (fun W h => hold_Mode.calls 4200 f e u c true false A0 c0 l cl mo W h hc0 (by rw [mode_f f e u c true false l cl (by omega) 4200 (by omega), if_pos hr, hmo]))
  have HFR := Lib.hid (fun W h => hold_fresh.calls f e u c true false A0 c0 l f e u c true false l W h hc0 (by unfold hold_fresh.f api_Holder.f; rw [if_pos hl]; rfl))
  obtain ⟨l5, hl5⟩ : ∃ l5, withoutF l cl = l5 := ⟨_, rfl⟩
  have hl5n : l5.length ≤ 100 := by rw [← hl5]; exact Nat.le_trans (List.length_filter_le _ _) hl
  have HWO := Lib.hid (fun W h => without_calls f e u c true false A0 c0 l cl W h hl)
  rw [hl5] at HWO
  have HR := Lib.hid hr0
  have HL := Lib.hid hl
  have hx := blk7 BL2.out
  have hz := blk7 BZ2.out
  have HS2 := Lib.hid (show w.heap.size + 2 ≤ w2.heap.size by omega)
  clear hs2
  have hd1 : decide (m < 1) = false := decide_eq_false (by omega)
  have hd2 : decide (m > 2) = false := decide_eq_false (by omega)
  have hos1 : decide (0 < os.length) = false := decide_eq_false (by rw [← hos]; omega)
  have hmo1 : decide (m ≤ mo) = false := decide_eq_false (by rw [← hmo]; omega)
  have hf1 : ((l5.length : Int) == 4) = false := by rw [beq_eq_false_iff_ne, ← hl5]; omega
  have hf2 : (l5.length == 4) = false := by rw [beq_eq_false_iff_ne, ← hl5]; omega
  have hf3 : (l5.length = 4) = False := eq_false (by rw [← hl5]; omega)
  have hf4 : ((l5.length : Int) = 4) = False := eq_false (by rw [← hl5]; omega)
  have hq1 : (m == 2) = true := by rw [he]; rfl
  have hq2 : (u == 0) = true := by rw [hu]; rfl
  have hq1' : (m = 2) = True := eq_true he
  have hq2' : (u = 0) = True := eq_true hu
  clear he hu
  have HL5n := Lib.hid hl5n
  obtain ⟨l6, hl6⟩ : ∃ l6, l5 ++ [(⟨cl, m⟩ : S40)] = l6 := ⟨_, rfl⟩
  obtain ⟨mx, hmx⟩ : ∃ mx, (if u < m then m else u) = mx := ⟨_, rfl⟩
  rw [hmx]
  have HL6 := Lib.hid hl6
  have HL6n := Lib.hid (show l6.length = l5.length + 1 by rw [← hl6]; simp)
  have HN6 := Lib.hid (show ∀ x ∈ l6, Nn x by
    intro x hx
    rw [← hl6] at hx
    rcases List.mem_append.1 hx with hx | hx
    · rw [← hl5] at hx; exact hN x (List.mem_filter.1 hx).1
    · rw [List.mem_singleton.1 hx]; exact hcl)
  rw [hl5]
  clear hr0 hc0 hl hr hl6 ho hh hf hN hcl hm1 hm2 hos hmo hl5 hl5n
  go_enter Try.func17, Try.ntmps17
  go_wp2_with (first
   
    | (go_at_call 9; refine (HRT.out _ (Kd.C_below HR.out HB2.out)).mono ?_; rintro ex w3 ⟨rfl, hb⟩; clear hw2; have HB3 := Lib.hid (HB2.out.trans (hb.mono HB2.out.size)); have HS3 := Lib.hid (Nat.le_trans HS2.out hb.size); have BL3 := Lib.hid (below_old BL2.out hb); have BZ3 := Lib.hid (below_old BZ2.out hb); clear hx hz; have hx := blk7 BL3.out; have hz := blk7 BZ3.out; clear hb)
    | (go_at_call 13; refine (HOT.out _ (Kd.C_below HR.out HB3.out)).mono ?_; rintro ex w4 ⟨vo, rfl, ho, hb⟩; obtain ⟨Ao, co, rfl⟩ := Kd.R_slice ho; clear ho; have HB4 := Lib.hid (HB3.out.trans (hb.mono HB3.out.size)); have HS4 := Lib.hid (Nat.le_trans HS3.out hb.size); have BL4 := Lib.hid (below_old BL3.out hb); have BZ4 := Lib.hid (below_old BZ3.out hb); clear hx hz; have hx := blk7 BL4.out; have hz := blk7 BZ4.out; clear hb)
    | (go_at_call 14; refine (HMO.out _ (Kd.C_below HR.out HB4.out)).mono ?_; rintro ex w5 ⟨rfl, hb⟩; have HB5 := Lib.hid (HB4.out.trans (hb.mono HB4.out.size)); have HS5 := Lib.hid (Nat.le_trans HS4.out hb.size); have BL5 := Lib.hid (below_old BL4.out hb); have BZ5 := Lib.hid (below_old BZ4.out hb); clear hx hz; have hx := blk7 BL5.out; have hz := blk7 BZ5.out; clear hb)
    | (go_at_call 24; refine (HWO.out _ (Kd.C_below HR.out HB5.out)).mono ?_; rintro ex w6 ⟨v, rfl, ho, hb⟩; have HO6 := Lib.hid (Kd.R_lower ho HS5.out); obtain ⟨Av, cv, rfl⟩ := Kd.R_slice HO6.out; clear ho; have HB6 := Lib.hid (HB5.out.trans (hb.mono HB5.out.size)); have HS6 := Lib.hid (Nat.le_trans HS5.out hb.size); have BL6 := Lib.hid (below_old BL5.out hb); have BZ6 := Lib.hid (below_old BZ5.out hb); clear hx hz; have hx := blk7 BL6.out; have hz := blk7 BZ6.out; clear hb; have hne1 : ¬ w.heap.size + 1 = w.heap.size := (by omega); have hne2 : ¬ w.heap.size = w.heap.size + 1 := (by omega))
    | ((with_reducible refine gate_builtin (b := .append) (xs := #[.tmp 73, .tmp 77]) rfl ?_); at_builtin
       have h7 := below7 HB6.out (Nat.le_refl w.heap.size) (.int .u32 f) (.int .u32 e) (.int .u32 u) (.int .u32 c) (.bool true) (.bool false) (.slice Av l5.length cv)
       have h6 := below7 (Below.refl w.heap.size w6) (Nat.le_refl w.heap.size) (.int .u32 f) (.int .u32 e) (.int .u32 u) (.int .u32 c) (.bool true) (.bool false) (.slice Av l5.length cv)
       have z7 := far7 BZ6.out hne1 (.int .u32 f) (.int .u32 e) (.int .u32 u) (.int .u32 c) (.bool true) (.bool false) (.slice Av l5.length cv)
       have b7 : (((((((w6.setCell ⟨w.heap.size, 0, none⟩ (.int .u32 f)).setCell ⟨w.heap.size, 1, none⟩ (.int .u32 e)).setCell ⟨w.heap.size, 2, none⟩ (.int .u32 u)).setCell ⟨w.heap.size, 3, none⟩ (.int .u32 c)).setCell ⟨w.heap.size, 4, none⟩ (.bool true)).setCell ⟨w.heap.size, 5, none⟩ (.bool false)).setCell ⟨w.heap.size, 6, none⟩ (.slice Av l5.length cv)).heap[w.heap.size]? = some (.cells (lockA f e u c true false (.slice Av l5.length cv)) 25 (0, 0)) := put7 BL6.out
       have o7 := set7 HO6.out (show w.heap.size < w.heap.size + 2 by omega) (.int .u32 f) (.int .u32 e) (.int .u32 u) (.int .u32 c) (.bool true) (.bool false) (.slice Av l5.length cv)
       generalize hw7 : (((((((w6.setCell ⟨w.heap.size, 0, none⟩ (.int .u32 f)).setCell ⟨w.heap.size, 1, none⟩ (.int .u32 e)).setCell ⟨w.heap.size, 2, none⟩ (.int .u32 u)).setCell ⟨w.heap.size, 3, none⟩ (.int .u32 c)).setCell ⟨w.heap.size, 4, none⟩ (.bool true)).setCell ⟨w.heap.size, 5, none⟩ (.bool false)).setCell ⟨w.heap.size, 6, none⟩ (.slice Av l5.length cv)) = w7 at h7 h6 z7 b7 o7 ⊢
       have hs7 : w6.heap.size = w7.heap.size := by rw [← hw7]; simp
       rw [hs7]
       have hle7 : w.heap.size + 2 ≤ w7.heap.size := Nat.le_trans HS6.out h6.size
       refine Kd.R_append_rows k40 (w0 := w7) (w.heap.size + 2) rfl (.tmp 73) (.tmp 77) 23 40 (.agg #[(.int .u32 0), (.int .u32 0)]) 8 rfl Try.underlying23 inf40 rfl (by decide) (by omega) (.slice Av l5.length cv) l5 [(⟨cl, m⟩ : S40)] (some ⟨w7.heap.size, 0, none⟩) 1 1 (fun _ => True) (fun _ => False) rfl rfl (Kd.R_below o7 (boxed w7 _)) (row_one (o := ⟨cl, m⟩) (alloc_at w7 _)) (fun _ _ h => h) (fun _ h => h.elim) (fun _ _ => trivial) ((Below.refl _ w7).alloc hle7 _) (by simp; omega) (by have := HL5n.out; simp; omega) ?_
       intro v1 w8 ho hb hg hat
       clear hg hat
       rw [HL6.out] at ho
       have HO8 := Lib.hid ho
       have HB8 := Lib.hid (h7.trans (hb.mono (by omega)))
       have BL8 := Lib.hid (below_old' b7 (by omega) hb)
       have BZ8 := Lib.hid (below_old' z7 (by omega) hb)
       obtain ⟨A8, c8, rfl⟩ := Kd.R_slice HO8.out
       have HLT := Lib.hid (show w.heap.size + 2 ≤ w8.heap.size from Nat.le_trans hle7 hb.size)
       clear ho hb h7 h6 z7 b7 o7 hw7 hs7 hle7 hx hz
       have hx := blk7 BL8.out
       have hz := blk7 BZ8.out)
    | (go_at_call 26; refine (sort_calls (w.heap.size + 2) _ _ _ l6 HN6.out (Below.refl _ _) (R_low HO8.out (show w.heap.size < w.heap.size + 2 by omega) _) (by have := HL6n.out; have := HL5n.out; omega) (by have := HL6n.out; omega)).mono ?_; rintro ex w9 ⟨rfl, l', hp, hs, ho, hb⟩
       have HP9 := Lib.hid hp
       have HS9 := Lib.hid hs
       have HO9 := Lib.hid ho
       have BL9 := Lib.hid (below_old' (set_at BL8.out 6 (.slice A8 l6.length c8)) (by omega) hb)
       have BZ9 := Lib.hid (below_old' (set_far BZ8.out (p := ⟨w.heap.size, 6, none⟩) hne1 (.slice A8 l6.length c8)) (by omega) hb)
       have HB9 := Lib.hid ((HB8.out.setCell (Nat.le_refl w.heap.size) (.slice A8 l6.length c8)).trans (hb.mono (by omega)))
       clear hp hs ho hb hx hz
       have hx := blk7 BL9.out
       have hz := blk7 BZ9.out))
  refine bodyPost_ret (results_list (rs := [.cell 6 25, .tmp 7, .tmp 8]) rfl (by simp) (.cell (w.heap.size + 1) 25 (lockA f e mx c true false (.slice A8 l6.length c8)) (0, 0) _ rfl (put7 (set_far BZ9.out hne1 _)) Try.underlying25 rfl (by kernel_rfl) (.tmp (.tmp .nil)))) rfl ?_
  exact ⟨_, _, by rw [HL6.out]; exact HP9.out, HS9.out, rfl, Kd.R_lower (set7 (R_low HO9.out (by omega) _) (by omega) _ _ _ _ _ _ _) (by omega), below7 (HB9.out.setCell (Nat.le_refl w.heap.size) _) (by omega) _ _ _ _ _ _ _⟩

set_option maxHeartbeats 4000000 in
theorem ask_okb (f e u c : Int)  (A0 : Option Addr) (c0 : Nat) (l : List S40) (cl m : Int) (w : World) (hr0 : Kd.C k40 w A0 l.length l) (hc0 : l.length ≤ c0) (hl : l.length ≤ 100) (hr : rightB u c true false l = true) (hm1 : 1 ≤ m) (hm2 : m ≤ 2) (ho : (othersF l cl m).length = 0) (hh : ¬ m ≤ modeF l cl) (he : ¬ m = 2) (hu : ¬ u = 2) (hf : ¬ (withoutF l cl).length = 4) (hN : ∀ x ∈ l, Nn x) (hcl : 0 ≤ cl ∧ cl ≤ 4294967295) :
    Calls Try.prog 17 #[.agg (lockA f e u c true false (.slice A0 l.length c0)), .int .u32 cl, .int .u32 m] w fun ex w' => ∃ v l', l'.Perm (withoutF l cl ++ [⟨cl, m⟩]) ∧ SortedL l' ∧ ex = .returned (.tuple #[.agg (lockA f e (if u < m then m else u) c true false v), .int .i64 1, .int .i64 0]) ∧ Kd.R k40 40 w' w.heap.size (fun _ => True) v l' ∧ Below w.heap.size w w' := by
  obtain ⟨w2, hw2⟩ : ∃ w2, (w.alloc (.cells (lockA f e u c true false (.slice A0 l.length c0)) 25)).alloc (.cells zlock 25) = w2 := ⟨_, rfl⟩
  have hs2 : w2.heap.size = w.heap.size + 2 := by rw [← hw2]; simp
  have HB2 := Lib.hid (show Below w.heap.size w w2 by rw [← hw2]; have h1 := boxed w (.cells (lockA f e u c true false (.slice A0 l.length c0)) 25); exact h1.alloc h1.size _)
  have BL2 := Lib.hid (show w2.heap[w.heap.size]? = some (.cells (lockA f e u c true false (.slice A0 l.length c0)) 25 (0, 0)) by rw [← hw2]; exact alloc_old (alloc_at w _) _)
  have BZ2 := Lib.hid (show w2.heap[w.heap.size + 1]? = some (.cells zlock 25 (0, 0)) by rw [← hw2]; have := alloc_at (w.alloc (.cells (lockA f e u c true false (.slice A0 l.length c0)) 25)) (.cells zlock 25); simpa using this)
  have HRT := Lib.hid (fun W h => hold_Right.calls 4200 f e u c true false A0 c0 l true W h hc0 (by rw [right_f f e u c true false l (by omega) 4200 (by omega), hr]))
  obtain ⟨os, hos⟩ : ∃ os, othersF l cl m = os := ⟨_, rfl⟩
  have HOT := Lib.hid (fun W h => hold_Others.calls 4200 f e u c true false A0 c0 l cl m os W h hc0 (by rw [others_f f e u c true false l cl m (by omega) 4200 (by omega), if_pos hr, hos]))
  obtain ⟨mo, hmo⟩ : ∃ mo, modeF l cl = mo := ⟨_, rfl⟩
  have HMO := Lib.hid (fun W h => hold_Mode.calls 4200 f e u c true false A0 c0 l cl mo W h hc0 (by rw [mode_f f e u c true false l cl (by omega) 4200 (by omega), if_pos hr, hmo]))
  have HFR := Lib.hid (fun W h => hold_fresh.calls f e u c true false A0 c0 l f e u c true false l W h hc0 (by unfold hold_fresh.f api_Holder.f; rw [if_pos hl]; rfl))
  obtain ⟨l5, hl5⟩ : ∃ l5, withoutF l cl = l5 := ⟨_, rfl⟩
  have hl5n : l5.length ≤ 100 := by rw [← hl5]; exact Nat.le_trans (List.length_filter_le _ _) hl
  have HWO := Lib.hid (fun W h => without_calls f e u c true false A0 c0 l cl W h hl)
  rw [hl5] at HWO
  have HR := Lib.hid hr0
  have HL := Lib.hid hl
  have hx := blk7 BL2.out
  have hz := blk7 BZ2.out
  have HS2 := Lib.hid (show w.heap.size + 2 ≤ w2.heap.size by omega)
  clear hs2
  have hd1 : decide (m < 1) = false := decide_eq_false (by omega)
  have hd2 : decide (m > 2) = false := decide_eq_false (by omega)
  have hos1 : decide (0 < os.length) = false := decide_eq_false (by rw [← hos]; omega)
  have hmo1 : decide (m ≤ mo) = false := decide_eq_false (by rw [← hmo]; omega)
  have hf1 : ((l5.length : Int) == 4) = false := by rw [beq_eq_false_iff_ne, ← hl5]; omega
  have hf2 : (l5.length == 4) = false := by rw [beq_eq_false_iff_ne, ← hl5]; omega
  have hf3 : (l5.length = 4) = False := eq_false (by rw [← hl5]; omega)
  have hf4 : ((l5.length : Int) = 4) = False := eq_false (by rw [← hl5]; omega)
  have hq1 : (m == 2) = false := beq_eq_false_iff_ne.2 he
  have hq2 : (u == 2) = false := beq_eq_false_iff_ne.2 hu
  have hq1' : (m = 2) = False := eq_false he
  have hq2' : (u = 2) = False := eq_false hu
  clear he hu
  have HL5n := Lib.hid hl5n
  obtain ⟨l6, hl6⟩ : ∃ l6, l5 ++ [(⟨cl, m⟩ : S40)] = l6 := ⟨_, rfl⟩
  obtain ⟨mx, hmx⟩ : ∃ mx, (if u < m then m else u) = mx := ⟨_, rfl⟩
  rw [hmx]
  have HL6 := Lib.hid hl6
  have HL6n := Lib.hid (show l6.length = l5.length + 1 by rw [← hl6]; simp)
  have HN6 := Lib.hid (show ∀ x ∈ l6, Nn x by
    intro x hx
    rw [← hl6] at hx
    rcases List.mem_append.1 hx with hx | hx
    · rw [← hl5] at hx; exact hN x (List.mem_filter.1 hx).1
    · rw [List.mem_singleton.1 hx]; exact hcl)
  rw [hl5]
  clear hr0 hc0 hl hr hl6 ho hh hf hN hcl hm1 hm2 hos hmo hl5 hl5n
  go_enter Try.func17, Try.ntmps17
  go_wp2_with (first
   
    | (go_at_call 9; refine (HRT.out _ (Kd.C_below HR.out HB2.out)).mono ?_; rintro ex w3 ⟨rfl, hb⟩; clear hw2; have HB3 := Lib.hid (HB2.out.trans (hb.mono HB2.out.size)); have HS3 := Lib.hid (Nat.le_trans HS2.out hb.size); have BL3 := Lib.hid (below_old BL2.out hb); have BZ3 := Lib.hid (below_old BZ2.out hb); clear hx hz; have hx := blk7 BL3.out; have hz := blk7 BZ3.out; clear hb)
    | (go_at_call 13; refine (HOT.out _ (Kd.C_below HR.out HB3.out)).mono ?_; rintro ex w4 ⟨vo, rfl, ho, hb⟩; obtain ⟨Ao, co, rfl⟩ := Kd.R_slice ho; clear ho; have HB4 := Lib.hid (HB3.out.trans (hb.mono HB3.out.size)); have HS4 := Lib.hid (Nat.le_trans HS3.out hb.size); have BL4 := Lib.hid (below_old BL3.out hb); have BZ4 := Lib.hid (below_old BZ3.out hb); clear hx hz; have hx := blk7 BL4.out; have hz := blk7 BZ4.out; clear hb)
    | (go_at_call 14; refine (HMO.out _ (Kd.C_below HR.out HB4.out)).mono ?_; rintro ex w5 ⟨rfl, hb⟩; have HB5 := Lib.hid (HB4.out.trans (hb.mono HB4.out.size)); have HS5 := Lib.hid (Nat.le_trans HS4.out hb.size); have BL5 := Lib.hid (below_old BL4.out hb); have BZ5 := Lib.hid (below_old BZ4.out hb); clear hx hz; have hx := blk7 BL5.out; have hz := blk7 BZ5.out; clear hb)
    | (go_at_call 24; refine (HWO.out _ (Kd.C_below HR.out HB5.out)).mono ?_; rintro ex w6 ⟨v, rfl, ho, hb⟩; have HO6 := Lib.hid (Kd.R_lower ho HS5.out); obtain ⟨Av, cv, rfl⟩ := Kd.R_slice HO6.out; clear ho; have HB6 := Lib.hid (HB5.out.trans (hb.mono HB5.out.size)); have HS6 := Lib.hid (Nat.le_trans HS5.out hb.size); have BL6 := Lib.hid (below_old BL5.out hb); have BZ6 := Lib.hid (below_old BZ5.out hb); clear hx hz; have hx := blk7 BL6.out; have hz := blk7 BZ6.out; clear hb; have hne1 : ¬ w.heap.size + 1 = w.heap.size := (by omega); have hne2 : ¬ w.heap.size = w.heap.size + 1 := (by omega))
    | ((with_reducible refine gate_builtin (b := .append) (xs := #[.tmp 73, .tmp 77]) rfl ?_); at_builtin
       have h7 := below7 HB6.out (Nat.le_refl w.heap.size) (.int .u32 f) (.int .u32 e) (.int .u32 u) (.int .u32 c) (.bool true) (.bool false) (.slice Av l5.length cv)
       have h6 := below7 (Below.refl w.heap.size w6) (Nat.le_refl w.heap.size) (.int .u32 f) (.int .u32 e) (.int .u32 u) (.int .u32 c) (.bool true) (.bool false) (.slice Av l5.length cv)
       have z7 := far7 BZ6.out hne1 (.int .u32 f) (.int .u32 e) (.int .u32 u) (.int .u32 c) (.bool true) (.bool false) (.slice Av l5.length cv)
       have b7 : (((((((w6.setCell ⟨w.heap.size, 0, none⟩ (.int .u32 f)).setCell ⟨w.heap.size, 1, none⟩ (.int .u32 e)).setCell ⟨w.heap.size, 2, none⟩ (.int .u32 u)).setCell ⟨w.heap.size, 3, none⟩ (.int .u32 c)).setCell ⟨w.heap.size, 4, none⟩ (.bool true)).setCell ⟨w.heap.size, 5, none⟩ (.bool false)).setCell ⟨w.heap.size, 6, none⟩ (.slice Av l5.length cv)).heap[w.heap.size]? = some (.cells (lockA f e u c true false (.slice Av l5.length cv)) 25 (0, 0)) := put7 BL6.out
       have o7 := set7 HO6.out (show w.heap.size < w.heap.size + 2 by omega) (.int .u32 f) (.int .u32 e) (.int .u32 u) (.int .u32 c) (.bool true) (.bool false) (.slice Av l5.length cv)
       generalize hw7 : (((((((w6.setCell ⟨w.heap.size, 0, none⟩ (.int .u32 f)).setCell ⟨w.heap.size, 1, none⟩ (.int .u32 e)).setCell ⟨w.heap.size, 2, none⟩ (.int .u32 u)).setCell ⟨w.heap.size, 3, none⟩ (.int .u32 c)).setCell ⟨w.heap.size, 4, none⟩ (.bool true)).setCell ⟨w.heap.size, 5, none⟩ (.bool false)).setCell ⟨w.heap.size, 6, none⟩ (.slice Av l5.length cv)) = w7 at h7 h6 z7 b7 o7 ⊢
       have hs7 : w6.heap.size = w7.heap.size := by rw [← hw7]; simp
       rw [hs7]
       have hle7 : w.heap.size + 2 ≤ w7.heap.size := Nat.le_trans HS6.out h6.size
       refine Kd.R_append_rows k40 (w0 := w7) (w.heap.size + 2) rfl (.tmp 73) (.tmp 77) 23 40 (.agg #[(.int .u32 0), (.int .u32 0)]) 8 rfl Try.underlying23 inf40 rfl (by decide) (by omega) (.slice Av l5.length cv) l5 [(⟨cl, m⟩ : S40)] (some ⟨w7.heap.size, 0, none⟩) 1 1 (fun _ => True) (fun _ => False) rfl rfl (Kd.R_below o7 (boxed w7 _)) (row_one (o := ⟨cl, m⟩) (alloc_at w7 _)) (fun _ _ h => h) (fun _ h => h.elim) (fun _ _ => trivial) ((Below.refl _ w7).alloc hle7 _) (by simp; omega) (by have := HL5n.out; simp; omega) ?_
       intro v1 w8 ho hb hg hat
       clear hg hat
       rw [HL6.out] at ho
       have HO8 := Lib.hid ho
       have HB8 := Lib.hid (h7.trans (hb.mono (by omega)))
       have BL8 := Lib.hid (below_old' b7 (by omega) hb)
       have BZ8 := Lib.hid (below_old' z7 (by omega) hb)
       obtain ⟨A8, c8, rfl⟩ := Kd.R_slice HO8.out
       have HLT := Lib.hid (show w.heap.size + 2 ≤ w8.heap.size from Nat.le_trans hle7 hb.size)
       clear ho hb h7 h6 z7 b7 o7 hw7 hs7 hle7 hx hz
       have hx := blk7 BL8.out
       have hz := blk7 BZ8.out)
    | (go_at_call 26; refine (sort_calls (w.heap.size + 2) _ _ _ l6 HN6.out (Below.refl _ _) (R_low HO8.out (show w.heap.size < w.heap.size + 2 by omega) _) (by have := HL6n.out; have := HL5n.out; omega) (by have := HL6n.out; omega)).mono ?_; rintro ex w9 ⟨rfl, l', hp, hs, ho, hb⟩
       have HP9 := Lib.hid hp
       have HS9 := Lib.hid hs
       have HO9 := Lib.hid ho
       have BL9 := Lib.hid (below_old' (set_at BL8.out 6 (.slice A8 l6.length c8)) (by omega) hb)
       have BZ9 := Lib.hid (below_old' (set_far BZ8.out (p := ⟨w.heap.size, 6, none⟩) hne1 (.slice A8 l6.length c8)) (by omega) hb)
       have HB9 := Lib.hid ((HB8.out.setCell (Nat.le_refl w.heap.size) (.slice A8 l6.length c8)).trans (hb.mono (by omega)))
       clear hp hs ho hb hx hz
       have hx := blk7 BL9.out
       have hz := blk7 BZ9.out))
  refine bodyPost_ret (results_list (rs := [.cell 6 25, .tmp 7, .tmp 8]) rfl (by simp) (.cell (w.heap.size + 1) 25 (lockA f e mx c true false (.slice A8 l6.length c8)) (0, 0) _ rfl (put7 (set_far BZ9.out hne1 _)) Try.underlying25 rfl (by kernel_rfl) (.tmp (.tmp .nil)))) rfl ?_
  exact ⟨_, _, by rw [HL6.out]; exact HP9.out, HS9.out, rfl, Kd.R_lower (set7 (R_low HO9.out (by omega) _) (by omega) _ _ _ _ _ _ _) (by omega), below7 (HB9.out.setCell (Nat.le_refl w.heap.size) _) (by omega) _ _ _ _ _ _ _⟩

/-! ### what an ask answers -/
def Strict (l : List S40) : Prop := l.Pairwise fun x y => x.f0 < y.f0
theorem rows_next {u : Int} {l : List S40} (h : rowsOk u l = true) (i : Nat) (hi : i + 1 < l.length) : l[i].f0 < l[i + 1].f0 := by
  have := rows_at h (i + 1) hi
  unfold rowOk at this
  simp only [Bool.and_eq_true, Bool.or_eq_true, decide_eq_true_eq] at this
  have h2 := this.2.2.2.resolve_left (by omega)
  rw [show (((i + 1 : Nat) : Int) - 1) = ((i : Nat) : Int) by omega, rd_get l i (by omega), rd_get l (i + 1) hi] at h2
  exact h2
theorem rows_strict {u : Int} {l : List S40} (h : rowsOk u l = true) : Strict l := by
  unfold Strict
  rw [List.pairwise_iff_getElem]
  intro i j hi hj hij
  obtain ⟨d, rfl⟩ : ∃ d, j = i + 1 + d := ⟨j - (i + 1), by omega⟩
  induction d with
  | zero => exact rows_next h i hj
  | succ d ih => exact Int.lt_trans (ih (by omega) (by omega)) (rows_next h (i + 1 + d) hj)
theorem right_rows {u c : Int} {fc g : Bool} {l : List S40} (h : rightB u c fc g l = true) : u ≤ 2 ∧ c ≤ 1024 ∧ l.length ≤ 4 ∧ (l.length = 0 ∨ fc = true ∧ g = false) ∧ rowsOk u l = true := by
  unfold rightB at h
  simp only [Bool.and_eq_true, Bool.or_eq_true, decide_eq_true_eq, Bool.not_eq_true'] at h
  exact h
theorem without_strict {l : List S40} (h : Strict l) (cl : Int) : Strict (withoutF l cl) := List.Pairwise.filter _ h
theorem without_ne {l : List S40} {cl : Int} : ∀ y ∈ withoutF l cl, ¬ y.f0 = cl := by
  intro y hy
  have := (List.mem_filter.1 hy).2
  simpa using this
def insH (l : List S40) (x : S40) : List S40 := l.filter (fun y => decide (y.f0 < x.f0)) ++ x :: l.filter (fun y => !decide (y.f0 < x.f0))
theorem insH_perm (l : List S40) (x : S40) : (insH l x).Perm (l ++ [x]) := by
  unfold insH
  refine List.perm_middle.trans ?_
  refine (List.Perm.cons x (List.filter_append_perm (fun y => decide (y.f0 < x.f0)) l)).trans ?_
  exact (List.perm_append_comm (l₁ := [x]) (l₂ := l))
theorem insH_strict {l : List S40} {x : S40} (hs : Strict l) (hn : ∀ y ∈ l, ¬ y.f0 = x.f0) : Strict (insH l x) := by
  unfold Strict insH at *
  rw [List.pairwise_append, List.pairwise_cons]
  refine ⟨hs.filter _, ⟨fun y hy => ?_, hs.filter _⟩, fun y hy z hz => ?_⟩
  · simp only [List.mem_filter, Bool.not_eq_true', decide_eq_false_iff_not] at hy
    have := hn y hy.1; omega
  · simp only [List.mem_filter, decide_eq_true_eq] at hy
    rcases List.mem_cons.1 hz with rfl | hz
    · exact hy.2
    · simp only [List.mem_filter, Bool.not_eq_true', decide_eq_false_iff_not] at hz
      have := hn z hz.1; omega
theorem strict_apart {l : List S40} (hs : Strict l) {a b : S40} (ha : a ∈ l) (hb : b ∈ l) (h1 : ¬ b.f0 < a.f0) (h2 : ¬ a.f0 < b.f0) : a = b := by
  unfold Strict at hs
  rw [List.pairwise_iff_getElem] at hs
  obtain ⟨i, hi, rfl⟩ := List.getElem_of_mem ha
  obtain ⟨j, hj, rfl⟩ := List.getElem_of_mem hb
  rcases Nat.lt_trichotomy i j with h | h | h
  · exact absurd (hs i j hi hj h) h2
  · subst h; rfl
  · exact absurd (hs j i hj hi h) h1
theorem ins_unique {l l' : List S40} {x : S40} (hs : Strict l) (hn : ∀ y ∈ l, ¬ y.f0 = x.f0) (hp : l'.Perm (l ++ [x])) (hso : SortedL l') : l' = insH l x := by
  have hi := insH_strict hs hn
  have hp2 : l'.Perm (insH l x) := hp.trans (insH_perm l x).symm
  refine List.Perm.eq_of_pairwise (le := fun (x y : S40) => ¬ y.f0 < x.f0) (fun a b ha hb h1 h2 => ?_) hso (List.Pairwise.imp (fun h => by omega) hi) hp2
  exact strict_apart hi (hp2.mem_iff.1 ha) hb h1 h2
def turnT (f e u c : Int) (fc g : Bool) (l : List S40) : Int × Int × Int × Int × Bool × Bool × List S40 := if e = 4294967295 then (f, e, u, c, fc, g, l) else (f, (e + 1) % 4294967296, 0, c, false, g, [])
theorem turn_f (f e u c : Int) (fc g : Bool) (l : List S40) (hl : l.length ≤ 100) : hold_turn.f f e u c fc g l = some (turnT f e u c fc g l) := by
  unfold hold_turn.f turnT hold_fresh.f api_Holder.f
  rw [if_pos hl]
  split <;> rfl
def askF (f e u c : Int) (fc g : Bool) (l : List S40) (cl m : Int) : Int × Int × Int × Int × Bool × Bool × List S40 × Int × Int :=
  if rightB u c fc g l = true ∧ 1 ≤ m ∧ m ≤ 2 then
    (if g = true then (f, e, u, c, fc, g, l, 4, 0)
     else if 0 < (othersF l cl m).length then (f, e, u, c, fc, g, l, 2, 0)
     else if m ≤ modeF l cl then (f, e, u, c, fc, g, l, 1, 0)
     else if fc = false then (f, e, u, c, fc, g, withoutF l cl, 3, 0)
     else if (m = 2 ∨ u = 2) ∧ ¬ u = 0 then ((turnT f e u c fc g (withoutF l cl)).1, (turnT f e u c fc g (withoutF l cl)).2.1, (turnT f e u c fc g (withoutF l cl)).2.2.1, (turnT f e u c fc g (withoutF l cl)).2.2.2.1, (turnT f e u c fc g (withoutF l cl)).2.2.2.2.1, (turnT f e u c fc g (withoutF l cl)).2.2.2.2.2.1, (turnT f e u c fc g (withoutF l cl)).2.2.2.2.2.2, 3, 0)
     else if (withoutF l cl).length = 4 then (f, e, u, c, fc, g, withoutF l cl, 2, 0)
     else (f, e, (if u < m then m else u), c, fc, g, insH (withoutF l cl) ⟨cl, m⟩, 1, 0))
  else (0, 0, 0, 0, false, false, [], 0, 1)
def okH (l : List S40) (cl : Int) : Bool := decide (l.length ≤ 100) && (l.all (fun x => decide (0 ≤ x.f0) && decide (x.f0 ≤ 4294967295)) && (decide (0 ≤ cl) && decide (cl ≤ 4294967295)))
theorem okH_iff (l : List S40) (cl : Int) : okH l cl = true ↔ l.length ≤ 100 ∧ (∀ x ∈ l, Nn x) ∧ 0 ≤ cl ∧ cl ≤ 4294967295 := by
  unfold okH Nn; simp
end Go.Proofs.Ytkcacfnefhakbaa.HoldL

namespace Go.Proofs.Ytkcacfnefhakbaa.P12
open Go.RowKit Go.Shelf Go.Proofs.Ytkcacfnefhakbaa.HoldL Go.Proofs.YtkcacfnefhakbaaW.PrintWords Go.Proofs.YtkcacfnefhakbaaW.PrintLast Go.Proofs.YtkcacfnefhakbaaW.PrintMore
set_option linter.unusedVariables false

def hold_Ask.f (a0_0 a0_1 a0_2 a0_3 : Int) (a0_4 a0_5 : Bool) (l0_6 : List S40) (a1 a2 : Int) : Option (Int × Int × Int × Int × Bool × Bool × List S40 × Int × Int) := if okH l0_6 a1 = true then some (askF a0_0 a0_1 a0_2 a0_3 a0_4 a0_5 l0_6 a1 a2) else none
theorem hold_Ask.calls (a0_0 a0_1 a0_2 a0_3 : Int) (a0_4 a0_5 : Bool) (A0_6 : Option Addr) (c0_6 : Nat) (l0_6 : List S40) (a1 a2 : Int) (r1 r2 r3 r4 : Int) (r5 r6 : Bool) (r7 : List S40) (r8 r9 : Int) (w : World) (hr0_6 : Kd.C k40 w A0_6 l0_6.length l0_6) (hc0_6 : l0_6.length ≤ c0_6) (h : hold_Ask.f a0_0 a0_1 a0_2 a0_3 a0_4 a0_5 l0_6 a1 a2 = some (r1, r2, r3, r4, r5, r6, r7, r8, r9)) :
    Calls Try.prog 17 #[.agg #[.int .u32 a0_0, .int .u32 a0_1, .int .u32 a0_2, .int .u32 a0_3, .bool a0_4, .bool a0_5, .slice A0_6 l0_6.length c0_6], .int .u32 a1, .int .u32 a2] w fun e w' => ∃ v6_ : Value, e = .returned (.tuple #[.agg #[.int .u32 r1, .int .u32 r2, .int .u32 r3, .int .u32 r4, .bool r5, .bool r6, v6_], .int .i64 r8, .int .i64 r9]) ∧ Kd.R k40 40 w' w.heap.size (fun _ => True) v6_ r7 ∧ Below w.heap.size w w' := by
  unfold hold_Ask.f at h
  split at h
  · rename_i hok
    obtain ⟨hl, hN, hcl⟩ := (okH_iff _ _).1 hok
    have h' := Option.some.inj h
    clear h hok
    unfold askF at h'
    split at h'
    · rename_i hr
      obtain ⟨hr, hm1, hm2⟩ := hr
      have hs := rows_strict (right_rows hr).2.2.2.2
      split at h'
      · rename_i hg
        subst hg
        simp only [Prod.mk.injEq] at h'
        obtain ⟨rfl, rfl, rfl, rfl, rfl, rfl, rfl, rfl, rfl⟩ := h'
        exact ask_gone _ _ _ _ _ A0_6 c0_6 l0_6 a1 a2 w hr0_6 hc0_6 hl hr hm1 hm2
      · rename_i hg
        have hg' : a0_5 = false := by simpa using hg
        subst hg'
        clear hg
        split at h'
        · rename_i ho
          simp only [Prod.mk.injEq] at h'
          obtain ⟨rfl, rfl, rfl, rfl, rfl, rfl, rfl, rfl, rfl⟩ := h'
          exact ask_others _ _ _ _ _ A0_6 c0_6 l0_6 a1 a2 w hr0_6 hc0_6 hl hr hm1 hm2 ho
        · rename_i ho
          have ho' : (othersF l0_6 a1 a2).length = 0 := by omega
          split at h'
          · rename_i hh
            simp only [Prod.mk.injEq] at h'
            obtain ⟨rfl, rfl, rfl, rfl, rfl, rfl, rfl, rfl, rfl⟩ := h'
            exact ask_has _ _ _ _ _ A0_6 c0_6 l0_6 a1 a2 w hr0_6 hc0_6 hl hr hm1 hm2 ho' hh
          · rename_i hh
            split at h'
            · rename_i hf
              subst hf
              simp only [Prod.mk.injEq] at h'
              obtain ⟨rfl, rfl, rfl, rfl, rfl, rfl, rfl, rfl, rfl⟩ := h'
              exact ask_wait _ _ _ _ A0_6 c0_6 l0_6 a1 a2 w hr0_6 hc0_6 hl hr hm1 hm2 ho' hh
            · rename_i hf
              have hf' : a0_4 = true := by simpa using hf
              subst hf'
              clear hf
              have hwl : (withoutF l0_6 a1).length ≤ 100 := Nat.le_trans (List.length_filter_le _ _) hl
              split at h'
              · rename_i ht
                have htf := turn_f a0_0 a0_1 a0_2 a0_3 true false (withoutF l0_6 a1) hwl
                simp only [Prod.mk.injEq] at h'
                obtain ⟨rfl, rfl, rfl, rfl, rfl, rfl, rfl, rfl, rfl⟩ := h'
                by_cases h2 : a2 = 2
                · exact ask_turn1 _ _ _ _ A0_6 c0_6 l0_6 a1 a2 w hr0_6 hc0_6 hl _ _ _ _ _ _ _ hr hm1 hm2 ho' hh htf h2 ht.2
                · exact ask_turn2 _ _ _ _ A0_6 c0_6 l0_6 a1 a2 w hr0_6 hc0_6 hl _ _ _ _ _ _ _ hr hm1 hm2 ho' hh htf h2 (ht.1.resolve_left h2)
              · rename_i ht
                split at h'
                · rename_i h4
                  simp only [Prod.mk.injEq] at h'
                  obtain ⟨rfl, rfl, rfl, rfl, rfl, rfl, rfl, rfl, rfl⟩ := h'
                  by_cases h2 : a2 = 2
                  · exact ask_fulla _ _ _ _ A0_6 c0_6 l0_6 a1 a2 w hr0_6 hc0_6 hl hr hm1 hm2 ho' hh h2 (by omega) h4
                  · exact ask_fullb _ _ _ _ A0_6 c0_6 l0_6 a1 a2 w hr0_6 hc0_6 hl hr hm1 hm2 ho' hh h2 (by omega) h4
                · rename_i h4
                  simp only [Prod.mk.injEq] at h'
                  obtain ⟨rfl, rfl, rfl, rfl, rfl, rfl, rfl, rfl, rfl⟩ := h'
                  have fin : ∀ {e : Ending} {w' : World}, (∃ v l', l'.Perm (withoutF l0_6 a1 ++ [⟨a1, a2⟩]) ∧ SortedL l' ∧ e = .returned (.tuple #[.agg (lockA a0_0 a0_1 (if a0_2 < a2 then a2 else a0_2) a0_3 true false v), .int .i64 1, .int .i64 0]) ∧ Kd.R k40 40 w' w.heap.size (fun _ => True) v l' ∧ Below w.heap.size w w') → ∃ v6_ : Value, e = .returned (.tuple #[.agg #[.int .u32 a0_0, .int .u32 a0_1, .int .u32 (if a0_2 < a2 then a2 else a0_2), .int .u32 a0_3, .bool true, .bool false, v6_], .int .i64 1, .int .i64 0]) ∧ Kd.R k40 40 w' w.heap.size (fun _ => True) v6_ (insH (withoutF l0_6 a1) ⟨a1, a2⟩) ∧ Below w.heap.size w w' := by
                    rintro e w' ⟨v, l', hp, hso, he, hR, hb⟩
                    rw [ins_unique (without_strict hs a1) without_ne hp hso] at hR
                    exact ⟨v, he, hR, hb⟩
                  by_cases h2 : a2 = 2
                  · exact (ask_oka _ _ _ _ A0_6 c0_6 l0_6 a1 a2 w hr0_6 hc0_6 hl hr hm1 hm2 ho' hh h2 (by omega) h4 hN hcl).mono fun _ _ h => fin h
                  · exact (ask_okb _ _ _ _ A0_6 c0_6 l0_6 a1 a2 w hr0_6 hc0_6 hl hr hm1 hm2 ho' hh h2 (by omega) h4 hN hcl).mono fun _ _ h => fin h
    · rename_i hr
      simp only [Prod.mk.injEq] at h'
      obtain ⟨rfl, rfl, rfl, rfl, rfl, rfl, rfl, rfl, rfl⟩ := h'
      by_cases h1 : rightB a0_2 a0_3 a0_4 a0_5 l0_6 = true
      · by_cases h2 : a2 < 1
        · exact ask_no2 _ _ _ _ _ _ A0_6 c0_6 l0_6 a1 a2 w hr0_6 hc0_6 hl h1 h2
        · exact ask_no3 _ _ _ _ _ _ A0_6 c0_6 l0_6 a1 a2 w hr0_6 hc0_6 hl h1 (by
            by_cases h3 : 2 < a2
            · exact h3
            · exact absurd ⟨h1, by omega, by omega⟩ hr)
      · exact ask_no1 _ _ _ _ _ _ A0_6 c0_6 l0_6 a1 a2 w hr0_6 hc0_6 hl (by simpa using h1)
  · cases h
end Go.Proofs.Ytkcacfnefhakbaa.P12
