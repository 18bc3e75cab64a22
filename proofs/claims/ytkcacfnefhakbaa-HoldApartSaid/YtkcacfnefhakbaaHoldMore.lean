/- Layer hold: what tells that all data servers know an epoch, and what lets objects be cut, in all their ways. -/
import Derived.Test.YtkcacfnefhakbaaHoldSettle
namespace Go.Proofs.Ytkcacfnefhakbaa.HoldL
open Go.RowKit Go.Shelf Go.Blk Go.Proofs.Ytkcacfnefhakbaa.P12 Go.Proofs.YtkcacfnefhakbaaW.PrintWords Go.Proofs.YtkcacfnefhakbaaW.PrintLast Go.Proofs.YtkcacfnefhakbaaW.PrintMore
attribute [local go_sem] min2_int min_two
set_option linter.unusedVariables false
set_option linter.unusedSimpArgs false

set_option maxHeartbeats 4000000 in
theorem settle_no1 (f e u c : Int) (fc g : Bool) (A0 : Option Addr) (c0 : Nat) (l : List S40) (ep sz : Int) (w : World) (hr0 : Kd.C k40 w A0 l.length l) (hc0 : l.length ≤ c0) (hl : l.length ≤ 100) (hr : rightB u c fc g l = false) :
    Calls Try.prog 20 #[.agg (lockA f e u c fc g (.slice A0 l.length c0)), .int .u32 ep, .int .u32 sz] w fun ex w' => ∃ v, ex = .returned (.tuple #[.agg (lockA 0 0 0 0 false false v), .int .i64 1]) ∧ Kd.R k40 40 w' w.heap.size (fun _ => True) v [] ∧ Below w.heap.size w w' := by
  obtain ⟨w2, hw2⟩ : ∃ w2, (w.alloc (.cells (lockA f e u c fc g (.slice A0 l.length c0)) 25)).alloc (.cells zlock 25) = w2 := ⟨_, rfl⟩
  have hs2 : w2.heap.size = w.heap.size + 2 := by rw [← hw2]; simp
  have HB2 := Lib.hid (show Below w.heap.size w w2 by rw [← hw2]; have h1 := boxed w (.cells (lockA f e u c fc g (.slice A0 l.length c0)) 25); exact h1.alloc h1.size _)
  have BL2 := Lib.hid (show w2.heap[w.heap.size]? = some (.cells (lockA f e u c fc g (.slice A0 l.length c0)) 25 (0, 0)) by rw [← hw2]; exact alloc_old (alloc_at w _) _)
  have BZ2 := Lib.hid (show w2.heap[w.heap.size + 1]? = some (.cells zlock 25 (0, 0)) by rw [← hw2]; have := alloc_at (w.alloc (.cells (lockA f e u c fc g (.slice A0 l.length c0)) 25)) (.cells zlock 25); simpa using this)
  have HRT := Lib.hid (fun W h => hold_Right.calls 4200 f e u c fc g A0 c0 l false W h hc0 (by rw [right_f f e u c fc g l (by omega) 4200 (by omega), hr]))
  have HR := Lib.hid hr0
  have HL := Lib.hid hl
  have hx := blk7 BL2.out
  have hz := blk7 BZ2.out
  have HS2 := Lib.hid (show w.heap.size + 2 ≤ w2.heap.size by omega)
  clear hs2
  clear hr0 hc0 hl hr
  go_enter Try.func20, Try.ntmps20
  go_wp2_with (first | (go_at_call 9; refine (HRT.out _ (Kd.C_below HR.out HB2.out)).mono ?_; rintro ex w3 ⟨rfl, hb⟩; clear hw2; have HB3 := Lib.hid (HB2.out.trans (hb.mono HB2.out.size)); have HS3 := Lib.hid (Nat.le_trans HS2.out hb.size); have BL3 := Lib.hid (below_old BL2.out hb); have BZ3 := Lib.hid (below_old BZ2.out hb); clear hx hz; have hx := blk7 BL3.out; have hz := blk7 BZ3.out; clear hb))
  refine bodyPost_ret (results_list (rs := [.cell 6 25, .tmp 7]) rfl (by simp) (.cell (w.heap.size + 1) 25 (zlock) (0, 0) _ rfl (put7 BZ3.out) Try.underlying25 rfl (by kernel_rfl) (.tmp .nil))) rfl ?_
  exact ⟨_, rfl, Kd.R_nil _ _ _ _ _, below7 HB3.out (by omega) _ _ _ _ _ _ _⟩

set_option maxHeartbeats 4000000 in
theorem settle_no2 (f e u c : Int) (fc g : Bool) (A0 : Option Addr) (c0 : Nat) (l : List S40) (ep sz : Int) (w : World) (hr0 : Kd.C k40 w A0 l.length l) (hc0 : l.length ≤ c0) (hl : l.length ≤ 100) (hr : rightB u c fc g l = true) (hsz : 1024 < sz) :
    Calls Try.prog 20 #[.agg (lockA f e u c fc g (.slice A0 l.length c0)), .int .u32 ep, .int .u32 sz] w fun ex w' => ∃ v, ex = .returned (.tuple #[.agg (lockA 0 0 0 0 false false v), .int .i64 1]) ∧ Kd.R k40 40 w' w.heap.size (fun _ => True) v [] ∧ Below w.heap.size w w' := by
  obtain ⟨w2, hw2⟩ : ∃ w2, (w.alloc (.cells (lockA f e u c fc g (.slice A0 l.length c0)) 25)).alloc (.cells zlock 25) = w2 := ⟨_, rfl⟩
  have hs2 : w2.heap.size = w.heap.size + 2 := by rw [← hw2]; simp
  have HB2 := Lib.hid (show Below w.heap.size w w2 by rw [← hw2]; have h1 := boxed w (.cells (lockA f e u c fc g (.slice A0 l.length c0)) 25); exact h1.alloc h1.size _)
  have BL2 := Lib.hid (show w2.heap[w.heap.size]? = some (.cells (lockA f e u c fc g (.slice A0 l.length c0)) 25 (0, 0)) by rw [← hw2]; exact alloc_old (alloc_at w _) _)
  have BZ2 := Lib.hid (show w2.heap[w.heap.size + 1]? = some (.cells zlock 25 (0, 0)) by rw [← hw2]; have := alloc_at (w.alloc (.cells (lockA f e u c fc g (.slice A0 l.length c0)) 25)) (.cells zlock 25); simpa using this)
  have HRT := Lib.hid (fun W h => hold_Right.calls 4200 f e u c fc g A0 c0 l true W h hc0 (by rw [right_f f e u c fc g l (by omega) 4200 (by omega), hr]))
  have HFR := Lib.hid (fun W h => hold_fresh.calls f e u c fc g A0 c0 l f e u c fc g l W h hc0 (by unfold hold_fresh.f api_Holder.f; rw [if_pos hl]; rfl))
  have HR := Lib.hid hr0
  have HL := Lib.hid hl
  have hx := blk7 BL2.out
  have hz := blk7 BZ2.out
  have HS2 := Lib.hid (show w.heap.size + 2 ≤ w2.heap.size by omega)
  clear hs2
  have hd1 : decide (sz > 1024) = true := decide_eq_true hsz
  have hd2 : decide (1024 < sz) = true := decide_eq_true hsz
  clear hr0 hc0 hl hr hsz
  go_enter Try.func20, Try.ntmps20
  go_wp2_with (first | (go_at_call 9; refine (HRT.out _ (Kd.C_below HR.out HB2.out)).mono ?_; rintro ex w3 ⟨rfl, hb⟩; clear hw2; have HB3 := Lib.hid (HB2.out.trans (hb.mono HB2.out.size)); have HS3 := Lib.hid (Nat.le_trans HS2.out hb.size); have BL3 := Lib.hid (below_old BL2.out hb); have BZ3 := Lib.hid (below_old BZ2.out hb); clear hx hz; have hx := blk7 BL3.out; have hz := blk7 BZ3.out; clear hb))
  refine bodyPost_ret (results_list (rs := [.cell 6 25, .tmp 7]) rfl (by simp) (.cell (w.heap.size + 1) 25 (zlock) (0, 0) _ rfl (put7 BZ3.out) Try.underlying25 rfl (by kernel_rfl) (.tmp .nil))) rfl ?_
  exact ⟨_, rfl, Kd.R_nil _ _ _ _ _, below7 HB3.out (by omega) _ _ _ _ _ _ _⟩

set_option maxHeartbeats 4000000 in
theorem settle_fenced (f e u c : Int) (g : Bool) (A0 : Option Addr) (c0 : Nat) (l : List S40) (ep sz : Int) (w : World) (hr0 : Kd.C k40 w A0 l.length l) (hc0 : l.length ≤ c0) (hl : l.length ≤ 100) (hr : rightB u c true g l = true) (hsz : sz ≤ 1024) :
    Calls Try.prog 20 #[.agg (lockA f e u c true g (.slice A0 l.length c0)), .int .u32 ep, .int .u32 sz] w fun ex w' => ∃ v, ex = .returned (.tuple #[.agg (lockA f e u c true g v), .int .i64 0]) ∧ Kd.R k40 40 w' w.heap.size (fun _ => True) v l ∧ Below w.heap.size w w' := by
  obtain ⟨w2, hw2⟩ : ∃ w2, (w.alloc (.cells (lockA f e u c true g (.slice A0 l.length c0)) 25)).alloc (.cells zlock 25) = w2 := ⟨_, rfl⟩
  have hs2 : w2.heap.size = w.heap.size + 2 := by rw [← hw2]; simp
  have HB2 := Lib.hid (show Below w.heap.size w w2 by rw [← hw2]; have h1 := boxed w (.cells (lockA f e u c true g (.slice A0 l.length c0)) 25); exact h1.alloc h1.size _)
  have BL2 := Lib.hid (show w2.heap[w.heap.size]? = some (.cells (lockA f e u c true g (.slice A0 l.length c0)) 25 (0, 0)) by rw [← hw2]; exact alloc_old (alloc_at w _) _)
  have BZ2 := Lib.hid (show w2.heap[w.heap.size + 1]? = some (.cells zlock 25 (0, 0)) by rw [← hw2]; have := alloc_at (w.alloc (.cells (lockA f e u c true g (.slice A0 l.length c0)) 25)) (.cells zlock 25); simpa using this)
  have HRT := Lib.hid (fun W h => hold_Right.calls 4200 f e u c true g A0 c0 l true W h hc0 (by rw [right_f f e u c true g l (by omega) 4200 (by omega), hr]))
  have HFR := Lib.hid (fun W h => hold_fresh.calls f e u c true g A0 c0 l f e u c true g l W h hc0 (by unfold hold_fresh.f api_Holder.f; rw [if_pos hl]; rfl))
  have HR := Lib.hid hr0
  have HL := Lib.hid hl
  have hx := blk7 BL2.out
  have hz := blk7 BZ2.out
  have HS2 := Lib.hid (show w.heap.size + 2 ≤ w2.heap.size by omega)
  clear hs2
  have hd1 : decide (sz > 1024) = false := decide_eq_false (by omega)
  have hd2 : decide (1024 < sz) = false := decide_eq_false (by omega)
  clear hr0 hc0 hl hr hsz
  go_enter Try.func20, Try.ntmps20
  go_wp2_with (first | (go_at_call 9; refine (HRT.out _ (Kd.C_below HR.out HB2.out)).mono ?_; rintro ex w3 ⟨rfl, hb⟩; clear hw2; have HB3 := Lib.hid (HB2.out.trans (hb.mono HB2.out.size)); have HS3 := Lib.hid (Nat.le_trans HS2.out hb.size); have BL3 := Lib.hid (below_old BL2.out hb); have BZ3 := Lib.hid (below_old BZ2.out hb); clear hx hz; have hx := blk7 BL3.out; have hz := blk7 BZ3.out; clear hb) | (go_at_call 23; refine (HFR.out _ (Kd.C_below HR.out HB3.out)).mono ?_; rintro ex w6 ⟨v, rfl, ho, hb⟩; have HO6 := Lib.hid (Kd.R_lower ho HS3.out); obtain ⟨Av, cv, rfl⟩ := Kd.R_slice HO6.out; clear ho; have HB6 := Lib.hid (HB3.out.trans (hb.mono HB3.out.size)); have HS6 := Lib.hid (Nat.le_trans HS3.out hb.size); have BL6 := Lib.hid (below_old BL3.out hb); have BZ6 := Lib.hid (below_old BZ3.out hb); clear hx hz; have hx := blk7 BL6.out; have hz := blk7 BZ6.out; clear hb; have hne1 : ¬ w.heap.size + 1 = w.heap.size := (by omega); have hne2 : ¬ w.heap.size = w.heap.size + 1 := (by omega)) | ((with_reducible refine gate_dst (N := 18) rfl ?_); refine stop_here ?_))
  refine Lib.hid ?_
  have h7 := below7 HB6.out (Nat.le_refl w.heap.size) (.int .u32 f) (.int .u32 e) (.int .u32 u) (.int .u32 c) (.bool true) (.bool g) (.slice Av l.length cv)
  have z7 := far7 BZ6.out hne1 (.int .u32 f) (.int .u32 e) (.int .u32 u) (.int .u32 c) (.bool true) (.bool g) (.slice Av l.length cv)
  have b7 : ((((((((w6.setCell ⟨w.heap.size, 0, none⟩ (.int .u32 f)).setCell ⟨w.heap.size, 1, none⟩ (.int .u32 e)).setCell ⟨w.heap.size, 2, none⟩ (.int .u32 u)).setCell ⟨w.heap.size, 3, none⟩ (.int .u32 c)).setCell ⟨w.heap.size, 4, none⟩ (.bool true)).setCell ⟨w.heap.size, 5, none⟩ (.bool g)).setCell ⟨w.heap.size, 6, none⟩ (.slice Av l.length cv))).heap[w.heap.size]? = some (.cells (lockA f e u c true g (.slice Av l.length cv)) 25 (0, 0)) := put7 BL6.out
  have o7 := set7 HO6.out (show w.heap.size < w.heap.size + 2 by omega) (.int .u32 f) (.int .u32 e) (.int .u32 u) (.int .u32 c) (.bool true) (.bool g) (.slice Av l.length cv)
  generalize hw7 : ((((((((w6.setCell ⟨w.heap.size, 0, none⟩ (.int .u32 f)).setCell ⟨w.heap.size, 1, none⟩ (.int .u32 e)).setCell ⟨w.heap.size, 2, none⟩ (.int .u32 u)).setCell ⟨w.heap.size, 3, none⟩ (.int .u32 c)).setCell ⟨w.heap.size, 4, none⟩ (.bool true)).setCell ⟨w.heap.size, 5, none⟩ (.bool g)).setCell ⟨w.heap.size, 6, none⟩ (.slice Av l.length cv))) = w7 at h7 z7 b7 o7 ⊢
  have HB7 := Lib.hid h7
  have BZ7 := Lib.hid z7
  have HO7 := Lib.hid o7
  clear hw7 h7 o7 hx hz
  have hx := blk7 b7
  have hz := blk7 z7
  clear b7 z7
  go_wp2
  refine bodyPost_ret (results_list (rs := [.cell 6 25, .tmp 7]) rfl (by simp) (.cell (w.heap.size + 1) 25 (lockA f e u c true g (.slice Av l.length cv)) (0, 0) _ rfl (put7 BZ7.out) Try.underlying25 rfl (by kernel_rfl) (.tmp .nil))) rfl ?_
  exact ⟨_, rfl, Kd.R_lower (set7 HO7.out (by omega) _ _ _ _ _ _ _) (by omega), below7 HB7.out (by omega) _ _ _ _ _ _ _⟩

set_option maxHeartbeats 4000000 in
theorem shrink_no (f e u c : Int) (fc g : Bool) (A0 : Option Addr) (c0 : Nat) (l : List S40) (sz : Int) (w : World) (hr0 : Kd.C k40 w A0 l.length l) (hc0 : l.length ≤ c0) (hl : l.length ≤ 100) (hr : rightB u c fc g l = false) :
    Calls Try.prog 21 #[.agg (lockA f e u c fc g (.slice A0 l.length c0)), .int .u32 sz] w fun ex w' => ∃ v, ex = .returned (.tuple #[.agg (lockA 0 0 0 0 false false v), .int .i64 1]) ∧ Kd.R k40 40 w' w.heap.size (fun _ => True) v [] ∧ Below w.heap.size w w' := by
  obtain ⟨w2, hw2⟩ : ∃ w2, (w.alloc (.cells (lockA f e u c fc g (.slice A0 l.length c0)) 25)).alloc (.cells zlock 25) = w2 := ⟨_, rfl⟩
  have hs2 : w2.heap.size = w.heap.size + 2 := by rw [← hw2]; simp
  have HB2 := Lib.hid (show Below w.heap.size w w2 by rw [← hw2]; have h1 := boxed w (.cells (lockA f e u c fc g (.slice A0 l.length c0)) 25); exact h1.alloc h1.size _)
  have BL2 := Lib.hid (show w2.heap[w.heap.size]? = some (.cells (lockA f e u c fc g (.slice A0 l.length c0)) 25 (0, 0)) by rw [← hw2]; exact alloc_old (alloc_at w _) _)
  have BZ2 := Lib.hid (show w2.heap[w.heap.size + 1]? = some (.cells zlock 25 (0, 0)) by rw [← hw2]; have := alloc_at (w.alloc (.cells (lockA f e u c fc g (.slice A0 l.length c0)) 25)) (.cells zlock 25); simpa using this)
  have HRT := Lib.hid (fun W h => hold_Right.calls 4200 f e u c fc g A0 c0 l false W h hc0 (by rw [right_f f e u c fc g l (by omega) 4200 (by omega), hr]))
  have HR := Lib.hid hr0
  have HL := Lib.hid hl
  have hx := blk7 BL2.out
  have hz := blk7 BZ2.out
  have HS2 := Lib.hid (show w.heap.size + 2 ≤ w2.heap.size by omega)
  clear hs2
  clear hr0 hc0 hl hr
  go_enter Try.func21, Try.ntmps21
  go_wp2_with (first | (go_at_call 9; refine (HRT.out _ (Kd.C_below HR.out HB2.out)).mono ?_; rintro ex w3 ⟨rfl, hb⟩; clear hw2; have HB3 := Lib.hid (HB2.out.trans (hb.mono HB2.out.size)); have HS3 := Lib.hid (Nat.le_trans HS2.out hb.size); have BL3 := Lib.hid (below_old BL2.out hb); have BZ3 := Lib.hid (below_old BZ2.out hb); clear hx hz; have hx := blk7 BL3.out; have hz := blk7 BZ3.out; clear hb))
  refine bodyPost_ret (results_list (rs := [.cell 4 25, .tmp 5]) rfl (by simp) (.cell (w.heap.size + 1) 25 (zlock) (0, 0) _ rfl (put7 BZ3.out) Try.underlying25 rfl (by kernel_rfl) (.tmp .nil))) rfl ?_
  exact ⟨_, rfl, Kd.R_nil _ _ _ _ _, below7 HB3.out (by omega) _ _ _ _ _ _ _⟩

set_option maxHeartbeats 4000000 in
theorem shrink_ok (f e u c : Int) (fc g : Bool) (A0 : Option Addr) (c0 : Nat) (l : List S40) (sz : Int) (w : World) (hr0 : Kd.C k40 w A0 l.length l) (hc0 : l.length ≤ c0) (hl : l.length ≤ 100) (hr : rightB u c fc g l = true) :
    Calls Try.prog 21 #[.agg (lockA f e u c fc g (.slice A0 l.length c0)), .int .u32 sz] w fun ex w' => ∃ v, ex = .returned (.tuple #[.agg (lockA f e u (if sz < c then sz else c) fc g v), .int .i64 0]) ∧ Kd.R k40 40 w' w.heap.size (fun _ => True) v l ∧ Below w.heap.size w w' := by
  obtain ⟨w2, hw2⟩ : ∃ w2, (w.alloc (.cells (lockA f e u c fc g (.slice A0 l.length c0)) 25)).alloc (.cells zlock 25) = w2 := ⟨_, rfl⟩
  have hs2 : w2.heap.size = w.heap.size + 2 := by rw [← hw2]; simp
  have HB2 := Lib.hid (show Below w.heap.size w w2 by rw [← hw2]; have h1 := boxed w (.cells (lockA f e u c fc g (.slice A0 l.length c0)) 25); exact h1.alloc h1.size _)
  have BL2 := Lib.hid (show w2.heap[w.heap.size]? = some (.cells (lockA f e u c fc g (.slice A0 l.length c0)) 25 (0, 0)) by rw [← hw2]; exact alloc_old (alloc_at w _) _)
  have BZ2 := Lib.hid (show w2.heap[w.heap.size + 1]? = some (.cells zlock 25 (0, 0)) by rw [← hw2]; have := alloc_at (w.alloc (.cells (lockA f e u c fc g (.slice A0 l.length c0)) 25)) (.cells zlock 25); simpa using this)
  have HRT := Lib.hid (fun W h => hold_Right.calls 4200 f e u c fc g A0 c0 l true W h hc0 (by rw [right_f f e u c fc g l (by omega) 4200 (by omega), hr]))
  have HFR := Lib.hid (fun W h => hold_fresh.calls f e u c fc g A0 c0 l f e u c fc g l W h hc0 (by unfold hold_fresh.f api_Holder.f; rw [if_pos hl]; rfl))
  have HR := Lib.hid hr0
  have HL := Lib.hid hl
  have hx := blk7 BL2.out
  have hz := blk7 BZ2.out
  have HS2 := Lib.hid (show w.heap.size + 2 ≤ w2.heap.size by omega)
  clear hs2
  obtain ⟨mn, hmn⟩ : ∃ mn, (if sz < c then sz else c) = mn := ⟨_, rfl⟩
  rw [hmn]
  clear hr0 hc0 hl hr
  go_enter Try.func21, Try.ntmps21
  go_wp2_with (first | (go_at_call 9; refine (HRT.out _ (Kd.C_below HR.out HB2.out)).mono ?_; rintro ex w3 ⟨rfl, hb⟩; clear hw2; have HB3 := Lib.hid (HB2.out.trans (hb.mono HB2.out.size)); have HS3 := Lib.hid (Nat.le_trans HS2.out hb.size); have BL3 := Lib.hid (below_old BL2.out hb); have BZ3 := Lib.hid (below_old BZ2.out hb); clear hx hz; have hx := blk7 BL3.out; have hz := blk7 BZ3.out; clear hb) | (go_at_call 23; refine (HFR.out _ (Kd.C_below HR.out HB3.out)).mono ?_; rintro ex w6 ⟨v, rfl, ho, hb⟩; have HO6 := Lib.hid (Kd.R_lower ho HS3.out); obtain ⟨Av, cv, rfl⟩ := Kd.R_slice HO6.out; clear ho; have HB6 := Lib.hid (HB3.out.trans (hb.mono HB3.out.size)); have HS6 := Lib.hid (Nat.le_trans HS3.out hb.size); have BL6 := Lib.hid (below_old BL3.out hb); have BZ6 := Lib.hid (below_old BZ3.out hb); clear hx hz; have hx := blk7 BL6.out; have hz := blk7 BZ6.out; clear hb; have hne1 : ¬ w.heap.size + 1 = w.heap.size := (by omega); have hne2 : ¬ w.heap.size = w.heap.size + 1 := (by omega)) | ((with_reducible refine gate_dst (N := 12) rfl ?_); refine stop_here ?_))
  refine Lib.hid ?_
  have h7 := below7 HB6.out (Nat.le_refl w.heap.size) (.int .u32 f) (.int .u32 e) (.int .u32 u) (.int .u32 c) (.bool fc) (.bool g) (.slice Av l.length cv)
  have z7 := far7 BZ6.out hne1 (.int .u32 f) (.int .u32 e) (.int .u32 u) (.int .u32 c) (.bool fc) (.bool g) (.slice Av l.length cv)
  have b7 : ((((((((w6.setCell ⟨w.heap.size, 0, none⟩ (.int .u32 f)).setCell ⟨w.heap.size, 1, none⟩ (.int .u32 e)).setCell ⟨w.heap.size, 2, none⟩ (.int .u32 u)).setCell ⟨w.heap.size, 3, none⟩ (.int .u32 c)).setCell ⟨w.heap.size, 4, none⟩ (.bool fc)).setCell ⟨w.heap.size, 5, none⟩ (.bool g)).setCell ⟨w.heap.size, 6, none⟩ (.slice Av l.length cv))).heap[w.heap.size]? = some (.cells (lockA f e u c fc g (.slice Av l.length cv)) 25 (0, 0)) := put7 BL6.out
  have o7 := set7 HO6.out (show w.heap.size < w.heap.size + 2 by omega) (.int .u32 f) (.int .u32 e) (.int .u32 u) (.int .u32 c) (.bool fc) (.bool g) (.slice Av l.length cv)
  generalize hw7 : ((((((((w6.setCell ⟨w.heap.size, 0, none⟩ (.int .u32 f)).setCell ⟨w.heap.size, 1, none⟩ (.int .u32 e)).setCell ⟨w.heap.size, 2, none⟩ (.int .u32 u)).setCell ⟨w.heap.size, 3, none⟩ (.int .u32 c)).setCell ⟨w.heap.size, 4, none⟩ (.bool fc)).setCell ⟨w.heap.size, 5, none⟩ (.bool g)).setCell ⟨w.heap.size, 6, none⟩ (.slice Av l.length cv))) = w7 at h7 z7 b7 o7 ⊢
  have HB7 := Lib.hid h7
  have BZ7 := Lib.hid z7
  have HO7 := Lib.hid o7
  clear hw7 h7 o7 hx hz
  have hx := blk7 b7
  have hz := blk7 z7
  clear b7 z7
  go_wp2
  refine bodyPost_ret (results_list (rs := [.cell 4 25, .tmp 5]) rfl (by simp) (.cell (w.heap.size + 1) 25 (lockA f e u mn fc g (.slice Av l.length cv)) (0, 0) _ rfl (put7 (set_far BZ7.out hne1 _)) Try.underlying25 rfl (by kernel_rfl) (.tmp .nil))) rfl ?_
  exact ⟨_, rfl, Kd.R_lower (set7 (R_low HO7.out (by omega) _) (by omega) _ _ _ _ _ _ _) (by omega), below7 (HB7.out.setCell (Nat.le_refl w.heap.size) _) (by omega) _ _ _ _ _ _ _⟩
end Go.Proofs.Ytkcacfnefhakbaa.HoldL
