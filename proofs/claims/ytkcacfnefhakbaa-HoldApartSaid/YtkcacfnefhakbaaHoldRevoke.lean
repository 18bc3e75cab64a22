/- Layer hold: what takes all holds away. -/
import Derived.Test.YtkcacfnefhakbaaHoldMore
import Derived.Test.YtkcacfnefhakbaaHoldApart
namespace Go.Proofs.Ytkcacfnefhakbaa.HoldL
open Go.RowKit Go.Shelf Go.Blk Go.Proofs.Ytkcacfnefhakbaa.P12 Go.Proofs.YtkcacfnefhakbaaW.PrintWords Go.Proofs.YtkcacfnefhakbaaW.PrintLast Go.Proofs.YtkcacfnefhakbaaW.PrintMore
set_option linter.unusedVariables false
set_option linter.unusedSimpArgs false

set_option maxHeartbeats 4000000 in
theorem revoke_ok (f e u c : Int) (fc g : Bool) (A0 : Option Addr) (c0 : Nat) (l : List S40)  (w : World) (hr0 : Kd.C k40 w A0 l.length l) (hc0 : l.length ≤ c0) (hl : l.length ≤ 100) (hr : rightB u c fc g l = true) (r1 r2 r3 r4 : Int) (r5 r6 : Bool) (r7 : List S40) (ht : turnT f e u c fc g l = (r1, r2, r3, r4, r5, r6, r7)) :
    Calls Try.prog 22 #[.agg (lockA f e u c fc g (.slice A0 l.length c0))] w fun ex w' => ∃ v, ex = .returned (.tuple #[.agg (lockA r1 r2 r3 r4 r5 r6 v), .int .i64 0]) ∧ Kd.R k40 40 w' w.heap.size (fun _ => True) v r7 ∧ Below w.heap.size w w' := by
  obtain ⟨w2, hw2⟩ : ∃ w2, (w.alloc (.cells (lockA f e u c fc g (.slice A0 l.length c0)) 25)).alloc (.cells zlock 25) = w2 := ⟨_, rfl⟩
  have hs2 : w2.heap.size = w.heap.size + 2 := by rw [← hw2]; simp
  have HB2 := Lib.hid (show Below w.heap.size w w2 by rw [← hw2]; have h1 := boxed w (.cells (lockA f e u c fc g (.slice A0 l.length c0)) 25); exact h1.alloc h1.size _)
  have BL2 := Lib.hid (show w2.heap[w.heap.size]? = some (.cells (lockA f e u c fc g (.slice A0 l.length c0)) 25 (0, 0)) by rw [← hw2]; exact alloc_old (alloc_at w _) _)
  have BZ2 := Lib.hid (show w2.heap[w.heap.size + 1]? = some (.cells zlock 25 (0, 0)) by rw [← hw2]; have := alloc_at (w.alloc (.cells (lockA f e u c fc g (.slice A0 l.length c0)) 25)) (.cells zlock 25); simpa using this)
  have HRT := Lib.hid (fun W h => hold_Right.calls 4200 f e u c fc g A0 c0 l true W h hc0 (by rw [right_f f e u c fc g l (by omega) 4200 (by omega), hr]))
  have HFR := Lib.hid (fun W h => hold_fresh.calls f e u c fc g A0 c0 l f e u c fc g l W h hc0 (by unfold hold_fresh.f api_Holder.f; rw [if_pos hl]; rfl))
  have HR := Lib.hid hr0
  have HL := Lib.hid hl
  have hx := blk7 BL2.out
  have hz := blk7 BZ2.out
  have HS2 := Lib.hid (show w.heap.size + 2 ≤ w2.heap.size by omega)
  clear hs2
  have HTU := Lib.hid (fun W h => hold_turn.calls f e u c fc g A0 c0 l r1 r2 r3 r4 r5 r6 r7 W h hc0 (by rw [turn_f f e u c fc g l hl, ht]))
  clear hr0 hc0 hl hr ht
  go_enter Try.func22, Try.ntmps22
  go_wp2_with (first | (go_at_call 9; refine (HRT.out _ (Kd.C_below HR.out HB2.out)).mono ?_; rintro ex w3 ⟨rfl, hb⟩; clear hw2; have HB3 := Lib.hid (HB2.out.trans (hb.mono HB2.out.size)); have HS3 := Lib.hid (Nat.le_trans HS2.out hb.size); have BL3 := Lib.hid (below_old BL2.out hb); have BZ3 := Lib.hid (below_old BZ2.out hb); clear hx hz; have hx := blk7 BL3.out; have hz := blk7 BZ3.out; clear hb) | (go_at_call 25; refine (HTU.out _ (Kd.C_below HR.out HB3.out)).mono ?_; rintro ex w6 ⟨v, rfl, ho, hb⟩; have HO6 := Lib.hid (Kd.R_lower ho HS3.out); obtain ⟨Av, cv, rfl⟩ := Kd.R_slice HO6.out; clear ho; have HB6 := Lib.hid (HB3.out.trans (hb.mono HB3.out.size)); have HS6 := Lib.hid (Nat.le_trans HS3.out hb.size); have BL6 := Lib.hid (below_old BL3.out hb); have BZ6 := Lib.hid (below_old BZ3.out hb); clear hx hz; have hx := blk7 BL6.out; have hz := blk7 BZ6.out; clear hb))
  refine bodyPost_ret (results_list (rs := [.cell 2 25, .tmp 3]) rfl (by simp) (.cell (w.heap.size + 1) 25 (lockA r1 r2 r3 r4 r5 r6 (.slice Av r7.length cv)) (0, 0) _ rfl (put7 BZ6.out) Try.underlying25 rfl (by kernel_rfl) (.tmp .nil))) rfl ?_
  exact ⟨_, rfl, Kd.R_lower (set7 HO6.out (by omega) _ _ _ _ _ _ _) (by omega), below7 HB6.out (by omega) _ _ _ _ _ _ _⟩
end Go.Proofs.Ytkcacfnefhakbaa.HoldL
