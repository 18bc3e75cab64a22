/- What every ask for a hold makes of every lock, and what is told, are the document's: the call returns true whatever the input. No condition. -/
import Derived.Test.YtkcacfnefhakbaaHoldOpen
import Derived.Test.YtkcacfnefhakbaaHoldRef
import Derived.Test.YtkcacfnefhakbaaHoldAlive
import Derived.Test.YtkcacfnefhakbaaP12x6
namespace Go.Proofs.Ytkcacfnefhakbaa.holdAsks
open Go.RowKit Go.Shelf Go.Blk Go.Sees Go.Proofs.Ytkcacfnefhakbaa.HoldL Go.Proofs.Ytkcacfnefhakbaa.P12 Go.Proofs.Ytkcacfnefhakbaa.Opens Go.Proofs.YtkcacfnefhakbaaW.PrintWords Go.Proofs.YtkcacfnefhakbaaW.PrintLast Go.Proofs.YtkcacfnefhakbaaW.PrintMore
set_option linter.unusedVariables false
set_option linter.unusedSimpArgs false

theorem same_loop (f e u c : Int) (fc g : Bool) (l : List S40) (hl : l.length ≤ 4096) : ∀ (d k i : Nat), l.length - i ≤ d → d < k → lamellaref12_Same.l0 k i f e u c fc g l f e u c fc g l = some true := by
  intro d
  induction d with
  | zero =>
    intro k i hd hk
    obtain ⟨k, rfl⟩ : ∃ m, k = m + 1 := ⟨k - 1, by omega⟩
    simp only [lamellaref12_Same.l0]
    rw [if_neg (by omega)]
  | succ d ih =>
    intro k i hd hk
    obtain ⟨k, rfl⟩ : ∃ m, k = m + 1 := ⟨k - 1, by omega⟩
    simp only [lamellaref12_Same.l0]
    by_cases hlt : i < l.length
    · rw [if_pos (by omega), if_pos (by omega), if_pos (by omega), if_neg (by simp), show wrap64 ((i : Int) + 1) = ((i + 1 : Nat) : Int) by rw [w64 _ (by omega)]; omega]
      exact ih k (i + 1) (by omega) (by omega)
    · rw [if_neg (by omega)]
theorem same_f (f e u c : Int) (fc g : Bool) (l : List S40) (hl : l.length ≤ 4096) (k : Nat) (hk : 4200 ≤ k) : lamellaref12_Same.f k f e u c fc g l f e u c fc g l = some true := by
  obtain ⟨k, rfl⟩ : ∃ m, k = m + 1 := ⟨k - 1, by omega⟩
  unfold lamellaref12_Same.f
  simp only [if_true, bne_self_eq_false, Bool.false_eq_true, if_false]
  simp only [lamellaref12_Same.j0, Bool.false_eq_true, if_false]
  exact same_loop f e u c fc g l hl 4096 k 0 (by omega) (by omega)
theorem ask_len (f e u c : Int) (fc g : Bool) (l : List S40) (cl m : Int) (hl : l.length ≤ 100) : (askF f e u c fc g l cl m).2.2.2.2.2.2.1.length ≤ 101 := by
  have hw : (withoutF l cl).length ≤ l.length := List.length_filter_le _ _
  unfold askF turnT
  repeat' split
  all_goals first | (simp only [len_ins]; omega) | (simp only; omega) | simp

set_option maxHeartbeats 8000000 in
theorem asks_calls (f e u c : Int) (fc g : Bool) (A0 : Option Addr) (c0 : Nat) (l : List S40) (cl m : Int) (w : World) (hr0 : Kd.C k40 w A0 l.length l) (hc0 : l.length ≤ c0) (hl : l.length ≤ 100) (hN : ∀ x ∈ l, Nn x) (hcl : 0 ≤ cl ∧ cl ≤ 4294967295) :
    Calls Try.prog 4 #[.agg (lockA f e u c fc g (.slice A0 l.length c0)), .int .u32 cl, .int .u32 m] w fun ex w' => ex = .returned (.bool true) ∧ Below w.heap.size w w' := by
  obtain ⟨r1, r2, r3, r4, r5, r6, r7, r8, r9, hA⟩ : ∃ r1 r2 r3 r4 r5 r6 r7 r8 r9, askF f e u c fc g l cl m = (r1, r2, r3, r4, r5, r6, r7, r8, r9) := ⟨_, _, _, _, _, _, _, _, _, rfl⟩
  have h7 : r7.length ≤ 101 := by have := ask_len f e u c fc g l cl m hl; rw [hA] at this; exact this
  have hok : okH l cl = true := (okH_iff l cl).2 ⟨hl, hN, hcl.1, hcl.2⟩
  have HASK := Lib.hid (fun W h => hold_Ask.calls f e u c fc g A0 c0 l cl m r1 r2 r3 r4 r5 r6 r7 r8 r9 W h hc0 (by unfold hold_Ask.f; rw [if_pos hok, hA]))
  have HREF := Lib.hid (fun W h => refAsk_calls f e u c fc g A0 c0 l cl m W h hc0 hl r1 r2 r3 r4 r5 r6 r7 r8 r9 hA)
  have HSAME := Lib.hid (fun (A B : Option Addr) (ca cb : Nat) (W : World) (h1 : Kd.C k40 W A r7.length r7) (h2 : r7.length ≤ ca) (h3 : Kd.C k40 W B r7.length r7) (h4 : r7.length ≤ cb) => lamellaref12_Same.calls 4200 r1 r2 r3 r4 r5 r6 A ca r7 r1 r2 r3 r4 r5 r6 B cb r7 true W h1 h2 h3 h4 (same_f r1 r2 r3 r4 r5 r6 r7 (by omega) 4200 (by omega)))
  have HR := Lib.hid hr0
  have BX := Lib.hid (alloc_at w (.cells (lockA f e u c fc g (.slice A0 l.length c0)) 25))
  have hgt : decide ((l.length : Int) > 100) = false := decide_eq_false (by omega)
  have hgt' : decide ((100 : Int) < (l.length : Int)) = false := decide_eq_false (by omega)
  have hgt2 : decide (100 < l.length) = false := decide_eq_false (by omega)
  clear hr0 hl hN hcl hA h7 hok
  go_enter Try.func4, Try.ntmps4
  go_wp2_with fail
  go_at_call 8
  refine (alive_calls _).mono ?_
  rintro ex w1 ⟨rfl, hb⟩
  have HB1 := Lib.hid ((boxed w (.cells (lockA f e u c fc g (.slice A0 l.length c0)) 25)).trans (hb.mono (by simp)))
  have BX1 := Lib.hid (below_old BX.out hb)
  have hx := blk7 BX1.out
  clear hb
  go_wp2_with fail
  go_at_call 17
  refine (HASK.out _ (Kd.C_below HR.out HB1.out)).mono ?_
  rintro ex w2 ⟨va, rfl, ho, hb⟩
  obtain ⟨Aa, ca, rfl⟩ := Kd.R_slice ho
  have HA2 := Lib.hid (R_both ho)
  have HB2 := Lib.hid (HB1.out.trans (hb.mono HB1.out.size))
  have BX2 := Lib.hid (below_old BX1.out hb)
  have BA2 := Lib.hid (alloc_at w2 (.cells (lockA r1 r2 r3 r4 r5 r6 (.slice Aa r7.length ca)) 25))
  have HB2' := Lib.hid (HB2.out.alloc HB2.out.size (.cells (lockA r1 r2 r3 r4 r5 r6 (.slice Aa r7.length ca)) 25))
  have HA2' := Lib.hid (Kd.C_below HA2.out.1 (boxed w2 (.cells (lockA r1 r2 r3 r4 r5 r6 (.slice Aa r7.length ca)) 25)))
  clear ho hb hx
  have hx := fun o => blk7 (alloc_old BX2.out o)
  go_wp2_with fail
  go_at_call 18
  refine (HREF.out _ (Kd.C_below HR.out HB2'.out)).mono ?_
  rintro ex w3 ⟨Ab, cb, rfl, hCb, hcb, hb⟩
  have HB3 := Lib.hid (HB2'.out.trans (hb.mono HB2'.out.size))
  have BA3 := Lib.hid (alloc_old (below_old BA2.out hb) (.cells (lockA r1 r2 r3 r4 r5 r6 (.slice Ab r7.length cb)) 25))
  have BB3 := Lib.hid (alloc_at w3 (.cells (lockA r1 r2 r3 r4 r5 r6 (.slice Ab r7.length cb)) 25))
  have HA3 := Lib.hid (Kd.C_below (Kd.C_below HA2'.out hb) (boxed w3 (.cells (lockA r1 r2 r3 r4 r5 r6 (.slice Ab r7.length cb)) 25)))
  have HC3 := Lib.hid (Kd.C_below hCb (boxed w3 (.cells (lockA r1 r2 r3 r4 r5 r6 (.slice Ab r7.length cb)) 25)))
  have HB3' := Lib.hid (HB3.out.alloc HB3.out.size (.cells (lockA r1 r2 r3 r4 r5 r6 (.slice Ab r7.length cb)) 25))
  have HCB := Lib.hid hcb
  clear hCb hcb hb hx
  go_wp2_with fail
  go_at_call 8
  refine (alive_calls _).mono ?_
  rintro ex w4 ⟨rfl, hb⟩
  have HB4 := Lib.hid (HB3'.out.trans (hb.mono HB3'.out.size))
  have HA4 := Lib.hid (Kd.C_below HA3.out hb)
  have HC4 := Lib.hid (Kd.C_below HC3.out hb)
  have hx := blk7 (below_old BA3.out hb)
  have hz := blk7 (below_old BB3.out hb)
  clear hb
  go_wp2_with fail
  go_at_call 11
  refine (HSAME.out Aa Ab ca cb _ HA4.out HA2.out.2 HC4.out HCB.out).mono ?_
  rintro ex w5 ⟨rfl, hb⟩
  have HB5 := Lib.hid (HB4.out.trans (hb.mono HB4.out.size))
  clear hb
  go_wp2
  go_ret
  exact ⟨by simp, HB5.out⟩

set_option maxHeartbeats 1000000 in
theorem long_calls (f e u c : Int) (fc g : Bool) (A0 : Option Addr) (n c0 : Nat) (cl m : Int) (w : World) (hn : 100 < n) :
    Calls Try.prog 4 #[.agg (lockA f e u c fc g (.slice A0 n c0)), .int .u32 cl, .int .u32 m] w fun ex w' => ex = .returned (.bool true) ∧ Below w.heap.size w w' := by
  have BX := Lib.hid (alloc_at w (.cells (lockA f e u c fc g (.slice A0 n c0)) 25))
  have hgt : decide ((n : Int) > 100) = true := decide_eq_true (by omega)
  have hgt' : decide ((100 : Int) < (n : Int)) = true := decide_eq_true (by omega)
  have hgt2 : decide (100 < n) = true := decide_eq_true hn
  clear hn
  go_enter Try.func4, Try.ntmps4
  go_wp2_with fail
  go_at_call 8
  refine (alive_calls _).mono ?_
  rintro ex w1 ⟨rfl, hb⟩
  have HB1 := Lib.hid ((boxed w (.cells (lockA f e u c fc g (.slice A0 n c0)) 25)).trans (hb.mono (by simp)))
  have hx := blk7 (below_old BX.out hb)
  clear hb
  go_wp2_with fail
  go_at_call 8
  refine (alive_calls _).mono ?_
  rintro ex w2 ⟨rfl, hb⟩
  have HB2 := Lib.hid (HB1.out.trans (hb.mono HB1.out.size))
  clear hb
  go_wp2
  go_ret
  exact ⟨rfl, HB2.out⟩

theorem holdAsks_walk (a0 : Array Value) (a1 : Int) (a2 : Int) (w : World) (w0 : Sees Try.prog w 140737488351232 5 25 a0.toList) (w1 : (Lit.int .u32 a1).wf = true) (w2 : (Lit.int .u32 a2).wf = true) :
    Calls Try.prog 4 #[.agg a0, .int .u32 a1, .int .u32 a2] w fun e w' => e = .returned (.bool true) ∧ Below w.heap.size w w' := by
  obtain ⟨f, e, u, c, fc, g, A, cp, l, rfl, hc, hC, hn, -, -⟩ := sees_lock w0
  by_cases hl : l.length ≤ 100
  · exact asks_calls f e u c fc g A cp l a1 a2 w hC hc hl hn ⟨(bounds_u32 w1).1, by have := (bounds_u32 w1).2; omega⟩
  · exact long_calls f e u c fc g A l.length cp a1 a2 w (by omega)
end Go.Proofs.Ytkcacfnefhakbaa.holdAsks
