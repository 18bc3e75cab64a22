/- Layer hold: what every right program answers: the walk over the contracts. -/
import Derived.Test.YtkcacfnefhakbaaHoldSettle
namespace Go.Proofs.Ytkcacfnefhakbaa.HoldL
open Go.RowKit Go.Shelf Go.Blk Go.Proofs.Ytkcacfnefhakbaa.P12 Go.Proofs.YtkcacfnefhakbaaW.PrintWords Go.Proofs.YtkcacfnefhakbaaW.PrintLast Go.Proofs.YtkcacfnefhakbaaW.PrintMore
set_option linter.unusedVariables false
set_option linter.unusedSimpArgs false

theorem ask_at (f e u c : Int) (fc g : Bool) (l : List S40) (a m : Int) (A : Option Addr) (n cp : Nat) (w : World) (hn : n = l.length) (hC : Kd.C k40 w A l.length l) (hc : l.length ≤ cp) (r1 r2 r3 r4 : Int) (r5 r6 : Bool) (r7 : List S40) (r8 r9 : Int) (n7 : Nat) (h7 : n7 = r7.length) (h : hold_Ask.f f e u c fc g l a m = some (r1, r2, r3, r4, r5, r6, r7, r8, r9)) :
    Calls Try.prog 17 #[.agg #[.int .u32 f, .int .u32 e, .int .u32 u, .int .u32 c, .bool fc, .bool g, .slice A n cp], .int .u32 a, .int .u32 m] w fun ex w' => ∃ A' c', ex = .returned (.tuple #[.agg #[.int .u32 r1, .int .u32 r2, .int .u32 r3, .int .u32 r4, .bool r5, .bool r6, .slice A' n7 c'], .int .i64 r8, .int .i64 r9]) ∧ Kd.C k40 w' A' r7.length r7 ∧ r7.length ≤ c' ∧ Below w.heap.size w w' := by
  subst hn h7
  refine (hold_Ask.calls f e u c fc g A cp l a m r1 r2 r3 r4 r5 r6 r7 r8 r9 w hC hc h).mono ?_
  rintro ex w' ⟨v, he, hR, hb⟩
  obtain ⟨A', c', rfl⟩ := Kd.R_slice hR
  exact ⟨A', c', he, (Kd.R_reads' hR).2.2, (Kd.R_reads' hR).2.1, hb⟩
theorem settle_at (f e u c : Int) (g : Bool) (l : List S40) (sz : Int) (A : Option Addr) (n cp : Nat) (w : World) (hn : n = l.length) (hC : Kd.C k40 w A l.length l) (hc : l.length ≤ cp) (hl : l.length ≤ 100) (hr : rightB u c false g l = true) (hsz : sz ≤ 1024) :
    Calls Try.prog 20 #[.agg #[.int .u32 f, .int .u32 e, .int .u32 u, .int .u32 c, .bool false, .bool g, .slice A n cp], .int .u32 e, .int .u32 sz] w fun ex w' => ∃ A' c', ex = .returned (.tuple #[.agg #[.int .u32 f, .int .u32 e, .int .u32 u, .int .u32 sz, .bool true, .bool g, .slice A' n c'], .int .i64 0]) ∧ Kd.C k40 w' A' l.length l ∧ l.length ≤ c' ∧ Below w.heap.size w w' := by
  subst hn
  refine (settle_calls f e u c g A cp l sz w hC hc hl hr hsz).mono ?_
  rintro ex w' ⟨v, he, hR, hb⟩
  obtain ⟨A', c', rfl⟩ := Kd.R_slice hR
  exact ⟨A', c', he, (Kd.R_reads' hR).2.2, (Kd.R_reads' hR).2.1, hb⟩
theorem return_at (f e u c : Int) (fc g : Bool) (l : List S40) (a m : Int) (A : Option Addr) (n cp : Nat) (w : World) (hn : n = l.length) (hC : Kd.C k40 w A l.length l) (hc : l.length ≤ cp) (r1 r2 r3 r4 : Int) (r5 r6 : Bool) (r7 : List S40) (r8 : Int) (n7 : Nat) (h7 : n7 = r7.length) (h : hold_Return.f 20 f e u c fc g l a m = some (r1, r2, r3, r4, r5, r6, r7, r8)) :
    Calls Try.prog 19 #[.agg #[.int .u32 f, .int .u32 e, .int .u32 u, .int .u32 c, .bool fc, .bool g, .slice A n cp], .int .u32 a, .int .u32 m] w fun ex w' => ∃ A' c', ex = .returned (.tuple #[.agg #[.int .u32 r1, .int .u32 r2, .int .u32 r3, .int .u32 r4, .bool r5, .bool r6, .slice A' n7 c'], .int .i64 r8]) ∧ Kd.C k40 w' A' r7.length r7 ∧ r7.length ≤ c' ∧ Below w.heap.size w w' := by
  subst hn h7
  refine (hold_Return.calls 20 f e u c fc g A cp l a m r1 r2 r3 r4 r5 r6 r7 r8 w hC hc h).mono ?_
  rintro ex w' ⟨v, he, hR, hb⟩
  obtain ⟨A', c', rfl⟩ := Kd.R_slice hR
  exact ⟨A', c', he, (Kd.R_reads' hR).2.2, (Kd.R_reads' hR).2.1, hb⟩
theorem right_at (f e u c : Int) (fc g : Bool) (l : List S40) (A : Option Addr) (n cp : Nat) (w : World) (hn : n = l.length) (hC : Kd.C k40 w A l.length l) (hc : l.length ≤ cp) (r : Bool) (h : hold_Right.f 20 f e u c fc g l = some r) :
    Calls Try.prog 9 #[.agg #[.int .u32 f, .int .u32 e, .int .u32 u, .int .u32 c, .bool fc, .bool g, .slice A n cp]] w fun ex w' => ex = .returned (.bool r) ∧ Below w.heap.size w w' := by
  subst hn
  exact hold_Right.calls 20 f e u c fc g A cp l r w hC hc h
theorem fresh_at (f : Int) (w : World) : Calls Try.prog 12 #[.int .u32 f] w fun ex w' => ∃ A' c', ex = .returned (.agg #[.int .u32 f, .int .u32 1, .int .u32 0, .int .u32 0, .bool false, .bool false, .slice A' 0 c']) ∧ Kd.C k40 w' A' 0 [] ∧ Below w.heap.size w w' := by
  refine (hold_Fresh.calls f f 1 0 0 false false [] w rfl).mono ?_
  rintro ex w' ⟨v, he, hR, hb⟩
  obtain ⟨A', c', rfl⟩ := Kd.R_slice hR
  exact ⟨A', c', he, (Kd.R_reads' hR).2.2, hb⟩

set_option maxHeartbeats 8000000 in
theorem alive_calls (w : World) : Calls Try.prog 8 #[] w fun e w' => e = .returned (.bool true) ∧ Below w.heap.size w w' := by
  have F1 : hold_Ask.f 7 1 0 0 false false [] 1 1 = some (7, 1, 0, 0, false, false, [], 3, 0) := by kernel_rfl
  have F2 : hold_Ask.f 7 1 0 9 true false [] 1 1 = some (7, 1, 1, 9, true, false, [⟨1, 1⟩], 1, 0) := by kernel_rfl
  have F3 : hold_Ask.f 7 1 1 9 true false [⟨1, 1⟩] 2 2 = some (7, 1, 1, 9, true, false, [⟨1, 1⟩], 2, 0) := by kernel_rfl
  have F4 : hold_Return.f 20 7 1 1 9 true false [⟨1, 1⟩] 1 1 = some (7, 1, 1, 9, true, false, [], 0) := by kernel_rfl
  have F5 : hold_Ask.f 7 1 1 9 true false [] 2 2 = some (7, 2, 0, 9, false, false, [], 3, 0) := by kernel_rfl
  have F6 : hold_Right.f 20 7 2 0 9 false false [] = some true := by kernel_rfl
  have F7 : rightB 0 0 false false [] = true := by kernel_rfl
  go_enter Try.func8, Try.ntmps8
  go_wp2_with fail
  go_at_call 12
  refine (fresh_at 7 _).mono ?_
  rintro ex w1 ⟨A1, c1, rfl, hC1, hb⟩
  have HB1 := Lib.hid hb
  have L1 := Lib.hid (alloc_at w1 (.cells (lockA 7 1 0 0 false false (.slice A1 0 c1)) 25))
  have C1 := Lib.hid (Kd.C_below hC1 (boxed w1 (.cells (lockA 7 1 0 0 false false (.slice A1 0 c1)) 25)))
  clear hb hC1
  go_wp2_with fail
  go_at_call 17
  refine (ask_at 7 1 0 0 false false [] 1 1 A1 0 c1 _ rfl C1.out (Nat.zero_le _) 7 1 0 0 false false [] 3 0 0 rfl F1).mono ?_
  rintro ex w2 ⟨A2, c2, rfl, -, -, hb⟩
  have HB2 := Lib.hid ((HB1.out.alloc HB1.out.size (.cells (lockA 7 1 0 0 false false (.slice A1 0 c1)) 25)).trans (hb.mono (by have := HB1.out.size; simp; omega)))
  have L1b := Lib.hid (below_old L1.out hb)
  have C1b := Lib.hid (Kd.C_below (Kd.C_below C1.out hb) (boxed w2 (.cells (lockA 7 1 0 0 false false (.slice A2 0 c2)) 25)))
  have hx := fun o => blk7 (alloc_old L1b.out o)
  clear hb
  go_wp2_with fail
  go_at_call 20
  refine (settle_at 7 1 0 0 false [] 9 A1 0 c1 _ rfl C1b.out (Nat.zero_le _) (by decide) F7 (by decide)).mono ?_
  rintro ex w3 ⟨A3, c3, rfl, hC, -, hb⟩
  have HB3 := Lib.hid ((HB2.out.alloc HB2.out.size (.cells (lockA 7 1 0 0 false false (.slice A2 0 c2)) 25)).trans (hb.mono (by have := HB2.out.size; simp; omega)))
  have C3 := Lib.hid (Kd.C_below hC (boxed w3 (.cells (lockA 7 1 0 9 true false (.slice A3 0 c3)) 25)))
  clear hb hx hC
  go_wp2_with fail
  go_at_call 17
  refine (ask_at 7 1 0 9 true false [] 1 1 A3 0 c3 _ rfl C3.out (Nat.zero_le _) 7 1 1 9 true false [⟨1, 1⟩] 1 0 1 rfl F2).mono ?_
  rintro ex w4 ⟨A4, c4, rfl, hC, hc, hb⟩
  have HB4 := Lib.hid ((HB3.out.alloc HB3.out.size (.cells (lockA 7 1 0 9 true false (.slice A3 0 c3)) 25)).trans (hb.mono (by have := HB3.out.size; simp; omega)))
  have C4 := Lib.hid (Kd.C_below hC (boxed w4 (.cells (lockA 7 1 1 9 true false (.slice A4 1 c4)) 25)))
  have L4 := Lib.hid (alloc_at w4 (.cells (lockA 7 1 1 9 true false (.slice A4 1 c4)) 25))
  have HC4 := Lib.hid hc
  clear hb hC hc
  go_wp2_with fail
  go_at_call 17
  refine (ask_at 7 1 1 9 true false [⟨1, 1⟩] 2 2 A4 1 c4 _ rfl C4.out HC4.out 7 1 1 9 true false [⟨1, 1⟩] 2 0 1 rfl F3).mono ?_
  rintro ex w5 ⟨A5, c5, rfl, -, -, hb⟩
  have HB5 := Lib.hid ((HB4.out.alloc HB4.out.size (.cells (lockA 7 1 1 9 true false (.slice A4 1 c4)) 25)).trans (hb.mono (by have := HB4.out.size; simp; omega)))
  have L4b := Lib.hid (below_old L4.out hb)
  have C4b := Lib.hid (Kd.C_below (Kd.C_below C4.out hb) (boxed w5 (.cells (lockA 7 1 1 9 true false (.slice A5 1 c5)) 25)))
  have hx := fun o => blk7 (alloc_old L4b.out o)
  clear hb
  go_wp2_with fail
  go_at_call 19
  refine (return_at 7 1 1 9 true false [⟨1, 1⟩] 1 1 A4 1 c4 _ rfl C4b.out HC4.out 7 1 1 9 true false [] 0 0 rfl F4).mono ?_
  rintro ex w6 ⟨A6, c6, rfl, hC, -, hb⟩
  have HB6 := Lib.hid ((HB5.out.alloc HB5.out.size (.cells (lockA 7 1 1 9 true false (.slice A5 1 c5)) 25)).trans (hb.mono (by have := HB5.out.size; simp; omega)))
  have C6 := Lib.hid (Kd.C_below hC (boxed w6 (.cells (lockA 7 1 1 9 true false (.slice A6 0 c6)) 25)))
  clear hb hx hC
  go_wp2_with fail
  go_at_call 17
  refine (ask_at 7 1 1 9 true false [] 2 2 A6 0 c6 _ rfl C6.out (Nat.zero_le _) 7 2 0 9 false false [] 3 0 0 rfl F5).mono ?_
  rintro ex w7 ⟨A7, c7, rfl, hC, -, hb⟩
  have HB7 := Lib.hid ((HB6.out.alloc HB6.out.size (.cells (lockA 7 1 1 9 true false (.slice A6 0 c6)) 25)).trans (hb.mono (by have := HB6.out.size; simp; omega)))
  have C7 := Lib.hid (Kd.C_below hC (boxed w7 (.cells (lockA 7 2 0 9 false false (.slice A7 0 c7)) 25)))
  clear hb hC
  go_wp2_with fail
  go_at_call 9
  refine (right_at 7 2 0 9 false false [] A7 0 c7 _ rfl C7.out (Nat.zero_le _) true F6).mono ?_
  rintro ex w8 ⟨rfl, hb⟩
  have HB8 := Lib.hid ((HB7.out.alloc HB7.out.size (.cells (lockA 7 2 0 9 false false (.slice A7 0 c7)) 25)).trans (hb.mono (by have := HB7.out.size; simp; omega)))
  clear hb
  go_wp2
  go_ret
  exact ⟨rfl, HB8.out⟩
end Go.Proofs.Ytkcacfnefhakbaa.HoldL

namespace Go.Proofs.Ytkcacfnefhakbaa.P12
open Go.RowKit Go.Proofs.Ytkcacfnefhakbaa.HoldL
def lamellalaw12_alive.f : Option Bool := some true
theorem lamellalaw12_alive.calls (r : Bool) (w : World) (h : lamellalaw12_alive.f = some r) : Calls Try.prog 8 #[] w fun e w' => e = .returned (.bool r) ∧ Below w.heap.size w w' := by
  obtain rfl := Option.some.inj h
  exact alive_calls w
end Go.Proofs.Ytkcacfnefhakbaa.P12
