/- Whatever is asked and given back, no writer is beside another holder, epochs never fall, each lock is right: the call returns true whatever the input. No condition. -/
import Derived.Test.YtkcacfnefhakbaaHoldGrants
namespace Go.Proofs.Ytkcacfnefhakbaa.holdApart
open Go.RowKit Go.Shelf Go.Blk Go.Sees Go.Proofs.Ytkcacfnefhakbaa.HoldL Go.Proofs.Ytkcacfnefhakbaa.P12 Go.Proofs.YtkcacfnefhakbaaW.PrintWords Go.Proofs.YtkcacfnefhakbaaW.PrintLast Go.Proofs.YtkcacfnefhakbaaW.PrintMore
set_option linter.unusedVariables false
set_option linter.unusedSimpArgs false

def StepP (x : S25) (gs : Grants) (a : SAct) (told : Int) (x' : S25) : Prop := x.f1 ≤ x'.f1 ∧ (¬ a.f0.tmod 5 = 3 → x'.f3 ≤ x.f3) ∧ (told = 1 → Inv x' (gs ++ [(a.f1, 1 + a.f2 % 2, x'.f1)])) ∧ (¬ told = 1 → Inv x' gs)
theorem inv0 : Inv ⟨3, 1, 0, 0, false, false, []⟩ [] where
  right := by decide +kernel
  gone := rfl
  nn := fun y hy => by cases hy
  ep := by decide
  used := by decide
  old := fun k hk => by cases hk
  mode := fun k hk => by cases hk
  one := fun h => absurd h (by decide)
  apart := fun k hk => by cases hk

theorem settle_X (x : S25) (A6 : Option Addr) (c6 : Nat) (sz : Int) (W : World) (h : Kd.C k40 W A6 x.f6.length x.f6) (hc : x.f6.length ≤ c6) (hl : x.f6.length ≤ 100) (hr : rightB x.f2 x.f3 x.f4 x.f5 x.f6 = true) (hs : sz ≤ 1024) :
    Calls Try.prog 20 #[.agg (lockA x.f0 x.f1 x.f2 x.f3 x.f4 x.f5 (.slice A6 x.f6.length c6)), .int .u32 x.f1, .int .u32 sz] W fun ex w' => ∃ v, ex = .returned (.tuple #[.agg (lockX (setX x sz) v), .int .i64 0]) ∧ Kd.R k40 40 w' W.heap.size (fun _ => True) v (setX x sz).f6 ∧ Below W.heap.size W w' := by
  obtain ⟨f, e, u, c, fc, g, l⟩ := x
  cases fc with
  | false => exact settle_calls f e u c g A6 c6 l sz W h hc hl hr hs
  | true => exact settle_fenced f e u c g A6 c6 l e sz W h hc hl hr hs

theorem grown7 (W : World) (b : Nat) (a0 a1 a2 a3 a4 a5 a6 : Value) : W.grownBy (((((((W.setCell ⟨b, 0, none⟩ a0).setCell ⟨b, 1, none⟩ a1).setCell ⟨b, 2, none⟩ a2).setCell ⟨b, 3, none⟩ a3).setCell ⟨b, 4, none⟩ a4).setCell ⟨b, 5, none⟩ a5).setCell ⟨b, 6, none⟩ a6) (some b) where
  os := (below7 (Below.refl b W) (Nat.le_refl b) a0 a1 a2 a3 a4 a5 a6).os
  tape := (below7 (Below.refl b W) (Nat.le_refl b) a0 a1 a2 a3 a4 a5 a6).tape
  output := (below7 (Below.refl b W) (Nat.le_refl b) a0 a1 a2 a3 a4 a5 a6).output
  size := (below7 (Below.refl b W) (Nat.le_refl b) a0 a1 a2 a3 a4 a5 a6).size
  block := fun k hk hne => by
    have h : k ≠ b := fun e => hne (by rw [e])
    have hk' : W.heap[k]? = some W.heap[k] := Array.getElem?_eq_getElem hk
    rw [far7 hk' h, hk']
attribute [local go_sem high] max2_int
set_option maxRecDepth 100000 in
set_option maxHeartbeats 40000000 in
theorem apart_calls (A0 : Option Addr) (c0 : Nat) (acts : List SAct) (w : World) (hr0 : Kd.C kAct w A0 acts.length acts) (hc0 : acts.length ≤ c0) (hN : ∀ a ∈ acts, NnA a) :
    Calls Try.prog 7 #[.slice A0 acts.length c0] w fun ex w' => ex = .returned (.bool true) ∧ Below w.heap.size w w' := by
  have HR := Lib.hid hr0
  have HLN := Lib.hid hr0.2.1
  have HNA := Lib.hid hN
  clear hr0 hc0 hN
  go_enter Try.func7, Try.ntmps7
  go_wp2_with fail
  go_at_call 8
  refine (alive_calls _).mono ?_
  rintro ex w1 ⟨rfl, hb⟩
  have HB1 := Lib.hid hb
  clear hb
  go_wp2_with fail
  go_at_call 12
  refine (hold_Fresh.calls 3 3 1 0 0 false false [] w1 rfl).mono ?_
  rintro ex w2 ⟨v0, rfl, ho, hb⟩
  obtain ⟨Av, cv, rfl⟩ := Kd.R_slice ho
  have up := boxed w2 (.cells (lockX ⟨3, 1, 0, 0, false, false, []⟩ (.slice Av ([] : List S40).length cv)) 25)
  have HB2 := Lib.hid ((HB1.out.trans (hb.mono HB1.out.size)).trans (up.mono (Nat.le_trans HB1.out.size hb.size)))
  have BL2 := Lib.hid (alloc_at w2 (.cells (lockX ⟨3, 1, 0, 0, false, false, []⟩ (.slice Av ([] : List S40).length cv)) 25))
  have hl2 := Kd.R_lt ho
  have START := Lib.hid (show St w w2.heap.size (.slice none 0 0) (.slice none 0 0) (.slice none 0 0) (.slice Av ([] : List S40).length cv) ⟨3, 1, 0, 0, false, false, []⟩ [] (w2.alloc (.cells (lockX ⟨3, 1, 0, 0, false, false, []⟩ (.slice Av ([] : List S40).length cv)) 25)) from
    { inv := inv0, blk := BL2.out, hol := Kd.R_below (Kd.R_lower ho HB1.out.size) up, l4 := Kd.R_nil _ _ _ _ _, l5 := Kd.R_nil _ _ _ _ _, l6 := Kd.R_nil _ _ _ _ _,
      bv := fun e => by have := hl2 _ e.symm; omega
      b4 := fun e => by cases e
      b5 := fun e => by cases e
      b6 := fun e => by cases e
      u45 := fun k e => by cases e
      u46 := fun k e => by cases e
      u56 := fun k e => by cases e
      u4v := fun k e => by cases e
      u5v := fun k e => by cases e
      u6v := fun k e => by cases e
      bel := HB2.out
      hB := Nat.le_trans HB1.out.size hb.size })
  clear hb up ho hl2
  go_wp2_with fail
  go_loopg [4, 5, 6, 7] acts.length (fun gg s4 s5 s6 s7 wr => ∃ (i : Nat) (x : S25) (gs : Grants) (v : Value), s7 = .int .i64 i ∧ i ≤ acts.length ∧ acts.length - i ≤ gg ∧ gs.length ≤ i ∧ i ≤ 200 ∧ Hid (St w w2.heap.size s4 s5 s6 v x gs wr))
  case atStart => exact ⟨0, _, [], _, by simp, Nat.zero_le _, by omega, Nat.le_refl _, by omega, START⟩
  case round =>
    obtain ⟨i, x, gs, v, rfl, hi, hgg, hgl, hi2, HST⟩ := hrel
    have hx := blk7 HST.out.blk
    obtain ⟨A6, c6, rfl⟩ := Kd.R_slice HST.out.hol
    by_cases hlt : i < acts.length
    · have hltz : decide ((i : Int) < (acts.length : Int)) = true := decide_eq_true (by omega)
      have hq2 : (0 ≤ (i : Int)) = True := eq_true (by omega)
      have hq3 : ((i : Int) < (acts.length : Int)) = True := eq_true (by omega)
      have hw2 : IntKind.i64.wrap ((i : Int) + 1) = i + 1 := IntWalk.i64_in _ (by have := HLN.out; omega)
      by_cases hl2 : i < 200
      · have hltz2 : decide ((i : Int) < 200) = true := decide_eq_true (by omega)
        have HRr := Lib.hid (Kd.C_below HR.out (w1 := wr) (HST.out.bel))
        obtain ⟨ad, rfl, h0, h1, h2⟩ := atAct HRr.out i (by omega) (by omega)
        obtain ⟨a, ha⟩ : ∃ a, rdAct acts i = a := ⟨_, rfl⟩
        have HA := Lib.hid (show NnA a by rw [← ha]; unfold rdAct; rw [Int.toNat_natCast, List.getD_eq_getElem?_getD, List.getElem?_eq_getElem hlt]; exact HNA.out _ (List.getElem_mem hlt))
        rw [ha] at h0 h1 h2
        simp only [Int.toNat_natCast] at h0 h1 h2
        clear ha
        have hxa := fun o => blk7 (alloc_old HST.out.blk o)
        have hxb := fun o o2 => blk7 (alloc_old (alloc_old HST.out.blk o) o2)
        go_upto_block 2 with fail
        have up1 := boxed wr (.cells (actA a) 49)
        have up2 := up1.alloc up1.size (.cells (lockX x (.slice A6 x.f6.length c6)) 25)
        have up3 := up2.alloc up2.size (.cells (lockX x (.slice A6 x.f6.length c6)) 25)
        have s1 : (wr.alloc (.cells (actA a) 49)).heap.size = wr.heap.size + 1 := by simp
        have s2 : ((wr.alloc (.cells (actA a) 49)).alloc (.cells (lockX x (.slice A6 x.f6.length c6)) 25)).heap.size = wr.heap.size + 1 + 1 := by simp
        have s3 : (((wr.alloc (.cells (actA a) 49)).alloc (.cells (lockX x (.slice A6 x.f6.length c6)) 25)).alloc (.cells (lockX x (.slice A6 x.f6.length c6)) 25)).heap.size = wr.heap.size + 1 + 1 + 1 := by simp
        have ba : (((wr.alloc (.cells (actA a) 49)).alloc (.cells (lockX x (.slice A6 x.f6.length c6)) 25)).alloc (.cells (lockX x (.slice A6 x.f6.length c6)) 25)).heap[wr.heap.size]? = some (.cells (actA a) 49 (0, 0)) := alloc_old (alloc_old (alloc_at wr _) _) _
        have bw : (((wr.alloc (.cells (actA a) 49)).alloc (.cells (lockX x (.slice A6 x.f6.length c6)) 25)).alloc (.cells (lockX x (.slice A6 x.f6.length c6)) 25)).heap[wr.heap.size + 1]? = some (.cells (lockX x (.slice A6 x.f6.length c6)) 25 (0, 0)) := by have := alloc_at (wr.alloc (.cells (actA a) 49)) (.cells (lockX x (.slice A6 x.f6.length c6)) 25); rw [s1] at this; exact alloc_old this _
        have bn : (((wr.alloc (.cells (actA a) 49)).alloc (.cells (lockX x (.slice A6 x.f6.length c6)) 25)).alloc (.cells (lockX x (.slice A6 x.f6.length c6)) 25)).heap[wr.heap.size + 1 + 1]? = some (.cells (lockX x (.slice A6 x.f6.length c6)) 25 (0, 0)) := by have := alloc_at ((wr.alloc (.cells (actA a) 49)).alloc (.cells (lockX x (.slice A6 x.f6.length c6)) 25)) (.cells (lockX x (.slice A6 x.f6.length c6)) 25); rwa [s2] at this
        generalize hw3 : (((wr.alloc (.cells (actA a) 49)).alloc (.cells (lockX x (.slice A6 x.f6.length c6)) 25)).alloc (.cells (lockX x (.slice A6 x.f6.length c6)) 25)) = w3 at up3 ba bw bn s3 ⊢
        have HST3 := Lib.hid (HST.out.below up3)
        have HUP := Lib.hid up3
        have BA3 := Lib.hid ba
        have BW3 := Lib.hid bw
        have BN3 := Lib.hid bn
        have HS3 := Lib.hid s3
        have HBr := Lib.hid (show w2.heap.size < wr.heap.size from HST.out.lt)
        have HVL := Lib.hid (Kd.R_lt HST.out.hol)
        clear hw3 up1 up2 up3 ba bw bn s1 s2 s3 hx hxa hxb h0 h1 h2
        have hx := blk7 HST3.out.blk
        have hxn := blk7 BN3.out
        have hxc := blk3 BA3.out
        go_cut [11, 12] (fun s11 s12 wc => ∃ (x' : S25) (told : Int) (v' : Value), s11 = .int .i64 0 ∧ s12 = .int .i64 told ∧ Hid (StepP x gs a told x') ∧ Hid (wc.heap[wr.heap.size + 1 + 1]? = some (.cells (lockX x' v') 25 (0, 0))) ∧ Hid (Kd.R k40 40 wc w.heap.size (fun _ => True) v' x'.f6) ∧ Hid (∀ k, v'.ownBlock = some k → some k = (Value.slice A6 x.f6.length c6).ownBlock ∨ wr.heap.size < k) ∧ Hid (Below (wr.heap.size + 1 + 1) w3 wc))
        case first =>
          have hA0 := HA.out
          have hcap := (R_both HST.out.hol).2
          have hN6 := HST.out.inv.nn
          have hrw := HST.out.inv.rows
          have hr := HST.out.inv.right
          have hC3 := Lib.hid (Kd.R_reads' HST3.out.hol).2.2
          have hl6 : x.f6.length ≤ 100 := by have := hrw.2.2.1; omega
          by_cases k0 : a.f0.tmod 5 = 0
          · obtain ⟨x', told, hA, hle, hc3, hg1, hg2⟩ := HST.out.inv.ask (cl := a.f1) (md := 1 + a.f2 % 2) hA0.2.1 (by omega)
            have hok : okH x.f6 a.f1 = true := (okH_iff _ _).2 ⟨hl6, hN6, hA0.2.1.1, hA0.2.1.2⟩
            have HCALL := Lib.hid (fun W h => hold_Ask.calls x.f0 x.f1 x.f2 x.f3 x.f4 x.f5 A6 c6 x.f6 a.f1 (1 + a.f2 % 2) (x').f0 (x').f1 (x').f2 (x').f3 (x').f4 (x').f5 x'.f6 told 0 W h hcap (by unfold hold_Ask.f; rw [if_pos hok]; exact congrArg some hA))
            have HG := Lib.hid (show StepP x gs a told x' from ⟨hle, fun _ => Int.le_of_eq hc3, hg1, hg2⟩)
            have hk : (a.f0.tmod 5 == 0) = true := by rw [k0]; rfl
            have hk' : (a.f0.tmod 5 = 0) = True := eq_true k0
            have hm1 : a.f2.tmod 2 = a.f2 % 2 := Int.tmod_eq_emod_of_nonneg hA0.2.2.1
            have hm2 : IntKind.u32.wrap (a.f2 % 2) = a.f2 % 2 := by rw [IntKind.wrap_u32]; omega
            have hm3 : IntKind.u32.wrap (1 + a.f2 % 2) = 1 + a.f2 % 2 := by rw [IntKind.wrap_u32]; omega
            have hm4 : (1 + a.f2 % 2) % 4294967296 = 1 + a.f2 % 2 := by omega
            clear hA0 hcap hN6 hrw hr hl6 hA hle hc3 hg1 hg2 hok k0
            go_wp2_with fail
            go_at_call 17
            refine (HCALL.out _ hC3.out).mono ?_
            rintro ex w4 ⟨vn, rfl, ho, hb⟩
            obtain ⟨An, cn, rfl⟩ := Kd.R_slice ho
            have HO4 := Lib.hid ho
            have HB4 := Lib.hid hb
            have BN4 := Lib.hid (below_old BN3.out hb)
            have hvb := Kd.R_base ho
            clear hb ho hx hxn hxc
            have hxn := blk7 BN4.out
            go_wp2
            go_meet
            case rel =>
              have hs := HS3.out
              exact ⟨x', told, _, rfl, rfl, Lib.hid HG.out, Lib.hid (put7 BN4.out), Lib.hid (Kd.R_lower (set7 HO4.out (show wr.heap.size + 1 + 1 < w3.heap.size by omega) _ _ _ _ _ _ _) HST3.out.bel.size), Lib.hid (fun k hk => .inr (by have := hvb k hk; omega)), Lib.hid (below7 (HB4.out.mono (by omega)) (Nat.le_refl _) _ _ _ _ _ _ _)⟩
          by_cases k1 : a.f0.tmod 5 = 1
          · have HCALL := Lib.hid (fun (W : World) (h : Kd.C k40 W A6 x.f6.length x.f6) => hold_Return.calls 4200 x.f0 x.f1 x.f2 x.f3 x.f4 x.f5 A6 c6 x.f6 a.f1 x.f1 (retX x a.f1).f0 (retX x a.f1).f1 (retX x a.f1).f2 (retX x a.f1).f3 (retX x a.f1).f4 (retX x a.f1).f5 (retX x a.f1).f6 0 W h hcap (by unfold hold_Return.f hold_without.f; rw [right_f x.f0 x.f1 x.f2 x.f3 x.f4 x.f5 x.f6 (by omega) 4200 (by omega), show rightB x.f2 x.f3 x.f4 x.f5 x.f6 = true from hr, if_pos hl6]; simp [retX]))
            have HG := Lib.hid (show StepP x gs a 0 (retX x a.f1) from ⟨Int.le_refl _, fun _ => Int.le_refl _, fun e => absurd e (by decide), fun _ => HST.out.inv.retX a.f1⟩)
            have hk0 : (a.f0.tmod 5 == 0) = false := by rw [beq_eq_false_iff_ne]; omega
            have hk0' : (a.f0.tmod 5 = 0) = False := eq_false (by omega)
            have hk1 : (a.f0.tmod 5 == 1) = true := by rw [k1]; rfl
            have hk1' : (a.f0.tmod 5 = 1) = True := eq_true k1
            clear hA0 hcap hN6 hrw hr hl6 k1
            go_wp2_with fail
            go_at_call 19
            refine (HCALL.out _ hC3.out).mono ?_
            rintro ex w4 ⟨vn, rfl, ho, hb⟩
            obtain ⟨An, cn, rfl⟩ := Kd.R_slice ho
            have HO4 := Lib.hid ho
            have HB4 := Lib.hid hb
            have BN4 := Lib.hid (below_old BN3.out hb)
            have hvb := Kd.R_base ho
            clear hb ho hx hxn hxc
            have hxn := blk7 BN4.out
            go_wp2
            go_meet
            case rel =>
              have hs := HS3.out
              exact ⟨retX x a.f1, 0, _, rfl, rfl, Lib.hid HG.out, Lib.hid (put7 BN4.out), Lib.hid (Kd.R_lower (set7 HO4.out (show wr.heap.size + 1 + 1 < w3.heap.size by omega) _ _ _ _ _ _ _) HST3.out.bel.size), Lib.hid (fun k hk => .inr (by have := hvb k hk; omega)), Lib.hid (below7 (HB4.out.mono (by omega)) (Nat.le_refl _) _ _ _ _ _ _ _)⟩
          by_cases k2 : a.f0.tmod 5 = 2
          · have HCALL := Lib.hid (fun (W : World) (h : Kd.C k40 W A6 x.f6.length x.f6) => revoke_ok x.f0 x.f1 x.f2 x.f3 x.f4 x.f5 A6 c6 x.f6 W h hcap hl6 hr (turnX x).f0 (turnX x).f1 (turnX x).f2 (turnX x).f3 (turnX x).f4 (turnX x).f5 (turnX x).f6 (turnT_X x))
            have HG := Lib.hid (show StepP x gs a 0 (turnX x) from ⟨HST.out.inv.turnX.2.1, fun _ => Int.le_of_eq HST.out.inv.turnX.2.2, fun e => absurd e (by decide), fun _ => HST.out.inv.turnX.1⟩)
            have hk0 : (a.f0.tmod 5 == 0) = false := by rw [beq_eq_false_iff_ne]; omega
            have hk0' : (a.f0.tmod 5 = 0) = False := eq_false (by omega)
            have hk1 : (a.f0.tmod 5 == 1) = false := by rw [beq_eq_false_iff_ne]; omega
            have hk1' : (a.f0.tmod 5 = 1) = False := eq_false (by omega)
            have hk2 : (a.f0.tmod 5 == 2) = true := by rw [k2]; rfl
            have hk2' : (a.f0.tmod 5 = 2) = True := eq_true k2
            clear hA0 hcap hN6 hrw hr hl6 k2
            go_wp2_with fail
            go_at_call 22
            refine (HCALL.out _ hC3.out).mono ?_
            rintro ex w4 ⟨vn, rfl, ho, hb⟩
            obtain ⟨An, cn, rfl⟩ := Kd.R_slice ho
            have HO4 := Lib.hid ho
            have HB4 := Lib.hid hb
            have BN4 := Lib.hid (below_old BN3.out hb)
            have hvb := Kd.R_base ho
            clear hb ho hx hxn hxc
            have hxn := blk7 BN4.out
            go_wp2
            go_meet
            case rel =>
              have hs := HS3.out
              exact ⟨turnX x, 0, _, rfl, rfl, Lib.hid HG.out, Lib.hid (put7 BN4.out), Lib.hid (Kd.R_lower (set7 HO4.out (show wr.heap.size + 1 + 1 < w3.heap.size by omega) _ _ _ _ _ _ _) HST3.out.bel.size), Lib.hid (fun k hk => .inr (by have := hvb k hk; omega)), Lib.hid (below7 (HB4.out.mono (by omega)) (Nat.le_refl _) _ _ _ _ _ _ _)⟩
          by_cases k3 : a.f0.tmod 5 = 3
          · have HCALL := Lib.hid (fun (W : World) (h : Kd.C k40 W A6 x.f6.length x.f6) => settle_X x A6 c6 (a.f2 % 1025) W h hcap hl6 hr (by omega))
            have HG := Lib.hid (show StepP x gs a 0 (setX x (a.f2 % 1025)) from ⟨Int.le_of_eq (HST.out.inv.setX (sz := a.f2 % 1025) (by omega)).2.symm, fun e => absurd k3 e, fun e => absurd e (by decide), fun _ => (HST.out.inv.setX (sz := a.f2 % 1025) (by omega)).1⟩)
            have hk0 : (a.f0.tmod 5 == 0) = false := by rw [beq_eq_false_iff_ne]; omega
            have hk0' : (a.f0.tmod 5 = 0) = False := eq_false (by omega)
            have hk1 : (a.f0.tmod 5 == 1) = false := by rw [beq_eq_false_iff_ne]; omega
            have hk1' : (a.f0.tmod 5 = 1) = False := eq_false (by omega)
            have hk2 : (a.f0.tmod 5 == 2) = false := by rw [beq_eq_false_iff_ne]; omega
            have hk2' : (a.f0.tmod 5 = 2) = False := eq_false (by omega)
            have hk3 : (a.f0.tmod 5 == 3) = true := by rw [k3]; rfl
            have hk3' : (a.f0.tmod 5 = 3) = True := eq_true k3
            have hm1 : a.f2.tmod 1025 = a.f2 % 1025 := Int.tmod_eq_emod_of_nonneg hA0.2.2.1
            have hm2 : IntKind.u32.wrap (a.f2 % 1025) = a.f2 % 1025 := by rw [IntKind.wrap_u32]; omega
            obtain ⟨y, hy⟩ : ∃ y, setX x (a.f2 % 1025) = y := ⟨_, rfl⟩
            rw [hy] at HCALL HG
            clear hy
            clear hA0 hcap hN6 hrw hr hl6 k3
            go_wp2_with fail
            go_at_call 20
            refine (HCALL.out _ hC3.out).mono ?_
            rintro ex w4 ⟨vn, rfl, ho, hb⟩
            obtain ⟨An, cn, rfl⟩ := Kd.R_slice ho
            have HO4 := Lib.hid ho
            have HB4 := Lib.hid hb
            have BN4 := Lib.hid (below_old BN3.out hb)
            have hvb := Kd.R_base ho
            clear hb ho hx hxn hxc
            have hxn := blk7 BN4.out
            go_wp2
            go_meet
            case rel =>
              have hs := HS3.out
              exact ⟨y, 0, _, rfl, rfl, Lib.hid HG.out, Lib.hid (put7 BN4.out), Lib.hid (Kd.R_lower (set7 HO4.out (show wr.heap.size + 1 + 1 < w3.heap.size by omega) _ _ _ _ _ _ _) HST3.out.bel.size), Lib.hid (fun k hk => .inr (by have := hvb k hk; omega)), Lib.hid (below7 (HB4.out.mono (by omega)) (Nat.le_refl _) _ _ _ _ _ _ _)⟩
          by_cases k4 : a.f0.tmod 5 = 4
          · have HCALL := Lib.hid (fun (W : World) (h : Kd.C k40 W A6 x.f6.length x.f6) => shrink_ok x.f0 x.f1 x.f2 x.f3 x.f4 x.f5 A6 c6 x.f6 a.f2 W h hcap hl6 hr)
            have HG := Lib.hid (show StepP x gs a 0 (shrX x a.f2) from ⟨Int.le_refl _, fun _ => (HST.out.inv.shrX a.f2).2, fun e => absurd e (by decide), fun _ => (HST.out.inv.shrX a.f2).1⟩)
            have hk0 : (a.f0.tmod 5 == 0) = false := by rw [beq_eq_false_iff_ne]; omega
            have hk0' : (a.f0.tmod 5 = 0) = False := eq_false (by omega)
            have hk1 : (a.f0.tmod 5 == 1) = false := by rw [beq_eq_false_iff_ne]; omega
            have hk1' : (a.f0.tmod 5 = 1) = False := eq_false (by omega)
            have hk2 : (a.f0.tmod 5 == 2) = false := by rw [beq_eq_false_iff_ne]; omega
            have hk2' : (a.f0.tmod 5 = 2) = False := eq_false (by omega)
            have hk3 : (a.f0.tmod 5 == 3) = false := by rw [beq_eq_false_iff_ne]; omega
            have hk3' : (a.f0.tmod 5 = 3) = False := eq_false (by omega)
            have hk4 : (a.f0.tmod 5 == 4) = true := by rw [k4]; rfl
            have hk4' : (a.f0.tmod 5 = 4) = True := eq_true k4
            obtain ⟨mn, hmn⟩ : ∃ mn, (if a.f2 < x.f3 then a.f2 else x.f3) = mn := ⟨_, rfl⟩
            have hG := HG.out
            unfold shrX at hG
            rw [hmn] at HCALL hG
            clear HG hmn
            have HG := Lib.hid hG
            clear hG
            clear hA0 hcap hN6 hrw hr hl6 k4
            go_wp2_with fail
            go_at_call 21
            refine (HCALL.out _ hC3.out).mono ?_
            rintro ex w4 ⟨vn, rfl, ho, hb⟩
            obtain ⟨An, cn, rfl⟩ := Kd.R_slice ho
            have HO4 := Lib.hid ho
            have HB4 := Lib.hid hb
            have BN4 := Lib.hid (below_old BN3.out hb)
            have hvb := Kd.R_base ho
            clear hb ho hx hxn hxc
            have hxn := blk7 BN4.out
            go_wp2
            go_meet
            case rel =>
              have hs := HS3.out
              exact ⟨⟨x.f0, x.f1, x.f2, mn, x.f4, x.f5, x.f6⟩, 0, _, rfl, rfl, Lib.hid HG.out, Lib.hid (put7 BN4.out), Lib.hid (Kd.R_lower (set7 HO4.out (show wr.heap.size + 1 + 1 < w3.heap.size by omega) _ _ _ _ _ _ _) HST3.out.bel.size), Lib.hid (fun k hk => .inr (by have := hvb k hk; omega)), Lib.hid (below7 (HB4.out.mono (by omega)) (Nat.le_refl _) _ _ _ _ _ _ _)⟩
          have hk0 : (a.f0.tmod 5 == 0) = false := by rw [beq_eq_false_iff_ne]; omega
          have hk0' : (a.f0.tmod 5 = 0) = False := eq_false (by omega)
          have hk1 : (a.f0.tmod 5 == 1) = false := by rw [beq_eq_false_iff_ne]; omega
          have hk1' : (a.f0.tmod 5 = 1) = False := eq_false (by omega)
          have hk2 : (a.f0.tmod 5 == 2) = false := by rw [beq_eq_false_iff_ne]; omega
          have hk2' : (a.f0.tmod 5 = 2) = False := eq_false (by omega)
          have hk3 : (a.f0.tmod 5 == 3) = false := by rw [beq_eq_false_iff_ne]; omega
          have hk3' : (a.f0.tmod 5 = 3) = False := eq_false (by omega)
          have hk4 : (a.f0.tmod 5 == 4) = false := by rw [beq_eq_false_iff_ne]; omega
          have hk4' : (a.f0.tmod 5 = 4) = False := eq_false (by omega)
          have HG := Lib.hid (show StepP x gs a 0 x from ⟨Int.le_refl _, fun _ => Int.le_refl _, fun e => absurd e (by decide), fun _ => HST.out.inv⟩)
          clear hA0 hcap hN6 hrw hr hl6
          go_wp2
          go_meet
          case rel => exact ⟨x, 0, _, rfl, rfl, HG, Lib.hid BN3.out, Lib.hid HST3.out.hol, Lib.hid (fun k hk => .inl hk.symm), Lib.hid (Below.refl _ _)⟩
        case rest =>
          obtain ⟨x', told, v', rfl, rfl, HSP, BNC, HOC, HVC, HBC⟩ := hcut
          obtain ⟨Ac, cc, rfl⟩ := Kd.R_slice HOC.out
          have HSC := Lib.hid (HST.out.below (HUP.out.trans (HBC.out.mono (by omega))))
          have BAC := Lib.hid (below_old' BA3.out (by omega) HBC.out)
          have BWC := Lib.hid (below_old' BW3.out (by omega) HBC.out)
          have hbv : some w2.heap.size ≠ (Value.slice Ac x'.f6.length cc).ownBlock := fun e => by
            rcases HVC.out _ e.symm with h | h
            · exact HST.out.bv h
            · have := HBr.out; omega
          have hne1 : ¬ wr.heap.size = w2.heap.size := by have := HBr.out; omega
          have hne2 : ¬ wr.heap.size + 1 = w2.heap.size := by have := HBr.out; omega
          have hx := blk7 HSC.out.blk
          have hxn := blk7 BNC.out
          go_wp2_with ((with_reducible refine gate_dst (N := 95) rfl ?_); refine stop_here ?_)
          refine Lib.hid ?_
          have hg := grown7 wc w2.heap.size (.int .u32 x'.f0) (.int .u32 x'.f1) (.int .u32 x'.f2) (.int .u32 x'.f3) (.bool x'.f4) (.bool x'.f5) (.slice Ac x'.f6.length cc)
          have bb : ((((((((wc.setCell ⟨w2.heap.size, 0, none⟩ (.int .u32 x'.f0)).setCell ⟨w2.heap.size, 1, none⟩ (.int .u32 x'.f1)).setCell ⟨w2.heap.size, 2, none⟩ (.int .u32 x'.f2)).setCell ⟨w2.heap.size, 3, none⟩ (.int .u32 x'.f3)).setCell ⟨w2.heap.size, 4, none⟩ (.bool x'.f4)).setCell ⟨w2.heap.size, 5, none⟩ (.bool x'.f5)).setCell ⟨w2.heap.size, 6, none⟩ (.slice Ac x'.f6.length cc))).heap[w2.heap.size]? = some (.cells (lockX x' (.slice Ac x'.f6.length cc)) 25 (0, 0)) := put7 HSC.out.blk
          have ba := far7 BAC.out hne1 (.int .u32 x'.f0) (.int .u32 x'.f1) (.int .u32 x'.f2) (.int .u32 x'.f3) (.bool x'.f4) (.bool x'.f5) (.slice Ac x'.f6.length cc)
          have bw := far7 BWC.out hne2 (.int .u32 x'.f0) (.int .u32 x'.f1) (.int .u32 x'.f2) (.int .u32 x'.f3) (.bool x'.f4) (.bool x'.f5) (.slice Ac x'.f6.length cc)
          have hbel := below7 HSC.out.bel HSC.out.hB (.int .u32 x'.f0) (.int .u32 x'.f1) (.int .u32 x'.f2) (.int .u32 x'.f3) (.bool x'.f4) (.bool x'.f5) (.slice Ac x'.f6.length cc)
          generalize hwd : ((((((((wc.setCell ⟨w2.heap.size, 0, none⟩ (.int .u32 x'.f0)).setCell ⟨w2.heap.size, 1, none⟩ (.int .u32 x'.f1)).setCell ⟨w2.heap.size, 2, none⟩ (.int .u32 x'.f2)).setCell ⟨w2.heap.size, 3, none⟩ (.int .u32 x'.f3)).setCell ⟨w2.heap.size, 4, none⟩ (.bool x'.f4)).setCell ⟨w2.heap.size, 5, none⟩ (.bool x'.f5)).setCell ⟨w2.heap.size, 6, none⟩ (.slice Ac x'.f6.length cc))) = wd at hg bb ba bw hbel ⊢
          have HOD := Lib.hid (Kd.R_grown1 HOC.out rfl hg hbv)
          have H4D := Lib.hid (Kd.R_grown1 HSC.out.l4 rfl hg HST.out.b4)
          have H5D := Lib.hid (Kd.R_grown1 HSC.out.l5 rfl hg HST.out.b5)
          have H6D := Lib.hid (Kd.R_grown1 HSC.out.l6 rfl hg HST.out.b6)
          have BBD := Lib.hid bb
          have BAD := Lib.hid ba
          have BWD := Lib.hid bw
          have HBD := Lib.hid hbel
          have HBV := Lib.hid hbv
          clear hwd hg bb ba bw hbel hbv hx hxn
          have hx := blk7 BBD.out
          have HCD := Lib.hid (R_both HOD.out)
          have hrX : rightX x' = true := by
            by_cases e1 : told = 1
            · exact (HSP.out.2.2.1 e1).right
            · exact (HSP.out.2.2.2 e1).right
          have HRX := Lib.hid hrX
          have hlx : x'.f6.length ≤ 4 := (right_rows hrX).2.2.1
          have HLX := Lib.hid hlx
          have HRT := Lib.hid (fun W h => hold_Right.calls 4200 x'.f0 x'.f1 x'.f2 x'.f3 x'.f4 x'.f5 Ac cc x'.f6 true W h HCD.out.2 (by rw [right_f x'.f0 x'.f1 x'.f2 x'.f3 x'.f4 x'.f5 x'.f6 (by omega) 4200 (by omega)]; exact congrArg some hrX))
          clear hrX hlx
          have hcase : x'.f3 ≤ x.f3 ∨ x.f3 < x'.f3 ∧ a.f0.tmod 5 = 3 := by
            by_cases h : x.f3 < x'.f3
            · refine .inr ⟨h, ?_⟩
              by_cases h3 : a.f0.tmod 5 = 3
              · exact h3
              · have := HSP.out.2.1 h3; omega
            · exact .inl (by omega)
          have hc1 : decide (x.f3 < x'.f3) = true → (a.f0.tmod 5 != 3) = false := fun h => by
            rcases hcase with h2 | ⟨_, h2⟩
            · have := of_decide_eq_true h; omega
            · rw [h2]; rfl
          obtain ⟨cb, hcb⟩ : ∃ cb, decide (x.f3 < x'.f3) = cb := ⟨_, rfl⟩
          obtain ⟨kb, hkb⟩ : ∃ kb, (a.f0.tmod 5 != 3) = kb := ⟨_, rfl⟩
          have hck : cb = false ∨ cb = true ∧ kb = false := by
            cases cb with
            | false => exact .inl rfl
            | true => exact .inr ⟨rfl, by rw [← hkb]; exact hc1 hcb⟩
          clear hcase hc1
          rcases hck with rfl | ⟨rfl, rfl⟩
          all_goals
            have hd1 : decide (x'.f1 < x.f1) = false := decide_eq_false (by have := HSP.out.1; omega)
            go_upto_block 3 with (go_at_call 9; refine (HRT.out _ HCD.out.1).mono ?_; rintro ex we ⟨rfl, hb⟩; have HOE := Lib.hid (Kd.R_below HOD.out hb); have H4E := Lib.hid (Kd.R_below H4D.out hb); have H5E := Lib.hid (Kd.R_below H5D.out hb); have H6E := Lib.hid (Kd.R_below H6D.out hb); have BBE := Lib.hid (below_old BBD.out hb); have BAE := Lib.hid (below_old BAD.out hb); have BWE := Lib.hid (below_old BWD.out hb); have HBE := Lib.hid (HBD.out.trans (hb.mono HBD.out.size)); clear hb hx; have hx := blk7 BBE.out; have hxw := blk7 BWE.out; have hxa := blk3 BAE.out)
            go_wp2_with fail
            clear hx hxw hxa
            have hun : ∀ s : Value, (∀ k, s.ownBlock = some k → k < wr.heap.size) → Un s (.slice A6 x.f6.length c6) → Un s (.slice Ac x'.f6.length cc) := fun s hl hu k hk e => by
              rcases HVC.out k e.symm with h | h
              · exact hu k hk h
              · have := hl k hk; omega
            have HUN := Lib.hid hun
            clear hun
            go_loopg [13] 4 (fun gg s13 wf => ∃ k : Nat, s13 = .int .i64 k ∧ k ≤ x'.f6.length ∧ x'.f6.length - k ≤ gg ∧ Hid (Below we.heap.size we wf))
            case atStart => exact ⟨0, by simp, Nat.zero_le _, by have := HLX.out; omega, Lib.hid (Below.refl _ _)⟩
            case round =>
              obtain ⟨k, rfl, hk, hgk, HBF⟩ := hrel
              have BBF := Lib.hid (below_old BBE.out HBF.out)
              have BAF := Lib.hid (below_old BAE.out HBF.out)
              have HOF := Lib.hid (Kd.R_below HOE.out HBF.out)
              have hx := blk7 BBF.out
              have hxa := blk3 BAF.out
              by_cases hlk : k < x'.f6.length
              · have hltk : decide ((k : Int) < (x'.f6.length : Int)) = true := decide_eq_true (by omega)
                have hq4 : (0 ≤ (k : Int)) = True := eq_true (by omega)
                have hq5 : ((k : Int) < (x'.f6.length : Int)) = True := eq_true (by omega)
                have hw5 : IntKind.i64.wrap ((k : Int) + 1) = k + 1 := IntWalk.i64_in _ (by have := HLX.out; omega)
                obtain ⟨ad3, e3, h0, h1⟩ := at_T40 (Kd.R_reads' HOF.out).2.2 k (by omega) (by omega)
                subst e3
                simp only [Int.toNat_natCast] at h0 h1
                obtain ⟨y, hy⟩ : ∃ y, rd_T40 x'.f6 k = y := ⟨_, rfl⟩
                have hrow := rows_mem (right_rows HRX.out).2.2.2.2 y (by rw [← hy, rd_get x'.f6 k hlk]; exact List.getElem_mem _)
                rw [hy] at h0 h1
                clear hy
                by_cases hm : y.f1 = 2
                · have hn1 := hrow.2.2 hm
                  have hl1 : x'.f6.length = 1 := by omega
                  have hm1 : (y.f1 == 2) = true := by rw [hm]; rfl
                  have hm2 : ((x'.f6.length : Int) != 1) = false := by rw [hl1]; rfl
                  have HK := Lib.hid hlk
                  clear hm hrow hn1 hl1
                  go_wp2
                  go_roundg (x'.f6.length - (k + 1))
                  case measure => have := HK.out; omega
                  case rel => exact ⟨k + 1, by simp, HK.out, by omega, HBF⟩
                · have hm1 : (y.f1 == 2) = false := beq_eq_false_iff_ne.2 hm
                  have HK := Lib.hid hlk
                  clear hm hrow
                  go_wp2
                  go_roundg (x'.f6.length - (k + 1))
                  case measure => have := HK.out; omega
                  case rel => exact ⟨k + 1, by simp, HK.out, by omega, HBF⟩
              · have hltk : decide ((k : Int) < (x'.f6.length : Int)) = false := decide_eq_false (by omega)
                by_cases ht : told = 1
                · have ht1 : (told == 1) = true := by rw [ht]; rfl
                  have hmod := HA.out.2.2
                  have hm1 : a.f2.tmod 2 = a.f2 % 2 := Int.tmod_eq_emod_of_nonneg hmod.1
                  have hm2 : IntKind.u32.wrap (a.f2 % 2) = a.f2 % 2 := by rw [IntKind.wrap_u32]; omega
                  have hm3 : IntKind.u32.wrap (1 + a.f2 % 2) = 1 + a.f2 % 2 := by rw [IntKind.wrap_u32]; omega
                  have hm4 : (1 + a.f2 % 2) % 4294967296 = 1 + a.f2 % 2 := by omega
                  have HIN := Lib.hid (HSP.out.2.2.1 ht)
                  have HLS := Lib.hid (show Ls w w2.heap.size _ a _ _ _ (.slice Ac x'.f6.length cc) x' (gs.map (·.1)) (gs.map (·.2.1)) (gs.map (·.2.2)) _ from
                    { blk := BBF.out, act := BAF.out, hol := HOF.out, r4 := Kd.R_below H4E.out HBF.out, r5 := Kd.R_below H5E.out HBF.out, r6 := Kd.R_below H6E.out HBF.out, bv := HBV.out, b4 := HST.out.b4, b5 := HST.out.b5, b6 := HST.out.b6
                      p4 := fun e => by have := Kd.R_lt HST.out.l4 _ e.symm; omega
                      p5 := fun e => by have := Kd.R_lt HST.out.l5 _ e.symm; omega
                      p6 := fun e => by have := Kd.R_lt HST.out.l6 _ e.symm; omega
                      u45 := HST.out.u45, u46 := HST.out.u46, u56 := HST.out.u56
                      u4v := HUN.out _ (Kd.R_lt HST.out.l4) HST.out.u4v
                      u5v := HUN.out _ (Kd.R_lt HST.out.l5) HST.out.u5v
                      u6v := HUN.out _ (Kd.R_lt HST.out.l6) HST.out.u6v
                      bel := HBE.out.trans (HBF.out.mono HBE.out.size), hB := HST.out.hB })
                  clear ht hmod hx hxa
                  have hxa := blk3 HLS.out.act
                  have hx := blk7 HLS.out.blk
                  go_wp2_with ((with_reducible refine gate_builtin (b := .append) (xs := #[.tmp 141, .tmp 144]) rfl ?_); refine stop_here ?_)
                  refine Lib.hid ?_
                  at_builtin
                  have HL1 := Lib.hid (HLS.out.below (boxed _ (.cells #[.int .u32 a.f1] 22)))
                  refine Kd.R_append_rows (Kd.int .u32) (w0 := w) w.heap.size rfl (.tmp 141) (.tmp 144) 30 22 (.int .u32 0) 4 rfl Try.underlying30 inf22 rfl (by decide) (by omega) u4 (gs.map (·.1)) [a.f1] (some ⟨_, 0, none⟩) 1 1 (fun _ => True) (fun _ => False) rfl rfl HL1.out.r4 (row_u32 (alloc_at _ _)) (fun _ _ h => h) (fun _ h => h.elim) (fun _ _ => trivial) HL1.out.bel HL1.out.bel.size (by simp; omega) ?_
                  intro v1 wA1 ho hb hg hat
                  have HLA1 := Lib.hid (HL1.out.app4 ho hb hg hat)
                  clear ho hb hg hat hx hxa
                  have hxa := blk3 HLA1.out.act
                  have hx := blk7 HLA1.out.blk
                  go_wp2_with ((with_reducible refine gate_builtin (b := .append) (xs := #[.tmp 146, .tmp 151]) rfl ?_); refine stop_here ?_)
                  refine Lib.hid ?_
                  at_builtin
                  have HL2 := Lib.hid (HLA1.out.below (boxed _ (.cells #[.int .u32 (1 + a.f2 % 2)] 22)))
                  refine Kd.R_append_rows (Kd.int .u32) (w0 := w) w.heap.size rfl (.tmp 146) (.tmp 151) 30 22 (.int .u32 0) 4 rfl Try.underlying30 inf22 rfl (by decide) (by omega) u5 (gs.map (·.2.1)) [(1 + a.f2 % 2)] (some ⟨_, 0, none⟩) 1 1 (fun _ => True) (fun _ => False) rfl rfl HL2.out.r5 (row_u32 (alloc_at _ _)) (fun _ _ h => h) (fun _ h => h.elim) (fun _ _ => trivial) HL2.out.bel HL2.out.bel.size (by simp; omega) ?_
                  intro v2 wA2 ho hb hg hat
                  have HLA2 := Lib.hid (HL2.out.app5 ho hb hg hat)
                  clear ho hb hg hat hx hxa
                  have hxa := blk3 HLA2.out.act
                  have hx := blk7 HLA2.out.blk
                  go_wp2_with ((with_reducible refine gate_builtin (b := .append) (xs := #[.tmp 153, .tmp 156]) rfl ?_); refine stop_here ?_)
                  refine Lib.hid ?_
                  at_builtin
                  have HL3 := Lib.hid (HLA2.out.below (boxed _ (.cells #[.int .u32 x'.f1] 22)))
                  refine Kd.R_append_rows (Kd.int .u32) (w0 := w) w.heap.size rfl (.tmp 153) (.tmp 156) 30 22 (.int .u32 0) 4 rfl Try.underlying30 inf22 rfl (by decide) (by omega) u6 (gs.map (·.2.2)) [x'.f1] (some ⟨_, 0, none⟩) 1 1 (fun _ => True) (fun _ => False) rfl rfl HL3.out.r6 (row_u32 (alloc_at _ _)) (fun _ _ h => h) (fun _ h => h.elim) (fun _ _ => trivial) HL3.out.bel HL3.out.bel.size (by simp; omega) ?_
                  intro v3 wA3 ho hb hg hat
                  have HLA3 := Lib.hid (HL3.out.app6 ho hb hg hat)
                  clear ho hb hg hat hx hxa
                  have hxa := blk3 HLA3.out.act
                  have hx := blk7 HLA3.out.blk
                  go_wp2
                  go_roundg (acts.length - (i + 1))
                  case measure => omega
                  case rel => exact ⟨i + 1, x', gs ++ [(a.f1, 1 + a.f2 % 2, x'.f1)], _, by simp, by omega, by omega, by simp; omega, by omega, Lib.hid (Ls.st HLA3.out HIN.out)⟩
                · have ht1 : (told == 1) = false := beq_eq_false_iff_ne.2 ht
                  have HIN := Lib.hid (HSP.out.2.2.2 ht)
                  clear ht
                  go_wp2
                  go_roundg (acts.length - (i + 1))
                  case measure => omega
                  case rel =>
                    exact ⟨i + 1, x', gs, _, by simp, by omega, by omega, by omega, by omega, Lib.hid
                      { inv := HIN.out, blk := BBF.out, hol := HOF.out, l4 := Kd.R_below H4E.out HBF.out, l5 := Kd.R_below H5E.out HBF.out, l6 := Kd.R_below H6E.out HBF.out, bv := HBV.out, b4 := HST.out.b4, b5 := HST.out.b5, b6 := HST.out.b6, u45 := HST.out.u45, u46 := HST.out.u46, u56 := HST.out.u56
                        u4v := HUN.out _ (Kd.R_lt HST.out.l4) HST.out.u4v
                        u5v := HUN.out _ (Kd.R_lt HST.out.l5) HST.out.u5v
                        u6v := HUN.out _ (Kd.R_lt HST.out.l6) HST.out.u6v
                        bel := HBE.out.trans (HBF.out.mono HBE.out.size), hB := HST.out.hB }⟩
      · -- END B
        as_aux_lemma =>
          have hltz : decide ((i : Int) < (acts.length : Int)) = true := decide_eq_true (by omega)
          have hltz2 : decide ((i : Int) < 200) = false := decide_eq_false (by omega)
          clear hx
          have HSE := Lib.hid HST.out
          have HGL := Lib.hid (show gs.length ≤ 200 by omega)
          obtain ⟨A4, c4, e4⟩ := Kd.R_slice HSE.out.l4
          obtain ⟨A5, c5, e5⟩ := Kd.R_slice HSE.out.l5
          obtain ⟨A6, c6, e6⟩ := Kd.R_slice HSE.out.l6
          rw [List.length_map] at e4 e5 e6
          subst e4 e5 e6
          have HC4 := Lib.hid (R_all HSE.out.l4)
          have HC5 := Lib.hid (R_all HSE.out.l5)
          have HC6 := Lib.hid (R_all HSE.out.l6)
          rename World => wz
          clear hltz
          go_wp2_with fail
          go_loopg [14] gs.length (fun gg s14 wf => ∃ p : Nat, s14 = .int .i64 p ∧ p ≤ gs.length ∧ gs.length - p ≤ gg ∧ Hid (Below wz.heap.size wz wf))
          case atStart => exact ⟨0, by simp, Nat.zero_le _, by omega, Lib.hid (Below.refl _ _)⟩
          case round =>
            obtain ⟨p, rfl, hp, hgp, HBF⟩ := hrel
            by_cases hlp : p < gs.length
            · have hltp : decide ((p : Int) < (gs.length : Int)) = true := decide_eq_true (by omega)
              have hq4 : (0 ≤ (p : Int)) = True := eq_true (by omega)
              have hq5 : ((p : Int) < (gs.length : Int)) = True := eq_true (by omega)
              have hw5 : IntKind.i64.wrap ((p : Int) + 1) = p + 1 := IntWalk.i64_in _ (by have := HGL.out; omega)
              go_wp2_with fail
              go_loopg [15] gs.length (fun gg s15 wf => ∃ q : Nat, s15 = .int .i64 q ∧ q ≤ gs.length ∧ gs.length - q ≤ gg ∧ Hid (Below wz.heap.size wz wf))
              case atStart => exact ⟨0, by simp, Nat.zero_le _, by omega, HBF⟩
              case round =>
                obtain ⟨q, rfl, hq, hgq, HBQ⟩ := hrel
                by_cases hlq : q < gs.length
                · have hltq : decide ((q : Int) < (gs.length : Int)) = true := decide_eq_true (by omega)
                  have hq6 : (0 ≤ (q : Int)) = True := eq_true (by omega)
                  have hq7 : ((q : Int) < (gs.length : Int)) = True := eq_true (by omega)
                  have hw6 : IntKind.i64.wrap ((q : Int) + 1) = q + 1 := IntWalk.i64_in _ (by have := HGL.out; omega)
                  obtain ⟨⟨gc, gm, ge⟩, hg⟩ : ∃ g, gs[p]? = some g := ⟨_, List.getElem?_eq_getElem hlp⟩
                  obtain ⟨⟨hc, hm, he⟩, hh⟩ : ∃ g, gs[q]? = some g := ⟨_, List.getElem?_eq_getElem hlq⟩
                  have hap := HSE.out.inv.apart _ (List.mem_of_getElem? hg) _ (List.mem_of_getElem? hh)
                  simp only at hap
                  obtain ⟨ad4, e4, k4⟩ := at_all (Kd.C_below HC4.out HBQ.out) (by omega)
                  obtain ⟨ad5, e5, k5⟩ := at_all (Kd.C_below HC5.out HBQ.out) (by omega)
                  obtain ⟨ad6, e6, k6⟩ := at_all (Kd.C_below HC6.out HBQ.out) (by omega)
                  subst e4 e5 e6
                  have START := Lib.hid (show Five wr (ad6.add p) (ad6.add q) (ad5.add p) (ad4.add p) (ad4.add q) ge he gm gc hc wr from ⟨⟨k6 p hlp _ hg, k6 q hlq _ hh, k5 p hlp _ hg, k4 p hlp _ hg, k4 q hlq _ hh⟩, Below.refl _ _⟩)
                  have HLQ := Lib.hid hlq
                  clear k4 k5 k6 hg hh
                  by_cases e1 : ge = he
                  · have e1b : (ge == he) = true := by rw [e1]; exact beq_self_eq_true he
                    by_cases e2 : gm = 2
                    · have e2b : (gm == 2) = true := by rw [e2]; rfl
                      have e3 := hap e1 e2
                      have e3b : (gc != hc) = false := by rw [e3]; exact bne_self_eq_false hc
                      clear e1 e2 e3 hap
                      go_wp2_with fail
                      refine start_ (n := 27) (S := (fun w' => Five wr (ad6.add p) (ad6.add q) (ad5.add p) (ad4.add p) (ad4.add q) ge he gm gc hc w')) (ds := []) #[false, false, false, false, false, false, false, false, false, false, false, false, false, false, false, false, false, false, false, false, false, false, false, false, false, false, false] (by kernel_rfl) rfl rfl (START.out.drew) (fun hHeld => ?_)
                      refine pure_ (i := 0) (N := some 170) (v := ?_) (a' := ?_) #[true, false, false, false, false, false, false, false, false, false, false, false, false, false, false, false, false, false, false, false, false, false, false, false, false, false, false] rfl rfl (by kernel_rfl) (fun _ _ _ h => h) (Or.inl ⟨by rfl, ?_⟩) ?_ ?_
                      rotate_left
                      · intro w'
                        go_simp
                        with_reducible rfl
                      rotate_left
                      · simp only [Act.put, List.setIfInBounds_toArray, List.set_cons_zero, List.set_cons_succ, i64_w, i32_w]
                        rfl
                      refine pure_ (i := 1) (N := some 171) (v := ?_) (a' := ?_) #[true, true, false, false, false, false, false, false, false, false, false, false, false, false, false, false, false, false, false, false, false, false, false, false, false, false, false] rfl rfl (by kernel_rfl) (fun _ _ _ h => h) (Or.inl ⟨by rfl, ?_⟩) ?_ ?_
                      rotate_left
                      · intro w'
                        go_simp
                        with_reducible rfl
                      rotate_left
                      · simp only [Act.put, List.setIfInBounds_toArray, List.set_cons_zero, List.set_cons_succ, i64_w, i32_w]
                        rfl
                      refine pure_ (i := 2) (N := some 172) (v := ?_) (a' := ?_) #[true, true, true, false, false, false, false, false, false, false, false, false, false, false, false, false, false, false, false, false, false, false, false, false, false, false, false] rfl rfl (by kernel_rfl) (fun _ _ _ h => h) (Or.inl ⟨by rfl, ?_⟩) ?_ ?_
                      rotate_left
                      · intro w'
                        go_simp
                        with_reducible rfl
                      rotate_left
                      · simp only [Act.put, List.setIfInBounds_toArray, List.set_cons_zero, List.set_cons_succ, i64_w, i32_w]
                        rfl
                      refine take_ (i := 3) (N := some 173) (v := ?_) (a' := ?_) #[true, true, true, true, false, false, false, false, false, false, false, false, false, false, false, false, false, false, false, false, false, false, false, false, false, false, false] rfl rfl (by kernel_rfl) (fun _ _ _ h => h) (Or.inl ⟨by rfl, ?_⟩) hHeld ?_ ?_
                      rotate_left
                      · rintro w' ⟨⟨s0, s1, s2, s3, s4⟩, s5⟩
                        go_simp
                        with_reducible rfl
                      rotate_left
                      · simp only [Act.put, List.setIfInBounds_toArray, List.set_cons_zero, List.set_cons_succ, i64_w, i32_w]
                        rfl
                      refine pure_ (i := 4) (N := some 174) (v := ?_) (a' := ?_) #[true, true, true, true, true, false, false, false, false, false, false, false, false, false, false, false, false, false, false, false, false, false, false, false, false, false, false] rfl rfl (by kernel_rfl) (fun _ _ _ h => h) (Or.inl ⟨by rfl, ?_⟩) ?_ ?_
                      rotate_left
                      · intro w'
                        go_simp
                        with_reducible rfl
                      rotate_left
                      · simp only [Act.put, List.setIfInBounds_toArray, List.set_cons_zero, List.set_cons_succ, i64_w, i32_w]
                        rfl
                      refine pure_ (i := 5) (N := some 175) (v := ?_) (a' := ?_) #[true, true, true, true, true, true, false, false, false, false, false, false, false, false, false, false, false, false, false, false, false, false, false, false, false, false, false] rfl rfl (by kernel_rfl) (fun _ _ _ h => h) (Or.inl ⟨by rfl, ?_⟩) ?_ ?_
                      rotate_left
                      · intro w'
                        go_simp
                        with_reducible rfl
                      rotate_left
                      · simp only [Act.put, List.setIfInBounds_toArray, List.set_cons_zero, List.set_cons_succ, i64_w, i32_w]
                        rfl
                      refine pure_ (i := 6) (N := some 176) (v := ?_) (a' := ?_) #[true, true, true, true, true, true, true, false, false, false, false, false, false, false, false, false, false, false, false, false, false, false, false, false, false, false, false] rfl rfl (by kernel_rfl) (fun _ _ _ h => h) (Or.inl ⟨by rfl, ?_⟩) ?_ ?_
                      rotate_left
                      · intro w'
                        go_simp
                        with_reducible rfl
                      rotate_left
                      · simp only [Act.put, List.setIfInBounds_toArray, List.set_cons_zero, List.set_cons_succ, i64_w, i32_w]
                        rfl
                      refine take_ (i := 7) (N := some 177) (v := ?_) (a' := ?_) #[true, true, true, true, true, true, true, true, false, false, false, false, false, false, false, false, false, false, false, false, false, false, false, false, false, false, false] rfl rfl (by kernel_rfl) (fun _ _ _ h => h) (Or.inl ⟨by rfl, ?_⟩) hHeld ?_ ?_
                      rotate_left
                      · rintro w' ⟨⟨s0, s1, s2, s3, s4⟩, s5⟩
                        go_simp
                        with_reducible rfl
                      rotate_left
                      · simp only [Act.put, List.setIfInBounds_toArray, List.set_cons_zero, List.set_cons_succ, i64_w, i32_w]
                        rfl
                      refine pure_ (i := 8) (N := some 178) (v := ?_) (a' := ?_) #[true, true, true, true, true, true, true, true, true, false, false, false, false, false, false, false, false, false, false, false, false, false, false, false, false, false, false] rfl rfl (by kernel_rfl) (fun _ _ _ h => h) (Or.inl ⟨by rfl, ?_⟩) ?_ ?_
                      rotate_left
                      · intro w'
                        go_simp
                        with_reducible rfl
                      rotate_left
                      · simp only [Act.put, List.setIfInBounds_toArray, List.set_cons_zero, List.set_cons_succ, i64_w, i32_w]
                        rfl
                      refine pure_ (i := 9) (N := some 179) (v := ?_) (a' := ?_) #[true, true, true, true, true, true, true, true, true, true, false, false, false, false, false, false, false, false, false, false, false, false, false, false, false, false, false] rfl rfl (by kernel_rfl) (fun _ _ _ h => h) (Or.inl ⟨by rfl, ?_⟩) ?_ ?_
                      rotate_left
                      · intro w'
                        go_simp
                        with_reducible rfl
                      rotate_left
                      · simp only [Act.put, List.setIfInBounds_toArray, List.set_cons_zero, List.set_cons_succ, i64_w, i32_w]
                        rfl
                      refine pure_ (i := 10) (N := some 180) (v := ?_) (a' := ?_) #[true, true, true, true, true, true, true, true, true, true, true, false, false, false, false, false, false, false, false, false, false, false, false, false, false, false, false] rfl rfl (by kernel_rfl) (fun _ _ _ h => h) (Or.inl ⟨by rfl, ?_⟩) ?_ ?_
                      rotate_left
                      · intro w'
                        go_simp
                        with_reducible rfl
                      rotate_left
                      · simp only [Act.put, List.setIfInBounds_toArray, List.set_cons_zero, List.set_cons_succ, i64_w, i32_w]
                        rfl
                      refine pure_ (i := 11) (N := some 181) (v := ?_) (a' := ?_) #[true, true, true, true, true, true, true, true, true, true, true, true, false, false, false, false, false, false, false, false, false, false, false, false, false, false, false] rfl rfl (by kernel_rfl) (fun _ _ _ h => h) (Or.inl ⟨by rfl, ?_⟩) ?_ ?_
                      rotate_left
                      · intro w'
                        go_simp
                        with_reducible rfl
                      rotate_left
                      · simp only [Act.put, List.setIfInBounds_toArray, List.set_cons_zero, List.set_cons_succ, i64_w, i32_w]
                        rfl
                      refine pure_ (i := 12) (N := some 182) (v := ?_) (a' := ?_) #[true, true, true, true, true, true, true, true, true, true, true, true, true, false, false, false, false, false, false, false, false, false, false, false, false, false, false] rfl rfl (by kernel_rfl) (fun _ _ _ h => h) (Or.inl ⟨by rfl, ?_⟩) ?_ ?_
                      rotate_left
                      · intro w'
                        go_simp
                        with_reducible rfl
                      rotate_left
                      · simp only [Act.put, List.setIfInBounds_toArray, List.set_cons_zero, List.set_cons_succ, i64_w, i32_w]
                        rfl
                      refine take_ (i := 13) (N := some 183) (v := ?_) (a' := ?_) #[true, true, true, true, true, true, true, true, true, true, true, true, true, true, false, false, false, false, false, false, false, false, false, false, false, false, false] rfl rfl (by kernel_rfl) (fun _ _ _ h => h) (Or.inl ⟨by rfl, ?_⟩) hHeld ?_ ?_
                      rotate_left
                      · rintro w' ⟨⟨s0, s1, s2, s3, s4⟩, s5⟩
                        go_simp
                        with_reducible rfl
                      rotate_left
                      · simp only [Act.put, List.setIfInBounds_toArray, List.set_cons_zero, List.set_cons_succ, i64_w, i32_w]
                        rfl
                      refine pure_ (i := 14) (N := some 184) (v := ?_) (a' := ?_) #[true, true, true, true, true, true, true, true, true, true, true, true, true, true, true, false, false, false, false, false, false, false, false, false, false, false, false] rfl rfl (by kernel_rfl) (fun _ _ _ h => h) (Or.inl ⟨by rfl, ?_⟩) ?_ ?_
                      rotate_left
                      · intro w'
                        go_simp
                        with_reducible rfl
                      rotate_left
                      · simp only [Act.put, List.setIfInBounds_toArray, List.set_cons_zero, List.set_cons_succ, i64_w, i32_w]
                        rfl
                      refine pure_ (i := 15) (N := some 185) (v := ?_) (a' := ?_) #[true, true, true, true, true, true, true, true, true, true, true, true, true, true, true, true, false, false, false, false, false, false, false, false, false, false, false] rfl rfl (by kernel_rfl) (fun _ _ _ h => h) (Or.inl ⟨by rfl, ?_⟩) ?_ ?_
                      rotate_left
                      · intro w'
                        go_simp
                        with_reducible rfl
                      rotate_left
                      · simp only [Act.put, List.setIfInBounds_toArray, List.set_cons_zero, List.set_cons_succ, i64_w, i32_w]
                        rfl
                      refine pure_ (i := 16) (N := some 186) (v := ?_) (a' := ?_) #[true, true, true, true, true, true, true, true, true, true, true, true, true, true, true, true, true, false, false, false, false, false, false, false, false, false, false] rfl rfl (by kernel_rfl) (fun _ _ _ h => h) (Or.inl ⟨by rfl, ?_⟩) ?_ ?_
                      rotate_left
                      · intro w'
                        go_simp
                        with_reducible rfl
                      rotate_left
                      · simp only [Act.put, List.setIfInBounds_toArray, List.set_cons_zero, List.set_cons_succ, i64_w, i32_w]
                        rfl
                      refine pure_ (i := 17) (N := some 187) (v := ?_) (a' := ?_) #[true, true, true, true, true, true, true, true, true, true, true, true, true, true, true, true, true, true, false, false, false, false, false, false, false, false, false] rfl rfl (by kernel_rfl) (fun _ _ _ h => h) (Or.inl ⟨by rfl, ?_⟩) ?_ ?_
                      rotate_left
                      · intro w'
                        go_simp
                        with_reducible rfl
                      rotate_left
                      · simp only [Act.put, List.setIfInBounds_toArray, List.set_cons_zero, List.set_cons_succ, i64_w, i32_w]
                        rfl
                      refine pure_ (i := 18) (N := some 188) (v := ?_) (a' := ?_) #[true, true, true, true, true, true, true, true, true, true, true, true, true, true, true, true, true, true, true, false, false, false, false, false, false, false, false] rfl rfl (by kernel_rfl) (fun _ _ _ h => h) (Or.inl ⟨by rfl, ?_⟩) ?_ ?_
                      rotate_left
                      · intro w'
                        go_simp
                        with_reducible rfl
                      rotate_left
                      · simp only [Act.put, List.setIfInBounds_toArray, List.set_cons_zero, List.set_cons_succ, i64_w, i32_w]
                        rfl
                      refine pure_ (i := 19) (N := some 189) (v := ?_) (a' := ?_) #[true, true, true, true, true, true, true, true, true, true, true, true, true, true, true, true, true, true, true, true, false, false, false, false, false, false, false] rfl rfl (by kernel_rfl) (fun _ _ _ h => h) (Or.inl ⟨by rfl, ?_⟩) ?_ ?_
                      rotate_left
                      · intro w'
                        go_simp
                        with_reducible rfl
                      rotate_left
                      · simp only [Act.put, List.setIfInBounds_toArray, List.set_cons_zero, List.set_cons_succ, i64_w, i32_w]
                        rfl
                      refine take_ (i := 20) (N := some 190) (v := ?_) (a' := ?_) #[true, true, true, true, true, true, true, true, true, true, true, true, true, true, true, true, true, true, true, true, true, false, false, false, false, false, false] rfl rfl (by kernel_rfl) (fun _ _ _ h => h) (Or.inl ⟨by rfl, ?_⟩) hHeld ?_ ?_
                      rotate_left
                      · rintro w' ⟨⟨s0, s1, s2, s3, s4⟩, s5⟩
                        go_simp
                        with_reducible rfl
                      rotate_left
                      · simp only [Act.put, List.setIfInBounds_toArray, List.set_cons_zero, List.set_cons_succ, i64_w, i32_w]
                        rfl
                      refine pure_ (i := 21) (N := some 191) (v := ?_) (a' := ?_) #[true, true, true, true, true, true, true, true, true, true, true, true, true, true, true, true, true, true, true, true, true, true, false, false, false, false, false] rfl rfl (by kernel_rfl) (fun _ _ _ h => h) (Or.inl ⟨by rfl, ?_⟩) ?_ ?_
                      rotate_left
                      · intro w'
                        go_simp
                        with_reducible rfl
                      rotate_left
                      · simp only [Act.put, List.setIfInBounds_toArray, List.set_cons_zero, List.set_cons_succ, i64_w, i32_w]
                        rfl
                      refine pure_ (i := 22) (N := some 192) (v := ?_) (a' := ?_) #[true, true, true, true, true, true, true, true, true, true, true, true, true, true, true, true, true, true, true, true, true, true, true, false, false, false, false] rfl rfl (by kernel_rfl) (fun _ _ _ h => h) (Or.inl ⟨by rfl, ?_⟩) ?_ ?_
                      rotate_left
                      · intro w'
                        go_simp
                        with_reducible rfl
                      rotate_left
                      · simp only [Act.put, List.setIfInBounds_toArray, List.set_cons_zero, List.set_cons_succ, i64_w, i32_w]
                        rfl
                      refine pure_ (i := 23) (N := some 193) (v := ?_) (a' := ?_) #[true, true, true, true, true, true, true, true, true, true, true, true, true, true, true, true, true, true, true, true, true, true, true, true, false, false, false] rfl rfl (by kernel_rfl) (fun _ _ _ h => h) (Or.inl ⟨by rfl, ?_⟩) ?_ ?_
                      rotate_left
                      · intro w'
                        go_simp
                        with_reducible rfl
                      rotate_left
                      · simp only [Act.put, List.setIfInBounds_toArray, List.set_cons_zero, List.set_cons_succ, i64_w, i32_w]
                        rfl
                      refine take_ (i := 24) (N := some 194) (v := ?_) (a' := ?_) #[true, true, true, true, true, true, true, true, true, true, true, true, true, true, true, true, true, true, true, true, true, true, true, true, true, false, false] rfl rfl (by kernel_rfl) (fun _ _ _ h => h) (Or.inl ⟨by rfl, ?_⟩) hHeld ?_ ?_
                      rotate_left
                      · rintro w' ⟨⟨s0, s1, s2, s3, s4⟩, s5⟩
                        go_simp
                        with_reducible rfl
                      rotate_left
                      · simp only [Act.put, List.setIfInBounds_toArray, List.set_cons_zero, List.set_cons_succ, i64_w, i32_w]
                        rfl
                      refine pure_ (i := 25) (N := some 195) (v := ?_) (a' := ?_) #[true, true, true, true, true, true, true, true, true, true, true, true, true, true, true, true, true, true, true, true, true, true, true, true, true, true, false] rfl rfl (by kernel_rfl) (fun _ _ _ h => h) (Or.inl ⟨by rfl, ?_⟩) ?_ ?_
                      rotate_left
                      · intro w'
                        go_simp
                        with_reducible rfl
                      rotate_left
                      · simp only [Act.put, List.setIfInBounds_toArray, List.set_cons_zero, List.set_cons_succ, i64_w, i32_w]
                        rfl
                      refine pure_ (i := 26) (N := some 196) (v := ?_) (a' := ?_) #[true, true, true, true, true, true, true, true, true, true, true, true, true, true, true, true, true, true, true, true, true, true, true, true, true, true, true] rfl rfl (by kernel_rfl) (fun _ _ _ h => h) (Or.inl ⟨by rfl, ?_⟩) ?_ ?_
                      rotate_left
                      · intro w'
                        go_simp
                        with_reducible rfl
                      rotate_left
                      · simp only [Act.put, List.setIfInBounds_toArray, List.set_cons_zero, List.set_cons_succ, i64_w, i32_w]
                        rfl
                      refine done_ (by kernel_rfl) ?_
                      have HF := Lib.hid (HBQ.out.trans (hHeld.2.mono HBQ.out.size))
                      clear hHeld
                      go_wp2
                      go_roundg (gs.length - (q + 1))
                      case measure => have := HLQ.out; omega
                      case rel => exact ⟨q + 1, by simp, HLQ.out, by omega, HF⟩
                    · have e2b : (gm == 2) = false := beq_eq_false_iff_ne.2 e2
                      clear e1 e2 hap
                      go_wp2_with fail
                      refine start_ (n := 27) (S := (fun w' => Five wr (ad6.add p) (ad6.add q) (ad5.add p) (ad4.add p) (ad4.add q) ge he gm gc hc w')) (ds := []) #[false, false, false, false, false, false, false, false, false, false, false, false, false, false, false, false, false, false, false, false, false, false, false, false, false, false, false] (by kernel_rfl) rfl rfl (START.out.drew) (fun hHeld => ?_)
                      refine pure_ (i := 0) (N := some 170) (v := ?_) (a' := ?_) #[true, false, false, false, false, false, false, false, false, false, false, false, false, false, false, false, false, false, false, false, false, false, false, false, false, false, false] rfl rfl (by kernel_rfl) (fun _ _ _ h => h) (Or.inl ⟨by rfl, ?_⟩) ?_ ?_
                      rotate_left
                      · intro w'
                        go_simp
                        with_reducible rfl
                      rotate_left
                      · simp only [Act.put, List.setIfInBounds_toArray, List.set_cons_zero, List.set_cons_succ, i64_w, i32_w]
                        rfl
                      refine pure_ (i := 1) (N := some 171) (v := ?_) (a' := ?_) #[true, true, false, false, false, false, false, false, false, false, false, false, false, false, false, false, false, false, false, false, false, false, false, false, false, false, false] rfl rfl (by kernel_rfl) (fun _ _ _ h => h) (Or.inl ⟨by rfl, ?_⟩) ?_ ?_
                      rotate_left
                      · intro w'
                        go_simp
                        with_reducible rfl
                      rotate_left
                      · simp only [Act.put, List.setIfInBounds_toArray, List.set_cons_zero, List.set_cons_succ, i64_w, i32_w]
                        rfl
                      refine pure_ (i := 2) (N := some 172) (v := ?_) (a' := ?_) #[true, true, true, false, false, false, false, false, false, false, false, false, false, false, false, false, false, false, false, false, false, false, false, false, false, false, false] rfl rfl (by kernel_rfl) (fun _ _ _ h => h) (Or.inl ⟨by rfl, ?_⟩) ?_ ?_
                      rotate_left
                      · intro w'
                        go_simp
                        with_reducible rfl
                      rotate_left
                      · simp only [Act.put, List.setIfInBounds_toArray, List.set_cons_zero, List.set_cons_succ, i64_w, i32_w]
                        rfl
                      refine take_ (i := 3) (N := some 173) (v := ?_) (a' := ?_) #[true, true, true, true, false, false, false, false, false, false, false, false, false, false, false, false, false, false, false, false, false, false, false, false, false, false, false] rfl rfl (by kernel_rfl) (fun _ _ _ h => h) (Or.inl ⟨by rfl, ?_⟩) hHeld ?_ ?_
                      rotate_left
                      · rintro w' ⟨⟨s0, s1, s2, s3, s4⟩, s5⟩
                        go_simp
                        with_reducible rfl
                      rotate_left
                      · simp only [Act.put, List.setIfInBounds_toArray, List.set_cons_zero, List.set_cons_succ, i64_w, i32_w]
                        rfl
                      refine pure_ (i := 4) (N := some 174) (v := ?_) (a' := ?_) #[true, true, true, true, true, false, false, false, false, false, false, false, false, false, false, false, false, false, false, false, false, false, false, false, false, false, false] rfl rfl (by kernel_rfl) (fun _ _ _ h => h) (Or.inl ⟨by rfl, ?_⟩) ?_ ?_
                      rotate_left
                      · intro w'
                        go_simp
                        with_reducible rfl
                      rotate_left
                      · simp only [Act.put, List.setIfInBounds_toArray, List.set_cons_zero, List.set_cons_succ, i64_w, i32_w]
                        rfl
                      refine pure_ (i := 5) (N := some 175) (v := ?_) (a' := ?_) #[true, true, true, true, true, true, false, false, false, false, false, false, false, false, false, false, false, false, false, false, false, false, false, false, false, false, false] rfl rfl (by kernel_rfl) (fun _ _ _ h => h) (Or.inl ⟨by rfl, ?_⟩) ?_ ?_
                      rotate_left
                      · intro w'
                        go_simp
                        with_reducible rfl
                      rotate_left
                      · simp only [Act.put, List.setIfInBounds_toArray, List.set_cons_zero, List.set_cons_succ, i64_w, i32_w]
                        rfl
                      refine pure_ (i := 6) (N := some 176) (v := ?_) (a' := ?_) #[true, true, true, true, true, true, true, false, false, false, false, false, false, false, false, false, false, false, false, false, false, false, false, false, false, false, false] rfl rfl (by kernel_rfl) (fun _ _ _ h => h) (Or.inl ⟨by rfl, ?_⟩) ?_ ?_
                      rotate_left
                      · intro w'
                        go_simp
                        with_reducible rfl
                      rotate_left
                      · simp only [Act.put, List.setIfInBounds_toArray, List.set_cons_zero, List.set_cons_succ, i64_w, i32_w]
                        rfl
                      refine take_ (i := 7) (N := some 177) (v := ?_) (a' := ?_) #[true, true, true, true, true, true, true, true, false, false, false, false, false, false, false, false, false, false, false, false, false, false, false, false, false, false, false] rfl rfl (by kernel_rfl) (fun _ _ _ h => h) (Or.inl ⟨by rfl, ?_⟩) hHeld ?_ ?_
                      rotate_left
                      · rintro w' ⟨⟨s0, s1, s2, s3, s4⟩, s5⟩
                        go_simp
                        with_reducible rfl
                      rotate_left
                      · simp only [Act.put, List.setIfInBounds_toArray, List.set_cons_zero, List.set_cons_succ, i64_w, i32_w]
                        rfl
                      refine pure_ (i := 8) (N := some 178) (v := ?_) (a' := ?_) #[true, true, true, true, true, true, true, true, true, false, false, false, false, false, false, false, false, false, false, false, false, false, false, false, false, false, false] rfl rfl (by kernel_rfl) (fun _ _ _ h => h) (Or.inl ⟨by rfl, ?_⟩) ?_ ?_
                      rotate_left
                      · intro w'
                        go_simp
                        with_reducible rfl
                      rotate_left
                      · simp only [Act.put, List.setIfInBounds_toArray, List.set_cons_zero, List.set_cons_succ, i64_w, i32_w]
                        rfl
                      refine pure_ (i := 9) (N := some 179) (v := ?_) (a' := ?_) #[true, true, true, true, true, true, true, true, true, true, false, false, false, false, false, false, false, false, false, false, false, false, false, false, false, false, false] rfl rfl (by kernel_rfl) (fun _ _ _ h => h) (Or.inl ⟨by rfl, ?_⟩) ?_ ?_
                      rotate_left
                      · intro w'
                        go_simp
                        with_reducible rfl
                      rotate_left
                      · simp only [Act.put, List.setIfInBounds_toArray, List.set_cons_zero, List.set_cons_succ, i64_w, i32_w]
                        rfl
                      refine pure_ (i := 10) (N := some 180) (v := ?_) (a' := ?_) #[true, true, true, true, true, true, true, true, true, true, true, false, false, false, false, false, false, false, false, false, false, false, false, false, false, false, false] rfl rfl (by kernel_rfl) (fun _ _ _ h => h) (Or.inl ⟨by rfl, ?_⟩) ?_ ?_
                      rotate_left
                      · intro w'
                        go_simp
                        with_reducible rfl
                      rotate_left
                      · simp only [Act.put, List.setIfInBounds_toArray, List.set_cons_zero, List.set_cons_succ, i64_w, i32_w]
                        rfl
                      refine pure_ (i := 11) (N := some 181) (v := ?_) (a' := ?_) #[true, true, true, true, true, true, true, true, true, true, true, true, false, false, false, false, false, false, false, false, false, false, false, false, false, false, false] rfl rfl (by kernel_rfl) (fun _ _ _ h => h) (Or.inl ⟨by rfl, ?_⟩) ?_ ?_
                      rotate_left
                      · intro w'
                        go_simp
                        with_reducible rfl
                      rotate_left
                      · simp only [Act.put, List.setIfInBounds_toArray, List.set_cons_zero, List.set_cons_succ, i64_w, i32_w]
                        rfl
                      refine pure_ (i := 12) (N := some 182) (v := ?_) (a' := ?_) #[true, true, true, true, true, true, true, true, true, true, true, true, true, false, false, false, false, false, false, false, false, false, false, false, false, false, false] rfl rfl (by kernel_rfl) (fun _ _ _ h => h) (Or.inl ⟨by rfl, ?_⟩) ?_ ?_
                      rotate_left
                      · intro w'
                        go_simp
                        with_reducible rfl
                      rotate_left
                      · simp only [Act.put, List.setIfInBounds_toArray, List.set_cons_zero, List.set_cons_succ, i64_w, i32_w]
                        rfl
                      refine take_ (i := 13) (N := some 183) (v := ?_) (a' := ?_) #[true, true, true, true, true, true, true, true, true, true, true, true, true, true, false, false, false, false, false, false, false, false, false, false, false, false, false] rfl rfl (by kernel_rfl) (fun _ _ _ h => h) (Or.inl ⟨by rfl, ?_⟩) hHeld ?_ ?_
                      rotate_left
                      · rintro w' ⟨⟨s0, s1, s2, s3, s4⟩, s5⟩
                        go_simp
                        with_reducible rfl
                      rotate_left
                      · simp only [Act.put, List.setIfInBounds_toArray, List.set_cons_zero, List.set_cons_succ, i64_w, i32_w]
                        rfl
                      refine pure_ (i := 14) (N := some 184) (v := ?_) (a' := ?_) #[true, true, true, true, true, true, true, true, true, true, true, true, true, true, true, false, false, false, false, false, false, false, false, false, false, false, false] rfl rfl (by kernel_rfl) (fun _ _ _ h => h) (Or.inl ⟨by rfl, ?_⟩) ?_ ?_
                      rotate_left
                      · intro w'
                        go_simp
                        with_reducible rfl
                      rotate_left
                      · simp only [Act.put, List.setIfInBounds_toArray, List.set_cons_zero, List.set_cons_succ, i64_w, i32_w]
                        rfl
                      refine pure_ (i := 15) (N := some 185) (v := ?_) (a' := ?_) #[true, true, true, true, true, true, true, true, true, true, true, true, true, true, true, true, false, false, false, false, false, false, false, false, false, false, false] rfl rfl (by kernel_rfl) (fun _ _ _ h => h) (Or.inl ⟨by rfl, ?_⟩) ?_ ?_
                      rotate_left
                      · intro w'
                        go_simp
                        with_reducible rfl
                      rotate_left
                      · simp only [Act.put, List.setIfInBounds_toArray, List.set_cons_zero, List.set_cons_succ, i64_w, i32_w]
                        rfl
                      refine pure_ (i := 16) (N := some 186) (v := ?_) (a' := ?_) #[true, true, true, true, true, true, true, true, true, true, true, true, true, true, true, true, true, false, false, false, false, false, false, false, false, false, false] rfl rfl (by kernel_rfl) (fun _ _ _ h => h) (Or.inl ⟨by rfl, ?_⟩) ?_ ?_
                      rotate_left
                      · intro w'
                        go_simp
                        with_reducible rfl
                      rotate_left
                      · simp only [Act.put, List.setIfInBounds_toArray, List.set_cons_zero, List.set_cons_succ, i64_w, i32_w]
                        rfl
                      refine pure_ (i := 17) (N := some 187) (v := undef) (a' := ?_) #[true, true, true, true, true, true, true, true, true, true, true, true, true, true, true, true, true, true, false, false, false, false, false, false, false, false, false] rfl rfl (by kernel_rfl) (fun _ _ _ h => h) (Or.inr ⟨by rfl, rfl⟩) ?_ ?_
                      rotate_left
                      · simp only [Act.put, List.setIfInBounds_toArray, List.set_cons_zero, List.set_cons_succ, i64_w, i32_w]
                        rfl
                      refine pure_ (i := 18) (N := some 188) (v := undef) (a' := ?_) #[true, true, true, true, true, true, true, true, true, true, true, true, true, true, true, true, true, true, true, false, false, false, false, false, false, false, false] rfl rfl (by kernel_rfl) (fun _ _ _ h => h) (Or.inr ⟨by rfl, rfl⟩) ?_ ?_
                      rotate_left
                      · simp only [Act.put, List.setIfInBounds_toArray, List.set_cons_zero, List.set_cons_succ, i64_w, i32_w]
                        rfl
                      refine pure_ (i := 19) (N := some 189) (v := undef) (a' := ?_) #[true, true, true, true, true, true, true, true, true, true, true, true, true, true, true, true, true, true, true, true, false, false, false, false, false, false, false] rfl rfl (by kernel_rfl) (fun _ _ _ h => h) (Or.inr ⟨by rfl, rfl⟩) ?_ ?_
                      rotate_left
                      · simp only [Act.put, List.setIfInBounds_toArray, List.set_cons_zero, List.set_cons_succ, i64_w, i32_w]
                        rfl
                      refine pure_ (i := 20) (N := some 190) (v := undef) (a' := ?_) #[true, true, true, true, true, true, true, true, true, true, true, true, true, true, true, true, true, true, true, true, true, false, false, false, false, false, false] rfl rfl (by kernel_rfl) (fun _ _ _ h => h) (Or.inr ⟨by rfl, rfl⟩) ?_ ?_
                      rotate_left
                      · simp only [Act.put, List.setIfInBounds_toArray, List.set_cons_zero, List.set_cons_succ, i64_w, i32_w]
                        rfl
                      refine pure_ (i := 21) (N := some 191) (v := undef) (a' := ?_) #[true, true, true, true, true, true, true, true, true, true, true, true, true, true, true, true, true, true, true, true, true, true, false, false, false, false, false] rfl rfl (by kernel_rfl) (fun _ _ _ h => h) (Or.inr ⟨by rfl, rfl⟩) ?_ ?_
                      rotate_left
                      · simp only [Act.put, List.setIfInBounds_toArray, List.set_cons_zero, List.set_cons_succ, i64_w, i32_w]
                        rfl
                      refine pure_ (i := 22) (N := some 192) (v := undef) (a' := ?_) #[true, true, true, true, true, true, true, true, true, true, true, true, true, true, true, true, true, true, true, true, true, true, true, false, false, false, false] rfl rfl (by kernel_rfl) (fun _ _ _ h => h) (Or.inr ⟨by rfl, rfl⟩) ?_ ?_
                      rotate_left
                      · simp only [Act.put, List.setIfInBounds_toArray, List.set_cons_zero, List.set_cons_succ, i64_w, i32_w]
                        rfl
                      refine pure_ (i := 23) (N := some 193) (v := undef) (a' := ?_) #[true, true, true, true, true, true, true, true, true, true, true, true, true, true, true, true, true, true, true, true, true, true, true, true, false, false, false] rfl rfl (by kernel_rfl) (fun _ _ _ h => h) (Or.inr ⟨by rfl, rfl⟩) ?_ ?_
                      rotate_left
                      · simp only [Act.put, List.setIfInBounds_toArray, List.set_cons_zero, List.set_cons_succ, i64_w, i32_w]
                        rfl
                      refine pure_ (i := 24) (N := some 194) (v := undef) (a' := ?_) #[true, true, true, true, true, true, true, true, true, true, true, true, true, true, true, true, true, true, true, true, true, true, true, true, true, false, false] rfl rfl (by kernel_rfl) (fun _ _ _ h => h) (Or.inr ⟨by rfl, rfl⟩) ?_ ?_
                      rotate_left
                      · simp only [Act.put, List.setIfInBounds_toArray, List.set_cons_zero, List.set_cons_succ, i64_w, i32_w]
                        rfl
                      refine pure_ (i := 25) (N := some 195) (v := undef) (a' := ?_) #[true, true, true, true, true, true, true, true, true, true, true, true, true, true, true, true, true, true, true, true, true, true, true, true, true, true, false] rfl rfl (by kernel_rfl) (fun _ _ _ h => h) (Or.inr ⟨by rfl, rfl⟩) ?_ ?_
                      rotate_left
                      · simp only [Act.put, List.setIfInBounds_toArray, List.set_cons_zero, List.set_cons_succ, i64_w, i32_w]
                        rfl
                      refine pure_ (i := 26) (N := some 196) (v := ?_) (a' := ?_) #[true, true, true, true, true, true, true, true, true, true, true, true, true, true, true, true, true, true, true, true, true, true, true, true, true, true, true] rfl rfl (by kernel_rfl) (fun _ _ _ h => h) (Or.inl ⟨by rfl, ?_⟩) ?_ ?_
                      rotate_left
                      · intro w'
                        go_simp
                        with_reducible rfl
                      rotate_left
                      · simp only [Act.put, List.setIfInBounds_toArray, List.set_cons_zero, List.set_cons_succ, i64_w, i32_w]
                        rfl
                      refine done_ (by kernel_rfl) ?_
                      have HF := Lib.hid (HBQ.out.trans (hHeld.2.mono HBQ.out.size))
                      clear hHeld
                      go_wp2
                      go_roundg (gs.length - (q + 1))
                      case measure => have := HLQ.out; omega
                      case rel => exact ⟨q + 1, by simp, HLQ.out, by omega, HF⟩
                  · have e1b : (ge == he) = false := beq_eq_false_iff_ne.2 e1
                    clear e1 hap
                    go_wp2_with fail
                    refine start_ (n := 27) (S := (fun w' => Five wr (ad6.add p) (ad6.add q) (ad5.add p) (ad4.add p) (ad4.add q) ge he gm gc hc w')) (ds := []) #[false, false, false, false, false, false, false, false, false, false, false, false, false, false, false, false, false, false, false, false, false, false, false, false, false, false, false] (by kernel_rfl) rfl rfl (START.out.drew) (fun hHeld => ?_)
                    refine pure_ (i := 0) (N := some 170) (v := ?_) (a' := ?_) #[true, false, false, false, false, false, false, false, false, false, false, false, false, false, false, false, false, false, false, false, false, false, false, false, false, false, false] rfl rfl (by kernel_rfl) (fun _ _ _ h => h) (Or.inl ⟨by rfl, ?_⟩) ?_ ?_
                    rotate_left
                    · intro w'
                      go_simp
                      with_reducible rfl
                    rotate_left
                    · simp only [Act.put, List.setIfInBounds_toArray, List.set_cons_zero, List.set_cons_succ, i64_w, i32_w]
                      rfl
                    refine pure_ (i := 1) (N := some 171) (v := ?_) (a' := ?_) #[true, true, false, false, false, false, false, false, false, false, false, false, false, false, false, false, false, false, false, false, false, false, false, false, false, false, false] rfl rfl (by kernel_rfl) (fun _ _ _ h => h) (Or.inl ⟨by rfl, ?_⟩) ?_ ?_
                    rotate_left
                    · intro w'
                      go_simp
                      with_reducible rfl
                    rotate_left
                    · simp only [Act.put, List.setIfInBounds_toArray, List.set_cons_zero, List.set_cons_succ, i64_w, i32_w]
                      rfl
                    refine pure_ (i := 2) (N := some 172) (v := ?_) (a' := ?_) #[true, true, true, false, false, false, false, false, false, false, false, false, false, false, false, false, false, false, false, false, false, false, false, false, false, false, false] rfl rfl (by kernel_rfl) (fun _ _ _ h => h) (Or.inl ⟨by rfl, ?_⟩) ?_ ?_
                    rotate_left
                    · intro w'
                      go_simp
                      with_reducible rfl
                    rotate_left
                    · simp only [Act.put, List.setIfInBounds_toArray, List.set_cons_zero, List.set_cons_succ, i64_w, i32_w]
                      rfl
                    refine take_ (i := 3) (N := some 173) (v := ?_) (a' := ?_) #[true, true, true, true, false, false, false, false, false, false, false, false, false, false, false, false, false, false, false, false, false, false, false, false, false, false, false] rfl rfl (by kernel_rfl) (fun _ _ _ h => h) (Or.inl ⟨by rfl, ?_⟩) hHeld ?_ ?_
                    rotate_left
                    · rintro w' ⟨⟨s0, s1, s2, s3, s4⟩, s5⟩
                      go_simp
                      with_reducible rfl
                    rotate_left
                    · simp only [Act.put, List.setIfInBounds_toArray, List.set_cons_zero, List.set_cons_succ, i64_w, i32_w]
                      rfl
                    refine pure_ (i := 4) (N := some 174) (v := ?_) (a' := ?_) #[true, true, true, true, true, false, false, false, false, false, false, false, false, false, false, false, false, false, false, false, false, false, false, false, false, false, false] rfl rfl (by kernel_rfl) (fun _ _ _ h => h) (Or.inl ⟨by rfl, ?_⟩) ?_ ?_
                    rotate_left
                    · intro w'
                      go_simp
                      with_reducible rfl
                    rotate_left
                    · simp only [Act.put, List.setIfInBounds_toArray, List.set_cons_zero, List.set_cons_succ, i64_w, i32_w]
                      rfl
                    refine pure_ (i := 5) (N := some 175) (v := ?_) (a' := ?_) #[true, true, true, true, true, true, false, false, false, false, false, false, false, false, false, false, false, false, false, false, false, false, false, false, false, false, false] rfl rfl (by kernel_rfl) (fun _ _ _ h => h) (Or.inl ⟨by rfl, ?_⟩) ?_ ?_
                    rotate_left
                    · intro w'
                      go_simp
                      with_reducible rfl
                    rotate_left
                    · simp only [Act.put, List.setIfInBounds_toArray, List.set_cons_zero, List.set_cons_succ, i64_w, i32_w]
                      rfl
                    refine pure_ (i := 6) (N := some 176) (v := ?_) (a' := ?_) #[true, true, true, true, true, true, true, false, false, false, false, false, false, false, false, false, false, false, false, false, false, false, false, false, false, false, false] rfl rfl (by kernel_rfl) (fun _ _ _ h => h) (Or.inl ⟨by rfl, ?_⟩) ?_ ?_
                    rotate_left
                    · intro w'
                      go_simp
                      with_reducible rfl
                    rotate_left
                    · simp only [Act.put, List.setIfInBounds_toArray, List.set_cons_zero, List.set_cons_succ, i64_w, i32_w]
                      rfl
                    refine take_ (i := 7) (N := some 177) (v := ?_) (a' := ?_) #[true, true, true, true, true, true, true, true, false, false, false, false, false, false, false, false, false, false, false, false, false, false, false, false, false, false, false] rfl rfl (by kernel_rfl) (fun _ _ _ h => h) (Or.inl ⟨by rfl, ?_⟩) hHeld ?_ ?_
                    rotate_left
                    · rintro w' ⟨⟨s0, s1, s2, s3, s4⟩, s5⟩
                      go_simp
                      with_reducible rfl
                    rotate_left
                    · simp only [Act.put, List.setIfInBounds_toArray, List.set_cons_zero, List.set_cons_succ, i64_w, i32_w]
                      rfl
                    refine pure_ (i := 8) (N := some 178) (v := ?_) (a' := ?_) #[true, true, true, true, true, true, true, true, true, false, false, false, false, false, false, false, false, false, false, false, false, false, false, false, false, false, false] rfl rfl (by kernel_rfl) (fun _ _ _ h => h) (Or.inl ⟨by rfl, ?_⟩) ?_ ?_
                    rotate_left
                    · intro w'
                      go_simp
                      with_reducible rfl
                    rotate_left
                    · simp only [Act.put, List.setIfInBounds_toArray, List.set_cons_zero, List.set_cons_succ, i64_w, i32_w]
                      rfl
                    refine pure_ (i := 9) (N := some 179) (v := ?_) (a' := ?_) #[true, true, true, true, true, true, true, true, true, true, false, false, false, false, false, false, false, false, false, false, false, false, false, false, false, false, false] rfl rfl (by kernel_rfl) (fun _ _ _ h => h) (Or.inl ⟨by rfl, ?_⟩) ?_ ?_
                    rotate_left
                    · intro w'
                      go_simp
                      with_reducible rfl
                    rotate_left
                    · simp only [Act.put, List.setIfInBounds_toArray, List.set_cons_zero, List.set_cons_succ, i64_w, i32_w]
                      rfl
                    refine pure_ (i := 10) (N := some 180) (v := undef) (a' := ?_) #[true, true, true, true, true, true, true, true, true, true, true, false, false, false, false, false, false, false, false, false, false, false, false, false, false, false, false] rfl rfl (by kernel_rfl) (fun _ _ _ h => h) (Or.inr ⟨by rfl, rfl⟩) ?_ ?_
                    rotate_left
                    · simp only [Act.put, List.setIfInBounds_toArray, List.set_cons_zero, List.set_cons_succ, i64_w, i32_w]
                      rfl
                    refine pure_ (i := 11) (N := some 181) (v := undef) (a' := ?_) #[true, true, true, true, true, true, true, true, true, true, true, true, false, false, false, false, false, false, false, false, false, false, false, false, false, false, false] rfl rfl (by kernel_rfl) (fun _ _ _ h => h) (Or.inr ⟨by rfl, rfl⟩) ?_ ?_
                    rotate_left
                    · simp only [Act.put, List.setIfInBounds_toArray, List.set_cons_zero, List.set_cons_succ, i64_w, i32_w]
                      rfl
                    refine pure_ (i := 12) (N := some 182) (v := undef) (a' := ?_) #[true, true, true, true, true, true, true, true, true, true, true, true, true, false, false, false, false, false, false, false, false, false, false, false, false, false, false] rfl rfl (by kernel_rfl) (fun _ _ _ h => h) (Or.inr ⟨by rfl, rfl⟩) ?_ ?_
                    rotate_left
                    · simp only [Act.put, List.setIfInBounds_toArray, List.set_cons_zero, List.set_cons_succ, i64_w, i32_w]
                      rfl
                    refine pure_ (i := 13) (N := some 183) (v := undef) (a' := ?_) #[true, true, true, true, true, true, true, true, true, true, true, true, true, true, false, false, false, false, false, false, false, false, false, false, false, false, false] rfl rfl (by kernel_rfl) (fun _ _ _ h => h) (Or.inr ⟨by rfl, rfl⟩) ?_ ?_
                    rotate_left
                    · simp only [Act.put, List.setIfInBounds_toArray, List.set_cons_zero, List.set_cons_succ, i64_w, i32_w]
                      rfl
                    refine pure_ (i := 14) (N := some 184) (v := undef) (a' := ?_) #[true, true, true, true, true, true, true, true, true, true, true, true, true, true, true, false, false, false, false, false, false, false, false, false, false, false, false] rfl rfl (by kernel_rfl) (fun _ _ _ h => h) (Or.inr ⟨by rfl, rfl⟩) ?_ ?_
                    rotate_left
                    · simp only [Act.put, List.setIfInBounds_toArray, List.set_cons_zero, List.set_cons_succ, i64_w, i32_w]
                      rfl
                    refine pure_ (i := 15) (N := some 185) (v := ?_) (a' := ?_) #[true, true, true, true, true, true, true, true, true, true, true, true, true, true, true, true, false, false, false, false, false, false, false, false, false, false, false] rfl rfl (by kernel_rfl) (fun _ _ _ h => h) (Or.inl ⟨by rfl, ?_⟩) ?_ ?_
                    rotate_left
                    · intro w'
                      go_simp
                      with_reducible rfl
                    rotate_left
                    · simp only [Act.put, List.setIfInBounds_toArray, List.set_cons_zero, List.set_cons_succ, i64_w, i32_w]
                      rfl
                    refine pure_ (i := 16) (N := some 186) (v := ?_) (a' := ?_) #[true, true, true, true, true, true, true, true, true, true, true, true, true, true, true, true, true, false, false, false, false, false, false, false, false, false, false] rfl rfl (by kernel_rfl) (fun _ _ _ h => h) (Or.inl ⟨by rfl, ?_⟩) ?_ ?_
                    rotate_left
                    · intro w'
                      go_simp
                      with_reducible rfl
                    rotate_left
                    · simp only [Act.put, List.setIfInBounds_toArray, List.set_cons_zero, List.set_cons_succ, i64_w, i32_w]
                      rfl
                    refine pure_ (i := 17) (N := some 187) (v := undef) (a' := ?_) #[true, true, true, true, true, true, true, true, true, true, true, true, true, true, true, true, true, true, false, false, false, false, false, false, false, false, false] rfl rfl (by kernel_rfl) (fun _ _ _ h => h) (Or.inr ⟨by rfl, rfl⟩) ?_ ?_
                    rotate_left
                    · simp only [Act.put, List.setIfInBounds_toArray, List.set_cons_zero, List.set_cons_succ, i64_w, i32_w]
                      rfl
                    refine pure_ (i := 18) (N := some 188) (v := undef) (a' := ?_) #[true, true, true, true, true, true, true, true, true, true, true, true, true, true, true, true, true, true, true, false, false, false, false, false, false, false, false] rfl rfl (by kernel_rfl) (fun _ _ _ h => h) (Or.inr ⟨by rfl, rfl⟩) ?_ ?_
                    rotate_left
                    · simp only [Act.put, List.setIfInBounds_toArray, List.set_cons_zero, List.set_cons_succ, i64_w, i32_w]
                      rfl
                    refine pure_ (i := 19) (N := some 189) (v := undef) (a' := ?_) #[true, true, true, true, true, true, true, true, true, true, true, true, true, true, true, true, true, true, true, true, false, false, false, false, false, false, false] rfl rfl (by kernel_rfl) (fun _ _ _ h => h) (Or.inr ⟨by rfl, rfl⟩) ?_ ?_
                    rotate_left
                    · simp only [Act.put, List.setIfInBounds_toArray, List.set_cons_zero, List.set_cons_succ, i64_w, i32_w]
                      rfl
                    refine pure_ (i := 20) (N := some 190) (v := undef) (a' := ?_) #[true, true, true, true, true, true, true, true, true, true, true, true, true, true, true, true, true, true, true, true, true, false, false, false, false, false, false] rfl rfl (by kernel_rfl) (fun _ _ _ h => h) (Or.inr ⟨by rfl, rfl⟩) ?_ ?_
                    rotate_left
                    · simp only [Act.put, List.setIfInBounds_toArray, List.set_cons_zero, List.set_cons_succ, i64_w, i32_w]
                      rfl
                    refine pure_ (i := 21) (N := some 191) (v := undef) (a' := ?_) #[true, true, true, true, true, true, true, true, true, true, true, true, true, true, true, true, true, true, true, true, true, true, false, false, false, false, false] rfl rfl (by kernel_rfl) (fun _ _ _ h => h) (Or.inr ⟨by rfl, rfl⟩) ?_ ?_
                    rotate_left
                    · simp only [Act.put, List.setIfInBounds_toArray, List.set_cons_zero, List.set_cons_succ, i64_w, i32_w]
                      rfl
                    refine pure_ (i := 22) (N := some 192) (v := undef) (a' := ?_) #[true, true, true, true, true, true, true, true, true, true, true, true, true, true, true, true, true, true, true, true, true, true, true, false, false, false, false] rfl rfl (by kernel_rfl) (fun _ _ _ h => h) (Or.inr ⟨by rfl, rfl⟩) ?_ ?_
                    rotate_left
                    · simp only [Act.put, List.setIfInBounds_toArray, List.set_cons_zero, List.set_cons_succ, i64_w, i32_w]
                      rfl
                    refine pure_ (i := 23) (N := some 193) (v := undef) (a' := ?_) #[true, true, true, true, true, true, true, true, true, true, true, true, true, true, true, true, true, true, true, true, true, true, true, true, false, false, false] rfl rfl (by kernel_rfl) (fun _ _ _ h => h) (Or.inr ⟨by rfl, rfl⟩) ?_ ?_
                    rotate_left
                    · simp only [Act.put, List.setIfInBounds_toArray, List.set_cons_zero, List.set_cons_succ, i64_w, i32_w]
                      rfl
                    refine pure_ (i := 24) (N := some 194) (v := undef) (a' := ?_) #[true, true, true, true, true, true, true, true, true, true, true, true, true, true, true, true, true, true, true, true, true, true, true, true, true, false, false] rfl rfl (by kernel_rfl) (fun _ _ _ h => h) (Or.inr ⟨by rfl, rfl⟩) ?_ ?_
                    rotate_left
                    · simp only [Act.put, List.setIfInBounds_toArray, List.set_cons_zero, List.set_cons_succ, i64_w, i32_w]
                      rfl
                    refine pure_ (i := 25) (N := some 195) (v := undef) (a' := ?_) #[true, true, true, true, true, true, true, true, true, true, true, true, true, true, true, true, true, true, true, true, true, true, true, true, true, true, false] rfl rfl (by kernel_rfl) (fun _ _ _ h => h) (Or.inr ⟨by rfl, rfl⟩) ?_ ?_
                    rotate_left
                    · simp only [Act.put, List.setIfInBounds_toArray, List.set_cons_zero, List.set_cons_succ, i64_w, i32_w]
                      rfl
                    refine pure_ (i := 26) (N := some 196) (v := ?_) (a' := ?_) #[true, true, true, true, true, true, true, true, true, true, true, true, true, true, true, true, true, true, true, true, true, true, true, true, true, true, true] rfl rfl (by kernel_rfl) (fun _ _ _ h => h) (Or.inl ⟨by rfl, ?_⟩) ?_ ?_
                    rotate_left
                    · intro w'
                      go_simp
                      with_reducible rfl
                    rotate_left
                    · simp only [Act.put, List.setIfInBounds_toArray, List.set_cons_zero, List.set_cons_succ, i64_w, i32_w]
                      rfl
                    refine done_ (by kernel_rfl) ?_
                    have HF := Lib.hid (HBQ.out.trans (hHeld.2.mono HBQ.out.size))
                    clear hHeld
                    go_wp2
                    go_roundg (gs.length - (q + 1))
                    case measure => have := HLQ.out; omega
                    case rel => exact ⟨q + 1, by simp, HLQ.out, by omega, HF⟩
                · have hltq : decide ((q : Int) < (gs.length : Int)) = false := decide_eq_false (by omega)
                  go_wp2_with fail
                  go_roundg (gs.length - (p + 1))
                  case measure => omega
                  case rel => exact ⟨p + 1, by simp, by omega, by omega, HBQ⟩
            · have hltp : decide ((p : Int) < (gs.length : Int)) = false := decide_eq_false (by omega)
              have HBE := Lib.hid (HSE.out.bel.trans (HBF.out.mono HSE.out.bel.size))
              go_wp2_with fail
              go_at_call 8
              refine (alive_calls _).mono ?_
              rintro ex wL ⟨rfl, hb⟩
              have HBL := Lib.hid (HBE.out.trans (hb.mono HBE.out.size))
              clear hb
              go_wp2
              go_ret
              exact ⟨rfl, HBL.out⟩
    · -- END A
      as_aux_lemma =>
        have hltz : decide ((i : Int) < (acts.length : Int)) = false := decide_eq_false (by omega)
        clear hx
        have HSE := Lib.hid HST.out
        have HGL := Lib.hid (show gs.length ≤ 200 by omega)
        obtain ⟨A4, c4, e4⟩ := Kd.R_slice HSE.out.l4
        obtain ⟨A5, c5, e5⟩ := Kd.R_slice HSE.out.l5
        obtain ⟨A6, c6, e6⟩ := Kd.R_slice HSE.out.l6
        rw [List.length_map] at e4 e5 e6
        subst e4 e5 e6
        have HC4 := Lib.hid (R_all HSE.out.l4)
        have HC5 := Lib.hid (R_all HSE.out.l5)
        have HC6 := Lib.hid (R_all HSE.out.l6)
        rename World => wz
        clear hltz
        go_wp2_with fail
        go_loopg [14] gs.length (fun gg s14 wf => ∃ p : Nat, s14 = .int .i64 p ∧ p ≤ gs.length ∧ gs.length - p ≤ gg ∧ Hid (Below wz.heap.size wz wf))
        case atStart => exact ⟨0, by simp, Nat.zero_le _, by omega, Lib.hid (Below.refl _ _)⟩
        case round =>
          obtain ⟨p, rfl, hp, hgp, HBF⟩ := hrel
          by_cases hlp : p < gs.length
          · have hltp : decide ((p : Int) < (gs.length : Int)) = true := decide_eq_true (by omega)
            have hq4 : (0 ≤ (p : Int)) = True := eq_true (by omega)
            have hq5 : ((p : Int) < (gs.length : Int)) = True := eq_true (by omega)
            have hw5 : IntKind.i64.wrap ((p : Int) + 1) = p + 1 := IntWalk.i64_in _ (by have := HGL.out; omega)
            go_wp2_with fail
            go_loopg [15] gs.length (fun gg s15 wf => ∃ q : Nat, s15 = .int .i64 q ∧ q ≤ gs.length ∧ gs.length - q ≤ gg ∧ Hid (Below wz.heap.size wz wf))
            case atStart => exact ⟨0, by simp, Nat.zero_le _, by omega, HBF⟩
            case round =>
              obtain ⟨q, rfl, hq, hgq, HBQ⟩ := hrel
              by_cases hlq : q < gs.length
              · have hltq : decide ((q : Int) < (gs.length : Int)) = true := decide_eq_true (by omega)
                have hq6 : (0 ≤ (q : Int)) = True := eq_true (by omega)
                have hq7 : ((q : Int) < (gs.length : Int)) = True := eq_true (by omega)
                have hw6 : IntKind.i64.wrap ((q : Int) + 1) = q + 1 := IntWalk.i64_in _ (by have := HGL.out; omega)
                obtain ⟨⟨gc, gm, ge⟩, hg⟩ : ∃ g, gs[p]? = some g := ⟨_, List.getElem?_eq_getElem hlp⟩
                obtain ⟨⟨hc, hm, he⟩, hh⟩ : ∃ g, gs[q]? = some g := ⟨_, List.getElem?_eq_getElem hlq⟩
                have hap := HSE.out.inv.apart _ (List.mem_of_getElem? hg) _ (List.mem_of_getElem? hh)
                simp only at hap
                obtain ⟨ad4, e4, k4⟩ := at_all (Kd.C_below HC4.out HBQ.out) (by omega)
                obtain ⟨ad5, e5, k5⟩ := at_all (Kd.C_below HC5.out HBQ.out) (by omega)
                obtain ⟨ad6, e6, k6⟩ := at_all (Kd.C_below HC6.out HBQ.out) (by omega)
                subst e4 e5 e6
                have START := Lib.hid (show Five wr (ad6.add p) (ad6.add q) (ad5.add p) (ad4.add p) (ad4.add q) ge he gm gc hc wr from ⟨⟨k6 p hlp _ hg, k6 q hlq _ hh, k5 p hlp _ hg, k4 p hlp _ hg, k4 q hlq _ hh⟩, Below.refl _ _⟩)
                have HLQ := Lib.hid hlq
                clear k4 k5 k6 hg hh
                by_cases e1 : ge = he
                · have e1b : (ge == he) = true := by rw [e1]; exact beq_self_eq_true he
                  by_cases e2 : gm = 2
                  · have e2b : (gm == 2) = true := by rw [e2]; rfl
                    have e3 := hap e1 e2
                    have e3b : (gc != hc) = false := by rw [e3]; exact bne_self_eq_false hc
                    clear e1 e2 e3 hap
                    go_wp2_with fail
                    refine start_ (n := 27) (S := (fun w' => Five wr (ad6.add p) (ad6.add q) (ad5.add p) (ad4.add p) (ad4.add q) ge he gm gc hc w')) (ds := []) #[false, false, false, false, false, false, false, false, false, false, false, false, false, false, false, false, false, false, false, false, false, false, false, false, false, false, false] (by kernel_rfl) rfl rfl (START.out.drew) (fun hHeld => ?_)
                    refine pure_ (i := 0) (N := some 170) (v := ?_) (a' := ?_) #[true, false, false, false, false, false, false, false, false, false, false, false, false, false, false, false, false, false, false, false, false, false, false, false, false, false, false] rfl rfl (by kernel_rfl) (fun _ _ _ h => h) (Or.inl ⟨by rfl, ?_⟩) ?_ ?_
                    rotate_left
                    · intro w'
                      go_simp
                      with_reducible rfl
                    rotate_left
                    · simp only [Act.put, List.setIfInBounds_toArray, List.set_cons_zero, List.set_cons_succ, i64_w, i32_w]
                      rfl
                    refine pure_ (i := 1) (N := some 171) (v := ?_) (a' := ?_) #[true, true, false, false, false, false, false, false, false, false, false, false, false, false, false, false, false, false, false, false, false, false, false, false, false, false, false] rfl rfl (by kernel_rfl) (fun _ _ _ h => h) (Or.inl ⟨by rfl, ?_⟩) ?_ ?_
                    rotate_left
                    · intro w'
                      go_simp
                      with_reducible rfl
                    rotate_left
                    · simp only [Act.put, List.setIfInBounds_toArray, List.set_cons_zero, List.set_cons_succ, i64_w, i32_w]
                      rfl
                    refine pure_ (i := 2) (N := some 172) (v := ?_) (a' := ?_) #[true, true, true, false, false, false, false, false, false, false, false, false, false, false, false, false, false, false, false, false, false, false, false, false, false, false, false] rfl rfl (by kernel_rfl) (fun _ _ _ h => h) (Or.inl ⟨by rfl, ?_⟩) ?_ ?_
                    rotate_left
                    · intro w'
                      go_simp
                      with_reducible rfl
                    rotate_left
                    · simp only [Act.put, List.setIfInBounds_toArray, List.set_cons_zero, List.set_cons_succ, i64_w, i32_w]
                      rfl
                    refine take_ (i := 3) (N := some 173) (v := ?_) (a' := ?_) #[true, true, true, true, false, false, false, false, false, false, false, false, false, false, false, false, false, false, false, false, false, false, false, false, false, false, false] rfl rfl (by kernel_rfl) (fun _ _ _ h => h) (Or.inl ⟨by rfl, ?_⟩) hHeld ?_ ?_
                    rotate_left
                    · rintro w' ⟨⟨s0, s1, s2, s3, s4⟩, s5⟩
                      go_simp
                      with_reducible rfl
                    rotate_left
                    · simp only [Act.put, List.setIfInBounds_toArray, List.set_cons_zero, List.set_cons_succ, i64_w, i32_w]
                      rfl
                    refine pure_ (i := 4) (N := some 174) (v := ?_) (a' := ?_) #[true, true, true, true, true, false, false, false, false, false, false, false, false, false, false, false, false, false, false, false, false, false, false, false, false, false, false] rfl rfl (by kernel_rfl) (fun _ _ _ h => h) (Or.inl ⟨by rfl, ?_⟩) ?_ ?_
                    rotate_left
                    · intro w'
                      go_simp
                      with_reducible rfl
                    rotate_left
                    · simp only [Act.put, List.setIfInBounds_toArray, List.set_cons_zero, List.set_cons_succ, i64_w, i32_w]
                      rfl
                    refine pure_ (i := 5) (N := some 175) (v := ?_) (a' := ?_) #[true, true, true, true, true, true, false, false, false, false, false, false, false, false, false, false, false, false, false, false, false, false, false, false, false, false, false] rfl rfl (by kernel_rfl) (fun _ _ _ h => h) (Or.inl ⟨by rfl, ?_⟩) ?_ ?_
                    rotate_left
                    · intro w'
                      go_simp
                      with_reducible rfl
                    rotate_left
                    · simp only [Act.put, List.setIfInBounds_toArray, List.set_cons_zero, List.set_cons_succ, i64_w, i32_w]
                      rfl
                    refine pure_ (i := 6) (N := some 176) (v := ?_) (a' := ?_) #[true, true, true, true, true, true, true, false, false, false, false, false, false, false, false, false, false, false, false, false, false, false, false, false, false, false, false] rfl rfl (by kernel_rfl) (fun _ _ _ h => h) (Or.inl ⟨by rfl, ?_⟩) ?_ ?_
                    rotate_left
                    · intro w'
                      go_simp
                      with_reducible rfl
                    rotate_left
                    · simp only [Act.put, List.setIfInBounds_toArray, List.set_cons_zero, List.set_cons_succ, i64_w, i32_w]
                      rfl
                    refine take_ (i := 7) (N := some 177) (v := ?_) (a' := ?_) #[true, true, true, true, true, true, true, true, false, false, false, false, false, false, false, false, false, false, false, false, false, false, false, false, false, false, false] rfl rfl (by kernel_rfl) (fun _ _ _ h => h) (Or.inl ⟨by rfl, ?_⟩) hHeld ?_ ?_
                    rotate_left
                    · rintro w' ⟨⟨s0, s1, s2, s3, s4⟩, s5⟩
                      go_simp
                      with_reducible rfl
                    rotate_left
                    · simp only [Act.put, List.setIfInBounds_toArray, List.set_cons_zero, List.set_cons_succ, i64_w, i32_w]
                      rfl
                    refine pure_ (i := 8) (N := some 178) (v := ?_) (a' := ?_) #[true, true, true, true, true, true, true, true, true, false, false, false, false, false, false, false, false, false, false, false, false, false, false, false, false, false, false] rfl rfl (by kernel_rfl) (fun _ _ _ h => h) (Or.inl ⟨by rfl, ?_⟩) ?_ ?_
                    rotate_left
                    · intro w'
                      go_simp
                      with_reducible rfl
                    rotate_left
                    · simp only [Act.put, List.setIfInBounds_toArray, List.set_cons_zero, List.set_cons_succ, i64_w, i32_w]
                      rfl
                    refine pure_ (i := 9) (N := some 179) (v := ?_) (a' := ?_) #[true, true, true, true, true, true, true, true, true, true, false, false, false, false, false, false, false, false, false, false, false, false, false, false, false, false, false] rfl rfl (by kernel_rfl) (fun _ _ _ h => h) (Or.inl ⟨by rfl, ?_⟩) ?_ ?_
                    rotate_left
                    · intro w'
                      go_simp
                      with_reducible rfl
                    rotate_left
                    · simp only [Act.put, List.setIfInBounds_toArray, List.set_cons_zero, List.set_cons_succ, i64_w, i32_w]
                      rfl
                    refine pure_ (i := 10) (N := some 180) (v := ?_) (a' := ?_) #[true, true, true, true, true, true, true, true, true, true, true, false, false, false, false, false, false, false, false, false, false, false, false, false, false, false, false] rfl rfl (by kernel_rfl) (fun _ _ _ h => h) (Or.inl ⟨by rfl, ?_⟩) ?_ ?_
                    rotate_left
                    · intro w'
                      go_simp
                      with_reducible rfl
                    rotate_left
                    · simp only [Act.put, List.setIfInBounds_toArray, List.set_cons_zero, List.set_cons_succ, i64_w, i32_w]
                      rfl
                    refine pure_ (i := 11) (N := some 181) (v := ?_) (a' := ?_) #[true, true, true, true, true, true, true, true, true, true, true, true, false, false, false, false, false, false, false, false, false, false, false, false, false, false, false] rfl rfl (by kernel_rfl) (fun _ _ _ h => h) (Or.inl ⟨by rfl, ?_⟩) ?_ ?_
                    rotate_left
                    · intro w'
                      go_simp
                      with_reducible rfl
                    rotate_left
                    · simp only [Act.put, List.setIfInBounds_toArray, List.set_cons_zero, List.set_cons_succ, i64_w, i32_w]
                      rfl
                    refine pure_ (i := 12) (N := some 182) (v := ?_) (a' := ?_) #[true, true, true, true, true, true, true, true, true, true, true, true, true, false, false, false, false, false, false, false, false, false, false, false, false, false, false] rfl rfl (by kernel_rfl) (fun _ _ _ h => h) (Or.inl ⟨by rfl, ?_⟩) ?_ ?_
                    rotate_left
                    · intro w'
                      go_simp
                      with_reducible rfl
                    rotate_left
                    · simp only [Act.put, List.setIfInBounds_toArray, List.set_cons_zero, List.set_cons_succ, i64_w, i32_w]
                      rfl
                    refine take_ (i := 13) (N := some 183) (v := ?_) (a' := ?_) #[true, true, true, true, true, true, true, true, true, true, true, true, true, true, false, false, false, false, false, false, false, false, false, false, false, false, false] rfl rfl (by kernel_rfl) (fun _ _ _ h => h) (Or.inl ⟨by rfl, ?_⟩) hHeld ?_ ?_
                    rotate_left
                    · rintro w' ⟨⟨s0, s1, s2, s3, s4⟩, s5⟩
                      go_simp
                      with_reducible rfl
                    rotate_left
                    · simp only [Act.put, List.setIfInBounds_toArray, List.set_cons_zero, List.set_cons_succ, i64_w, i32_w]
                      rfl
                    refine pure_ (i := 14) (N := some 184) (v := ?_) (a' := ?_) #[true, true, true, true, true, true, true, true, true, true, true, true, true, true, true, false, false, false, false, false, false, false, false, false, false, false, false] rfl rfl (by kernel_rfl) (fun _ _ _ h => h) (Or.inl ⟨by rfl, ?_⟩) ?_ ?_
                    rotate_left
                    · intro w'
                      go_simp
                      with_reducible rfl
                    rotate_left
                    · simp only [Act.put, List.setIfInBounds_toArray, List.set_cons_zero, List.set_cons_succ, i64_w, i32_w]
                      rfl
                    refine pure_ (i := 15) (N := some 185) (v := ?_) (a' := ?_) #[true, true, true, true, true, true, true, true, true, true, true, true, true, true, true, true, false, false, false, false, false, false, false, false, false, false, false] rfl rfl (by kernel_rfl) (fun _ _ _ h => h) (Or.inl ⟨by rfl, ?_⟩) ?_ ?_
                    rotate_left
                    · intro w'
                      go_simp
                      with_reducible rfl
                    rotate_left
                    · simp only [Act.put, List.setIfInBounds_toArray, List.set_cons_zero, List.set_cons_succ, i64_w, i32_w]
                      rfl
                    refine pure_ (i := 16) (N := some 186) (v := ?_) (a' := ?_) #[true, true, true, true, true, true, true, true, true, true, true, true, true, true, true, true, true, false, false, false, false, false, false, false, false, false, false] rfl rfl (by kernel_rfl) (fun _ _ _ h => h) (Or.inl ⟨by rfl, ?_⟩) ?_ ?_
                    rotate_left
                    · intro w'
                      go_simp
                      with_reducible rfl
                    rotate_left
                    · simp only [Act.put, List.setIfInBounds_toArray, List.set_cons_zero, List.set_cons_succ, i64_w, i32_w]
                      rfl
                    refine pure_ (i := 17) (N := some 187) (v := ?_) (a' := ?_) #[true, true, true, true, true, true, true, true, true, true, true, true, true, true, true, true, true, true, false, false, false, false, false, false, false, false, false] rfl rfl (by kernel_rfl) (fun _ _ _ h => h) (Or.inl ⟨by rfl, ?_⟩) ?_ ?_
                    rotate_left
                    · intro w'
                      go_simp
                      with_reducible rfl
                    rotate_left
                    · simp only [Act.put, List.setIfInBounds_toArray, List.set_cons_zero, List.set_cons_succ, i64_w, i32_w]
                      rfl
                    refine pure_ (i := 18) (N := some 188) (v := ?_) (a' := ?_) #[true, true, true, true, true, true, true, true, true, true, true, true, true, true, true, true, true, true, true, false, false, false, false, false, false, false, false] rfl rfl (by kernel_rfl) (fun _ _ _ h => h) (Or.inl ⟨by rfl, ?_⟩) ?_ ?_
                    rotate_left
                    · intro w'
                      go_simp
                      with_reducible rfl
                    rotate_left
                    · simp only [Act.put, List.setIfInBounds_toArray, List.set_cons_zero, List.set_cons_succ, i64_w, i32_w]
                      rfl
                    refine pure_ (i := 19) (N := some 189) (v := ?_) (a' := ?_) #[true, true, true, true, true, true, true, true, true, true, true, true, true, true, true, true, true, true, true, true, false, false, false, false, false, false, false] rfl rfl (by kernel_rfl) (fun _ _ _ h => h) (Or.inl ⟨by rfl, ?_⟩) ?_ ?_
                    rotate_left
                    · intro w'
                      go_simp
                      with_reducible rfl
                    rotate_left
                    · simp only [Act.put, List.setIfInBounds_toArray, List.set_cons_zero, List.set_cons_succ, i64_w, i32_w]
                      rfl
                    refine take_ (i := 20) (N := some 190) (v := ?_) (a' := ?_) #[true, true, true, true, true, true, true, true, true, true, true, true, true, true, true, true, true, true, true, true, true, false, false, false, false, false, false] rfl rfl (by kernel_rfl) (fun _ _ _ h => h) (Or.inl ⟨by rfl, ?_⟩) hHeld ?_ ?_
                    rotate_left
                    · rintro w' ⟨⟨s0, s1, s2, s3, s4⟩, s5⟩
                      go_simp
                      with_reducible rfl
                    rotate_left
                    · simp only [Act.put, List.setIfInBounds_toArray, List.set_cons_zero, List.set_cons_succ, i64_w, i32_w]
                      rfl
                    refine pure_ (i := 21) (N := some 191) (v := ?_) (a' := ?_) #[true, true, true, true, true, true, true, true, true, true, true, true, true, true, true, true, true, true, true, true, true, true, false, false, false, false, false] rfl rfl (by kernel_rfl) (fun _ _ _ h => h) (Or.inl ⟨by rfl, ?_⟩) ?_ ?_
                    rotate_left
                    · intro w'
                      go_simp
                      with_reducible rfl
                    rotate_left
                    · simp only [Act.put, List.setIfInBounds_toArray, List.set_cons_zero, List.set_cons_succ, i64_w, i32_w]
                      rfl
                    refine pure_ (i := 22) (N := some 192) (v := ?_) (a' := ?_) #[true, true, true, true, true, true, true, true, true, true, true, true, true, true, true, true, true, true, true, true, true, true, true, false, false, false, false] rfl rfl (by kernel_rfl) (fun _ _ _ h => h) (Or.inl ⟨by rfl, ?_⟩) ?_ ?_
                    rotate_left
                    · intro w'
                      go_simp
                      with_reducible rfl
                    rotate_left
                    · simp only [Act.put, List.setIfInBounds_toArray, List.set_cons_zero, List.set_cons_succ, i64_w, i32_w]
                      rfl
                    refine pure_ (i := 23) (N := some 193) (v := ?_) (a' := ?_) #[true, true, true, true, true, true, true, true, true, true, true, true, true, true, true, true, true, true, true, true, true, true, true, true, false, false, false] rfl rfl (by kernel_rfl) (fun _ _ _ h => h) (Or.inl ⟨by rfl, ?_⟩) ?_ ?_
                    rotate_left
                    · intro w'
                      go_simp
                      with_reducible rfl
                    rotate_left
                    · simp only [Act.put, List.setIfInBounds_toArray, List.set_cons_zero, List.set_cons_succ, i64_w, i32_w]
                      rfl
                    refine take_ (i := 24) (N := some 194) (v := ?_) (a' := ?_) #[true, true, true, true, true, true, true, true, true, true, true, true, true, true, true, true, true, true, true, true, true, true, true, true, true, false, false] rfl rfl (by kernel_rfl) (fun _ _ _ h => h) (Or.inl ⟨by rfl, ?_⟩) hHeld ?_ ?_
                    rotate_left
                    · rintro w' ⟨⟨s0, s1, s2, s3, s4⟩, s5⟩
                      go_simp
                      with_reducible rfl
                    rotate_left
                    · simp only [Act.put, List.setIfInBounds_toArray, List.set_cons_zero, List.set_cons_succ, i64_w, i32_w]
                      rfl
                    refine pure_ (i := 25) (N := some 195) (v := ?_) (a' := ?_) #[true, true, true, true, true, true, true, true, true, true, true, true, true, true, true, true, true, true, true, true, true, true, true, true, true, true, false] rfl rfl (by kernel_rfl) (fun _ _ _ h => h) (Or.inl ⟨by rfl, ?_⟩) ?_ ?_
                    rotate_left
                    · intro w'
                      go_simp
                      with_reducible rfl
                    rotate_left
                    · simp only [Act.put, List.setIfInBounds_toArray, List.set_cons_zero, List.set_cons_succ, i64_w, i32_w]
                      rfl
                    refine pure_ (i := 26) (N := some 196) (v := ?_) (a' := ?_) #[true, true, true, true, true, true, true, true, true, true, true, true, true, true, true, true, true, true, true, true, true, true, true, true, true, true, true] rfl rfl (by kernel_rfl) (fun _ _ _ h => h) (Or.inl ⟨by rfl, ?_⟩) ?_ ?_
                    rotate_left
                    · intro w'
                      go_simp
                      with_reducible rfl
                    rotate_left
                    · simp only [Act.put, List.setIfInBounds_toArray, List.set_cons_zero, List.set_cons_succ, i64_w, i32_w]
                      rfl
                    refine done_ (by kernel_rfl) ?_
                    have HF := Lib.hid (HBQ.out.trans (hHeld.2.mono HBQ.out.size))
                    clear hHeld
                    go_wp2
                    go_roundg (gs.length - (q + 1))
                    case measure => have := HLQ.out; omega
                    case rel => exact ⟨q + 1, by simp, HLQ.out, by omega, HF⟩
                  · have e2b : (gm == 2) = false := beq_eq_false_iff_ne.2 e2
                    clear e1 e2 hap
                    go_wp2_with fail
                    refine start_ (n := 27) (S := (fun w' => Five wr (ad6.add p) (ad6.add q) (ad5.add p) (ad4.add p) (ad4.add q) ge he gm gc hc w')) (ds := []) #[false, false, false, false, false, false, false, false, false, false, false, false, false, false, false, false, false, false, false, false, false, false, false, false, false, false, false] (by kernel_rfl) rfl rfl (START.out.drew) (fun hHeld => ?_)
                    refine pure_ (i := 0) (N := some 170) (v := ?_) (a' := ?_) #[true, false, false, false, false, false, false, false, false, false, false, false, false, false, false, false, false, false, false, false, false, false, false, false, false, false, false] rfl rfl (by kernel_rfl) (fun _ _ _ h => h) (Or.inl ⟨by rfl, ?_⟩) ?_ ?_
                    rotate_left
                    · intro w'
                      go_simp
                      with_reducible rfl
                    rotate_left
                    · simp only [Act.put, List.setIfInBounds_toArray, List.set_cons_zero, List.set_cons_succ, i64_w, i32_w]
                      rfl
                    refine pure_ (i := 1) (N := some 171) (v := ?_) (a' := ?_) #[true, true, false, false, false, false, false, false, false, false, false, false, false, false, false, false, false, false, false, false, false, false, false, false, false, false, false] rfl rfl (by kernel_rfl) (fun _ _ _ h => h) (Or.inl ⟨by rfl, ?_⟩) ?_ ?_
                    rotate_left
                    · intro w'
                      go_simp
                      with_reducible rfl
                    rotate_left
                    · simp only [Act.put, List.setIfInBounds_toArray, List.set_cons_zero, List.set_cons_succ, i64_w, i32_w]
                      rfl
                    refine pure_ (i := 2) (N := some 172) (v := ?_) (a' := ?_) #[true, true, true, false, false, false, false, false, false, false, false, false, false, false, false, false, false, false, false, false, false, false, false, false, false, false, false] rfl rfl (by kernel_rfl) (fun _ _ _ h => h) (Or.inl ⟨by rfl, ?_⟩) ?_ ?_
                    rotate_left
                    · intro w'
                      go_simp
                      with_reducible rfl
                    rotate_left
                    · simp only [Act.put, List.setIfInBounds_toArray, List.set_cons_zero, List.set_cons_succ, i64_w, i32_w]
                      rfl
                    refine take_ (i := 3) (N := some 173) (v := ?_) (a' := ?_) #[true, true, true, true, false, false, false, false, false, false, false, false, false, false, false, false, false, false, false, false, false, false, false, false, false, false, false] rfl rfl (by kernel_rfl) (fun _ _ _ h => h) (Or.inl ⟨by rfl, ?_⟩) hHeld ?_ ?_
                    rotate_left
                    · rintro w' ⟨⟨s0, s1, s2, s3, s4⟩, s5⟩
                      go_simp
                      with_reducible rfl
                    rotate_left
                    · simp only [Act.put, List.setIfInBounds_toArray, List.set_cons_zero, List.set_cons_succ, i64_w, i32_w]
                      rfl
                    refine pure_ (i := 4) (N := some 174) (v := ?_) (a' := ?_) #[true, true, true, true, true, false, false, false, false, false, false, false, false, false, false, false, false, false, false, false, false, false, false, false, false, false, false] rfl rfl (by kernel_rfl) (fun _ _ _ h => h) (Or.inl ⟨by rfl, ?_⟩) ?_ ?_
                    rotate_left
                    · intro w'
                      go_simp
                      with_reducible rfl
                    rotate_left
                    · simp only [Act.put, List.setIfInBounds_toArray, List.set_cons_zero, List.set_cons_succ, i64_w, i32_w]
                      rfl
                    refine pure_ (i := 5) (N := some 175) (v := ?_) (a' := ?_) #[true, true, true, true, true, true, false, false, false, false, false, false, false, false, false, false, false, false, false, false, false, false, false, false, false, false, false] rfl rfl (by kernel_rfl) (fun _ _ _ h => h) (Or.inl ⟨by rfl, ?_⟩) ?_ ?_
                    rotate_left
                    · intro w'
                      go_simp
                      with_reducible rfl
                    rotate_left
                    · simp only [Act.put, List.setIfInBounds_toArray, List.set_cons_zero, List.set_cons_succ, i64_w, i32_w]
                      rfl
                    refine pure_ (i := 6) (N := some 176) (v := ?_) (a' := ?_) #[true, true, true, true, true, true, true, false, false, false, false, false, false, false, false, false, false, false, false, false, false, false, false, false, false, false, false] rfl rfl (by kernel_rfl) (fun _ _ _ h => h) (Or.inl ⟨by rfl, ?_⟩) ?_ ?_
                    rotate_left
                    · intro w'
                      go_simp
                      with_reducible rfl
                    rotate_left
                    · simp only [Act.put, List.setIfInBounds_toArray, List.set_cons_zero, List.set_cons_succ, i64_w, i32_w]
                      rfl
                    refine take_ (i := 7) (N := some 177) (v := ?_) (a' := ?_) #[true, true, true, true, true, true, true, true, false, false, false, false, false, false, false, false, false, false, false, false, false, false, false, false, false, false, false] rfl rfl (by kernel_rfl) (fun _ _ _ h => h) (Or.inl ⟨by rfl, ?_⟩) hHeld ?_ ?_
                    rotate_left
                    · rintro w' ⟨⟨s0, s1, s2, s3, s4⟩, s5⟩
                      go_simp
                      with_reducible rfl
                    rotate_left
                    · simp only [Act.put, List.setIfInBounds_toArray, List.set_cons_zero, List.set_cons_succ, i64_w, i32_w]
                      rfl
                    refine pure_ (i := 8) (N := some 178) (v := ?_) (a' := ?_) #[true, true, true, true, true, true, true, true, true, false, false, false, false, false, false, false, false, false, false, false, false, false, false, false, false, false, false] rfl rfl (by kernel_rfl) (fun _ _ _ h => h) (Or.inl ⟨by rfl, ?_⟩) ?_ ?_
                    rotate_left
                    · intro w'
                      go_simp
                      with_reducible rfl
                    rotate_left
                    · simp only [Act.put, List.setIfInBounds_toArray, List.set_cons_zero, List.set_cons_succ, i64_w, i32_w]
                      rfl
                    refine pure_ (i := 9) (N := some 179) (v := ?_) (a' := ?_) #[true, true, true, true, true, true, true, true, true, true, false, false, false, false, false, false, false, false, false, false, false, false, false, false, false, false, false] rfl rfl (by kernel_rfl) (fun _ _ _ h => h) (Or.inl ⟨by rfl, ?_⟩) ?_ ?_
                    rotate_left
                    · intro w'
                      go_simp
                      with_reducible rfl
                    rotate_left
                    · simp only [Act.put, List.setIfInBounds_toArray, List.set_cons_zero, List.set_cons_succ, i64_w, i32_w]
                      rfl
                    refine pure_ (i := 10) (N := some 180) (v := ?_) (a' := ?_) #[true, true, true, true, true, true, true, true, true, true, true, false, false, false, false, false, false, false, false, false, false, false, false, false, false, false, false] rfl rfl (by kernel_rfl) (fun _ _ _ h => h) (Or.inl ⟨by rfl, ?_⟩) ?_ ?_
                    rotate_left
                    · intro w'
                      go_simp
                      with_reducible rfl
                    rotate_left
                    · simp only [Act.put, List.setIfInBounds_toArray, List.set_cons_zero, List.set_cons_succ, i64_w, i32_w]
                      rfl
                    refine pure_ (i := 11) (N := some 181) (v := ?_) (a' := ?_) #[true, true, true, true, true, true, true, true, true, true, true, true, false, false, false, false, false, false, false, false, false, false, false, false, false, false, false] rfl rfl (by kernel_rfl) (fun _ _ _ h => h) (Or.inl ⟨by rfl, ?_⟩) ?_ ?_
                    rotate_left
                    · intro w'
                      go_simp
                      with_reducible rfl
                    rotate_left
                    · simp only [Act.put, List.setIfInBounds_toArray, List.set_cons_zero, List.set_cons_succ, i64_w, i32_w]
                      rfl
                    refine pure_ (i := 12) (N := some 182) (v := ?_) (a' := ?_) #[true, true, true, true, true, true, true, true, true, true, true, true, true, false, false, false, false, false, false, false, false, false, false, false, false, false, false] rfl rfl (by kernel_rfl) (fun _ _ _ h => h) (Or.inl ⟨by rfl, ?_⟩) ?_ ?_
                    rotate_left
                    · intro w'
                      go_simp
                      with_reducible rfl
                    rotate_left
                    · simp only [Act.put, List.setIfInBounds_toArray, List.set_cons_zero, List.set_cons_succ, i64_w, i32_w]
                      rfl
                    refine take_ (i := 13) (N := some 183) (v := ?_) (a' := ?_) #[true, true, true, true, true, true, true, true, true, true, true, true, true, true, false, false, false, false, false, false, false, false, false, false, false, false, false] rfl rfl (by kernel_rfl) (fun _ _ _ h => h) (Or.inl ⟨by rfl, ?_⟩) hHeld ?_ ?_
                    rotate_left
                    · rintro w' ⟨⟨s0, s1, s2, s3, s4⟩, s5⟩
                      go_simp
                      with_reducible rfl
                    rotate_left
                    · simp only [Act.put, List.setIfInBounds_toArray, List.set_cons_zero, List.set_cons_succ, i64_w, i32_w]
                      rfl
                    refine pure_ (i := 14) (N := some 184) (v := ?_) (a' := ?_) #[true, true, true, true, true, true, true, true, true, true, true, true, true, true, true, false, false, false, false, false, false, false, false, false, false, false, false] rfl rfl (by kernel_rfl) (fun _ _ _ h => h) (Or.inl ⟨by rfl, ?_⟩) ?_ ?_
                    rotate_left
                    · intro w'
                      go_simp
                      with_reducible rfl
                    rotate_left
                    · simp only [Act.put, List.setIfInBounds_toArray, List.set_cons_zero, List.set_cons_succ, i64_w, i32_w]
                      rfl
                    refine pure_ (i := 15) (N := some 185) (v := ?_) (a' := ?_) #[true, true, true, true, true, true, true, true, true, true, true, true, true, true, true, true, false, false, false, false, false, false, false, false, false, false, false] rfl rfl (by kernel_rfl) (fun _ _ _ h => h) (Or.inl ⟨by rfl, ?_⟩) ?_ ?_
                    rotate_left
                    · intro w'
                      go_simp
                      with_reducible rfl
                    rotate_left
                    · simp only [Act.put, List.setIfInBounds_toArray, List.set_cons_zero, List.set_cons_succ, i64_w, i32_w]
                      rfl
                    refine pure_ (i := 16) (N := some 186) (v := ?_) (a' := ?_) #[true, true, true, true, true, true, true, true, true, true, true, true, true, true, true, true, true, false, false, false, false, false, false, false, false, false, false] rfl rfl (by kernel_rfl) (fun _ _ _ h => h) (Or.inl ⟨by rfl, ?_⟩) ?_ ?_
                    rotate_left
                    · intro w'
                      go_simp
                      with_reducible rfl
                    rotate_left
                    · simp only [Act.put, List.setIfInBounds_toArray, List.set_cons_zero, List.set_cons_succ, i64_w, i32_w]
                      rfl
                    refine pure_ (i := 17) (N := some 187) (v := undef) (a' := ?_) #[true, true, true, true, true, true, true, true, true, true, true, true, true, true, true, true, true, true, false, false, false, false, false, false, false, false, false] rfl rfl (by kernel_rfl) (fun _ _ _ h => h) (Or.inr ⟨by rfl, rfl⟩) ?_ ?_
                    rotate_left
                    · simp only [Act.put, List.setIfInBounds_toArray, List.set_cons_zero, List.set_cons_succ, i64_w, i32_w]
                      rfl
                    refine pure_ (i := 18) (N := some 188) (v := undef) (a' := ?_) #[true, true, true, true, true, true, true, true, true, true, true, true, true, true, true, true, true, true, true, false, false, false, false, false, false, false, false] rfl rfl (by kernel_rfl) (fun _ _ _ h => h) (Or.inr ⟨by rfl, rfl⟩) ?_ ?_
                    rotate_left
                    · simp only [Act.put, List.setIfInBounds_toArray, List.set_cons_zero, List.set_cons_succ, i64_w, i32_w]
                      rfl
                    refine pure_ (i := 19) (N := some 189) (v := undef) (a' := ?_) #[true, true, true, true, true, true, true, true, true, true, true, true, true, true, true, true, true, true, true, true, false, false, false, false, false, false, false] rfl rfl (by kernel_rfl) (fun _ _ _ h => h) (Or.inr ⟨by rfl, rfl⟩) ?_ ?_
                    rotate_left
                    · simp only [Act.put, List.setIfInBounds_toArray, List.set_cons_zero, List.set_cons_succ, i64_w, i32_w]
                      rfl
                    refine pure_ (i := 20) (N := some 190) (v := undef) (a' := ?_) #[true, true, true, true, true, true, true, true, true, true, true, true, true, true, true, true, true, true, true, true, true, false, false, false, false, false, false] rfl rfl (by kernel_rfl) (fun _ _ _ h => h) (Or.inr ⟨by rfl, rfl⟩) ?_ ?_
                    rotate_left
                    · simp only [Act.put, List.setIfInBounds_toArray, List.set_cons_zero, List.set_cons_succ, i64_w, i32_w]
                      rfl
                    refine pure_ (i := 21) (N := some 191) (v := undef) (a' := ?_) #[true, true, true, true, true, true, true, true, true, true, true, true, true, true, true, true, true, true, true, true, true, true, false, false, false, false, false] rfl rfl (by kernel_rfl) (fun _ _ _ h => h) (Or.inr ⟨by rfl, rfl⟩) ?_ ?_
                    rotate_left
                    · simp only [Act.put, List.setIfInBounds_toArray, List.set_cons_zero, List.set_cons_succ, i64_w, i32_w]
                      rfl
                    refine pure_ (i := 22) (N := some 192) (v := undef) (a' := ?_) #[true, true, true, true, true, true, true, true, true, true, true, true, true, true, true, true, true, true, true, true, true, true, true, false, false, false, false] rfl rfl (by kernel_rfl) (fun _ _ _ h => h) (Or.inr ⟨by rfl, rfl⟩) ?_ ?_
                    rotate_left
                    · simp only [Act.put, List.setIfInBounds_toArray, List.set_cons_zero, List.set_cons_succ, i64_w, i32_w]
                      rfl
                    refine pure_ (i := 23) (N := some 193) (v := undef) (a' := ?_) #[true, true, true, true, true, true, true, true, true, true, true, true, true, true, true, true, true, true, true, true, true, true, true, true, false, false, false] rfl rfl (by kernel_rfl) (fun _ _ _ h => h) (Or.inr ⟨by rfl, rfl⟩) ?_ ?_
                    rotate_left
                    · simp only [Act.put, List.setIfInBounds_toArray, List.set_cons_zero, List.set_cons_succ, i64_w, i32_w]
                      rfl
                    refine pure_ (i := 24) (N := some 194) (v := undef) (a' := ?_) #[true, true, true, true, true, true, true, true, true, true, true, true, true, true, true, true, true, true, true, true, true, true, true, true, true, false, false] rfl rfl (by kernel_rfl) (fun _ _ _ h => h) (Or.inr ⟨by rfl, rfl⟩) ?_ ?_
                    rotate_left
                    · simp only [Act.put, List.setIfInBounds_toArray, List.set_cons_zero, List.set_cons_succ, i64_w, i32_w]
                      rfl
                    refine pure_ (i := 25) (N := some 195) (v := undef) (a' := ?_) #[true, true, true, true, true, true, true, true, true, true, true, true, true, true, true, true, true, true, true, true, true, true, true, true, true, true, false] rfl rfl (by kernel_rfl) (fun _ _ _ h => h) (Or.inr ⟨by rfl, rfl⟩) ?_ ?_
                    rotate_left
                    · simp only [Act.put, List.setIfInBounds_toArray, List.set_cons_zero, List.set_cons_succ, i64_w, i32_w]
                      rfl
                    refine pure_ (i := 26) (N := some 196) (v := ?_) (a' := ?_) #[true, true, true, true, true, true, true, true, true, true, true, true, true, true, true, true, true, true, true, true, true, true, true, true, true, true, true] rfl rfl (by kernel_rfl) (fun _ _ _ h => h) (Or.inl ⟨by rfl, ?_⟩) ?_ ?_
                    rotate_left
                    · intro w'
                      go_simp
                      with_reducible rfl
                    rotate_left
                    · simp only [Act.put, List.setIfInBounds_toArray, List.set_cons_zero, List.set_cons_succ, i64_w, i32_w]
                      rfl
                    refine done_ (by kernel_rfl) ?_
                    have HF := Lib.hid (HBQ.out.trans (hHeld.2.mono HBQ.out.size))
                    clear hHeld
                    go_wp2
                    go_roundg (gs.length - (q + 1))
                    case measure => have := HLQ.out; omega
                    case rel => exact ⟨q + 1, by simp, HLQ.out, by omega, HF⟩
                · have e1b : (ge == he) = false := beq_eq_false_iff_ne.2 e1
                  clear e1 hap
                  go_wp2_with fail
                  refine start_ (n := 27) (S := (fun w' => Five wr (ad6.add p) (ad6.add q) (ad5.add p) (ad4.add p) (ad4.add q) ge he gm gc hc w')) (ds := []) #[false, false, false, false, false, false, false, false, false, false, false, false, false, false, false, false, false, false, false, false, false, false, false, false, false, false, false] (by kernel_rfl) rfl rfl (START.out.drew) (fun hHeld => ?_)
                  refine pure_ (i := 0) (N := some 170) (v := ?_) (a' := ?_) #[true, false, false, false, false, false, false, false, false, false, false, false, false, false, false, false, false, false, false, false, false, false, false, false, false, false, false] rfl rfl (by kernel_rfl) (fun _ _ _ h => h) (Or.inl ⟨by rfl, ?_⟩) ?_ ?_
                  rotate_left
                  · intro w'
                    go_simp
                    with_reducible rfl
                  rotate_left
                  · simp only [Act.put, List.setIfInBounds_toArray, List.set_cons_zero, List.set_cons_succ, i64_w, i32_w]
                    rfl
                  refine pure_ (i := 1) (N := some 171) (v := ?_) (a' := ?_) #[true, true, false, false, false, false, false, false, false, false, false, false, false, false, false, false, false, false, false, false, false, false, false, false, false, false, false] rfl rfl (by kernel_rfl) (fun _ _ _ h => h) (Or.inl ⟨by rfl, ?_⟩) ?_ ?_
                  rotate_left
                  · intro w'
                    go_simp
                    with_reducible rfl
                  rotate_left
                  · simp only [Act.put, List.setIfInBounds_toArray, List.set_cons_zero, List.set_cons_succ, i64_w, i32_w]
                    rfl
                  refine pure_ (i := 2) (N := some 172) (v := ?_) (a' := ?_) #[true, true, true, false, false, false, false, false, false, false, false, false, false, false, false, false, false, false, false, false, false, false, false, false, false, false, false] rfl rfl (by kernel_rfl) (fun _ _ _ h => h) (Or.inl ⟨by rfl, ?_⟩) ?_ ?_
                  rotate_left
                  · intro w'
                    go_simp
                    with_reducible rfl
                  rotate_left
                  · simp only [Act.put, List.setIfInBounds_toArray, List.set_cons_zero, List.set_cons_succ, i64_w, i32_w]
                    rfl
                  refine take_ (i := 3) (N := some 173) (v := ?_) (a' := ?_) #[true, true, true, true, false, false, false, false, false, false, false, false, false, false, false, false, false, false, false, false, false, false, false, false, false, false, false] rfl rfl (by kernel_rfl) (fun _ _ _ h => h) (Or.inl ⟨by rfl, ?_⟩) hHeld ?_ ?_
                  rotate_left
                  · rintro w' ⟨⟨s0, s1, s2, s3, s4⟩, s5⟩
                    go_simp
                    with_reducible rfl
                  rotate_left
                  · simp only [Act.put, List.setIfInBounds_toArray, List.set_cons_zero, List.set_cons_succ, i64_w, i32_w]
                    rfl
                  refine pure_ (i := 4) (N := some 174) (v := ?_) (a' := ?_) #[true, true, true, true, true, false, false, false, false, false, false, false, false, false, false, false, false, false, false, false, false, false, false, false, false, false, false] rfl rfl (by kernel_rfl) (fun _ _ _ h => h) (Or.inl ⟨by rfl, ?_⟩) ?_ ?_
                  rotate_left
                  · intro w'
                    go_simp
                    with_reducible rfl
                  rotate_left
                  · simp only [Act.put, List.setIfInBounds_toArray, List.set_cons_zero, List.set_cons_succ, i64_w, i32_w]
                    rfl
                  refine pure_ (i := 5) (N := some 175) (v := ?_) (a' := ?_) #[true, true, true, true, true, true, false, false, false, false, false, false, false, false, false, false, false, false, false, false, false, false, false, false, false, false, false] rfl rfl (by kernel_rfl) (fun _ _ _ h => h) (Or.inl ⟨by rfl, ?_⟩) ?_ ?_
                  rotate_left
                  · intro w'
                    go_simp
                    with_reducible rfl
                  rotate_left
                  · simp only [Act.put, List.setIfInBounds_toArray, List.set_cons_zero, List.set_cons_succ, i64_w, i32_w]
                    rfl
                  refine pure_ (i := 6) (N := some 176) (v := ?_) (a' := ?_) #[true, true, true, true, true, true, true, false, false, false, false, false, false, false, false, false, false, false, false, false, false, false, false, false, false, false, false] rfl rfl (by kernel_rfl) (fun _ _ _ h => h) (Or.inl ⟨by rfl, ?_⟩) ?_ ?_
                  rotate_left
                  · intro w'
                    go_simp
                    with_reducible rfl
                  rotate_left
                  · simp only [Act.put, List.setIfInBounds_toArray, List.set_cons_zero, List.set_cons_succ, i64_w, i32_w]
                    rfl
                  refine take_ (i := 7) (N := some 177) (v := ?_) (a' := ?_) #[true, true, true, true, true, true, true, true, false, false, false, false, false, false, false, false, false, false, false, false, false, false, false, false, false, false, false] rfl rfl (by kernel_rfl) (fun _ _ _ h => h) (Or.inl ⟨by rfl, ?_⟩) hHeld ?_ ?_
                  rotate_left
                  · rintro w' ⟨⟨s0, s1, s2, s3, s4⟩, s5⟩
                    go_simp
                    with_reducible rfl
                  rotate_left
                  · simp only [Act.put, List.setIfInBounds_toArray, List.set_cons_zero, List.set_cons_succ, i64_w, i32_w]
                    rfl
                  refine pure_ (i := 8) (N := some 178) (v := ?_) (a' := ?_) #[true, true, true, true, true, true, true, true, true, false, false, false, false, false, false, false, false, false, false, false, false, false, false, false, false, false, false] rfl rfl (by kernel_rfl) (fun _ _ _ h => h) (Or.inl ⟨by rfl, ?_⟩) ?_ ?_
                  rotate_left
                  · intro w'
                    go_simp
                    with_reducible rfl
                  rotate_left
                  · simp only [Act.put, List.setIfInBounds_toArray, List.set_cons_zero, List.set_cons_succ, i64_w, i32_w]
                    rfl
                  refine pure_ (i := 9) (N := some 179) (v := ?_) (a' := ?_) #[true, true, true, true, true, true, true, true, true, true, false, false, false, false, false, false, false, false, false, false, false, false, false, false, false, false, false] rfl rfl (by kernel_rfl) (fun _ _ _ h => h) (Or.inl ⟨by rfl, ?_⟩) ?_ ?_
                  rotate_left
                  · intro w'
                    go_simp
                    with_reducible rfl
                  rotate_left
                  · simp only [Act.put, List.setIfInBounds_toArray, List.set_cons_zero, List.set_cons_succ, i64_w, i32_w]
                    rfl
                  refine pure_ (i := 10) (N := some 180) (v := undef) (a' := ?_) #[true, true, true, true, true, true, true, true, true, true, true, false, false, false, false, false, false, false, false, false, false, false, false, false, false, false, false] rfl rfl (by kernel_rfl) (fun _ _ _ h => h) (Or.inr ⟨by rfl, rfl⟩) ?_ ?_
                  rotate_left
                  · simp only [Act.put, List.setIfInBounds_toArray, List.set_cons_zero, List.set_cons_succ, i64_w, i32_w]
                    rfl
                  refine pure_ (i := 11) (N := some 181) (v := undef) (a' := ?_) #[true, true, true, true, true, true, true, true, true, true, true, true, false, false, false, false, false, false, false, false, false, false, false, false, false, false, false] rfl rfl (by kernel_rfl) (fun _ _ _ h => h) (Or.inr ⟨by rfl, rfl⟩) ?_ ?_
                  rotate_left
                  · simp only [Act.put, List.setIfInBounds_toArray, List.set_cons_zero, List.set_cons_succ, i64_w, i32_w]
                    rfl
                  refine pure_ (i := 12) (N := some 182) (v := undef) (a' := ?_) #[true, true, true, true, true, true, true, true, true, true, true, true, true, false, false, false, false, false, false, false, false, false, false, false, false, false, false] rfl rfl (by kernel_rfl) (fun _ _ _ h => h) (Or.inr ⟨by rfl, rfl⟩) ?_ ?_
                  rotate_left
                  · simp only [Act.put, List.setIfInBounds_toArray, List.set_cons_zero, List.set_cons_succ, i64_w, i32_w]
                    rfl
                  refine pure_ (i := 13) (N := some 183) (v := undef) (a' := ?_) #[true, true, true, true, true, true, true, true, true, true, true, true, true, true, false, false, false, false, false, false, false, false, false, false, false, false, false] rfl rfl (by kernel_rfl) (fun _ _ _ h => h) (Or.inr ⟨by rfl, rfl⟩) ?_ ?_
                  rotate_left
                  · simp only [Act.put, List.setIfInBounds_toArray, List.set_cons_zero, List.set_cons_succ, i64_w, i32_w]
                    rfl
                  refine pure_ (i := 14) (N := some 184) (v := undef) (a' := ?_) #[true, true, true, true, true, true, true, true, true, true, true, true, true, true, true, false, false, false, false, false, false, false, false, false, false, false, false] rfl rfl (by kernel_rfl) (fun _ _ _ h => h) (Or.inr ⟨by rfl, rfl⟩) ?_ ?_
                  rotate_left
                  · simp only [Act.put, List.setIfInBounds_toArray, List.set_cons_zero, List.set_cons_succ, i64_w, i32_w]
                    rfl
                  refine pure_ (i := 15) (N := some 185) (v := ?_) (a' := ?_) #[true, true, true, true, true, true, true, true, true, true, true, true, true, true, true, true, false, false, false, false, false, false, false, false, false, false, false] rfl rfl (by kernel_rfl) (fun _ _ _ h => h) (Or.inl ⟨by rfl, ?_⟩) ?_ ?_
                  rotate_left
                  · intro w'
                    go_simp
                    with_reducible rfl
                  rotate_left
                  · simp only [Act.put, List.setIfInBounds_toArray, List.set_cons_zero, List.set_cons_succ, i64_w, i32_w]
                    rfl
                  refine pure_ (i := 16) (N := some 186) (v := ?_) (a' := ?_) #[true, true, true, true, true, true, true, true, true, true, true, true, true, true, true, true, true, false, false, false, false, false, false, false, false, false, false] rfl rfl (by kernel_rfl) (fun _ _ _ h => h) (Or.inl ⟨by rfl, ?_⟩) ?_ ?_
                  rotate_left
                  · intro w'
                    go_simp
                    with_reducible rfl
                  rotate_left
                  · simp only [Act.put, List.setIfInBounds_toArray, List.set_cons_zero, List.set_cons_succ, i64_w, i32_w]
                    rfl
                  refine pure_ (i := 17) (N := some 187) (v := undef) (a' := ?_) #[true, true, true, true, true, true, true, true, true, true, true, true, true, true, true, true, true, true, false, false, false, false, false, false, false, false, false] rfl rfl (by kernel_rfl) (fun _ _ _ h => h) (Or.inr ⟨by rfl, rfl⟩) ?_ ?_
                  rotate_left
                  · simp only [Act.put, List.setIfInBounds_toArray, List.set_cons_zero, List.set_cons_succ, i64_w, i32_w]
                    rfl
                  refine pure_ (i := 18) (N := some 188) (v := undef) (a' := ?_) #[true, true, true, true, true, true, true, true, true, true, true, true, true, true, true, true, true, true, true, false, false, false, false, false, false, false, false] rfl rfl (by kernel_rfl) (fun _ _ _ h => h) (Or.inr ⟨by rfl, rfl⟩) ?_ ?_
                  rotate_left
                  · simp only [Act.put, List.setIfInBounds_toArray, List.set_cons_zero, List.set_cons_succ, i64_w, i32_w]
                    rfl
                  refine pure_ (i := 19) (N := some 189) (v := undef) (a' := ?_) #[true, true, true, true, true, true, true, true, true, true, true, true, true, true, true, true, true, true, true, true, false, false, false, false, false, false, false] rfl rfl (by kernel_rfl) (fun _ _ _ h => h) (Or.inr ⟨by rfl, rfl⟩) ?_ ?_
                  rotate_left
                  · simp only [Act.put, List.setIfInBounds_toArray, List.set_cons_zero, List.set_cons_succ, i64_w, i32_w]
                    rfl
                  refine pure_ (i := 20) (N := some 190) (v := undef) (a' := ?_) #[true, true, true, true, true, true, true, true, true, true, true, true, true, true, true, true, true, true, true, true, true, false, false, false, false, false, false] rfl rfl (by kernel_rfl) (fun _ _ _ h => h) (Or.inr ⟨by rfl, rfl⟩) ?_ ?_
                  rotate_left
                  · simp only [Act.put, List.setIfInBounds_toArray, List.set_cons_zero, List.set_cons_succ, i64_w, i32_w]
                    rfl
                  refine pure_ (i := 21) (N := some 191) (v := undef) (a' := ?_) #[true, true, true, true, true, true, true, true, true, true, true, true, true, true, true, true, true, true, true, true, true, true, false, false, false, false, false] rfl rfl (by kernel_rfl) (fun _ _ _ h => h) (Or.inr ⟨by rfl, rfl⟩) ?_ ?_
                  rotate_left
                  · simp only [Act.put, List.setIfInBounds_toArray, List.set_cons_zero, List.set_cons_succ, i64_w, i32_w]
                    rfl
                  refine pure_ (i := 22) (N := some 192) (v := undef) (a' := ?_) #[true, true, true, true, true, true, true, true, true, true, true, true, true, true, true, true, true, true, true, true, true, true, true, false, false, false, false] rfl rfl (by kernel_rfl) (fun _ _ _ h => h) (Or.inr ⟨by rfl, rfl⟩) ?_ ?_
                  rotate_left
                  · simp only [Act.put, List.setIfInBounds_toArray, List.set_cons_zero, List.set_cons_succ, i64_w, i32_w]
                    rfl
                  refine pure_ (i := 23) (N := some 193) (v := undef) (a' := ?_) #[true, true, true, true, true, true, true, true, true, true, true, true, true, true, true, true, true, true, true, true, true, true, true, true, false, false, false] rfl rfl (by kernel_rfl) (fun _ _ _ h => h) (Or.inr ⟨by rfl, rfl⟩) ?_ ?_
                  rotate_left
                  · simp only [Act.put, List.setIfInBounds_toArray, List.set_cons_zero, List.set_cons_succ, i64_w, i32_w]
                    rfl
                  refine pure_ (i := 24) (N := some 194) (v := undef) (a' := ?_) #[true, true, true, true, true, true, true, true, true, true, true, true, true, true, true, true, true, true, true, true, true, true, true, true, true, false, false] rfl rfl (by kernel_rfl) (fun _ _ _ h => h) (Or.inr ⟨by rfl, rfl⟩) ?_ ?_
                  rotate_left
                  · simp only [Act.put, List.setIfInBounds_toArray, List.set_cons_zero, List.set_cons_succ, i64_w, i32_w]
                    rfl
                  refine pure_ (i := 25) (N := some 195) (v := undef) (a' := ?_) #[true, true, true, true, true, true, true, true, true, true, true, true, true, true, true, true, true, true, true, true, true, true, true, true, true, true, false] rfl rfl (by kernel_rfl) (fun _ _ _ h => h) (Or.inr ⟨by rfl, rfl⟩) ?_ ?_
                  rotate_left
                  · simp only [Act.put, List.setIfInBounds_toArray, List.set_cons_zero, List.set_cons_succ, i64_w, i32_w]
                    rfl
                  refine pure_ (i := 26) (N := some 196) (v := ?_) (a' := ?_) #[true, true, true, true, true, true, true, true, true, true, true, true, true, true, true, true, true, true, true, true, true, true, true, true, true, true, true] rfl rfl (by kernel_rfl) (fun _ _ _ h => h) (Or.inl ⟨by rfl, ?_⟩) ?_ ?_
                  rotate_left
                  · intro w'
                    go_simp
                    with_reducible rfl
                  rotate_left
                  · simp only [Act.put, List.setIfInBounds_toArray, List.set_cons_zero, List.set_cons_succ, i64_w, i32_w]
                    rfl
                  refine done_ (by kernel_rfl) ?_
                  have HF := Lib.hid (HBQ.out.trans (hHeld.2.mono HBQ.out.size))
                  clear hHeld
                  go_wp2
                  go_roundg (gs.length - (q + 1))
                  case measure => have := HLQ.out; omega
                  case rel => exact ⟨q + 1, by simp, HLQ.out, by omega, HF⟩
              · have hltq : decide ((q : Int) < (gs.length : Int)) = false := decide_eq_false (by omega)
                go_wp2_with fail
                go_roundg (gs.length - (p + 1))
                case measure => omega
                case rel => exact ⟨p + 1, by simp, by omega, by omega, HBQ⟩
          · have hltp : decide ((p : Int) < (gs.length : Int)) = false := decide_eq_false (by omega)
            have HBE := Lib.hid (HSE.out.bel.trans (HBF.out.mono HSE.out.bel.size))
            go_wp2_with fail
            go_at_call 8
            refine (alive_calls _).mono ?_
            rintro ex wL ⟨rfl, hb⟩
            have HBL := Lib.hid (HBE.out.trans (hb.mono HBE.out.size))
            clear hb
            go_wp2
            go_ret
            exact ⟨rfl, HBL.out⟩
theorem holdApart_walk (a0 : Option Addr) (len0 cap0 : Nat) (w : World) (w0 : Sees Try.prog w 140737488351232 5 47 [.slice a0 len0 cap0]) :
    Calls Try.prog 7 #[.slice a0 len0 cap0] w fun e w' => e = .returned (.bool true) ∧ Below w.heap.size w w' := by
  obtain ⟨l, hl, hc, hC, hN⟩ := sees_acts (k := 2) w0
  subst hl
  exact apart_calls a0 cap0 l w hC hc hN
end Go.Proofs.Ytkcacfnefhakbaa.holdApart
