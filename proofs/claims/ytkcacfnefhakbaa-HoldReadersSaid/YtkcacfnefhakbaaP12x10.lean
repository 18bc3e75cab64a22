-- Written by a program of this session (wip/tools/printplus.py) over the kit's printer: some functions are given by hand.
import Derived.Test.YtkcacfnefhakbaaP12x0
import Derived.Test.YtkcacfnefhakbaaP12x2
import Derived.Test.YtkcacfnefhakbaaP12x3
import Derived.Test.YtkcacfnefhakbaaHoldAsk
import Derived.Test.YtkcacfnefhakbaaHoldAlive
namespace Go.Proofs.Ytkcacfnefhakbaa.P12
open Go.RowKit Go.Proofs.YtkcacfnefhakbaaW.PrintWords Go.Proofs.YtkcacfnefhakbaaW.PrintLast Go.Proofs.YtkcacfnefhakbaaW.PrintMore
attribute [local go_sem] max2_int min2_int max_two min_two max_three min_three max_four min_four   -- for this text's walks alone
set_option linter.unusedVariables false
set_option linter.unusedSimpArgs false

/-! ### lamellalaw12_HoldReaders: function 5 -/
mutual
def lamellalaw12_HoldReaders.j0 : Nat → Int → Bool → Int → Int → Int → Int → Bool → Bool → List (S40) → Option (Bool)
  | 0, _, _, _, _, _, _, _, _, _ => none
  | k + 1, x1, x34, x209000, x209001, x209002, x209003, x209004, x209005, x209006 => if x34 = true then ((lamellalaw12_alive.f).bind fun t211 => (some t211)) else ((hold_Ask.f x209000 x209001 x209002 x209003 x209004 x209005 x209006 x1 1).bind fun bt212 => (if bt212.2.2.2.2.2.2.2.2 = 0 then (lamellalaw12_HoldReaders.l0 k x1 (x209006.length : Int) bt212.2.2.2.2.2.2.2.1 0 x209000 x209001 x209002 x209003 x209004 x209005 x209006 bt212.1 bt212.2.1 bt212.2.2.1 bt212.2.2.2.1 bt212.2.2.2.2.1 bt212.2.2.2.2.2.1 bt212.2.2.2.2.2.2.1) else (some false)))
def lamellalaw12_HoldReaders.l0 : Nat → Int → Int → Int → Int → Int → Int → Int → Int → Bool → Bool → List (S40) → Int → Int → Int → Int → Bool → Bool → List (S40) → Option (Bool)
  | 0, _, _, _, _, _, _, _, _, _, _, _, _, _, _, _, _, _, _ => none
  | k + 1, x1, x5, x7, x9, x209000, x209001, x209002, x209003, x209004, x209005, x209006, x224000, x224001, x224002, x224003, x224004, x224005, x224006 => if x9 < x5 then (if 0 ≤ x9 then (if x9 < (x209006.length : Int) then ((hold_Mode.f k x224000 x224001 x224002 x224003 x224004 x224005 x224006 ((rd_T40 x209006 x9).f0)).bind fun t225 => (if t225 = ((rd_T40 x209006 x9).f1) then (lamellalaw12_HoldReaders.l0 k x1 x5 x7 (wrap64 (x9 + 1)) x209000 x209001 x209002 x209003 x209004 x209005 x209006 x224000 x224001 x224002 x224003 x224004 x224005 x224006) else (some false))) else (none)) else (none)) else (if x5 = 4 then ((hold_Mode.f k x209000 x209001 x209002 x209003 x209004 x209005 x209006 x1).bind fun t227 => (lamellalaw12_HoldReaders.j2 k x1 x7 (t227 == 0) x209000 x209001 x209002 x209003 x209004 x209005 x209006 x224000 x224001 x224002 x224003 x224004 x224005 x224006)) else (lamellalaw12_HoldReaders.j2 k x1 x7 false x209000 x209001 x209002 x209003 x209004 x209005 x209006 x224000 x224001 x224002 x224003 x224004 x224005 x224006))
def lamellalaw12_HoldReaders.j2 : Nat → Int → Int → Bool → Int → Int → Int → Int → Bool → Bool → List (S40) → Int → Int → Int → Int → Bool → Bool → List (S40) → Option (Bool)
  | 0, _, _, _, _, _, _, _, _, _, _, _, _, _, _, _, _, _ => none
  | k + 1, x1, x7, x75, x209000, x209001, x209002, x209003, x209004, x209005, x209006, x224000, x224001, x224002, x224003, x224004, x224005, x224006 => if x75 = true then ((lamellalaw12_alive.f).bind fun t228 => (if t228 = true then (some (x7 == 2)) else (some false))) else ((lamellalaw12_alive.f).bind fun t229 => (if t229 = true then (if x7 = 1 then ((hold_Mode.f k x224000 x224001 x224002 x224003 x224004 x224005 x224006 x1).bind fun t230 => (if t230 = 1 then (some (x224001 == x209001)) else (some false))) else (some false)) else (some false)))
end
def lamellalaw12_HoldReaders.f (k : Nat) (a0_0 : Int) (a0_1 : Int) (a0_2 : Int) (a0_3 : Int) (a0_4 : Bool) (a0_5 : Bool) (l0_6 : List (S40)) (a1 : Int) : Option (Bool) := (lamellalaw12_alive.f).bind fun t209 => (if t209 = true then (if (l0_6.length : Int) > 100 then (lamellalaw12_HoldReaders.j0 k a1 true a0_0 a0_1 a0_2 a0_3 a0_4 a0_5 l0_6) else ((hold_Right.f k a0_0 a0_1 a0_2 a0_3 a0_4 a0_5 l0_6).bind fun t210 => (if t210 = true then (if a0_4 = true then (if a0_5 = true then (lamellalaw12_HoldReaders.j0 k a1 true a0_0 a0_1 a0_2 a0_3 a0_4 a0_5 l0_6) else (lamellalaw12_HoldReaders.j0 k a1 (a0_2 == 2) a0_0 a0_1 a0_2 a0_3 a0_4 a0_5 l0_6)) else (lamellalaw12_HoldReaders.j0 k a1 true a0_0 a0_1 a0_2 a0_3 a0_4 a0_5 l0_6)) else (lamellalaw12_HoldReaders.j0 k a1 true a0_0 a0_1 a0_2 a0_3 a0_4 a0_5 l0_6)))) else (some false))
theorem lamellalaw12_HoldReaders.mono_l : ∀ k, (∀ y0 y1 y2 y3 y4 y5 y6 y7 y8, LeO (lamellalaw12_HoldReaders.j0 k y0 y1 y2 y3 y4 y5 y6 y7 y8) (lamellalaw12_HoldReaders.j0 (k + 1) y0 y1 y2 y3 y4 y5 y6 y7 y8)) ∧ (∀ y0 y1 y2 y3 y4 y5 y6 y7 y8 y9 y10 y11 y12 y13 y14 y15 y16 y17, LeO (lamellalaw12_HoldReaders.l0 k y0 y1 y2 y3 y4 y5 y6 y7 y8 y9 y10 y11 y12 y13 y14 y15 y16 y17) (lamellalaw12_HoldReaders.l0 (k + 1) y0 y1 y2 y3 y4 y5 y6 y7 y8 y9 y10 y11 y12 y13 y14 y15 y16 y17)) ∧ (∀ y0 y1 y2 y3 y4 y5 y6 y7 y8 y9 y10 y11 y12 y13 y14 y15 y16, LeO (lamellalaw12_HoldReaders.j2 k y0 y1 y2 y3 y4 y5 y6 y7 y8 y9 y10 y11 y12 y13 y14 y15 y16) (lamellalaw12_HoldReaders.j2 (k + 1) y0 y1 y2 y3 y4 y5 y6 y7 y8 y9 y10 y11 y12 y13 y14 y15 y16))
  | 0 => ⟨fun _ _ _ _ _ _ _ _ _ r h => by simp [lamellalaw12_HoldReaders.j0] at h, fun _ _ _ _ _ _ _ _ _ _ _ _ _ _ _ _ _ _ r h => by simp [lamellalaw12_HoldReaders.l0] at h, fun _ _ _ _ _ _ _ _ _ _ _ _ _ _ _ _ _ r h => by simp [lamellalaw12_HoldReaders.j2] at h⟩
  | k + 1 => by
    obtain ⟨ih0, ih1, ih2⟩ := lamellalaw12_HoldReaders.mono_l k
    refine ⟨?_, ?_, ?_⟩
    · intro y0 y1 y2 y3 y4 y5 y6 y7 y8
      unfold lamellalaw12_HoldReaders.j0
      repeat' first
      | (with_reducible exact ih0 _ _ _ _ _ _ _ _ _)
      | (with_reducible exact ih1 _ _ _ _ _ _ _ _ _ _ _ _ _ _ _ _ _ _)
      | (with_reducible exact ih2 _ _ _ _ _ _ _ _ _ _ _ _ _ _ _ _ _)
      | (with_reducible exact hold_Mode.mono _ _ _ _ _ _ _ _ _)
      | (with_reducible exact hold_Right.mono _ _ _ _ _ _ _ _)
      | (with_reducible exact LeO.refl _)
      | (with_reducible exact LeO.none _)
      | (with_reducible refine LeO.ite ?_ ?_)
      | (with_reducible refine LeO.bind ?_ (fun _ => ?_))
      | exact ih0 _ _ _ _ _ _ _ _ _
      | exact ih1 _ _ _ _ _ _ _ _ _ _ _ _ _ _ _ _ _ _
      | exact ih2 _ _ _ _ _ _ _ _ _ _ _ _ _ _ _ _ _
      | exact hold_Mode.mono _ _ _ _ _ _ _ _ _
      | exact hold_Right.mono _ _ _ _ _ _ _ _
      | exact LeO.none _
      | refine LeO.ite ?_ ?_
      | refine LeO.bind ?_ (fun _ => ?_)
    · intro y0 y1 y2 y3 y4 y5 y6 y7 y8 y9 y10 y11 y12 y13 y14 y15 y16 y17
      unfold lamellalaw12_HoldReaders.l0
      repeat' first
      | (with_reducible exact ih0 _ _ _ _ _ _ _ _ _)
      | (with_reducible exact ih1 _ _ _ _ _ _ _ _ _ _ _ _ _ _ _ _ _ _)
      | (with_reducible exact ih2 _ _ _ _ _ _ _ _ _ _ _ _ _ _ _ _ _)
      | (with_reducible exact hold_Mode.mono _ _ _ _ _ _ _ _ _)
      | (with_reducible exact hold_Right.mono _ _ _ _ _ _ _ _)
      | (with_reducible exact LeO.refl _)
      | (with_reducible exact LeO.none _)
      | (with_reducible refine LeO.ite ?_ ?_)
      | (with_reducible refine LeO.bind ?_ (fun _ => ?_))
      | exact ih0 _ _ _ _ _ _ _ _ _
      | exact ih1 _ _ _ _ _ _ _ _ _ _ _ _ _ _ _ _ _ _
      | exact ih2 _ _ _ _ _ _ _ _ _ _ _ _ _ _ _ _ _
      | exact hold_Mode.mono _ _ _ _ _ _ _ _ _
      | exact hold_Right.mono _ _ _ _ _ _ _ _
      | exact LeO.none _
      | refine LeO.ite ?_ ?_
      | refine LeO.bind ?_ (fun _ => ?_)
    · intro y0 y1 y2 y3 y4 y5 y6 y7 y8 y9 y10 y11 y12 y13 y14 y15 y16
      unfold lamellalaw12_HoldReaders.j2
      repeat' first
      | (with_reducible exact ih0 _ _ _ _ _ _ _ _ _)
      | (with_reducible exact ih1 _ _ _ _ _ _ _ _ _ _ _ _ _ _ _ _ _ _)
      | (with_reducible exact ih2 _ _ _ _ _ _ _ _ _ _ _ _ _ _ _ _ _)
      | (with_reducible exact hold_Mode.mono _ _ _ _ _ _ _ _ _)
      | (with_reducible exact hold_Right.mono _ _ _ _ _ _ _ _)
      | (with_reducible exact LeO.refl _)
      | (with_reducible exact LeO.none _)
      | (with_reducible refine LeO.ite ?_ ?_)
      | (with_reducible refine LeO.bind ?_ (fun _ => ?_))
      | exact ih0 _ _ _ _ _ _ _ _ _
      | exact ih1 _ _ _ _ _ _ _ _ _ _ _ _ _ _ _ _ _ _
      | exact ih2 _ _ _ _ _ _ _ _ _ _ _ _ _ _ _ _ _
      | exact hold_Mode.mono _ _ _ _ _ _ _ _ _
      | exact hold_Right.mono _ _ _ _ _ _ _ _
      | exact LeO.none _
      | refine LeO.ite ?_ ?_
      | refine LeO.bind ?_ (fun _ => ?_)
theorem lamellalaw12_HoldReaders.mono : ∀ a0 a1 a2 a3 a4 a5 a6 a7 k, LeO (lamellalaw12_HoldReaders.f k a0 a1 a2 a3 a4 a5 a6 a7) (lamellalaw12_HoldReaders.f (k + 1) a0 a1 a2 a3 a4 a5 a6 a7) := by
  intro a0 a1 a2 a3 a4 a5 a6 a7 k
  obtain ⟨ih0, ih1, ih2⟩ := lamellalaw12_HoldReaders.mono_l k
  unfold lamellalaw12_HoldReaders.f
  repeat' first
      | (with_reducible exact ih0 _ _ _ _ _ _ _ _ _)
      | (with_reducible exact ih1 _ _ _ _ _ _ _ _ _ _ _ _ _ _ _ _ _ _)
      | (with_reducible exact ih2 _ _ _ _ _ _ _ _ _ _ _ _ _ _ _ _ _)
      | (with_reducible exact hold_Mode.mono _ _ _ _ _ _ _ _ _)
      | (with_reducible exact hold_Right.mono _ _ _ _ _ _ _ _)
      | (with_reducible exact LeO.refl _)
      | (with_reducible exact LeO.none _)
      | (with_reducible refine LeO.ite ?_ ?_)
      | (with_reducible refine LeO.bind ?_ (fun _ => ?_))
      | exact ih0 _ _ _ _ _ _ _ _ _
      | exact ih1 _ _ _ _ _ _ _ _ _ _ _ _ _ _ _ _ _ _
      | exact ih2 _ _ _ _ _ _ _ _ _ _ _ _ _ _ _ _ _
      | exact hold_Mode.mono _ _ _ _ _ _ _ _ _
      | exact hold_Right.mono _ _ _ _ _ _ _ _
      | exact LeO.none _
      | refine LeO.ite ?_ ?_
      | refine LeO.bind ?_ (fun _ => ?_)
def lamellalaw12_HoldReaders.T12 : Bool × List (List Nat × List Nat) := (true, [([], []), ([], []), ([1], [1]), ([], []), ([2, 3], [2, 3]), ([4], [4]), ([5], [5]), ([0, 6], [0, 6]), ([], []), ([8], [8]), ([], []), ([9, 10], [9, 10]), ([11], [11]), ([12], [12]), ([7, 13], [7, 13])])
def lamellalaw12_HoldReaders.B12 : List Nat := [0, 0, 2, 0, 14, 30, 62, 127, 0, 256, 0, 1792, 3840, 7936, 16383]
theorem lamellalaw12_HoldReaders.tab12 : rtab .any (opsOf Try.f5 12) = lamellalaw12_HoldReaders.T12 := by kernel_rfl
theorem lamellalaw12_HoldReaders.bits12 : waitsOk lamellalaw12_HoldReaders.T12.2 lamellalaw12_HoldReaders.B12 = true := by kernel_rfl
set_option maxHeartbeats 8000000 in
set_option maxRecDepth 100000 in
theorem lamellalaw12_HoldReaders.calls (k : Nat) (a0_0 : Int) (a0_1 : Int) (a0_2 : Int) (a0_3 : Int) (a0_4 : Bool) (a0_5 : Bool) (A0_6 : Option Addr) (c0_6 : Nat) (l0_6 : List (S40)) (a1 : Int) (r : Bool) (w : World) (hr0_6 : Kd.C k40 w A0_6 l0_6.length l0_6) (hc0_6 : l0_6.length ≤ c0_6) (h : lamellalaw12_HoldReaders.f k a0_0 a0_1 a0_2 a0_3 a0_4 a0_5 l0_6 a1 = some r) :
    Calls Try.prog 5 #[.agg #[.int .u32 a0_0, .int .u32 a0_1, .int .u32 a0_2, .int .u32 a0_3, .bool a0_4, .bool a0_5, .slice A0_6 l0_6.length c0_6], .int .u32 a1] w fun e w' => e = .returned (.bool r) ∧ Below w.heap.size w w' := by
  have hu25 := Try.underlying25
  have HR0_6 := Aside0.mk hr0_6
  have HC0_6 := Aside0.mk hc0_6
  clear hr0_6 hc0_6
  have HB := Aside0.mk (Below.refl w.heap.size w)
  have H : ((lamellalaw12_alive.f).bind fun t209 => (if t209 = true then (if (l0_6.length : Int) > 100 then (lamellalaw12_HoldReaders.j0 k a1 true a0_0 a0_1 a0_2 a0_3 a0_4 a0_5 l0_6) else ((hold_Right.f k a0_0 a0_1 a0_2 a0_3 a0_4 a0_5 l0_6).bind fun t210 => (if t210 = true then (if a0_4 = true then (if a0_5 = true then (lamellalaw12_HoldReaders.j0 k a1 true a0_0 a0_1 a0_2 a0_3 a0_4 a0_5 l0_6) else (lamellalaw12_HoldReaders.j0 k a1 (a0_2 == 2) a0_0 a0_1 a0_2 a0_3 a0_4 a0_5 l0_6)) else (lamellalaw12_HoldReaders.j0 k a1 true a0_0 a0_1 a0_2 a0_3 a0_4 a0_5 l0_6)) else (lamellalaw12_HoldReaders.j0 k a1 true a0_0 a0_1 a0_2 a0_3 a0_4 a0_5 l0_6)))) else (some false))) = some r := h
  clear h
  replace H := Option.bind_eq_some_iff.mp H
  obtain ⟨t209, A30, H⟩ := H
  replace H : (if t209 = true then (if (l0_6.length : Int) > 100 then (lamellalaw12_HoldReaders.j0 k a1 true a0_0 a0_1 a0_2 a0_3 a0_4 a0_5 l0_6) else ((hold_Right.f k a0_0 a0_1 a0_2 a0_3 a0_4 a0_5 l0_6).bind fun t210 => (if t210 = true then (if a0_4 = true then (if a0_5 = true then (lamellalaw12_HoldReaders.j0 k a1 true a0_0 a0_1 a0_2 a0_3 a0_4 a0_5 l0_6) else (lamellalaw12_HoldReaders.j0 k a1 (a0_2 == 2) a0_0 a0_1 a0_2 a0_3 a0_4 a0_5 l0_6)) else (lamellalaw12_HoldReaders.j0 k a1 true a0_0 a0_1 a0_2 a0_3 a0_4 a0_5 l0_6)) else (lamellalaw12_HoldReaders.j0 k a1 true a0_0 a0_1 a0_2 a0_3 a0_4 a0_5 l0_6)))) else (some false)) = some r := H
  have A3 := Aside0.mk A30
  clear A30
  by_cases c4 : t209 = true
  · subst c4
    have H1 : (if (l0_6.length : Int) > 100 then (lamellalaw12_HoldReaders.j0 k a1 true a0_0 a0_1 a0_2 a0_3 a0_4 a0_5 l0_6) else ((hold_Right.f k a0_0 a0_1 a0_2 a0_3 a0_4 a0_5 l0_6).bind fun t210 => (if t210 = true then (if a0_4 = true then (if a0_5 = true then (lamellalaw12_HoldReaders.j0 k a1 true a0_0 a0_1 a0_2 a0_3 a0_4 a0_5 l0_6) else (lamellalaw12_HoldReaders.j0 k a1 (a0_2 == 2) a0_0 a0_1 a0_2 a0_3 a0_4 a0_5 l0_6)) else (lamellalaw12_HoldReaders.j0 k a1 true a0_0 a0_1 a0_2 a0_3 a0_4 a0_5 l0_6)) else (lamellalaw12_HoldReaders.j0 k a1 true a0_0 a0_1 a0_2 a0_3 a0_4 a0_5 l0_6)))) = some r := by rw [if_pos rfl] at H; exact H
    clear H
    have H := H1
    clear H1
    have HC5 := Aside0.mk H
    clear H
    go_enter Try.func5, Try.ntmps5
    go_upto_region 3 with (first | ((with_reducible refine gate_dst (N := 2) rfl ?_); refine box_event ?hg (N := 2) ?hd (cs := #[.int .u32 a0_0, .int .u32 a0_1, .int .u32 a0_2, .int .u32 a0_3, .bool a0_4, .bool a0_5, .slice A0_6 l0_6.length c0_6]) (t := 25) ?hr ?_; (case hd => rfl); (case hg => rfl); (case hr => first | (go_simp; done) | (go_simp; rfl)); intro gb208 hg w6 hbox hb; have n0_ := Aside0.mk (below_step (by repeat (first | (with_reducible first | exact HB.out | apply below_alloc | apply pw_below_drewN | apply below_drew1) | exact HB.out)) hb); have n1_ := Aside0.mk (hbox); have n2_ := Aside0.mk ((by rw [hg]; exact (below_size (by repeat (first | (with_reducible first | exact HB.out | apply below_alloc | apply pw_below_drewN | apply below_drew1) | exact HB.out))) : w.heap.size ≤ gb208)); have n3_ := Aside0.mk ((by rw [hg]; exact (below_size (by repeat (first | (with_reducible first | exact HB.out | apply below_alloc | apply pw_below_drewN | apply below_drew1) | exact HB.out))) : w.heap.size ≤ gb208)); clear HB; have HB := n0_; have BK208 := n1_; have GW208 := n2_; have GE208 := n3_; clear n0_ n1_ n2_ n3_; clear hb hbox hg) | ((with_reducible refine gate_callee (f := 8) rfl ?_); refine goesL_ (some 10) rfl rfl Try.func8 (by kernel_rfl) rfl #[] rfl (by (try simp only [List.map_toArray, List.map_cons, List.map_nil]); first | done | rfl | (simp only [List.length_drop, List.length_take]; rfl)) ?_; (with_reducible refine (lamellalaw12_alive.calls  true _ A3.out).mono ?_); rintro e w7 ⟨rfl, hb⟩; refine ⟨_, rfl, ?_⟩; have n0_ := Aside0.mk (blk_below (g := gb208) (o := .cells #[.int .u32 a0_0, .int .u32 a0_1, .int .u32 a0_2, .int .u32 a0_3, .bool a0_4, .bool a0_5, .slice A0_6 l0_6.length c0_6] 25 (0, 0)) (by (with_reducible repeat (first | refine blk_drewN ?_ _ | refine blk_drew ?_ | refine blk_alloc ?_ _)); exact BK208.out) hb); have n1_ := Aside0.mk (below_step (by repeat (first | (with_reducible first | exact HB.out | apply below_alloc | apply pw_below_drewN | apply below_drew1 | refine below_set ?_ GE208.out) | exact HB.out)) hb); clear BK208; clear HB; have BK208 := n0_; have HB := n1_; clear n0_ n1_; (try clear hb); (try clear hb2); (try clear hk); (try clear hi)))
    (try simp only [Act.put, List.setIfInBounds_toArray, List.set_cons_zero, List.set_cons_succ])
    go_cut [34] (fun v34 wc => ∃ (kq : Nat) (x34_4 : Bool), v34 = .bool x34_4 ∧ Aside0 (lamellalaw12_HoldReaders.j0 kq a1 x34_4 a0_0 a0_1 a0_2 a0_3 a0_4 a0_5 l0_6 = some r) ∧ Aside0 (kq ≤ k) ∧ Aside0 (wc.heap[gb208]? = some (.cells #[.int .u32 a0_0, .int .u32 a0_1, .int .u32 a0_2, .int .u32 a0_3, .bool a0_4, .bool a0_5, (.slice A0_6 l0_6.length c0_6)] 25 (0, 0))) ∧ Aside0 (Below w.heap.size w wc))
    case first =>
      have H := HC5.out
      clear HC5
      by_cases c8 : (l0_6.length : Int) > 100
      · rw [if_pos c8] at H
        have c8b0 : decide (100 < (l0_6.length : Int)) = true := decide_eq_true c8
        have c8b1 : decide (100 < l0_6.length) = true := decide_eq_true (by omega)
        clear c8
        (first | rw [c8b0] | (simp only [i64_w, i32_w]; rw [c8b0]) | skip)
        have H' := Aside0.mk H
        clear H
        have hcz9_0 : w7.cell? ⟨gb208, 0, none⟩ = some (.int .u32 a0_0) := (blk_cell BK208.out 0).trans rfl
        have hcz9_1 : w7.cell? ⟨gb208, 1, none⟩ = some (.int .u32 a0_1) := (blk_cell BK208.out 1).trans rfl
        have hcz9_2 : w7.cell? ⟨gb208, 2, none⟩ = some (.int .u32 a0_2) := (blk_cell BK208.out 2).trans rfl
        have hcz9_3 : w7.cell? ⟨gb208, 3, none⟩ = some (.int .u32 a0_3) := (blk_cell BK208.out 3).trans rfl
        have hcz9_4 : w7.cell? ⟨gb208, 4, none⟩ = some (.bool a0_4) := (blk_cell BK208.out 4).trans rfl
        have hcz9_5 : w7.cell? ⟨gb208, 5, none⟩ = some (.bool a0_5) := (blk_cell BK208.out 5).trans rfl
        have hcz9_6 : w7.cell? ⟨gb208, 6, none⟩ = some (.slice A0_6 l0_6.length c0_6) := (blk_cell BK208.out 6).trans rfl
        have hfz9_0 := blk_frozen BK208.out 0
        have hfz9_1 := blk_frozen BK208.out 1
        have hfz9_2 := blk_frozen BK208.out 2
        have hfz9_3 := blk_frozen BK208.out 3
        have hfz9_4 := blk_frozen BK208.out 4
        have hfz9_5 := blk_frozen BK208.out 5
        have hfz9_6 := blk_frozen BK208.out 6
        go_wp2
        go_meet
        case rel => exact ⟨_, (true), (by first | rfl | (simp; done) | (simp [*]; done)), H', ⟨by first | omega | exact Nat.le_refl _⟩, ⟨by (with_reducible repeat (first | refine blk_drewN ?_ _ | refine blk_drew ?_ | refine blk_alloc ?_ _)); exact BK208.out⟩, ⟨by repeat (first | (with_reducible first | exact HB.out | apply below_alloc | apply pw_below_drewN | apply below_drew1 | refine below_set ?_ GE208.out) | exact HB.out)⟩⟩
      · rw [if_neg c8] at H
        have c8b0 : decide (100 < (l0_6.length : Int)) = false := decide_eq_false c8
        have c8b1 : decide (100 < l0_6.length) = false := decide_eq_false (by omega)
        clear c8
        (first | rw [c8b0] | (simp only [i64_w, i32_w]; rw [c8b0]) | skip)
        replace H := Option.bind_eq_some_iff.mp H
        obtain ⟨t210, A100, H⟩ := H
        replace H : (if t210 = true then (if a0_4 = true then (if a0_5 = true then (lamellalaw12_HoldReaders.j0 k a1 true a0_0 a0_1 a0_2 a0_3 a0_4 a0_5 l0_6) else (lamellalaw12_HoldReaders.j0 k a1 (a0_2 == 2) a0_0 a0_1 a0_2 a0_3 a0_4 a0_5 l0_6)) else (lamellalaw12_HoldReaders.j0 k a1 true a0_0 a0_1 a0_2 a0_3 a0_4 a0_5 l0_6)) else (lamellalaw12_HoldReaders.j0 k a1 true a0_0 a0_1 a0_2 a0_3 a0_4 a0_5 l0_6)) = some r := H
        have A10 := Aside0.mk A100
        clear A100
        by_cases c11 : t210 = true
        · subst c11
          have H1 : (if a0_4 = true then (if a0_5 = true then (lamellalaw12_HoldReaders.j0 k a1 true a0_0 a0_1 a0_2 a0_3 a0_4 a0_5 l0_6) else (lamellalaw12_HoldReaders.j0 k a1 (a0_2 == 2) a0_0 a0_1 a0_2 a0_3 a0_4 a0_5 l0_6)) else (lamellalaw12_HoldReaders.j0 k a1 true a0_0 a0_1 a0_2 a0_3 a0_4 a0_5 l0_6)) = some r := by rw [if_pos rfl] at H; exact H
          clear H
          have H := H1
          clear H1
          by_cases c12 : a0_4 = true
          · subst c12
            have H1 : (if a0_5 = true then (lamellalaw12_HoldReaders.j0 k a1 true a0_0 a0_1 a0_2 a0_3 true a0_5 l0_6) else (lamellalaw12_HoldReaders.j0 k a1 (a0_2 == 2) a0_0 a0_1 a0_2 a0_3 true a0_5 l0_6)) = some r := by rw [if_pos rfl] at H; exact H
            clear H
            have H := H1
            clear H1
            by_cases c13 : a0_5 = true
            · subst c13
              have H1 : (lamellalaw12_HoldReaders.j0 k a1 true a0_0 a0_1 a0_2 a0_3 true true l0_6) = some r := by rw [if_pos rfl] at H; exact H
              clear H
              have H := H1
              clear H1
              have H' := Aside0.mk H
              clear H
              have hcz14_0 : w7.cell? ⟨gb208, 0, none⟩ = some (.int .u32 a0_0) := (blk_cell BK208.out 0).trans rfl
              have hcz14_1 : w7.cell? ⟨gb208, 1, none⟩ = some (.int .u32 a0_1) := (blk_cell BK208.out 1).trans rfl
              have hcz14_2 : w7.cell? ⟨gb208, 2, none⟩ = some (.int .u32 a0_2) := (blk_cell BK208.out 2).trans rfl
              have hcz14_3 : w7.cell? ⟨gb208, 3, none⟩ = some (.int .u32 a0_3) := (blk_cell BK208.out 3).trans rfl
              have hcz14_4 : w7.cell? ⟨gb208, 4, none⟩ = some (.bool true) := (blk_cell BK208.out 4).trans rfl
              have hcz14_5 : w7.cell? ⟨gb208, 5, none⟩ = some (.bool true) := (blk_cell BK208.out 5).trans rfl
              have hcz14_6 : w7.cell? ⟨gb208, 6, none⟩ = some (.slice A0_6 l0_6.length c0_6) := (blk_cell BK208.out 6).trans rfl
              have hfz14_0 := blk_frozen BK208.out 0
              have hfz14_1 := blk_frozen BK208.out 1
              have hfz14_2 := blk_frozen BK208.out 2
              have hfz14_3 := blk_frozen BK208.out 3
              have hfz14_4 := blk_frozen BK208.out 4
              have hfz14_5 := blk_frozen BK208.out 5
              have hfz14_6 := blk_frozen BK208.out 6
              go_wp2_with (first | (go_at_call 9; (with_reducible refine (hold_Right.calls k a0_0 a0_1 a0_2 a0_3 true true _ _ l0_6 true _ ?side1 ?side2 A10.out).mono ?_); (case side1 => repeat (first | exact (Kd.C_below HR0_6.out HB.out) | (with_reducible refine Kd.C_alloc ?_ _) | (with_reducible refine Kd.C_drewN ?_ _) | (with_reducible refine Kd.C_drew ?_))); (case side2 => exact HC0_6.out); rintro e w15 ⟨rfl, hb⟩; have n0_ := Aside0.mk (blk_below (g := gb208) (o := .cells #[.int .u32 a0_0, .int .u32 a0_1, .int .u32 a0_2, .int .u32 a0_3, .bool true, .bool true, .slice A0_6 l0_6.length c0_6] 25 (0, 0)) (by (with_reducible repeat (first | refine blk_drewN ?_ _ | refine blk_drew ?_ | refine blk_alloc ?_ _)); exact BK208.out) hb); have n1_ := Aside0.mk (below_step (by repeat (first | (with_reducible first | exact HB.out | apply below_alloc | apply pw_below_drewN | apply below_drew1 | refine below_set ?_ GE208.out) | exact HB.out)) hb); clear BK208; clear HB; have BK208 := n0_; have HB := n1_; clear n0_ n1_; (try clear hb); (try clear hb2); (try clear hk); (try clear hi); have hcz16_0 : w15.cell? ⟨gb208, 0, none⟩ = some (.int .u32 a0_0) := (blk_cell BK208.out 0).trans rfl; have hcz16_1 : w15.cell? ⟨gb208, 1, none⟩ = some (.int .u32 a0_1) := (blk_cell BK208.out 1).trans rfl; have hcz16_2 : w15.cell? ⟨gb208, 2, none⟩ = some (.int .u32 a0_2) := (blk_cell BK208.out 2).trans rfl; have hcz16_3 : w15.cell? ⟨gb208, 3, none⟩ = some (.int .u32 a0_3) := (blk_cell BK208.out 3).trans rfl; have hcz16_4 : w15.cell? ⟨gb208, 4, none⟩ = some (.bool true) := (blk_cell BK208.out 4).trans rfl; have hcz16_5 : w15.cell? ⟨gb208, 5, none⟩ = some (.bool true) := (blk_cell BK208.out 5).trans rfl; have hcz16_6 : w15.cell? ⟨gb208, 6, none⟩ = some (.slice A0_6 l0_6.length c0_6) := (blk_cell BK208.out 6).trans rfl; have hfz16_0 := blk_frozen BK208.out 0; have hfz16_1 := blk_frozen BK208.out 1; have hfz16_2 := blk_frozen BK208.out 2; have hfz16_3 := blk_frozen BK208.out 3; have hfz16_4 := blk_frozen BK208.out 4; have hfz16_5 := blk_frozen BK208.out 5; have hfz16_6 := blk_frozen BK208.out 6))
              go_meet
              case rel => exact ⟨_, (true), (by first | rfl | (simp; done) | (simp [*]; done)), H', ⟨by first | omega | exact Nat.le_refl _⟩, ⟨by (with_reducible repeat (first | refine blk_drewN ?_ _ | refine blk_drew ?_ | refine blk_alloc ?_ _)); exact BK208.out⟩, ⟨by repeat (first | (with_reducible first | exact HB.out | apply below_alloc | apply pw_below_drewN | apply below_drew1 | refine below_set ?_ GE208.out) | exact HB.out)⟩⟩
            · replace c13 := Bool.eq_false_iff.mpr c13
              subst c13
              have H1 : (lamellalaw12_HoldReaders.j0 k a1 (a0_2 == 2) a0_0 a0_1 a0_2 a0_3 true false l0_6) = some r := by rw [if_neg (show ¬ (false = true) by decide)] at H; exact H
              clear H
              have H := H1
              clear H1
              have H' := Aside0.mk H
              clear H
              have hcz17_0 : w7.cell? ⟨gb208, 0, none⟩ = some (.int .u32 a0_0) := (blk_cell BK208.out 0).trans rfl
              have hcz17_1 : w7.cell? ⟨gb208, 1, none⟩ = some (.int .u32 a0_1) := (blk_cell BK208.out 1).trans rfl
              have hcz17_2 : w7.cell? ⟨gb208, 2, none⟩ = some (.int .u32 a0_2) := (blk_cell BK208.out 2).trans rfl
              have hcz17_3 : w7.cell? ⟨gb208, 3, none⟩ = some (.int .u32 a0_3) := (blk_cell BK208.out 3).trans rfl
              have hcz17_4 : w7.cell? ⟨gb208, 4, none⟩ = some (.bool true) := (blk_cell BK208.out 4).trans rfl
              have hcz17_5 : w7.cell? ⟨gb208, 5, none⟩ = some (.bool false) := (blk_cell BK208.out 5).trans rfl
              have hcz17_6 : w7.cell? ⟨gb208, 6, none⟩ = some (.slice A0_6 l0_6.length c0_6) := (blk_cell BK208.out 6).trans rfl
              have hfz17_0 := blk_frozen BK208.out 0
              have hfz17_1 := blk_frozen BK208.out 1
              have hfz17_2 := blk_frozen BK208.out 2
              have hfz17_3 := blk_frozen BK208.out 3
              have hfz17_4 := blk_frozen BK208.out 4
              have hfz17_5 := blk_frozen BK208.out 5
              have hfz17_6 := blk_frozen BK208.out 6
              go_wp2_with (first | (go_at_call 9; (with_reducible refine (hold_Right.calls k a0_0 a0_1 a0_2 a0_3 true false _ _ l0_6 true _ ?side1 ?side2 A10.out).mono ?_); (case side1 => repeat (first | exact (Kd.C_below HR0_6.out HB.out) | (with_reducible refine Kd.C_alloc ?_ _) | (with_reducible refine Kd.C_drewN ?_ _) | (with_reducible refine Kd.C_drew ?_))); (case side2 => exact HC0_6.out); rintro e w18 ⟨rfl, hb⟩; have n0_ := Aside0.mk (blk_below (g := gb208) (o := .cells #[.int .u32 a0_0, .int .u32 a0_1, .int .u32 a0_2, .int .u32 a0_3, .bool true, .bool false, .slice A0_6 l0_6.length c0_6] 25 (0, 0)) (by (with_reducible repeat (first | refine blk_drewN ?_ _ | refine blk_drew ?_ | refine blk_alloc ?_ _)); exact BK208.out) hb); have n1_ := Aside0.mk (below_step (by repeat (first | (with_reducible first | exact HB.out | apply below_alloc | apply pw_below_drewN | apply below_drew1 | refine below_set ?_ GE208.out) | exact HB.out)) hb); clear BK208; clear HB; have BK208 := n0_; have HB := n1_; clear n0_ n1_; (try clear hb); (try clear hb2); (try clear hk); (try clear hi); have hcz19_0 : w18.cell? ⟨gb208, 0, none⟩ = some (.int .u32 a0_0) := (blk_cell BK208.out 0).trans rfl; have hcz19_1 : w18.cell? ⟨gb208, 1, none⟩ = some (.int .u32 a0_1) := (blk_cell BK208.out 1).trans rfl; have hcz19_2 : w18.cell? ⟨gb208, 2, none⟩ = some (.int .u32 a0_2) := (blk_cell BK208.out 2).trans rfl; have hcz19_3 : w18.cell? ⟨gb208, 3, none⟩ = some (.int .u32 a0_3) := (blk_cell BK208.out 3).trans rfl; have hcz19_4 : w18.cell? ⟨gb208, 4, none⟩ = some (.bool true) := (blk_cell BK208.out 4).trans rfl; have hcz19_5 : w18.cell? ⟨gb208, 5, none⟩ = some (.bool false) := (blk_cell BK208.out 5).trans rfl; have hcz19_6 : w18.cell? ⟨gb208, 6, none⟩ = some (.slice A0_6 l0_6.length c0_6) := (blk_cell BK208.out 6).trans rfl; have hfz19_0 := blk_frozen BK208.out 0; have hfz19_1 := blk_frozen BK208.out 1; have hfz19_2 := blk_frozen BK208.out 2; have hfz19_3 := blk_frozen BK208.out 3; have hfz19_4 := blk_frozen BK208.out 4; have hfz19_5 := blk_frozen BK208.out 5; have hfz19_6 := blk_frozen BK208.out 6))
              go_meet
              case rel => exact ⟨_, ((a0_2 == 2)), (by first | rfl | (simp; done) | (simp [*]; done)), H', ⟨by first | omega | exact Nat.le_refl _⟩, ⟨by (with_reducible repeat (first | refine blk_drewN ?_ _ | refine blk_drew ?_ | refine blk_alloc ?_ _)); exact BK208.out⟩, ⟨by repeat (first | (with_reducible first | exact HB.out | apply below_alloc | apply pw_below_drewN | apply below_drew1 | refine below_set ?_ GE208.out) | exact HB.out)⟩⟩
          · replace c12 := Bool.eq_false_iff.mpr c12
            subst c12
            have H1 : (lamellalaw12_HoldReaders.j0 k a1 true a0_0 a0_1 a0_2 a0_3 false a0_5 l0_6) = some r := by rw [if_neg (show ¬ (false = true) by decide)] at H; exact H
            clear H
            have H := H1
            clear H1
            have H' := Aside0.mk H
            clear H
            have hcz20_0 : w7.cell? ⟨gb208, 0, none⟩ = some (.int .u32 a0_0) := (blk_cell BK208.out 0).trans rfl
            have hcz20_1 : w7.cell? ⟨gb208, 1, none⟩ = some (.int .u32 a0_1) := (blk_cell BK208.out 1).trans rfl
            have hcz20_2 : w7.cell? ⟨gb208, 2, none⟩ = some (.int .u32 a0_2) := (blk_cell BK208.out 2).trans rfl
            have hcz20_3 : w7.cell? ⟨gb208, 3, none⟩ = some (.int .u32 a0_3) := (blk_cell BK208.out 3).trans rfl
            have hcz20_4 : w7.cell? ⟨gb208, 4, none⟩ = some (.bool false) := (blk_cell BK208.out 4).trans rfl
            have hcz20_5 : w7.cell? ⟨gb208, 5, none⟩ = some (.bool a0_5) := (blk_cell BK208.out 5).trans rfl
            have hcz20_6 : w7.cell? ⟨gb208, 6, none⟩ = some (.slice A0_6 l0_6.length c0_6) := (blk_cell BK208.out 6).trans rfl
            have hfz20_0 := blk_frozen BK208.out 0
            have hfz20_1 := blk_frozen BK208.out 1
            have hfz20_2 := blk_frozen BK208.out 2
            have hfz20_3 := blk_frozen BK208.out 3
            have hfz20_4 := blk_frozen BK208.out 4
            have hfz20_5 := blk_frozen BK208.out 5
            have hfz20_6 := blk_frozen BK208.out 6
            go_wp2_with (first | (go_at_call 9; (with_reducible refine (hold_Right.calls k a0_0 a0_1 a0_2 a0_3 false a0_5 _ _ l0_6 true _ ?side1 ?side2 A10.out).mono ?_); (case side1 => repeat (first | exact (Kd.C_below HR0_6.out HB.out) | (with_reducible refine Kd.C_alloc ?_ _) | (with_reducible refine Kd.C_drewN ?_ _) | (with_reducible refine Kd.C_drew ?_))); (case side2 => exact HC0_6.out); rintro e w21 ⟨rfl, hb⟩; have n0_ := Aside0.mk (blk_below (g := gb208) (o := .cells #[.int .u32 a0_0, .int .u32 a0_1, .int .u32 a0_2, .int .u32 a0_3, .bool false, .bool a0_5, .slice A0_6 l0_6.length c0_6] 25 (0, 0)) (by (with_reducible repeat (first | refine blk_drewN ?_ _ | refine blk_drew ?_ | refine blk_alloc ?_ _)); exact BK208.out) hb); have n1_ := Aside0.mk (below_step (by repeat (first | (with_reducible first | exact HB.out | apply below_alloc | apply pw_below_drewN | apply below_drew1 | refine below_set ?_ GE208.out) | exact HB.out)) hb); clear BK208; clear HB; have BK208 := n0_; have HB := n1_; clear n0_ n1_; (try clear hb); (try clear hb2); (try clear hk); (try clear hi); have hcz22_0 : w21.cell? ⟨gb208, 0, none⟩ = some (.int .u32 a0_0) := (blk_cell BK208.out 0).trans rfl; have hcz22_1 : w21.cell? ⟨gb208, 1, none⟩ = some (.int .u32 a0_1) := (blk_cell BK208.out 1).trans rfl; have hcz22_2 : w21.cell? ⟨gb208, 2, none⟩ = some (.int .u32 a0_2) := (blk_cell BK208.out 2).trans rfl; have hcz22_3 : w21.cell? ⟨gb208, 3, none⟩ = some (.int .u32 a0_3) := (blk_cell BK208.out 3).trans rfl; have hcz22_4 : w21.cell? ⟨gb208, 4, none⟩ = some (.bool false) := (blk_cell BK208.out 4).trans rfl; have hcz22_5 : w21.cell? ⟨gb208, 5, none⟩ = some (.bool a0_5) := (blk_cell BK208.out 5).trans rfl; have hcz22_6 : w21.cell? ⟨gb208, 6, none⟩ = some (.slice A0_6 l0_6.length c0_6) := (blk_cell BK208.out 6).trans rfl; have hfz22_0 := blk_frozen BK208.out 0; have hfz22_1 := blk_frozen BK208.out 1; have hfz22_2 := blk_frozen BK208.out 2; have hfz22_3 := blk_frozen BK208.out 3; have hfz22_4 := blk_frozen BK208.out 4; have hfz22_5 := blk_frozen BK208.out 5; have hfz22_6 := blk_frozen BK208.out 6))
            go_meet
            case rel => exact ⟨_, (true), (by first | rfl | (simp; done) | (simp [*]; done)), H', ⟨by first | omega | exact Nat.le_refl _⟩, ⟨by (with_reducible repeat (first | refine blk_drewN ?_ _ | refine blk_drew ?_ | refine blk_alloc ?_ _)); exact BK208.out⟩, ⟨by repeat (first | (with_reducible first | exact HB.out | apply below_alloc | apply pw_below_drewN | apply below_drew1 | refine below_set ?_ GE208.out) | exact HB.out)⟩⟩
        · replace c11 := Bool.eq_false_iff.mpr c11
          subst c11
          have H1 : (lamellalaw12_HoldReaders.j0 k a1 true a0_0 a0_1 a0_2 a0_3 a0_4 a0_5 l0_6) = some r := by rw [if_neg (show ¬ (false = true) by decide)] at H; exact H
          clear H
          have H := H1
          clear H1
          have H' := Aside0.mk H
          clear H
          have hcz23_0 : w7.cell? ⟨gb208, 0, none⟩ = some (.int .u32 a0_0) := (blk_cell BK208.out 0).trans rfl
          have hcz23_1 : w7.cell? ⟨gb208, 1, none⟩ = some (.int .u32 a0_1) := (blk_cell BK208.out 1).trans rfl
          have hcz23_2 : w7.cell? ⟨gb208, 2, none⟩ = some (.int .u32 a0_2) := (blk_cell BK208.out 2).trans rfl
          have hcz23_3 : w7.cell? ⟨gb208, 3, none⟩ = some (.int .u32 a0_3) := (blk_cell BK208.out 3).trans rfl
          have hcz23_4 : w7.cell? ⟨gb208, 4, none⟩ = some (.bool a0_4) := (blk_cell BK208.out 4).trans rfl
          have hcz23_5 : w7.cell? ⟨gb208, 5, none⟩ = some (.bool a0_5) := (blk_cell BK208.out 5).trans rfl
          have hcz23_6 : w7.cell? ⟨gb208, 6, none⟩ = some (.slice A0_6 l0_6.length c0_6) := (blk_cell BK208.out 6).trans rfl
          have hfz23_0 := blk_frozen BK208.out 0
          have hfz23_1 := blk_frozen BK208.out 1
          have hfz23_2 := blk_frozen BK208.out 2
          have hfz23_3 := blk_frozen BK208.out 3
          have hfz23_4 := blk_frozen BK208.out 4
          have hfz23_5 := blk_frozen BK208.out 5
          have hfz23_6 := blk_frozen BK208.out 6
          go_wp2_with (first | (go_at_call 9; (with_reducible refine (hold_Right.calls k a0_0 a0_1 a0_2 a0_3 a0_4 a0_5 _ _ l0_6 false _ ?side1 ?side2 A10.out).mono ?_); (case side1 => repeat (first | exact (Kd.C_below HR0_6.out HB.out) | (with_reducible refine Kd.C_alloc ?_ _) | (with_reducible refine Kd.C_drewN ?_ _) | (with_reducible refine Kd.C_drew ?_))); (case side2 => exact HC0_6.out); rintro e w24 ⟨rfl, hb⟩; have n0_ := Aside0.mk (blk_below (g := gb208) (o := .cells #[.int .u32 a0_0, .int .u32 a0_1, .int .u32 a0_2, .int .u32 a0_3, .bool a0_4, .bool a0_5, .slice A0_6 l0_6.length c0_6] 25 (0, 0)) (by (with_reducible repeat (first | refine blk_drewN ?_ _ | refine blk_drew ?_ | refine blk_alloc ?_ _)); exact BK208.out) hb); have n1_ := Aside0.mk (below_step (by repeat (first | (with_reducible first | exact HB.out | apply below_alloc | apply pw_below_drewN | apply below_drew1 | refine below_set ?_ GE208.out) | exact HB.out)) hb); clear BK208; clear HB; have BK208 := n0_; have HB := n1_; clear n0_ n1_; (try clear hb); (try clear hb2); (try clear hk); (try clear hi)))
          go_meet
          case rel => exact ⟨_, (true), (by first | rfl | (simp; done) | (simp [*]; done)), H', ⟨by first | omega | exact Nat.le_refl _⟩, ⟨by (with_reducible repeat (first | refine blk_drewN ?_ _ | refine blk_drew ?_ | refine blk_alloc ?_ _)); exact BK208.out⟩, ⟨by repeat (first | (with_reducible first | exact HB.out | apply below_alloc | apply pw_below_drewN | apply below_drew1 | refine below_set ?_ GE208.out) | exact HB.out)⟩⟩
    case rest =>
      clear HC5
      try clear c1
      try clear p2
      try clear c4
      try clear c5
      try clear c8
      try clear c8b0
      try clear c8b1
      try clear c11
      try clear c12
      try clear c13
      try clear hcz14_0
      try clear hcz14_1
      try clear hcz14_2
      try clear hcz14_3
      try clear hcz14_4
      try clear hcz14_5
      try clear hcz14_6
      try clear hcz16_0
      try clear hcz16_1
      try clear hcz16_2
      try clear hcz16_3
      try clear hcz16_4
      try clear hcz16_5
      try clear hcz16_6
      try clear hcz17_0
      try clear hcz17_1
      try clear hcz17_2
      try clear hcz17_3
      try clear hcz17_4
      try clear hcz17_5
      try clear hcz17_6
      try clear hcz19_0
      try clear hcz19_1
      try clear hcz19_2
      try clear hcz19_3
      try clear hcz19_4
      try clear hcz19_5
      try clear hcz19_6
      try clear hcz20_0
      try clear hcz20_1
      try clear hcz20_2
      try clear hcz20_3
      try clear hcz20_4
      try clear hcz20_5
      try clear hcz20_6
      try clear hcz22_0
      try clear hcz22_1
      try clear hcz22_2
      try clear hcz22_3
      try clear hcz22_4
      try clear hcz22_5
      try clear hcz22_6
      try clear hcz23_0
      try clear hcz23_1
      try clear hcz23_2
      try clear hcz23_3
      try clear hcz23_4
      try clear hcz23_5
      try clear hcz23_6
      try clear hcz9_0
      try clear hcz9_1
      try clear hcz9_2
      try clear hcz9_3
      try clear hcz9_4
      try clear hcz9_5
      try clear hcz9_6
      try clear hfz14_0
      try clear hfz14_1
      try clear hfz14_2
      try clear hfz14_3
      try clear hfz14_4
      try clear hfz14_5
      try clear hfz14_6
      try clear hfz16_0
      try clear hfz16_1
      try clear hfz16_2
      try clear hfz16_3
      try clear hfz16_4
      try clear hfz16_5
      try clear hfz16_6
      try clear hfz17_0
      try clear hfz17_1
      try clear hfz17_2
      try clear hfz17_3
      try clear hfz17_4
      try clear hfz17_5
      try clear hfz17_6
      try clear hfz19_0
      try clear hfz19_1
      try clear hfz19_2
      try clear hfz19_3
      try clear hfz19_4
      try clear hfz19_5
      try clear hfz19_6
      try clear hfz20_0
      try clear hfz20_1
      try clear hfz20_2
      try clear hfz20_3
      try clear hfz20_4
      try clear hfz20_5
      try clear hfz20_6
      try clear hfz22_0
      try clear hfz22_1
      try clear hfz22_2
      try clear hfz22_3
      try clear hfz22_4
      try clear hfz22_5
      try clear hfz22_6
      try clear hfz23_0
      try clear hfz23_1
      try clear hfz23_2
      try clear hfz23_3
      try clear hfz23_4
      try clear hfz23_5
      try clear hfz23_6
      try clear hfz9_0
      try clear hfz9_1
      try clear hfz9_2
      try clear hfz9_3
      try clear hfz9_4
      try clear hfz9_5
      try clear hfz9_6
      obtain ⟨kq, x34_4, rfl, HA, HJ4, BK208, HB⟩ := hcut
      cases kq with
      | zero => exact absurd HA.out (by simp [lamellalaw12_HoldReaders.j0])
      | succ kj4 =>
        have H := HA.out
        clear HA
        simp only [lamellalaw12_HoldReaders.j0] at H
        by_cases c25 : x34_4 = true
        · subst c25
          have H1 : ((lamellalaw12_alive.f).bind fun t211 => (some t211)) = some r := by rw [if_pos rfl] at H; exact H
          clear H
          have H := H1
          clear H1
          replace H := Option.bind_eq_some_iff.mp H
          obtain ⟨t211, A260, H⟩ := H
          replace H : (some t211) = some r := H
          have A26 := Aside0.mk A260
          clear A260
          obtain rfl := Option.some.inj H
          go_wp2_with (first | ((with_reducible refine gate_callee (f := 8) rfl ?_); refine goesL_ (some 35) rfl rfl Try.func8 (by kernel_rfl) rfl #[] rfl (by (try simp only [List.map_toArray, List.map_cons, List.map_nil]); first | done | rfl | (simp only [List.length_drop, List.length_take]; rfl)) ?_; (with_reducible refine (lamellalaw12_alive.calls  t211 _ A26.out).mono ?_); rintro e w27 ⟨rfl, hb⟩; refine ⟨_, rfl, ?_⟩; have n0_ := Aside0.mk (blk_below (g := gb208) (o := .cells #[.int .u32 a0_0, .int .u32 a0_1, .int .u32 a0_2, .int .u32 a0_3, .bool a0_4, .bool a0_5, .slice A0_6 l0_6.length c0_6] 25 (0, 0)) (by (with_reducible repeat (first | refine blk_drewN ?_ _ | refine blk_drew ?_ | refine blk_alloc ?_ _)); exact BK208.out) hb); have n1_ := Aside0.mk (below_step (by repeat (first | (with_reducible first | exact HB.out | apply below_alloc | apply pw_below_drewN | apply below_drew1 | refine below_set ?_ GE208.out) | exact HB.out)) hb); clear BK208; clear HB; have BK208 := n0_; have HB := n1_; clear n0_ n1_; (try clear hb); (try clear hb2); (try clear hk); (try clear hi)))
          all_goals
            go_ret
            exact ⟨by first | rfl | (simp [errW_none, errW_some] <;> rfl) | (simp [*, errW_none, errW_some] <;> rfl), by repeat (first | (with_reducible first | exact HB.out | apply below_alloc | apply pw_below_drewN | apply below_drew1 | refine below_set ?_ GE208.out) | exact HB.out)⟩
        · replace c25 := Bool.eq_false_iff.mpr c25
          subst c25
          have H1 : ((hold_Ask.f a0_0 a0_1 a0_2 a0_3 a0_4 a0_5 l0_6 a1 1).bind fun bt212 => (if bt212.2.2.2.2.2.2.2.2 = 0 then (lamellalaw12_HoldReaders.l0 kj4 a1 (l0_6.length : Int) bt212.2.2.2.2.2.2.2.1 0 a0_0 a0_1 a0_2 a0_3 a0_4 a0_5 l0_6 bt212.1 bt212.2.1 bt212.2.2.1 bt212.2.2.2.1 bt212.2.2.2.2.1 bt212.2.2.2.2.2.1 bt212.2.2.2.2.2.2.1) else (some false))) = some r := by rw [if_neg (show ¬ (false = true) by decide)] at H; exact H
          clear H
          have H := H1
          clear H1
          replace H := Option.bind_eq_some_iff.mp H
          obtain ⟨⟨t212, t213, t214, t215, t216, t217, t218, t221, t222⟩, A280, H⟩ := H
          replace H : (if t222 = 0 then (lamellalaw12_HoldReaders.l0 kj4 a1 (l0_6.length : Int) t221 0 a0_0 a0_1 a0_2 a0_3 a0_4 a0_5 l0_6 t212 t213 t214 t215 t216 t217 t218) else (some false)) = some r := H
          have A28 := Aside0.mk A280
          clear A280
          by_cases c29 : t222 = 0
          · rw [if_pos c29] at H
            have c29b0 : (t222 == 0) = true := beq_iff_eq.mpr c29
            have c29b1 : (t222 != 0) = false := bne_eq_false_iff_eq.mpr c29
            clear c29
            have H' := Aside0.mk H
            clear H
            have hcz30_0 : wc.cell? ⟨gb208, 0, none⟩ = some (.int .u32 a0_0) := (blk_cell BK208.out 0).trans rfl
            have hcz30_1 : wc.cell? ⟨gb208, 1, none⟩ = some (.int .u32 a0_1) := (blk_cell BK208.out 1).trans rfl
            have hcz30_2 : wc.cell? ⟨gb208, 2, none⟩ = some (.int .u32 a0_2) := (blk_cell BK208.out 2).trans rfl
            have hcz30_3 : wc.cell? ⟨gb208, 3, none⟩ = some (.int .u32 a0_3) := (blk_cell BK208.out 3).trans rfl
            have hcz30_4 : wc.cell? ⟨gb208, 4, none⟩ = some (.bool a0_4) := (blk_cell BK208.out 4).trans rfl
            have hcz30_5 : wc.cell? ⟨gb208, 5, none⟩ = some (.bool a0_5) := (blk_cell BK208.out 5).trans rfl
            have hcz30_6 : wc.cell? ⟨gb208, 6, none⟩ = some (.slice A0_6 l0_6.length c0_6) := (blk_cell BK208.out 6).trans rfl
            have hfz30_0 := blk_frozen BK208.out 0
            have hfz30_1 := blk_frozen BK208.out 1
            have hfz30_2 := blk_frozen BK208.out 2
            have hfz30_3 := blk_frozen BK208.out 3
            have hfz30_4 := blk_frozen BK208.out 4
            have hfz30_5 := blk_frozen BK208.out 5
            have hfz30_6 := blk_frozen BK208.out 6
            go_wp2_with (first | ((with_reducible refine gate_callee (f := 17) rfl ?_); refine goesL_ (some 42) rfl rfl Try.func17 (by kernel_rfl) rfl #[.agg #[.int .u32 a0_0, .int .u32 a0_1, .int .u32 a0_2, .int .u32 a0_3, .bool a0_4, .bool a0_5, .slice A0_6 l0_6.length c0_6], .int .u32 a1, .int .u32 1] rfl (by (try simp only [List.map_toArray, List.map_cons, List.map_nil]); first | done | rfl | (simp only [List.length_drop, List.length_take]; rfl)) ?_; (with_reducible refine (hold_Ask.calls a0_0 a0_1 a0_2 a0_3 a0_4 a0_5 _ _ l0_6 a1 1 t212 t213 t214 t215 t216 t217 t218 t221 t222 _ ?side1 ?side2 A28.out).mono ?_); (case side1 => repeat (first | exact (Kd.C_below HR0_6.out HB.out) | (with_reducible refine Kd.C_alloc ?_ _) | (with_reducible refine Kd.C_drewN ?_ _) | (with_reducible refine Kd.C_drew ?_))); (case side2 => exact HC0_6.out); rintro e w31 ⟨v219, rfl, ho0, hb⟩; refine ⟨_, rfl, ?_⟩; have n0_ := Aside0.mk (Kd.R_lower ho0 (below_size (by repeat (first | (with_reducible first | exact HB.out | apply below_alloc | apply pw_below_drewN | apply below_drew1 | refine below_set ?_ GE208.out) | exact HB.out)))); have n1_ := Aside0.mk (blk_below (g := gb208) (o := .cells #[.int .u32 a0_0, .int .u32 a0_1, .int .u32 a0_2, .int .u32 a0_3, .bool a0_4, .bool a0_5, .slice A0_6 l0_6.length c0_6] 25 (0, 0)) (by (with_reducible repeat (first | refine blk_drewN ?_ _ | refine blk_drew ?_ | refine blk_alloc ?_ _)); exact BK208.out) hb); have n2_ := Aside0.mk (below_step (by repeat (first | (with_reducible first | exact HB.out | apply below_alloc | apply pw_below_drewN | apply below_drew1 | refine below_set ?_ GE208.out) | exact HB.out)) hb); clear BK208; clear HB; have HO220 := n0_; have BK208 := n1_; have HB := n2_; clear n0_ n1_ n2_; (try clear hb); (try clear hb2); (try clear hk); (try clear hi); (try clear ho0)) | ((with_reducible refine gate_dst (N := 6) rfl ?_); refine box_event ?hg (N := 6) ?hd (cs := #[.int .u32 0, .int .u32 0, .int .u32 0, .int .u32 0, .bool false, .bool false, .slice none 0 0]) (t := 25) ?hr ?_; (case hd => rfl); (case hg => rfl); (case hr => first | (go_simp; done) | (go_simp; rfl)); intro gb223 hg w32 hbox hb; have n0_ := Aside0.mk (Kd.R_below (by (with_reducible repeat (first | apply Kd.R_alloc | apply Kd.R_drewN | apply Kd.R_drew)); exact HO220.out) hb); have n1_ := Aside0.mk (blk_below (g := gb208) (o := .cells #[.int .u32 a0_0, .int .u32 a0_1, .int .u32 a0_2, .int .u32 a0_3, .bool a0_4, .bool a0_5, .slice A0_6 l0_6.length c0_6] 25 (0, 0)) (by (with_reducible repeat (first | refine blk_drewN ?_ _ | refine blk_drew ?_ | refine blk_alloc ?_ _)); exact BK208.out) hb); have n2_ := Aside0.mk (below_step (by repeat (first | (with_reducible first | exact HB.out | apply below_alloc | apply pw_below_drewN | apply below_drew1 | refine below_set ?_ GE208.out) | exact HB.out)) hb); have n3_ := Aside0.mk (hbox); have n4_ := Aside0.mk ((by rw [hg]; exact (below_size (by repeat (first | (with_reducible first | exact HB.out | apply below_alloc | apply pw_below_drewN | apply below_drew1 | refine below_set ?_ GE208.out) | exact HB.out))) : w.heap.size ≤ gb223)); have n5_ := Aside0.mk ((by rw [hg]; exact (below_size (by repeat (first | (with_reducible first | exact HB.out | apply below_alloc | apply pw_below_drewN | apply below_drew1 | refine below_set ?_ GE208.out) | exact HB.out))) : w.heap.size ≤ gb223)); have n6_ := Aside0.mk ((by rw [hg]; exact Nat.ne_of_lt (blk_lt (g := gb208) (o := .cells #[.int .u32 a0_0, .int .u32 a0_1, .int .u32 a0_2, .int .u32 a0_3, .bool a0_4, .bool a0_5, .slice A0_6 l0_6.length c0_6] 25 (0, 0)) (by (with_reducible repeat (first | refine blk_drewN ?_ _ | refine blk_drew ?_ | refine blk_alloc ?_ _)); exact BK208.out)) : gb208 ≠ gb223)); have n7_ := Aside0.mk ((by rw [hg]; exact Nat.ne_of_gt (blk_lt (g := gb208) (o := .cells #[.int .u32 a0_0, .int .u32 a0_1, .int .u32 a0_2, .int .u32 a0_3, .bool a0_4, .bool a0_5, .slice A0_6 l0_6.length c0_6] 25 (0, 0)) (by (with_reducible repeat (first | refine blk_drewN ?_ _ | refine blk_drew ?_ | refine blk_alloc ?_ _)); exact BK208.out)) : gb223 ≠ gb208)); clear HO220; clear BK208; clear HB; have HO220 := n0_; have BK208 := n1_; have HB := n2_; have BK223 := n3_; have GW223 := n4_; have GE223 := n5_; have NB208_223 := n6_; have NB223_208 := n7_; clear n0_ n1_ n2_ n3_ n4_ n5_ n6_ n7_; clear hb hbox hg; have hnb33 := NB223_208.out; have hnc33 := NB208_223.out; have hcz34_0 : w32.cell? ⟨gb223, 0, none⟩ = some (.int .u32 0) := (blk_cell BK223.out 0).trans rfl; have hcz34_1 : w32.cell? ⟨gb223, 1, none⟩ = some (.int .u32 0) := (blk_cell BK223.out 1).trans rfl; have hcz34_2 : w32.cell? ⟨gb223, 2, none⟩ = some (.int .u32 0) := (blk_cell BK223.out 2).trans rfl; have hcz34_3 : w32.cell? ⟨gb223, 3, none⟩ = some (.int .u32 0) := (blk_cell BK223.out 3).trans rfl; have hcz34_4 : w32.cell? ⟨gb223, 4, none⟩ = some (.bool false) := (blk_cell BK223.out 4).trans rfl; have hcz34_5 : w32.cell? ⟨gb223, 5, none⟩ = some (.bool false) := (blk_cell BK223.out 5).trans rfl; have hcz34_6 : w32.cell? ⟨gb223, 6, none⟩ = some (.slice none 0 0) := (blk_cell BK223.out 6).trans rfl; have hfz34_0 := blk_frozen BK223.out 0; have hfz34_1 := blk_frozen BK223.out 1; have hfz34_2 := blk_frozen BK223.out 2; have hfz34_3 := blk_frozen BK223.out 3; have hfz34_4 := blk_frozen BK223.out 4; have hfz34_5 := blk_frozen BK223.out 5; have hfz34_6 := blk_frozen BK223.out 6; obtain ⟨Ao35, co35, eo35⟩ := Kd.R_slice HO220.out; subst eo35))
            go_loopg [9] kj4 (fun kq v9 w' => ∃ (x9_2 : Int), v9 = .int .i64 x9_2 ∧ Aside0 (lamellalaw12_HoldReaders.l0 kq a1 (l0_6.length : Int) t221 x9_2 a0_0 a0_1 a0_2 a0_3 a0_4 a0_5 l0_6 t212 t213 t214 t215 t216 t217 t218 = some r) ∧ Aside0 (kq ≤ kj4) ∧ Aside0 (Kd.R k40 40 w' w.heap.size (fun _ => True) (.slice Ao35 t218.length co35) t218) ∧ Aside0 (w'.heap[gb208]? = some (.cells #[.int .u32 a0_0, .int .u32 a0_1, .int .u32 a0_2, .int .u32 a0_3, .bool a0_4, .bool a0_5, (.slice A0_6 l0_6.length c0_6)] 25 (0, 0))) ∧ Aside0 (w'.heap[gb223]? = some (.cells #[.int .u32 t212, .int .u32 t213, .int .u32 t214, .int .u32 t215, .bool t216, .bool t217, (.slice Ao35 t218.length co35)] 25 (0, 0))) ∧ Aside0 (Below w.heap.size w w'))
            case atStart => exact ⟨(0), (by first | rfl | (simp; done) | (simp [*]; done)), H', ⟨Nat.le_refl _⟩, ⟨by (with_reducible repeat (first | apply Kd.R_alloc | apply Kd.R_drewN | apply Kd.R_drew)); exact Kd.R_mono (Kd.R_far (p := ⟨gb223, 6, none⟩) (Kd.R_far (p := ⟨gb223, 5, none⟩) (Kd.R_far (p := ⟨gb223, 4, none⟩) (Kd.R_far (p := ⟨gb223, 3, none⟩) (Kd.R_far (p := ⟨gb223, 2, none⟩) (Kd.R_far (p := ⟨gb223, 1, none⟩) (Kd.R_far (p := ⟨gb223, 0, none⟩) (Kd.R_types HO220.out BK223.out (by decide)) (fun _ hk => hk.2) (.int .u32 t212)) (fun _ hk => hk.2) (.int .u32 t213)) (fun _ hk => hk.2) (.int .u32 t214)) (fun _ hk => hk.2) (.int .u32 t215)) (fun _ hk => hk.2) (.bool t216)) (fun _ hk => hk.2) (.bool t217)) (fun _ hk => hk.2) (.slice Ao35 t218.length co35)) (fun _ hk => trivial)⟩, ⟨by (with_reducible repeat (first | refine blk_drewN ?_ _ | refine blk_drew ?_ | refine blk_alloc ?_ _)); refine blk_far ?_ NB208_223.out _; (with_reducible repeat (first | refine blk_drewN ?_ _ | refine blk_drew ?_ | refine blk_alloc ?_ _)); refine blk_far ?_ NB208_223.out _; (with_reducible repeat (first | refine blk_drewN ?_ _ | refine blk_drew ?_ | refine blk_alloc ?_ _)); refine blk_far ?_ NB208_223.out _; (with_reducible repeat (first | refine blk_drewN ?_ _ | refine blk_drew ?_ | refine blk_alloc ?_ _)); refine blk_far ?_ NB208_223.out _; (with_reducible repeat (first | refine blk_drewN ?_ _ | refine blk_drew ?_ | refine blk_alloc ?_ _)); refine blk_far ?_ NB208_223.out _; (with_reducible repeat (first | refine blk_drewN ?_ _ | refine blk_drew ?_ | refine blk_alloc ?_ _)); refine blk_far ?_ NB208_223.out _; (with_reducible repeat (first | refine blk_drewN ?_ _ | refine blk_drew ?_ | refine blk_alloc ?_ _)); refine blk_far ?_ NB208_223.out _; (with_reducible repeat (first | refine blk_drewN ?_ _ | refine blk_drew ?_ | refine blk_alloc ?_ _)); exact BK208.out⟩, ⟨by (with_reducible repeat (first | refine blk_drewN ?_ _ | refine blk_drew ?_ | refine blk_alloc ?_ _)); refine blk_put (cs := #[.int .u32 t212, .int .u32 t213, .int .u32 t214, .int .u32 t215, .bool t216, .bool t217, .slice none 0 0]) ?_ 6 _ rfl; (with_reducible repeat (first | refine blk_drewN ?_ _ | refine blk_drew ?_ | refine blk_alloc ?_ _)); refine blk_put (cs := #[.int .u32 t212, .int .u32 t213, .int .u32 t214, .int .u32 t215, .bool t216, .bool false, .slice none 0 0]) ?_ 5 _ rfl; (with_reducible repeat (first | refine blk_drewN ?_ _ | refine blk_drew ?_ | refine blk_alloc ?_ _)); refine blk_put (cs := #[.int .u32 t212, .int .u32 t213, .int .u32 t214, .int .u32 t215, .bool false, .bool false, .slice none 0 0]) ?_ 4 _ rfl; (with_reducible repeat (first | refine blk_drewN ?_ _ | refine blk_drew ?_ | refine blk_alloc ?_ _)); refine blk_put (cs := #[.int .u32 t212, .int .u32 t213, .int .u32 t214, .int .u32 0, .bool false, .bool false, .slice none 0 0]) ?_ 3 _ rfl; (with_reducible repeat (first | refine blk_drewN ?_ _ | refine blk_drew ?_ | refine blk_alloc ?_ _)); refine blk_put (cs := #[.int .u32 t212, .int .u32 t213, .int .u32 0, .int .u32 0, .bool false, .bool false, .slice none 0 0]) ?_ 2 _ rfl; (with_reducible repeat (first | refine blk_drewN ?_ _ | refine blk_drew ?_ | refine blk_alloc ?_ _)); refine blk_put (cs := #[.int .u32 t212, .int .u32 0, .int .u32 0, .int .u32 0, .bool false, .bool false, .slice none 0 0]) ?_ 1 _ rfl; (with_reducible repeat (first | refine blk_drewN ?_ _ | refine blk_drew ?_ | refine blk_alloc ?_ _)); refine blk_put (cs := #[.int .u32 0, .int .u32 0, .int .u32 0, .int .u32 0, .bool false, .bool false, .slice none 0 0]) ?_ 0 _ rfl; (with_reducible repeat (first | refine blk_drewN ?_ _ | refine blk_drew ?_ | refine blk_alloc ?_ _)); exact BK223.out⟩, ⟨by repeat (first | (with_reducible first | exact HB.out | apply below_alloc | apply pw_below_drewN | apply below_drew1 | refine below_set ?_ GE208.out | refine below_set ?_ GE223.out) | exact HB.out)⟩⟩
            case round =>
              clear H'
              try clear c1
              try clear c2
              try clear p2
              try clear c3
              try clear c4
              try clear c5
              try clear c8
              try clear c8b0
              try clear c8b1
              try clear c11
              try clear c12
              try clear c13
              try clear c17
              try clear c25
              try clear c29
              try clear c29b0
              try clear c29b1
              try clear c33
              try clear hcz14_0
              try clear hcz14_1
              try clear hcz14_2
              try clear hcz14_3
              try clear hcz14_4
              try clear hcz14_5
              try clear hcz14_6
              try clear hcz16_0
              try clear hcz16_1
              try clear hcz16_2
              try clear hcz16_3
              try clear hcz16_4
              try clear hcz16_5
              try clear hcz16_6
              try clear hcz17_0
              try clear hcz17_1
              try clear hcz17_2
              try clear hcz17_3
              try clear hcz17_4
              try clear hcz17_5
              try clear hcz17_6
              try clear hcz19_0
              try clear hcz19_1
              try clear hcz19_2
              try clear hcz19_3
              try clear hcz19_4
              try clear hcz19_5
              try clear hcz19_6
              try clear hcz20_0
              try clear hcz20_1
              try clear hcz20_2
              try clear hcz20_3
              try clear hcz20_4
              try clear hcz20_5
              try clear hcz20_6
              try clear hcz22_0
              try clear hcz22_1
              try clear hcz22_2
              try clear hcz22_3
              try clear hcz22_4
              try clear hcz22_5
              try clear hcz22_6
              try clear hcz23_0
              try clear hcz23_1
              try clear hcz23_2
              try clear hcz23_3
              try clear hcz23_4
              try clear hcz23_5
              try clear hcz23_6
              try clear hcz30_0
              try clear hcz30_1
              try clear hcz30_2
              try clear hcz30_3
              try clear hcz30_4
              try clear hcz30_5
              try clear hcz30_6
              try clear hcz34_0
              try clear hcz34_1
              try clear hcz34_2
              try clear hcz34_3
              try clear hcz34_4
              try clear hcz34_5
              try clear hcz34_6
              try clear hcz9_0
              try clear hcz9_1
              try clear hcz9_2
              try clear hcz9_3
              try clear hcz9_4
              try clear hcz9_5
              try clear hcz9_6
              try clear hfz14_0
              try clear hfz14_1
              try clear hfz14_2
              try clear hfz14_3
              try clear hfz14_4
              try clear hfz14_5
              try clear hfz14_6
              try clear hfz16_0
              try clear hfz16_1
              try clear hfz16_2
              try clear hfz16_3
              try clear hfz16_4
              try clear hfz16_5
              try clear hfz16_6
              try clear hfz17_0
              try clear hfz17_1
              try clear hfz17_2
              try clear hfz17_3
              try clear hfz17_4
              try clear hfz17_5
              try clear hfz17_6
              try clear hfz19_0
              try clear hfz19_1
              try clear hfz19_2
              try clear hfz19_3
              try clear hfz19_4
              try clear hfz19_5
              try clear hfz19_6
              try clear hfz20_0
              try clear hfz20_1
              try clear hfz20_2
              try clear hfz20_3
              try clear hfz20_4
              try clear hfz20_5
              try clear hfz20_6
              try clear hfz22_0
              try clear hfz22_1
              try clear hfz22_2
              try clear hfz22_3
              try clear hfz22_4
              try clear hfz22_5
              try clear hfz22_6
              try clear hfz23_0
              try clear hfz23_1
              try clear hfz23_2
              try clear hfz23_3
              try clear hfz23_4
              try clear hfz23_5
              try clear hfz23_6
              try clear hfz30_0
              try clear hfz30_1
              try clear hfz30_2
              try clear hfz30_3
              try clear hfz30_4
              try clear hfz30_5
              try clear hfz30_6
              try clear hfz34_0
              try clear hfz34_1
              try clear hfz34_2
              try clear hfz34_3
              try clear hfz34_4
              try clear hfz34_5
              try clear hfz34_6
              try clear hfz9_0
              try clear hfz9_1
              try clear hfz9_2
              try clear hfz9_3
              try clear hfz9_4
              try clear hfz9_5
              try clear hfz9_6
              try clear p2
              obtain ⟨x9_2, rfl, HA, HK2, HO_224006, BK208, BK223, HB⟩ := hrel
              cases gk with
              | zero => exact absurd HA.out (by simp [lamellalaw12_HoldReaders.l0])
              | succ k2 =>
                have H := HA.out
                clear HA
                simp only [lamellalaw12_HoldReaders.l0] at H
                by_cases c36 : x9_2 < (l0_6.length : Int)
                · rw [if_pos c36] at H
                  have c36b0 : decide (x9_2 < (l0_6.length : Int)) = true := decide_eq_true c36
                  clear c36
                  by_cases c37 : 0 ≤ x9_2
                  · rw [if_pos c37] at H
                    have c37b0 : decide (0 ≤ x9_2) = true := decide_eq_true c37
                    clear c37
                    by_cases c38 : x9_2 < (l0_6.length : Int)
                    · rw [if_pos c38] at H
                      have c38b0 : decide (x9_2 < (l0_6.length : Int)) = true := decide_eq_true c38
                      clear c38
                      replace H := Option.bind_eq_some_iff.mp H
                      obtain ⟨t225, A390, H⟩ := H
                      replace H : (if t225 = ((rd_T40 l0_6 x9_2).f1) then (lamellalaw12_HoldReaders.l0 k2 a1 (l0_6.length : Int) t221 (wrap64 (x9_2 + 1)) a0_0 a0_1 a0_2 a0_3 a0_4 a0_5 l0_6 t212 t213 t214 t215 t216 t217 t218) else (some false)) = some r := H
                      have A39 := Aside0.mk A390
                      clear A390
                      by_cases c40 : t225 = ((rd_T40 l0_6 x9_2).f1)
                      · rw [if_pos c40] at H
                        have c40b0 : (t225 == ((rd_T40 l0_6 x9_2).f1)) = true := beq_iff_eq.mpr c40
                        have c40b1 : (t225 != ((rd_T40 l0_6 x9_2).f1)) = false := bne_eq_false_iff_eq.mpr c40
                        clear c40
                        have H' := Aside0.mk H
                        clear H
                        try go_wp2
                        have n0_ := Aside0.mk (Kd.R_drew HO_224006.out)
                        have n1_ := Aside0.mk (blk_drew BK208.out)
                        have n2_ := Aside0.mk (blk_drew BK223.out)
                        have n3_ := Aside0.mk (below_drew1 HB.out)
                        clear HO_224006
                        clear BK208
                        clear BK223
                        clear HB
                        have HO_224006 := n0_
                        have BK208 := n1_
                        have BK223 := n2_
                        have HB := n3_
                        clear n0_ n1_ n2_ n3_
                        have p224 : 0 ≤ (x9_2 : Int) := of_decide_eq_true (by first | (with_reducible assumption) | assumption)
                        have q224 : x9_2 < (l0_6.length : Int) := of_decide_eq_true (by first | (with_reducible assumption) | assumption)
                        obtain ⟨ad224, e224, hx224_0, hx224_1⟩ := at_T40 HR0_6.out x9_2 p224 q224
                        have hw224_1 := hx224_1
                        have hw224_0 := hx224_0
                        cases e224
                        replace hx224_0 := (HB.out.cell (World.block_lt_of_cell? w _ hx224_0)).trans hx224_0
                        replace hx224_1 := (HB.out.cell (World.block_lt_of_cell? w _ hx224_1)).trans hx224_1
                        replace p224 := eq_true p224
                        replace q224 := eq_true q224
                        have p226 : 0 ≤ (x9_2 : Int) := of_decide_eq_true (by first | (with_reducible assumption) | assumption)
                        have q226 : x9_2 < (l0_6.length : Int) := of_decide_eq_true (by first | (with_reducible assumption) | assumption)
                        obtain ⟨ad226, e226, hx226_0, hx226_1⟩ := at_T40 HR0_6.out x9_2 p226 q226
                        have hw226_1 := hx226_1
                        have hw226_0 := hx226_0
                        obtain rfl : ad224 = ad226 := (by injection e226)
                        replace hx226_0 := (HB.out.cell (World.block_lt_of_cell? w _ hx226_0)).trans hx226_0
                        replace hx226_1 := (HB.out.cell (World.block_lt_of_cell? w _ hx226_1)).trans hx226_1
                        replace p226 := eq_true p226
                        replace q226 := eq_true q226
                        refine start_ (n := 15) (S := fun w' => w'.cell? ⟨gb223, 0, none⟩ = some (.int .u32 t212) ∧ w'.cell? ⟨gb223, 1, none⟩ = some (.int .u32 t213) ∧ w'.cell? ⟨gb223, 2, none⟩ = some (.int .u32 t214) ∧ w'.cell? ⟨gb223, 3, none⟩ = some (.int .u32 t215) ∧ w'.cell? ⟨gb223, 4, none⟩ = some (.bool t216) ∧ w'.cell? ⟨gb223, 5, none⟩ = some (.bool t217) ∧ w'.cell? ⟨gb223, 6, none⟩ = some (.slice Ao35 t218.length co35) ∧ w'.cell? ⟨gb208, 0, none⟩ = some (.int .u32 a0_0) ∧ w'.cell? ⟨gb208, 1, none⟩ = some (.int .u32 a0_1) ∧ w'.cell? ⟨gb208, 2, none⟩ = some (.int .u32 a0_2) ∧ w'.cell? ⟨gb208, 3, none⟩ = some (.int .u32 a0_3) ∧ w'.cell? ⟨gb208, 4, none⟩ = some (.bool a0_4) ∧ w'.cell? ⟨gb208, 5, none⟩ = some (.bool a0_5) ∧ w'.cell? ⟨gb208, 6, none⟩ = some (.slice (some ad224) l0_6.length c0_6) ∧ w'.cell? (ad224.add ((x9_2).toNat * 2)) = some (.int .u32 ((rd_T40 l0_6 x9_2).f0)) ∧ w'.cell? ⟨(ad224.add ((x9_2).toNat * 2)).block, (ad224.add ((x9_2).toNat * 2)).off + 1, none⟩ = some (.int .u32 ((rd_T40 l0_6 x9_2).f1)) ∧ w'.cell? (ad224.add ((x9_2).toNat * 2)) = some (.int .u32 ((rd_T40 l0_6 x9_2).f0)) ∧ w'.cell? ⟨(ad224.add ((x9_2).toNat * 2)).block, (ad224.add ((x9_2).toNat * 2)).off + 1, none⟩ = some (.int .u32 ((rd_T40 l0_6 x9_2).f1))) (ds := []) #[false, false, false, false, false, false, false, false, false, false, false, false, false, false, false] (by kernel_rfl) rfl rfl ⟨(blk_cell BK223.out 0).trans rfl, (blk_cell BK223.out 1).trans rfl, (blk_cell BK223.out 2).trans rfl, (blk_cell BK223.out 3).trans rfl, (blk_cell BK223.out 4).trans rfl, (blk_cell BK223.out 5).trans rfl, (blk_cell BK223.out 6).trans rfl, (blk_cell BK208.out 0).trans rfl, (blk_cell BK208.out 1).trans rfl, (blk_cell BK208.out 2).trans rfl, (blk_cell BK208.out 3).trans rfl, (blk_cell BK208.out 4).trans rfl, (blk_cell BK208.out 5).trans rfl, (blk_cell BK208.out 6).trans rfl, ((HB.out.cell (World.block_lt_of_cell? w _ hw224_0)).trans hw224_0), ((HB.out.cell (World.block_lt_of_cell? w _ hw224_1)).trans hw224_1), ((HB.out.cell (World.block_lt_of_cell? w _ hw226_0)).trans hw226_0), ((HB.out.cell (World.block_lt_of_cell? w _ hw226_1)).trans hw226_1)⟩ (fun hHeld => ?_); refine with_tabW lamellalaw12_HoldReaders.tab12 lamellalaw12_HoldReaders.bits12 (fun HT_ HW_ => ?_)
                        generalize wr.drew = w41 at HO_224006 BK208 BK223 HB hx224_0 hx224_1 hx226_0 hx226_1 hHeld ⊢
                        refine pure_ (i := 1) (N := some 54) (v := ?_) (a' := ?_) #[false, true, false, false, false, false, false, false, false, false, false, false, false, false, false] rfl rfl (any_of HT_.out (by kernel_rfl)) (fun _ _ _ h => h) (Or.inl ⟨by rfl, ?_⟩) ?_ ?_
                        rotate_left
                        · intro w'
                          go_simp
                          with_reducible rfl
                        rotate_left
                        · simp only [Act.put, List.setIfInBounds_toArray, List.set_cons_zero, List.set_cons_succ, i64_w, i32_w]
                          rfl
                        refine pure_ (i := 3) (N := some 56) (v := ?_) (a' := ?_) #[false, true, false, true, false, false, false, false, false, false, false, false, false, false, false] rfl rfl (any_of HT_.out (by kernel_rfl)) (fun _ _ _ h => h) (Or.inl ⟨by rfl, ?_⟩) ?_ ?_
                        rotate_left
                        · intro w'
                          go_simp
                          with_reducible rfl
                        rotate_left
                        · simp only [Act.put, List.setIfInBounds_toArray, List.set_cons_zero, List.set_cons_succ, i64_w, i32_w]
                          rfl
                        refine pure_ (i := 8) (N := some 61) (v := ?_) (a' := ?_) #[false, true, false, true, false, false, false, false, true, false, false, false, false, false, false] rfl rfl (any_of HT_.out (by kernel_rfl)) (fun _ _ _ h => h) (Or.inl ⟨by rfl, ?_⟩) ?_ ?_
                        rotate_left
                        · intro w'
                          go_simp
                          with_reducible rfl
                        rotate_left
                        · simp only [Act.put, List.setIfInBounds_toArray, List.set_cons_zero, List.set_cons_succ, i64_w, i32_w]
                          rfl
                        refine pure_ (i := 10) (N := some 63) (v := ?_) (a' := ?_) #[false, true, false, true, false, false, false, false, true, false, true, false, false, false, false] rfl rfl (any_of HT_.out (by kernel_rfl)) (fun _ _ _ h => h) (Or.inl ⟨by rfl, ?_⟩) ?_ ?_
                        rotate_left
                        · intro w'
                          go_simp
                          with_reducible rfl
                        rotate_left
                        · simp only [Act.put, List.setIfInBounds_toArray, List.set_cons_zero, List.set_cons_succ, i64_w, i32_w]
                          rfl
                        refine take_ (i := 0) (N := some 53) (v := ?_) (a' := ?_) #[true, true, false, true, false, false, false, false, true, false, true, false, false, false, false] rfl rfl (take_ofW HT_.out HW_.out (by kernel_rfl)) (fun _ _ _ h => h) (Or.inl ⟨by rfl, ?_⟩) hHeld ?_ ?_
                        rotate_left
                        · rintro w' ⟨s0, s1, s2, s3, s4, s5, s6, s7, s8, s9, s10, s11, s12, s13, s14, s15, s16, s17⟩
                          go_simp
                          with_reducible rfl
                        rotate_left
                        · simp only [Act.put, List.setIfInBounds_toArray, List.set_cons_zero, List.set_cons_succ, i64_w, i32_w]
                          rfl
                        refine take_ (i := 2) (N := some 55) (v := ?_) (a' := ?_) #[true, true, true, true, false, false, false, false, true, false, true, false, false, false, false] rfl rfl (take_ofW HT_.out HW_.out (by kernel_rfl)) (fun _ _ _ h => h) (Or.inl ⟨by rfl, ?_⟩) hHeld ?_ ?_
                        rotate_left
                        · rintro w' ⟨s0, s1, s2, s3, s4, s5, s6, s7, s8, s9, s10, s11, s12, s13, s14, s15, s16, s17⟩
                          go_simp
                          with_reducible rfl
                        rotate_left
                        · simp only [Act.put, List.setIfInBounds_toArray, List.set_cons_zero, List.set_cons_succ, i64_w, i32_w]
                          rfl
                        refine pure_ (i := 4) (N := some 57) (v := ?_) (a' := ?_) #[true, true, true, true, true, false, false, false, true, false, true, false, false, false, false] rfl rfl (any_of HT_.out (by kernel_rfl)) (fun _ _ _ h => h) (Or.inl ⟨by rfl, ?_⟩) ?_ ?_
                        rotate_left
                        · intro w'
                          go_simp
                          with_reducible rfl
                        rotate_left
                        · simp only [Act.put, List.setIfInBounds_toArray, List.set_cons_zero, List.set_cons_succ, i64_w, i32_w]
                          rfl
                        refine pure_ (i := 5) (N := some 58) (v := ?_) (a' := ?_) #[true, true, true, true, true, true, false, false, true, false, true, false, false, false, false] rfl rfl (any_of HT_.out (by kernel_rfl)) (fun _ _ _ h => h) (Or.inl ⟨by rfl, ?_⟩) ?_ ?_
                        rotate_left
                        · intro w'
                          go_simp
                          with_reducible rfl
                        rotate_left
                        · simp only [Act.put, List.setIfInBounds_toArray, List.set_cons_zero, List.set_cons_succ, i64_w, i32_w]
                          rfl
                        refine take_ (i := 6) (N := some 59) (v := ?_) (a' := ?_) #[true, true, true, true, true, true, true, false, true, false, true, false, false, false, false] rfl rfl (take_ofW HT_.out HW_.out (by kernel_rfl)) (fun _ _ _ h => h) (Or.inl ⟨by rfl, ?_⟩) hHeld ?_ ?_
                        rotate_left
                        · rintro w' ⟨s0, s1, s2, s3, s4, s5, s6, s7, s8, s9, s10, s11, s12, s13, s14, s15, s16, s17⟩
                          go_simp
                          with_reducible rfl
                        rotate_left
                        · simp only [Act.put, List.setIfInBounds_toArray, List.set_cons_zero, List.set_cons_succ, i64_w, i32_w]
                          rfl
                        refine take_ (i := 9) (N := some 62) (v := ?_) (a' := ?_) #[true, true, true, true, true, true, true, false, true, true, true, false, false, false, false] rfl rfl (take_ofW HT_.out HW_.out (by kernel_rfl)) (fun _ _ _ h => h) (Or.inl ⟨by rfl, ?_⟩) hHeld ?_ ?_
                        rotate_left
                        · rintro w' ⟨s0, s1, s2, s3, s4, s5, s6, s7, s8, s9, s10, s11, s12, s13, s14, s15, s16, s17⟩
                          go_simp
                          with_reducible rfl
                        rotate_left
                        · simp only [Act.put, List.setIfInBounds_toArray, List.set_cons_zero, List.set_cons_succ, i64_w, i32_w]
                          rfl
                        refine pure_ (i := 11) (N := some 64) (v := ?_) (a' := ?_) #[true, true, true, true, true, true, true, false, true, true, true, true, false, false, false] rfl rfl (any_of HT_.out (by kernel_rfl)) (fun _ _ _ h => h) (Or.inl ⟨by rfl, ?_⟩) ?_ ?_
                        rotate_left
                        · intro w'
                          go_simp
                          with_reducible rfl
                        rotate_left
                        · simp only [Act.put, List.setIfInBounds_toArray, List.set_cons_zero, List.set_cons_succ, i64_w, i32_w]
                          rfl
                        refine pure_ (i := 12) (N := some 65) (v := ?_) (a' := ?_) #[true, true, true, true, true, true, true, false, true, true, true, true, true, false, false] rfl rfl (any_of HT_.out (by kernel_rfl)) (fun _ _ _ h => h) (Or.inl ⟨by rfl, ?_⟩) ?_ ?_
                        rotate_left
                        · intro w'
                          go_simp
                          with_reducible rfl
                        rotate_left
                        · simp only [Act.put, List.setIfInBounds_toArray, List.set_cons_zero, List.set_cons_succ, i64_w, i32_w]
                          rfl
                        refine take_ (i := 13) (N := some 66) (v := ?_) (a' := ?_) #[true, true, true, true, true, true, true, false, true, true, true, true, true, true, false] rfl rfl (take_ofW HT_.out HW_.out (by kernel_rfl)) (fun _ _ _ h => h) (Or.inl ⟨by rfl, ?_⟩) hHeld ?_ ?_
                        rotate_left
                        · rintro w' ⟨s0, s1, s2, s3, s4, s5, s6, s7, s8, s9, s10, s11, s12, s13, s14, s15, s16, s17⟩
                          go_simp
                          with_reducible rfl
                        rotate_left
                        · simp only [Act.put, List.setIfInBounds_toArray, List.set_cons_zero, List.set_cons_succ, i64_w, i32_w]
                          rfl
                        refine one_ (i := 7) (N := some 60) #[true, true, true, true, true, true, true, true, true, true, true, true, true, true, false] rfl rfl (one_of HT_.out (by kernel_rfl)) (by decide) (fun K hK => ?_)
                        refine goes_ Try.func14 (by kernel_rfl) rfl #[.agg #[.int .u32 t212, .int .u32 t213, .int .u32 t214, .int .u32 t215, .bool t216, .bool t217, .slice Ao35 t218.length co35], .int .u32 ((rd_T40 l0_6 x9_2).f0)] (by rfl) rfl rfl (by (try simp only [List.map_toArray, List.map_cons, List.map_nil]); first | done | rfl | (simp only [List.length_drop, List.length_take]; rfl)) ?_
                        with_reducible refine (hold_Mode.calls k2 t212 t213 t214 t215 t216 t217 _ _ t218 ((rd_T40 l0_6 x9_2).f0) t225 _ ?side1 ?side2 A39.out).mono ?_
                        (case side1 => repeat (first | exact (Kd.R_reads' HO_224006.out).2.2 | (with_reducible refine Kd.C_alloc ?_ _) | (with_reducible refine Kd.C_drewN ?_ _) | (with_reducible refine Kd.C_drew ?_)))
                        (case side2 => exact (Kd.R_reads' HO_224006.out).2.1)
                        rintro e w42 ⟨rfl, hb⟩
                        refine ⟨_, rfl, ?_⟩
                        have n0_ := Aside0.mk (Kd.R_below (by (with_reducible repeat (first | apply Kd.R_alloc | apply Kd.R_drewN | apply Kd.R_drew)); exact HO_224006.out) hb)
                        have n1_ := Aside0.mk (blk_below (g := gb208) (o := .cells #[.int .u32 a0_0, .int .u32 a0_1, .int .u32 a0_2, .int .u32 a0_3, .bool a0_4, .bool a0_5, .slice (some ad224) l0_6.length c0_6] 25 (0, 0)) (by (with_reducible repeat (first | refine blk_drewN ?_ _ | refine blk_drew ?_ | refine blk_alloc ?_ _)); exact BK208.out) hb)
                        have n2_ := Aside0.mk (blk_below (g := gb223) (o := .cells #[.int .u32 t212, .int .u32 t213, .int .u32 t214, .int .u32 t215, .bool t216, .bool t217, .slice Ao35 t218.length co35] 25 (0, 0)) (by (with_reducible repeat (first | refine blk_drewN ?_ _ | refine blk_drew ?_ | refine blk_alloc ?_ _)); exact BK223.out) hb)
                        have n3_ := Aside0.mk (below_step (by repeat (first | (with_reducible first | exact HB.out | apply below_alloc | apply pw_below_drewN | apply below_drew1 | refine below_set ?_ GE208.out | refine below_set ?_ GE223.out) | exact HB.out)) hb)
                        clear HO_224006
                        clear BK208
                        clear BK223
                        clear HB
                        have HO_224006 := n0_
                        have BK208 := n1_
                        have BK223 := n2_
                        have HB := n3_
                        clear n0_ n1_ n2_ n3_
                        (try clear hb)
                        (try clear hb2)
                        (try clear hk)
                        (try clear hi)
                        refine hK.out _ _ ⟨(blk_cell BK223.out 0).trans rfl, (blk_cell BK223.out 1).trans rfl, (blk_cell BK223.out 2).trans rfl, (blk_cell BK223.out 3).trans rfl, (blk_cell BK223.out 4).trans rfl, (blk_cell BK223.out 5).trans rfl, (blk_cell BK223.out 6).trans rfl, (blk_cell BK208.out 0).trans rfl, (blk_cell BK208.out 1).trans rfl, (blk_cell BK208.out 2).trans rfl, (blk_cell BK208.out 3).trans rfl, (blk_cell BK208.out 4).trans rfl, (blk_cell BK208.out 5).trans rfl, (blk_cell BK208.out 6).trans rfl, ((HB.out.cell (World.block_lt_of_cell? w _ hw224_0)).trans hw224_0), ((HB.out.cell (World.block_lt_of_cell? w _ hw224_1)).trans hw224_1), ((HB.out.cell (World.block_lt_of_cell? w _ hw226_0)).trans hw226_0), ((HB.out.cell (World.block_lt_of_cell? w _ hw226_1)).trans hw226_1)⟩ (fun hHeld => ?_)
                        clear hK K
                        refine norm_ (a' := ?_) ?_ ?_
                        rotate_left
                        · show Act.put _ (some 60) _ = _
                          simp only [Act.put, List.setIfInBounds_toArray, List.set_cons_zero, List.set_cons_succ, i64_w, i32_w]
                          rfl
                        refine pure_ (i := 14) (N := some 67) (v := ?_) (a' := ?_) #[true, true, true, true, true, true, true, true, true, true, true, true, true, true, true] rfl rfl (any_of HT_.out (by kernel_rfl)) (fun _ _ _ h => h) (Or.inl ⟨by rfl, ?_⟩) ?_ ?_
                        rotate_left
                        · intro w'
                          go_simp
                          with_reducible rfl
                        rotate_left
                        · simp only [Act.put, List.setIfInBounds_toArray, List.set_cons_zero, List.set_cons_succ, i64_w, i32_w]
                          rfl
                        refine done_ (done_of HT_.out (by kernel_rfl)) ?_
                        try go_wp2
                        go_roundg k2
                        case measure => have := HJ4.out; have := HK2.out; omega
                        case rel => exact ⟨(wrap64 (x9_2 + 1)), (by first | rfl | (simp; done) | (simp [*]; done)), H', ⟨by have := HJ4.out; have := HK2.out; omega⟩, ⟨by (with_reducible repeat (first | apply Kd.R_alloc | apply Kd.R_drewN | apply Kd.R_drew)); exact HO_224006.out⟩, ⟨by (with_reducible repeat (first | refine blk_drewN ?_ _ | refine blk_drew ?_ | refine blk_alloc ?_ _)); exact BK208.out⟩, ⟨by (with_reducible repeat (first | refine blk_drewN ?_ _ | refine blk_drew ?_ | refine blk_alloc ?_ _)); exact BK223.out⟩, ⟨by repeat (first | (with_reducible first | exact HB.out | apply below_alloc | apply pw_below_drewN | apply below_drew1 | refine below_set ?_ GE208.out | refine below_set ?_ GE223.out) | exact HB.out)⟩⟩
                      · rw [if_neg c40] at H
                        have c40b0 : (t225 == ((rd_T40 l0_6 x9_2).f1)) = false := beq_eq_false_iff_ne.mpr c40
                        have c40b1 : (t225 != ((rd_T40 l0_6 x9_2).f1)) = true := bne_iff_ne.mpr c40
                        obtain rfl := Option.some.inj H
                        try go_wp2
                        have n0_ := Aside0.mk (Kd.R_drew HO_224006.out)
                        have n1_ := Aside0.mk (blk_drew BK208.out)
                        have n2_ := Aside0.mk (blk_drew BK223.out)
                        have n3_ := Aside0.mk (below_drew1 HB.out)
                        clear HO_224006
                        clear BK208
                        clear BK223
                        clear HB
                        have HO_224006 := n0_
                        have BK208 := n1_
                        have BK223 := n2_
                        have HB := n3_
                        clear n0_ n1_ n2_ n3_
                        have p224 : 0 ≤ (x9_2 : Int) := of_decide_eq_true (by first | (with_reducible assumption) | assumption)
                        have q224 : x9_2 < (l0_6.length : Int) := of_decide_eq_true (by first | (with_reducible assumption) | assumption)
                        obtain ⟨ad224, e224, hx224_0, hx224_1⟩ := at_T40 HR0_6.out x9_2 p224 q224
                        have hw224_1 := hx224_1
                        have hw224_0 := hx224_0
                        cases e224
                        replace hx224_0 := (HB.out.cell (World.block_lt_of_cell? w _ hx224_0)).trans hx224_0
                        replace hx224_1 := (HB.out.cell (World.block_lt_of_cell? w _ hx224_1)).trans hx224_1
                        replace p224 := eq_true p224
                        replace q224 := eq_true q224
                        have p226 : 0 ≤ (x9_2 : Int) := of_decide_eq_true (by first | (with_reducible assumption) | assumption)
                        have q226 : x9_2 < (l0_6.length : Int) := of_decide_eq_true (by first | (with_reducible assumption) | assumption)
                        obtain ⟨ad226, e226, hx226_0, hx226_1⟩ := at_T40 HR0_6.out x9_2 p226 q226
                        have hw226_1 := hx226_1
                        have hw226_0 := hx226_0
                        obtain rfl : ad224 = ad226 := (by injection e226)
                        replace hx226_0 := (HB.out.cell (World.block_lt_of_cell? w _ hx226_0)).trans hx226_0
                        replace hx226_1 := (HB.out.cell (World.block_lt_of_cell? w _ hx226_1)).trans hx226_1
                        replace p226 := eq_true p226
                        replace q226 := eq_true q226
                        refine start_ (n := 15) (S := fun w' => w'.cell? ⟨gb223, 0, none⟩ = some (.int .u32 t212) ∧ w'.cell? ⟨gb223, 1, none⟩ = some (.int .u32 t213) ∧ w'.cell? ⟨gb223, 2, none⟩ = some (.int .u32 t214) ∧ w'.cell? ⟨gb223, 3, none⟩ = some (.int .u32 t215) ∧ w'.cell? ⟨gb223, 4, none⟩ = some (.bool t216) ∧ w'.cell? ⟨gb223, 5, none⟩ = some (.bool t217) ∧ w'.cell? ⟨gb223, 6, none⟩ = some (.slice Ao35 t218.length co35) ∧ w'.cell? ⟨gb208, 0, none⟩ = some (.int .u32 a0_0) ∧ w'.cell? ⟨gb208, 1, none⟩ = some (.int .u32 a0_1) ∧ w'.cell? ⟨gb208, 2, none⟩ = some (.int .u32 a0_2) ∧ w'.cell? ⟨gb208, 3, none⟩ = some (.int .u32 a0_3) ∧ w'.cell? ⟨gb208, 4, none⟩ = some (.bool a0_4) ∧ w'.cell? ⟨gb208, 5, none⟩ = some (.bool a0_5) ∧ w'.cell? ⟨gb208, 6, none⟩ = some (.slice (some ad224) l0_6.length c0_6) ∧ w'.cell? (ad224.add ((x9_2).toNat * 2)) = some (.int .u32 ((rd_T40 l0_6 x9_2).f0)) ∧ w'.cell? ⟨(ad224.add ((x9_2).toNat * 2)).block, (ad224.add ((x9_2).toNat * 2)).off + 1, none⟩ = some (.int .u32 ((rd_T40 l0_6 x9_2).f1)) ∧ w'.cell? (ad224.add ((x9_2).toNat * 2)) = some (.int .u32 ((rd_T40 l0_6 x9_2).f0)) ∧ w'.cell? ⟨(ad224.add ((x9_2).toNat * 2)).block, (ad224.add ((x9_2).toNat * 2)).off + 1, none⟩ = some (.int .u32 ((rd_T40 l0_6 x9_2).f1))) (ds := []) #[false, false, false, false, false, false, false, false, false, false, false, false, false, false, false] (by kernel_rfl) rfl rfl ⟨(blk_cell BK223.out 0).trans rfl, (blk_cell BK223.out 1).trans rfl, (blk_cell BK223.out 2).trans rfl, (blk_cell BK223.out 3).trans rfl, (blk_cell BK223.out 4).trans rfl, (blk_cell BK223.out 5).trans rfl, (blk_cell BK223.out 6).trans rfl, (blk_cell BK208.out 0).trans rfl, (blk_cell BK208.out 1).trans rfl, (blk_cell BK208.out 2).trans rfl, (blk_cell BK208.out 3).trans rfl, (blk_cell BK208.out 4).trans rfl, (blk_cell BK208.out 5).trans rfl, (blk_cell BK208.out 6).trans rfl, ((HB.out.cell (World.block_lt_of_cell? w _ hw224_0)).trans hw224_0), ((HB.out.cell (World.block_lt_of_cell? w _ hw224_1)).trans hw224_1), ((HB.out.cell (World.block_lt_of_cell? w _ hw226_0)).trans hw226_0), ((HB.out.cell (World.block_lt_of_cell? w _ hw226_1)).trans hw226_1)⟩ (fun hHeld => ?_); refine with_tabW lamellalaw12_HoldReaders.tab12 lamellalaw12_HoldReaders.bits12 (fun HT_ HW_ => ?_)
                        generalize wr.drew = w43 at HO_224006 BK208 BK223 HB hx224_0 hx224_1 hx226_0 hx226_1 hHeld ⊢
                        refine pure_ (i := 1) (N := some 54) (v := ?_) (a' := ?_) #[false, true, false, false, false, false, false, false, false, false, false, false, false, false, false] rfl rfl (any_of HT_.out (by kernel_rfl)) (fun _ _ _ h => h) (Or.inl ⟨by rfl, ?_⟩) ?_ ?_
                        rotate_left
                        · intro w'
                          go_simp
                          with_reducible rfl
                        rotate_left
                        · simp only [Act.put, List.setIfInBounds_toArray, List.set_cons_zero, List.set_cons_succ, i64_w, i32_w]
                          rfl
                        refine pure_ (i := 3) (N := some 56) (v := ?_) (a' := ?_) #[false, true, false, true, false, false, false, false, false, false, false, false, false, false, false] rfl rfl (any_of HT_.out (by kernel_rfl)) (fun _ _ _ h => h) (Or.inl ⟨by rfl, ?_⟩) ?_ ?_
                        rotate_left
                        · intro w'
                          go_simp
                          with_reducible rfl
                        rotate_left
                        · simp only [Act.put, List.setIfInBounds_toArray, List.set_cons_zero, List.set_cons_succ, i64_w, i32_w]
                          rfl
                        refine pure_ (i := 8) (N := some 61) (v := ?_) (a' := ?_) #[false, true, false, true, false, false, false, false, true, false, false, false, false, false, false] rfl rfl (any_of HT_.out (by kernel_rfl)) (fun _ _ _ h => h) (Or.inl ⟨by rfl, ?_⟩) ?_ ?_
                        rotate_left
                        · intro w'
                          go_simp
                          with_reducible rfl
                        rotate_left
                        · simp only [Act.put, List.setIfInBounds_toArray, List.set_cons_zero, List.set_cons_succ, i64_w, i32_w]
                          rfl
                        refine pure_ (i := 10) (N := some 63) (v := ?_) (a' := ?_) #[false, true, false, true, false, false, false, false, true, false, true, false, false, false, false] rfl rfl (any_of HT_.out (by kernel_rfl)) (fun _ _ _ h => h) (Or.inl ⟨by rfl, ?_⟩) ?_ ?_
                        rotate_left
                        · intro w'
                          go_simp
                          with_reducible rfl
                        rotate_left
                        · simp only [Act.put, List.setIfInBounds_toArray, List.set_cons_zero, List.set_cons_succ, i64_w, i32_w]
                          rfl
                        refine take_ (i := 0) (N := some 53) (v := ?_) (a' := ?_) #[true, true, false, true, false, false, false, false, true, false, true, false, false, false, false] rfl rfl (take_ofW HT_.out HW_.out (by kernel_rfl)) (fun _ _ _ h => h) (Or.inl ⟨by rfl, ?_⟩) hHeld ?_ ?_
                        rotate_left
                        · rintro w' ⟨s0, s1, s2, s3, s4, s5, s6, s7, s8, s9, s10, s11, s12, s13, s14, s15, s16, s17⟩
                          go_simp
                          with_reducible rfl
                        rotate_left
                        · simp only [Act.put, List.setIfInBounds_toArray, List.set_cons_zero, List.set_cons_succ, i64_w, i32_w]
                          rfl
                        refine take_ (i := 2) (N := some 55) (v := ?_) (a' := ?_) #[true, true, true, true, false, false, false, false, true, false, true, false, false, false, false] rfl rfl (take_ofW HT_.out HW_.out (by kernel_rfl)) (fun _ _ _ h => h) (Or.inl ⟨by rfl, ?_⟩) hHeld ?_ ?_
                        rotate_left
                        · rintro w' ⟨s0, s1, s2, s3, s4, s5, s6, s7, s8, s9, s10, s11, s12, s13, s14, s15, s16, s17⟩
                          go_simp
                          with_reducible rfl
                        rotate_left
                        · simp only [Act.put, List.setIfInBounds_toArray, List.set_cons_zero, List.set_cons_succ, i64_w, i32_w]
                          rfl
                        refine pure_ (i := 4) (N := some 57) (v := ?_) (a' := ?_) #[true, true, true, true, true, false, false, false, true, false, true, false, false, false, false] rfl rfl (any_of HT_.out (by kernel_rfl)) (fun _ _ _ h => h) (Or.inl ⟨by rfl, ?_⟩) ?_ ?_
                        rotate_left
                        · intro w'
                          go_simp
                          with_reducible rfl
                        rotate_left
                        · simp only [Act.put, List.setIfInBounds_toArray, List.set_cons_zero, List.set_cons_succ, i64_w, i32_w]
                          rfl
                        refine pure_ (i := 5) (N := some 58) (v := ?_) (a' := ?_) #[true, true, true, true, true, true, false, false, true, false, true, false, false, false, false] rfl rfl (any_of HT_.out (by kernel_rfl)) (fun _ _ _ h => h) (Or.inl ⟨by rfl, ?_⟩) ?_ ?_
                        rotate_left
                        · intro w'
                          go_simp
                          with_reducible rfl
                        rotate_left
                        · simp only [Act.put, List.setIfInBounds_toArray, List.set_cons_zero, List.set_cons_succ, i64_w, i32_w]
                          rfl
                        refine take_ (i := 6) (N := some 59) (v := ?_) (a' := ?_) #[true, true, true, true, true, true, true, false, true, false, true, false, false, false, false] rfl rfl (take_ofW HT_.out HW_.out (by kernel_rfl)) (fun _ _ _ h => h) (Or.inl ⟨by rfl, ?_⟩) hHeld ?_ ?_
                        rotate_left
                        · rintro w' ⟨s0, s1, s2, s3, s4, s5, s6, s7, s8, s9, s10, s11, s12, s13, s14, s15, s16, s17⟩
                          go_simp
                          with_reducible rfl
                        rotate_left
                        · simp only [Act.put, List.setIfInBounds_toArray, List.set_cons_zero, List.set_cons_succ, i64_w, i32_w]
                          rfl
                        refine take_ (i := 9) (N := some 62) (v := ?_) (a' := ?_) #[true, true, true, true, true, true, true, false, true, true, true, false, false, false, false] rfl rfl (take_ofW HT_.out HW_.out (by kernel_rfl)) (fun _ _ _ h => h) (Or.inl ⟨by rfl, ?_⟩) hHeld ?_ ?_
                        rotate_left
                        · rintro w' ⟨s0, s1, s2, s3, s4, s5, s6, s7, s8, s9, s10, s11, s12, s13, s14, s15, s16, s17⟩
                          go_simp
                          with_reducible rfl
                        rotate_left
                        · simp only [Act.put, List.setIfInBounds_toArray, List.set_cons_zero, List.set_cons_succ, i64_w, i32_w]
                          rfl
                        refine pure_ (i := 11) (N := some 64) (v := ?_) (a' := ?_) #[true, true, true, true, true, true, true, false, true, true, true, true, false, false, false] rfl rfl (any_of HT_.out (by kernel_rfl)) (fun _ _ _ h => h) (Or.inl ⟨by rfl, ?_⟩) ?_ ?_
                        rotate_left
                        · intro w'
                          go_simp
                          with_reducible rfl
                        rotate_left
                        · simp only [Act.put, List.setIfInBounds_toArray, List.set_cons_zero, List.set_cons_succ, i64_w, i32_w]
                          rfl
                        refine pure_ (i := 12) (N := some 65) (v := ?_) (a' := ?_) #[true, true, true, true, true, true, true, false, true, true, true, true, true, false, false] rfl rfl (any_of HT_.out (by kernel_rfl)) (fun _ _ _ h => h) (Or.inl ⟨by rfl, ?_⟩) ?_ ?_
                        rotate_left
                        · intro w'
                          go_simp
                          with_reducible rfl
                        rotate_left
                        · simp only [Act.put, List.setIfInBounds_toArray, List.set_cons_zero, List.set_cons_succ, i64_w, i32_w]
                          rfl
                        refine take_ (i := 13) (N := some 66) (v := ?_) (a' := ?_) #[true, true, true, true, true, true, true, false, true, true, true, true, true, true, false] rfl rfl (take_ofW HT_.out HW_.out (by kernel_rfl)) (fun _ _ _ h => h) (Or.inl ⟨by rfl, ?_⟩) hHeld ?_ ?_
                        rotate_left
                        · rintro w' ⟨s0, s1, s2, s3, s4, s5, s6, s7, s8, s9, s10, s11, s12, s13, s14, s15, s16, s17⟩
                          go_simp
                          with_reducible rfl
                        rotate_left
                        · simp only [Act.put, List.setIfInBounds_toArray, List.set_cons_zero, List.set_cons_succ, i64_w, i32_w]
                          rfl
                        refine one_ (i := 7) (N := some 60) #[true, true, true, true, true, true, true, true, true, true, true, true, true, true, false] rfl rfl (one_of HT_.out (by kernel_rfl)) (by decide) (fun K hK => ?_)
                        refine goes_ Try.func14 (by kernel_rfl) rfl #[.agg #[.int .u32 t212, .int .u32 t213, .int .u32 t214, .int .u32 t215, .bool t216, .bool t217, .slice Ao35 t218.length co35], .int .u32 ((rd_T40 l0_6 x9_2).f0)] (by rfl) rfl rfl (by (try simp only [List.map_toArray, List.map_cons, List.map_nil]); first | done | rfl | (simp only [List.length_drop, List.length_take]; rfl)) ?_
                        with_reducible refine (hold_Mode.calls k2 t212 t213 t214 t215 t216 t217 _ _ t218 ((rd_T40 l0_6 x9_2).f0) t225 _ ?side1 ?side2 A39.out).mono ?_
                        (case side1 => repeat (first | exact (Kd.R_reads' HO_224006.out).2.2 | (with_reducible refine Kd.C_alloc ?_ _) | (with_reducible refine Kd.C_drewN ?_ _) | (with_reducible refine Kd.C_drew ?_)))
                        (case side2 => exact (Kd.R_reads' HO_224006.out).2.1)
                        rintro e w44 ⟨rfl, hb⟩
                        refine ⟨_, rfl, ?_⟩
                        have n0_ := Aside0.mk (Kd.R_below (by (with_reducible repeat (first | apply Kd.R_alloc | apply Kd.R_drewN | apply Kd.R_drew)); exact HO_224006.out) hb)
                        have n1_ := Aside0.mk (blk_below (g := gb208) (o := .cells #[.int .u32 a0_0, .int .u32 a0_1, .int .u32 a0_2, .int .u32 a0_3, .bool a0_4, .bool a0_5, .slice (some ad224) l0_6.length c0_6] 25 (0, 0)) (by (with_reducible repeat (first | refine blk_drewN ?_ _ | refine blk_drew ?_ | refine blk_alloc ?_ _)); exact BK208.out) hb)
                        have n2_ := Aside0.mk (blk_below (g := gb223) (o := .cells #[.int .u32 t212, .int .u32 t213, .int .u32 t214, .int .u32 t215, .bool t216, .bool t217, .slice Ao35 t218.length co35] 25 (0, 0)) (by (with_reducible repeat (first | refine blk_drewN ?_ _ | refine blk_drew ?_ | refine blk_alloc ?_ _)); exact BK223.out) hb)
                        have n3_ := Aside0.mk (below_step (by repeat (first | (with_reducible first | exact HB.out | apply below_alloc | apply pw_below_drewN | apply below_drew1 | refine below_set ?_ GE208.out | refine below_set ?_ GE223.out) | exact HB.out)) hb)
                        clear HO_224006
                        clear BK208
                        clear BK223
                        clear HB
                        have HO_224006 := n0_
                        have BK208 := n1_
                        have BK223 := n2_
                        have HB := n3_
                        clear n0_ n1_ n2_ n3_
                        (try clear hb)
                        (try clear hb2)
                        (try clear hk)
                        (try clear hi)
                        refine hK.out _ _ ⟨(blk_cell BK223.out 0).trans rfl, (blk_cell BK223.out 1).trans rfl, (blk_cell BK223.out 2).trans rfl, (blk_cell BK223.out 3).trans rfl, (blk_cell BK223.out 4).trans rfl, (blk_cell BK223.out 5).trans rfl, (blk_cell BK223.out 6).trans rfl, (blk_cell BK208.out 0).trans rfl, (blk_cell BK208.out 1).trans rfl, (blk_cell BK208.out 2).trans rfl, (blk_cell BK208.out 3).trans rfl, (blk_cell BK208.out 4).trans rfl, (blk_cell BK208.out 5).trans rfl, (blk_cell BK208.out 6).trans rfl, ((HB.out.cell (World.block_lt_of_cell? w _ hw224_0)).trans hw224_0), ((HB.out.cell (World.block_lt_of_cell? w _ hw224_1)).trans hw224_1), ((HB.out.cell (World.block_lt_of_cell? w _ hw226_0)).trans hw226_0), ((HB.out.cell (World.block_lt_of_cell? w _ hw226_1)).trans hw226_1)⟩ (fun hHeld => ?_)
                        clear hK K
                        refine norm_ (a' := ?_) ?_ ?_
                        rotate_left
                        · show Act.put _ (some 60) _ = _
                          simp only [Act.put, List.setIfInBounds_toArray, List.set_cons_zero, List.set_cons_succ, i64_w, i32_w]
                          rfl
                        refine pure_ (i := 14) (N := some 67) (v := ?_) (a' := ?_) #[true, true, true, true, true, true, true, true, true, true, true, true, true, true, true] rfl rfl (any_of HT_.out (by kernel_rfl)) (fun _ _ _ h => h) (Or.inl ⟨by rfl, ?_⟩) ?_ ?_
                        rotate_left
                        · intro w'
                          go_simp
                          with_reducible rfl
                        rotate_left
                        · simp only [Act.put, List.setIfInBounds_toArray, List.set_cons_zero, List.set_cons_succ, i64_w, i32_w]
                          rfl
                        refine done_ (done_of HT_.out (by kernel_rfl)) ?_
                        try go_wp2
                        all_goals
                          go_ret
                          exact ⟨by first | rfl | (simp [errW_none, errW_some] <;> rfl) | (simp [*, errW_none, errW_some] <;> rfl), by repeat (first | (with_reducible first | exact HB.out | apply below_alloc | apply pw_below_drewN | apply below_drew1 | refine below_set ?_ GE208.out | refine below_set ?_ GE223.out) | exact HB.out)⟩
                    · rw [if_neg c38] at H
                      exact absurd H (by simp)
                  · rw [if_neg c37] at H
                    exact absurd H (by simp)
                · rw [if_neg c36] at H
                  have c36b0 : decide (x9_2 < (l0_6.length : Int)) = false := decide_eq_false c36
                  clear c36
                  have HC45 := Aside0.mk H
                  clear H
                  go_upto_region 14 with (fail)
                  go_cut [75] (fun v75 wc => ∃ (kq : Nat) (x75_44 : Bool), v75 = .bool x75_44 ∧ Aside0 (lamellalaw12_HoldReaders.j2 kq a1 t221 x75_44 a0_0 a0_1 a0_2 a0_3 a0_4 a0_5 l0_6 t212 t213 t214 t215 t216 t217 t218 = some r) ∧ Aside0 (kq ≤ k2) ∧ Aside0 (Kd.R k40 40 wc w.heap.size (fun _ => True) (.slice Ao35 t218.length co35) t218) ∧ Aside0 (wc.heap[gb208]? = some (.cells #[.int .u32 a0_0, .int .u32 a0_1, .int .u32 a0_2, .int .u32 a0_3, .bool a0_4, .bool a0_5, (.slice A0_6 l0_6.length c0_6)] 25 (0, 0))) ∧ Aside0 (wc.heap[gb223]? = some (.cells #[.int .u32 t212, .int .u32 t213, .int .u32 t214, .int .u32 t215, .bool t216, .bool t217, (.slice Ao35 t218.length co35)] 25 (0, 0))) ∧ Aside0 (Below w.heap.size w wc))
                  case first =>
                    have H := HC45.out
                    clear HC45
                    by_cases c46 : (l0_6.length : Int) = 4
                    · rw [if_pos c46] at H
                      have c46b0 : ((l0_6.length : Int) == 4) = true := beq_iff_eq.mpr c46
                      have c46b1 : ((l0_6.length : Int) != 4) = false := bne_eq_false_iff_eq.mpr c46
                      clear c46
                      (first | rw [c46b0] | (simp only [i64_w, i32_w]; rw [c46b0]) | skip)
                      replace H := Option.bind_eq_some_iff.mp H
                      obtain ⟨t227, A470, H⟩ := H
                      replace H : (lamellalaw12_HoldReaders.j2 k2 a1 t221 (t227 == 0) a0_0 a0_1 a0_2 a0_3 a0_4 a0_5 l0_6 t212 t213 t214 t215 t216 t217 t218) = some r := H
                      have A47 := Aside0.mk A470
                      clear A470
                      have H' := Aside0.mk H
                      clear H
                      have hnb48 := NB208_223.out
                      have hnc48 := NB223_208.out
                      have hcz49_0 : wr.cell? ⟨gb208, 0, none⟩ = some (.int .u32 a0_0) := (blk_cell BK208.out 0).trans rfl
                      have hcz49_1 : wr.cell? ⟨gb208, 1, none⟩ = some (.int .u32 a0_1) := (blk_cell BK208.out 1).trans rfl
                      have hcz49_2 : wr.cell? ⟨gb208, 2, none⟩ = some (.int .u32 a0_2) := (blk_cell BK208.out 2).trans rfl
                      have hcz49_3 : wr.cell? ⟨gb208, 3, none⟩ = some (.int .u32 a0_3) := (blk_cell BK208.out 3).trans rfl
                      have hcz49_4 : wr.cell? ⟨gb208, 4, none⟩ = some (.bool a0_4) := (blk_cell BK208.out 4).trans rfl
                      have hcz49_5 : wr.cell? ⟨gb208, 5, none⟩ = some (.bool a0_5) := (blk_cell BK208.out 5).trans rfl
                      have hcz49_6 : wr.cell? ⟨gb208, 6, none⟩ = some (.slice A0_6 l0_6.length c0_6) := (blk_cell BK208.out 6).trans rfl
                      have hfz49_0 := blk_frozen BK208.out 0
                      have hfz49_1 := blk_frozen BK208.out 1
                      have hfz49_2 := blk_frozen BK208.out 2
                      have hfz49_3 := blk_frozen BK208.out 3
                      have hfz49_4 := blk_frozen BK208.out 4
                      have hfz49_5 := blk_frozen BK208.out 5
                      have hfz49_6 := blk_frozen BK208.out 6
                      go_wp2_with (first | (go_at_call 14; (with_reducible refine (hold_Mode.calls k2 a0_0 a0_1 a0_2 a0_3 a0_4 a0_5 _ _ l0_6 a1 t227 _ ?side1 ?side2 A47.out).mono ?_); (case side1 => repeat (first | exact (Kd.C_below HR0_6.out HB.out) | (with_reducible refine Kd.C_alloc ?_ _) | (with_reducible refine Kd.C_drewN ?_ _) | (with_reducible refine Kd.C_drew ?_))); (case side2 => exact HC0_6.out); rintro e w50 ⟨rfl, hb⟩; have n0_ := Aside0.mk (Kd.R_below (by (with_reducible repeat (first | apply Kd.R_alloc | apply Kd.R_drewN | apply Kd.R_drew)); exact HO_224006.out) hb); have n1_ := Aside0.mk (blk_below (g := gb208) (o := .cells #[.int .u32 a0_0, .int .u32 a0_1, .int .u32 a0_2, .int .u32 a0_3, .bool a0_4, .bool a0_5, .slice A0_6 l0_6.length c0_6] 25 (0, 0)) (by (with_reducible repeat (first | refine blk_drewN ?_ _ | refine blk_drew ?_ | refine blk_alloc ?_ _)); exact BK208.out) hb); have n2_ := Aside0.mk (blk_below (g := gb223) (o := .cells #[.int .u32 t212, .int .u32 t213, .int .u32 t214, .int .u32 t215, .bool t216, .bool t217, .slice Ao35 t218.length co35] 25 (0, 0)) (by (with_reducible repeat (first | refine blk_drewN ?_ _ | refine blk_drew ?_ | refine blk_alloc ?_ _)); exact BK223.out) hb); have n3_ := Aside0.mk (below_step (by repeat (first | (with_reducible first | exact HB.out | apply below_alloc | apply pw_below_drewN | apply below_drew1 | refine below_set ?_ GE208.out | refine below_set ?_ GE223.out) | exact HB.out)) hb); clear HO_224006; clear BK208; clear BK223; clear HB; have HO_224006 := n0_; have BK208 := n1_; have BK223 := n2_; have HB := n3_; clear n0_ n1_ n2_ n3_; (try clear hb); (try clear hb2); (try clear hk); (try clear hi)))
                      go_meet
                      case rel => exact ⟨_, ((t227 == 0)), (by first | rfl | (simp; done) | (simp [*]; done)), H', ⟨by have := HJ4.out; have := HK2.out; first | omega | exact Nat.le_refl _⟩, ⟨by (with_reducible repeat (first | apply Kd.R_alloc | apply Kd.R_drewN | apply Kd.R_drew)); exact HO_224006.out⟩, ⟨by (with_reducible repeat (first | refine blk_drewN ?_ _ | refine blk_drew ?_ | refine blk_alloc ?_ _)); exact BK208.out⟩, ⟨by (with_reducible repeat (first | refine blk_drewN ?_ _ | refine blk_drew ?_ | refine blk_alloc ?_ _)); exact BK223.out⟩, ⟨by repeat (first | (with_reducible first | exact HB.out | apply below_alloc | apply pw_below_drewN | apply below_drew1 | refine below_set ?_ GE208.out | refine below_set ?_ GE223.out) | exact HB.out)⟩⟩
                    · rw [if_neg c46] at H
                      have c46b0 : ((l0_6.length : Int) == 4) = false := beq_eq_false_iff_ne.mpr c46
                      have c46b1 : ((l0_6.length : Int) != 4) = true := bne_iff_ne.mpr c46
                      (first | rw [c46b0] | (simp only [i64_w, i32_w]; rw [c46b0]) | skip)
                      have H' := Aside0.mk H
                      clear H
                      go_wp2
                      go_meet
                      case rel => exact ⟨_, (false), (by first | rfl | (simp; done) | (simp [*]; done)), H', ⟨by have := HJ4.out; have := HK2.out; first | omega | exact Nat.le_refl _⟩, ⟨by (with_reducible repeat (first | apply Kd.R_alloc | apply Kd.R_drewN | apply Kd.R_drew)); exact HO_224006.out⟩, ⟨by (with_reducible repeat (first | refine blk_drewN ?_ _ | refine blk_drew ?_ | refine blk_alloc ?_ _)); exact BK208.out⟩, ⟨by (with_reducible repeat (first | refine blk_drewN ?_ _ | refine blk_drew ?_ | refine blk_alloc ?_ _)); exact BK223.out⟩, ⟨by repeat (first | (with_reducible first | exact HB.out | apply below_alloc | apply pw_below_drewN | apply below_drew1 | refine below_set ?_ GE208.out | refine below_set ?_ GE223.out) | exact HB.out)⟩⟩
                  case rest =>
                    clear HC45
                    try clear c1
                    try clear p2
                    try clear q2
                    try clear hx2
                    try clear c3
                    try clear c4
                    try clear p6
                    try clear c14
                    try clear p22
                    try clear q22
                    try clear hx22
                    try clear c36
                    try clear c36b0
                    try clear c37
                    try clear c37b0
                    try clear c38
                    try clear c38b0
                    try clear c40
                    try clear c40b0
                    try clear c40b1
                    try clear c46
                    try clear c46b0
                    try clear c46b1
                    try clear c48
                    try clear hcz14_0
                    try clear hcz14_1
                    try clear hcz14_2
                    try clear hcz14_3
                    try clear hcz14_4
                    try clear hcz14_5
                    try clear hcz14_6
                    try clear hcz16_0
                    try clear hcz16_1
                    try clear hcz16_2
                    try clear hcz16_3
                    try clear hcz16_4
                    try clear hcz16_5
                    try clear hcz16_6
                    try clear hcz17_0
                    try clear hcz17_1
                    try clear hcz17_2
                    try clear hcz17_3
                    try clear hcz17_4
                    try clear hcz17_5
                    try clear hcz17_6
                    try clear hcz19_0
                    try clear hcz19_1
                    try clear hcz19_2
                    try clear hcz19_3
                    try clear hcz19_4
                    try clear hcz19_5
                    try clear hcz19_6
                    try clear hcz20_0
                    try clear hcz20_1
                    try clear hcz20_2
                    try clear hcz20_3
                    try clear hcz20_4
                    try clear hcz20_5
                    try clear hcz20_6
                    try clear hcz22_0
                    try clear hcz22_1
                    try clear hcz22_2
                    try clear hcz22_3
                    try clear hcz22_4
                    try clear hcz22_5
                    try clear hcz22_6
                    try clear hcz23_0
                    try clear hcz23_1
                    try clear hcz23_2
                    try clear hcz23_3
                    try clear hcz23_4
                    try clear hcz23_5
                    try clear hcz23_6
                    try clear hcz30_0
                    try clear hcz30_1
                    try clear hcz30_2
                    try clear hcz30_3
                    try clear hcz30_4
                    try clear hcz30_5
                    try clear hcz30_6
                    try clear hcz34_0
                    try clear hcz34_1
                    try clear hcz34_2
                    try clear hcz34_3
                    try clear hcz34_4
                    try clear hcz34_5
                    try clear hcz34_6
                    try clear hcz49_0
                    try clear hcz49_1
                    try clear hcz49_2
                    try clear hcz49_3
                    try clear hcz49_4
                    try clear hcz49_5
                    try clear hcz49_6
                    try clear hcz9_0
                    try clear hcz9_1
                    try clear hcz9_2
                    try clear hcz9_3
                    try clear hcz9_4
                    try clear hcz9_5
                    try clear hcz9_6
                    try clear hfz14_0
                    try clear hfz14_1
                    try clear hfz14_2
                    try clear hfz14_3
                    try clear hfz14_4
                    try clear hfz14_5
                    try clear hfz14_6
                    try clear hfz16_0
                    try clear hfz16_1
                    try clear hfz16_2
                    try clear hfz16_3
                    try clear hfz16_4
                    try clear hfz16_5
                    try clear hfz16_6
                    try clear hfz17_0
                    try clear hfz17_1
                    try clear hfz17_2
                    try clear hfz17_3
                    try clear hfz17_4
                    try clear hfz17_5
                    try clear hfz17_6
                    try clear hfz19_0
                    try clear hfz19_1
                    try clear hfz19_2
                    try clear hfz19_3
                    try clear hfz19_4
                    try clear hfz19_5
                    try clear hfz19_6
                    try clear hfz20_0
                    try clear hfz20_1
                    try clear hfz20_2
                    try clear hfz20_3
                    try clear hfz20_4
                    try clear hfz20_5
                    try clear hfz20_6
                    try clear hfz22_0
                    try clear hfz22_1
                    try clear hfz22_2
                    try clear hfz22_3
                    try clear hfz22_4
                    try clear hfz22_5
                    try clear hfz22_6
                    try clear hfz23_0
                    try clear hfz23_1
                    try clear hfz23_2
                    try clear hfz23_3
                    try clear hfz23_4
                    try clear hfz23_5
                    try clear hfz23_6
                    try clear hfz30_0
                    try clear hfz30_1
                    try clear hfz30_2
                    try clear hfz30_3
                    try clear hfz30_4
                    try clear hfz30_5
                    try clear hfz30_6
                    try clear hfz34_0
                    try clear hfz34_1
                    try clear hfz34_2
                    try clear hfz34_3
                    try clear hfz34_4
                    try clear hfz34_5
                    try clear hfz34_6
                    try clear hfz49_0
                    try clear hfz49_1
                    try clear hfz49_2
                    try clear hfz49_3
                    try clear hfz49_4
                    try clear hfz49_5
                    try clear hfz49_6
                    try clear hfz9_0
                    try clear hfz9_1
                    try clear hfz9_2
                    try clear hfz9_3
                    try clear hfz9_4
                    try clear hfz9_5
                    try clear hfz9_6
                    try clear hx224_0
                    try clear hx224_1
                    try clear hx226_0
                    try clear hx226_1
                    try clear p2
                    try clear p224
                    try clear p226
                    try clear q224
                    try clear q226
                    obtain ⟨kq, x75_44, rfl, HA, HJ44, HO_224006, BK208, BK223, HB⟩ := hcut
                    cases kq with
                    | zero => exact absurd HA.out (by simp [lamellalaw12_HoldReaders.j2])
                    | succ kj44 =>
                      have H := HA.out
                      clear HA
                      simp only [lamellalaw12_HoldReaders.j2] at H
                      by_cases c51 : x75_44 = true
                      · subst c51
                        have H1 : ((lamellalaw12_alive.f).bind fun t228 => (if t228 = true then (some (t221 == 2)) else (some false))) = some r := by rw [if_pos rfl] at H; exact H
                        clear H
                        have H := H1
                        clear H1
                        replace H := Option.bind_eq_some_iff.mp H
                        obtain ⟨t228, A520, H⟩ := H
                        replace H : (if t228 = true then (some (t221 == 2)) else (some false)) = some r := H
                        have A52 := Aside0.mk A520
                        clear A520
                        by_cases c53 : t228 = true
                        · subst c53
                          have H1 : (some (t221 == 2)) = some r := by rw [if_pos rfl] at H; exact H
                          clear H
                          have H := H1
                          clear H1
                          obtain rfl := Option.some.inj H
                          go_wp2_with (first | ((with_reducible refine gate_callee (f := 8) rfl ?_); refine goesL_ (some 76) rfl rfl Try.func8 (by kernel_rfl) rfl #[] rfl (by (try simp only [List.map_toArray, List.map_cons, List.map_nil]); first | done | rfl | (simp only [List.length_drop, List.length_take]; rfl)) ?_; (with_reducible refine (lamellalaw12_alive.calls  true _ A52.out).mono ?_); rintro e w54 ⟨rfl, hb⟩; refine ⟨_, rfl, ?_⟩; have n0_ := Aside0.mk (Kd.R_below (by (with_reducible repeat (first | apply Kd.R_alloc | apply Kd.R_drewN | apply Kd.R_drew)); exact HO_224006.out) hb); have n1_ := Aside0.mk (blk_below (g := gb208) (o := .cells #[.int .u32 a0_0, .int .u32 a0_1, .int .u32 a0_2, .int .u32 a0_3, .bool a0_4, .bool a0_5, .slice A0_6 l0_6.length c0_6] 25 (0, 0)) (by (with_reducible repeat (first | refine blk_drewN ?_ _ | refine blk_drew ?_ | refine blk_alloc ?_ _)); exact BK208.out) hb); have n2_ := Aside0.mk (blk_below (g := gb223) (o := .cells #[.int .u32 t212, .int .u32 t213, .int .u32 t214, .int .u32 t215, .bool t216, .bool t217, .slice Ao35 t218.length co35] 25 (0, 0)) (by (with_reducible repeat (first | refine blk_drewN ?_ _ | refine blk_drew ?_ | refine blk_alloc ?_ _)); exact BK223.out) hb); have n3_ := Aside0.mk (below_step (by repeat (first | (with_reducible first | exact HB.out | apply below_alloc | apply pw_below_drewN | apply below_drew1 | refine below_set ?_ GE208.out | refine below_set ?_ GE223.out) | exact HB.out)) hb); clear HO_224006; clear BK208; clear BK223; clear HB; have HO_224006 := n0_; have BK208 := n1_; have BK223 := n2_; have HB := n3_; clear n0_ n1_ n2_ n3_; (try clear hb); (try clear hb2); (try clear hk); (try clear hi)))
                          all_goals
                            go_ret
                            exact ⟨by first | rfl | (simp [errW_none, errW_some] <;> rfl) | (simp [*, errW_none, errW_some] <;> rfl), by repeat (first | (with_reducible first | exact HB.out | apply below_alloc | apply pw_below_drewN | apply below_drew1 | refine below_set ?_ GE208.out | refine below_set ?_ GE223.out) | exact HB.out)⟩
                        · replace c53 := Bool.eq_false_iff.mpr c53
                          subst c53
                          have H1 : (some false) = some r := by rw [if_neg (show ¬ (false = true) by decide)] at H; exact H
                          clear H
                          have H := H1
                          clear H1
                          obtain rfl := Option.some.inj H
                          go_wp2_with (first | ((with_reducible refine gate_callee (f := 8) rfl ?_); refine goesL_ (some 76) rfl rfl Try.func8 (by kernel_rfl) rfl #[] rfl (by (try simp only [List.map_toArray, List.map_cons, List.map_nil]); first | done | rfl | (simp only [List.length_drop, List.length_take]; rfl)) ?_; (with_reducible refine (lamellalaw12_alive.calls  false _ A52.out).mono ?_); rintro e w55 ⟨rfl, hb⟩; refine ⟨_, rfl, ?_⟩; have n0_ := Aside0.mk (Kd.R_below (by (with_reducible repeat (first | apply Kd.R_alloc | apply Kd.R_drewN | apply Kd.R_drew)); exact HO_224006.out) hb); have n1_ := Aside0.mk (blk_below (g := gb208) (o := .cells #[.int .u32 a0_0, .int .u32 a0_1, .int .u32 a0_2, .int .u32 a0_3, .bool a0_4, .bool a0_5, .slice A0_6 l0_6.length c0_6] 25 (0, 0)) (by (with_reducible repeat (first | refine blk_drewN ?_ _ | refine blk_drew ?_ | refine blk_alloc ?_ _)); exact BK208.out) hb); have n2_ := Aside0.mk (blk_below (g := gb223) (o := .cells #[.int .u32 t212, .int .u32 t213, .int .u32 t214, .int .u32 t215, .bool t216, .bool t217, .slice Ao35 t218.length co35] 25 (0, 0)) (by (with_reducible repeat (first | refine blk_drewN ?_ _ | refine blk_drew ?_ | refine blk_alloc ?_ _)); exact BK223.out) hb); have n3_ := Aside0.mk (below_step (by repeat (first | (with_reducible first | exact HB.out | apply below_alloc | apply pw_below_drewN | apply below_drew1 | refine below_set ?_ GE208.out | refine below_set ?_ GE223.out) | exact HB.out)) hb); clear HO_224006; clear BK208; clear BK223; clear HB; have HO_224006 := n0_; have BK208 := n1_; have BK223 := n2_; have HB := n3_; clear n0_ n1_ n2_ n3_; (try clear hb); (try clear hb2); (try clear hk); (try clear hi)))
                          all_goals
                            go_ret
                            exact ⟨by first | rfl | (simp [errW_none, errW_some] <;> rfl) | (simp [*, errW_none, errW_some] <;> rfl), by repeat (first | (with_reducible first | exact HB.out | apply below_alloc | apply pw_below_drewN | apply below_drew1 | refine below_set ?_ GE208.out | refine below_set ?_ GE223.out) | exact HB.out)⟩
                      · replace c51 := Bool.eq_false_iff.mpr c51
                        subst c51
                        have H1 : ((lamellalaw12_alive.f).bind fun t229 => (if t229 = true then (if t221 = 1 then ((hold_Mode.f kj44 t212 t213 t214 t215 t216 t217 t218 a1).bind fun t230 => (if t230 = 1 then (some (t213 == a0_1)) else (some false))) else (some false)) else (some false))) = some r := by rw [if_neg (show ¬ (false = true) by decide)] at H; exact H
                        clear H
                        have H := H1
                        clear H1
                        replace H := Option.bind_eq_some_iff.mp H
                        obtain ⟨t229, A560, H⟩ := H
                        replace H : (if t229 = true then (if t221 = 1 then ((hold_Mode.f kj44 t212 t213 t214 t215 t216 t217 t218 a1).bind fun t230 => (if t230 = 1 then (some (t213 == a0_1)) else (some false))) else (some false)) else (some false)) = some r := H
                        have A56 := Aside0.mk A560
                        clear A560
                        by_cases c57 : t229 = true
                        · subst c57
                          have H1 : (if t221 = 1 then ((hold_Mode.f kj44 t212 t213 t214 t215 t216 t217 t218 a1).bind fun t230 => (if t230 = 1 then (some (t213 == a0_1)) else (some false))) else (some false)) = some r := by rw [if_pos rfl] at H; exact H
                          clear H
                          have H := H1
                          clear H1
                          by_cases c58 : t221 = 1
                          · rw [if_pos c58] at H
                            have c58b0 : (t221 == 1) = true := beq_iff_eq.mpr c58
                            have c58b1 : (t221 != 1) = false := bne_eq_false_iff_eq.mpr c58
                            clear c58
                            replace H := Option.bind_eq_some_iff.mp H
                            obtain ⟨t230, A590, H⟩ := H
                            replace H : (if t230 = 1 then (some (t213 == a0_1)) else (some false)) = some r := H
                            have A59 := Aside0.mk A590
                            clear A590
                            by_cases c60 : t230 = 1
                            · rw [if_pos c60] at H
                              have c60b0 : (t230 == 1) = true := beq_iff_eq.mpr c60
                              have c60b1 : (t230 != 1) = false := bne_eq_false_iff_eq.mpr c60
                              clear c60
                              obtain rfl := Option.some.inj H
                              go_wp2_with (first | ((with_reducible refine gate_callee (f := 8) rfl ?_); refine goesL_ (some 81) rfl rfl Try.func8 (by kernel_rfl) rfl #[] rfl (by (try simp only [List.map_toArray, List.map_cons, List.map_nil]); first | done | rfl | (simp only [List.length_drop, List.length_take]; rfl)) ?_; (with_reducible refine (lamellalaw12_alive.calls  true _ A56.out).mono ?_); rintro e w61 ⟨rfl, hb⟩; refine ⟨_, rfl, ?_⟩; have n0_ := Aside0.mk (Kd.R_below (by (with_reducible repeat (first | apply Kd.R_alloc | apply Kd.R_drewN | apply Kd.R_drew)); exact HO_224006.out) hb); have n1_ := Aside0.mk (blk_below (g := gb208) (o := .cells #[.int .u32 a0_0, .int .u32 a0_1, .int .u32 a0_2, .int .u32 a0_3, .bool a0_4, .bool a0_5, .slice A0_6 l0_6.length c0_6] 25 (0, 0)) (by (with_reducible repeat (first | refine blk_drewN ?_ _ | refine blk_drew ?_ | refine blk_alloc ?_ _)); exact BK208.out) hb); have n2_ := Aside0.mk (blk_below (g := gb223) (o := .cells #[.int .u32 t212, .int .u32 t213, .int .u32 t214, .int .u32 t215, .bool t216, .bool t217, .slice Ao35 t218.length co35] 25 (0, 0)) (by (with_reducible repeat (first | refine blk_drewN ?_ _ | refine blk_drew ?_ | refine blk_alloc ?_ _)); exact BK223.out) hb); have n3_ := Aside0.mk (below_step (by repeat (first | (with_reducible first | exact HB.out | apply below_alloc | apply pw_below_drewN | apply below_drew1 | refine below_set ?_ GE208.out | refine below_set ?_ GE223.out) | exact HB.out)) hb); clear HO_224006; clear BK208; clear BK223; clear HB; have HO_224006 := n0_; have BK208 := n1_; have BK223 := n2_; have HB := n3_; clear n0_ n1_ n2_ n3_; (try clear hb); (try clear hb2); (try clear hk); (try clear hi); have hnb62 := NB223_208.out; have hnc62 := NB208_223.out; have hcz63_0 : w61.cell? ⟨gb223, 0, none⟩ = some (.int .u32 t212) := (blk_cell BK223.out 0).trans rfl; have hcz63_1 : w61.cell? ⟨gb223, 1, none⟩ = some (.int .u32 t213) := (blk_cell BK223.out 1).trans rfl; have hcz63_2 : w61.cell? ⟨gb223, 2, none⟩ = some (.int .u32 t214) := (blk_cell BK223.out 2).trans rfl; have hcz63_3 : w61.cell? ⟨gb223, 3, none⟩ = some (.int .u32 t215) := (blk_cell BK223.out 3).trans rfl; have hcz63_4 : w61.cell? ⟨gb223, 4, none⟩ = some (.bool t216) := (blk_cell BK223.out 4).trans rfl; have hcz63_5 : w61.cell? ⟨gb223, 5, none⟩ = some (.bool t217) := (blk_cell BK223.out 5).trans rfl; have hcz63_6 : w61.cell? ⟨gb223, 6, none⟩ = some (.slice Ao35 t218.length co35) := (blk_cell BK223.out 6).trans rfl; have hfz63_0 := blk_frozen BK223.out 0; have hfz63_1 := blk_frozen BK223.out 1; have hfz63_2 := blk_frozen BK223.out 2; have hfz63_3 := blk_frozen BK223.out 3; have hfz63_4 := blk_frozen BK223.out 4; have hfz63_5 := blk_frozen BK223.out 5; have hfz63_6 := blk_frozen BK223.out 6) | (go_at_call 14; (with_reducible refine (hold_Mode.calls kj44 t212 t213 t214 t215 t216 t217 _ _ t218 a1 t230 _ ?side1 ?side2 A59.out).mono ?_); (case side1 => repeat (first | exact (Kd.R_reads' HO_224006.out).2.2 | (with_reducible refine Kd.C_alloc ?_ _) | (with_reducible refine Kd.C_drewN ?_ _) | (with_reducible refine Kd.C_drew ?_))); (case side2 => exact (Kd.R_reads' HO_224006.out).2.1); rintro e w64 ⟨rfl, hb⟩; have n0_ := Aside0.mk (Kd.R_below (by (with_reducible repeat (first | apply Kd.R_alloc | apply Kd.R_drewN | apply Kd.R_drew)); exact HO_224006.out) hb); have n1_ := Aside0.mk (blk_below (g := gb208) (o := .cells #[.int .u32 a0_0, .int .u32 a0_1, .int .u32 a0_2, .int .u32 a0_3, .bool a0_4, .bool a0_5, .slice A0_6 l0_6.length c0_6] 25 (0, 0)) (by (with_reducible repeat (first | refine blk_drewN ?_ _ | refine blk_drew ?_ | refine blk_alloc ?_ _)); exact BK208.out) hb); have n2_ := Aside0.mk (blk_below (g := gb223) (o := .cells #[.int .u32 t212, .int .u32 t213, .int .u32 t214, .int .u32 t215, .bool t216, .bool t217, .slice Ao35 t218.length co35] 25 (0, 0)) (by (with_reducible repeat (first | refine blk_drewN ?_ _ | refine blk_drew ?_ | refine blk_alloc ?_ _)); exact BK223.out) hb); have n3_ := Aside0.mk (below_step (by repeat (first | (with_reducible first | exact HB.out | apply below_alloc | apply pw_below_drewN | apply below_drew1 | refine below_set ?_ GE208.out | refine below_set ?_ GE223.out) | exact HB.out)) hb); clear HO_224006; clear BK208; clear BK223; clear HB; have HO_224006 := n0_; have BK208 := n1_; have BK223 := n2_; have HB := n3_; clear n0_ n1_ n2_ n3_; (try clear hb); (try clear hb2); (try clear hk); (try clear hi); have hcz65_0 : w64.cell? ⟨gb223, 0, none⟩ = some (.int .u32 t212) := (blk_cell BK223.out 0).trans rfl; have hcz65_1 : w64.cell? ⟨gb223, 1, none⟩ = some (.int .u32 t213) := (blk_cell BK223.out 1).trans rfl; have hcz65_2 : w64.cell? ⟨gb223, 2, none⟩ = some (.int .u32 t214) := (blk_cell BK223.out 2).trans rfl; have hcz65_3 : w64.cell? ⟨gb223, 3, none⟩ = some (.int .u32 t215) := (blk_cell BK223.out 3).trans rfl; have hcz65_4 : w64.cell? ⟨gb223, 4, none⟩ = some (.bool t216) := (blk_cell BK223.out 4).trans rfl; have hcz65_5 : w64.cell? ⟨gb223, 5, none⟩ = some (.bool t217) := (blk_cell BK223.out 5).trans rfl; have hcz65_6 : w64.cell? ⟨gb223, 6, none⟩ = some (.slice Ao35 t218.length co35) := (blk_cell BK223.out 6).trans rfl; have hfz65_0 := blk_frozen BK223.out 0; have hfz65_1 := blk_frozen BK223.out 1; have hfz65_2 := blk_frozen BK223.out 2; have hfz65_3 := blk_frozen BK223.out 3; have hfz65_4 := blk_frozen BK223.out 4; have hfz65_5 := blk_frozen BK223.out 5; have hfz65_6 := blk_frozen BK223.out 6; have hcz66_0 : w64.cell? ⟨gb208, 0, none⟩ = some (.int .u32 a0_0) := (blk_cell BK208.out 0).trans rfl; have hcz66_1 : w64.cell? ⟨gb208, 1, none⟩ = some (.int .u32 a0_1) := (blk_cell BK208.out 1).trans rfl; have hcz66_2 : w64.cell? ⟨gb208, 2, none⟩ = some (.int .u32 a0_2) := (blk_cell BK208.out 2).trans rfl; have hcz66_3 : w64.cell? ⟨gb208, 3, none⟩ = some (.int .u32 a0_3) := (blk_cell BK208.out 3).trans rfl; have hcz66_4 : w64.cell? ⟨gb208, 4, none⟩ = some (.bool a0_4) := (blk_cell BK208.out 4).trans rfl; have hcz66_5 : w64.cell? ⟨gb208, 5, none⟩ = some (.bool a0_5) := (blk_cell BK208.out 5).trans rfl; have hcz66_6 : w64.cell? ⟨gb208, 6, none⟩ = some (.slice A0_6 l0_6.length c0_6) := (blk_cell BK208.out 6).trans rfl; have hfz66_0 := blk_frozen BK208.out 0; have hfz66_1 := blk_frozen BK208.out 1; have hfz66_2 := blk_frozen BK208.out 2; have hfz66_3 := blk_frozen BK208.out 3; have hfz66_4 := blk_frozen BK208.out 4; have hfz66_5 := blk_frozen BK208.out 5; have hfz66_6 := blk_frozen BK208.out 6))
                              all_goals
                                go_ret
                                exact ⟨by first | rfl | (simp [errW_none, errW_some] <;> rfl) | (simp [*, errW_none, errW_some] <;> rfl), by repeat (first | (with_reducible first | exact HB.out | apply below_alloc | apply pw_below_drewN | apply below_drew1 | refine below_set ?_ GE208.out | refine below_set ?_ GE223.out) | exact HB.out)⟩
                            · rw [if_neg c60] at H
                              have c60b0 : (t230 == 1) = false := beq_eq_false_iff_ne.mpr c60
                              have c60b1 : (t230 != 1) = true := bne_iff_ne.mpr c60
                              obtain rfl := Option.some.inj H
                              go_wp2_with (first | ((with_reducible refine gate_callee (f := 8) rfl ?_); refine goesL_ (some 81) rfl rfl Try.func8 (by kernel_rfl) rfl #[] rfl (by (try simp only [List.map_toArray, List.map_cons, List.map_nil]); first | done | rfl | (simp only [List.length_drop, List.length_take]; rfl)) ?_; (with_reducible refine (lamellalaw12_alive.calls  true _ A56.out).mono ?_); rintro e w67 ⟨rfl, hb⟩; refine ⟨_, rfl, ?_⟩; have n0_ := Aside0.mk (Kd.R_below (by (with_reducible repeat (first | apply Kd.R_alloc | apply Kd.R_drewN | apply Kd.R_drew)); exact HO_224006.out) hb); have n1_ := Aside0.mk (blk_below (g := gb208) (o := .cells #[.int .u32 a0_0, .int .u32 a0_1, .int .u32 a0_2, .int .u32 a0_3, .bool a0_4, .bool a0_5, .slice A0_6 l0_6.length c0_6] 25 (0, 0)) (by (with_reducible repeat (first | refine blk_drewN ?_ _ | refine blk_drew ?_ | refine blk_alloc ?_ _)); exact BK208.out) hb); have n2_ := Aside0.mk (blk_below (g := gb223) (o := .cells #[.int .u32 t212, .int .u32 t213, .int .u32 t214, .int .u32 t215, .bool t216, .bool t217, .slice Ao35 t218.length co35] 25 (0, 0)) (by (with_reducible repeat (first | refine blk_drewN ?_ _ | refine blk_drew ?_ | refine blk_alloc ?_ _)); exact BK223.out) hb); have n3_ := Aside0.mk (below_step (by repeat (first | (with_reducible first | exact HB.out | apply below_alloc | apply pw_below_drewN | apply below_drew1 | refine below_set ?_ GE208.out | refine below_set ?_ GE223.out) | exact HB.out)) hb); clear HO_224006; clear BK208; clear BK223; clear HB; have HO_224006 := n0_; have BK208 := n1_; have BK223 := n2_; have HB := n3_; clear n0_ n1_ n2_ n3_; (try clear hb); (try clear hb2); (try clear hk); (try clear hi); have hnb68 := NB223_208.out; have hnc68 := NB208_223.out; have hcz69_0 : w67.cell? ⟨gb223, 0, none⟩ = some (.int .u32 t212) := (blk_cell BK223.out 0).trans rfl; have hcz69_1 : w67.cell? ⟨gb223, 1, none⟩ = some (.int .u32 t213) := (blk_cell BK223.out 1).trans rfl; have hcz69_2 : w67.cell? ⟨gb223, 2, none⟩ = some (.int .u32 t214) := (blk_cell BK223.out 2).trans rfl; have hcz69_3 : w67.cell? ⟨gb223, 3, none⟩ = some (.int .u32 t215) := (blk_cell BK223.out 3).trans rfl; have hcz69_4 : w67.cell? ⟨gb223, 4, none⟩ = some (.bool t216) := (blk_cell BK223.out 4).trans rfl; have hcz69_5 : w67.cell? ⟨gb223, 5, none⟩ = some (.bool t217) := (blk_cell BK223.out 5).trans rfl; have hcz69_6 : w67.cell? ⟨gb223, 6, none⟩ = some (.slice Ao35 t218.length co35) := (blk_cell BK223.out 6).trans rfl; have hfz69_0 := blk_frozen BK223.out 0; have hfz69_1 := blk_frozen BK223.out 1; have hfz69_2 := blk_frozen BK223.out 2; have hfz69_3 := blk_frozen BK223.out 3; have hfz69_4 := blk_frozen BK223.out 4; have hfz69_5 := blk_frozen BK223.out 5; have hfz69_6 := blk_frozen BK223.out 6) | (go_at_call 14; (with_reducible refine (hold_Mode.calls kj44 t212 t213 t214 t215 t216 t217 _ _ t218 a1 t230 _ ?side1 ?side2 A59.out).mono ?_); (case side1 => repeat (first | exact (Kd.R_reads' HO_224006.out).2.2 | (with_reducible refine Kd.C_alloc ?_ _) | (with_reducible refine Kd.C_drewN ?_ _) | (with_reducible refine Kd.C_drew ?_))); (case side2 => exact (Kd.R_reads' HO_224006.out).2.1); rintro e w70 ⟨rfl, hb⟩; have n0_ := Aside0.mk (Kd.R_below (by (with_reducible repeat (first | apply Kd.R_alloc | apply Kd.R_drewN | apply Kd.R_drew)); exact HO_224006.out) hb); have n1_ := Aside0.mk (blk_below (g := gb208) (o := .cells #[.int .u32 a0_0, .int .u32 a0_1, .int .u32 a0_2, .int .u32 a0_3, .bool a0_4, .bool a0_5, .slice A0_6 l0_6.length c0_6] 25 (0, 0)) (by (with_reducible repeat (first | refine blk_drewN ?_ _ | refine blk_drew ?_ | refine blk_alloc ?_ _)); exact BK208.out) hb); have n2_ := Aside0.mk (blk_below (g := gb223) (o := .cells #[.int .u32 t212, .int .u32 t213, .int .u32 t214, .int .u32 t215, .bool t216, .bool t217, .slice Ao35 t218.length co35] 25 (0, 0)) (by (with_reducible repeat (first | refine blk_drewN ?_ _ | refine blk_drew ?_ | refine blk_alloc ?_ _)); exact BK223.out) hb); have n3_ := Aside0.mk (below_step (by repeat (first | (with_reducible first | exact HB.out | apply below_alloc | apply pw_below_drewN | apply below_drew1 | refine below_set ?_ GE208.out | refine below_set ?_ GE223.out) | exact HB.out)) hb); clear HO_224006; clear BK208; clear BK223; clear HB; have HO_224006 := n0_; have BK208 := n1_; have BK223 := n2_; have HB := n3_; clear n0_ n1_ n2_ n3_; (try clear hb); (try clear hb2); (try clear hk); (try clear hi)))
                              all_goals
                                go_ret
                                exact ⟨by first | rfl | (simp [errW_none, errW_some] <;> rfl) | (simp [*, errW_none, errW_some] <;> rfl), by repeat (first | (with_reducible first | exact HB.out | apply below_alloc | apply pw_below_drewN | apply below_drew1 | refine below_set ?_ GE208.out | refine below_set ?_ GE223.out) | exact HB.out)⟩
                          · rw [if_neg c58] at H
                            have c58b0 : (t221 == 1) = false := beq_eq_false_iff_ne.mpr c58
                            have c58b1 : (t221 != 1) = true := bne_iff_ne.mpr c58
                            obtain rfl := Option.some.inj H
                            go_wp2_with (first | ((with_reducible refine gate_callee (f := 8) rfl ?_); refine goesL_ (some 81) rfl rfl Try.func8 (by kernel_rfl) rfl #[] rfl (by (try simp only [List.map_toArray, List.map_cons, List.map_nil]); first | done | rfl | (simp only [List.length_drop, List.length_take]; rfl)) ?_; (with_reducible refine (lamellalaw12_alive.calls  true _ A56.out).mono ?_); rintro e w71 ⟨rfl, hb⟩; refine ⟨_, rfl, ?_⟩; have n0_ := Aside0.mk (Kd.R_below (by (with_reducible repeat (first | apply Kd.R_alloc | apply Kd.R_drewN | apply Kd.R_drew)); exact HO_224006.out) hb); have n1_ := Aside0.mk (blk_below (g := gb208) (o := .cells #[.int .u32 a0_0, .int .u32 a0_1, .int .u32 a0_2, .int .u32 a0_3, .bool a0_4, .bool a0_5, .slice A0_6 l0_6.length c0_6] 25 (0, 0)) (by (with_reducible repeat (first | refine blk_drewN ?_ _ | refine blk_drew ?_ | refine blk_alloc ?_ _)); exact BK208.out) hb); have n2_ := Aside0.mk (blk_below (g := gb223) (o := .cells #[.int .u32 t212, .int .u32 t213, .int .u32 t214, .int .u32 t215, .bool t216, .bool t217, .slice Ao35 t218.length co35] 25 (0, 0)) (by (with_reducible repeat (first | refine blk_drewN ?_ _ | refine blk_drew ?_ | refine blk_alloc ?_ _)); exact BK223.out) hb); have n3_ := Aside0.mk (below_step (by repeat (first | (with_reducible first | exact HB.out | apply below_alloc | apply pw_below_drewN | apply below_drew1 | refine below_set ?_ GE208.out | refine below_set ?_ GE223.out) | exact HB.out)) hb); clear HO_224006; clear BK208; clear BK223; clear HB; have HO_224006 := n0_; have BK208 := n1_; have BK223 := n2_; have HB := n3_; clear n0_ n1_ n2_ n3_; (try clear hb); (try clear hb2); (try clear hk); (try clear hi)))
                            all_goals
                              go_ret
                              exact ⟨by first | rfl | (simp [errW_none, errW_some] <;> rfl) | (simp [*, errW_none, errW_some] <;> rfl), by repeat (first | (with_reducible first | exact HB.out | apply below_alloc | apply pw_below_drewN | apply below_drew1 | refine below_set ?_ GE208.out | refine below_set ?_ GE223.out) | exact HB.out)⟩
                        · replace c57 := Bool.eq_false_iff.mpr c57
                          subst c57
                          have H1 : (some false) = some r := by rw [if_neg (show ¬ (false = true) by decide)] at H; exact H
                          clear H
                          have H := H1
                          clear H1
                          obtain rfl := Option.some.inj H
                          go_wp2_with (first | ((with_reducible refine gate_callee (f := 8) rfl ?_); refine goesL_ (some 81) rfl rfl Try.func8 (by kernel_rfl) rfl #[] rfl (by (try simp only [List.map_toArray, List.map_cons, List.map_nil]); first | done | rfl | (simp only [List.length_drop, List.length_take]; rfl)) ?_; (with_reducible refine (lamellalaw12_alive.calls  false _ A56.out).mono ?_); rintro e w72 ⟨rfl, hb⟩; refine ⟨_, rfl, ?_⟩; have n0_ := Aside0.mk (Kd.R_below (by (with_reducible repeat (first | apply Kd.R_alloc | apply Kd.R_drewN | apply Kd.R_drew)); exact HO_224006.out) hb); have n1_ := Aside0.mk (blk_below (g := gb208) (o := .cells #[.int .u32 a0_0, .int .u32 a0_1, .int .u32 a0_2, .int .u32 a0_3, .bool a0_4, .bool a0_5, .slice A0_6 l0_6.length c0_6] 25 (0, 0)) (by (with_reducible repeat (first | refine blk_drewN ?_ _ | refine blk_drew ?_ | refine blk_alloc ?_ _)); exact BK208.out) hb); have n2_ := Aside0.mk (blk_below (g := gb223) (o := .cells #[.int .u32 t212, .int .u32 t213, .int .u32 t214, .int .u32 t215, .bool t216, .bool t217, .slice Ao35 t218.length co35] 25 (0, 0)) (by (with_reducible repeat (first | refine blk_drewN ?_ _ | refine blk_drew ?_ | refine blk_alloc ?_ _)); exact BK223.out) hb); have n3_ := Aside0.mk (below_step (by repeat (first | (with_reducible first | exact HB.out | apply below_alloc | apply pw_below_drewN | apply below_drew1 | refine below_set ?_ GE208.out | refine below_set ?_ GE223.out) | exact HB.out)) hb); clear HO_224006; clear BK208; clear BK223; clear HB; have HO_224006 := n0_; have BK208 := n1_; have BK223 := n2_; have HB := n3_; clear n0_ n1_ n2_ n3_; (try clear hb); (try clear hb2); (try clear hk); (try clear hi)))
                          all_goals
                            go_ret
                            exact ⟨by first | rfl | (simp [errW_none, errW_some] <;> rfl) | (simp [*, errW_none, errW_some] <;> rfl), by repeat (first | (with_reducible first | exact HB.out | apply below_alloc | apply pw_below_drewN | apply below_drew1 | refine below_set ?_ GE208.out | refine below_set ?_ GE223.out) | exact HB.out)⟩
          · rw [if_neg c29] at H
            have c29b0 : (t222 == 0) = false := beq_eq_false_iff_ne.mpr c29
            have c29b1 : (t222 != 0) = true := bne_iff_ne.mpr c29
            obtain rfl := Option.some.inj H
            have hcz73_0 : wc.cell? ⟨gb208, 0, none⟩ = some (.int .u32 a0_0) := (blk_cell BK208.out 0).trans rfl
            have hcz73_1 : wc.cell? ⟨gb208, 1, none⟩ = some (.int .u32 a0_1) := (blk_cell BK208.out 1).trans rfl
            have hcz73_2 : wc.cell? ⟨gb208, 2, none⟩ = some (.int .u32 a0_2) := (blk_cell BK208.out 2).trans rfl
            have hcz73_3 : wc.cell? ⟨gb208, 3, none⟩ = some (.int .u32 a0_3) := (blk_cell BK208.out 3).trans rfl
            have hcz73_4 : wc.cell? ⟨gb208, 4, none⟩ = some (.bool a0_4) := (blk_cell BK208.out 4).trans rfl
            have hcz73_5 : wc.cell? ⟨gb208, 5, none⟩ = some (.bool a0_5) := (blk_cell BK208.out 5).trans rfl
            have hcz73_6 : wc.cell? ⟨gb208, 6, none⟩ = some (.slice A0_6 l0_6.length c0_6) := (blk_cell BK208.out 6).trans rfl
            have hfz73_0 := blk_frozen BK208.out 0
            have hfz73_1 := blk_frozen BK208.out 1
            have hfz73_2 := blk_frozen BK208.out 2
            have hfz73_3 := blk_frozen BK208.out 3
            have hfz73_4 := blk_frozen BK208.out 4
            have hfz73_5 := blk_frozen BK208.out 5
            have hfz73_6 := blk_frozen BK208.out 6
            go_wp2_with (first | ((with_reducible refine gate_callee (f := 17) rfl ?_); refine goesL_ (some 42) rfl rfl Try.func17 (by kernel_rfl) rfl #[.agg #[.int .u32 a0_0, .int .u32 a0_1, .int .u32 a0_2, .int .u32 a0_3, .bool a0_4, .bool a0_5, .slice A0_6 l0_6.length c0_6], .int .u32 a1, .int .u32 1] rfl (by (try simp only [List.map_toArray, List.map_cons, List.map_nil]); first | done | rfl | (simp only [List.length_drop, List.length_take]; rfl)) ?_; (with_reducible refine (hold_Ask.calls a0_0 a0_1 a0_2 a0_3 a0_4 a0_5 _ _ l0_6 a1 1 t212 t213 t214 t215 t216 t217 t218 t221 t222 _ ?side1 ?side2 A28.out).mono ?_); (case side1 => repeat (first | exact (Kd.C_below HR0_6.out HB.out) | (with_reducible refine Kd.C_alloc ?_ _) | (with_reducible refine Kd.C_drewN ?_ _) | (with_reducible refine Kd.C_drew ?_))); (case side2 => exact HC0_6.out); rintro e w74 ⟨v219, rfl, ho0, hb⟩; refine ⟨_, rfl, ?_⟩; have n0_ := Aside0.mk (Kd.R_lower ho0 (below_size (by repeat (first | (with_reducible first | exact HB.out | apply below_alloc | apply pw_below_drewN | apply below_drew1 | refine below_set ?_ GE208.out) | exact HB.out)))); have n1_ := Aside0.mk (blk_below (g := gb208) (o := .cells #[.int .u32 a0_0, .int .u32 a0_1, .int .u32 a0_2, .int .u32 a0_3, .bool a0_4, .bool a0_5, .slice A0_6 l0_6.length c0_6] 25 (0, 0)) (by (with_reducible repeat (first | refine blk_drewN ?_ _ | refine blk_drew ?_ | refine blk_alloc ?_ _)); exact BK208.out) hb); have n2_ := Aside0.mk (below_step (by repeat (first | (with_reducible first | exact HB.out | apply below_alloc | apply pw_below_drewN | apply below_drew1 | refine below_set ?_ GE208.out) | exact HB.out)) hb); clear BK208; clear HB; have HO220 := n0_; have BK208 := n1_; have HB := n2_; clear n0_ n1_ n2_; (try clear hb); (try clear hb2); (try clear hk); (try clear hi); (try clear ho0)) | ((with_reducible refine gate_dst (N := 6) rfl ?_); refine box_event ?hg (N := 6) ?hd (cs := #[.int .u32 0, .int .u32 0, .int .u32 0, .int .u32 0, .bool false, .bool false, .slice none 0 0]) (t := 25) ?hr ?_; (case hd => rfl); (case hg => rfl); (case hr => first | (go_simp; done) | (go_simp; rfl)); intro gb223 hg w75 hbox hb; have n0_ := Aside0.mk (Kd.R_below (by (with_reducible repeat (first | apply Kd.R_alloc | apply Kd.R_drewN | apply Kd.R_drew)); exact HO220.out) hb); have n1_ := Aside0.mk (blk_below (g := gb208) (o := .cells #[.int .u32 a0_0, .int .u32 a0_1, .int .u32 a0_2, .int .u32 a0_3, .bool a0_4, .bool a0_5, .slice A0_6 l0_6.length c0_6] 25 (0, 0)) (by (with_reducible repeat (first | refine blk_drewN ?_ _ | refine blk_drew ?_ | refine blk_alloc ?_ _)); exact BK208.out) hb); have n2_ := Aside0.mk (below_step (by repeat (first | (with_reducible first | exact HB.out | apply below_alloc | apply pw_below_drewN | apply below_drew1 | refine below_set ?_ GE208.out) | exact HB.out)) hb); have n3_ := Aside0.mk (hbox); have n4_ := Aside0.mk ((by rw [hg]; exact (below_size (by repeat (first | (with_reducible first | exact HB.out | apply below_alloc | apply pw_below_drewN | apply below_drew1 | refine below_set ?_ GE208.out) | exact HB.out))) : w.heap.size ≤ gb223)); have n5_ := Aside0.mk ((by rw [hg]; exact (below_size (by repeat (first | (with_reducible first | exact HB.out | apply below_alloc | apply pw_below_drewN | apply below_drew1 | refine below_set ?_ GE208.out) | exact HB.out))) : w.heap.size ≤ gb223)); have n6_ := Aside0.mk ((by rw [hg]; exact Nat.ne_of_lt (blk_lt (g := gb208) (o := .cells #[.int .u32 a0_0, .int .u32 a0_1, .int .u32 a0_2, .int .u32 a0_3, .bool a0_4, .bool a0_5, .slice A0_6 l0_6.length c0_6] 25 (0, 0)) (by (with_reducible repeat (first | refine blk_drewN ?_ _ | refine blk_drew ?_ | refine blk_alloc ?_ _)); exact BK208.out)) : gb208 ≠ gb223)); have n7_ := Aside0.mk ((by rw [hg]; exact Nat.ne_of_gt (blk_lt (g := gb208) (o := .cells #[.int .u32 a0_0, .int .u32 a0_1, .int .u32 a0_2, .int .u32 a0_3, .bool a0_4, .bool a0_5, .slice A0_6 l0_6.length c0_6] 25 (0, 0)) (by (with_reducible repeat (first | refine blk_drewN ?_ _ | refine blk_drew ?_ | refine blk_alloc ?_ _)); exact BK208.out)) : gb223 ≠ gb208)); clear HO220; clear BK208; clear HB; have HO220 := n0_; have BK208 := n1_; have HB := n2_; have BK223 := n3_; have GW223 := n4_; have GE223 := n5_; have NB208_223 := n6_; have NB223_208 := n7_; clear n0_ n1_ n2_ n3_ n4_ n5_ n6_ n7_; clear hb hbox hg; have hnb76 := NB223_208.out; have hnc76 := NB208_223.out; have hcz77_0 : w75.cell? ⟨gb223, 0, none⟩ = some (.int .u32 0) := (blk_cell BK223.out 0).trans rfl; have hcz77_1 : w75.cell? ⟨gb223, 1, none⟩ = some (.int .u32 0) := (blk_cell BK223.out 1).trans rfl; have hcz77_2 : w75.cell? ⟨gb223, 2, none⟩ = some (.int .u32 0) := (blk_cell BK223.out 2).trans rfl; have hcz77_3 : w75.cell? ⟨gb223, 3, none⟩ = some (.int .u32 0) := (blk_cell BK223.out 3).trans rfl; have hcz77_4 : w75.cell? ⟨gb223, 4, none⟩ = some (.bool false) := (blk_cell BK223.out 4).trans rfl; have hcz77_5 : w75.cell? ⟨gb223, 5, none⟩ = some (.bool false) := (blk_cell BK223.out 5).trans rfl; have hcz77_6 : w75.cell? ⟨gb223, 6, none⟩ = some (.slice none 0 0) := (blk_cell BK223.out 6).trans rfl; have hfz77_0 := blk_frozen BK223.out 0; have hfz77_1 := blk_frozen BK223.out 1; have hfz77_2 := blk_frozen BK223.out 2; have hfz77_3 := blk_frozen BK223.out 3; have hfz77_4 := blk_frozen BK223.out 4; have hfz77_5 := blk_frozen BK223.out 5; have hfz77_6 := blk_frozen BK223.out 6; obtain ⟨Ao78, co78, eo78⟩ := Kd.R_slice HO220.out; subst eo78))
            all_goals
              go_ret
              exact ⟨by first | rfl | (simp [errW_none, errW_some] <;> rfl) | (simp [*, errW_none, errW_some] <;> rfl), by repeat (first | (with_reducible first | exact HB.out | apply below_alloc | apply pw_below_drewN | apply below_drew1 | refine below_set ?_ GE208.out | refine below_set ?_ GE223.out) | exact HB.out)⟩
  · replace c4 := Bool.eq_false_iff.mpr c4
    subst c4
    have H1 : (some false) = some r := by rw [if_neg (show ¬ (false = true) by decide)] at H; exact H
    clear H
    have H := H1
    clear H1
    obtain rfl := Option.some.inj H
    go_enter Try.func5, Try.ntmps5
    go_wp2_with (first | ((with_reducible refine gate_dst (N := 2) rfl ?_); refine box_event ?hg (N := 2) ?hd (cs := #[.int .u32 a0_0, .int .u32 a0_1, .int .u32 a0_2, .int .u32 a0_3, .bool a0_4, .bool a0_5, .slice A0_6 l0_6.length c0_6]) (t := 25) ?hr ?_; (case hd => rfl); (case hg => rfl); (case hr => first | (go_simp; done) | (go_simp; rfl)); intro gb208 hg w79 hbox hb; have n0_ := Aside0.mk (below_step (by repeat (first | (with_reducible first | exact HB.out | apply below_alloc | apply pw_below_drewN | apply below_drew1) | exact HB.out)) hb); have n1_ := Aside0.mk (hbox); have n2_ := Aside0.mk ((by rw [hg]; exact (below_size (by repeat (first | (with_reducible first | exact HB.out | apply below_alloc | apply pw_below_drewN | apply below_drew1) | exact HB.out))) : w.heap.size ≤ gb208)); have n3_ := Aside0.mk ((by rw [hg]; exact (below_size (by repeat (first | (with_reducible first | exact HB.out | apply below_alloc | apply pw_below_drewN | apply below_drew1) | exact HB.out))) : w.heap.size ≤ gb208)); clear HB; have HB := n0_; have BK208 := n1_; have GW208 := n2_; have GE208 := n3_; clear n0_ n1_ n2_ n3_; clear hb hbox hg) | ((with_reducible refine gate_callee (f := 8) rfl ?_); refine goesL_ (some 10) rfl rfl Try.func8 (by kernel_rfl) rfl #[] rfl (by (try simp only [List.map_toArray, List.map_cons, List.map_nil]); first | done | rfl | (simp only [List.length_drop, List.length_take]; rfl)) ?_; (with_reducible refine (lamellalaw12_alive.calls  false _ A3.out).mono ?_); rintro e w80 ⟨rfl, hb⟩; refine ⟨_, rfl, ?_⟩; have n0_ := Aside0.mk (blk_below (g := gb208) (o := .cells #[.int .u32 a0_0, .int .u32 a0_1, .int .u32 a0_2, .int .u32 a0_3, .bool a0_4, .bool a0_5, .slice A0_6 l0_6.length c0_6] 25 (0, 0)) (by (with_reducible repeat (first | refine blk_drewN ?_ _ | refine blk_drew ?_ | refine blk_alloc ?_ _)); exact BK208.out) hb); have n1_ := Aside0.mk (below_step (by repeat (first | (with_reducible first | exact HB.out | apply below_alloc | apply pw_below_drewN | apply below_drew1 | refine below_set ?_ GE208.out) | exact HB.out)) hb); clear BK208; clear HB; have BK208 := n0_; have HB := n1_; clear n0_ n1_; (try clear hb); (try clear hb2); (try clear hk); (try clear hi)))
    all_goals
      go_ret
      exact ⟨by first | rfl | (simp [errW_none, errW_some] <;> rfl) | (simp [*, errW_none, errW_some] <;> rfl), by repeat (first | (with_reducible first | exact HB.out | apply below_alloc | apply pw_below_drewN | apply below_drew1 | refine below_set ?_ GE208.out) | exact HB.out)⟩

end Go.Proofs.Ytkcacfnefhakbaa.P12
