-- Written by a program of this session (wip/tools/printplus.py) over the kit's printer: some functions are given by hand.
import Derived.Test.YtkcacfnefhakbaaP12x0
namespace Go.Proofs.Ytkcacfnefhakbaa.P12
open Go.RowKit Go.Proofs.YtkcacfnefhakbaaW.PrintWords Go.Proofs.YtkcacfnefhakbaaW.PrintLast Go.Proofs.YtkcacfnefhakbaaW.PrintMore
attribute [local go_sem] max2_int min2_int max_two min_two max_three min_three max_four min_four   -- for this text's walks alone
set_option linter.unusedVariables false
set_option linter.unusedSimpArgs false

/-! ### lamellaref12_Right: function 10 -/
mutual
def lamellaref12_Right.j0 : Nat → Int → Bool → Int → Int → Int → Int → Bool → Bool → List (S40) → Option (Bool)
  | 0, _, _, _, _, _, _, _, _, _ => none
  | k + 1, x3, x37, x159000, x159001, x159002, x159003, x159004, x159005, x159006 => if x37 = true then (some false) else (lamellaref12_Right.l0 k x3 0 x159000 x159001 x159002 x159003 x159004 x159005 x159006)
def lamellaref12_Right.l0 : Nat → Int → Int → Int → Int → Int → Int → Bool → Bool → List (S40) → Option (Bool)
  | 0, _, _, _, _, _, _, _, _, _ => none
  | k + 1, x3, x4, x159000, x159001, x159002, x159003, x159004, x159005, x159006 => if x4 < x3 then (if 0 ≤ x4 then (if x4 < (x159006.length : Int) then (if ((rd_T40 x159006 x4).f1) < 1 then (some false) else (if ((rd_T40 x159006 x4).f1) > 2 then (some false) else (if ((rd_T40 x159006 x4).f1) > x159002 then (some false) else (if ((rd_T40 x159006 x4).f1) = 2 then (if x3 = 1 then (if x4 > 0 then (if 0 ≤ (wrap64 (x4 - 1)) then (if (wrap64 (x4 - 1)) < (x159006.length : Int) then (if ((rd_T40 x159006 (wrap64 (x4 - 1))).f0) ≥ ((rd_T40 x159006 x4).f0) then (some false) else (lamellaref12_Right.l0 k x3 (wrap64 (x4 + 1)) x159000 x159001 x159002 x159003 x159004 x159005 x159006)) else (none)) else (none)) else (lamellaref12_Right.l0 k x3 (wrap64 (x4 + 1)) x159000 x159001 x159002 x159003 x159004 x159005 x159006)) else (some false)) else (if x4 > 0 then (if 0 ≤ (wrap64 (x4 - 1)) then (if (wrap64 (x4 - 1)) < (x159006.length : Int) then (if ((rd_T40 x159006 (wrap64 (x4 - 1))).f0) ≥ ((rd_T40 x159006 x4).f0) then (some false) else (lamellaref12_Right.l0 k x3 (wrap64 (x4 + 1)) x159000 x159001 x159002 x159003 x159004 x159005 x159006)) else (none)) else (none)) else (lamellaref12_Right.l0 k x3 (wrap64 (x4 + 1)) x159000 x159001 x159002 x159003 x159004 x159005 x159006)))))) else (none)) else (none)) else (some true)
end
def lamellaref12_Right.f (k : Nat) (a0_0 : Int) (a0_1 : Int) (a0_2 : Int) (a0_3 : Int) (a0_4 : Bool) (a0_5 : Bool) (l0_6 : List (S40)) : Option (Bool) := if a0_2 > 2 then (lamellaref12_Right.j0 k (l0_6.length : Int) true a0_0 a0_1 a0_2 a0_3 a0_4 a0_5 l0_6) else (if a0_3 > 1024 then (lamellaref12_Right.j0 k (l0_6.length : Int) true a0_0 a0_1 a0_2 a0_3 a0_4 a0_5 l0_6) else (if (l0_6.length : Int) > 4 then (lamellaref12_Right.j0 k (l0_6.length : Int) true a0_0 a0_1 a0_2 a0_3 a0_4 a0_5 l0_6) else (if (l0_6.length : Int) > 0 then (if a0_4 = true then (lamellaref12_Right.j0 k (l0_6.length : Int) a0_5 a0_0 a0_1 a0_2 a0_3 a0_4 a0_5 l0_6) else (lamellaref12_Right.j0 k (l0_6.length : Int) true a0_0 a0_1 a0_2 a0_3 a0_4 a0_5 l0_6)) else (lamellaref12_Right.j0 k (l0_6.length : Int) false a0_0 a0_1 a0_2 a0_3 a0_4 a0_5 l0_6))))
theorem lamellaref12_Right.mono_l : ∀ k, (∀ y0 y1 y2 y3 y4 y5 y6 y7 y8, LeO (lamellaref12_Right.j0 k y0 y1 y2 y3 y4 y5 y6 y7 y8) (lamellaref12_Right.j0 (k + 1) y0 y1 y2 y3 y4 y5 y6 y7 y8)) ∧ (∀ y0 y1 y2 y3 y4 y5 y6 y7 y8, LeO (lamellaref12_Right.l0 k y0 y1 y2 y3 y4 y5 y6 y7 y8) (lamellaref12_Right.l0 (k + 1) y0 y1 y2 y3 y4 y5 y6 y7 y8))
  | 0 => ⟨fun _ _ _ _ _ _ _ _ _ r h => by simp [lamellaref12_Right.j0] at h, fun _ _ _ _ _ _ _ _ _ r h => by simp [lamellaref12_Right.l0] at h⟩
  | k + 1 => by
    obtain ⟨ih0, ih1⟩ := lamellaref12_Right.mono_l k
    refine ⟨?_, ?_⟩
    · intro y0 y1 y2 y3 y4 y5 y6 y7 y8
      unfold lamellaref12_Right.j0
      repeat' first
      | (with_reducible exact ih0 _ _ _ _ _ _ _ _ _)
      | (with_reducible exact ih1 _ _ _ _ _ _ _ _ _)
      | (with_reducible exact LeO.refl _)
      | (with_reducible exact LeO.none _)
      | (with_reducible refine LeO.ite ?_ ?_)
      | (with_reducible refine LeO.bind ?_ (fun _ => ?_))
      | exact ih0 _ _ _ _ _ _ _ _ _
      | exact ih1 _ _ _ _ _ _ _ _ _
      | exact LeO.none _
      | refine LeO.ite ?_ ?_
      | refine LeO.bind ?_ (fun _ => ?_)
    · intro y0 y1 y2 y3 y4 y5 y6 y7 y8
      unfold lamellaref12_Right.l0
      repeat' first
      | (with_reducible exact ih0 _ _ _ _ _ _ _ _ _)
      | (with_reducible exact ih1 _ _ _ _ _ _ _ _ _)
      | (with_reducible exact LeO.refl _)
      | (with_reducible exact LeO.none _)
      | (with_reducible refine LeO.ite ?_ ?_)
      | (with_reducible refine LeO.bind ?_ (fun _ => ?_))
      | exact ih0 _ _ _ _ _ _ _ _ _
      | exact ih1 _ _ _ _ _ _ _ _ _
      | exact LeO.none _
      | refine LeO.ite ?_ ?_
      | refine LeO.bind ?_ (fun _ => ?_)
theorem lamellaref12_Right.mono : ∀ a0 a1 a2 a3 a4 a5 a6 k, LeO (lamellaref12_Right.f k a0 a1 a2 a3 a4 a5 a6) (lamellaref12_Right.f (k + 1) a0 a1 a2 a3 a4 a5 a6) := by
  intro a0 a1 a2 a3 a4 a5 a6 k
  obtain ⟨ih0, ih1⟩ := lamellaref12_Right.mono_l k
  unfold lamellaref12_Right.f
  repeat' first
      | (with_reducible exact ih0 _ _ _ _ _ _ _ _ _)
      | (with_reducible exact ih1 _ _ _ _ _ _ _ _ _)
      | (with_reducible exact LeO.refl _)
      | (with_reducible exact LeO.none _)
      | (with_reducible refine LeO.ite ?_ ?_)
      | (with_reducible refine LeO.bind ?_ (fun _ => ?_))
      | exact ih0 _ _ _ _ _ _ _ _ _
      | exact ih1 _ _ _ _ _ _ _ _ _
      | exact LeO.none _
      | refine LeO.ite ?_ ?_
      | refine LeO.bind ?_ (fun _ => ?_)
set_option maxHeartbeats 8000000 in
set_option maxRecDepth 100000 in
theorem lamellaref12_Right.calls (k : Nat) (a0_0 : Int) (a0_1 : Int) (a0_2 : Int) (a0_3 : Int) (a0_4 : Bool) (a0_5 : Bool) (A0_6 : Option Addr) (c0_6 : Nat) (l0_6 : List (S40)) (r : Bool) (w : World) (hr0_6 : Kd.C k40 w A0_6 l0_6.length l0_6) (hc0_6 : l0_6.length ≤ c0_6) (h : lamellaref12_Right.f k a0_0 a0_1 a0_2 a0_3 a0_4 a0_5 l0_6 = some r) :
    Calls Try.prog 10 #[.agg #[.int .u32 a0_0, .int .u32 a0_1, .int .u32 a0_2, .int .u32 a0_3, .bool a0_4, .bool a0_5, .slice A0_6 l0_6.length c0_6]] w fun e w' => e = .returned (.bool r) ∧ Below w.heap.size w w' := by
  have hu25 := Try.underlying25
  have HR0_6 := Aside0.mk hr0_6
  have HC0_6 := Aside0.mk hc0_6
  clear hr0_6 hc0_6
  have HB := Aside0.mk (Below.refl w.heap.size w)
  have H : (if a0_2 > 2 then (lamellaref12_Right.j0 k (l0_6.length : Int) true a0_0 a0_1 a0_2 a0_3 a0_4 a0_5 l0_6) else (if a0_3 > 1024 then (lamellaref12_Right.j0 k (l0_6.length : Int) true a0_0 a0_1 a0_2 a0_3 a0_4 a0_5 l0_6) else (if (l0_6.length : Int) > 4 then (lamellaref12_Right.j0 k (l0_6.length : Int) true a0_0 a0_1 a0_2 a0_3 a0_4 a0_5 l0_6) else (if (l0_6.length : Int) > 0 then (if a0_4 = true then (lamellaref12_Right.j0 k (l0_6.length : Int) a0_5 a0_0 a0_1 a0_2 a0_3 a0_4 a0_5 l0_6) else (lamellaref12_Right.j0 k (l0_6.length : Int) true a0_0 a0_1 a0_2 a0_3 a0_4 a0_5 l0_6)) else (lamellaref12_Right.j0 k (l0_6.length : Int) false a0_0 a0_1 a0_2 a0_3 a0_4 a0_5 l0_6))))) = some r := h
  clear h
  have HC2 := Aside0.mk H
  clear H
  go_enter Try.func10, Try.ntmps10
  go_upto_region 2 with (first | ((with_reducible refine gate_dst (N := 1) rfl ?_); refine box_event ?hg (N := 1) ?hd (cs := #[.int .u32 a0_0, .int .u32 a0_1, .int .u32 a0_2, .int .u32 a0_3, .bool a0_4, .bool a0_5, .slice A0_6 l0_6.length c0_6]) (t := 25) ?hr ?_; (case hd => rfl); (case hg => rfl); (case hr => first | (go_simp; done) | (go_simp; rfl)); intro gb158 hg w3 hbox hb; have n0_ := Aside0.mk (below_step (by repeat (first | (with_reducible first | exact HB.out | apply below_alloc | apply pw_below_drewN | apply below_drew1) | exact HB.out)) hb); have n1_ := Aside0.mk (hbox); have n2_ := Aside0.mk ((by rw [hg]; exact (below_size (by repeat (first | (with_reducible first | exact HB.out | apply below_alloc | apply pw_below_drewN | apply below_drew1) | exact HB.out))) : w.heap.size ≤ gb158)); have n3_ := Aside0.mk ((by rw [hg]; exact (below_size (by repeat (first | (with_reducible first | exact HB.out | apply below_alloc | apply pw_below_drewN | apply below_drew1) | exact HB.out))) : w.heap.size ≤ gb158)); clear HB; have HB := n0_; have BK158 := n1_; have GW158 := n2_; have GE158 := n3_; clear n0_ n1_ n2_ n3_; clear hb hbox hg; have hcz4_0 : w3.cell? ⟨gb158, 0, none⟩ = some (.int .u32 a0_0) := (blk_cell BK158.out 0).trans rfl; have hcz4_1 : w3.cell? ⟨gb158, 1, none⟩ = some (.int .u32 a0_1) := (blk_cell BK158.out 1).trans rfl; have hcz4_2 : w3.cell? ⟨gb158, 2, none⟩ = some (.int .u32 a0_2) := (blk_cell BK158.out 2).trans rfl; have hcz4_3 : w3.cell? ⟨gb158, 3, none⟩ = some (.int .u32 a0_3) := (blk_cell BK158.out 3).trans rfl; have hcz4_4 : w3.cell? ⟨gb158, 4, none⟩ = some (.bool a0_4) := (blk_cell BK158.out 4).trans rfl; have hcz4_5 : w3.cell? ⟨gb158, 5, none⟩ = some (.bool a0_5) := (blk_cell BK158.out 5).trans rfl; have hcz4_6 : w3.cell? ⟨gb158, 6, none⟩ = some (.slice A0_6 l0_6.length c0_6) := (blk_cell BK158.out 6).trans rfl; have hfz4_0 := blk_frozen BK158.out 0; have hfz4_1 := blk_frozen BK158.out 1; have hfz4_2 := blk_frozen BK158.out 2; have hfz4_3 := blk_frozen BK158.out 3; have hfz4_4 := blk_frozen BK158.out 4; have hfz4_5 := blk_frozen BK158.out 5; have hfz4_6 := blk_frozen BK158.out 6))
  repeat (go_quiet (first | ((with_reducible refine gate_dst (N := 1) rfl ?_); refine box_event ?hg (N := 1) ?hd (cs := #[.int .u32 a0_0, .int .u32 a0_1, .int .u32 a0_2, .int .u32 a0_3, .bool a0_4, .bool a0_5, .slice A0_6 l0_6.length c0_6]) (t := 25) ?hr ?_; (case hd => rfl); (case hg => rfl); (case hr => first | (go_simp; done) | (go_simp; rfl)); intro gb158 hg w3 hbox hb; have n0_ := Aside0.mk (below_step (by repeat (first | (with_reducible first | exact HB.out | apply below_alloc | apply pw_below_drewN | apply below_drew1) | exact HB.out)) hb); have n1_ := Aside0.mk (hbox); have n2_ := Aside0.mk ((by rw [hg]; exact (below_size (by repeat (first | (with_reducible first | exact HB.out | apply below_alloc | apply pw_below_drewN | apply below_drew1) | exact HB.out))) : w.heap.size ≤ gb158)); have n3_ := Aside0.mk ((by rw [hg]; exact (below_size (by repeat (first | (with_reducible first | exact HB.out | apply below_alloc | apply pw_below_drewN | apply below_drew1) | exact HB.out))) : w.heap.size ≤ gb158)); clear HB; have HB := n0_; have BK158 := n1_; have GW158 := n2_; have GE158 := n3_; clear n0_ n1_ n2_ n3_; clear hb hbox hg; have hcz4_0 : w3.cell? ⟨gb158, 0, none⟩ = some (.int .u32 a0_0) := (blk_cell BK158.out 0).trans rfl; have hcz4_1 : w3.cell? ⟨gb158, 1, none⟩ = some (.int .u32 a0_1) := (blk_cell BK158.out 1).trans rfl; have hcz4_2 : w3.cell? ⟨gb158, 2, none⟩ = some (.int .u32 a0_2) := (blk_cell BK158.out 2).trans rfl; have hcz4_3 : w3.cell? ⟨gb158, 3, none⟩ = some (.int .u32 a0_3) := (blk_cell BK158.out 3).trans rfl; have hcz4_4 : w3.cell? ⟨gb158, 4, none⟩ = some (.bool a0_4) := (blk_cell BK158.out 4).trans rfl; have hcz4_5 : w3.cell? ⟨gb158, 5, none⟩ = some (.bool a0_5) := (blk_cell BK158.out 5).trans rfl; have hcz4_6 : w3.cell? ⟨gb158, 6, none⟩ = some (.slice A0_6 l0_6.length c0_6) := (blk_cell BK158.out 6).trans rfl; have hfz4_0 := blk_frozen BK158.out 0; have hfz4_1 := blk_frozen BK158.out 1; have hfz4_2 := blk_frozen BK158.out 2; have hfz4_3 := blk_frozen BK158.out 3; have hfz4_4 := blk_frozen BK158.out 4; have hfz4_5 := blk_frozen BK158.out 5; have hfz4_6 := blk_frozen BK158.out 6)); go_upto_region 2 with (first | ((with_reducible refine gate_dst (N := 1) rfl ?_); refine box_event ?hg (N := 1) ?hd (cs := #[.int .u32 a0_0, .int .u32 a0_1, .int .u32 a0_2, .int .u32 a0_3, .bool a0_4, .bool a0_5, .slice A0_6 l0_6.length c0_6]) (t := 25) ?hr ?_; (case hd => rfl); (case hg => rfl); (case hr => first | (go_simp; done) | (go_simp; rfl)); intro gb158 hg w3 hbox hb; have n0_ := Aside0.mk (below_step (by repeat (first | (with_reducible first | exact HB.out | apply below_alloc | apply pw_below_drewN | apply below_drew1) | exact HB.out)) hb); have n1_ := Aside0.mk (hbox); have n2_ := Aside0.mk ((by rw [hg]; exact (below_size (by repeat (first | (with_reducible first | exact HB.out | apply below_alloc | apply pw_below_drewN | apply below_drew1) | exact HB.out))) : w.heap.size ≤ gb158)); have n3_ := Aside0.mk ((by rw [hg]; exact (below_size (by repeat (first | (with_reducible first | exact HB.out | apply below_alloc | apply pw_below_drewN | apply below_drew1) | exact HB.out))) : w.heap.size ≤ gb158)); clear HB; have HB := n0_; have BK158 := n1_; have GW158 := n2_; have GE158 := n3_; clear n0_ n1_ n2_ n3_; clear hb hbox hg; have hcz4_0 : w3.cell? ⟨gb158, 0, none⟩ = some (.int .u32 a0_0) := (blk_cell BK158.out 0).trans rfl; have hcz4_1 : w3.cell? ⟨gb158, 1, none⟩ = some (.int .u32 a0_1) := (blk_cell BK158.out 1).trans rfl; have hcz4_2 : w3.cell? ⟨gb158, 2, none⟩ = some (.int .u32 a0_2) := (blk_cell BK158.out 2).trans rfl; have hcz4_3 : w3.cell? ⟨gb158, 3, none⟩ = some (.int .u32 a0_3) := (blk_cell BK158.out 3).trans rfl; have hcz4_4 : w3.cell? ⟨gb158, 4, none⟩ = some (.bool a0_4) := (blk_cell BK158.out 4).trans rfl; have hcz4_5 : w3.cell? ⟨gb158, 5, none⟩ = some (.bool a0_5) := (blk_cell BK158.out 5).trans rfl; have hcz4_6 : w3.cell? ⟨gb158, 6, none⟩ = some (.slice A0_6 l0_6.length c0_6) := (blk_cell BK158.out 6).trans rfl; have hfz4_0 := blk_frozen BK158.out 0; have hfz4_1 := blk_frozen BK158.out 1; have hfz4_2 := blk_frozen BK158.out 2; have hfz4_3 := blk_frozen BK158.out 3; have hfz4_4 := blk_frozen BK158.out 4; have hfz4_5 := blk_frozen BK158.out 5; have hfz4_6 := blk_frozen BK158.out 6)))
  (try simp only [Act.put, List.setIfInBounds_toArray, List.set_cons_zero, List.set_cons_succ])
  go_cut [37] (fun v37 wc => ∃ (kq : Nat) (x37_1 : Bool), v37 = .bool x37_1 ∧ Aside0 (lamellaref12_Right.j0 kq (l0_6.length : Int) x37_1 a0_0 a0_1 a0_2 a0_3 a0_4 a0_5 l0_6 = some r) ∧ Aside0 (kq ≤ k) ∧ Aside0 (wc.heap[gb158]? = some (.cells #[.int .u32 a0_0, .int .u32 a0_1, .int .u32 a0_2, .int .u32 a0_3, .bool a0_4, .bool a0_5, (.slice A0_6 l0_6.length c0_6)] 25 (0, 0))) ∧ Aside0 (Below w.heap.size w wc))
  case first =>
    have H := HC2.out
    clear HC2
    by_cases c5 : a0_2 > 2
    · rw [if_pos c5] at H
      have c5b0 : decide (2 < a0_2) = true := decide_eq_true c5
      clear c5
      (first | rw [c5b0] | (simp only [i64_w, i32_w]; rw [c5b0]) | skip)
      have H' := Aside0.mk H
      clear H
      have hcz6_0 : w3.cell? ⟨gb158, 0, none⟩ = some (.int .u32 a0_0) := (blk_cell BK158.out 0).trans rfl
      have hcz6_1 : w3.cell? ⟨gb158, 1, none⟩ = some (.int .u32 a0_1) := (blk_cell BK158.out 1).trans rfl
      have hcz6_2 : w3.cell? ⟨gb158, 2, none⟩ = some (.int .u32 a0_2) := (blk_cell BK158.out 2).trans rfl
      have hcz6_3 : w3.cell? ⟨gb158, 3, none⟩ = some (.int .u32 a0_3) := (blk_cell BK158.out 3).trans rfl
      have hcz6_4 : w3.cell? ⟨gb158, 4, none⟩ = some (.bool a0_4) := (blk_cell BK158.out 4).trans rfl
      have hcz6_5 : w3.cell? ⟨gb158, 5, none⟩ = some (.bool a0_5) := (blk_cell BK158.out 5).trans rfl
      have hcz6_6 : w3.cell? ⟨gb158, 6, none⟩ = some (.slice A0_6 l0_6.length c0_6) := (blk_cell BK158.out 6).trans rfl
      have hfz6_0 := blk_frozen BK158.out 0
      have hfz6_1 := blk_frozen BK158.out 1
      have hfz6_2 := blk_frozen BK158.out 2
      have hfz6_3 := blk_frozen BK158.out 3
      have hfz6_4 := blk_frozen BK158.out 4
      have hfz6_5 := blk_frozen BK158.out 5
      have hfz6_6 := blk_frozen BK158.out 6
      go_wp2
      repeat (go_quiet (fail); try go_wp2)
      go_meet
      case rel => exact ⟨_, (true), (by first | rfl | (simp; done) | (simp [*]; done)), H', ⟨by first | omega | exact Nat.le_refl _⟩, ⟨by (with_reducible repeat (first | refine blk_drewN ?_ _ | refine blk_drew ?_ | refine blk_alloc ?_ _)); exact BK158.out⟩, ⟨by repeat (first | (with_reducible first | exact HB.out | apply below_alloc | apply pw_below_drewN | apply below_drew1 | refine below_set ?_ GE158.out) | exact HB.out)⟩⟩
    · rw [if_neg c5] at H
      have c5b0 : decide (2 < a0_2) = false := decide_eq_false c5
      clear c5
      (first | rw [c5b0] | (simp only [i64_w, i32_w]; rw [c5b0]) | skip)
      by_cases c7 : a0_3 > 1024
      · rw [if_pos c7] at H
        have c7b0 : decide (1024 < a0_3) = true := decide_eq_true c7
        clear c7
        have H' := Aside0.mk H
        clear H
        have hcz8_0 : w3.cell? ⟨gb158, 0, none⟩ = some (.int .u32 a0_0) := (blk_cell BK158.out 0).trans rfl
        have hcz8_1 : w3.cell? ⟨gb158, 1, none⟩ = some (.int .u32 a0_1) := (blk_cell BK158.out 1).trans rfl
        have hcz8_2 : w3.cell? ⟨gb158, 2, none⟩ = some (.int .u32 a0_2) := (blk_cell BK158.out 2).trans rfl
        have hcz8_3 : w3.cell? ⟨gb158, 3, none⟩ = some (.int .u32 a0_3) := (blk_cell BK158.out 3).trans rfl
        have hcz8_4 : w3.cell? ⟨gb158, 4, none⟩ = some (.bool a0_4) := (blk_cell BK158.out 4).trans rfl
        have hcz8_5 : w3.cell? ⟨gb158, 5, none⟩ = some (.bool a0_5) := (blk_cell BK158.out 5).trans rfl
        have hcz8_6 : w3.cell? ⟨gb158, 6, none⟩ = some (.slice A0_6 l0_6.length c0_6) := (blk_cell BK158.out 6).trans rfl
        have hfz8_0 := blk_frozen BK158.out 0
        have hfz8_1 := blk_frozen BK158.out 1
        have hfz8_2 := blk_frozen BK158.out 2
        have hfz8_3 := blk_frozen BK158.out 3
        have hfz8_4 := blk_frozen BK158.out 4
        have hfz8_5 := blk_frozen BK158.out 5
        have hfz8_6 := blk_frozen BK158.out 6
        go_wp2
        repeat (go_quiet (fail); try go_wp2)
        go_meet
        case rel => exact ⟨_, (true), (by first | rfl | (simp; done) | (simp [*]; done)), H', ⟨by first | omega | exact Nat.le_refl _⟩, ⟨by (with_reducible repeat (first | refine blk_drewN ?_ _ | refine blk_drew ?_ | refine blk_alloc ?_ _)); exact BK158.out⟩, ⟨by repeat (first | (with_reducible first | exact HB.out | apply below_alloc | apply pw_below_drewN | apply below_drew1 | refine below_set ?_ GE158.out) | exact HB.out)⟩⟩
      · rw [if_neg c7] at H
        have c7b0 : decide (1024 < a0_3) = false := decide_eq_false c7
        clear c7
        by_cases c9 : (l0_6.length : Int) > 4
        · rw [if_pos c9] at H
          have c9b0 : decide (4 < (l0_6.length : Int)) = true := decide_eq_true c9
          have c9b1 : decide (4 < l0_6.length) = true := decide_eq_true (by omega)
          clear c9
          have H' := Aside0.mk H
          clear H
          have hcz10_0 : w3.cell? ⟨gb158, 0, none⟩ = some (.int .u32 a0_0) := (blk_cell BK158.out 0).trans rfl
          have hcz10_1 : w3.cell? ⟨gb158, 1, none⟩ = some (.int .u32 a0_1) := (blk_cell BK158.out 1).trans rfl
          have hcz10_2 : w3.cell? ⟨gb158, 2, none⟩ = some (.int .u32 a0_2) := (blk_cell BK158.out 2).trans rfl
          have hcz10_3 : w3.cell? ⟨gb158, 3, none⟩ = some (.int .u32 a0_3) := (blk_cell BK158.out 3).trans rfl
          have hcz10_4 : w3.cell? ⟨gb158, 4, none⟩ = some (.bool a0_4) := (blk_cell BK158.out 4).trans rfl
          have hcz10_5 : w3.cell? ⟨gb158, 5, none⟩ = some (.bool a0_5) := (blk_cell BK158.out 5).trans rfl
          have hcz10_6 : w3.cell? ⟨gb158, 6, none⟩ = some (.slice A0_6 l0_6.length c0_6) := (blk_cell BK158.out 6).trans rfl
          have hfz10_0 := blk_frozen BK158.out 0
          have hfz10_1 := blk_frozen BK158.out 1
          have hfz10_2 := blk_frozen BK158.out 2
          have hfz10_3 := blk_frozen BK158.out 3
          have hfz10_4 := blk_frozen BK158.out 4
          have hfz10_5 := blk_frozen BK158.out 5
          have hfz10_6 := blk_frozen BK158.out 6
          go_wp2
          repeat (go_quiet (fail); try go_wp2)
          go_meet
          case rel => exact ⟨_, (true), (by first | rfl | (simp; done) | (simp [*]; done)), H', ⟨by first | omega | exact Nat.le_refl _⟩, ⟨by (with_reducible repeat (first | refine blk_drewN ?_ _ | refine blk_drew ?_ | refine blk_alloc ?_ _)); exact BK158.out⟩, ⟨by repeat (first | (with_reducible first | exact HB.out | apply below_alloc | apply pw_below_drewN | apply below_drew1 | refine below_set ?_ GE158.out) | exact HB.out)⟩⟩
        · rw [if_neg c9] at H
          have c9b0 : decide (4 < (l0_6.length : Int)) = false := decide_eq_false c9
          have c9b1 : decide (4 < l0_6.length) = false := decide_eq_false (by omega)
          clear c9
          by_cases c11 : (l0_6.length : Int) > 0
          · rw [if_pos c11] at H
            have c11b0 : decide (0 < (l0_6.length : Int)) = true := decide_eq_true c11
            have c11b1 : decide (0 < l0_6.length) = true := decide_eq_true (by omega)
            clear c11
            by_cases c12 : a0_4 = true
            · subst c12
              have H1 : (lamellaref12_Right.j0 k (l0_6.length : Int) a0_5 a0_0 a0_1 a0_2 a0_3 true a0_5 l0_6) = some r := by rw [if_pos rfl] at H; exact H
              clear H
              have H := H1
              clear H1
              have H' := Aside0.mk H
              clear H
              have hcz13_0 : w3.cell? ⟨gb158, 0, none⟩ = some (.int .u32 a0_0) := (blk_cell BK158.out 0).trans rfl
              have hcz13_1 : w3.cell? ⟨gb158, 1, none⟩ = some (.int .u32 a0_1) := (blk_cell BK158.out 1).trans rfl
              have hcz13_2 : w3.cell? ⟨gb158, 2, none⟩ = some (.int .u32 a0_2) := (blk_cell BK158.out 2).trans rfl
              have hcz13_3 : w3.cell? ⟨gb158, 3, none⟩ = some (.int .u32 a0_3) := (blk_cell BK158.out 3).trans rfl
              have hcz13_4 : w3.cell? ⟨gb158, 4, none⟩ = some (.bool true) := (blk_cell BK158.out 4).trans rfl
              have hcz13_5 : w3.cell? ⟨gb158, 5, none⟩ = some (.bool a0_5) := (blk_cell BK158.out 5).trans rfl
              have hcz13_6 : w3.cell? ⟨gb158, 6, none⟩ = some (.slice A0_6 l0_6.length c0_6) := (blk_cell BK158.out 6).trans rfl
              have hfz13_0 := blk_frozen BK158.out 0
              have hfz13_1 := blk_frozen BK158.out 1
              have hfz13_2 := blk_frozen BK158.out 2
              have hfz13_3 := blk_frozen BK158.out 3
              have hfz13_4 := blk_frozen BK158.out 4
              have hfz13_5 := blk_frozen BK158.out 5
              have hfz13_6 := blk_frozen BK158.out 6
              go_wp2
              repeat (go_quiet (fail); try go_wp2)
              go_meet
              case rel => exact ⟨_, (a0_5), (by first | rfl | (simp; done) | (simp [*]; done)), H', ⟨by first | omega | exact Nat.le_refl _⟩, ⟨by (with_reducible repeat (first | refine blk_drewN ?_ _ | refine blk_drew ?_ | refine blk_alloc ?_ _)); exact BK158.out⟩, ⟨by repeat (first | (with_reducible first | exact HB.out | apply below_alloc | apply pw_below_drewN | apply below_drew1 | refine below_set ?_ GE158.out) | exact HB.out)⟩⟩
            · replace c12 := Bool.eq_false_iff.mpr c12
              subst c12
              have H1 : (lamellaref12_Right.j0 k (l0_6.length : Int) true a0_0 a0_1 a0_2 a0_3 false a0_5 l0_6) = some r := by rw [if_neg (show ¬ (false = true) by decide)] at H; exact H
              clear H
              have H := H1
              clear H1
              have H' := Aside0.mk H
              clear H
              have hcz14_0 : w3.cell? ⟨gb158, 0, none⟩ = some (.int .u32 a0_0) := (blk_cell BK158.out 0).trans rfl
              have hcz14_1 : w3.cell? ⟨gb158, 1, none⟩ = some (.int .u32 a0_1) := (blk_cell BK158.out 1).trans rfl
              have hcz14_2 : w3.cell? ⟨gb158, 2, none⟩ = some (.int .u32 a0_2) := (blk_cell BK158.out 2).trans rfl
              have hcz14_3 : w3.cell? ⟨gb158, 3, none⟩ = some (.int .u32 a0_3) := (blk_cell BK158.out 3).trans rfl
              have hcz14_4 : w3.cell? ⟨gb158, 4, none⟩ = some (.bool false) := (blk_cell BK158.out 4).trans rfl
              have hcz14_5 : w3.cell? ⟨gb158, 5, none⟩ = some (.bool a0_5) := (blk_cell BK158.out 5).trans rfl
              have hcz14_6 : w3.cell? ⟨gb158, 6, none⟩ = some (.slice A0_6 l0_6.length c0_6) := (blk_cell BK158.out 6).trans rfl
              have hfz14_0 := blk_frozen BK158.out 0
              have hfz14_1 := blk_frozen BK158.out 1
              have hfz14_2 := blk_frozen BK158.out 2
              have hfz14_3 := blk_frozen BK158.out 3
              have hfz14_4 := blk_frozen BK158.out 4
              have hfz14_5 := blk_frozen BK158.out 5
              have hfz14_6 := blk_frozen BK158.out 6
              go_wp2
              repeat (go_quiet (fail); try go_wp2)
              go_meet
              case rel => exact ⟨_, (true), (by first | rfl | (simp; done) | (simp [*]; done)), H', ⟨by first | omega | exact Nat.le_refl _⟩, ⟨by (with_reducible repeat (first | refine blk_drewN ?_ _ | refine blk_drew ?_ | refine blk_alloc ?_ _)); exact BK158.out⟩, ⟨by repeat (first | (with_reducible first | exact HB.out | apply below_alloc | apply pw_below_drewN | apply below_drew1 | refine below_set ?_ GE158.out) | exact HB.out)⟩⟩
          · rw [if_neg c11] at H
            have c11b0 : decide (0 < (l0_6.length : Int)) = false := decide_eq_false c11
            have c11b1 : decide (0 < l0_6.length) = false := decide_eq_false (by omega)
            clear c11
            have H' := Aside0.mk H
            clear H
            have hcz15_0 : w3.cell? ⟨gb158, 0, none⟩ = some (.int .u32 a0_0) := (blk_cell BK158.out 0).trans rfl
            have hcz15_1 : w3.cell? ⟨gb158, 1, none⟩ = some (.int .u32 a0_1) := (blk_cell BK158.out 1).trans rfl
            have hcz15_2 : w3.cell? ⟨gb158, 2, none⟩ = some (.int .u32 a0_2) := (blk_cell BK158.out 2).trans rfl
            have hcz15_3 : w3.cell? ⟨gb158, 3, none⟩ = some (.int .u32 a0_3) := (blk_cell BK158.out 3).trans rfl
            have hcz15_4 : w3.cell? ⟨gb158, 4, none⟩ = some (.bool a0_4) := (blk_cell BK158.out 4).trans rfl
            have hcz15_5 : w3.cell? ⟨gb158, 5, none⟩ = some (.bool a0_5) := (blk_cell BK158.out 5).trans rfl
            have hcz15_6 : w3.cell? ⟨gb158, 6, none⟩ = some (.slice A0_6 l0_6.length c0_6) := (blk_cell BK158.out 6).trans rfl
            have hfz15_0 := blk_frozen BK158.out 0
            have hfz15_1 := blk_frozen BK158.out 1
            have hfz15_2 := blk_frozen BK158.out 2
            have hfz15_3 := blk_frozen BK158.out 3
            have hfz15_4 := blk_frozen BK158.out 4
            have hfz15_5 := blk_frozen BK158.out 5
            have hfz15_6 := blk_frozen BK158.out 6
            go_wp2
            repeat (go_quiet (fail); try go_wp2)
            go_meet
            case rel => exact ⟨_, (false), (by first | rfl | (simp; done) | (simp [*]; done)), H', ⟨by first | omega | exact Nat.le_refl _⟩, ⟨by (with_reducible repeat (first | refine blk_drewN ?_ _ | refine blk_drew ?_ | refine blk_alloc ?_ _)); exact BK158.out⟩, ⟨by repeat (first | (with_reducible first | exact HB.out | apply below_alloc | apply pw_below_drewN | apply below_drew1 | refine below_set ?_ GE158.out) | exact HB.out)⟩⟩
  case rest =>
    clear HC2
    try clear c1
    try clear p2
    try clear c5
    try clear c5b0
    try clear c7
    try clear c7b0
    try clear c9
    try clear c9b0
    try clear c9b1
    try clear c10
    try clear c11
    try clear c11b0
    try clear c11b1
    try clear c12
    try clear hcz10_0
    try clear hcz10_1
    try clear hcz10_2
    try clear hcz10_3
    try clear hcz10_4
    try clear hcz10_5
    try clear hcz10_6
    try clear hcz13_0
    try clear hcz13_1
    try clear hcz13_2
    try clear hcz13_3
    try clear hcz13_4
    try clear hcz13_5
    try clear hcz13_6
    try clear hcz14_0
    try clear hcz14_1
    try clear hcz14_2
    try clear hcz14_3
    try clear hcz14_4
    try clear hcz14_5
    try clear hcz14_6
    try clear hcz15_0
    try clear hcz15_1
    try clear hcz15_2
    try clear hcz15_3
    try clear hcz15_4
    try clear hcz15_5
    try clear hcz15_6
    try clear hcz4_0
    try clear hcz4_1
    try clear hcz4_2
    try clear hcz4_3
    try clear hcz4_4
    try clear hcz4_5
    try clear hcz4_6
    try clear hcz6_0
    try clear hcz6_1
    try clear hcz6_2
    try clear hcz6_3
    try clear hcz6_4
    try clear hcz6_5
    try clear hcz6_6
    try clear hcz8_0
    try clear hcz8_1
    try clear hcz8_2
    try clear hcz8_3
    try clear hcz8_4
    try clear hcz8_5
    try clear hcz8_6
    try clear hfz10_0
    try clear hfz10_1
    try clear hfz10_2
    try clear hfz10_3
    try clear hfz10_4
    try clear hfz10_5
    try clear hfz10_6
    try clear hfz13_0
    try clear hfz13_1
    try clear hfz13_2
    try clear hfz13_3
    try clear hfz13_4
    try clear hfz13_5
    try clear hfz13_6
    try clear hfz14_0
    try clear hfz14_1
    try clear hfz14_2
    try clear hfz14_3
    try clear hfz14_4
    try clear hfz14_5
    try clear hfz14_6
    try clear hfz15_0
    try clear hfz15_1
    try clear hfz15_2
    try clear hfz15_3
    try clear hfz15_4
    try clear hfz15_5
    try clear hfz15_6
    try clear hfz4_0
    try clear hfz4_1
    try clear hfz4_2
    try clear hfz4_3
    try clear hfz4_4
    try clear hfz4_5
    try clear hfz4_6
    try clear hfz6_0
    try clear hfz6_1
    try clear hfz6_2
    try clear hfz6_3
    try clear hfz6_4
    try clear hfz6_5
    try clear hfz6_6
    try clear hfz8_0
    try clear hfz8_1
    try clear hfz8_2
    try clear hfz8_3
    try clear hfz8_4
    try clear hfz8_5
    try clear hfz8_6
    obtain ⟨kq, x37_1, rfl, HA, HJ1, BK158, HB⟩ := hcut
    cases kq with
    | zero => exact absurd HA.out (by simp [lamellaref12_Right.j0])
    | succ kj1 =>
      have H := HA.out
      clear HA
      simp only [lamellaref12_Right.j0] at H
      by_cases c16 : x37_1 = true
      · subst c16
        have H1 : (some false) = some r := by rw [if_pos rfl] at H; exact H
        clear H
        have H := H1
        clear H1
        obtain rfl := Option.some.inj H
        go_wp2
        repeat (go_quiet (fail); try go_wp2)
        all_goals
          go_ret
          exact ⟨by first | rfl | (simp [errW_none, errW_some] <;> rfl) | (simp [*, errW_none, errW_some] <;> rfl), by repeat (first | (with_reducible first | exact HB.out | apply below_alloc | apply pw_below_drewN | apply below_drew1 | refine below_set ?_ GE158.out) | exact HB.out)⟩
      · replace c16 := Bool.eq_false_iff.mpr c16
        subst c16
        have H1 : (lamellaref12_Right.l0 kj1 (l0_6.length : Int) 0 a0_0 a0_1 a0_2 a0_3 a0_4 a0_5 l0_6) = some r := by rw [if_neg (show ¬ (false = true) by decide)] at H; exact H
        clear H
        have H := H1
        clear H1
        have H' := Aside0.mk H
        clear H
        go_wp2
        repeat (go_quiet (fail); try go_wp2)
        go_loopg [4] kj1 (fun kq v4 w' => ∃ (x4_2 : Int), v4 = .int .i64 x4_2 ∧ Aside0 (lamellaref12_Right.l0 kq (l0_6.length : Int) x4_2 a0_0 a0_1 a0_2 a0_3 a0_4 a0_5 l0_6 = some r) ∧ Aside0 (kq ≤ kj1) ∧ Aside0 (w'.heap[gb158]? = some (.cells #[.int .u32 a0_0, .int .u32 a0_1, .int .u32 a0_2, .int .u32 a0_3, .bool a0_4, .bool a0_5, (.slice A0_6 l0_6.length c0_6)] 25 (0, 0))) ∧ Aside0 (Below w.heap.size w w'))
        case atStart => exact ⟨(0), (by first | rfl | (simp; done) | (simp [*]; done)), H', ⟨Nat.le_refl _⟩, ⟨by (with_reducible repeat (first | refine blk_drewN ?_ _ | refine blk_drew ?_ | refine blk_alloc ?_ _)); exact BK158.out⟩, ⟨by repeat (first | (with_reducible first | exact HB.out | apply below_alloc | apply pw_below_drewN | apply below_drew1 | refine below_set ?_ GE158.out) | exact HB.out)⟩⟩
        case round =>
          clear H'
          try clear c1
          try clear p2
          try clear c5
          try clear c5b0
          try clear c7
          try clear c7b0
          try clear c9
          try clear c9b0
          try clear c9b1
          try clear c10
          try clear c11
          try clear c11b0
          try clear c11b1
          try clear c12
          try clear c16
          try clear hcz10_0
          try clear hcz10_1
          try clear hcz10_2
          try clear hcz10_3
          try clear hcz10_4
          try clear hcz10_5
          try clear hcz10_6
          try clear hcz13_0
          try clear hcz13_1
          try clear hcz13_2
          try clear hcz13_3
          try clear hcz13_4
          try clear hcz13_5
          try clear hcz13_6
          try clear hcz14_0
          try clear hcz14_1
          try clear hcz14_2
          try clear hcz14_3
          try clear hcz14_4
          try clear hcz14_5
          try clear hcz14_6
          try clear hcz15_0
          try clear hcz15_1
          try clear hcz15_2
          try clear hcz15_3
          try clear hcz15_4
          try clear hcz15_5
          try clear hcz15_6
          try clear hcz4_0
          try clear hcz4_1
          try clear hcz4_2
          try clear hcz4_3
          try clear hcz4_4
          try clear hcz4_5
          try clear hcz4_6
          try clear hcz6_0
          try clear hcz6_1
          try clear hcz6_2
          try clear hcz6_3
          try clear hcz6_4
          try clear hcz6_5
          try clear hcz6_6
          try clear hcz8_0
          try clear hcz8_1
          try clear hcz8_2
          try clear hcz8_3
          try clear hcz8_4
          try clear hcz8_5
          try clear hcz8_6
          try clear hfz10_0
          try clear hfz10_1
          try clear hfz10_2
          try clear hfz10_3
          try clear hfz10_4
          try clear hfz10_5
          try clear hfz10_6
          try clear hfz13_0
          try clear hfz13_1
          try clear hfz13_2
          try clear hfz13_3
          try clear hfz13_4
          try clear hfz13_5
          try clear hfz13_6
          try clear hfz14_0
          try clear hfz14_1
          try clear hfz14_2
          try clear hfz14_3
          try clear hfz14_4
          try clear hfz14_5
          try clear hfz14_6
          try clear hfz15_0
          try clear hfz15_1
          try clear hfz15_2
          try clear hfz15_3
          try clear hfz15_4
          try clear hfz15_5
          try clear hfz15_6
          try clear hfz4_0
          try clear hfz4_1
          try clear hfz4_2
          try clear hfz4_3
          try clear hfz4_4
          try clear hfz4_5
          try clear hfz4_6
          try clear hfz6_0
          try clear hfz6_1
          try clear hfz6_2
          try clear hfz6_3
          try clear hfz6_4
          try clear hfz6_5
          try clear hfz6_6
          try clear hfz8_0
          try clear hfz8_1
          try clear hfz8_2
          try clear hfz8_3
          try clear hfz8_4
          try clear hfz8_5
          try clear hfz8_6
          try clear p2
          obtain ⟨x4_2, rfl, HA, HK2, BK158, HB⟩ := hrel
          cases gk with
          | zero => exact absurd HA.out (by simp [lamellaref12_Right.l0])
          | succ k2 =>
            have H := HA.out
            clear HA
            simp only [lamellaref12_Right.l0] at H
            by_cases c17 : x4_2 < (l0_6.length : Int)
            · rw [if_pos c17] at H
              have c17b0 : decide (x4_2 < (l0_6.length : Int)) = true := decide_eq_true c17
              clear c17
              by_cases c18 : 0 ≤ x4_2
              · rw [if_pos c18] at H
                have c18b0 : decide (0 ≤ x4_2) = true := decide_eq_true c18
                clear c18
                by_cases c19 : x4_2 < (l0_6.length : Int)
                · rw [if_pos c19] at H
                  have c19b0 : decide (x4_2 < (l0_6.length : Int)) = true := decide_eq_true c19
                  clear c19
                  by_cases c20 : ((rd_T40 l0_6 x4_2).f1) < 1
                  · rw [if_pos c20] at H
                    have c20b0 : decide (((rd_T40 l0_6 x4_2).f1) < 1) = true := decide_eq_true c20
                    clear c20
                    obtain rfl := Option.some.inj H
                    have hcz21_0 : wr.cell? ⟨gb158, 0, none⟩ = some (.int .u32 a0_0) := (blk_cell BK158.out 0).trans rfl
                    have hcz21_1 : wr.cell? ⟨gb158, 1, none⟩ = some (.int .u32 a0_1) := (blk_cell BK158.out 1).trans rfl
                    have hcz21_2 : wr.cell? ⟨gb158, 2, none⟩ = some (.int .u32 a0_2) := (blk_cell BK158.out 2).trans rfl
                    have hcz21_3 : wr.cell? ⟨gb158, 3, none⟩ = some (.int .u32 a0_3) := (blk_cell BK158.out 3).trans rfl
                    have hcz21_4 : wr.cell? ⟨gb158, 4, none⟩ = some (.bool a0_4) := (blk_cell BK158.out 4).trans rfl
                    have hcz21_5 : wr.cell? ⟨gb158, 5, none⟩ = some (.bool a0_5) := (blk_cell BK158.out 5).trans rfl
                    have hcz21_6 : wr.cell? ⟨gb158, 6, none⟩ = some (.slice A0_6 l0_6.length c0_6) := (blk_cell BK158.out 6).trans rfl
                    have hfz21_0 := blk_frozen BK158.out 0
                    have hfz21_1 := blk_frozen BK158.out 1
                    have hfz21_2 := blk_frozen BK158.out 2
                    have hfz21_3 := blk_frozen BK158.out 3
                    have hfz21_4 := blk_frozen BK158.out 4
                    have hfz21_5 := blk_frozen BK158.out 5
                    have hfz21_6 := blk_frozen BK158.out 6
                    have p159 : 0 ≤ (x4_2 : Int) := of_decide_eq_true (by first | (with_reducible assumption) | assumption)
                    have q159 : x4_2 < (l0_6.length : Int) := of_decide_eq_true (by first | (with_reducible assumption) | assumption)
                    obtain ⟨ad159, e159, hx159_0, hx159_1⟩ := at_T40 HR0_6.out x4_2 p159 q159
                    cases e159
                    replace hx159_0 := (HB.out.cell (World.block_lt_of_cell? w _ hx159_0)).trans hx159_0
                    replace hx159_1 := (HB.out.cell (World.block_lt_of_cell? w _ hx159_1)).trans hx159_1
                    replace p159 := eq_true p159
                    replace q159 := eq_true q159
                    go_wp2
                    repeat (go_quiet (fail); try go_wp2)
                    all_goals
                      go_ret
                      exact ⟨by first | rfl | (simp [errW_none, errW_some] <;> rfl) | (simp [*, errW_none, errW_some] <;> rfl), by repeat (first | (with_reducible first | exact HB.out | apply below_alloc | apply pw_below_drewN | apply below_drew1 | refine below_set ?_ GE158.out) | exact HB.out)⟩
                  · rw [if_neg c20] at H
                    have c20b0 : decide (((rd_T40 l0_6 x4_2).f1) < 1) = false := decide_eq_false c20
                    clear c20
                    by_cases c22 : ((rd_T40 l0_6 x4_2).f1) > 2
                    · rw [if_pos c22] at H
                      have c22b0 : decide (2 < ((rd_T40 l0_6 x4_2).f1)) = true := decide_eq_true c22
                      clear c22
                      obtain rfl := Option.some.inj H
                      have hcz23_0 : wr.cell? ⟨gb158, 0, none⟩ = some (.int .u32 a0_0) := (blk_cell BK158.out 0).trans rfl
                      have hcz23_1 : wr.cell? ⟨gb158, 1, none⟩ = some (.int .u32 a0_1) := (blk_cell BK158.out 1).trans rfl
                      have hcz23_2 : wr.cell? ⟨gb158, 2, none⟩ = some (.int .u32 a0_2) := (blk_cell BK158.out 2).trans rfl
                      have hcz23_3 : wr.cell? ⟨gb158, 3, none⟩ = some (.int .u32 a0_3) := (blk_cell BK158.out 3).trans rfl
                      have hcz23_4 : wr.cell? ⟨gb158, 4, none⟩ = some (.bool a0_4) := (blk_cell BK158.out 4).trans rfl
                      have hcz23_5 : wr.cell? ⟨gb158, 5, none⟩ = some (.bool a0_5) := (blk_cell BK158.out 5).trans rfl
                      have hcz23_6 : wr.cell? ⟨gb158, 6, none⟩ = some (.slice A0_6 l0_6.length c0_6) := (blk_cell BK158.out 6).trans rfl
                      have hfz23_0 := blk_frozen BK158.out 0
                      have hfz23_1 := blk_frozen BK158.out 1
                      have hfz23_2 := blk_frozen BK158.out 2
                      have hfz23_3 := blk_frozen BK158.out 3
                      have hfz23_4 := blk_frozen BK158.out 4
                      have hfz23_5 := blk_frozen BK158.out 5
                      have hfz23_6 := blk_frozen BK158.out 6
                      have p159 : 0 ≤ (x4_2 : Int) := of_decide_eq_true (by first | (with_reducible assumption) | assumption)
                      have q159 : x4_2 < (l0_6.length : Int) := of_decide_eq_true (by first | (with_reducible assumption) | assumption)
                      obtain ⟨ad159, e159, hx159_0, hx159_1⟩ := at_T40 HR0_6.out x4_2 p159 q159
                      cases e159
                      replace hx159_0 := (HB.out.cell (World.block_lt_of_cell? w _ hx159_0)).trans hx159_0
                      replace hx159_1 := (HB.out.cell (World.block_lt_of_cell? w _ hx159_1)).trans hx159_1
                      replace p159 := eq_true p159
                      replace q159 := eq_true q159
                      go_wp2
                      repeat (go_quiet (fail); try go_wp2)
                      all_goals
                        go_ret
                        exact ⟨by first | rfl | (simp [errW_none, errW_some] <;> rfl) | (simp [*, errW_none, errW_some] <;> rfl), by repeat (first | (with_reducible first | exact HB.out | apply below_alloc | apply pw_below_drewN | apply below_drew1 | refine below_set ?_ GE158.out) | exact HB.out)⟩
                    · rw [if_neg c22] at H
                      have c22b0 : decide (2 < ((rd_T40 l0_6 x4_2).f1)) = false := decide_eq_false c22
                      clear c22
                      by_cases c24 : ((rd_T40 l0_6 x4_2).f1) > a0_2
                      · rw [if_pos c24] at H
                        have c24b0 : decide (a0_2 < ((rd_T40 l0_6 x4_2).f1)) = true := decide_eq_true c24
                        clear c24
                        obtain rfl := Option.some.inj H
                        have hcz25_0 : wr.cell? ⟨gb158, 0, none⟩ = some (.int .u32 a0_0) := (blk_cell BK158.out 0).trans rfl
                        have hcz25_1 : wr.cell? ⟨gb158, 1, none⟩ = some (.int .u32 a0_1) := (blk_cell BK158.out 1).trans rfl
                        have hcz25_2 : wr.cell? ⟨gb158, 2, none⟩ = some (.int .u32 a0_2) := (blk_cell BK158.out 2).trans rfl
                        have hcz25_3 : wr.cell? ⟨gb158, 3, none⟩ = some (.int .u32 a0_3) := (blk_cell BK158.out 3).trans rfl
                        have hcz25_4 : wr.cell? ⟨gb158, 4, none⟩ = some (.bool a0_4) := (blk_cell BK158.out 4).trans rfl
                        have hcz25_5 : wr.cell? ⟨gb158, 5, none⟩ = some (.bool a0_5) := (blk_cell BK158.out 5).trans rfl
                        have hcz25_6 : wr.cell? ⟨gb158, 6, none⟩ = some (.slice A0_6 l0_6.length c0_6) := (blk_cell BK158.out 6).trans rfl
                        have hfz25_0 := blk_frozen BK158.out 0
                        have hfz25_1 := blk_frozen BK158.out 1
                        have hfz25_2 := blk_frozen BK158.out 2
                        have hfz25_3 := blk_frozen BK158.out 3
                        have hfz25_4 := blk_frozen BK158.out 4
                        have hfz25_5 := blk_frozen BK158.out 5
                        have hfz25_6 := blk_frozen BK158.out 6
                        have p159 : 0 ≤ (x4_2 : Int) := of_decide_eq_true (by first | (with_reducible assumption) | assumption)
                        have q159 : x4_2 < (l0_6.length : Int) := of_decide_eq_true (by first | (with_reducible assumption) | assumption)
                        obtain ⟨ad159, e159, hx159_0, hx159_1⟩ := at_T40 HR0_6.out x4_2 p159 q159
                        cases e159
                        replace hx159_0 := (HB.out.cell (World.block_lt_of_cell? w _ hx159_0)).trans hx159_0
                        replace hx159_1 := (HB.out.cell (World.block_lt_of_cell? w _ hx159_1)).trans hx159_1
                        replace p159 := eq_true p159
                        replace q159 := eq_true q159
                        go_wp2
                        repeat (go_quiet (fail); try go_wp2)
                        all_goals
                          go_ret
                          exact ⟨by first | rfl | (simp [errW_none, errW_some] <;> rfl) | (simp [*, errW_none, errW_some] <;> rfl), by repeat (first | (with_reducible first | exact HB.out | apply below_alloc | apply pw_below_drewN | apply below_drew1 | refine below_set ?_ GE158.out) | exact HB.out)⟩
                      · rw [if_neg c24] at H
                        have c24b0 : decide (a0_2 < ((rd_T40 l0_6 x4_2).f1)) = false := decide_eq_false c24
                        clear c24
                        by_cases c26 : ((rd_T40 l0_6 x4_2).f1) = 2
                        · rw [if_pos c26] at H
                          have c26b0 : (((rd_T40 l0_6 x4_2).f1) == 2) = true := beq_iff_eq.mpr c26
                          have c26b1 : (((rd_T40 l0_6 x4_2).f1) != 2) = false := bne_eq_false_iff_eq.mpr c26
                          clear c26
                          by_cases c27 : (l0_6.length : Int) = 1
                          · rw [if_pos c27] at H
                            have c27b0 : ((l0_6.length : Int) == 1) = true := beq_iff_eq.mpr c27
                            have c27b1 : ((l0_6.length : Int) != 1) = false := bne_eq_false_iff_eq.mpr c27
                            clear c27
                            by_cases c28 : x4_2 > 0
                            · rw [if_pos c28] at H
                              have c28b0 : decide (0 < x4_2) = true := decide_eq_true c28
                              clear c28
                              obtain ⟨ji29, hji29⟩ : ∃ j_ : Int, (wrap64 (x4_2 - 1)) = j_ := ⟨_, rfl⟩
                              replace H : (if 0 ≤ (ji29) then (if (ji29) < (l0_6.length : Int) then (if ((rd_T40 l0_6 (ji29)).f0) ≥ ((rd_T40 l0_6 x4_2).f0) then (some false) else (lamellaref12_Right.l0 k2 (l0_6.length : Int) (wrap64 (x4_2 + 1)) a0_0 a0_1 a0_2 a0_3 a0_4 a0_5 l0_6)) else (none)) else (none)) = some r := by first | (rw [hji29] at H; exact H) | (simp only [hji29] at H ⊢; exact H)
                              have hji29w : (IntKind.i64.wrap (x4_2 - 1)) = ji29 := (i64_w _).trans hji29
                              by_cases c30 : 0 ≤ (ji29)
                              · rw [if_pos c30] at H
                                have c30b0 : decide (0 ≤ (ji29)) = true := decide_eq_true c30
                                clear c30
                                by_cases c31 : (ji29) < (l0_6.length : Int)
                                · rw [if_pos c31] at H
                                  have c31b0 : decide ((ji29) < (l0_6.length : Int)) = true := decide_eq_true c31
                                  clear c31
                                  by_cases c32 : ((rd_T40 l0_6 (ji29)).f0) ≥ ((rd_T40 l0_6 x4_2).f0)
                                  · rw [if_pos c32] at H
                                    have c32b0 : decide (((rd_T40 l0_6 x4_2).f0) ≤ ((rd_T40 l0_6 (ji29)).f0)) = true := decide_eq_true c32
                                    clear c32
                                    obtain rfl := Option.some.inj H
                                    have hcz33_0 : wr.cell? ⟨gb158, 0, none⟩ = some (.int .u32 a0_0) := (blk_cell BK158.out 0).trans rfl
                                    have hcz33_1 : wr.cell? ⟨gb158, 1, none⟩ = some (.int .u32 a0_1) := (blk_cell BK158.out 1).trans rfl
                                    have hcz33_2 : wr.cell? ⟨gb158, 2, none⟩ = some (.int .u32 a0_2) := (blk_cell BK158.out 2).trans rfl
                                    have hcz33_3 : wr.cell? ⟨gb158, 3, none⟩ = some (.int .u32 a0_3) := (blk_cell BK158.out 3).trans rfl
                                    have hcz33_4 : wr.cell? ⟨gb158, 4, none⟩ = some (.bool a0_4) := (blk_cell BK158.out 4).trans rfl
                                    have hcz33_5 : wr.cell? ⟨gb158, 5, none⟩ = some (.bool a0_5) := (blk_cell BK158.out 5).trans rfl
                                    have hcz33_6 : wr.cell? ⟨gb158, 6, none⟩ = some (.slice A0_6 l0_6.length c0_6) := (blk_cell BK158.out 6).trans rfl
                                    have hfz33_0 := blk_frozen BK158.out 0
                                    have hfz33_1 := blk_frozen BK158.out 1
                                    have hfz33_2 := blk_frozen BK158.out 2
                                    have hfz33_3 := blk_frozen BK158.out 3
                                    have hfz33_4 := blk_frozen BK158.out 4
                                    have hfz33_5 := blk_frozen BK158.out 5
                                    have hfz33_6 := blk_frozen BK158.out 6
                                    have p159 : 0 ≤ (x4_2 : Int) := of_decide_eq_true (by first | (with_reducible assumption) | assumption)
                                    have q159 : x4_2 < (l0_6.length : Int) := of_decide_eq_true (by first | (with_reducible assumption) | assumption)
                                    obtain ⟨ad159, e159, hx159_0, hx159_1⟩ := at_T40 HR0_6.out x4_2 p159 q159
                                    cases e159
                                    replace hx159_0 := (HB.out.cell (World.block_lt_of_cell? w _ hx159_0)).trans hx159_0
                                    replace hx159_1 := (HB.out.cell (World.block_lt_of_cell? w _ hx159_1)).trans hx159_1
                                    replace p159 := eq_true p159
                                    replace q159 := eq_true q159
                                    have p160 : 0 ≤ ((ji29) : Int) := of_decide_eq_true (by first | (with_reducible assumption) | assumption)
                                    have q160 : (ji29) < (l0_6.length : Int) := of_decide_eq_true (by first | (with_reducible assumption) | assumption)
                                    obtain ⟨ad160, e160, hx160_0, hx160_1⟩ := at_T40 HR0_6.out (ji29) p160 q160
                                    obtain rfl : ad159 = ad160 := (by injection e160)
                                    replace hx160_0 := (HB.out.cell (World.block_lt_of_cell? w _ hx160_0)).trans hx160_0
                                    replace hx160_1 := (HB.out.cell (World.block_lt_of_cell? w _ hx160_1)).trans hx160_1
                                    replace p160 := eq_true p160
                                    replace q160 := eq_true q160
                                    have p161 : 0 ≤ (x4_2 : Int) := of_decide_eq_true (by first | (with_reducible assumption) | assumption)
                                    have q161 : x4_2 < (l0_6.length : Int) := of_decide_eq_true (by first | (with_reducible assumption) | assumption)
                                    obtain ⟨ad161, e161, hx161_0, hx161_1⟩ := at_T40 HR0_6.out x4_2 p161 q161
                                    obtain rfl : ad159 = ad161 := (by injection e161)
                                    replace hx161_0 := (HB.out.cell (World.block_lt_of_cell? w _ hx161_0)).trans hx161_0
                                    replace hx161_1 := (HB.out.cell (World.block_lt_of_cell? w _ hx161_1)).trans hx161_1
                                    replace p161 := eq_true p161
                                    replace q161 := eq_true q161
                                    go_wp2
                                    repeat (go_quiet (fail); try go_wp2)
                                    all_goals
                                      go_ret
                                      exact ⟨by first | rfl | (simp [errW_none, errW_some] <;> rfl) | (simp only [← hji29]; first | rfl | (simp [errW_none, errW_some] <;> rfl)) | (simp [*, errW_none, errW_some] <;> rfl), by repeat (first | (with_reducible first | exact HB.out | apply below_alloc | apply pw_below_drewN | apply below_drew1 | refine below_set ?_ GE158.out) | exact HB.out)⟩
                                  · rw [if_neg c32] at H
                                    have c32b0 : decide (((rd_T40 l0_6 x4_2).f0) ≤ ((rd_T40 l0_6 (ji29)).f0)) = false := decide_eq_false c32
                                    clear c32
                                    have H' := Aside0.mk H
                                    clear H
                                    have hcz34_0 : wr.cell? ⟨gb158, 0, none⟩ = some (.int .u32 a0_0) := (blk_cell BK158.out 0).trans rfl
                                    have hcz34_1 : wr.cell? ⟨gb158, 1, none⟩ = some (.int .u32 a0_1) := (blk_cell BK158.out 1).trans rfl
                                    have hcz34_2 : wr.cell? ⟨gb158, 2, none⟩ = some (.int .u32 a0_2) := (blk_cell BK158.out 2).trans rfl
                                    have hcz34_3 : wr.cell? ⟨gb158, 3, none⟩ = some (.int .u32 a0_3) := (blk_cell BK158.out 3).trans rfl
                                    have hcz34_4 : wr.cell? ⟨gb158, 4, none⟩ = some (.bool a0_4) := (blk_cell BK158.out 4).trans rfl
                                    have hcz34_5 : wr.cell? ⟨gb158, 5, none⟩ = some (.bool a0_5) := (blk_cell BK158.out 5).trans rfl
                                    have hcz34_6 : wr.cell? ⟨gb158, 6, none⟩ = some (.slice A0_6 l0_6.length c0_6) := (blk_cell BK158.out 6).trans rfl
                                    have hfz34_0 := blk_frozen BK158.out 0
                                    have hfz34_1 := blk_frozen BK158.out 1
                                    have hfz34_2 := blk_frozen BK158.out 2
                                    have hfz34_3 := blk_frozen BK158.out 3
                                    have hfz34_4 := blk_frozen BK158.out 4
                                    have hfz34_5 := blk_frozen BK158.out 5
                                    have hfz34_6 := blk_frozen BK158.out 6
                                    have p159 : 0 ≤ (x4_2 : Int) := of_decide_eq_true (by first | (with_reducible assumption) | assumption)
                                    have q159 : x4_2 < (l0_6.length : Int) := of_decide_eq_true (by first | (with_reducible assumption) | assumption)
                                    obtain ⟨ad159, e159, hx159_0, hx159_1⟩ := at_T40 HR0_6.out x4_2 p159 q159
                                    cases e159
                                    replace hx159_0 := (HB.out.cell (World.block_lt_of_cell? w _ hx159_0)).trans hx159_0
                                    replace hx159_1 := (HB.out.cell (World.block_lt_of_cell? w _ hx159_1)).trans hx159_1
                                    replace p159 := eq_true p159
                                    replace q159 := eq_true q159
                                    have p160 : 0 ≤ ((ji29) : Int) := of_decide_eq_true (by first | (with_reducible assumption) | assumption)
                                    have q160 : (ji29) < (l0_6.length : Int) := of_decide_eq_true (by first | (with_reducible assumption) | assumption)
                                    obtain ⟨ad160, e160, hx160_0, hx160_1⟩ := at_T40 HR0_6.out (ji29) p160 q160
                                    obtain rfl : ad159 = ad160 := (by injection e160)
                                    replace hx160_0 := (HB.out.cell (World.block_lt_of_cell? w _ hx160_0)).trans hx160_0
                                    replace hx160_1 := (HB.out.cell (World.block_lt_of_cell? w _ hx160_1)).trans hx160_1
                                    replace p160 := eq_true p160
                                    replace q160 := eq_true q160
                                    have p161 : 0 ≤ (x4_2 : Int) := of_decide_eq_true (by first | (with_reducible assumption) | assumption)
                                    have q161 : x4_2 < (l0_6.length : Int) := of_decide_eq_true (by first | (with_reducible assumption) | assumption)
                                    obtain ⟨ad161, e161, hx161_0, hx161_1⟩ := at_T40 HR0_6.out x4_2 p161 q161
                                    obtain rfl : ad159 = ad161 := (by injection e161)
                                    replace hx161_0 := (HB.out.cell (World.block_lt_of_cell? w _ hx161_0)).trans hx161_0
                                    replace hx161_1 := (HB.out.cell (World.block_lt_of_cell? w _ hx161_1)).trans hx161_1
                                    replace p161 := eq_true p161
                                    replace q161 := eq_true q161
                                    go_wp2
                                    repeat (go_quiet (fail); try go_wp2)
                                    go_roundg k2
                                    case measure => have := HJ1.out; have := HK2.out; omega
                                    case rel => exact ⟨(wrap64 (x4_2 + 1)), (by first | rfl | (simp; done) | (simp [*]; done)), H', ⟨by have := HJ1.out; have := HK2.out; omega⟩, ⟨by (with_reducible repeat (first | refine blk_drewN ?_ _ | refine blk_drew ?_ | refine blk_alloc ?_ _)); exact BK158.out⟩, ⟨by repeat (first | (with_reducible first | exact HB.out | apply below_alloc | apply pw_below_drewN | apply below_drew1 | refine below_set ?_ GE158.out) | exact HB.out)⟩⟩
                                · rw [if_neg c31] at H
                                  exact absurd H (by simp)
                              · rw [if_neg c30] at H
                                exact absurd H (by simp)
                            · rw [if_neg c28] at H
                              have c28b0 : decide (0 < x4_2) = false := decide_eq_false c28
                              clear c28
                              have H' := Aside0.mk H
                              clear H
                              have hcz35_0 : wr.cell? ⟨gb158, 0, none⟩ = some (.int .u32 a0_0) := (blk_cell BK158.out 0).trans rfl
                              have hcz35_1 : wr.cell? ⟨gb158, 1, none⟩ = some (.int .u32 a0_1) := (blk_cell BK158.out 1).trans rfl
                              have hcz35_2 : wr.cell? ⟨gb158, 2, none⟩ = some (.int .u32 a0_2) := (blk_cell BK158.out 2).trans rfl
                              have hcz35_3 : wr.cell? ⟨gb158, 3, none⟩ = some (.int .u32 a0_3) := (blk_cell BK158.out 3).trans rfl
                              have hcz35_4 : wr.cell? ⟨gb158, 4, none⟩ = some (.bool a0_4) := (blk_cell BK158.out 4).trans rfl
                              have hcz35_5 : wr.cell? ⟨gb158, 5, none⟩ = some (.bool a0_5) := (blk_cell BK158.out 5).trans rfl
                              have hcz35_6 : wr.cell? ⟨gb158, 6, none⟩ = some (.slice A0_6 l0_6.length c0_6) := (blk_cell BK158.out 6).trans rfl
                              have hfz35_0 := blk_frozen BK158.out 0
                              have hfz35_1 := blk_frozen BK158.out 1
                              have hfz35_2 := blk_frozen BK158.out 2
                              have hfz35_3 := blk_frozen BK158.out 3
                              have hfz35_4 := blk_frozen BK158.out 4
                              have hfz35_5 := blk_frozen BK158.out 5
                              have hfz35_6 := blk_frozen BK158.out 6
                              have p159 : 0 ≤ (x4_2 : Int) := of_decide_eq_true (by first | (with_reducible assumption) | assumption)
                              have q159 : x4_2 < (l0_6.length : Int) := of_decide_eq_true (by first | (with_reducible assumption) | assumption)
                              obtain ⟨ad159, e159, hx159_0, hx159_1⟩ := at_T40 HR0_6.out x4_2 p159 q159
                              cases e159
                              replace hx159_0 := (HB.out.cell (World.block_lt_of_cell? w _ hx159_0)).trans hx159_0
                              replace hx159_1 := (HB.out.cell (World.block_lt_of_cell? w _ hx159_1)).trans hx159_1
                              replace p159 := eq_true p159
                              replace q159 := eq_true q159
                              go_wp2
                              repeat (go_quiet (fail); try go_wp2)
                              go_roundg k2
                              case measure => have := HJ1.out; have := HK2.out; omega
                              case rel => exact ⟨(wrap64 (x4_2 + 1)), (by first | rfl | (simp; done) | (simp [*]; done)), H', ⟨by have := HJ1.out; have := HK2.out; omega⟩, ⟨by (with_reducible repeat (first | refine blk_drewN ?_ _ | refine blk_drew ?_ | refine blk_alloc ?_ _)); exact BK158.out⟩, ⟨by repeat (first | (with_reducible first | exact HB.out | apply below_alloc | apply pw_below_drewN | apply below_drew1 | refine below_set ?_ GE158.out) | exact HB.out)⟩⟩
                          · rw [if_neg c27] at H
                            have c27b0 : ((l0_6.length : Int) == 1) = false := beq_eq_false_iff_ne.mpr c27
                            have c27b1 : ((l0_6.length : Int) != 1) = true := bne_iff_ne.mpr c27
                            obtain rfl := Option.some.inj H
                            have hcz36_0 : wr.cell? ⟨gb158, 0, none⟩ = some (.int .u32 a0_0) := (blk_cell BK158.out 0).trans rfl
                            have hcz36_1 : wr.cell? ⟨gb158, 1, none⟩ = some (.int .u32 a0_1) := (blk_cell BK158.out 1).trans rfl
                            have hcz36_2 : wr.cell? ⟨gb158, 2, none⟩ = some (.int .u32 a0_2) := (blk_cell BK158.out 2).trans rfl
                            have hcz36_3 : wr.cell? ⟨gb158, 3, none⟩ = some (.int .u32 a0_3) := (blk_cell BK158.out 3).trans rfl
                            have hcz36_4 : wr.cell? ⟨gb158, 4, none⟩ = some (.bool a0_4) := (blk_cell BK158.out 4).trans rfl
                            have hcz36_5 : wr.cell? ⟨gb158, 5, none⟩ = some (.bool a0_5) := (blk_cell BK158.out 5).trans rfl
                            have hcz36_6 : wr.cell? ⟨gb158, 6, none⟩ = some (.slice A0_6 l0_6.length c0_6) := (blk_cell BK158.out 6).trans rfl
                            have hfz36_0 := blk_frozen BK158.out 0
                            have hfz36_1 := blk_frozen BK158.out 1
                            have hfz36_2 := blk_frozen BK158.out 2
                            have hfz36_3 := blk_frozen BK158.out 3
                            have hfz36_4 := blk_frozen BK158.out 4
                            have hfz36_5 := blk_frozen BK158.out 5
                            have hfz36_6 := blk_frozen BK158.out 6
                            have p159 : 0 ≤ (x4_2 : Int) := of_decide_eq_true (by first | (with_reducible assumption) | assumption)
                            have q159 : x4_2 < (l0_6.length : Int) := of_decide_eq_true (by first | (with_reducible assumption) | assumption)
                            obtain ⟨ad159, e159, hx159_0, hx159_1⟩ := at_T40 HR0_6.out x4_2 p159 q159
                            cases e159
                            replace hx159_0 := (HB.out.cell (World.block_lt_of_cell? w _ hx159_0)).trans hx159_0
                            replace hx159_1 := (HB.out.cell (World.block_lt_of_cell? w _ hx159_1)).trans hx159_1
                            replace p159 := eq_true p159
                            replace q159 := eq_true q159
                            go_wp2
                            repeat (go_quiet (fail); try go_wp2)
                            all_goals
                              go_ret
                              exact ⟨by first | rfl | (simp [errW_none, errW_some] <;> rfl) | (simp [*, errW_none, errW_some] <;> rfl), by repeat (first | (with_reducible first | exact HB.out | apply below_alloc | apply pw_below_drewN | apply below_drew1 | refine below_set ?_ GE158.out) | exact HB.out)⟩
                        · rw [if_neg c26] at H
                          have c26b0 : (((rd_T40 l0_6 x4_2).f1) == 2) = false := beq_eq_false_iff_ne.mpr c26
                          have c26b1 : (((rd_T40 l0_6 x4_2).f1) != 2) = true := bne_iff_ne.mpr c26
                          by_cases c37 : x4_2 > 0
                          · rw [if_pos c37] at H
                            have c37b0 : decide (0 < x4_2) = true := decide_eq_true c37
                            clear c37
                            obtain ⟨ji38, hji38⟩ : ∃ j_ : Int, (wrap64 (x4_2 - 1)) = j_ := ⟨_, rfl⟩
                            replace H : (if 0 ≤ (ji38) then (if (ji38) < (l0_6.length : Int) then (if ((rd_T40 l0_6 (ji38)).f0) ≥ ((rd_T40 l0_6 x4_2).f0) then (some false) else (lamellaref12_Right.l0 k2 (l0_6.length : Int) (wrap64 (x4_2 + 1)) a0_0 a0_1 a0_2 a0_3 a0_4 a0_5 l0_6)) else (none)) else (none)) = some r := by first | (rw [hji38] at H; exact H) | (simp only [hji38] at H ⊢; exact H)
                            have hji38w : (IntKind.i64.wrap (x4_2 - 1)) = ji38 := (i64_w _).trans hji38
                            by_cases c39 : 0 ≤ (ji38)
                            · rw [if_pos c39] at H
                              have c39b0 : decide (0 ≤ (ji38)) = true := decide_eq_true c39
                              clear c39
                              by_cases c40 : (ji38) < (l0_6.length : Int)
                              · rw [if_pos c40] at H
                                have c40b0 : decide ((ji38) < (l0_6.length : Int)) = true := decide_eq_true c40
                                clear c40
                                by_cases c41 : ((rd_T40 l0_6 (ji38)).f0) ≥ ((rd_T40 l0_6 x4_2).f0)
                                · rw [if_pos c41] at H
                                  have c41b0 : decide (((rd_T40 l0_6 x4_2).f0) ≤ ((rd_T40 l0_6 (ji38)).f0)) = true := decide_eq_true c41
                                  clear c41
                                  obtain rfl := Option.some.inj H
                                  have hcz42_0 : wr.cell? ⟨gb158, 0, none⟩ = some (.int .u32 a0_0) := (blk_cell BK158.out 0).trans rfl
                                  have hcz42_1 : wr.cell? ⟨gb158, 1, none⟩ = some (.int .u32 a0_1) := (blk_cell BK158.out 1).trans rfl
                                  have hcz42_2 : wr.cell? ⟨gb158, 2, none⟩ = some (.int .u32 a0_2) := (blk_cell BK158.out 2).trans rfl
                                  have hcz42_3 : wr.cell? ⟨gb158, 3, none⟩ = some (.int .u32 a0_3) := (blk_cell BK158.out 3).trans rfl
                                  have hcz42_4 : wr.cell? ⟨gb158, 4, none⟩ = some (.bool a0_4) := (blk_cell BK158.out 4).trans rfl
                                  have hcz42_5 : wr.cell? ⟨gb158, 5, none⟩ = some (.bool a0_5) := (blk_cell BK158.out 5).trans rfl
                                  have hcz42_6 : wr.cell? ⟨gb158, 6, none⟩ = some (.slice A0_6 l0_6.length c0_6) := (blk_cell BK158.out 6).trans rfl
                                  have hfz42_0 := blk_frozen BK158.out 0
                                  have hfz42_1 := blk_frozen BK158.out 1
                                  have hfz42_2 := blk_frozen BK158.out 2
                                  have hfz42_3 := blk_frozen BK158.out 3
                                  have hfz42_4 := blk_frozen BK158.out 4
                                  have hfz42_5 := blk_frozen BK158.out 5
                                  have hfz42_6 := blk_frozen BK158.out 6
                                  have p159 : 0 ≤ (x4_2 : Int) := of_decide_eq_true (by first | (with_reducible assumption) | assumption)
                                  have q159 : x4_2 < (l0_6.length : Int) := of_decide_eq_true (by first | (with_reducible assumption) | assumption)
                                  obtain ⟨ad159, e159, hx159_0, hx159_1⟩ := at_T40 HR0_6.out x4_2 p159 q159
                                  cases e159
                                  replace hx159_0 := (HB.out.cell (World.block_lt_of_cell? w _ hx159_0)).trans hx159_0
                                  replace hx159_1 := (HB.out.cell (World.block_lt_of_cell? w _ hx159_1)).trans hx159_1
                                  replace p159 := eq_true p159
                                  replace q159 := eq_true q159
                                  have p162 : 0 ≤ ((ji38) : Int) := of_decide_eq_true (by first | (with_reducible assumption) | assumption)
                                  have q162 : (ji38) < (l0_6.length : Int) := of_decide_eq_true (by first | (with_reducible assumption) | assumption)
                                  obtain ⟨ad162, e162, hx162_0, hx162_1⟩ := at_T40 HR0_6.out (ji38) p162 q162
                                  obtain rfl : ad159 = ad162 := (by injection e162)
                                  replace hx162_0 := (HB.out.cell (World.block_lt_of_cell? w _ hx162_0)).trans hx162_0
                                  replace hx162_1 := (HB.out.cell (World.block_lt_of_cell? w _ hx162_1)).trans hx162_1
                                  replace p162 := eq_true p162
                                  replace q162 := eq_true q162
                                  have p163 : 0 ≤ (x4_2 : Int) := of_decide_eq_true (by first | (with_reducible assumption) | assumption)
                                  have q163 : x4_2 < (l0_6.length : Int) := of_decide_eq_true (by first | (with_reducible assumption) | assumption)
                                  obtain ⟨ad163, e163, hx163_0, hx163_1⟩ := at_T40 HR0_6.out x4_2 p163 q163
                                  obtain rfl : ad159 = ad163 := (by injection e163)
                                  replace hx163_0 := (HB.out.cell (World.block_lt_of_cell? w _ hx163_0)).trans hx163_0
                                  replace hx163_1 := (HB.out.cell (World.block_lt_of_cell? w _ hx163_1)).trans hx163_1
                                  replace p163 := eq_true p163
                                  replace q163 := eq_true q163
                                  go_wp2
                                  repeat (go_quiet (fail); try go_wp2)
                                  all_goals
                                    go_ret
                                    exact ⟨by first | rfl | (simp [errW_none, errW_some] <;> rfl) | (simp only [← hji38]; first | rfl | (simp [errW_none, errW_some] <;> rfl)) | (simp [*, errW_none, errW_some] <;> rfl), by repeat (first | (with_reducible first | exact HB.out | apply below_alloc | apply pw_below_drewN | apply below_drew1 | refine below_set ?_ GE158.out) | exact HB.out)⟩
                                · rw [if_neg c41] at H
                                  have c41b0 : decide (((rd_T40 l0_6 x4_2).f0) ≤ ((rd_T40 l0_6 (ji38)).f0)) = false := decide_eq_false c41
                                  clear c41
                                  have H' := Aside0.mk H
                                  clear H
                                  have hcz43_0 : wr.cell? ⟨gb158, 0, none⟩ = some (.int .u32 a0_0) := (blk_cell BK158.out 0).trans rfl
                                  have hcz43_1 : wr.cell? ⟨gb158, 1, none⟩ = some (.int .u32 a0_1) := (blk_cell BK158.out 1).trans rfl
                                  have hcz43_2 : wr.cell? ⟨gb158, 2, none⟩ = some (.int .u32 a0_2) := (blk_cell BK158.out 2).trans rfl
                                  have hcz43_3 : wr.cell? ⟨gb158, 3, none⟩ = some (.int .u32 a0_3) := (blk_cell BK158.out 3).trans rfl
                                  have hcz43_4 : wr.cell? ⟨gb158, 4, none⟩ = some (.bool a0_4) := (blk_cell BK158.out 4).trans rfl
                                  have hcz43_5 : wr.cell? ⟨gb158, 5, none⟩ = some (.bool a0_5) := (blk_cell BK158.out 5).trans rfl
                                  have hcz43_6 : wr.cell? ⟨gb158, 6, none⟩ = some (.slice A0_6 l0_6.length c0_6) := (blk_cell BK158.out 6).trans rfl
                                  have hfz43_0 := blk_frozen BK158.out 0
                                  have hfz43_1 := blk_frozen BK158.out 1
                                  have hfz43_2 := blk_frozen BK158.out 2
                                  have hfz43_3 := blk_frozen BK158.out 3
                                  have hfz43_4 := blk_frozen BK158.out 4
                                  have hfz43_5 := blk_frozen BK158.out 5
                                  have hfz43_6 := blk_frozen BK158.out 6
                                  have p159 : 0 ≤ (x4_2 : Int) := of_decide_eq_true (by first | (with_reducible assumption) | assumption)
                                  have q159 : x4_2 < (l0_6.length : Int) := of_decide_eq_true (by first | (with_reducible assumption) | assumption)
                                  obtain ⟨ad159, e159, hx159_0, hx159_1⟩ := at_T40 HR0_6.out x4_2 p159 q159
                                  cases e159
                                  replace hx159_0 := (HB.out.cell (World.block_lt_of_cell? w _ hx159_0)).trans hx159_0
                                  replace hx159_1 := (HB.out.cell (World.block_lt_of_cell? w _ hx159_1)).trans hx159_1
                                  replace p159 := eq_true p159
                                  replace q159 := eq_true q159
                                  have p162 : 0 ≤ ((ji38) : Int) := of_decide_eq_true (by first | (with_reducible assumption) | assumption)
                                  have q162 : (ji38) < (l0_6.length : Int) := of_decide_eq_true (by first | (with_reducible assumption) | assumption)
                                  obtain ⟨ad162, e162, hx162_0, hx162_1⟩ := at_T40 HR0_6.out (ji38) p162 q162
                                  obtain rfl : ad159 = ad162 := (by injection e162)
                                  replace hx162_0 := (HB.out.cell (World.block_lt_of_cell? w _ hx162_0)).trans hx162_0
                                  replace hx162_1 := (HB.out.cell (World.block_lt_of_cell? w _ hx162_1)).trans hx162_1
                                  replace p162 := eq_true p162
                                  replace q162 := eq_true q162
                                  have p163 : 0 ≤ (x4_2 : Int) := of_decide_eq_true (by first | (with_reducible assumption) | assumption)
                                  have q163 : x4_2 < (l0_6.length : Int) := of_decide_eq_true (by first | (with_reducible assumption) | assumption)
                                  obtain ⟨ad163, e163, hx163_0, hx163_1⟩ := at_T40 HR0_6.out x4_2 p163 q163
                                  obtain rfl : ad159 = ad163 := (by injection e163)
                                  replace hx163_0 := (HB.out.cell (World.block_lt_of_cell? w _ hx163_0)).trans hx163_0
                                  replace hx163_1 := (HB.out.cell (World.block_lt_of_cell? w _ hx163_1)).trans hx163_1
                                  replace p163 := eq_true p163
                                  replace q163 := eq_true q163
                                  go_wp2
                                  repeat (go_quiet (fail); try go_wp2)
                                  go_roundg k2
                                  case measure => have := HJ1.out; have := HK2.out; omega
                                  case rel => exact ⟨(wrap64 (x4_2 + 1)), (by first | rfl | (simp; done) | (simp [*]; done)), H', ⟨by have := HJ1.out; have := HK2.out; omega⟩, ⟨by (with_reducible repeat (first | refine blk_drewN ?_ _ | refine blk_drew ?_ | refine blk_alloc ?_ _)); exact BK158.out⟩, ⟨by repeat (first | (with_reducible first | exact HB.out | apply below_alloc | apply pw_below_drewN | apply below_drew1 | refine below_set ?_ GE158.out) | exact HB.out)⟩⟩
                              · rw [if_neg c40] at H
                                exact absurd H (by simp)
                            · rw [if_neg c39] at H
                              exact absurd H (by simp)
                          · rw [if_neg c37] at H
                            have c37b0 : decide (0 < x4_2) = false := decide_eq_false c37
                            clear c37
                            have H' := Aside0.mk H
                            clear H
                            have hcz44_0 : wr.cell? ⟨gb158, 0, none⟩ = some (.int .u32 a0_0) := (blk_cell BK158.out 0).trans rfl
                            have hcz44_1 : wr.cell? ⟨gb158, 1, none⟩ = some (.int .u32 a0_1) := (blk_cell BK158.out 1).trans rfl
                            have hcz44_2 : wr.cell? ⟨gb158, 2, none⟩ = some (.int .u32 a0_2) := (blk_cell BK158.out 2).trans rfl
                            have hcz44_3 : wr.cell? ⟨gb158, 3, none⟩ = some (.int .u32 a0_3) := (blk_cell BK158.out 3).trans rfl
                            have hcz44_4 : wr.cell? ⟨gb158, 4, none⟩ = some (.bool a0_4) := (blk_cell BK158.out 4).trans rfl
                            have hcz44_5 : wr.cell? ⟨gb158, 5, none⟩ = some (.bool a0_5) := (blk_cell BK158.out 5).trans rfl
                            have hcz44_6 : wr.cell? ⟨gb158, 6, none⟩ = some (.slice A0_6 l0_6.length c0_6) := (blk_cell BK158.out 6).trans rfl
                            have hfz44_0 := blk_frozen BK158.out 0
                            have hfz44_1 := blk_frozen BK158.out 1
                            have hfz44_2 := blk_frozen BK158.out 2
                            have hfz44_3 := blk_frozen BK158.out 3
                            have hfz44_4 := blk_frozen BK158.out 4
                            have hfz44_5 := blk_frozen BK158.out 5
                            have hfz44_6 := blk_frozen BK158.out 6
                            have p159 : 0 ≤ (x4_2 : Int) := of_decide_eq_true (by first | (with_reducible assumption) | assumption)
                            have q159 : x4_2 < (l0_6.length : Int) := of_decide_eq_true (by first | (with_reducible assumption) | assumption)
                            obtain ⟨ad159, e159, hx159_0, hx159_1⟩ := at_T40 HR0_6.out x4_2 p159 q159
                            cases e159
                            replace hx159_0 := (HB.out.cell (World.block_lt_of_cell? w _ hx159_0)).trans hx159_0
                            replace hx159_1 := (HB.out.cell (World.block_lt_of_cell? w _ hx159_1)).trans hx159_1
                            replace p159 := eq_true p159
                            replace q159 := eq_true q159
                            go_wp2
                            repeat (go_quiet (fail); try go_wp2)
                            go_roundg k2
                            case measure => have := HJ1.out; have := HK2.out; omega
                            case rel => exact ⟨(wrap64 (x4_2 + 1)), (by first | rfl | (simp; done) | (simp [*]; done)), H', ⟨by have := HJ1.out; have := HK2.out; omega⟩, ⟨by (with_reducible repeat (first | refine blk_drewN ?_ _ | refine blk_drew ?_ | refine blk_alloc ?_ _)); exact BK158.out⟩, ⟨by repeat (first | (with_reducible first | exact HB.out | apply below_alloc | apply pw_below_drewN | apply below_drew1 | refine below_set ?_ GE158.out) | exact HB.out)⟩⟩
                · rw [if_neg c19] at H
                  exact absurd H (by simp)
              · rw [if_neg c18] at H
                exact absurd H (by simp)
            · rw [if_neg c17] at H
              have c17b0 : decide (x4_2 < (l0_6.length : Int)) = false := decide_eq_false c17
              clear c17
              obtain rfl := Option.some.inj H
              go_wp2
              repeat (go_quiet (fail); try go_wp2)
              all_goals
                go_ret
                exact ⟨by first | rfl | (simp [errW_none, errW_some] <;> rfl) | (simp [*, errW_none, errW_some] <;> rfl), by repeat (first | (with_reducible first | exact HB.out | apply below_alloc | apply pw_below_drewN | apply below_drew1 | refine below_set ?_ GE158.out) | exact HB.out)⟩

end Go.Proofs.Ytkcacfnefhakbaa.P12
