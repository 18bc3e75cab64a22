-- Written by a program of this session (wip/tools/printplus.py) over the kit's printer: some functions are given by hand.
import Derived.Test.YtkcacfnefhakbaaP12x0
namespace Go.Proofs.Ytkcacfnefhakbaa.P12
open Go.RowKit Go.Proofs.YtkcacfnefhakbaaW.PrintWords Go.Proofs.YtkcacfnefhakbaaW.PrintLast Go.Proofs.YtkcacfnefhakbaaW.PrintMore
attribute [local go_sem] max2_int min2_int max_two min_two max_three min_three max_four min_four   -- for this text's walks alone
set_option linter.unusedVariables false
set_option linter.unusedSimpArgs false
theorem info40 : (Try.prog.info? 40).map (fun i => (i.zero, i.size, i.bytes)) = some (some (.agg #[(.int .u32 0), (.int .u32 0)]), 2, 8) := by kernel_rfl

/-! ### lamellaref12_Without: function 28 -/
def lamellaref12_Without.l0 : Nat → Int → List (S40) → Int → Int → Int → Int → Int → Bool → Bool → List (S40) → Option (Int × Int × Int × Int × Bool × Bool × (List (S40)))
  | 0, _, _, _, _, _, _, _, _, _, _ => none
  | k + 1, x1, x5, x6, x232000, x232001, x232002, x232003, x232004, x232005, x232006 => if x6 < (x232006.length : Int) then (if 0 ≤ x6 then (if ((rd_T40 x232006 x6).f0) = x1 then (lamellaref12_Without.l0 k x1 x5 (wrap64 (x6 + 1)) x232000 x232001 x232002 x232003 x232004 x232005 x232006) else (if x5.length < 17592186044416 then (lamellaref12_Without.l0 k x1 (x5 ++ [(⟨(rd_T40 x232006 x6).f0, (rd_T40 x232006 x6).f1⟩ : S40)]) (wrap64 (x6 + 1)) x232000 x232001 x232002 x232003 x232004 x232005 x232006) else (none))) else (none)) else (some (x232000, x232001, x232002, x232003, x232004, x232005, x5))
def lamellaref12_Without.f (k : Nat) (a0_0 : Int) (a0_1 : Int) (a0_2 : Int) (a0_3 : Int) (a0_4 : Bool) (a0_5 : Bool) (l0_6 : List (S40)) (a1 : Int) : Option (Int × Int × Int × Int × Bool × Bool × (List (S40))) := lamellaref12_Without.l0 k a1 ([] : List (S40)) 0 a0_0 a0_1 a0_2 a0_3 a0_4 a0_5 l0_6
theorem lamellaref12_Without.mono_l : ∀ k, (∀ y0 y1 y2 y3 y4 y5 y6 y7 y8 y9, LeO (lamellaref12_Without.l0 k y0 y1 y2 y3 y4 y5 y6 y7 y8 y9) (lamellaref12_Without.l0 (k + 1) y0 y1 y2 y3 y4 y5 y6 y7 y8 y9))
  | 0 => fun _ _ _ _ _ _ _ _ _ _ r h => by simp [lamellaref12_Without.l0] at h
  | k + 1 => by
    have ih0 := lamellaref12_Without.mono_l k
    · intro y0 y1 y2 y3 y4 y5 y6 y7 y8 y9
      unfold lamellaref12_Without.l0
      repeat' first
      | (with_reducible exact ih0 _ _ _ _ _ _ _ _ _ _)
      | (with_reducible exact LeO.refl _)
      | (with_reducible exact LeO.none _)
      | (with_reducible refine LeO.ite ?_ ?_)
      | (with_reducible refine LeO.bind ?_ (fun _ => ?_))
      | exact ih0 _ _ _ _ _ _ _ _ _ _
      | exact LeO.none _
      | refine LeO.ite ?_ ?_
      | refine LeO.bind ?_ (fun _ => ?_)
theorem lamellaref12_Without.mono : ∀ a0 a1 a2 a3 a4 a5 a6 a7 k, LeO (lamellaref12_Without.f k a0 a1 a2 a3 a4 a5 a6 a7) (lamellaref12_Without.f (k + 1) a0 a1 a2 a3 a4 a5 a6 a7) := by
  intro a0 a1 a2 a3 a4 a5 a6 a7 k
  have ih0 := lamellaref12_Without.mono_l k
  unfold lamellaref12_Without.f
  repeat' first
      | (with_reducible exact ih0 _ _ _ _ _ _ _ _ _ _)
      | (with_reducible exact LeO.refl _)
      | (with_reducible exact LeO.none _)
      | (with_reducible refine LeO.ite ?_ ?_)
      | (with_reducible refine LeO.bind ?_ (fun _ => ?_))
      | exact ih0 _ _ _ _ _ _ _ _ _ _
      | exact LeO.none _
      | refine LeO.ite ?_ ?_
      | refine LeO.bind ?_ (fun _ => ?_)
set_option maxHeartbeats 8000000 in
set_option maxRecDepth 100000 in
theorem lamellaref12_Without.calls (k : Nat) (a0_0 : Int) (a0_1 : Int) (a0_2 : Int) (a0_3 : Int) (a0_4 : Bool) (a0_5 : Bool) (A0_6 : Option Addr) (c0_6 : Nat) (l0_6 : List (S40)) (a1 : Int) (r1 : Int) (r2 : Int) (r3 : Int) (r4 : Int) (r5 : Bool) (r6 : Bool) (r7 : List (S40)) (w : World) (hr0_6 : Kd.C k40 w A0_6 l0_6.length l0_6) (hc0_6 : l0_6.length ≤ c0_6) (h : lamellaref12_Without.f k a0_0 a0_1 a0_2 a0_3 a0_4 a0_5 l0_6 a1 = some (r1, r2, r3, r4, r5, r6, r7)) :
    Calls Try.prog 28 #[.agg #[.int .u32 a0_0, .int .u32 a0_1, .int .u32 a0_2, .int .u32 a0_3, .bool a0_4, .bool a0_5, .slice A0_6 l0_6.length c0_6], .int .u32 a1] w fun e w' => ∃ v6_ : Value, e = .returned (.agg #[.int .u32 r1, .int .u32 r2, .int .u32 r3, .int .u32 r4, .bool r5, .bool r6, v6_]) ∧ Kd.R k40 40 w' w.heap.size (fun _ => True) v6_ r7 ∧ Below w.heap.size w w' := by
  have hu25 := Try.underlying25
  have hu40 := Try.underlying40
  have HR0_6 := Aside0.mk hr0_6
  have HC0_6 := Aside0.mk hc0_6
  clear hr0_6 hc0_6
  have HB := Aside0.mk (Below.refl w.heap.size w)
  have H : (lamellaref12_Without.l0 k a1 ([] : List (S40)) 0 a0_0 a0_1 a0_2 a0_3 a0_4 a0_5 l0_6) = some (r1, r2, r3, r4, r5, r6, r7) := h
  clear h
  have H' := Aside0.mk H
  clear H
  go_enter Try.func28, Try.ntmps28
  go_wp2_with (first | ((with_reducible refine gate_dst (N := 2) rfl ?_); refine box_event ?hg (N := 2) ?hd (cs := #[.int .u32 a0_0, .int .u32 a0_1, .int .u32 a0_2, .int .u32 a0_3, .bool a0_4, .bool a0_5, .slice A0_6 l0_6.length c0_6]) (t := 25) ?hr ?_; (case hd => rfl); (case hg => rfl); (case hr => first | (go_simp; done) | (go_simp; rfl)); intro gb231 hg w3 hbox hb; have n0_ := Aside0.mk (below_step (by repeat (first | (with_reducible first | exact HB.out | apply below_alloc | apply pw_below_drewN | apply below_drew1) | exact HB.out)) hb); have n1_ := Aside0.mk (hbox); have n2_ := Aside0.mk ((by rw [hg]; exact (below_size (by repeat (first | (with_reducible first | exact HB.out | apply below_alloc | apply pw_below_drewN | apply below_drew1) | exact HB.out))) : w.heap.size ≤ gb231)); have n3_ := Aside0.mk ((by rw [hg]; exact (below_size (by repeat (first | (with_reducible first | exact HB.out | apply below_alloc | apply pw_below_drewN | apply below_drew1) | exact HB.out))) : w.heap.size ≤ gb231)); clear HB; have HB := n0_; have BK231 := n1_; have GW231 := n2_; have GE231 := n3_; clear n0_ n1_ n2_ n3_; clear hb hbox hg) | ((with_reducible refine gate_dst (N := 4) rfl ?_); refine box_event ?hg (N := 4) ?hd (cs := #[.int .u32 0, .int .u32 0, .int .u32 0, .int .u32 0, .bool false, .bool false, .slice none 0 0]) (t := 25) ?hr ?_; (case hd => rfl); (case hg => rfl); (case hr => first | (go_simp; done) | (go_simp; rfl)); intro gb232 hg w4 hbox hb; have n0_ := Aside0.mk (blk_below (g := gb231) (o := .cells #[.int .u32 a0_0, .int .u32 a0_1, .int .u32 a0_2, .int .u32 a0_3, .bool a0_4, .bool a0_5, .slice A0_6 l0_6.length c0_6] 25 (0, 0)) (by (with_reducible repeat (first | refine blk_drewN ?_ _ | refine blk_drew ?_ | refine blk_alloc ?_ _)); exact BK231.out) hb); have n1_ := Aside0.mk (below_step (by repeat (first | (with_reducible first | exact HB.out | apply below_alloc | apply pw_below_drewN | apply below_drew1 | refine below_set ?_ GE231.out) | exact HB.out)) hb); have n2_ := Aside0.mk (hbox); have n3_ := Aside0.mk ((by rw [hg]; exact (below_size (by repeat (first | (with_reducible first | exact HB.out | apply below_alloc | apply pw_below_drewN | apply below_drew1 | refine below_set ?_ GE231.out) | exact HB.out))) : w.heap.size ≤ gb232)); have n4_ := Aside0.mk ((by rw [hg]; exact (below_size (by repeat (first | (with_reducible first | exact HB.out | apply below_alloc | apply pw_below_drewN | apply below_drew1 | refine below_set ?_ GE231.out) | exact HB.out))) : w.heap.size ≤ gb232)); have n5_ := Aside0.mk ((by rw [hg]; exact Nat.ne_of_lt (blk_lt (g := gb231) (o := .cells #[.int .u32 a0_0, .int .u32 a0_1, .int .u32 a0_2, .int .u32 a0_3, .bool a0_4, .bool a0_5, .slice A0_6 l0_6.length c0_6] 25 (0, 0)) (by (with_reducible repeat (first | refine blk_drewN ?_ _ | refine blk_drew ?_ | refine blk_alloc ?_ _)); exact BK231.out)) : gb231 ≠ gb232)); have n6_ := Aside0.mk ((by rw [hg]; exact Nat.ne_of_gt (blk_lt (g := gb231) (o := .cells #[.int .u32 a0_0, .int .u32 a0_1, .int .u32 a0_2, .int .u32 a0_3, .bool a0_4, .bool a0_5, .slice A0_6 l0_6.length c0_6] 25 (0, 0)) (by (with_reducible repeat (first | refine blk_drewN ?_ _ | refine blk_drew ?_ | refine blk_alloc ?_ _)); exact BK231.out)) : gb232 ≠ gb231)); clear BK231; clear HB; have BK231 := n0_; have HB := n1_; have BK232 := n2_; have GW232 := n3_; have GE232 := n4_; have NB231_232 := n5_; have NB232_231 := n6_; clear n0_ n1_ n2_ n3_ n4_ n5_ n6_; clear hb hbox hg))
  go_loopg [5, 6] k (fun kq v5 v6 w' => ∃ (x5_1 : List (S40)) (x6_1 : Int), v6 = .int .i64 x6_1 ∧ Aside0 (lamellaref12_Without.l0 kq a1 x5_1 x6_1 a0_0 a0_1 a0_2 a0_3 a0_4 a0_5 l0_6 = some (r1, r2, r3, r4, r5, r6, r7)) ∧ Aside0 (kq ≤ k) ∧ Aside0 (Kd.R k40 40 w' w.heap.size (fun _ => True) v5 x5_1) ∧ Aside0 (w'.heap[gb231]? = some (.cells #[.int .u32 a0_0, .int .u32 a0_1, .int .u32 a0_2, .int .u32 a0_3, .bool a0_4, .bool a0_5, (.slice A0_6 l0_6.length c0_6)] 25 (0, 0))) ∧ Aside0 (w'.heap[gb232]? = some (.cells #[.int .u32 0, .int .u32 0, .int .u32 0, .int .u32 0, .bool false, .bool false, (.slice none 0 0)] 25 (0, 0))) ∧ Aside0 (Below w.heap.size w w'))
  case atStart => exact ⟨(([] : List (S40))), (0), (by first | rfl | (simp; done) | (simp [*]; done)), H', ⟨Nat.le_refl _⟩, ⟨by first | exact Kd.R_nil _ _ _ _ _ | exact Kd.N_nil _ _ _ _ _ | exact Kd.V_nil _ _ _ _ _ | exact Kd.Q_nil _ _ _ _ _ | exact Kd.S_nil _ _ _ _ _⟩, ⟨by (with_reducible repeat (first | refine blk_drewN ?_ _ | refine blk_drew ?_ | refine blk_alloc ?_ _)); exact BK231.out⟩, ⟨by (with_reducible repeat (first | refine blk_drewN ?_ _ | refine blk_drew ?_ | refine blk_alloc ?_ _)); exact BK232.out⟩, ⟨by repeat (first | (with_reducible first | exact HB.out | apply below_alloc | apply pw_below_drewN | apply below_drew1 | refine below_set ?_ GE231.out | refine below_set ?_ GE232.out) | exact HB.out)⟩⟩
  case round =>
    clear H'
    try clear c2
    try clear p2
    obtain ⟨x5_1, x6_1, rfl, HA, HK1, HO_5, BK231, BK232, HB⟩ := hrel
    cases gk with
    | zero => exact absurd HA.out (by simp [lamellaref12_Without.l0])
    | succ k1 =>
      have H := HA.out
      clear HA
      simp only [lamellaref12_Without.l0] at H
      by_cases c5 : x6_1 < (l0_6.length : Int)
      · rw [if_pos c5] at H
        have c5b0 : decide (x6_1 < (l0_6.length : Int)) = true := decide_eq_true c5
        clear c5
        by_cases c6 : 0 ≤ x6_1
        · rw [if_pos c6] at H
          have c6b0 : decide (0 ≤ x6_1) = true := decide_eq_true c6
          clear c6
          by_cases c7 : ((rd_T40 l0_6 x6_1).f0) = a1
          · rw [if_pos c7] at H
            have c7b0 : (((rd_T40 l0_6 x6_1).f0) == a1) = true := beq_iff_eq.mpr c7
            have c7b1 : (((rd_T40 l0_6 x6_1).f0) != a1) = false := bne_eq_false_iff_eq.mpr c7
            clear c7
            have H' := Aside0.mk H
            clear H
            have hnb8 := NB231_232.out
            have hnc8 := NB232_231.out
            have hcz9_0 : wr.cell? ⟨gb231, 0, none⟩ = some (.int .u32 a0_0) := (blk_cell BK231.out 0).trans rfl
            have hcz9_1 : wr.cell? ⟨gb231, 1, none⟩ = some (.int .u32 a0_1) := (blk_cell BK231.out 1).trans rfl
            have hcz9_2 : wr.cell? ⟨gb231, 2, none⟩ = some (.int .u32 a0_2) := (blk_cell BK231.out 2).trans rfl
            have hcz9_3 : wr.cell? ⟨gb231, 3, none⟩ = some (.int .u32 a0_3) := (blk_cell BK231.out 3).trans rfl
            have hcz9_4 : wr.cell? ⟨gb231, 4, none⟩ = some (.bool a0_4) := (blk_cell BK231.out 4).trans rfl
            have hcz9_5 : wr.cell? ⟨gb231, 5, none⟩ = some (.bool a0_5) := (blk_cell BK231.out 5).trans rfl
            have hcz9_6 : wr.cell? ⟨gb231, 6, none⟩ = some (.slice A0_6 l0_6.length c0_6) := (blk_cell BK231.out 6).trans rfl
            have hfz9_0 := blk_frozen BK231.out 0
            have hfz9_1 := blk_frozen BK231.out 1
            have hfz9_2 := blk_frozen BK231.out 2
            have hfz9_3 := blk_frozen BK231.out 3
            have hfz9_4 := blk_frozen BK231.out 4
            have hfz9_5 := blk_frozen BK231.out 5
            have hfz9_6 := blk_frozen BK231.out 6
            have p233 : 0 ≤ (x6_1 : Int) := of_decide_eq_true (by first | (with_reducible assumption) | assumption)
            have q233 : x6_1 < (l0_6.length : Int) := of_decide_eq_true (by first | (with_reducible assumption) | assumption)
            obtain ⟨ad233, e233, hx233_0, hx233_1⟩ := at_T40 HR0_6.out x6_1 p233 q233
            cases e233
            replace hx233_0 := (HB.out.cell (World.block_lt_of_cell? w _ hx233_0)).trans hx233_0
            replace hx233_1 := (HB.out.cell (World.block_lt_of_cell? w _ hx233_1)).trans hx233_1
            replace p233 := eq_true p233
            replace q233 := eq_true q233
            go_wp2
            go_roundg k1
            case measure => have := HK1.out; omega
            case rel => exact ⟨(x5_1), (wrap64 (x6_1 + 1)), (by first | rfl | (simp; done) | (simp [*]; done)), H', ⟨by have := HK1.out; omega⟩, ⟨by (with_reducible repeat (first | apply Kd.R_alloc | apply Kd.R_drewN | apply Kd.R_drew)); exact HO_5.out⟩, ⟨by (with_reducible repeat (first | refine blk_drewN ?_ _ | refine blk_drew ?_ | refine blk_alloc ?_ _)); exact BK231.out⟩, ⟨by (with_reducible repeat (first | refine blk_drewN ?_ _ | refine blk_drew ?_ | refine blk_alloc ?_ _)); exact BK232.out⟩, ⟨by repeat (first | (with_reducible first | exact HB.out | apply below_alloc | apply pw_below_drewN | apply below_drew1 | refine below_set ?_ GE231.out | refine below_set ?_ GE232.out) | exact HB.out)⟩⟩
          · rw [if_neg c7] at H
            have c7b0 : (((rd_T40 l0_6 x6_1).f0) == a1) = false := beq_eq_false_iff_ne.mpr c7
            have c7b1 : (((rd_T40 l0_6 x6_1).f0) != a1) = true := bne_iff_ne.mpr c7
            by_cases c10 : x5_1.length < 17592186044416
            · rw [if_pos c10] at H
              have LMc10 := Aside0.mk c10
              clear c10
              obtain ⟨y235, hy235⟩ : ∃ y_ : List (S40), y_ = (x5_1 ++ [(⟨(rd_T40 l0_6 x6_1).f0, (rd_T40 l0_6 x6_1).f1⟩ : S40)]) := ⟨_, rfl⟩
              replace H : (lamellaref12_Without.l0 k1 a1 y235 (wrap64 (x6_1 + 1)) a0_0 a0_1 a0_2 a0_3 a0_4 a0_5 l0_6) = some (r1, r2, r3, r4, r5, r6, r7) := by first | (rw [hy235]; with_reducible exact H) | (have H2_ := (Option.bind_some _ _).symm.trans H; rw [hy235]; with_reducible exact H2_) | (have H2_ := (Option.bind_some _ _).symm.trans H; with_reducible exact H2_) | with_reducible exact H | (rw [hy235]; exact H) | exact H
              have Ny235 := Aside0.mk hy235
              clear hy235
              have H' := Aside0.mk H
              clear H
              have hnb11 := NB231_232.out
              have hnc11 := NB232_231.out
              have hcz12_0 : wr.cell? ⟨gb231, 0, none⟩ = some (.int .u32 a0_0) := (blk_cell BK231.out 0).trans rfl
              have hcz12_1 : wr.cell? ⟨gb231, 1, none⟩ = some (.int .u32 a0_1) := (blk_cell BK231.out 1).trans rfl
              have hcz12_2 : wr.cell? ⟨gb231, 2, none⟩ = some (.int .u32 a0_2) := (blk_cell BK231.out 2).trans rfl
              have hcz12_3 : wr.cell? ⟨gb231, 3, none⟩ = some (.int .u32 a0_3) := (blk_cell BK231.out 3).trans rfl
              have hcz12_4 : wr.cell? ⟨gb231, 4, none⟩ = some (.bool a0_4) := (blk_cell BK231.out 4).trans rfl
              have hcz12_5 : wr.cell? ⟨gb231, 5, none⟩ = some (.bool a0_5) := (blk_cell BK231.out 5).trans rfl
              have hcz12_6 : wr.cell? ⟨gb231, 6, none⟩ = some (.slice A0_6 l0_6.length c0_6) := (blk_cell BK231.out 6).trans rfl
              have hfz12_0 := blk_frozen BK231.out 0
              have hfz12_1 := blk_frozen BK231.out 1
              have hfz12_2 := blk_frozen BK231.out 2
              have hfz12_3 := blk_frozen BK231.out 3
              have hfz12_4 := blk_frozen BK231.out 4
              have hfz12_5 := blk_frozen BK231.out 5
              have hfz12_6 := blk_frozen BK231.out 6
              have p233 : 0 ≤ (x6_1 : Int) := of_decide_eq_true (by first | (with_reducible assumption) | assumption)
              have q233 : x6_1 < (l0_6.length : Int) := of_decide_eq_true (by first | (with_reducible assumption) | assumption)
              obtain ⟨ad233, e233, hx233_0, hx233_1⟩ := at_T40 HR0_6.out x6_1 p233 q233
              cases e233
              replace hx233_0 := (HB.out.cell (World.block_lt_of_cell? w _ hx233_0)).trans hx233_0
              replace hx233_1 := (HB.out.cell (World.block_lt_of_cell? w _ hx233_1)).trans hx233_1
              replace p233 := eq_true p233
              replace q233 := eq_true q233
              have p234 : 0 ≤ (x6_1 : Int) := of_decide_eq_true (by first | (with_reducible assumption) | assumption)
              have q234 : x6_1 < (l0_6.length : Int) := of_decide_eq_true (by first | (with_reducible assumption) | assumption)
              obtain ⟨ad234, e234, hx234_0, hx234_1⟩ := at_T40 HR0_6.out x6_1 p234 q234
              obtain rfl : ad233 = ad234 := (by injection e234)
              replace hx234_0 := (HB.out.cell (World.block_lt_of_cell? w _ hx234_0)).trans hx234_0
              replace hx234_1 := (HB.out.cell (World.block_lt_of_cell? w _ hx234_1)).trans hx234_1
              replace p234 := eq_true p234
              replace q234 := eq_true q234
              go_wp2_with (first | ((with_reducible refine gate_builtin (b := .append) (xs := #[.tmp 22, .tmp 28]) rfl ?_); at_builtin; refine Kd.R_append k40 (w0 := w) w.heap.size rfl (.tmp 22) (.tmp 28) 23 40 (.agg #[(.int .u32 0), (.int .u32 0)]) 8 rfl Try.underlying23 info40 rfl (by decide) (by omega) u5 x5_1 (⟨(rd_T40 l0_6 x6_1).f0, (rd_T40 l0_6 x6_1).f1⟩ : S40) [.int .u32 ((rd_T40 l0_6 x6_1).f0), .int .u32 ((rd_T40 l0_6 x6_1).f1)] (fun _ => True) (fun _ => False) rfl rfl ?aP (fun _ hk => hk.elim) ?aF ?aO ?aB ?aS ?aL ?_; (case aP => exact k40_mkM _ _ _ (⟨(rd_T40 l0_6 x6_1).f0, (rd_T40 l0_6 x6_1).f1⟩ : S40)); (case aB => exact (by repeat (first | (with_reducible first | exact HB.out | apply below_alloc | apply pw_below_drewN | apply below_drew1 | refine below_set ?_ GE231.out | refine below_set ?_ GE232.out) | exact HB.out))); (case aF => exact (fun _ _ => trivial)); (case aO => exact (by (with_reducible repeat (first | apply Kd.R_alloc | apply Kd.R_drewN | apply Kd.R_drew)); exact HO_5.out)); (case aS => exact (below_size (by repeat (first | (with_reducible first | exact HB.out | apply below_alloc | apply pw_below_drewN | apply below_drew1 | refine below_set ?_ GE231.out | refine below_set ?_ GE232.out) | exact HB.out)))); (case aL => have := LMc10.out; omega); intro v236 w13 ho hb hg hat; rw [← Ny235.out] at ho; have n0_ := Aside0.mk (blk_grown (g := gb231) (o := .cells #[.int .u32 a0_0, .int .u32 a0_1, .int .u32 a0_2, .int .u32 a0_3, .bool a0_4, .bool a0_5, .slice (some ad233) l0_6.length c0_6] 25 (0, 0)) (by (with_reducible repeat (first | refine blk_drewN ?_ _ | refine blk_drew ?_ | refine blk_alloc ?_ _)); exact BK231.out) hg (Kd.R_ne HO_5.out BK231.out (by decide))); have n1_ := Aside0.mk (blk_grown (g := gb232) (o := .cells #[.int .u32 0, .int .u32 0, .int .u32 0, .int .u32 0, .bool false, .bool false, .slice none 0 0] 25 (0, 0)) (by (with_reducible repeat (first | refine blk_drewN ?_ _ | refine blk_drew ?_ | refine blk_alloc ?_ _)); exact BK232.out) hg (Kd.R_ne HO_5.out BK232.out (by decide))); have n2_ := Aside0.mk (hb); have n3_ := Aside0.mk (ho); clear BK231; clear BK232; clear HB; clear HO_5; have BK231 := n0_; have BK232 := n1_; have HB := n2_; have HO237 := n3_; clear n0_ n1_ n2_ n3_; clear ho hb hg hat))
              go_roundg k1
              case measure => have := HK1.out; omega
              case rel => exact ⟨(y235), (wrap64 (x6_1 + 1)), (by first | rfl | (simp; done) | (simp [*]; done)), H', ⟨by have := HK1.out; omega⟩, ⟨by (with_reducible repeat (first | apply Kd.R_alloc | apply Kd.R_drewN | apply Kd.R_drew)); exact HO237.out⟩, ⟨by (with_reducible repeat (first | refine blk_drewN ?_ _ | refine blk_drew ?_ | refine blk_alloc ?_ _)); exact BK231.out⟩, ⟨by (with_reducible repeat (first | refine blk_drewN ?_ _ | refine blk_drew ?_ | refine blk_alloc ?_ _)); exact BK232.out⟩, ⟨by repeat (first | (with_reducible first | exact HB.out | apply below_alloc | apply pw_below_drewN | apply below_drew1 | refine below_set ?_ GE231.out | refine below_set ?_ GE232.out) | exact HB.out)⟩⟩
            · rw [if_neg c10] at H
              exact absurd H (by simp)
        · rw [if_neg c6] at H
          exact absurd H (by simp)
      · rw [if_neg c5] at H
        have c5b0 : decide (x6_1 < (l0_6.length : Int)) = false := decide_eq_false c5
        clear c5
        simp only [Option.some.injEq, Prod.mk.injEq] at H
        obtain ⟨rfl, rfl, rfl, rfl, rfl, rfl, rfl⟩ := H
        have hnb14 := NB231_232.out
        have hnc14 := NB232_231.out
        have hcz15_0 : wr.cell? ⟨gb231, 0, none⟩ = some (.int .u32 a0_0) := (blk_cell BK231.out 0).trans rfl
        have hcz15_1 : wr.cell? ⟨gb231, 1, none⟩ = some (.int .u32 a0_1) := (blk_cell BK231.out 1).trans rfl
        have hcz15_2 : wr.cell? ⟨gb231, 2, none⟩ = some (.int .u32 a0_2) := (blk_cell BK231.out 2).trans rfl
        have hcz15_3 : wr.cell? ⟨gb231, 3, none⟩ = some (.int .u32 a0_3) := (blk_cell BK231.out 3).trans rfl
        have hcz15_4 : wr.cell? ⟨gb231, 4, none⟩ = some (.bool a0_4) := (blk_cell BK231.out 4).trans rfl
        have hcz15_5 : wr.cell? ⟨gb231, 5, none⟩ = some (.bool a0_5) := (blk_cell BK231.out 5).trans rfl
        have hcz15_6 : wr.cell? ⟨gb231, 6, none⟩ = some (.slice A0_6 l0_6.length c0_6) := (blk_cell BK231.out 6).trans rfl
        have hfz15_0 := blk_frozen BK231.out 0
        have hfz15_1 := blk_frozen BK231.out 1
        have hfz15_2 := blk_frozen BK231.out 2
        have hfz15_3 := blk_frozen BK231.out 3
        have hfz15_4 := blk_frozen BK231.out 4
        have hfz15_5 := blk_frozen BK231.out 5
        have hfz15_6 := blk_frozen BK231.out 6
        obtain ⟨Ao16, co16, eo16⟩ := Kd.R_slice HO_5.out
        subst eo16
        have hcz17_0 : wr.cell? ⟨gb232, 0, none⟩ = some (.int .u32 0) := (blk_cell BK232.out 0).trans rfl
        have hcz17_1 : wr.cell? ⟨gb232, 1, none⟩ = some (.int .u32 0) := (blk_cell BK232.out 1).trans rfl
        have hcz17_2 : wr.cell? ⟨gb232, 2, none⟩ = some (.int .u32 0) := (blk_cell BK232.out 2).trans rfl
        have hcz17_3 : wr.cell? ⟨gb232, 3, none⟩ = some (.int .u32 0) := (blk_cell BK232.out 3).trans rfl
        have hcz17_4 : wr.cell? ⟨gb232, 4, none⟩ = some (.bool false) := (blk_cell BK232.out 4).trans rfl
        have hcz17_5 : wr.cell? ⟨gb232, 5, none⟩ = some (.bool false) := (blk_cell BK232.out 5).trans rfl
        have hcz17_6 : wr.cell? ⟨gb232, 6, none⟩ = some (.slice none 0 0) := (blk_cell BK232.out 6).trans rfl
        have hfz17_0 := blk_frozen BK232.out 0
        have hfz17_1 := blk_frozen BK232.out 1
        have hfz17_2 := blk_frozen BK232.out 2
        have hfz17_3 := blk_frozen BK232.out 3
        have hfz17_4 := blk_frozen BK232.out 4
        have hfz17_5 := blk_frozen BK232.out 5
        have hfz17_6 := blk_frozen BK232.out 6
        go_wp2
        refine bodyPost_ret (results_cell_row rfl _ _ gb232 25 #[.int .u32 a0_0, .int .u32 a0_1, .int .u32 a0_2, .int .u32 a0_3, .bool a0_4, .bool a0_5, .slice Ao16 x5_1.length co16] (0, 0) _ rfl (by (with_reducible repeat (first | refine blk_drewN ?_ _ | refine blk_drew ?_ | refine blk_alloc ?_ _)); refine blk_put (cs := #[.int .u32 a0_0, .int .u32 a0_1, .int .u32 a0_2, .int .u32 a0_3, .bool a0_4, .bool a0_5, .slice none 0 0]) ?_ 6 _ rfl; (with_reducible repeat (first | refine blk_drewN ?_ _ | refine blk_drew ?_ | refine blk_alloc ?_ _)); refine blk_put (cs := #[.int .u32 a0_0, .int .u32 a0_1, .int .u32 a0_2, .int .u32 a0_3, .bool a0_4, .bool false, .slice none 0 0]) ?_ 5 _ rfl; (with_reducible repeat (first | refine blk_drewN ?_ _ | refine blk_drew ?_ | refine blk_alloc ?_ _)); refine blk_put (cs := #[.int .u32 a0_0, .int .u32 a0_1, .int .u32 a0_2, .int .u32 a0_3, .bool false, .bool false, .slice none 0 0]) ?_ 4 _ rfl; (with_reducible repeat (first | refine blk_drewN ?_ _ | refine blk_drew ?_ | refine blk_alloc ?_ _)); refine blk_put (cs := #[.int .u32 a0_0, .int .u32 a0_1, .int .u32 a0_2, .int .u32 0, .bool false, .bool false, .slice none 0 0]) ?_ 3 _ rfl; (with_reducible repeat (first | refine blk_drewN ?_ _ | refine blk_drew ?_ | refine blk_alloc ?_ _)); refine blk_put (cs := #[.int .u32 a0_0, .int .u32 a0_1, .int .u32 0, .int .u32 0, .bool false, .bool false, .slice none 0 0]) ?_ 2 _ rfl; (with_reducible repeat (first | refine blk_drewN ?_ _ | refine blk_drew ?_ | refine blk_alloc ?_ _)); refine blk_put (cs := #[.int .u32 a0_0, .int .u32 0, .int .u32 0, .int .u32 0, .bool false, .bool false, .slice none 0 0]) ?_ 1 _ rfl; (with_reducible repeat (first | refine blk_drewN ?_ _ | refine blk_drew ?_ | refine blk_alloc ?_ _)); refine blk_put (cs := #[.int .u32 0, .int .u32 0, .int .u32 0, .int .u32 0, .bool false, .bool false, .slice none 0 0]) ?_ 0 _ rfl; (with_reducible repeat (first | refine blk_drewN ?_ _ | refine blk_drew ?_ | refine blk_alloc ?_ _)); refine blk_far ?_ NB232_231.out _; (with_reducible repeat (first | refine blk_drewN ?_ _ | refine blk_drew ?_ | refine blk_alloc ?_ _)); exact BK232.out) Try.underlying25 rfl (by kernel_rfl)) rfl ?_
        exact ⟨_, by first | rfl | (simp [errW_none, errW_some] <;> rfl) | (simp [*, errW_none, errW_some] <;> rfl), by (with_reducible repeat (first | apply Kd.R_alloc | apply Kd.R_drewN | apply Kd.R_drew)); exact Kd.R_mono (Kd.R_far (p := ⟨gb232, 6, none⟩) (Kd.R_far (p := ⟨gb232, 5, none⟩) (Kd.R_far (p := ⟨gb232, 4, none⟩) (Kd.R_far (p := ⟨gb232, 3, none⟩) (Kd.R_far (p := ⟨gb232, 2, none⟩) (Kd.R_far (p := ⟨gb232, 1, none⟩) (Kd.R_far (p := ⟨gb232, 0, none⟩) (Kd.R_far (p := ⟨gb231, 6, none⟩) (Kd.R_types (Kd.R_types HO_5.out BK231.out (by decide)) BK232.out (by decide)) (fun _ hk => hk.1.2) (.slice Ao16 x5_1.length co16)) (fun _ hk => hk.2) (.int .u32 a0_0)) (fun _ hk => hk.2) (.int .u32 a0_1)) (fun _ hk => hk.2) (.int .u32 a0_2)) (fun _ hk => hk.2) (.int .u32 a0_3)) (fun _ hk => hk.2) (.bool a0_4)) (fun _ hk => hk.2) (.bool a0_5)) (fun _ hk => hk.2) (.slice Ao16 x5_1.length co16)) (fun _ hk => trivial), by repeat (first | (with_reducible first | exact HB.out | apply below_alloc | apply pw_below_drewN | apply below_drew1 | refine below_set ?_ GE231.out | refine below_set ?_ GE232.out) | exact HB.out)⟩

-- NOT PRINTED: function 29 (lamellaref12_Turn)

end Go.Proofs.Ytkcacfnefhakbaa.P12
