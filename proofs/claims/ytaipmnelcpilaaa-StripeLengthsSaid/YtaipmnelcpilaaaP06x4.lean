-- Written by a program of this session (wip/tools/printplus.py) over the kit's printer: some functions are given by hand.
import Derived.Test.YtaipmnelcpilaaaP06x0
import Derived.Test.YtaipmnelcpilaaaP06x2
import Derived.Test.YtaipmnelcpilaaaP06x3
import Derived.Test.YtaipmnelcpilaaaStripeGiven
namespace Go.Proofs.Ytaipmnelcpilaaa.P06
open Go.RowKit Go.Proofs.YtaipmnelcpilaaaW.PrintWords Go.Proofs.YtaipmnelcpilaaaW.PrintLast Go.Proofs.YtaipmnelcpilaaaW.PrintMore
attribute [local go_sem] max2_int min2_int max_two min_two max_three min_three max_four min_four   -- for this text's walks alone
set_option linter.unusedVariables false
set_option linter.unusedSimpArgs false

/-! ### lamellalaw06_StripeLengths: function 4 -/
def lamellalaw06_StripeLengths.j0 : Nat → Int → Int → Int → Int → Bool → Int → Int → Int → Option (Bool)
  | 0, _, _, _, _, _, _, _, _ => none
  | k + 1, x1, x2, x7, x8, x38, x158000, x158001, x158002 => if x38 = true then ((lamellalaw06_alive.f k).bind fun t162 => (if t162 = true then (if x7 = 0 then (some (x8 == 1)) else (some false)) else (some false))) else ((lamellalaw06_alive.f k).bind fun t163 => (if t163 = true then (if x8 = 0 then ((lamellaref06_Length.f k x158000 x158001 x158002 x1 x2).bind fun t164 => (some (x7 == t164))) else (some false)) else (some false)))
def lamellalaw06_StripeLengths.f (k : Nat) (a0_0 : Int) (a0_1 : Int) (a0_2 : Int) (a1 : Int) (a2 : Int) : Option (Bool) := (lamellalaw06_alive.f k).bind fun t158 => (if t158 = true then ((stripe_Length.f a0_0 a0_1 a0_2 a1 a2).bind fun bt159 => ((lamellaref06_Right.f a0_0 a0_1 a0_2).bind fun t161 => (if t161 = true then (if a1 < 1 then (lamellalaw06_StripeLengths.j0 k a1 a2 bt159.1 bt159.2 true a0_0 a0_1 a0_2) else (if a1 > a0_0 then (lamellalaw06_StripeLengths.j0 k a1 a2 bt159.1 bt159.2 true a0_0 a0_1 a0_2) else (if a2 < 0 then (lamellalaw06_StripeLengths.j0 k a1 a2 bt159.1 bt159.2 true a0_0 a0_1 a0_2) else (lamellalaw06_StripeLengths.j0 k a1 a2 bt159.1 bt159.2 (decide (a2 > 1024)) a0_0 a0_1 a0_2)))) else (lamellalaw06_StripeLengths.j0 k a1 a2 bt159.1 bt159.2 true a0_0 a0_1 a0_2)))) else (some false))
theorem lamellalaw06_StripeLengths.mono_l : ∀ k, (∀ y0 y1 y2 y3 y4 y5 y6 y7, LeO (lamellalaw06_StripeLengths.j0 k y0 y1 y2 y3 y4 y5 y6 y7) (lamellalaw06_StripeLengths.j0 (k + 1) y0 y1 y2 y3 y4 y5 y6 y7))
  | 0 => fun _ _ _ _ _ _ _ _ r h => by simp [lamellalaw06_StripeLengths.j0] at h
  | k + 1 => by
    have ih0 := lamellalaw06_StripeLengths.mono_l k
    · intro y0 y1 y2 y3 y4 y5 y6 y7
      unfold lamellalaw06_StripeLengths.j0
      repeat' first
      | (with_reducible exact ih0 _ _ _ _ _ _ _ _)
      | (with_reducible exact lamellalaw06_alive.mono _)
      | (with_reducible exact lamellaref06_Length.mono _ _ _ _ _ _)
      | (with_reducible exact LeO.refl _)
      | (with_reducible exact LeO.none _)
      | (with_reducible refine LeO.ite ?_ ?_)
      | (with_reducible refine LeO.bind ?_ (fun _ => ?_))
      | exact ih0 _ _ _ _ _ _ _ _
      | exact lamellalaw06_alive.mono _
      | exact lamellaref06_Length.mono _ _ _ _ _ _
      | exact LeO.none _
      | refine LeO.ite ?_ ?_
      | refine LeO.bind ?_ (fun _ => ?_)
theorem lamellalaw06_StripeLengths.mono : ∀ a0 a1 a2 a3 a4 k, LeO (lamellalaw06_StripeLengths.f k a0 a1 a2 a3 a4) (lamellalaw06_StripeLengths.f (k + 1) a0 a1 a2 a3 a4) := by
  intro a0 a1 a2 a3 a4 k
  have ih0 := lamellalaw06_StripeLengths.mono_l k
  unfold lamellalaw06_StripeLengths.f
  repeat' first
      | (with_reducible exact ih0 _ _ _ _ _ _ _ _)
      | (with_reducible exact lamellalaw06_alive.mono _)
      | (with_reducible exact lamellaref06_Length.mono _ _ _ _ _ _)
      | (with_reducible exact LeO.refl _)
      | (with_reducible exact LeO.none _)
      | (with_reducible refine LeO.ite ?_ ?_)
      | (with_reducible refine LeO.bind ?_ (fun _ => ?_))
      | exact ih0 _ _ _ _ _ _ _ _
      | exact lamellalaw06_alive.mono _
      | exact lamellaref06_Length.mono _ _ _ _ _ _
      | exact LeO.none _
      | refine LeO.ite ?_ ?_
      | refine LeO.bind ?_ (fun _ => ?_)
set_option maxHeartbeats 8000000 in
set_option maxRecDepth 100000 in
theorem lamellalaw06_StripeLengths.calls (k : Nat) (a0_0 : Int) (a0_1 : Int) (a0_2 : Int) (a1 : Int) (a2 : Int) (r : Bool) (w : World) (h : lamellalaw06_StripeLengths.f k a0_0 a0_1 a0_2 a1 a2 = some r) :
    Calls Try.prog 4 #[.agg #[.int .i64 a0_0, .int .i64 a0_1, .int .i64 a0_2], .int .i64 a1, .int .i64 a2] w fun e w' => e = .returned (.bool r) ∧ Below w.heap.size w w' := by
  have hu23 := Try.underlying23
  have HB := Aside0.mk (Below.refl w.heap.size w)
  have H : ((lamellalaw06_alive.f k).bind fun t158 => (if t158 = true then ((stripe_Length.f a0_0 a0_1 a0_2 a1 a2).bind fun bt159 => ((lamellaref06_Right.f a0_0 a0_1 a0_2).bind fun t161 => (if t161 = true then (if a1 < 1 then (lamellalaw06_StripeLengths.j0 k a1 a2 bt159.1 bt159.2 true a0_0 a0_1 a0_2) else (if a1 > a0_0 then (lamellalaw06_StripeLengths.j0 k a1 a2 bt159.1 bt159.2 true a0_0 a0_1 a0_2) else (if a2 < 0 then (lamellalaw06_StripeLengths.j0 k a1 a2 bt159.1 bt159.2 true a0_0 a0_1 a0_2) else (lamellalaw06_StripeLengths.j0 k a1 a2 bt159.1 bt159.2 (decide (a2 > 1024)) a0_0 a0_1 a0_2)))) else (lamellalaw06_StripeLengths.j0 k a1 a2 bt159.1 bt159.2 true a0_0 a0_1 a0_2)))) else (some false))) = some r := h
  clear h
  replace H := Option.bind_eq_some_iff.mp H
  obtain ⟨t158, A40, H⟩ := H
  replace H : (if t158 = true then ((stripe_Length.f a0_0 a0_1 a0_2 a1 a2).bind fun bt159 => ((lamellaref06_Right.f a0_0 a0_1 a0_2).bind fun t161 => (if t161 = true then (if a1 < 1 then (lamellalaw06_StripeLengths.j0 k a1 a2 bt159.1 bt159.2 true a0_0 a0_1 a0_2) else (if a1 > a0_0 then (lamellalaw06_StripeLengths.j0 k a1 a2 bt159.1 bt159.2 true a0_0 a0_1 a0_2) else (if a2 < 0 then (lamellalaw06_StripeLengths.j0 k a1 a2 bt159.1 bt159.2 true a0_0 a0_1 a0_2) else (lamellalaw06_StripeLengths.j0 k a1 a2 bt159.1 bt159.2 (decide (a2 > 1024)) a0_0 a0_1 a0_2)))) else (lamellalaw06_StripeLengths.j0 k a1 a2 bt159.1 bt159.2 true a0_0 a0_1 a0_2)))) else (some false)) = some r := H
  have A4 := Aside0.mk A40
  clear A40
  by_cases c5 : t158 = true
  · subst c5
    have H1 : ((stripe_Length.f a0_0 a0_1 a0_2 a1 a2).bind fun bt159 => ((lamellaref06_Right.f a0_0 a0_1 a0_2).bind fun t161 => (if t161 = true then (if a1 < 1 then (lamellalaw06_StripeLengths.j0 k a1 a2 bt159.1 bt159.2 true a0_0 a0_1 a0_2) else (if a1 > a0_0 then (lamellalaw06_StripeLengths.j0 k a1 a2 bt159.1 bt159.2 true a0_0 a0_1 a0_2) else (if a2 < 0 then (lamellalaw06_StripeLengths.j0 k a1 a2 bt159.1 bt159.2 true a0_0 a0_1 a0_2) else (lamellalaw06_StripeLengths.j0 k a1 a2 bt159.1 bt159.2 (decide (a2 > 1024)) a0_0 a0_1 a0_2)))) else (lamellalaw06_StripeLengths.j0 k a1 a2 bt159.1 bt159.2 true a0_0 a0_1 a0_2)))) = some r := by rw [if_pos rfl] at H; exact H
    clear H
    have H := H1
    clear H1
    replace H := Option.bind_eq_some_iff.mp H
    obtain ⟨⟨t159, t160⟩, A60, H⟩ := H
    replace H : ((lamellaref06_Right.f a0_0 a0_1 a0_2).bind fun t161 => (if t161 = true then (if a1 < 1 then (lamellalaw06_StripeLengths.j0 k a1 a2 t159 t160 true a0_0 a0_1 a0_2) else (if a1 > a0_0 then (lamellalaw06_StripeLengths.j0 k a1 a2 t159 t160 true a0_0 a0_1 a0_2) else (if a2 < 0 then (lamellalaw06_StripeLengths.j0 k a1 a2 t159 t160 true a0_0 a0_1 a0_2) else (lamellalaw06_StripeLengths.j0 k a1 a2 t159 t160 (decide (a2 > 1024)) a0_0 a0_1 a0_2)))) else (lamellalaw06_StripeLengths.j0 k a1 a2 t159 t160 true a0_0 a0_1 a0_2))) = some r := H
    have A6 := Aside0.mk A60
    clear A60
    have HC7 := Aside0.mk H
    clear H
    go_enter Try.func4, Try.ntmps4
    go_upto_region 4 with (first | ((with_reducible refine gate_dst (N := 3) rfl ?_); refine box_event ?hg (N := 3) ?hd (cs := #[.int .i64 a0_0, .int .i64 a0_1, .int .i64 a0_2]) (t := 23) ?hr ?_; (case hd => rfl); (case hg => rfl); (case hr => first | (go_simp; done) | (go_simp; rfl)); intro gb157 hg w8 hbox hb; have n0_ := Aside0.mk (below_step (by repeat (first | (with_reducible first | exact HB.out | apply below_alloc | apply pw_below_drewN | apply below_drew1) | exact HB.out)) hb); have n1_ := Aside0.mk (hbox); have n2_ := Aside0.mk ((by rw [hg]; exact (below_size (by repeat (first | (with_reducible first | exact HB.out | apply below_alloc | apply pw_below_drewN | apply below_drew1) | exact HB.out))) : w.heap.size ≤ gb157)); have n3_ := Aside0.mk ((by rw [hg]; exact (below_size (by repeat (first | (with_reducible first | exact HB.out | apply below_alloc | apply pw_below_drewN | apply below_drew1) | exact HB.out))) : w.heap.size ≤ gb157)); clear HB; have HB := n0_; have BK157 := n1_; have GW157 := n2_; have GE157 := n3_; clear n0_ n1_ n2_ n3_; clear hb hbox hg) | ((with_reducible refine gate_callee (f := 11) rfl ?_); refine goesL_ (some 9) rfl rfl Try.func11 (by kernel_rfl) rfl #[] rfl (by (try simp only [List.map_toArray, List.map_cons, List.map_nil]); first | done | rfl | (simp only [List.length_drop, List.length_take]; rfl)) ?_; (with_reducible refine (lamellalaw06_alive.calls k  true _ A4.out).mono ?_); rintro e w9 ⟨rfl, hb⟩; refine ⟨_, rfl, ?_⟩; have n0_ := Aside0.mk (blk_below (g := gb157) (o := .cells #[.int .i64 a0_0, .int .i64 a0_1, .int .i64 a0_2] 23 (0, 0)) (by (with_reducible repeat (first | refine blk_drewN ?_ _ | refine blk_drew ?_ | refine blk_alloc ?_ _)); exact BK157.out) hb); have n1_ := Aside0.mk (below_step (by repeat (first | (with_reducible first | exact HB.out | apply below_alloc | apply pw_below_drewN | apply below_drew1 | refine below_set ?_ GE157.out) | exact HB.out)) hb); clear BK157; clear HB; have BK157 := n0_; have HB := n1_; clear n0_ n1_; (try clear hb); (try clear hb2); (try clear hk); (try clear hi); have hcz10_0 : w9.cell? ⟨gb157, 0, none⟩ = some (.int .i64 a0_0) := (blk_cell BK157.out 0).trans rfl; have hcz10_1 : w9.cell? ⟨gb157, 1, none⟩ = some (.int .i64 a0_1) := (blk_cell BK157.out 1).trans rfl; have hcz10_2 : w9.cell? ⟨gb157, 2, none⟩ = some (.int .i64 a0_2) := (blk_cell BK157.out 2).trans rfl; have hfz10_0 := blk_frozen BK157.out 0; have hfz10_1 := blk_frozen BK157.out 1; have hfz10_2 := blk_frozen BK157.out 2) | ((with_reducible refine gate_callee (f := 17) rfl ?_); refine goesL_ (some 15) rfl rfl Try.func17 (by kernel_rfl) rfl #[.agg #[.int .i64 a0_0, .int .i64 a0_1, .int .i64 a0_2], .int .i64 a1, .int .i64 a2] rfl (by (try simp only [List.map_toArray, List.map_cons, List.map_nil]); first | done | rfl | (simp only [List.length_drop, List.length_take]; rfl)) ?_; (with_reducible refine (stripe_Length.calls a0_0 a0_1 a0_2 a1 a2 t159 t160 _ A6.out).mono ?_); rintro e w11 ⟨rfl, hb⟩; refine ⟨_, rfl, ?_⟩; have n0_ := Aside0.mk (blk_below (g := gb157) (o := .cells #[.int .i64 a0_0, .int .i64 a0_1, .int .i64 a0_2] 23 (0, 0)) (by (with_reducible repeat (first | refine blk_drewN ?_ _ | refine blk_drew ?_ | refine blk_alloc ?_ _)); exact BK157.out) hb); have n1_ := Aside0.mk (below_step (by repeat (first | (with_reducible first | exact HB.out | apply below_alloc | apply pw_below_drewN | apply below_drew1 | refine below_set ?_ GE157.out) | exact HB.out)) hb); clear BK157; clear HB; have BK157 := n0_; have HB := n1_; clear n0_ n1_; (try clear hb); (try clear hb2); (try clear hk); (try clear hi)))
    (try simp only [Act.put, List.setIfInBounds_toArray, List.set_cons_zero, List.set_cons_succ])
    go_cut [38] (fun v38 wc => ∃ (kq : Nat) (x38_6 : Bool), v38 = .bool x38_6 ∧ Aside0 (lamellalaw06_StripeLengths.j0 kq a1 a2 t159 t160 x38_6 a0_0 a0_1 a0_2 = some r) ∧ Aside0 (kq ≤ k) ∧ Aside0 (wc.heap[gb157]? = some (.cells #[.int .i64 a0_0, .int .i64 a0_1, .int .i64 a0_2] 23 (0, 0))) ∧ Aside0 (Below w.heap.size w wc))
    case first =>
      have H := HC7.out
      clear HC7
      replace H := Option.bind_eq_some_iff.mp H
      obtain ⟨t161, A120, H⟩ := H
      replace H : (if t161 = true then (if a1 < 1 then (lamellalaw06_StripeLengths.j0 k a1 a2 t159 t160 true a0_0 a0_1 a0_2) else (if a1 > a0_0 then (lamellalaw06_StripeLengths.j0 k a1 a2 t159 t160 true a0_0 a0_1 a0_2) else (if a2 < 0 then (lamellalaw06_StripeLengths.j0 k a1 a2 t159 t160 true a0_0 a0_1 a0_2) else (lamellalaw06_StripeLengths.j0 k a1 a2 t159 t160 (decide (a2 > 1024)) a0_0 a0_1 a0_2)))) else (lamellalaw06_StripeLengths.j0 k a1 a2 t159 t160 true a0_0 a0_1 a0_2)) = some r := H
      have A12 := Aside0.mk A120
      clear A120
      by_cases c13 : t161 = true
      · subst c13
        have H1 : (if a1 < 1 then (lamellalaw06_StripeLengths.j0 k a1 a2 t159 t160 true a0_0 a0_1 a0_2) else (if a1 > a0_0 then (lamellalaw06_StripeLengths.j0 k a1 a2 t159 t160 true a0_0 a0_1 a0_2) else (if a2 < 0 then (lamellalaw06_StripeLengths.j0 k a1 a2 t159 t160 true a0_0 a0_1 a0_2) else (lamellalaw06_StripeLengths.j0 k a1 a2 t159 t160 (decide (a2 > 1024)) a0_0 a0_1 a0_2)))) = some r := by rw [if_pos rfl] at H; exact H
        clear H
        have H := H1
        clear H1
        by_cases c14 : a1 < 1
        · rw [if_pos c14] at H
          have c14b0 : decide (a1 < 1) = true := decide_eq_true c14
          clear c14
          (first | rw [c14b0] | (simp only [i64_w, i32_w]; rw [c14b0]) | skip)
          have H' := Aside0.mk H
          clear H
          have hcz15_0 : w11.cell? ⟨gb157, 0, none⟩ = some (.int .i64 a0_0) := (blk_cell BK157.out 0).trans rfl
          have hcz15_1 : w11.cell? ⟨gb157, 1, none⟩ = some (.int .i64 a0_1) := (blk_cell BK157.out 1).trans rfl
          have hcz15_2 : w11.cell? ⟨gb157, 2, none⟩ = some (.int .i64 a0_2) := (blk_cell BK157.out 2).trans rfl
          have hfz15_0 := blk_frozen BK157.out 0
          have hfz15_1 := blk_frozen BK157.out 1
          have hfz15_2 := blk_frozen BK157.out 2
          go_wp2_with (first | ((with_reducible refine gate_callee (f := 13) rfl ?_); refine goesL_ (some 19) rfl rfl Try.func13 (by kernel_rfl) rfl #[.agg #[.int .i64 a0_0, .int .i64 a0_1, .int .i64 a0_2]] rfl (by (try simp only [List.map_toArray, List.map_cons, List.map_nil]); first | done | rfl | (simp only [List.length_drop, List.length_take]; rfl)) ?_; (with_reducible refine (lamellaref06_Right.calls a0_0 a0_1 a0_2 true _ A12.out).mono ?_); rintro e w16 ⟨rfl, hb⟩; refine ⟨_, rfl, ?_⟩; have n0_ := Aside0.mk (blk_below (g := gb157) (o := .cells #[.int .i64 a0_0, .int .i64 a0_1, .int .i64 a0_2] 23 (0, 0)) (by (with_reducible repeat (first | refine blk_drewN ?_ _ | refine blk_drew ?_ | refine blk_alloc ?_ _)); exact BK157.out) hb); have n1_ := Aside0.mk (below_step (by repeat (first | (with_reducible first | exact HB.out | apply below_alloc | apply pw_below_drewN | apply below_drew1 | refine below_set ?_ GE157.out) | exact HB.out)) hb); clear BK157; clear HB; have BK157 := n0_; have HB := n1_; clear n0_ n1_; (try clear hb); (try clear hb2); (try clear hk); (try clear hi)))
          go_meet
          case rel => exact ⟨_, (true), (by first | rfl | (simp; done) | (simp [*]; done)), H', ⟨by first | omega | exact Nat.le_refl _⟩, ⟨by (with_reducible repeat (first | refine blk_drewN ?_ _ | refine blk_drew ?_ | refine blk_alloc ?_ _)); exact BK157.out⟩, ⟨by repeat (first | (with_reducible first | exact HB.out | apply below_alloc | apply pw_below_drewN | apply below_drew1 | refine below_set ?_ GE157.out) | exact HB.out)⟩⟩
        · rw [if_neg c14] at H
          have c14b0 : decide (a1 < 1) = false := decide_eq_false c14
          clear c14
          (first | rw [c14b0] | (simp only [i64_w, i32_w]; rw [c14b0]) | skip)
          by_cases c17 : a1 > a0_0
          · rw [if_pos c17] at H
            have c17b0 : decide (a0_0 < a1) = true := decide_eq_true c17
            clear c17
            have H' := Aside0.mk H
            clear H
            have hcz18_0 : w11.cell? ⟨gb157, 0, none⟩ = some (.int .i64 a0_0) := (blk_cell BK157.out 0).trans rfl
            have hcz18_1 : w11.cell? ⟨gb157, 1, none⟩ = some (.int .i64 a0_1) := (blk_cell BK157.out 1).trans rfl
            have hcz18_2 : w11.cell? ⟨gb157, 2, none⟩ = some (.int .i64 a0_2) := (blk_cell BK157.out 2).trans rfl
            have hfz18_0 := blk_frozen BK157.out 0
            have hfz18_1 := blk_frozen BK157.out 1
            have hfz18_2 := blk_frozen BK157.out 2
            go_wp2_with (first | ((with_reducible refine gate_callee (f := 13) rfl ?_); refine goesL_ (some 19) rfl rfl Try.func13 (by kernel_rfl) rfl #[.agg #[.int .i64 a0_0, .int .i64 a0_1, .int .i64 a0_2]] rfl (by (try simp only [List.map_toArray, List.map_cons, List.map_nil]); first | done | rfl | (simp only [List.length_drop, List.length_take]; rfl)) ?_; (with_reducible refine (lamellaref06_Right.calls a0_0 a0_1 a0_2 true _ A12.out).mono ?_); rintro e w19 ⟨rfl, hb⟩; refine ⟨_, rfl, ?_⟩; have n0_ := Aside0.mk (blk_below (g := gb157) (o := .cells #[.int .i64 a0_0, .int .i64 a0_1, .int .i64 a0_2] 23 (0, 0)) (by (with_reducible repeat (first | refine blk_drewN ?_ _ | refine blk_drew ?_ | refine blk_alloc ?_ _)); exact BK157.out) hb); have n1_ := Aside0.mk (below_step (by repeat (first | (with_reducible first | exact HB.out | apply below_alloc | apply pw_below_drewN | apply below_drew1 | refine below_set ?_ GE157.out) | exact HB.out)) hb); clear BK157; clear HB; have BK157 := n0_; have HB := n1_; clear n0_ n1_; (try clear hb); (try clear hb2); (try clear hk); (try clear hi); have hcz20_0 : w19.cell? ⟨gb157, 0, none⟩ = some (.int .i64 a0_0) := (blk_cell BK157.out 0).trans rfl; have hcz20_1 : w19.cell? ⟨gb157, 1, none⟩ = some (.int .i64 a0_1) := (blk_cell BK157.out 1).trans rfl; have hcz20_2 : w19.cell? ⟨gb157, 2, none⟩ = some (.int .i64 a0_2) := (blk_cell BK157.out 2).trans rfl; have hfz20_0 := blk_frozen BK157.out 0; have hfz20_1 := blk_frozen BK157.out 1; have hfz20_2 := blk_frozen BK157.out 2))
            go_meet
            case rel => exact ⟨_, (true), (by first | rfl | (simp; done) | (simp [*]; done)), H', ⟨by first | omega | exact Nat.le_refl _⟩, ⟨by (with_reducible repeat (first | refine blk_drewN ?_ _ | refine blk_drew ?_ | refine blk_alloc ?_ _)); exact BK157.out⟩, ⟨by repeat (first | (with_reducible first | exact HB.out | apply below_alloc | apply pw_below_drewN | apply below_drew1 | refine below_set ?_ GE157.out) | exact HB.out)⟩⟩
          · rw [if_neg c17] at H
            have c17b0 : decide (a0_0 < a1) = false := decide_eq_false c17
            clear c17
            by_cases c21 : a2 < 0
            · rw [if_pos c21] at H
              have c21b0 : decide (a2 < 0) = true := decide_eq_true c21
              clear c21
              have H' := Aside0.mk H
              clear H
              have hcz22_0 : w11.cell? ⟨gb157, 0, none⟩ = some (.int .i64 a0_0) := (blk_cell BK157.out 0).trans rfl
              have hcz22_1 : w11.cell? ⟨gb157, 1, none⟩ = some (.int .i64 a0_1) := (blk_cell BK157.out 1).trans rfl
              have hcz22_2 : w11.cell? ⟨gb157, 2, none⟩ = some (.int .i64 a0_2) := (blk_cell BK157.out 2).trans rfl
              have hfz22_0 := blk_frozen BK157.out 0
              have hfz22_1 := blk_frozen BK157.out 1
              have hfz22_2 := blk_frozen BK157.out 2
              go_wp2_with (first | ((with_reducible refine gate_callee (f := 13) rfl ?_); refine goesL_ (some 19) rfl rfl Try.func13 (by kernel_rfl) rfl #[.agg #[.int .i64 a0_0, .int .i64 a0_1, .int .i64 a0_2]] rfl (by (try simp only [List.map_toArray, List.map_cons, List.map_nil]); first | done | rfl | (simp only [List.length_drop, List.length_take]; rfl)) ?_; (with_reducible refine (lamellaref06_Right.calls a0_0 a0_1 a0_2 true _ A12.out).mono ?_); rintro e w23 ⟨rfl, hb⟩; refine ⟨_, rfl, ?_⟩; have n0_ := Aside0.mk (blk_below (g := gb157) (o := .cells #[.int .i64 a0_0, .int .i64 a0_1, .int .i64 a0_2] 23 (0, 0)) (by (with_reducible repeat (first | refine blk_drewN ?_ _ | refine blk_drew ?_ | refine blk_alloc ?_ _)); exact BK157.out) hb); have n1_ := Aside0.mk (below_step (by repeat (first | (with_reducible first | exact HB.out | apply below_alloc | apply pw_below_drewN | apply below_drew1 | refine below_set ?_ GE157.out) | exact HB.out)) hb); clear BK157; clear HB; have BK157 := n0_; have HB := n1_; clear n0_ n1_; (try clear hb); (try clear hb2); (try clear hk); (try clear hi); have hcz24_0 : w23.cell? ⟨gb157, 0, none⟩ = some (.int .i64 a0_0) := (blk_cell BK157.out 0).trans rfl; have hcz24_1 : w23.cell? ⟨gb157, 1, none⟩ = some (.int .i64 a0_1) := (blk_cell BK157.out 1).trans rfl; have hcz24_2 : w23.cell? ⟨gb157, 2, none⟩ = some (.int .i64 a0_2) := (blk_cell BK157.out 2).trans rfl; have hfz24_0 := blk_frozen BK157.out 0; have hfz24_1 := blk_frozen BK157.out 1; have hfz24_2 := blk_frozen BK157.out 2))
              go_meet
              case rel => exact ⟨_, (true), (by first | rfl | (simp; done) | (simp [*]; done)), H', ⟨by first | omega | exact Nat.le_refl _⟩, ⟨by (with_reducible repeat (first | refine blk_drewN ?_ _ | refine blk_drew ?_ | refine blk_alloc ?_ _)); exact BK157.out⟩, ⟨by repeat (first | (with_reducible first | exact HB.out | apply below_alloc | apply pw_below_drewN | apply below_drew1 | refine below_set ?_ GE157.out) | exact HB.out)⟩⟩
            · rw [if_neg c21] at H
              have c21b0 : decide (a2 < 0) = false := decide_eq_false c21
              clear c21
              have H' := Aside0.mk H
              clear H
              have hcz25_0 : w11.cell? ⟨gb157, 0, none⟩ = some (.int .i64 a0_0) := (blk_cell BK157.out 0).trans rfl
              have hcz25_1 : w11.cell? ⟨gb157, 1, none⟩ = some (.int .i64 a0_1) := (blk_cell BK157.out 1).trans rfl
              have hcz25_2 : w11.cell? ⟨gb157, 2, none⟩ = some (.int .i64 a0_2) := (blk_cell BK157.out 2).trans rfl
              have hfz25_0 := blk_frozen BK157.out 0
              have hfz25_1 := blk_frozen BK157.out 1
              have hfz25_2 := blk_frozen BK157.out 2
              go_wp2_with (first | ((with_reducible refine gate_callee (f := 13) rfl ?_); refine goesL_ (some 19) rfl rfl Try.func13 (by kernel_rfl) rfl #[.agg #[.int .i64 a0_0, .int .i64 a0_1, .int .i64 a0_2]] rfl (by (try simp only [List.map_toArray, List.map_cons, List.map_nil]); first | done | rfl | (simp only [List.length_drop, List.length_take]; rfl)) ?_; (with_reducible refine (lamellaref06_Right.calls a0_0 a0_1 a0_2 true _ A12.out).mono ?_); rintro e w26 ⟨rfl, hb⟩; refine ⟨_, rfl, ?_⟩; have n0_ := Aside0.mk (blk_below (g := gb157) (o := .cells #[.int .i64 a0_0, .int .i64 a0_1, .int .i64 a0_2] 23 (0, 0)) (by (with_reducible repeat (first | refine blk_drewN ?_ _ | refine blk_drew ?_ | refine blk_alloc ?_ _)); exact BK157.out) hb); have n1_ := Aside0.mk (below_step (by repeat (first | (with_reducible first | exact HB.out | apply below_alloc | apply pw_below_drewN | apply below_drew1 | refine below_set ?_ GE157.out) | exact HB.out)) hb); clear BK157; clear HB; have BK157 := n0_; have HB := n1_; clear n0_ n1_; (try clear hb); (try clear hb2); (try clear hk); (try clear hi); have hcz27_0 : w26.cell? ⟨gb157, 0, none⟩ = some (.int .i64 a0_0) := (blk_cell BK157.out 0).trans rfl; have hcz27_1 : w26.cell? ⟨gb157, 1, none⟩ = some (.int .i64 a0_1) := (blk_cell BK157.out 1).trans rfl; have hcz27_2 : w26.cell? ⟨gb157, 2, none⟩ = some (.int .i64 a0_2) := (blk_cell BK157.out 2).trans rfl; have hfz27_0 := blk_frozen BK157.out 0; have hfz27_1 := blk_frozen BK157.out 1; have hfz27_2 := blk_frozen BK157.out 2))
              go_meet
              case rel => exact ⟨_, (decide (a2 > 1024)), (by first | rfl | (simp; done) | (simp [*]; done)), H', ⟨by first | omega | exact Nat.le_refl _⟩, ⟨by (with_reducible repeat (first | refine blk_drewN ?_ _ | refine blk_drew ?_ | refine blk_alloc ?_ _)); exact BK157.out⟩, ⟨by repeat (first | (with_reducible first | exact HB.out | apply below_alloc | apply pw_below_drewN | apply below_drew1 | refine below_set ?_ GE157.out) | exact HB.out)⟩⟩
      · replace c13 := Bool.eq_false_iff.mpr c13
        subst c13
        have H1 : (lamellalaw06_StripeLengths.j0 k a1 a2 t159 t160 true a0_0 a0_1 a0_2) = some r := by rw [if_neg (show ¬ (false = true) by decide)] at H; exact H
        clear H
        have H := H1
        clear H1
        have H' := Aside0.mk H
        clear H
        have hcz28_0 : w11.cell? ⟨gb157, 0, none⟩ = some (.int .i64 a0_0) := (blk_cell BK157.out 0).trans rfl
        have hcz28_1 : w11.cell? ⟨gb157, 1, none⟩ = some (.int .i64 a0_1) := (blk_cell BK157.out 1).trans rfl
        have hcz28_2 : w11.cell? ⟨gb157, 2, none⟩ = some (.int .i64 a0_2) := (blk_cell BK157.out 2).trans rfl
        have hfz28_0 := blk_frozen BK157.out 0
        have hfz28_1 := blk_frozen BK157.out 1
        have hfz28_2 := blk_frozen BK157.out 2
        go_wp2_with (first | ((with_reducible refine gate_callee (f := 13) rfl ?_); refine goesL_ (some 19) rfl rfl Try.func13 (by kernel_rfl) rfl #[.agg #[.int .i64 a0_0, .int .i64 a0_1, .int .i64 a0_2]] rfl (by (try simp only [List.map_toArray, List.map_cons, List.map_nil]); first | done | rfl | (simp only [List.length_drop, List.length_take]; rfl)) ?_; (with_reducible refine (lamellaref06_Right.calls a0_0 a0_1 a0_2 false _ A12.out).mono ?_); rintro e w29 ⟨rfl, hb⟩; refine ⟨_, rfl, ?_⟩; have n0_ := Aside0.mk (blk_below (g := gb157) (o := .cells #[.int .i64 a0_0, .int .i64 a0_1, .int .i64 a0_2] 23 (0, 0)) (by (with_reducible repeat (first | refine blk_drewN ?_ _ | refine blk_drew ?_ | refine blk_alloc ?_ _)); exact BK157.out) hb); have n1_ := Aside0.mk (below_step (by repeat (first | (with_reducible first | exact HB.out | apply below_alloc | apply pw_below_drewN | apply below_drew1 | refine below_set ?_ GE157.out) | exact HB.out)) hb); clear BK157; clear HB; have BK157 := n0_; have HB := n1_; clear n0_ n1_; (try clear hb); (try clear hb2); (try clear hk); (try clear hi)))
        go_meet
        case rel => exact ⟨_, (true), (by first | rfl | (simp; done) | (simp [*]; done)), H', ⟨by first | omega | exact Nat.le_refl _⟩, ⟨by (with_reducible repeat (first | refine blk_drewN ?_ _ | refine blk_drew ?_ | refine blk_alloc ?_ _)); exact BK157.out⟩, ⟨by repeat (first | (with_reducible first | exact HB.out | apply below_alloc | apply pw_below_drewN | apply below_drew1 | refine below_set ?_ GE157.out) | exact HB.out)⟩⟩
    case rest =>
      clear HC7
      try clear c1
      try clear c2
      try clear p2
      try clear c4
      try clear c5
      try clear c11
      try clear c13
      try clear c14
      try clear c14b0
      try clear c17
      try clear c17b0
      try clear c21
      try clear c21b0
      try clear hcz10_0
      try clear hcz10_1
      try clear hcz10_2
      try clear hcz15_0
      try clear hcz15_1
      try clear hcz15_2
      try clear hcz18_0
      try clear hcz18_1
      try clear hcz18_2
      try clear hcz20_0
      try clear hcz20_1
      try clear hcz20_2
      try clear hcz22_0
      try clear hcz22_1
      try clear hcz22_2
      try clear hcz24_0
      try clear hcz24_1
      try clear hcz24_2
      try clear hcz25_0
      try clear hcz25_1
      try clear hcz25_2
      try clear hcz27_0
      try clear hcz27_1
      try clear hcz27_2
      try clear hcz28_0
      try clear hcz28_1
      try clear hcz28_2
      try clear hfz10_0
      try clear hfz10_1
      try clear hfz10_2
      try clear hfz15_0
      try clear hfz15_1
      try clear hfz15_2
      try clear hfz18_0
      try clear hfz18_1
      try clear hfz18_2
      try clear hfz20_0
      try clear hfz20_1
      try clear hfz20_2
      try clear hfz22_0
      try clear hfz22_1
      try clear hfz22_2
      try clear hfz24_0
      try clear hfz24_1
      try clear hfz24_2
      try clear hfz25_0
      try clear hfz25_1
      try clear hfz25_2
      try clear hfz27_0
      try clear hfz27_1
      try clear hfz27_2
      try clear hfz28_0
      try clear hfz28_1
      try clear hfz28_2
      obtain ⟨kq, x38_6, rfl, HA, HJ6, BK157, HB⟩ := hcut
      cases kq with
      | zero => exact absurd HA.out (by simp [lamellalaw06_StripeLengths.j0])
      | succ kj6 =>
        have H := HA.out
        clear HA
        simp only [lamellalaw06_StripeLengths.j0] at H
        by_cases c30 : x38_6 = true
        · subst c30
          have H1 : ((lamellalaw06_alive.f kj6).bind fun t162 => (if t162 = true then (if t159 = 0 then (some (t160 == 1)) else (some false)) else (some false))) = some r := by rw [if_pos rfl] at H; exact H
          clear H
          have H := H1
          clear H1
          replace H := Option.bind_eq_some_iff.mp H
          obtain ⟨t162, A310, H⟩ := H
          replace H : (if t162 = true then (if t159 = 0 then (some (t160 == 1)) else (some false)) else (some false)) = some r := H
          have A31 := Aside0.mk A310
          clear A310
          by_cases c32 : t162 = true
          · subst c32
            have H1 : (if t159 = 0 then (some (t160 == 1)) else (some false)) = some r := by rw [if_pos rfl] at H; exact H
            clear H
            have H := H1
            clear H1
            by_cases c33 : t159 = 0
            · rw [if_pos c33] at H
              have c33b0 : (t159 == 0) = true := beq_iff_eq.mpr c33
              have c33b1 : (t159 != 0) = false := bne_eq_false_iff_eq.mpr c33
              clear c33
              obtain rfl := Option.some.inj H
              go_wp2_with (first | ((with_reducible refine gate_callee (f := 11) rfl ?_); refine goesL_ (some 39) rfl rfl Try.func11 (by kernel_rfl) rfl #[] rfl (by (try simp only [List.map_toArray, List.map_cons, List.map_nil]); first | done | rfl | (simp only [List.length_drop, List.length_take]; rfl)) ?_; (with_reducible refine (lamellalaw06_alive.calls kj6  true _ A31.out).mono ?_); rintro e w34 ⟨rfl, hb⟩; refine ⟨_, rfl, ?_⟩; have n0_ := Aside0.mk (blk_below (g := gb157) (o := .cells #[.int .i64 a0_0, .int .i64 a0_1, .int .i64 a0_2] 23 (0, 0)) (by (with_reducible repeat (first | refine blk_drewN ?_ _ | refine blk_drew ?_ | refine blk_alloc ?_ _)); exact BK157.out) hb); have n1_ := Aside0.mk (below_step (by repeat (first | (with_reducible first | exact HB.out | apply below_alloc | apply pw_below_drewN | apply below_drew1 | refine below_set ?_ GE157.out) | exact HB.out)) hb); clear BK157; clear HB; have BK157 := n0_; have HB := n1_; clear n0_ n1_; (try clear hb); (try clear hb2); (try clear hk); (try clear hi)))
              go_ret
              exact ⟨by first | rfl | (simp [errW_none, errW_some] <;> rfl) | (simp [*, errW_none, errW_some] <;> rfl), by repeat (first | (with_reducible first | exact HB.out | apply below_alloc | apply pw_below_drewN | apply below_drew1 | refine below_set ?_ GE157.out) | exact HB.out)⟩
            · rw [if_neg c33] at H
              have c33b0 : (t159 == 0) = false := beq_eq_false_iff_ne.mpr c33
              have c33b1 : (t159 != 0) = true := bne_iff_ne.mpr c33
              obtain rfl := Option.some.inj H
              go_wp2_with (first | ((with_reducible refine gate_callee (f := 11) rfl ?_); refine goesL_ (some 39) rfl rfl Try.func11 (by kernel_rfl) rfl #[] rfl (by (try simp only [List.map_toArray, List.map_cons, List.map_nil]); first | done | rfl | (simp only [List.length_drop, List.length_take]; rfl)) ?_; (with_reducible refine (lamellalaw06_alive.calls kj6  true _ A31.out).mono ?_); rintro e w35 ⟨rfl, hb⟩; refine ⟨_, rfl, ?_⟩; have n0_ := Aside0.mk (blk_below (g := gb157) (o := .cells #[.int .i64 a0_0, .int .i64 a0_1, .int .i64 a0_2] 23 (0, 0)) (by (with_reducible repeat (first | refine blk_drewN ?_ _ | refine blk_drew ?_ | refine blk_alloc ?_ _)); exact BK157.out) hb); have n1_ := Aside0.mk (below_step (by repeat (first | (with_reducible first | exact HB.out | apply below_alloc | apply pw_below_drewN | apply below_drew1 | refine below_set ?_ GE157.out) | exact HB.out)) hb); clear BK157; clear HB; have BK157 := n0_; have HB := n1_; clear n0_ n1_; (try clear hb); (try clear hb2); (try clear hk); (try clear hi)))
              go_ret
              exact ⟨by first | rfl | (simp [errW_none, errW_some] <;> rfl) | (simp [*, errW_none, errW_some] <;> rfl), by repeat (first | (with_reducible first | exact HB.out | apply below_alloc | apply pw_below_drewN | apply below_drew1 | refine below_set ?_ GE157.out) | exact HB.out)⟩
          · replace c32 := Bool.eq_false_iff.mpr c32
            subst c32
            have H1 : (some false) = some r := by rw [if_neg (show ¬ (false = true) by decide)] at H; exact H
            clear H
            have H := H1
            clear H1
            obtain rfl := Option.some.inj H
            go_wp2_with (first | ((with_reducible refine gate_callee (f := 11) rfl ?_); refine goesL_ (some 39) rfl rfl Try.func11 (by kernel_rfl) rfl #[] rfl (by (try simp only [List.map_toArray, List.map_cons, List.map_nil]); first | done | rfl | (simp only [List.length_drop, List.length_take]; rfl)) ?_; (with_reducible refine (lamellalaw06_alive.calls kj6  false _ A31.out).mono ?_); rintro e w36 ⟨rfl, hb⟩; refine ⟨_, rfl, ?_⟩; have n0_ := Aside0.mk (blk_below (g := gb157) (o := .cells #[.int .i64 a0_0, .int .i64 a0_1, .int .i64 a0_2] 23 (0, 0)) (by (with_reducible repeat (first | refine blk_drewN ?_ _ | refine blk_drew ?_ | refine blk_alloc ?_ _)); exact BK157.out) hb); have n1_ := Aside0.mk (below_step (by repeat (first | (with_reducible first | exact HB.out | apply below_alloc | apply pw_below_drewN | apply below_drew1 | refine below_set ?_ GE157.out) | exact HB.out)) hb); clear BK157; clear HB; have BK157 := n0_; have HB := n1_; clear n0_ n1_; (try clear hb); (try clear hb2); (try clear hk); (try clear hi)))
            go_ret
            exact ⟨by first | rfl | (simp [errW_none, errW_some] <;> rfl) | (simp [*, errW_none, errW_some] <;> rfl), by repeat (first | (with_reducible first | exact HB.out | apply below_alloc | apply pw_below_drewN | apply below_drew1 | refine below_set ?_ GE157.out) | exact HB.out)⟩
        · replace c30 := Bool.eq_false_iff.mpr c30
          subst c30
          have H1 : ((lamellalaw06_alive.f kj6).bind fun t163 => (if t163 = true then (if t160 = 0 then ((lamellaref06_Length.f kj6 a0_0 a0_1 a0_2 a1 a2).bind fun t164 => (some (t159 == t164))) else (some false)) else (some false))) = some r := by rw [if_neg (show ¬ (false = true) by decide)] at H; exact H
          clear H
          have H := H1
          clear H1
          replace H := Option.bind_eq_some_iff.mp H
          obtain ⟨t163, A370, H⟩ := H
          replace H : (if t163 = true then (if t160 = 0 then ((lamellaref06_Length.f kj6 a0_0 a0_1 a0_2 a1 a2).bind fun t164 => (some (t159 == t164))) else (some false)) else (some false)) = some r := H
          have A37 := Aside0.mk A370
          clear A370
          by_cases c38 : t163 = true
          · subst c38
            have H1 : (if t160 = 0 then ((lamellaref06_Length.f kj6 a0_0 a0_1 a0_2 a1 a2).bind fun t164 => (some (t159 == t164))) else (some false)) = some r := by rw [if_pos rfl] at H; exact H
            clear H
            have H := H1
            clear H1
            by_cases c39 : t160 = 0
            · rw [if_pos c39] at H
              have c39b0 : (t160 == 0) = true := beq_iff_eq.mpr c39
              have c39b1 : (t160 != 0) = false := bne_eq_false_iff_eq.mpr c39
              clear c39
              replace H := Option.bind_eq_some_iff.mp H
              obtain ⟨t164, A400, H⟩ := H
              replace H : (some (t159 == t164)) = some r := H
              have A40 := Aside0.mk A400
              clear A400
              obtain rfl := Option.some.inj H
              go_wp2_with (first | ((with_reducible refine gate_callee (f := 11) rfl ?_); refine goesL_ (some 48) rfl rfl Try.func11 (by kernel_rfl) rfl #[] rfl (by (try simp only [List.map_toArray, List.map_cons, List.map_nil]); first | done | rfl | (simp only [List.length_drop, List.length_take]; rfl)) ?_; (with_reducible refine (lamellalaw06_alive.calls kj6  true _ A37.out).mono ?_); rintro e w41 ⟨rfl, hb⟩; refine ⟨_, rfl, ?_⟩; have n0_ := Aside0.mk (blk_below (g := gb157) (o := .cells #[.int .i64 a0_0, .int .i64 a0_1, .int .i64 a0_2] 23 (0, 0)) (by (with_reducible repeat (first | refine blk_drewN ?_ _ | refine blk_drew ?_ | refine blk_alloc ?_ _)); exact BK157.out) hb); have n1_ := Aside0.mk (below_step (by repeat (first | (with_reducible first | exact HB.out | apply below_alloc | apply pw_below_drewN | apply below_drew1 | refine below_set ?_ GE157.out) | exact HB.out)) hb); clear BK157; clear HB; have BK157 := n0_; have HB := n1_; clear n0_ n1_; (try clear hb); (try clear hb2); (try clear hk); (try clear hi); have hcz42_0 : w41.cell? ⟨gb157, 0, none⟩ = some (.int .i64 a0_0) := (blk_cell BK157.out 0).trans rfl; have hcz42_1 : w41.cell? ⟨gb157, 1, none⟩ = some (.int .i64 a0_1) := (blk_cell BK157.out 1).trans rfl; have hcz42_2 : w41.cell? ⟨gb157, 2, none⟩ = some (.int .i64 a0_2) := (blk_cell BK157.out 2).trans rfl; have hfz42_0 := blk_frozen BK157.out 0; have hfz42_1 := blk_frozen BK157.out 1; have hfz42_2 := blk_frozen BK157.out 2) | (go_at_call 18; (with_reducible refine (lamellaref06_Length.calls kj6 a0_0 a0_1 a0_2 a1 a2 t164 _ A40.out).mono ?_); rintro e w43 ⟨rfl, hb⟩; have n0_ := Aside0.mk (blk_below (g := gb157) (o := .cells #[.int .i64 a0_0, .int .i64 a0_1, .int .i64 a0_2] 23 (0, 0)) (by (with_reducible repeat (first | refine blk_drewN ?_ _ | refine blk_drew ?_ | refine blk_alloc ?_ _)); exact BK157.out) hb); have n1_ := Aside0.mk (below_step (by repeat (first | (with_reducible first | exact HB.out | apply below_alloc | apply pw_below_drewN | apply below_drew1 | refine below_set ?_ GE157.out) | exact HB.out)) hb); clear BK157; clear HB; have BK157 := n0_; have HB := n1_; clear n0_ n1_; (try clear hb); (try clear hb2); (try clear hk); (try clear hi)))
              go_ret
              exact ⟨by first | rfl | (simp [errW_none, errW_some] <;> rfl) | (simp [*, errW_none, errW_some] <;> rfl), by repeat (first | (with_reducible first | exact HB.out | apply below_alloc | apply pw_below_drewN | apply below_drew1 | refine below_set ?_ GE157.out) | exact HB.out)⟩
            · rw [if_neg c39] at H
              have c39b0 : (t160 == 0) = false := beq_eq_false_iff_ne.mpr c39
              have c39b1 : (t160 != 0) = true := bne_iff_ne.mpr c39
              obtain rfl := Option.some.inj H
              go_wp2_with (first | ((with_reducible refine gate_callee (f := 11) rfl ?_); refine goesL_ (some 48) rfl rfl Try.func11 (by kernel_rfl) rfl #[] rfl (by (try simp only [List.map_toArray, List.map_cons, List.map_nil]); first | done | rfl | (simp only [List.length_drop, List.length_take]; rfl)) ?_; (with_reducible refine (lamellalaw06_alive.calls kj6  true _ A37.out).mono ?_); rintro e w44 ⟨rfl, hb⟩; refine ⟨_, rfl, ?_⟩; have n0_ := Aside0.mk (blk_below (g := gb157) (o := .cells #[.int .i64 a0_0, .int .i64 a0_1, .int .i64 a0_2] 23 (0, 0)) (by (with_reducible repeat (first | refine blk_drewN ?_ _ | refine blk_drew ?_ | refine blk_alloc ?_ _)); exact BK157.out) hb); have n1_ := Aside0.mk (below_step (by repeat (first | (with_reducible first | exact HB.out | apply below_alloc | apply pw_below_drewN | apply below_drew1 | refine below_set ?_ GE157.out) | exact HB.out)) hb); clear BK157; clear HB; have BK157 := n0_; have HB := n1_; clear n0_ n1_; (try clear hb); (try clear hb2); (try clear hk); (try clear hi)))
              go_ret
              exact ⟨by first | rfl | (simp [errW_none, errW_some] <;> rfl) | (simp [*, errW_none, errW_some] <;> rfl), by repeat (first | (with_reducible first | exact HB.out | apply below_alloc | apply pw_below_drewN | apply below_drew1 | refine below_set ?_ GE157.out) | exact HB.out)⟩
          · replace c38 := Bool.eq_false_iff.mpr c38
            subst c38
            have H1 : (some false) = some r := by rw [if_neg (show ¬ (false = true) by decide)] at H; exact H
            clear H
            have H := H1
            clear H1
            obtain rfl := Option.some.inj H
            go_wp2_with (first | ((with_reducible refine gate_callee (f := 11) rfl ?_); refine goesL_ (some 48) rfl rfl Try.func11 (by kernel_rfl) rfl #[] rfl (by (try simp only [List.map_toArray, List.map_cons, List.map_nil]); first | done | rfl | (simp only [List.length_drop, List.length_take]; rfl)) ?_; (with_reducible refine (lamellalaw06_alive.calls kj6  false _ A37.out).mono ?_); rintro e w45 ⟨rfl, hb⟩; refine ⟨_, rfl, ?_⟩; have n0_ := Aside0.mk (blk_below (g := gb157) (o := .cells #[.int .i64 a0_0, .int .i64 a0_1, .int .i64 a0_2] 23 (0, 0)) (by (with_reducible repeat (first | refine blk_drewN ?_ _ | refine blk_drew ?_ | refine blk_alloc ?_ _)); exact BK157.out) hb); have n1_ := Aside0.mk (below_step (by repeat (first | (with_reducible first | exact HB.out | apply below_alloc | apply pw_below_drewN | apply below_drew1 | refine below_set ?_ GE157.out) | exact HB.out)) hb); clear BK157; clear HB; have BK157 := n0_; have HB := n1_; clear n0_ n1_; (try clear hb); (try clear hb2); (try clear hk); (try clear hi)))
            go_ret
            exact ⟨by first | rfl | (simp [errW_none, errW_some] <;> rfl) | (simp [*, errW_none, errW_some] <;> rfl), by repeat (first | (with_reducible first | exact HB.out | apply below_alloc | apply pw_below_drewN | apply below_drew1 | refine below_set ?_ GE157.out) | exact HB.out)⟩
  · replace c5 := Bool.eq_false_iff.mpr c5
    subst c5
    have H1 : (some false) = some r := by rw [if_neg (show ¬ (false = true) by decide)] at H; exact H
    clear H
    have H := H1
    clear H1
    obtain rfl := Option.some.inj H
    go_enter Try.func4, Try.ntmps4
    go_wp2_with (first | ((with_reducible refine gate_dst (N := 3) rfl ?_); refine box_event ?hg (N := 3) ?hd (cs := #[.int .i64 a0_0, .int .i64 a0_1, .int .i64 a0_2]) (t := 23) ?hr ?_; (case hd => rfl); (case hg => rfl); (case hr => first | (go_simp; done) | (go_simp; rfl)); intro gb157 hg w46 hbox hb; have n0_ := Aside0.mk (below_step (by repeat (first | (with_reducible first | exact HB.out | apply below_alloc | apply pw_below_drewN | apply below_drew1) | exact HB.out)) hb); have n1_ := Aside0.mk (hbox); have n2_ := Aside0.mk ((by rw [hg]; exact (below_size (by repeat (first | (with_reducible first | exact HB.out | apply below_alloc | apply pw_below_drewN | apply below_drew1) | exact HB.out))) : w.heap.size ≤ gb157)); have n3_ := Aside0.mk ((by rw [hg]; exact (below_size (by repeat (first | (with_reducible first | exact HB.out | apply below_alloc | apply pw_below_drewN | apply below_drew1) | exact HB.out))) : w.heap.size ≤ gb157)); clear HB; have HB := n0_; have BK157 := n1_; have GW157 := n2_; have GE157 := n3_; clear n0_ n1_ n2_ n3_; clear hb hbox hg) | ((with_reducible refine gate_callee (f := 11) rfl ?_); refine goesL_ (some 9) rfl rfl Try.func11 (by kernel_rfl) rfl #[] rfl (by (try simp only [List.map_toArray, List.map_cons, List.map_nil]); first | done | rfl | (simp only [List.length_drop, List.length_take]; rfl)) ?_; (with_reducible refine (lamellalaw06_alive.calls k  false _ A4.out).mono ?_); rintro e w47 ⟨rfl, hb⟩; refine ⟨_, rfl, ?_⟩; have n0_ := Aside0.mk (blk_below (g := gb157) (o := .cells #[.int .i64 a0_0, .int .i64 a0_1, .int .i64 a0_2] 23 (0, 0)) (by (with_reducible repeat (first | refine blk_drewN ?_ _ | refine blk_drew ?_ | refine blk_alloc ?_ _)); exact BK157.out) hb); have n1_ := Aside0.mk (below_step (by repeat (first | (with_reducible first | exact HB.out | apply below_alloc | apply pw_below_drewN | apply below_drew1 | refine below_set ?_ GE157.out) | exact HB.out)) hb); clear BK157; clear HB; have BK157 := n0_; have HB := n1_; clear n0_ n1_; (try clear hb); (try clear hb2); (try clear hk); (try clear hi)))
    go_ret
    exact ⟨by first | rfl | (simp [errW_none, errW_some] <;> rfl) | (simp [*, errW_none, errW_some] <;> rfl), by repeat (first | (with_reducible first | exact HB.out | apply below_alloc | apply pw_below_drewN | apply below_drew1 | refine below_set ?_ GE157.out) | exact HB.out)⟩

end Go.Proofs.Ytaipmnelcpilaaa.P06
