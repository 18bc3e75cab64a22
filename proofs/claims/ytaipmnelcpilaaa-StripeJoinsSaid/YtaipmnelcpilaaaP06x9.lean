-- Written by a program of this session (wip/tools/printplus.py) over the kit's printer: some functions are given by hand.
import Derived.Test.YtaipmnelcpilaaaP06x0
import Derived.Test.YtaipmnelcpilaaaP06x2
import Derived.Test.YtaipmnelcpilaaaP06x3
import Derived.Test.YtaipmnelcpilaaaStripeGiven
import Derived.Test.YtaipmnelcpilaaaStripeGiven
namespace Go.Proofs.Ytaipmnelcpilaaa.P06
open Go.RowKit Go.Proofs.YtaipmnelcpilaaaW.PrintWords Go.Proofs.YtaipmnelcpilaaaW.PrintLast Go.Proofs.YtaipmnelcpilaaaW.PrintMore
attribute [local go_sem] max2_int min2_int max_two min_two max_three min_three max_four min_four   -- for this text's walks alone
set_option linter.unusedVariables false
set_option linter.unusedSimpArgs false

/-! ### lamellaref06_Back: function 23 -/
def lamellaref06_Back.l0 : Nat → Int → Int → Int → Int → Int → Int → Option (Int)
  | 0, _, _, _, _, _, _ => none
  | k + 1, x1, x2, x7, x225000, x225001, x225002 => if x7 < 1024 then ((lamellaref06_Where.f x225000 x225001 x225002 x7).bind fun bt225 => (if bt225.1 = x1 then (if bt225.2 = x2 then (some x7) else (lamellaref06_Back.l0 k x1 x2 (wrap64 (x7 + 1)) x225000 x225001 x225002)) else (lamellaref06_Back.l0 k x1 x2 (wrap64 (x7 + 1)) x225000 x225001 x225002))) else (some (-1))
def lamellaref06_Back.f (k : Nat) (a0_0 : Int) (a0_1 : Int) (a0_2 : Int) (a1 : Int) (a2 : Int) : Option (Int) := lamellaref06_Back.l0 k a1 a2 0 a0_0 a0_1 a0_2
theorem lamellaref06_Back.mono_l : ∀ k, (∀ y0 y1 y2 y3 y4 y5, LeO (lamellaref06_Back.l0 k y0 y1 y2 y3 y4 y5) (lamellaref06_Back.l0 (k + 1) y0 y1 y2 y3 y4 y5))
  | 0 => fun _ _ _ _ _ _ r h => by simp [lamellaref06_Back.l0] at h
  | k + 1 => by
    have ih0 := lamellaref06_Back.mono_l k
    · intro y0 y1 y2 y3 y4 y5
      unfold lamellaref06_Back.l0
      repeat' first
      | (with_reducible exact ih0 _ _ _ _ _ _)
      | (with_reducible exact LeO.refl _)
      | (with_reducible exact LeO.none _)
      | (with_reducible refine LeO.ite ?_ ?_)
      | (with_reducible refine LeO.bind ?_ (fun _ => ?_))
      | exact ih0 _ _ _ _ _ _
      | exact LeO.none _
      | refine LeO.ite ?_ ?_
      | refine LeO.bind ?_ (fun _ => ?_)
theorem lamellaref06_Back.mono : ∀ a0 a1 a2 a3 a4 k, LeO (lamellaref06_Back.f k a0 a1 a2 a3 a4) (lamellaref06_Back.f (k + 1) a0 a1 a2 a3 a4) := by
  intro a0 a1 a2 a3 a4 k
  have ih0 := lamellaref06_Back.mono_l k
  unfold lamellaref06_Back.f
  repeat' first
      | (with_reducible exact ih0 _ _ _ _ _ _)
      | (with_reducible exact LeO.refl _)
      | (with_reducible exact LeO.none _)
      | (with_reducible refine LeO.ite ?_ ?_)
      | (with_reducible refine LeO.bind ?_ (fun _ => ?_))
      | exact ih0 _ _ _ _ _ _
      | exact LeO.none _
      | refine LeO.ite ?_ ?_
      | refine LeO.bind ?_ (fun _ => ?_)
set_option maxHeartbeats 8000000 in
set_option maxRecDepth 100000 in
theorem lamellaref06_Back.calls (k : Nat) (a0_0 : Int) (a0_1 : Int) (a0_2 : Int) (a1 : Int) (a2 : Int) (r : Int) (w : World) (h : lamellaref06_Back.f k a0_0 a0_1 a0_2 a1 a2 = some r) :
    Calls Try.prog 23 #[.agg #[.int .i64 a0_0, .int .i64 a0_1, .int .i64 a0_2], .int .i64 a1, .int .i64 a2] w fun e w' => e = .returned (.int .i64 r) ∧ Below w.heap.size w w' := by
  have hu23 := Try.underlying23
  have HB := Aside0.mk (Below.refl w.heap.size w)
  have H : (lamellaref06_Back.l0 k a1 a2 0 a0_0 a0_1 a0_2) = some r := h
  clear h
  have H' := Aside0.mk H
  clear H
  go_enter Try.func23, Try.ntmps23
  go_wp2_with (first | ((with_reducible refine gate_dst (N := 3) rfl ?_); refine box_event ?hg (N := 3) ?hd (cs := #[.int .i64 a0_0, .int .i64 a0_1, .int .i64 a0_2]) (t := 23) ?hr ?_; (case hd => rfl); (case hg => rfl); (case hr => first | (go_simp; done) | (go_simp; rfl)); intro gb224 hg w4 hbox hb; have n0_ := Aside0.mk (below_step (by repeat (first | (with_reducible first | exact HB.out | apply below_alloc | apply pw_below_drewN | apply below_drew1) | exact HB.out)) hb); have n1_ := Aside0.mk (hbox); have n2_ := Aside0.mk ((by rw [hg]; exact (below_size (by repeat (first | (with_reducible first | exact HB.out | apply below_alloc | apply pw_below_drewN | apply below_drew1) | exact HB.out))) : w.heap.size ≤ gb224)); have n3_ := Aside0.mk ((by rw [hg]; exact (below_size (by repeat (first | (with_reducible first | exact HB.out | apply below_alloc | apply pw_below_drewN | apply below_drew1) | exact HB.out))) : w.heap.size ≤ gb224)); clear HB; have HB := n0_; have BK224 := n1_; have GW224 := n2_; have GE224 := n3_; clear n0_ n1_ n2_ n3_; clear hb hbox hg))
  go_loopg [7] k (fun kq v7 w' => ∃ (x7_1 : Int), v7 = .int .i64 x7_1 ∧ Aside0 (lamellaref06_Back.l0 kq a1 a2 x7_1 a0_0 a0_1 a0_2 = some r) ∧ Aside0 (kq ≤ k) ∧ Aside0 (w'.heap[gb224]? = some (.cells #[.int .i64 a0_0, .int .i64 a0_1, .int .i64 a0_2] 23 (0, 0))) ∧ Aside0 (Below w.heap.size w w'))
  case atStart => exact ⟨(0), (by first | rfl | (simp; done) | (simp [*]; done)), H', ⟨Nat.le_refl _⟩, ⟨by (with_reducible repeat (first | refine blk_drewN ?_ _ | refine blk_drew ?_ | refine blk_alloc ?_ _)); exact BK224.out⟩, ⟨by repeat (first | (with_reducible first | exact HB.out | apply below_alloc | apply pw_below_drewN | apply below_drew1 | refine below_set ?_ GE224.out) | exact HB.out)⟩⟩
  case round =>
    clear H'
    try clear c2
    try clear p2
    obtain ⟨x7_1, rfl, HA, HK1, BK224, HB⟩ := hrel
    cases gk with
    | zero => exact absurd HA.out (by simp [lamellaref06_Back.l0])
    | succ k1 =>
      have H := HA.out
      clear HA
      simp only [lamellaref06_Back.l0] at H
      by_cases c5 : x7_1 < 1024
      · rw [if_pos c5] at H
        have c5b0 : decide (x7_1 < 1024) = true := decide_eq_true c5
        clear c5
        replace H := Option.bind_eq_some_iff.mp H
        obtain ⟨⟨t225, t226⟩, A60, H⟩ := H
        replace H : (if t225 = a1 then (if t226 = a2 then (some x7_1) else (lamellaref06_Back.l0 k1 a1 a2 (wrap64 (x7_1 + 1)) a0_0 a0_1 a0_2)) else (lamellaref06_Back.l0 k1 a1 a2 (wrap64 (x7_1 + 1)) a0_0 a0_1 a0_2)) = some r := H
        have A6 := Aside0.mk A60
        clear A60
        by_cases c7 : t225 = a1
        · rw [if_pos c7] at H
          have c7b0 : (t225 == a1) = true := beq_iff_eq.mpr c7
          have c7b1 : (t225 != a1) = false := bne_eq_false_iff_eq.mpr c7
          clear c7
          by_cases c8 : t226 = a2
          · rw [if_pos c8] at H
            have c8b0 : (t226 == a2) = true := beq_iff_eq.mpr c8
            have c8b1 : (t226 != a2) = false := bne_eq_false_iff_eq.mpr c8
            clear c8
            obtain rfl := Option.some.inj H
            have hcz9_0 : wr.cell? ⟨gb224, 0, none⟩ = some (.int .i64 a0_0) := (blk_cell BK224.out 0).trans rfl
            have hcz9_1 : wr.cell? ⟨gb224, 1, none⟩ = some (.int .i64 a0_1) := (blk_cell BK224.out 1).trans rfl
            have hcz9_2 : wr.cell? ⟨gb224, 2, none⟩ = some (.int .i64 a0_2) := (blk_cell BK224.out 2).trans rfl
            have hfz9_0 := blk_frozen BK224.out 0
            have hfz9_1 := blk_frozen BK224.out 1
            have hfz9_2 := blk_frozen BK224.out 2
            go_wp2_with (first | ((with_reducible refine gate_callee (f := 22) rfl ?_); refine goesL_ (some 17) rfl rfl Try.func22 (by kernel_rfl) rfl #[.agg #[.int .i64 a0_0, .int .i64 a0_1, .int .i64 a0_2], .int .i64 x7_1] rfl (by (try simp only [List.map_toArray, List.map_cons, List.map_nil]); first | done | rfl | (simp only [List.length_drop, List.length_take]; rfl)) ?_; (with_reducible refine (lamellaref06_Where.calls a0_0 a0_1 a0_2 x7_1 t225 t226 _ A6.out).mono ?_); rintro e w10 ⟨rfl, hb⟩; refine ⟨_, rfl, ?_⟩; have n0_ := Aside0.mk (blk_below (g := gb224) (o := .cells #[.int .i64 a0_0, .int .i64 a0_1, .int .i64 a0_2] 23 (0, 0)) (by (with_reducible repeat (first | refine blk_drewN ?_ _ | refine blk_drew ?_ | refine blk_alloc ?_ _)); exact BK224.out) hb); have n1_ := Aside0.mk (below_step (by repeat (first | (with_reducible first | exact HB.out | apply below_alloc | apply pw_below_drewN | apply below_drew1 | refine below_set ?_ GE224.out) | exact HB.out)) hb); clear BK224; clear HB; have BK224 := n0_; have HB := n1_; clear n0_ n1_; (try clear hb); (try clear hb2); (try clear hk); (try clear hi)))
            all_goals
              go_ret
              exact ⟨by first | rfl | (simp [errW_none, errW_some] <;> rfl) | (simp [*, errW_none, errW_some] <;> rfl), by repeat (first | (with_reducible first | exact HB.out | apply below_alloc | apply pw_below_drewN | apply below_drew1 | refine below_set ?_ GE224.out) | exact HB.out)⟩
          · rw [if_neg c8] at H
            have c8b0 : (t226 == a2) = false := beq_eq_false_iff_ne.mpr c8
            have c8b1 : (t226 != a2) = true := bne_iff_ne.mpr c8
            have H' := Aside0.mk H
            clear H
            have hcz11_0 : wr.cell? ⟨gb224, 0, none⟩ = some (.int .i64 a0_0) := (blk_cell BK224.out 0).trans rfl
            have hcz11_1 : wr.cell? ⟨gb224, 1, none⟩ = some (.int .i64 a0_1) := (blk_cell BK224.out 1).trans rfl
            have hcz11_2 : wr.cell? ⟨gb224, 2, none⟩ = some (.int .i64 a0_2) := (blk_cell BK224.out 2).trans rfl
            have hfz11_0 := blk_frozen BK224.out 0
            have hfz11_1 := blk_frozen BK224.out 1
            have hfz11_2 := blk_frozen BK224.out 2
            go_wp2_with (first | ((with_reducible refine gate_callee (f := 22) rfl ?_); refine goesL_ (some 17) rfl rfl Try.func22 (by kernel_rfl) rfl #[.agg #[.int .i64 a0_0, .int .i64 a0_1, .int .i64 a0_2], .int .i64 x7_1] rfl (by (try simp only [List.map_toArray, List.map_cons, List.map_nil]); first | done | rfl | (simp only [List.length_drop, List.length_take]; rfl)) ?_; (with_reducible refine (lamellaref06_Where.calls a0_0 a0_1 a0_2 x7_1 t225 t226 _ A6.out).mono ?_); rintro e w12 ⟨rfl, hb⟩; refine ⟨_, rfl, ?_⟩; have n0_ := Aside0.mk (blk_below (g := gb224) (o := .cells #[.int .i64 a0_0, .int .i64 a0_1, .int .i64 a0_2] 23 (0, 0)) (by (with_reducible repeat (first | refine blk_drewN ?_ _ | refine blk_drew ?_ | refine blk_alloc ?_ _)); exact BK224.out) hb); have n1_ := Aside0.mk (below_step (by repeat (first | (with_reducible first | exact HB.out | apply below_alloc | apply pw_below_drewN | apply below_drew1 | refine below_set ?_ GE224.out) | exact HB.out)) hb); clear BK224; clear HB; have BK224 := n0_; have HB := n1_; clear n0_ n1_; (try clear hb); (try clear hb2); (try clear hk); (try clear hi)))
            go_roundg k1
            case measure => have := HK1.out; omega
            case rel => exact ⟨(wrap64 (x7_1 + 1)), (by first | rfl | (simp; done) | (simp [*]; done)), H', ⟨by have := HK1.out; omega⟩, ⟨by (with_reducible repeat (first | refine blk_drewN ?_ _ | refine blk_drew ?_ | refine blk_alloc ?_ _)); exact BK224.out⟩, ⟨by repeat (first | (with_reducible first | exact HB.out | apply below_alloc | apply pw_below_drewN | apply below_drew1 | refine below_set ?_ GE224.out) | exact HB.out)⟩⟩
        · rw [if_neg c7] at H
          have c7b0 : (t225 == a1) = false := beq_eq_false_iff_ne.mpr c7
          have c7b1 : (t225 != a1) = true := bne_iff_ne.mpr c7
          have H' := Aside0.mk H
          clear H
          have hcz13_0 : wr.cell? ⟨gb224, 0, none⟩ = some (.int .i64 a0_0) := (blk_cell BK224.out 0).trans rfl
          have hcz13_1 : wr.cell? ⟨gb224, 1, none⟩ = some (.int .i64 a0_1) := (blk_cell BK224.out 1).trans rfl
          have hcz13_2 : wr.cell? ⟨gb224, 2, none⟩ = some (.int .i64 a0_2) := (blk_cell BK224.out 2).trans rfl
          have hfz13_0 := blk_frozen BK224.out 0
          have hfz13_1 := blk_frozen BK224.out 1
          have hfz13_2 := blk_frozen BK224.out 2
          go_wp2_with (first | ((with_reducible refine gate_callee (f := 22) rfl ?_); refine goesL_ (some 17) rfl rfl Try.func22 (by kernel_rfl) rfl #[.agg #[.int .i64 a0_0, .int .i64 a0_1, .int .i64 a0_2], .int .i64 x7_1] rfl (by (try simp only [List.map_toArray, List.map_cons, List.map_nil]); first | done | rfl | (simp only [List.length_drop, List.length_take]; rfl)) ?_; (with_reducible refine (lamellaref06_Where.calls a0_0 a0_1 a0_2 x7_1 t225 t226 _ A6.out).mono ?_); rintro e w14 ⟨rfl, hb⟩; refine ⟨_, rfl, ?_⟩; have n0_ := Aside0.mk (blk_below (g := gb224) (o := .cells #[.int .i64 a0_0, .int .i64 a0_1, .int .i64 a0_2] 23 (0, 0)) (by (with_reducible repeat (first | refine blk_drewN ?_ _ | refine blk_drew ?_ | refine blk_alloc ?_ _)); exact BK224.out) hb); have n1_ := Aside0.mk (below_step (by repeat (first | (with_reducible first | exact HB.out | apply below_alloc | apply pw_below_drewN | apply below_drew1 | refine below_set ?_ GE224.out) | exact HB.out)) hb); clear BK224; clear HB; have BK224 := n0_; have HB := n1_; clear n0_ n1_; (try clear hb); (try clear hb2); (try clear hk); (try clear hi)))
          go_roundg k1
          case measure => have := HK1.out; omega
          case rel => exact ⟨(wrap64 (x7_1 + 1)), (by first | rfl | (simp; done) | (simp [*]; done)), H', ⟨by have := HK1.out; omega⟩, ⟨by (with_reducible repeat (first | refine blk_drewN ?_ _ | refine blk_drew ?_ | refine blk_alloc ?_ _)); exact BK224.out⟩, ⟨by repeat (first | (with_reducible first | exact HB.out | apply below_alloc | apply pw_below_drewN | apply below_drew1 | refine below_set ?_ GE224.out) | exact HB.out)⟩⟩
      · rw [if_neg c5] at H
        have c5b0 : decide (x7_1 < 1024) = false := decide_eq_false c5
        clear c5
        obtain rfl := Option.some.inj H
        go_wp2
        all_goals
          go_ret
          exact ⟨by first | rfl | (simp [errW_none, errW_some] <;> rfl) | (simp [*, errW_none, errW_some] <;> rfl), by repeat (first | (with_reducible first | exact HB.out | apply below_alloc | apply pw_below_drewN | apply below_drew1 | refine below_set ?_ GE224.out) | exact HB.out)⟩

/-! ### lamellalaw06_StripeWhere: function 9 -/
mutual
def lamellalaw06_StripeWhere.j0 : Nat → Int → Int → Int → Int → Int → Int → Int → Int → Bool → Bool → Int → Int → Int → Option (Bool)
  | 0, _, _, _, _, _, _, _, _, _, _, _, _, _ => none
  | k + 1, x1, x2, x3, x9, x10, x11, x12, x13, x14, x43, x228000, x228001, x228002 => if x43 = true then (some false) else (if x14 = true then (if x1 < 0 then (lamellalaw06_StripeWhere.j1 k x1 x2 x3 x9 x10 x11 x12 x13 x14 true x228000 x228001 x228002) else (lamellalaw06_StripeWhere.j1 k x1 x2 x3 x9 x10 x11 x12 x13 x14 (decide (x1 > 1023)) x228000 x228001 x228002)) else (lamellalaw06_StripeWhere.j1 k x1 x2 x3 x9 x10 x11 x12 x13 x14 true x228000 x228001 x228002))
def lamellalaw06_StripeWhere.j1 : Nat → Int → Int → Int → Int → Int → Int → Int → Int → Bool → Bool → Int → Int → Int → Option (Bool)
  | 0, _, _, _, _, _, _, _, _, _, _, _, _, _ => none
  | k + 1, x1, x2, x3, x9, x10, x11, x12, x13, x14, x53, x228000, x228001, x228002 => if x53 = true then (if x9 = 0 then (if x10 = 0 then (if x11 = 1 then (lamellalaw06_StripeWhere.j2 k x2 x3 x12 x13 x14 x228000 x228001 x228002) else (some false)) else (some false)) else (some false)) else ((lamellaref06_Where.f x228000 x228001 x228002 x1).bind fun bt237 => (if x9 = bt237.1 then (if x10 = bt237.2 then (if x11 = 0 then (lamellalaw06_StripeWhere.j2 k x2 x3 x12 x13 x14 x228000 x228001 x228002) else (some false)) else (some false)) else (some false)))
def lamellalaw06_StripeWhere.j2 : Nat → Int → Int → Int → Int → Bool → Int → Int → Int → Option (Bool)
  | 0, _, _, _, _, _, _, _, _ => none
  | k + 1, x2, x3, x12, x13, x14, x228000, x228001, x228002 => if x14 = true then ((lamellaref06_Back.f k x228000 x228001 x228002 x2 x3).bind fun t239 => (if t239 < 0 then (if x12 = 0 then (some (x13 == 1)) else (some false)) else (if x12 = t239 then (some (x13 == 0)) else (some false)))) else (if (-1) < 0 then (if x12 = 0 then (some (x13 == 1)) else (some false)) else (if x12 = (-1) then (some (x13 == 0)) else (some false)))
end
def lamellalaw06_StripeWhere.f (k : Nat) (a0_0 : Int) (a0_1 : Int) (a0_2 : Int) (a1 : Int) (a2 : Int) (a3 : Int) : Option (Bool) := (lamellalaw06_alive.f k).bind fun t228 => (if t228 = true then ((stripe_Where.f a0_0 a0_1 a0_2 a1).bind fun bt229 => ((stripe_Back.f a0_0 a0_1 a0_2 a2 a3).bind fun bt232 => ((lamellaref06_Right.f a0_0 a0_1 a0_2).bind fun t234 => ((lamellalaw06_alive.f k).bind fun t235 => (if t235 = true then ((stripe_Right.f a0_0 a0_1 a0_2).bind fun t236 => (lamellalaw06_StripeWhere.j0 k a1 a2 a3 bt229.1 bt229.2.1 bt229.2.2 bt232.1 bt232.2 t234 (t236 != t234) a0_0 a0_1 a0_2)) else (lamellalaw06_StripeWhere.j0 k a1 a2 a3 bt229.1 bt229.2.1 bt229.2.2 bt232.1 bt232.2 t234 true a0_0 a0_1 a0_2)))))) else (some false))
theorem lamellalaw06_StripeWhere.mono_l : ∀ k, (∀ y0 y1 y2 y3 y4 y5 y6 y7 y8 y9 y10 y11 y12, LeO (lamellalaw06_StripeWhere.j0 k y0 y1 y2 y3 y4 y5 y6 y7 y8 y9 y10 y11 y12) (lamellalaw06_StripeWhere.j0 (k + 1) y0 y1 y2 y3 y4 y5 y6 y7 y8 y9 y10 y11 y12)) ∧ (∀ y0 y1 y2 y3 y4 y5 y6 y7 y8 y9 y10 y11 y12, LeO (lamellalaw06_StripeWhere.j1 k y0 y1 y2 y3 y4 y5 y6 y7 y8 y9 y10 y11 y12) (lamellalaw06_StripeWhere.j1 (k + 1) y0 y1 y2 y3 y4 y5 y6 y7 y8 y9 y10 y11 y12)) ∧ (∀ y0 y1 y2 y3 y4 y5 y6 y7, LeO (lamellalaw06_StripeWhere.j2 k y0 y1 y2 y3 y4 y5 y6 y7) (lamellalaw06_StripeWhere.j2 (k + 1) y0 y1 y2 y3 y4 y5 y6 y7))
  | 0 => ⟨fun _ _ _ _ _ _ _ _ _ _ _ _ _ r h => by simp [lamellalaw06_StripeWhere.j0] at h, fun _ _ _ _ _ _ _ _ _ _ _ _ _ r h => by simp [lamellalaw06_StripeWhere.j1] at h, fun _ _ _ _ _ _ _ _ r h => by simp [lamellalaw06_StripeWhere.j2] at h⟩
  | k + 1 => by
    obtain ⟨ih0, ih1, ih2⟩ := lamellalaw06_StripeWhere.mono_l k
    refine ⟨?_, ?_, ?_⟩
    · intro y0 y1 y2 y3 y4 y5 y6 y7 y8 y9 y10 y11 y12
      unfold lamellalaw06_StripeWhere.j0
      repeat' first
      | (with_reducible exact ih0 _ _ _ _ _ _ _ _ _ _ _ _ _)
      | (with_reducible exact ih1 _ _ _ _ _ _ _ _ _ _ _ _ _)
      | (with_reducible exact ih2 _ _ _ _ _ _ _ _)
      | (with_reducible exact lamellalaw06_alive.mono _)
      | (with_reducible exact lamellaref06_Back.mono _ _ _ _ _ _)
      | (with_reducible exact LeO.refl _)
      | (with_reducible exact LeO.none _)
      | (with_reducible refine LeO.ite ?_ ?_)
      | (with_reducible refine LeO.bind ?_ (fun _ => ?_))
      | exact ih0 _ _ _ _ _ _ _ _ _ _ _ _ _
      | exact ih1 _ _ _ _ _ _ _ _ _ _ _ _ _
      | exact ih2 _ _ _ _ _ _ _ _
      | exact lamellalaw06_alive.mono _
      | exact lamellaref06_Back.mono _ _ _ _ _ _
      | exact LeO.none _
      | refine LeO.ite ?_ ?_
      | refine LeO.bind ?_ (fun _ => ?_)
    · intro y0 y1 y2 y3 y4 y5 y6 y7 y8 y9 y10 y11 y12
      unfold lamellalaw06_StripeWhere.j1
      repeat' first
      | (with_reducible exact ih0 _ _ _ _ _ _ _ _ _ _ _ _ _)
      | (with_reducible exact ih1 _ _ _ _ _ _ _ _ _ _ _ _ _)
      | (with_reducible exact ih2 _ _ _ _ _ _ _ _)
      | (with_reducible exact lamellalaw06_alive.mono _)
      | (with_reducible exact lamellaref06_Back.mono _ _ _ _ _ _)
      | (with_reducible exact LeO.refl _)
      | (with_reducible exact LeO.none _)
      | (with_reducible refine LeO.ite ?_ ?_)
      | (with_reducible refine LeO.bind ?_ (fun _ => ?_))
      | exact ih0 _ _ _ _ _ _ _ _ _ _ _ _ _
      | exact ih1 _ _ _ _ _ _ _ _ _ _ _ _ _
      | exact ih2 _ _ _ _ _ _ _ _
      | exact lamellalaw06_alive.mono _
      | exact lamellaref06_Back.mono _ _ _ _ _ _
      | exact LeO.none _
      | refine LeO.ite ?_ ?_
      | refine LeO.bind ?_ (fun _ => ?_)
    · intro y0 y1 y2 y3 y4 y5 y6 y7
      unfold lamellalaw06_StripeWhere.j2
      repeat' first
      | (with_reducible exact ih0 _ _ _ _ _ _ _ _ _ _ _ _ _)
      | (with_reducible exact ih1 _ _ _ _ _ _ _ _ _ _ _ _ _)
      | (with_reducible exact ih2 _ _ _ _ _ _ _ _)
      | (with_reducible exact lamellalaw06_alive.mono _)
      | (with_reducible exact lamellaref06_Back.mono _ _ _ _ _ _)
      | (with_reducible exact LeO.refl _)
      | (with_reducible exact LeO.none _)
      | (with_reducible refine LeO.ite ?_ ?_)
      | (with_reducible refine LeO.bind ?_ (fun _ => ?_))
      | exact ih0 _ _ _ _ _ _ _ _ _ _ _ _ _
      | exact ih1 _ _ _ _ _ _ _ _ _ _ _ _ _
      | exact ih2 _ _ _ _ _ _ _ _
      | exact lamellalaw06_alive.mono _
      | exact lamellaref06_Back.mono _ _ _ _ _ _
      | exact LeO.none _
      | refine LeO.ite ?_ ?_
      | refine LeO.bind ?_ (fun _ => ?_)
theorem lamellalaw06_StripeWhere.mono : ∀ a0 a1 a2 a3 a4 a5 k, LeO (lamellalaw06_StripeWhere.f k a0 a1 a2 a3 a4 a5) (lamellalaw06_StripeWhere.f (k + 1) a0 a1 a2 a3 a4 a5) := by
  intro a0 a1 a2 a3 a4 a5 k
  obtain ⟨ih0, ih1, ih2⟩ := lamellalaw06_StripeWhere.mono_l k
  unfold lamellalaw06_StripeWhere.f
  repeat' first
      | (with_reducible exact ih0 _ _ _ _ _ _ _ _ _ _ _ _ _)
      | (with_reducible exact ih1 _ _ _ _ _ _ _ _ _ _ _ _ _)
      | (with_reducible exact ih2 _ _ _ _ _ _ _ _)
      | (with_reducible exact lamellalaw06_alive.mono _)
      | (with_reducible exact lamellaref06_Back.mono _ _ _ _ _ _)
      | (with_reducible exact LeO.refl _)
      | (with_reducible exact LeO.none _)
      | (with_reducible refine LeO.ite ?_ ?_)
      | (with_reducible refine LeO.bind ?_ (fun _ => ?_))
      | exact ih0 _ _ _ _ _ _ _ _ _ _ _ _ _
      | exact ih1 _ _ _ _ _ _ _ _ _ _ _ _ _
      | exact ih2 _ _ _ _ _ _ _ _
      | exact lamellalaw06_alive.mono _
      | exact lamellaref06_Back.mono _ _ _ _ _ _
      | exact LeO.none _
      | refine LeO.ite ?_ ?_
      | refine LeO.bind ?_ (fun _ => ?_)
set_option maxHeartbeats 8000000 in
set_option maxRecDepth 100000 in
theorem lamellalaw06_StripeWhere.calls (k : Nat) (a0_0 : Int) (a0_1 : Int) (a0_2 : Int) (a1 : Int) (a2 : Int) (a3 : Int) (r : Bool) (w : World) (h : lamellalaw06_StripeWhere.f k a0_0 a0_1 a0_2 a1 a2 a3 = some r) :
    Calls Try.prog 9 #[.agg #[.int .i64 a0_0, .int .i64 a0_1, .int .i64 a0_2], .int .i64 a1, .int .i64 a2, .int .i64 a3] w fun e w' => e = .returned (.bool r) ∧ Below w.heap.size w w' := by
  have hu23 := Try.underlying23
  have HB := Aside0.mk (Below.refl w.heap.size w)
  have H : ((lamellalaw06_alive.f k).bind fun t228 => (if t228 = true then ((stripe_Where.f a0_0 a0_1 a0_2 a1).bind fun bt229 => ((stripe_Back.f a0_0 a0_1 a0_2 a2 a3).bind fun bt232 => ((lamellaref06_Right.f a0_0 a0_1 a0_2).bind fun t234 => ((lamellalaw06_alive.f k).bind fun t235 => (if t235 = true then ((stripe_Right.f a0_0 a0_1 a0_2).bind fun t236 => (lamellalaw06_StripeWhere.j0 k a1 a2 a3 bt229.1 bt229.2.1 bt229.2.2 bt232.1 bt232.2 t234 (t236 != t234) a0_0 a0_1 a0_2)) else (lamellalaw06_StripeWhere.j0 k a1 a2 a3 bt229.1 bt229.2.1 bt229.2.2 bt232.1 bt232.2 t234 true a0_0 a0_1 a0_2)))))) else (some false))) = some r := h
  clear h
  replace H := Option.bind_eq_some_iff.mp H
  obtain ⟨t228, A50, H⟩ := H
  replace H : (if t228 = true then ((stripe_Where.f a0_0 a0_1 a0_2 a1).bind fun bt229 => ((stripe_Back.f a0_0 a0_1 a0_2 a2 a3).bind fun bt232 => ((lamellaref06_Right.f a0_0 a0_1 a0_2).bind fun t234 => ((lamellalaw06_alive.f k).bind fun t235 => (if t235 = true then ((stripe_Right.f a0_0 a0_1 a0_2).bind fun t236 => (lamellalaw06_StripeWhere.j0 k a1 a2 a3 bt229.1 bt229.2.1 bt229.2.2 bt232.1 bt232.2 t234 (t236 != t234) a0_0 a0_1 a0_2)) else (lamellalaw06_StripeWhere.j0 k a1 a2 a3 bt229.1 bt229.2.1 bt229.2.2 bt232.1 bt232.2 t234 true a0_0 a0_1 a0_2)))))) else (some false)) = some r := H
  have A5 := Aside0.mk A50
  clear A50
  by_cases c6 : t228 = true
  · subst c6
    have H1 : ((stripe_Where.f a0_0 a0_1 a0_2 a1).bind fun bt229 => ((stripe_Back.f a0_0 a0_1 a0_2 a2 a3).bind fun bt232 => ((lamellaref06_Right.f a0_0 a0_1 a0_2).bind fun t234 => ((lamellalaw06_alive.f k).bind fun t235 => (if t235 = true then ((stripe_Right.f a0_0 a0_1 a0_2).bind fun t236 => (lamellalaw06_StripeWhere.j0 k a1 a2 a3 bt229.1 bt229.2.1 bt229.2.2 bt232.1 bt232.2 t234 (t236 != t234) a0_0 a0_1 a0_2)) else (lamellalaw06_StripeWhere.j0 k a1 a2 a3 bt229.1 bt229.2.1 bt229.2.2 bt232.1 bt232.2 t234 true a0_0 a0_1 a0_2)))))) = some r := by rw [if_pos rfl] at H; exact H
    clear H
    have H := H1
    clear H1
    replace H := Option.bind_eq_some_iff.mp H
    obtain ⟨⟨t229, t230, t231⟩, A70, H⟩ := H
    replace H : ((stripe_Back.f a0_0 a0_1 a0_2 a2 a3).bind fun bt232 => ((lamellaref06_Right.f a0_0 a0_1 a0_2).bind fun t234 => ((lamellalaw06_alive.f k).bind fun t235 => (if t235 = true then ((stripe_Right.f a0_0 a0_1 a0_2).bind fun t236 => (lamellalaw06_StripeWhere.j0 k a1 a2 a3 t229 t230 t231 bt232.1 bt232.2 t234 (t236 != t234) a0_0 a0_1 a0_2)) else (lamellalaw06_StripeWhere.j0 k a1 a2 a3 t229 t230 t231 bt232.1 bt232.2 t234 true a0_0 a0_1 a0_2))))) = some r := H
    have A7 := Aside0.mk A70
    clear A70
    replace H := Option.bind_eq_some_iff.mp H
    obtain ⟨⟨t232, t233⟩, A80, H⟩ := H
    replace H : ((lamellaref06_Right.f a0_0 a0_1 a0_2).bind fun t234 => ((lamellalaw06_alive.f k).bind fun t235 => (if t235 = true then ((stripe_Right.f a0_0 a0_1 a0_2).bind fun t236 => (lamellalaw06_StripeWhere.j0 k a1 a2 a3 t229 t230 t231 t232 t233 t234 (t236 != t234) a0_0 a0_1 a0_2)) else (lamellalaw06_StripeWhere.j0 k a1 a2 a3 t229 t230 t231 t232 t233 t234 true a0_0 a0_1 a0_2)))) = some r := H
    have A8 := Aside0.mk A80
    clear A80
    replace H := Option.bind_eq_some_iff.mp H
    obtain ⟨t234, A90, H⟩ := H
    replace H : ((lamellalaw06_alive.f k).bind fun t235 => (if t235 = true then ((stripe_Right.f a0_0 a0_1 a0_2).bind fun t236 => (lamellalaw06_StripeWhere.j0 k a1 a2 a3 t229 t230 t231 t232 t233 t234 (t236 != t234) a0_0 a0_1 a0_2)) else (lamellalaw06_StripeWhere.j0 k a1 a2 a3 t229 t230 t231 t232 t233 t234 true a0_0 a0_1 a0_2))) = some r := H
    have A9 := Aside0.mk A90
    clear A90
    have HC10 := Aside0.mk H
    clear H
    go_enter Try.func9, Try.ntmps9
    go_upto_region 6 with (first | ((with_reducible refine gate_dst (N := 4) rfl ?_); refine box_event ?hg (N := 4) ?hd (cs := #[.int .i64 a0_0, .int .i64 a0_1, .int .i64 a0_2]) (t := 23) ?hr ?_; (case hd => rfl); (case hg => rfl); (case hr => first | (go_simp; done) | (go_simp; rfl)); intro gb227 hg w11 hbox hb; have n0_ := Aside0.mk (below_step (by repeat (first | (with_reducible first | exact HB.out | apply below_alloc | apply pw_below_drewN | apply below_drew1) | exact HB.out)) hb); have n1_ := Aside0.mk (hbox); have n2_ := Aside0.mk ((by rw [hg]; exact (below_size (by repeat (first | (with_reducible first | exact HB.out | apply below_alloc | apply pw_below_drewN | apply below_drew1) | exact HB.out))) : w.heap.size ≤ gb227)); have n3_ := Aside0.mk ((by rw [hg]; exact (below_size (by repeat (first | (with_reducible first | exact HB.out | apply below_alloc | apply pw_below_drewN | apply below_drew1) | exact HB.out))) : w.heap.size ≤ gb227)); clear HB; have HB := n0_; have BK227 := n1_; have GW227 := n2_; have GE227 := n3_; clear n0_ n1_ n2_ n3_; clear hb hbox hg) | ((with_reducible refine gate_callee (f := 11) rfl ?_); refine goesL_ (some 18) rfl rfl Try.func11 (by kernel_rfl) rfl #[] rfl (by (try simp only [List.map_toArray, List.map_cons, List.map_nil]); first | done | rfl | (simp only [List.length_drop, List.length_take]; rfl)) ?_; (with_reducible refine (lamellalaw06_alive.calls k  true _ A5.out).mono ?_); rintro e w12 ⟨rfl, hb⟩; refine ⟨_, rfl, ?_⟩; have n0_ := Aside0.mk (blk_below (g := gb227) (o := .cells #[.int .i64 a0_0, .int .i64 a0_1, .int .i64 a0_2] 23 (0, 0)) (by (with_reducible repeat (first | refine blk_drewN ?_ _ | refine blk_drew ?_ | refine blk_alloc ?_ _)); exact BK227.out) hb); have n1_ := Aside0.mk (below_step (by repeat (first | (with_reducible first | exact HB.out | apply below_alloc | apply pw_below_drewN | apply below_drew1 | refine below_set ?_ GE227.out) | exact HB.out)) hb); clear BK227; clear HB; have BK227 := n0_; have HB := n1_; clear n0_ n1_; (try clear hb); (try clear hb2); (try clear hk); (try clear hi); have hcz13_0 : w12.cell? ⟨gb227, 0, none⟩ = some (.int .i64 a0_0) := (blk_cell BK227.out 0).trans rfl; have hcz13_1 : w12.cell? ⟨gb227, 1, none⟩ = some (.int .i64 a0_1) := (blk_cell BK227.out 1).trans rfl; have hcz13_2 : w12.cell? ⟨gb227, 2, none⟩ = some (.int .i64 a0_2) := (blk_cell BK227.out 2).trans rfl; have hfz13_0 := blk_frozen BK227.out 0; have hfz13_1 := blk_frozen BK227.out 1; have hfz13_2 := blk_frozen BK227.out 2) | ((with_reducible refine gate_callee (f := 19) rfl ?_); refine goesL_ (some 23) rfl rfl Try.func19 (by kernel_rfl) rfl #[.agg #[.int .i64 a0_0, .int .i64 a0_1, .int .i64 a0_2], .int .i64 a1] rfl (by (try simp only [List.map_toArray, List.map_cons, List.map_nil]); first | done | rfl | (simp only [List.length_drop, List.length_take]; rfl)) ?_; (with_reducible refine (stripe_Where.calls a0_0 a0_1 a0_2 a1 t229 t230 t231 _ A7.out).mono ?_); rintro e w14 ⟨rfl, hb⟩; refine ⟨_, rfl, ?_⟩; have n0_ := Aside0.mk (blk_below (g := gb227) (o := .cells #[.int .i64 a0_0, .int .i64 a0_1, .int .i64 a0_2] 23 (0, 0)) (by (with_reducible repeat (first | refine blk_drewN ?_ _ | refine blk_drew ?_ | refine blk_alloc ?_ _)); exact BK227.out) hb); have n1_ := Aside0.mk (below_step (by repeat (first | (with_reducible first | exact HB.out | apply below_alloc | apply pw_below_drewN | apply below_drew1 | refine below_set ?_ GE227.out) | exact HB.out)) hb); clear BK227; clear HB; have BK227 := n0_; have HB := n1_; clear n0_ n1_; (try clear hb); (try clear hb2); (try clear hk); (try clear hi); have hcz15_0 : w14.cell? ⟨gb227, 0, none⟩ = some (.int .i64 a0_0) := (blk_cell BK227.out 0).trans rfl; have hcz15_1 : w14.cell? ⟨gb227, 1, none⟩ = some (.int .i64 a0_1) := (blk_cell BK227.out 1).trans rfl; have hcz15_2 : w14.cell? ⟨gb227, 2, none⟩ = some (.int .i64 a0_2) := (blk_cell BK227.out 2).trans rfl; have hfz15_0 := blk_frozen BK227.out 0; have hfz15_1 := blk_frozen BK227.out 1; have hfz15_2 := blk_frozen BK227.out 2) | ((with_reducible refine gate_callee (f := 21) rfl ?_); refine goesL_ (some 31) rfl rfl Try.func21 (by kernel_rfl) rfl #[.agg #[.int .i64 a0_0, .int .i64 a0_1, .int .i64 a0_2], .int .i64 a2, .int .i64 a3] rfl (by (try simp only [List.map_toArray, List.map_cons, List.map_nil]); first | done | rfl | (simp only [List.length_drop, List.length_take]; rfl)) ?_; (with_reducible refine (stripe_Back.calls a0_0 a0_1 a0_2 a2 a3 t232 t233 _ A8.out).mono ?_); rintro e w16 ⟨rfl, hb⟩; refine ⟨_, rfl, ?_⟩; have n0_ := Aside0.mk (blk_below (g := gb227) (o := .cells #[.int .i64 a0_0, .int .i64 a0_1, .int .i64 a0_2] 23 (0, 0)) (by (with_reducible repeat (first | refine blk_drewN ?_ _ | refine blk_drew ?_ | refine blk_alloc ?_ _)); exact BK227.out) hb); have n1_ := Aside0.mk (below_step (by repeat (first | (with_reducible first | exact HB.out | apply below_alloc | apply pw_below_drewN | apply below_drew1 | refine below_set ?_ GE227.out) | exact HB.out)) hb); clear BK227; clear HB; have BK227 := n0_; have HB := n1_; clear n0_ n1_; (try clear hb); (try clear hb2); (try clear hk); (try clear hi); have hcz17_0 : w16.cell? ⟨gb227, 0, none⟩ = some (.int .i64 a0_0) := (blk_cell BK227.out 0).trans rfl; have hcz17_1 : w16.cell? ⟨gb227, 1, none⟩ = some (.int .i64 a0_1) := (blk_cell BK227.out 1).trans rfl; have hcz17_2 : w16.cell? ⟨gb227, 2, none⟩ = some (.int .i64 a0_2) := (blk_cell BK227.out 2).trans rfl; have hfz17_0 := blk_frozen BK227.out 0; have hfz17_1 := blk_frozen BK227.out 1; have hfz17_2 := blk_frozen BK227.out 2) | ((with_reducible refine gate_callee (f := 13) rfl ?_); refine goesL_ (some 35) rfl rfl Try.func13 (by kernel_rfl) rfl #[.agg #[.int .i64 a0_0, .int .i64 a0_1, .int .i64 a0_2]] rfl (by (try simp only [List.map_toArray, List.map_cons, List.map_nil]); first | done | rfl | (simp only [List.length_drop, List.length_take]; rfl)) ?_; (with_reducible refine (lamellaref06_Right.calls a0_0 a0_1 a0_2 t234 _ A9.out).mono ?_); rintro e w18 ⟨rfl, hb⟩; refine ⟨_, rfl, ?_⟩; have n0_ := Aside0.mk (blk_below (g := gb227) (o := .cells #[.int .i64 a0_0, .int .i64 a0_1, .int .i64 a0_2] 23 (0, 0)) (by (with_reducible repeat (first | refine blk_drewN ?_ _ | refine blk_drew ?_ | refine blk_alloc ?_ _)); exact BK227.out) hb); have n1_ := Aside0.mk (below_step (by repeat (first | (with_reducible first | exact HB.out | apply below_alloc | apply pw_below_drewN | apply below_drew1 | refine below_set ?_ GE227.out) | exact HB.out)) hb); clear BK227; clear HB; have BK227 := n0_; have HB := n1_; clear n0_ n1_; (try clear hb); (try clear hb2); (try clear hk); (try clear hi)))
    (try simp only [Act.put, List.setIfInBounds_toArray, List.set_cons_zero, List.set_cons_succ])
    go_cut [43] (fun v43 wc => ∃ (kq : Nat) (x43_9 : Bool), v43 = .bool x43_9 ∧ Aside0 (lamellalaw06_StripeWhere.j0 kq a1 a2 a3 t229 t230 t231 t232 t233 t234 x43_9 a0_0 a0_1 a0_2 = some r) ∧ Aside0 (kq ≤ k) ∧ Aside0 (wc.heap[gb227]? = some (.cells #[.int .i64 a0_0, .int .i64 a0_1, .int .i64 a0_2] 23 (0, 0))) ∧ Aside0 (Below w.heap.size w wc))
    case first =>
      have H := HC10.out
      clear HC10
      replace H := Option.bind_eq_some_iff.mp H
      obtain ⟨t235, A190, H⟩ := H
      replace H : (if t235 = true then ((stripe_Right.f a0_0 a0_1 a0_2).bind fun t236 => (lamellalaw06_StripeWhere.j0 k a1 a2 a3 t229 t230 t231 t232 t233 t234 (t236 != t234) a0_0 a0_1 a0_2)) else (lamellalaw06_StripeWhere.j0 k a1 a2 a3 t229 t230 t231 t232 t233 t234 true a0_0 a0_1 a0_2)) = some r := H
      have A19 := Aside0.mk A190
      clear A190
      by_cases c20 : t235 = true
      · subst c20
        have H1 : ((stripe_Right.f a0_0 a0_1 a0_2).bind fun t236 => (lamellalaw06_StripeWhere.j0 k a1 a2 a3 t229 t230 t231 t232 t233 t234 (t236 != t234) a0_0 a0_1 a0_2)) = some r := by rw [if_pos rfl] at H; exact H
        clear H
        have H := H1
        clear H1
        replace H := Option.bind_eq_some_iff.mp H
        obtain ⟨t236, A210, H⟩ := H
        replace H : (lamellalaw06_StripeWhere.j0 k a1 a2 a3 t229 t230 t231 t232 t233 t234 (t236 != t234) a0_0 a0_1 a0_2) = some r := H
        have A21 := Aside0.mk A210
        clear A210
        have H' := Aside0.mk H
        clear H
        go_wp2_with (first | ((with_reducible refine gate_callee (f := 11) rfl ?_); refine goesL_ (some 36) rfl rfl Try.func11 (by kernel_rfl) rfl #[] rfl (by (try simp only [List.map_toArray, List.map_cons, List.map_nil]); first | done | rfl | (simp only [List.length_drop, List.length_take]; rfl)) ?_; (with_reducible refine (lamellalaw06_alive.calls k  true _ A19.out).mono ?_); rintro e w22 ⟨rfl, hb⟩; refine ⟨_, rfl, ?_⟩; have n0_ := Aside0.mk (blk_below (g := gb227) (o := .cells #[.int .i64 a0_0, .int .i64 a0_1, .int .i64 a0_2] 23 (0, 0)) (by (with_reducible repeat (first | refine blk_drewN ?_ _ | refine blk_drew ?_ | refine blk_alloc ?_ _)); exact BK227.out) hb); have n1_ := Aside0.mk (below_step (by repeat (first | (with_reducible first | exact HB.out | apply below_alloc | apply pw_below_drewN | apply below_drew1 | refine below_set ?_ GE227.out) | exact HB.out)) hb); clear BK227; clear HB; have BK227 := n0_; have HB := n1_; clear n0_ n1_; (try clear hb); (try clear hb2); (try clear hk); (try clear hi); have hcz23_0 : w22.cell? ⟨gb227, 0, none⟩ = some (.int .i64 a0_0) := (blk_cell BK227.out 0).trans rfl; have hcz23_1 : w22.cell? ⟨gb227, 1, none⟩ = some (.int .i64 a0_1) := (blk_cell BK227.out 1).trans rfl; have hcz23_2 : w22.cell? ⟨gb227, 2, none⟩ = some (.int .i64 a0_2) := (blk_cell BK227.out 2).trans rfl; have hfz23_0 := blk_frozen BK227.out 0; have hfz23_1 := blk_frozen BK227.out 1; have hfz23_2 := blk_frozen BK227.out 2) | (go_at_call 20; (with_reducible refine (stripe_Right.calls a0_0 a0_1 a0_2 t236 _ A21.out).mono ?_); rintro e w24 ⟨rfl, hb⟩; have n0_ := Aside0.mk (blk_below (g := gb227) (o := .cells #[.int .i64 a0_0, .int .i64 a0_1, .int .i64 a0_2] 23 (0, 0)) (by (with_reducible repeat (first | refine blk_drewN ?_ _ | refine blk_drew ?_ | refine blk_alloc ?_ _)); exact BK227.out) hb); have n1_ := Aside0.mk (below_step (by repeat (first | (with_reducible first | exact HB.out | apply below_alloc | apply pw_below_drewN | apply below_drew1 | refine below_set ?_ GE227.out) | exact HB.out)) hb); clear BK227; clear HB; have BK227 := n0_; have HB := n1_; clear n0_ n1_; (try clear hb); (try clear hb2); (try clear hk); (try clear hi)))
        go_meet
        case rel => exact ⟨_, ((t236 != t234)), (by first | rfl | (simp; done) | (simp [*]; done)), H', ⟨by first | omega | exact Nat.le_refl _⟩, ⟨by (with_reducible repeat (first | refine blk_drewN ?_ _ | refine blk_drew ?_ | refine blk_alloc ?_ _)); exact BK227.out⟩, ⟨by repeat (first | (with_reducible first | exact HB.out | apply below_alloc | apply pw_below_drewN | apply below_drew1 | refine below_set ?_ GE227.out) | exact HB.out)⟩⟩
      · replace c20 := Bool.eq_false_iff.mpr c20
        subst c20
        have H1 : (lamellalaw06_StripeWhere.j0 k a1 a2 a3 t229 t230 t231 t232 t233 t234 true a0_0 a0_1 a0_2) = some r := by rw [if_neg (show ¬ (false = true) by decide)] at H; exact H
        clear H
        have H := H1
        clear H1
        have H' := Aside0.mk H
        clear H
        go_wp2_with (first | ((with_reducible refine gate_callee (f := 11) rfl ?_); refine goesL_ (some 36) rfl rfl Try.func11 (by kernel_rfl) rfl #[] rfl (by (try simp only [List.map_toArray, List.map_cons, List.map_nil]); first | done | rfl | (simp only [List.length_drop, List.length_take]; rfl)) ?_; (with_reducible refine (lamellalaw06_alive.calls k  false _ A19.out).mono ?_); rintro e w25 ⟨rfl, hb⟩; refine ⟨_, rfl, ?_⟩; have n0_ := Aside0.mk (blk_below (g := gb227) (o := .cells #[.int .i64 a0_0, .int .i64 a0_1, .int .i64 a0_2] 23 (0, 0)) (by (with_reducible repeat (first | refine blk_drewN ?_ _ | refine blk_drew ?_ | refine blk_alloc ?_ _)); exact BK227.out) hb); have n1_ := Aside0.mk (below_step (by repeat (first | (with_reducible first | exact HB.out | apply below_alloc | apply pw_below_drewN | apply below_drew1 | refine below_set ?_ GE227.out) | exact HB.out)) hb); clear BK227; clear HB; have BK227 := n0_; have HB := n1_; clear n0_ n1_; (try clear hb); (try clear hb2); (try clear hk); (try clear hi)))
        go_meet
        case rel => exact ⟨_, (true), (by first | rfl | (simp; done) | (simp [*]; done)), H', ⟨by first | omega | exact Nat.le_refl _⟩, ⟨by (with_reducible repeat (first | refine blk_drewN ?_ _ | refine blk_drew ?_ | refine blk_alloc ?_ _)); exact BK227.out⟩, ⟨by repeat (first | (with_reducible first | exact HB.out | apply below_alloc | apply pw_below_drewN | apply below_drew1 | refine below_set ?_ GE227.out) | exact HB.out)⟩⟩
    case rest =>
      clear HC10
      try clear c1
      try clear c2
      try clear p2
      try clear c6
      try clear c9
      try clear c11
      try clear c13
      try clear c19
      try clear c20
      try clear c21
      try clear hcz13_0
      try clear hcz13_1
      try clear hcz13_2
      try clear hcz15_0
      try clear hcz15_1
      try clear hcz15_2
      try clear hcz17_0
      try clear hcz17_1
      try clear hcz17_2
      try clear hcz23_0
      try clear hcz23_1
      try clear hcz23_2
      try clear hfz13_0
      try clear hfz13_1
      try clear hfz13_2
      try clear hfz15_0
      try clear hfz15_1
      try clear hfz15_2
      try clear hfz17_0
      try clear hfz17_1
      try clear hfz17_2
      try clear hfz23_0
      try clear hfz23_1
      try clear hfz23_2
      obtain ⟨kq, x43_9, rfl, HA, HJ9, BK227, HB⟩ := hcut
      cases kq with
      | zero => exact absurd HA.out (by simp [lamellalaw06_StripeWhere.j0])
      | succ kj9 =>
        have H := HA.out
        clear HA
        simp only [lamellalaw06_StripeWhere.j0] at H
        by_cases c26 : x43_9 = true
        · subst c26
          have H1 : (some false) = some r := by rw [if_pos rfl] at H; exact H
          clear H
          have H := H1
          clear H1
          obtain rfl := Option.some.inj H
          go_wp2
          all_goals
            go_ret
            exact ⟨by first | rfl | (simp [errW_none, errW_some] <;> rfl) | (simp [*, errW_none, errW_some] <;> rfl), by repeat (first | (with_reducible first | exact HB.out | apply below_alloc | apply pw_below_drewN | apply below_drew1 | refine below_set ?_ GE227.out) | exact HB.out)⟩
        · replace c26 := Bool.eq_false_iff.mpr c26
          subst c26
          have H1 : (if t234 = true then (if a1 < 0 then (lamellalaw06_StripeWhere.j1 kj9 a1 a2 a3 t229 t230 t231 t232 t233 t234 true a0_0 a0_1 a0_2) else (lamellalaw06_StripeWhere.j1 kj9 a1 a2 a3 t229 t230 t231 t232 t233 t234 (decide (a1 > 1023)) a0_0 a0_1 a0_2)) else (lamellalaw06_StripeWhere.j1 kj9 a1 a2 a3 t229 t230 t231 t232 t233 t234 true a0_0 a0_1 a0_2)) = some r := by rw [if_neg (show ¬ (false = true) by decide)] at H; exact H
          clear H
          have H := H1
          clear H1
          have HC27 := Aside0.mk H
          clear H
          go_upto_region 8 with (fail)
          go_cut [53] (fun v53 wc => ∃ (kq : Nat) (x53_26 : Bool), v53 = .bool x53_26 ∧ Aside0 (lamellalaw06_StripeWhere.j1 kq a1 a2 a3 t229 t230 t231 t232 t233 t234 x53_26 a0_0 a0_1 a0_2 = some r) ∧ Aside0 (kq ≤ kj9) ∧ Aside0 (wc.heap[gb227]? = some (.cells #[.int .i64 a0_0, .int .i64 a0_1, .int .i64 a0_2] 23 (0, 0))) ∧ Aside0 (Below w.heap.size w wc))
          case first =>
            have H := HC27.out
            clear HC27
            by_cases c28 : t234 = true
            · subst c28
              have H1 : (if a1 < 0 then (lamellalaw06_StripeWhere.j1 kj9 a1 a2 a3 t229 t230 t231 t232 t233 true true a0_0 a0_1 a0_2) else (lamellalaw06_StripeWhere.j1 kj9 a1 a2 a3 t229 t230 t231 t232 t233 true (decide (a1 > 1023)) a0_0 a0_1 a0_2)) = some r := by rw [if_pos rfl] at H; exact H
              clear H
              have H := H1
              clear H1
              by_cases c29 : a1 < 0
              · rw [if_pos c29] at H
                have c29b0 : decide (a1 < 0) = true := decide_eq_true c29
                clear c29
                (first | rw [c29b0] | (simp only [i64_w, i32_w]; rw [c29b0]) | skip)
                have H' := Aside0.mk H
                clear H
                go_wp2
                go_meet
                case rel => exact ⟨_, (true), (by first | rfl | (simp; done) | (simp [*]; done)), H', ⟨by have := HJ9.out; first | omega | exact Nat.le_refl _⟩, ⟨by (with_reducible repeat (first | refine blk_drewN ?_ _ | refine blk_drew ?_ | refine blk_alloc ?_ _)); exact BK227.out⟩, ⟨by repeat (first | (with_reducible first | exact HB.out | apply below_alloc | apply pw_below_drewN | apply below_drew1 | refine below_set ?_ GE227.out) | exact HB.out)⟩⟩
              · rw [if_neg c29] at H
                have c29b0 : decide (a1 < 0) = false := decide_eq_false c29
                clear c29
                (first | rw [c29b0] | (simp only [i64_w, i32_w]; rw [c29b0]) | skip)
                have H' := Aside0.mk H
                clear H
                go_wp2
                go_meet
                case rel => exact ⟨_, (decide (a1 > 1023)), (by first | rfl | (simp; done) | (simp [*]; done)), H', ⟨by have := HJ9.out; first | omega | exact Nat.le_refl _⟩, ⟨by (with_reducible repeat (first | refine blk_drewN ?_ _ | refine blk_drew ?_ | refine blk_alloc ?_ _)); exact BK227.out⟩, ⟨by repeat (first | (with_reducible first | exact HB.out | apply below_alloc | apply pw_below_drewN | apply below_drew1 | refine below_set ?_ GE227.out) | exact HB.out)⟩⟩
            · replace c28 := Bool.eq_false_iff.mpr c28
              subst c28
              have H1 : (lamellalaw06_StripeWhere.j1 kj9 a1 a2 a3 t229 t230 t231 t232 t233 false true a0_0 a0_1 a0_2) = some r := by rw [if_neg (show ¬ (false = true) by decide)] at H; exact H
              clear H
              have H := H1
              clear H1
              have H' := Aside0.mk H
              clear H
              go_wp2
              go_meet
              case rel => exact ⟨_, (true), (by first | rfl | (simp; done) | (simp [*]; done)), H', ⟨by have := HJ9.out; first | omega | exact Nat.le_refl _⟩, ⟨by (with_reducible repeat (first | refine blk_drewN ?_ _ | refine blk_drew ?_ | refine blk_alloc ?_ _)); exact BK227.out⟩, ⟨by repeat (first | (with_reducible first | exact HB.out | apply below_alloc | apply pw_below_drewN | apply below_drew1 | refine below_set ?_ GE227.out) | exact HB.out)⟩⟩
          case rest =>
            clear HC27
            try clear c1
            try clear c2
            try clear p2
            try clear c6
            try clear c9
            try clear c11
            try clear c13
            try clear c19
            try clear c20
            try clear c21
            try clear c26
            try clear c28
            try clear c29
            try clear c29b0
            try clear hcz13_0
            try clear hcz13_1
            try clear hcz13_2
            try clear hcz15_0
            try clear hcz15_1
            try clear hcz15_2
            try clear hcz17_0
            try clear hcz17_1
            try clear hcz17_2
            try clear hcz23_0
            try clear hcz23_1
            try clear hcz23_2
            try clear hfz13_0
            try clear hfz13_1
            try clear hfz13_2
            try clear hfz15_0
            try clear hfz15_1
            try clear hfz15_2
            try clear hfz17_0
            try clear hfz17_1
            try clear hfz17_2
            try clear hfz23_0
            try clear hfz23_1
            try clear hfz23_2
            try clear p2
            obtain ⟨kq, x53_26, rfl, HA, HJ26, BK227, HB⟩ := hcut
            cases kq with
            | zero => exact absurd HA.out (by simp [lamellalaw06_StripeWhere.j1])
            | succ kj26 =>
              have H := HA.out
              clear HA
              simp only [lamellalaw06_StripeWhere.j1] at H
              have HC30 := Aside0.mk H
              clear H
              go_upto_if 53 with (fail)
              go_cut [] (fun wc => ∃ (kq : Nat), Aside0 (lamellalaw06_StripeWhere.j2 kq a2 a3 t232 t233 t234 a0_0 a0_1 a0_2 = some r) ∧ Aside0 (kq ≤ kj26) ∧ Aside0 (wc.heap[gb227]? = some (.cells #[.int .i64 a0_0, .int .i64 a0_1, .int .i64 a0_2] 23 (0, 0))) ∧ Aside0 (Below w.heap.size w wc))
              case first =>
                have H := HC30.out
                clear HC30
                by_cases c31 : x53_26 = true
                · subst c31
                  have H1 : (if t229 = 0 then (if t230 = 0 then (if t231 = 1 then (lamellalaw06_StripeWhere.j2 kj26 a2 a3 t232 t233 t234 a0_0 a0_1 a0_2) else (some false)) else (some false)) else (some false)) = some r := by rw [if_pos rfl] at H; exact H
                  clear H
                  have H := H1
                  clear H1
                  by_cases c32 : t229 = 0
                  · rw [if_pos c32] at H
                    have c32b0 : (t229 == 0) = true := beq_iff_eq.mpr c32
                    have c32b1 : (t229 != 0) = false := bne_eq_false_iff_eq.mpr c32
                    clear c32
                    (first | rw [c32b0] | (simp only [i64_w, i32_w]; rw [c32b0]) | skip)
                    by_cases c33 : t230 = 0
                    · rw [if_pos c33] at H
                      have c33b0 : (t230 == 0) = true := beq_iff_eq.mpr c33
                      have c33b1 : (t230 != 0) = false := bne_eq_false_iff_eq.mpr c33
                      clear c33
                      by_cases c34 : t231 = 1
                      · rw [if_pos c34] at H
                        have c34b0 : (t231 == 1) = true := beq_iff_eq.mpr c34
                        have c34b1 : (t231 != 1) = false := bne_eq_false_iff_eq.mpr c34
                        clear c34
                        have H' := Aside0.mk H
                        clear H
                        go_wp2
                        go_meet
                        case rel => exact ⟨_, H', ⟨by have := HJ9.out; have := HJ26.out; first | omega | exact Nat.le_refl _⟩, ⟨by (with_reducible repeat (first | refine blk_drewN ?_ _ | refine blk_drew ?_ | refine blk_alloc ?_ _)); exact BK227.out⟩, ⟨by repeat (first | (with_reducible first | exact HB.out | apply below_alloc | apply pw_below_drewN | apply below_drew1 | refine below_set ?_ GE227.out) | exact HB.out)⟩⟩
                      · rw [if_neg c34] at H
                        have c34b0 : (t231 == 1) = false := beq_eq_false_iff_ne.mpr c34
                        have c34b1 : (t231 != 1) = true := bne_iff_ne.mpr c34
                        obtain rfl := Option.some.inj H
                        go_wp2
                        all_goals
                          go_ret
                          exact ⟨by first | rfl | (simp [errW_none, errW_some] <;> rfl) | (simp [*, errW_none, errW_some] <;> rfl), by repeat (first | (with_reducible first | exact HB.out | apply below_alloc | apply pw_below_drewN | apply below_drew1 | refine below_set ?_ GE227.out) | exact HB.out)⟩
                    · rw [if_neg c33] at H
                      have c33b0 : (t230 == 0) = false := beq_eq_false_iff_ne.mpr c33
                      have c33b1 : (t230 != 0) = true := bne_iff_ne.mpr c33
                      obtain rfl := Option.some.inj H
                      go_wp2
                      all_goals
                        go_ret
                        exact ⟨by first | rfl | (simp [errW_none, errW_some] <;> rfl) | (simp [*, errW_none, errW_some] <;> rfl), by repeat (first | (with_reducible first | exact HB.out | apply below_alloc | apply pw_below_drewN | apply below_drew1 | refine below_set ?_ GE227.out) | exact HB.out)⟩
                  · rw [if_neg c32] at H
                    have c32b0 : (t229 == 0) = false := beq_eq_false_iff_ne.mpr c32
                    have c32b1 : (t229 != 0) = true := bne_iff_ne.mpr c32
                    (first | rw [c32b0] | (simp only [i64_w, i32_w]; rw [c32b0]) | skip)
                    obtain rfl := Option.some.inj H
                    go_wp2
                    all_goals
                      go_ret
                      exact ⟨by first | rfl | (simp [errW_none, errW_some] <;> rfl) | (simp [*, errW_none, errW_some] <;> rfl), by repeat (first | (with_reducible first | exact HB.out | apply below_alloc | apply pw_below_drewN | apply below_drew1 | refine below_set ?_ GE227.out) | exact HB.out)⟩
                · replace c31 := Bool.eq_false_iff.mpr c31
                  subst c31
                  have H1 : ((lamellaref06_Where.f a0_0 a0_1 a0_2 a1).bind fun bt237 => (if t229 = bt237.1 then (if t230 = bt237.2 then (if t231 = 0 then (lamellalaw06_StripeWhere.j2 kj26 a2 a3 t232 t233 t234 a0_0 a0_1 a0_2) else (some false)) else (some false)) else (some false))) = some r := by rw [if_neg (show ¬ (false = true) by decide)] at H; exact H
                  clear H
                  have H := H1
                  clear H1
                  replace H := Option.bind_eq_some_iff.mp H
                  obtain ⟨⟨t237, t238⟩, A350, H⟩ := H
                  replace H : (if t229 = t237 then (if t230 = t238 then (if t231 = 0 then (lamellalaw06_StripeWhere.j2 kj26 a2 a3 t232 t233 t234 a0_0 a0_1 a0_2) else (some false)) else (some false)) else (some false)) = some r := H
                  have A35 := Aside0.mk A350
                  clear A350
                  by_cases c36 : t229 = t237
                  · rw [if_pos c36] at H
                    have c36b0 : (t229 == t237) = true := beq_iff_eq.mpr c36
                    have c36b1 : (t229 != t237) = false := bne_eq_false_iff_eq.mpr c36
                    clear c36
                    by_cases c37 : t230 = t238
                    · rw [if_pos c37] at H
                      have c37b0 : (t230 == t238) = true := beq_iff_eq.mpr c37
                      have c37b1 : (t230 != t238) = false := bne_eq_false_iff_eq.mpr c37
                      clear c37
                      by_cases c38 : t231 = 0
                      · rw [if_pos c38] at H
                        have c38b0 : (t231 == 0) = true := beq_iff_eq.mpr c38
                        have c38b1 : (t231 != 0) = false := bne_eq_false_iff_eq.mpr c38
                        clear c38
                        have H' := Aside0.mk H
                        clear H
                        have hcz39_0 : wc.cell? ⟨gb227, 0, none⟩ = some (.int .i64 a0_0) := (blk_cell BK227.out 0).trans rfl
                        have hcz39_1 : wc.cell? ⟨gb227, 1, none⟩ = some (.int .i64 a0_1) := (blk_cell BK227.out 1).trans rfl
                        have hcz39_2 : wc.cell? ⟨gb227, 2, none⟩ = some (.int .i64 a0_2) := (blk_cell BK227.out 2).trans rfl
                        have hfz39_0 := blk_frozen BK227.out 0
                        have hfz39_1 := blk_frozen BK227.out 1
                        have hfz39_2 := blk_frozen BK227.out 2
                        go_wp2_with (first | ((with_reducible refine gate_callee (f := 22) rfl ?_); refine goesL_ (some 67) rfl rfl Try.func22 (by kernel_rfl) rfl #[.agg #[.int .i64 a0_0, .int .i64 a0_1, .int .i64 a0_2], .int .i64 a1] rfl (by (try simp only [List.map_toArray, List.map_cons, List.map_nil]); first | done | rfl | (simp only [List.length_drop, List.length_take]; rfl)) ?_; (with_reducible refine (lamellaref06_Where.calls a0_0 a0_1 a0_2 a1 t237 t238 _ A35.out).mono ?_); rintro e w40 ⟨rfl, hb⟩; refine ⟨_, rfl, ?_⟩; have n0_ := Aside0.mk (blk_below (g := gb227) (o := .cells #[.int .i64 a0_0, .int .i64 a0_1, .int .i64 a0_2] 23 (0, 0)) (by (with_reducible repeat (first | refine blk_drewN ?_ _ | refine blk_drew ?_ | refine blk_alloc ?_ _)); exact BK227.out) hb); have n1_ := Aside0.mk (below_step (by repeat (first | (with_reducible first | exact HB.out | apply below_alloc | apply pw_below_drewN | apply below_drew1 | refine below_set ?_ GE227.out) | exact HB.out)) hb); clear BK227; clear HB; have BK227 := n0_; have HB := n1_; clear n0_ n1_; (try clear hb); (try clear hb2); (try clear hk); (try clear hi)))
                        go_meet
                        case rel => exact ⟨_, H', ⟨by have := HJ9.out; have := HJ26.out; first | omega | exact Nat.le_refl _⟩, ⟨by (with_reducible repeat (first | refine blk_drewN ?_ _ | refine blk_drew ?_ | refine blk_alloc ?_ _)); exact BK227.out⟩, ⟨by repeat (first | (with_reducible first | exact HB.out | apply below_alloc | apply pw_below_drewN | apply below_drew1 | refine below_set ?_ GE227.out) | exact HB.out)⟩⟩
                      · rw [if_neg c38] at H
                        have c38b0 : (t231 == 0) = false := beq_eq_false_iff_ne.mpr c38
                        have c38b1 : (t231 != 0) = true := bne_iff_ne.mpr c38
                        obtain rfl := Option.some.inj H
                        have hcz41_0 : wc.cell? ⟨gb227, 0, none⟩ = some (.int .i64 a0_0) := (blk_cell BK227.out 0).trans rfl
                        have hcz41_1 : wc.cell? ⟨gb227, 1, none⟩ = some (.int .i64 a0_1) := (blk_cell BK227.out 1).trans rfl
                        have hcz41_2 : wc.cell? ⟨gb227, 2, none⟩ = some (.int .i64 a0_2) := (blk_cell BK227.out 2).trans rfl
                        have hfz41_0 := blk_frozen BK227.out 0
                        have hfz41_1 := blk_frozen BK227.out 1
                        have hfz41_2 := blk_frozen BK227.out 2
                        go_wp2_with (first | ((with_reducible refine gate_callee (f := 22) rfl ?_); refine goesL_ (some 67) rfl rfl Try.func22 (by kernel_rfl) rfl #[.agg #[.int .i64 a0_0, .int .i64 a0_1, .int .i64 a0_2], .int .i64 a1] rfl (by (try simp only [List.map_toArray, List.map_cons, List.map_nil]); first | done | rfl | (simp only [List.length_drop, List.length_take]; rfl)) ?_; (with_reducible refine (lamellaref06_Where.calls a0_0 a0_1 a0_2 a1 t237 t238 _ A35.out).mono ?_); rintro e w42 ⟨rfl, hb⟩; refine ⟨_, rfl, ?_⟩; have n0_ := Aside0.mk (blk_below (g := gb227) (o := .cells #[.int .i64 a0_0, .int .i64 a0_1, .int .i64 a0_2] 23 (0, 0)) (by (with_reducible repeat (first | refine blk_drewN ?_ _ | refine blk_drew ?_ | refine blk_alloc ?_ _)); exact BK227.out) hb); have n1_ := Aside0.mk (below_step (by repeat (first | (with_reducible first | exact HB.out | apply below_alloc | apply pw_below_drewN | apply below_drew1 | refine below_set ?_ GE227.out) | exact HB.out)) hb); clear BK227; clear HB; have BK227 := n0_; have HB := n1_; clear n0_ n1_; (try clear hb); (try clear hb2); (try clear hk); (try clear hi)))
                        all_goals
                          go_ret
                          exact ⟨by first | rfl | (simp [errW_none, errW_some] <;> rfl) | (simp [*, errW_none, errW_some] <;> rfl), by repeat (first | (with_reducible first | exact HB.out | apply below_alloc | apply pw_below_drewN | apply below_drew1 | refine below_set ?_ GE227.out) | exact HB.out)⟩
                    · rw [if_neg c37] at H
                      have c37b0 : (t230 == t238) = false := beq_eq_false_iff_ne.mpr c37
                      have c37b1 : (t230 != t238) = true := bne_iff_ne.mpr c37
                      obtain rfl := Option.some.inj H
                      have hcz43_0 : wc.cell? ⟨gb227, 0, none⟩ = some (.int .i64 a0_0) := (blk_cell BK227.out 0).trans rfl
                      have hcz43_1 : wc.cell? ⟨gb227, 1, none⟩ = some (.int .i64 a0_1) := (blk_cell BK227.out 1).trans rfl
                      have hcz43_2 : wc.cell? ⟨gb227, 2, none⟩ = some (.int .i64 a0_2) := (blk_cell BK227.out 2).trans rfl
                      have hfz43_0 := blk_frozen BK227.out 0
                      have hfz43_1 := blk_frozen BK227.out 1
                      have hfz43_2 := blk_frozen BK227.out 2
                      go_wp2_with (first | ((with_reducible refine gate_callee (f := 22) rfl ?_); refine goesL_ (some 67) rfl rfl Try.func22 (by kernel_rfl) rfl #[.agg #[.int .i64 a0_0, .int .i64 a0_1, .int .i64 a0_2], .int .i64 a1] rfl (by (try simp only [List.map_toArray, List.map_cons, List.map_nil]); first | done | rfl | (simp only [List.length_drop, List.length_take]; rfl)) ?_; (with_reducible refine (lamellaref06_Where.calls a0_0 a0_1 a0_2 a1 t237 t238 _ A35.out).mono ?_); rintro e w44 ⟨rfl, hb⟩; refine ⟨_, rfl, ?_⟩; have n0_ := Aside0.mk (blk_below (g := gb227) (o := .cells #[.int .i64 a0_0, .int .i64 a0_1, .int .i64 a0_2] 23 (0, 0)) (by (with_reducible repeat (first | refine blk_drewN ?_ _ | refine blk_drew ?_ | refine blk_alloc ?_ _)); exact BK227.out) hb); have n1_ := Aside0.mk (below_step (by repeat (first | (with_reducible first | exact HB.out | apply below_alloc | apply pw_below_drewN | apply below_drew1 | refine below_set ?_ GE227.out) | exact HB.out)) hb); clear BK227; clear HB; have BK227 := n0_; have HB := n1_; clear n0_ n1_; (try clear hb); (try clear hb2); (try clear hk); (try clear hi)))
                      all_goals
                        go_ret
                        exact ⟨by first | rfl | (simp [errW_none, errW_some] <;> rfl) | (simp [*, errW_none, errW_some] <;> rfl), by repeat (first | (with_reducible first | exact HB.out | apply below_alloc | apply pw_below_drewN | apply below_drew1 | refine below_set ?_ GE227.out) | exact HB.out)⟩
                  · rw [if_neg c36] at H
                    have c36b0 : (t229 == t237) = false := beq_eq_false_iff_ne.mpr c36
                    have c36b1 : (t229 != t237) = true := bne_iff_ne.mpr c36
                    obtain rfl := Option.some.inj H
                    have hcz45_0 : wc.cell? ⟨gb227, 0, none⟩ = some (.int .i64 a0_0) := (blk_cell BK227.out 0).trans rfl
                    have hcz45_1 : wc.cell? ⟨gb227, 1, none⟩ = some (.int .i64 a0_1) := (blk_cell BK227.out 1).trans rfl
                    have hcz45_2 : wc.cell? ⟨gb227, 2, none⟩ = some (.int .i64 a0_2) := (blk_cell BK227.out 2).trans rfl
                    have hfz45_0 := blk_frozen BK227.out 0
                    have hfz45_1 := blk_frozen BK227.out 1
                    have hfz45_2 := blk_frozen BK227.out 2
                    go_wp2_with (first | ((with_reducible refine gate_callee (f := 22) rfl ?_); refine goesL_ (some 67) rfl rfl Try.func22 (by kernel_rfl) rfl #[.agg #[.int .i64 a0_0, .int .i64 a0_1, .int .i64 a0_2], .int .i64 a1] rfl (by (try simp only [List.map_toArray, List.map_cons, List.map_nil]); first | done | rfl | (simp only [List.length_drop, List.length_take]; rfl)) ?_; (with_reducible refine (lamellaref06_Where.calls a0_0 a0_1 a0_2 a1 t237 t238 _ A35.out).mono ?_); rintro e w46 ⟨rfl, hb⟩; refine ⟨_, rfl, ?_⟩; have n0_ := Aside0.mk (blk_below (g := gb227) (o := .cells #[.int .i64 a0_0, .int .i64 a0_1, .int .i64 a0_2] 23 (0, 0)) (by (with_reducible repeat (first | refine blk_drewN ?_ _ | refine blk_drew ?_ | refine blk_alloc ?_ _)); exact BK227.out) hb); have n1_ := Aside0.mk (below_step (by repeat (first | (with_reducible first | exact HB.out | apply below_alloc | apply pw_below_drewN | apply below_drew1 | refine below_set ?_ GE227.out) | exact HB.out)) hb); clear BK227; clear HB; have BK227 := n0_; have HB := n1_; clear n0_ n1_; (try clear hb); (try clear hb2); (try clear hk); (try clear hi)))
                    all_goals
                      go_ret
                      exact ⟨by first | rfl | (simp [errW_none, errW_some] <;> rfl) | (simp [*, errW_none, errW_some] <;> rfl), by repeat (first | (with_reducible first | exact HB.out | apply below_alloc | apply pw_below_drewN | apply below_drew1 | refine below_set ?_ GE227.out) | exact HB.out)⟩
              case rest =>
                clear HC30
                try clear c1
                try clear c2
                try clear p2
                try clear c3
                try clear c6
                try clear c9
                try clear c11
                try clear c13
                try clear c19
                try clear c20
                try clear c21
                try clear c22
                try clear c26
                try clear c28
                try clear c29
                try clear c29b0
                try clear c31
                try clear c32
                try clear c32b0
                try clear c32b1
                try clear c33
                try clear c33b0
                try clear c33b1
                try clear c34
                try clear c34b0
                try clear c34b1
                try clear c36
                try clear c36b0
                try clear c36b1
                try clear c37
                try clear c37b0
                try clear c37b1
                try clear c38
                try clear c38b0
                try clear c38b1
                try clear hcz13_0
                try clear hcz13_1
                try clear hcz13_2
                try clear hcz15_0
                try clear hcz15_1
                try clear hcz15_2
                try clear hcz17_0
                try clear hcz17_1
                try clear hcz17_2
                try clear hcz23_0
                try clear hcz23_1
                try clear hcz23_2
                try clear hcz39_0
                try clear hcz39_1
                try clear hcz39_2
                try clear hcz41_0
                try clear hcz41_1
                try clear hcz41_2
                try clear hcz43_0
                try clear hcz43_1
                try clear hcz43_2
                try clear hcz45_0
                try clear hcz45_1
                try clear hcz45_2
                try clear hfz13_0
                try clear hfz13_1
                try clear hfz13_2
                try clear hfz15_0
                try clear hfz15_1
                try clear hfz15_2
                try clear hfz17_0
                try clear hfz17_1
                try clear hfz17_2
                try clear hfz23_0
                try clear hfz23_1
                try clear hfz23_2
                try clear hfz39_0
                try clear hfz39_1
                try clear hfz39_2
                try clear hfz41_0
                try clear hfz41_1
                try clear hfz41_2
                try clear hfz43_0
                try clear hfz43_1
                try clear hfz43_2
                try clear hfz45_0
                try clear hfz45_1
                try clear hfz45_2
                try clear p2
                obtain ⟨kq, HA, HJ29, BK227, HB⟩ := hcut
                cases kq with
                | zero => exact absurd HA.out (by simp [lamellalaw06_StripeWhere.j2])
                | succ kj29 =>
                  have H := HA.out
                  clear HA
                  simp only [lamellalaw06_StripeWhere.j2] at H
                  by_cases c47 : t234 = true
                  · subst c47
                    have H1 : ((lamellaref06_Back.f kj29 a0_0 a0_1 a0_2 a2 a3).bind fun t239 => (if t239 < 0 then (if t232 = 0 then (some (t233 == 1)) else (some false)) else (if t232 = t239 then (some (t233 == 0)) else (some false)))) = some r := by rw [if_pos rfl] at H; exact H
                    clear H
                    have H := H1
                    clear H1
                    replace H := Option.bind_eq_some_iff.mp H
                    obtain ⟨t239, A480, H⟩ := H
                    replace H : (if t239 < 0 then (if t232 = 0 then (some (t233 == 1)) else (some false)) else (if t232 = t239 then (some (t233 == 0)) else (some false))) = some r := H
                    have A48 := Aside0.mk A480
                    clear A480
                    by_cases c49 : t239 < 0
                    · rw [if_pos c49] at H
                      have c49b0 : decide (t239 < 0) = true := decide_eq_true c49
                      clear c49
                      by_cases c50 : t232 = 0
                      · rw [if_pos c50] at H
                        have c50b0 : (t232 == 0) = true := beq_iff_eq.mpr c50
                        have c50b1 : (t232 != 0) = false := bne_eq_false_iff_eq.mpr c50
                        clear c50
                        obtain rfl := Option.some.inj H
                        have hcz51_0 : wc.cell? ⟨gb227, 0, none⟩ = some (.int .i64 a0_0) := (blk_cell BK227.out 0).trans rfl
                        have hcz51_1 : wc.cell? ⟨gb227, 1, none⟩ = some (.int .i64 a0_1) := (blk_cell BK227.out 1).trans rfl
                        have hcz51_2 : wc.cell? ⟨gb227, 2, none⟩ = some (.int .i64 a0_2) := (blk_cell BK227.out 2).trans rfl
                        have hfz51_0 := blk_frozen BK227.out 0
                        have hfz51_1 := blk_frozen BK227.out 1
                        have hfz51_2 := blk_frozen BK227.out 2
                        go_wp2_with (first | ((with_reducible refine gate_callee (f := 23) rfl ?_); refine goesL_ (some 86) rfl rfl Try.func23 (by kernel_rfl) rfl #[.agg #[.int .i64 a0_0, .int .i64 a0_1, .int .i64 a0_2], .int .i64 a2, .int .i64 a3] rfl (by (try simp only [List.map_toArray, List.map_cons, List.map_nil]); first | done | rfl | (simp only [List.length_drop, List.length_take]; rfl)) ?_; (with_reducible refine (lamellaref06_Back.calls kj29 a0_0 a0_1 a0_2 a2 a3 t239 _ A48.out).mono ?_); rintro e w52 ⟨rfl, hb⟩; refine ⟨_, rfl, ?_⟩; have n0_ := Aside0.mk (blk_below (g := gb227) (o := .cells #[.int .i64 a0_0, .int .i64 a0_1, .int .i64 a0_2] 23 (0, 0)) (by (with_reducible repeat (first | refine blk_drewN ?_ _ | refine blk_drew ?_ | refine blk_alloc ?_ _)); exact BK227.out) hb); have n1_ := Aside0.mk (below_step (by repeat (first | (with_reducible first | exact HB.out | apply below_alloc | apply pw_below_drewN | apply below_drew1 | refine below_set ?_ GE227.out) | exact HB.out)) hb); clear BK227; clear HB; have BK227 := n0_; have HB := n1_; clear n0_ n1_; (try clear hb); (try clear hb2); (try clear hk); (try clear hi)))
                        all_goals
                          go_ret
                          exact ⟨by first | rfl | (simp [errW_none, errW_some] <;> rfl) | (simp [*, errW_none, errW_some] <;> rfl), by repeat (first | (with_reducible first | exact HB.out | apply below_alloc | apply pw_below_drewN | apply below_drew1 | refine below_set ?_ GE227.out) | exact HB.out)⟩
                      · rw [if_neg c50] at H
                        have c50b0 : (t232 == 0) = false := beq_eq_false_iff_ne.mpr c50
                        have c50b1 : (t232 != 0) = true := bne_iff_ne.mpr c50
                        obtain rfl := Option.some.inj H
                        have hcz53_0 : wc.cell? ⟨gb227, 0, none⟩ = some (.int .i64 a0_0) := (blk_cell BK227.out 0).trans rfl
                        have hcz53_1 : wc.cell? ⟨gb227, 1, none⟩ = some (.int .i64 a0_1) := (blk_cell BK227.out 1).trans rfl
                        have hcz53_2 : wc.cell? ⟨gb227, 2, none⟩ = some (.int .i64 a0_2) := (blk_cell BK227.out 2).trans rfl
                        have hfz53_0 := blk_frozen BK227.out 0
                        have hfz53_1 := blk_frozen BK227.out 1
                        have hfz53_2 := blk_frozen BK227.out 2
                        go_wp2_with (first | ((with_reducible refine gate_callee (f := 23) rfl ?_); refine goesL_ (some 86) rfl rfl Try.func23 (by kernel_rfl) rfl #[.agg #[.int .i64 a0_0, .int .i64 a0_1, .int .i64 a0_2], .int .i64 a2, .int .i64 a3] rfl (by (try simp only [List.map_toArray, List.map_cons, List.map_nil]); first | done | rfl | (simp only [List.length_drop, List.length_take]; rfl)) ?_; (with_reducible refine (lamellaref06_Back.calls kj29 a0_0 a0_1 a0_2 a2 a3 t239 _ A48.out).mono ?_); rintro e w54 ⟨rfl, hb⟩; refine ⟨_, rfl, ?_⟩; have n0_ := Aside0.mk (blk_below (g := gb227) (o := .cells #[.int .i64 a0_0, .int .i64 a0_1, .int .i64 a0_2] 23 (0, 0)) (by (with_reducible repeat (first | refine blk_drewN ?_ _ | refine blk_drew ?_ | refine blk_alloc ?_ _)); exact BK227.out) hb); have n1_ := Aside0.mk (below_step (by repeat (first | (with_reducible first | exact HB.out | apply below_alloc | apply pw_below_drewN | apply below_drew1 | refine below_set ?_ GE227.out) | exact HB.out)) hb); clear BK227; clear HB; have BK227 := n0_; have HB := n1_; clear n0_ n1_; (try clear hb); (try clear hb2); (try clear hk); (try clear hi)))
                        all_goals
                          go_ret
                          exact ⟨by first | rfl | (simp [errW_none, errW_some] <;> rfl) | (simp [*, errW_none, errW_some] <;> rfl), by repeat (first | (with_reducible first | exact HB.out | apply below_alloc | apply pw_below_drewN | apply below_drew1 | refine below_set ?_ GE227.out) | exact HB.out)⟩
                    · rw [if_neg c49] at H
                      have c49b0 : decide (t239 < 0) = false := decide_eq_false c49
                      clear c49
                      by_cases c55 : t232 = t239
                      · rw [if_pos c55] at H
                        have c55b0 : (t232 == t239) = true := beq_iff_eq.mpr c55
                        have c55b1 : (t232 != t239) = false := bne_eq_false_iff_eq.mpr c55
                        clear c55
                        obtain rfl := Option.some.inj H
                        have hcz56_0 : wc.cell? ⟨gb227, 0, none⟩ = some (.int .i64 a0_0) := (blk_cell BK227.out 0).trans rfl
                        have hcz56_1 : wc.cell? ⟨gb227, 1, none⟩ = some (.int .i64 a0_1) := (blk_cell BK227.out 1).trans rfl
                        have hcz56_2 : wc.cell? ⟨gb227, 2, none⟩ = some (.int .i64 a0_2) := (blk_cell BK227.out 2).trans rfl
                        have hfz56_0 := blk_frozen BK227.out 0
                        have hfz56_1 := blk_frozen BK227.out 1
                        have hfz56_2 := blk_frozen BK227.out 2
                        go_wp2_with (first | ((with_reducible refine gate_callee (f := 23) rfl ?_); refine goesL_ (some 86) rfl rfl Try.func23 (by kernel_rfl) rfl #[.agg #[.int .i64 a0_0, .int .i64 a0_1, .int .i64 a0_2], .int .i64 a2, .int .i64 a3] rfl (by (try simp only [List.map_toArray, List.map_cons, List.map_nil]); first | done | rfl | (simp only [List.length_drop, List.length_take]; rfl)) ?_; (with_reducible refine (lamellaref06_Back.calls kj29 a0_0 a0_1 a0_2 a2 a3 t239 _ A48.out).mono ?_); rintro e w57 ⟨rfl, hb⟩; refine ⟨_, rfl, ?_⟩; have n0_ := Aside0.mk (blk_below (g := gb227) (o := .cells #[.int .i64 a0_0, .int .i64 a0_1, .int .i64 a0_2] 23 (0, 0)) (by (with_reducible repeat (first | refine blk_drewN ?_ _ | refine blk_drew ?_ | refine blk_alloc ?_ _)); exact BK227.out) hb); have n1_ := Aside0.mk (below_step (by repeat (first | (with_reducible first | exact HB.out | apply below_alloc | apply pw_below_drewN | apply below_drew1 | refine below_set ?_ GE227.out) | exact HB.out)) hb); clear BK227; clear HB; have BK227 := n0_; have HB := n1_; clear n0_ n1_; (try clear hb); (try clear hb2); (try clear hk); (try clear hi)))
                        all_goals
                          go_ret
                          exact ⟨by first | rfl | (simp [errW_none, errW_some] <;> rfl) | (simp [*, errW_none, errW_some] <;> rfl), by repeat (first | (with_reducible first | exact HB.out | apply below_alloc | apply pw_below_drewN | apply below_drew1 | refine below_set ?_ GE227.out) | exact HB.out)⟩
                      · rw [if_neg c55] at H
                        have c55b0 : (t232 == t239) = false := beq_eq_false_iff_ne.mpr c55
                        have c55b1 : (t232 != t239) = true := bne_iff_ne.mpr c55
                        obtain rfl := Option.some.inj H
                        have hcz58_0 : wc.cell? ⟨gb227, 0, none⟩ = some (.int .i64 a0_0) := (blk_cell BK227.out 0).trans rfl
                        have hcz58_1 : wc.cell? ⟨gb227, 1, none⟩ = some (.int .i64 a0_1) := (blk_cell BK227.out 1).trans rfl
                        have hcz58_2 : wc.cell? ⟨gb227, 2, none⟩ = some (.int .i64 a0_2) := (blk_cell BK227.out 2).trans rfl
                        have hfz58_0 := blk_frozen BK227.out 0
                        have hfz58_1 := blk_frozen BK227.out 1
                        have hfz58_2 := blk_frozen BK227.out 2
                        go_wp2_with (first | ((with_reducible refine gate_callee (f := 23) rfl ?_); refine goesL_ (some 86) rfl rfl Try.func23 (by kernel_rfl) rfl #[.agg #[.int .i64 a0_0, .int .i64 a0_1, .int .i64 a0_2], .int .i64 a2, .int .i64 a3] rfl (by (try simp only [List.map_toArray, List.map_cons, List.map_nil]); first | done | rfl | (simp only [List.length_drop, List.length_take]; rfl)) ?_; (with_reducible refine (lamellaref06_Back.calls kj29 a0_0 a0_1 a0_2 a2 a3 t239 _ A48.out).mono ?_); rintro e w59 ⟨rfl, hb⟩; refine ⟨_, rfl, ?_⟩; have n0_ := Aside0.mk (blk_below (g := gb227) (o := .cells #[.int .i64 a0_0, .int .i64 a0_1, .int .i64 a0_2] 23 (0, 0)) (by (with_reducible repeat (first | refine blk_drewN ?_ _ | refine blk_drew ?_ | refine blk_alloc ?_ _)); exact BK227.out) hb); have n1_ := Aside0.mk (below_step (by repeat (first | (with_reducible first | exact HB.out | apply below_alloc | apply pw_below_drewN | apply below_drew1 | refine below_set ?_ GE227.out) | exact HB.out)) hb); clear BK227; clear HB; have BK227 := n0_; have HB := n1_; clear n0_ n1_; (try clear hb); (try clear hb2); (try clear hk); (try clear hi)))
                        all_goals
                          go_ret
                          exact ⟨by first | rfl | (simp [errW_none, errW_some] <;> rfl) | (simp [*, errW_none, errW_some] <;> rfl), by repeat (first | (with_reducible first | exact HB.out | apply below_alloc | apply pw_below_drewN | apply below_drew1 | refine below_set ?_ GE227.out) | exact HB.out)⟩
                  · replace c47 := Bool.eq_false_iff.mpr c47
                    subst c47
                    have H1 : (if (-1) < 0 then (if t232 = 0 then (some (t233 == 1)) else (some false)) else (if t232 = (-1) then (some (t233 == 0)) else (some false))) = some r := by rw [if_neg (show ¬ (false = true) by decide)] at H; exact H
                    clear H
                    have H := H1
                    clear H1
                    by_cases c60 : (-1) < 0
                    · rw [if_pos c60] at H
                      have c60b0 : decide ((-1) < 0) = true := decide_eq_true c60
                      clear c60
                      by_cases c61 : t232 = 0
                      · rw [if_pos c61] at H
                        have c61b0 : (t232 == 0) = true := beq_iff_eq.mpr c61
                        have c61b1 : (t232 != 0) = false := bne_eq_false_iff_eq.mpr c61
                        clear c61
                        obtain rfl := Option.some.inj H
                        go_wp2
                        all_goals
                          go_ret
                          exact ⟨by first | rfl | (simp [errW_none, errW_some] <;> rfl) | (simp [*, errW_none, errW_some] <;> rfl), by repeat (first | (with_reducible first | exact HB.out | apply below_alloc | apply pw_below_drewN | apply below_drew1 | refine below_set ?_ GE227.out) | exact HB.out)⟩
                      · rw [if_neg c61] at H
                        have c61b0 : (t232 == 0) = false := beq_eq_false_iff_ne.mpr c61
                        have c61b1 : (t232 != 0) = true := bne_iff_ne.mpr c61
                        obtain rfl := Option.some.inj H
                        go_wp2
                        all_goals
                          go_ret
                          exact ⟨by first | rfl | (simp [errW_none, errW_some] <;> rfl) | (simp [*, errW_none, errW_some] <;> rfl), by repeat (first | (with_reducible first | exact HB.out | apply below_alloc | apply pw_below_drewN | apply below_drew1 | refine below_set ?_ GE227.out) | exact HB.out)⟩
                    · rw [if_neg c60] at H
                      have c60b0 : decide ((-1) < 0) = false := decide_eq_false c60
                      clear c60
                      by_cases c62 : t232 = (-1)
                      · rw [if_pos c62] at H
                        have c62b0 : (t232 == (-1)) = true := beq_iff_eq.mpr c62
                        have c62b1 : (t232 != (-1)) = false := bne_eq_false_iff_eq.mpr c62
                        clear c62
                        obtain rfl := Option.some.inj H
                        go_wp2
                        all_goals
                          go_ret
                          exact ⟨by first | rfl | (simp [errW_none, errW_some] <;> rfl) | (simp [*, errW_none, errW_some] <;> rfl), by repeat (first | (with_reducible first | exact HB.out | apply below_alloc | apply pw_below_drewN | apply below_drew1 | refine below_set ?_ GE227.out) | exact HB.out)⟩
                      · rw [if_neg c62] at H
                        have c62b0 : (t232 == (-1)) = false := beq_eq_false_iff_ne.mpr c62
                        have c62b1 : (t232 != (-1)) = true := bne_iff_ne.mpr c62
                        obtain rfl := Option.some.inj H
                        go_wp2
                        all_goals
                          go_ret
                          exact ⟨by first | rfl | (simp [errW_none, errW_some] <;> rfl) | (simp [*, errW_none, errW_some] <;> rfl), by repeat (first | (with_reducible first | exact HB.out | apply below_alloc | apply pw_below_drewN | apply below_drew1 | refine below_set ?_ GE227.out) | exact HB.out)⟩
  · replace c6 := Bool.eq_false_iff.mpr c6
    subst c6
    have H1 : (some false) = some r := by rw [if_neg (show ¬ (false = true) by decide)] at H; exact H
    clear H
    have H := H1
    clear H1
    obtain rfl := Option.some.inj H
    go_enter Try.func9, Try.ntmps9
    go_wp2_with (first | ((with_reducible refine gate_dst (N := 4) rfl ?_); refine box_event ?hg (N := 4) ?hd (cs := #[.int .i64 a0_0, .int .i64 a0_1, .int .i64 a0_2]) (t := 23) ?hr ?_; (case hd => rfl); (case hg => rfl); (case hr => first | (go_simp; done) | (go_simp; rfl)); intro gb227 hg w63 hbox hb; have n0_ := Aside0.mk (below_step (by repeat (first | (with_reducible first | exact HB.out | apply below_alloc | apply pw_below_drewN | apply below_drew1) | exact HB.out)) hb); have n1_ := Aside0.mk (hbox); have n2_ := Aside0.mk ((by rw [hg]; exact (below_size (by repeat (first | (with_reducible first | exact HB.out | apply below_alloc | apply pw_below_drewN | apply below_drew1) | exact HB.out))) : w.heap.size ≤ gb227)); have n3_ := Aside0.mk ((by rw [hg]; exact (below_size (by repeat (first | (with_reducible first | exact HB.out | apply below_alloc | apply pw_below_drewN | apply below_drew1) | exact HB.out))) : w.heap.size ≤ gb227)); clear HB; have HB := n0_; have BK227 := n1_; have GW227 := n2_; have GE227 := n3_; clear n0_ n1_ n2_ n3_; clear hb hbox hg) | ((with_reducible refine gate_callee (f := 11) rfl ?_); refine goesL_ (some 18) rfl rfl Try.func11 (by kernel_rfl) rfl #[] rfl (by (try simp only [List.map_toArray, List.map_cons, List.map_nil]); first | done | rfl | (simp only [List.length_drop, List.length_take]; rfl)) ?_; (with_reducible refine (lamellalaw06_alive.calls k  false _ A5.out).mono ?_); rintro e w64 ⟨rfl, hb⟩; refine ⟨_, rfl, ?_⟩; have n0_ := Aside0.mk (blk_below (g := gb227) (o := .cells #[.int .i64 a0_0, .int .i64 a0_1, .int .i64 a0_2] 23 (0, 0)) (by (with_reducible repeat (first | refine blk_drewN ?_ _ | refine blk_drew ?_ | refine blk_alloc ?_ _)); exact BK227.out) hb); have n1_ := Aside0.mk (below_step (by repeat (first | (with_reducible first | exact HB.out | apply below_alloc | apply pw_below_drewN | apply below_drew1 | refine below_set ?_ GE227.out) | exact HB.out)) hb); clear BK227; clear HB; have BK227 := n0_; have HB := n1_; clear n0_ n1_; (try clear hb); (try clear hb2); (try clear hk); (try clear hi)))
    all_goals
      go_ret
      exact ⟨by first | rfl | (simp [errW_none, errW_some] <;> rfl) | (simp [*, errW_none, errW_some] <;> rfl), by repeat (first | (with_reducible first | exact HB.out | apply below_alloc | apply pw_below_drewN | apply below_drew1 | refine below_set ?_ GE227.out) | exact HB.out)⟩

end Go.Proofs.Ytaipmnelcpilaaa.P06
