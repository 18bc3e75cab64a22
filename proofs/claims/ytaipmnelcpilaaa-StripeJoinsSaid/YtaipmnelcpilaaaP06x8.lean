-- Written by a program of this session (wip/tools/printplus.py) over the kit's printer: some functions are given by hand.
import Derived.Test.YtaipmnelcpilaaaP06x0
import Derived.Test.YtaipmnelcpilaaaP06x2
namespace Go.Proofs.Ytaipmnelcpilaaa.P06
open Go.RowKit Go.Proofs.YtaipmnelcpilaaaW.PrintWords Go.Proofs.YtaipmnelcpilaaaW.PrintLast Go.Proofs.YtaipmnelcpilaaaW.PrintMore
attribute [local go_sem] max2_int min2_int max_two min_two max_three min_three max_four min_four   -- for this text's walks alone
set_option linter.unusedVariables false
set_option linter.unusedSimpArgs false

/-! ### lamellalaw06_StripeJoins: function 8 -/
mutual
def lamellalaw06_StripeJoins.j0 : Nat → Int → Int → Int → Bool → Int → Int → Int → Option (Bool)
  | 0, _, _, _, _, _, _, _ => none
  | k + 1, x1, x2, x3, x36, x205000, x205001, x205002 => if x36 = true then ((lamellalaw06_alive.f k).bind fun t206 => (some t206)) else ((stripe_Frags.f k x205000 x205001 x205002 x1 (wrap64 (x2 + x3))).bind fun bt207 => (if bt207.2 = 0 then ((stripe_Frags.f k x205000 x205001 x205002 x1 x2).bind fun bt212 => ((stripe_Frags.f k x205000 x205001 x205002 (wrap64 (x1 + x2)) x3).bind fun bt216 => (if bt212.2 = 0 then (lamellalaw06_StripeJoins.j1 k x1 x2 x3 bt207.1 bt212.1 bt216.1 (bt216.2 != 0) x205000 x205001 x205002) else (lamellalaw06_StripeJoins.j1 k x1 x2 x3 bt207.1 bt212.1 bt216.1 true x205000 x205001 x205002)))) else ((lamellalaw06_alive.f k).bind fun t211 => (some t211))))
def lamellalaw06_StripeJoins.j1 : Nat → Int → Int → Int → List (S38) → List (S38) → List (S38) → Bool → Int → Int → Int → Option (Bool)
  | 0, _, _, _, _, _, _, _, _, _, _ => none
  | k + 1, x1, x2, x3, x9, x11, x13, x71, x205000, x205001, x205002 => if x71 = true then (some false) else (lamellalaw06_StripeJoins.l0 k x1 x2 x3 x9 x11 x13 0 0 x205000 x205001 x205002)
def lamellalaw06_StripeJoins.l0 : Nat → Int → Int → Int → List (S38) → List (S38) → List (S38) → Int → Int → Int → Int → Int → Option (Bool)
  | 0, _, _, _, _, _, _, _, _, _, _, _ => none
  | k + 1, x1, x2, x3, x9, x11, x13, x15, x16, x205000, x205001, x205002 => if x16 < (x9.length : Int) then (if 0 ≤ x16 then (lamellalaw06_StripeJoins.l0 k x1 x2 x3 x9 x11 x13 (wrap64 (x15 + ((rd_T38 x9 x16).f3))) (wrap64 (x16 + 1)) x205000 x205001 x205002) else (none)) else (lamellalaw06_StripeJoins.l1 k x1 x2 x3 x9 x11 x13 x15 0 0 x205000 x205001 x205002)
def lamellalaw06_StripeJoins.l1 : Nat → Int → Int → Int → List (S38) → List (S38) → List (S38) → Int → Int → Int → Int → Int → Int → Option (Bool)
  | 0, _, _, _, _, _, _, _, _, _, _, _, _ => none
  | k + 1, x1, x2, x3, x9, x11, x13, x15, x17, x18, x205000, x205001, x205002 => if x18 < (x11.length : Int) then (if 0 ≤ x18 then (lamellalaw06_StripeJoins.l1 k x1 x2 x3 x9 x11 x13 x15 (wrap64 (x17 + ((rd_T38 x11 x18).f3))) (wrap64 (x18 + 1)) x205000 x205001 x205002) else (none)) else (lamellalaw06_StripeJoins.l2 k x1 x2 x3 x9 x11 x13 x15 x17 0 x205000 x205001 x205002)
def lamellalaw06_StripeJoins.l2 : Nat → Int → Int → Int → List (S38) → List (S38) → List (S38) → Int → Int → Int → Int → Int → Int → Option (Bool)
  | 0, _, _, _, _, _, _, _, _, _, _, _, _ => none
  | k + 1, x1, x2, x3, x9, x11, x13, x15, x17, x19, x205000, x205001, x205002 => if x19 < (x13.length : Int) then (if 0 ≤ x19 then (lamellalaw06_StripeJoins.l2 k x1 x2 x3 x9 x11 x13 x15 (wrap64 (x17 + ((rd_T38 x13 x19).f3))) (wrap64 (x19 + 1)) x205000 x205001 x205002) else (none)) else ((lamellalaw06_alive.f k).bind fun t223 => (if t223 = true then (if x15 = (wrap64 (x2 + x3)) then (if x17 = x15 then (if (wrap64 ((wrap64 ((x11.length : Int) + (x13.length : Int))) - (x9.length : Int))) = 0 then (some true) else (if (wrap64 ((wrap64 ((x11.length : Int) + (x13.length : Int))) - (x9.length : Int))) = 1 then (if x2 > 0 then (if x3 > 0 then (if x205001 = 0 then (none) else (some ((Int.tmod (wrap64 (x1 + x2)) x205001) != 0))) else (some false)) else (some false)) else (some false))) else (some false)) else (some false)) else (some false)))
end
def lamellalaw06_StripeJoins.f (k : Nat) (a0_0 : Int) (a0_1 : Int) (a0_2 : Int) (a1 : Int) (a2 : Int) (a3 : Int) : Option (Bool) := (lamellalaw06_alive.f k).bind fun t205 => (if t205 = true then (if a2 < 0 then (lamellalaw06_StripeJoins.j0 k a1 a2 a3 true a0_0 a0_1 a0_2) else (if a2 > 1024 then (lamellalaw06_StripeJoins.j0 k a1 a2 a3 true a0_0 a0_1 a0_2) else (if a3 < 0 then (lamellalaw06_StripeJoins.j0 k a1 a2 a3 true a0_0 a0_1 a0_2) else (lamellalaw06_StripeJoins.j0 k a1 a2 a3 (decide (a3 > 1024)) a0_0 a0_1 a0_2)))) else (some false))
theorem lamellalaw06_StripeJoins.mono_l : ∀ k, (∀ y0 y1 y2 y3 y4 y5 y6, LeO (lamellalaw06_StripeJoins.j0 k y0 y1 y2 y3 y4 y5 y6) (lamellalaw06_StripeJoins.j0 (k + 1) y0 y1 y2 y3 y4 y5 y6)) ∧ (∀ y0 y1 y2 y3 y4 y5 y6 y7 y8 y9, LeO (lamellalaw06_StripeJoins.j1 k y0 y1 y2 y3 y4 y5 y6 y7 y8 y9) (lamellalaw06_StripeJoins.j1 (k + 1) y0 y1 y2 y3 y4 y5 y6 y7 y8 y9)) ∧ (∀ y0 y1 y2 y3 y4 y5 y6 y7 y8 y9 y10, LeO (lamellalaw06_StripeJoins.l0 k y0 y1 y2 y3 y4 y5 y6 y7 y8 y9 y10) (lamellalaw06_StripeJoins.l0 (k + 1) y0 y1 y2 y3 y4 y5 y6 y7 y8 y9 y10)) ∧ (∀ y0 y1 y2 y3 y4 y5 y6 y7 y8 y9 y10 y11, LeO (lamellalaw06_StripeJoins.l1 k y0 y1 y2 y3 y4 y5 y6 y7 y8 y9 y10 y11) (lamellalaw06_StripeJoins.l1 (k + 1) y0 y1 y2 y3 y4 y5 y6 y7 y8 y9 y10 y11)) ∧ (∀ y0 y1 y2 y3 y4 y5 y6 y7 y8 y9 y10 y11, LeO (lamellalaw06_StripeJoins.l2 k y0 y1 y2 y3 y4 y5 y6 y7 y8 y9 y10 y11) (lamellalaw06_StripeJoins.l2 (k + 1) y0 y1 y2 y3 y4 y5 y6 y7 y8 y9 y10 y11))
  | 0 => ⟨fun _ _ _ _ _ _ _ r h => by simp [lamellalaw06_StripeJoins.j0] at h, fun _ _ _ _ _ _ _ _ _ _ r h => by simp [lamellalaw06_StripeJoins.j1] at h, fun _ _ _ _ _ _ _ _ _ _ _ r h => by simp [lamellalaw06_StripeJoins.l0] at h, fun _ _ _ _ _ _ _ _ _ _ _ _ r h => by simp [lamellalaw06_StripeJoins.l1] at h, fun _ _ _ _ _ _ _ _ _ _ _ _ r h => by simp [lamellalaw06_StripeJoins.l2] at h⟩
  | k + 1 => by
    obtain ⟨ih0, ih1, ih2, ih3, ih4⟩ := lamellalaw06_StripeJoins.mono_l k
    refine ⟨?_, ?_, ?_, ?_, ?_⟩
    · intro y0 y1 y2 y3 y4 y5 y6
      unfold lamellalaw06_StripeJoins.j0
      repeat' first
      | (with_reducible exact ih0 _ _ _ _ _ _ _)
      | (with_reducible exact ih1 _ _ _ _ _ _ _ _ _ _)
      | (with_reducible exact ih2 _ _ _ _ _ _ _ _ _ _ _)
      | (with_reducible exact ih3 _ _ _ _ _ _ _ _ _ _ _ _)
      | (with_reducible exact ih4 _ _ _ _ _ _ _ _ _ _ _ _)
      | (with_reducible exact lamellalaw06_alive.mono _)
      | (with_reducible exact stripe_Frags.mono _ _ _ _ _ _)
      | (with_reducible exact LeO.refl _)
      | (with_reducible exact LeO.none _)
      | (with_reducible refine LeO.ite ?_ ?_)
      | (with_reducible refine LeO.bind ?_ (fun _ => ?_))
      | exact ih0 _ _ _ _ _ _ _
      | exact ih1 _ _ _ _ _ _ _ _ _ _
      | exact ih2 _ _ _ _ _ _ _ _ _ _ _
      | exact ih3 _ _ _ _ _ _ _ _ _ _ _ _
      | exact ih4 _ _ _ _ _ _ _ _ _ _ _ _
      | exact lamellalaw06_alive.mono _
      | exact stripe_Frags.mono _ _ _ _ _ _
      | exact LeO.none _
      | refine LeO.ite ?_ ?_
      | refine LeO.bind ?_ (fun _ => ?_)
    · intro y0 y1 y2 y3 y4 y5 y6 y7 y8 y9
      unfold lamellalaw06_StripeJoins.j1
      repeat' first
      | (with_reducible exact ih0 _ _ _ _ _ _ _)
      | (with_reducible exact ih1 _ _ _ _ _ _ _ _ _ _)
      | (with_reducible exact ih2 _ _ _ _ _ _ _ _ _ _ _)
      | (with_reducible exact ih3 _ _ _ _ _ _ _ _ _ _ _ _)
      | (with_reducible exact ih4 _ _ _ _ _ _ _ _ _ _ _ _)
      | (with_reducible exact lamellalaw06_alive.mono _)
      | (with_reducible exact stripe_Frags.mono _ _ _ _ _ _)
      | (with_reducible exact LeO.refl _)
      | (with_reducible exact LeO.none _)
      | (with_reducible refine LeO.ite ?_ ?_)
      | (with_reducible refine LeO.bind ?_ (fun _ => ?_))
      | exact ih0 _ _ _ _ _ _ _
      | exact ih1 _ _ _ _ _ _ _ _ _ _
      | exact ih2 _ _ _ _ _ _ _ _ _ _ _
      | exact ih3 _ _ _ _ _ _ _ _ _ _ _ _
      | exact ih4 _ _ _ _ _ _ _ _ _ _ _ _
      | exact lamellalaw06_alive.mono _
      | exact stripe_Frags.mono _ _ _ _ _ _
      | exact LeO.none _
      | refine LeO.ite ?_ ?_
      | refine LeO.bind ?_ (fun _ => ?_)
    · intro y0 y1 y2 y3 y4 y5 y6 y7 y8 y9 y10
      unfold lamellalaw06_StripeJoins.l0
      repeat' first
      | (with_reducible exact ih0 _ _ _ _ _ _ _)
      | (with_reducible exact ih1 _ _ _ _ _ _ _ _ _ _)
      | (with_reducible exact ih2 _ _ _ _ _ _ _ _ _ _ _)
      | (with_reducible exact ih3 _ _ _ _ _ _ _ _ _ _ _ _)
      | (with_reducible exact ih4 _ _ _ _ _ _ _ _ _ _ _ _)
      | (with_reducible exact lamellalaw06_alive.mono _)
      | (with_reducible exact stripe_Frags.mono _ _ _ _ _ _)
      | (with_reducible exact LeO.refl _)
      | (with_reducible exact LeO.none _)
      | (with_reducible refine LeO.ite ?_ ?_)
      | (with_reducible refine LeO.bind ?_ (fun _ => ?_))
      | exact ih0 _ _ _ _ _ _ _
      | exact ih1 _ _ _ _ _ _ _ _ _ _
      | exact ih2 _ _ _ _ _ _ _ _ _ _ _
      | exact ih3 _ _ _ _ _ _ _ _ _ _ _ _
      | exact ih4 _ _ _ _ _ _ _ _ _ _ _ _
      | exact lamellalaw06_alive.mono _
      | exact stripe_Frags.mono _ _ _ _ _ _
      | exact LeO.none _
      | refine LeO.ite ?_ ?_
      | refine LeO.bind ?_ (fun _ => ?_)
    · intro y0 y1 y2 y3 y4 y5 y6 y7 y8 y9 y10 y11
      unfold lamellalaw06_StripeJoins.l1
      repeat' first
      | (with_reducible exact ih0 _ _ _ _ _ _ _)
      | (with_reducible exact ih1 _ _ _ _ _ _ _ _ _ _)
      | (with_reducible exact ih2 _ _ _ _ _ _ _ _ _ _ _)
      | (with_reducible exact ih3 _ _ _ _ _ _ _ _ _ _ _ _)
      | (with_reducible exact ih4 _ _ _ _ _ _ _ _ _ _ _ _)
      | (with_reducible exact lamellalaw06_alive.mono _)
      | (with_reducible exact stripe_Frags.mono _ _ _ _ _ _)
      | (with_reducible exact LeO.refl _)
      | (with_reducible exact LeO.none _)
      | (with_reducible refine LeO.ite ?_ ?_)
      | (with_reducible refine LeO.bind ?_ (fun _ => ?_))
      | exact ih0 _ _ _ _ _ _ _
      | exact ih1 _ _ _ _ _ _ _ _ _ _
      | exact ih2 _ _ _ _ _ _ _ _ _ _ _
      | exact ih3 _ _ _ _ _ _ _ _ _ _ _ _
      | exact ih4 _ _ _ _ _ _ _ _ _ _ _ _
      | exact lamellalaw06_alive.mono _
      | exact stripe_Frags.mono _ _ _ _ _ _
      | exact LeO.none _
      | refine LeO.ite ?_ ?_
      | refine LeO.bind ?_ (fun _ => ?_)
    · intro y0 y1 y2 y3 y4 y5 y6 y7 y8 y9 y10 y11
      unfold lamellalaw06_StripeJoins.l2
      repeat' first
      | (with_reducible exact ih0 _ _ _ _ _ _ _)
      | (with_reducible exact ih1 _ _ _ _ _ _ _ _ _ _)
      | (with_reducible exact ih2 _ _ _ _ _ _ _ _ _ _ _)
      | (with_reducible exact ih3 _ _ _ _ _ _ _ _ _ _ _ _)
      | (with_reducible exact ih4 _ _ _ _ _ _ _ _ _ _ _ _)
      | (with_reducible exact lamellalaw06_alive.mono _)
      | (with_reducible exact stripe_Frags.mono _ _ _ _ _ _)
      | (with_reducible exact LeO.refl _)
      | (with_reducible exact LeO.none _)
      | (with_reducible refine LeO.ite ?_ ?_)
      | (with_reducible refine LeO.bind ?_ (fun _ => ?_))
      | exact ih0 _ _ _ _ _ _ _
      | exact ih1 _ _ _ _ _ _ _ _ _ _
      | exact ih2 _ _ _ _ _ _ _ _ _ _ _
      | exact ih3 _ _ _ _ _ _ _ _ _ _ _ _
      | exact ih4 _ _ _ _ _ _ _ _ _ _ _ _
      | exact lamellalaw06_alive.mono _
      | exact stripe_Frags.mono _ _ _ _ _ _
      | exact LeO.none _
      | refine LeO.ite ?_ ?_
      | refine LeO.bind ?_ (fun _ => ?_)
theorem lamellalaw06_StripeJoins.mono : ∀ a0 a1 a2 a3 a4 a5 k, LeO (lamellalaw06_StripeJoins.f k a0 a1 a2 a3 a4 a5) (lamellalaw06_StripeJoins.f (k + 1) a0 a1 a2 a3 a4 a5) := by
  intro a0 a1 a2 a3 a4 a5 k
  obtain ⟨ih0, ih1, ih2, ih3, ih4⟩ := lamellalaw06_StripeJoins.mono_l k
  unfold lamellalaw06_StripeJoins.f
  repeat' first
      | (with_reducible exact ih0 _ _ _ _ _ _ _)
      | (with_reducible exact ih1 _ _ _ _ _ _ _ _ _ _)
      | (with_reducible exact ih2 _ _ _ _ _ _ _ _ _ _ _)
      | (with_reducible exact ih3 _ _ _ _ _ _ _ _ _ _ _ _)
      | (with_reducible exact ih4 _ _ _ _ _ _ _ _ _ _ _ _)
      | (with_reducible exact lamellalaw06_alive.mono _)
      | (with_reducible exact stripe_Frags.mono _ _ _ _ _ _)
      | (with_reducible exact LeO.refl _)
      | (with_reducible exact LeO.none _)
      | (with_reducible refine LeO.ite ?_ ?_)
      | (with_reducible refine LeO.bind ?_ (fun _ => ?_))
      | exact ih0 _ _ _ _ _ _ _
      | exact ih1 _ _ _ _ _ _ _ _ _ _
      | exact ih2 _ _ _ _ _ _ _ _ _ _ _
      | exact ih3 _ _ _ _ _ _ _ _ _ _ _ _
      | exact ih4 _ _ _ _ _ _ _ _ _ _ _ _
      | exact lamellalaw06_alive.mono _
      | exact stripe_Frags.mono _ _ _ _ _ _
      | exact LeO.none _
      | refine LeO.ite ?_ ?_
      | refine LeO.bind ?_ (fun _ => ?_)
set_option maxHeartbeats 8000000 in
set_option maxRecDepth 100000 in
theorem lamellalaw06_StripeJoins.calls (k : Nat) (a0_0 : Int) (a0_1 : Int) (a0_2 : Int) (a1 : Int) (a2 : Int) (a3 : Int) (r : Bool) (w : World) (h : lamellalaw06_StripeJoins.f k a0_0 a0_1 a0_2 a1 a2 a3 = some r) :
    Calls Try.prog 8 #[.agg #[.int .i64 a0_0, .int .i64 a0_1, .int .i64 a0_2], .int .i64 a1, .int .i64 a2, .int .i64 a3] w fun e w' => e = .returned (.bool r) ∧ Below w.heap.size w w' := by
  have hu23 := Try.underlying23
  have HB := Aside0.mk (Below.refl w.heap.size w)
  have H : ((lamellalaw06_alive.f k).bind fun t205 => (if t205 = true then (if a2 < 0 then (lamellalaw06_StripeJoins.j0 k a1 a2 a3 true a0_0 a0_1 a0_2) else (if a2 > 1024 then (lamellalaw06_StripeJoins.j0 k a1 a2 a3 true a0_0 a0_1 a0_2) else (if a3 < 0 then (lamellalaw06_StripeJoins.j0 k a1 a2 a3 true a0_0 a0_1 a0_2) else (lamellalaw06_StripeJoins.j0 k a1 a2 a3 (decide (a3 > 1024)) a0_0 a0_1 a0_2)))) else (some false))) = some r := h
  clear h
  replace H := Option.bind_eq_some_iff.mp H
  obtain ⟨t205, A50, H⟩ := H
  replace H : (if t205 = true then (if a2 < 0 then (lamellalaw06_StripeJoins.j0 k a1 a2 a3 true a0_0 a0_1 a0_2) else (if a2 > 1024 then (lamellalaw06_StripeJoins.j0 k a1 a2 a3 true a0_0 a0_1 a0_2) else (if a3 < 0 then (lamellalaw06_StripeJoins.j0 k a1 a2 a3 true a0_0 a0_1 a0_2) else (lamellalaw06_StripeJoins.j0 k a1 a2 a3 (decide (a3 > 1024)) a0_0 a0_1 a0_2)))) else (some false)) = some r := H
  have A5 := Aside0.mk A50
  clear A50
  by_cases c6 : t205 = true
  · subst c6
    have H1 : (if a2 < 0 then (lamellalaw06_StripeJoins.j0 k a1 a2 a3 true a0_0 a0_1 a0_2) else (if a2 > 1024 then (lamellalaw06_StripeJoins.j0 k a1 a2 a3 true a0_0 a0_1 a0_2) else (if a3 < 0 then (lamellalaw06_StripeJoins.j0 k a1 a2 a3 true a0_0 a0_1 a0_2) else (lamellalaw06_StripeJoins.j0 k a1 a2 a3 (decide (a3 > 1024)) a0_0 a0_1 a0_2)))) = some r := by rw [if_pos rfl] at H; exact H
    clear H
    have H := H1
    clear H1
    have HC7 := Aside0.mk H
    clear H
    go_enter Try.func8, Try.ntmps8
    go_upto_region 3 with (first | ((with_reducible refine gate_dst (N := 4) rfl ?_); refine box_event ?hg (N := 4) ?hd (cs := #[.int .i64 a0_0, .int .i64 a0_1, .int .i64 a0_2]) (t := 23) ?hr ?_; (case hd => rfl); (case hg => rfl); (case hr => first | (go_simp; done) | (go_simp; rfl)); intro gb204 hg w8 hbox hb; have n0_ := Aside0.mk (below_step (by repeat (first | (with_reducible first | exact HB.out | apply below_alloc | apply pw_below_drewN | apply below_drew1) | exact HB.out)) hb); have n1_ := Aside0.mk (hbox); have n2_ := Aside0.mk ((by rw [hg]; exact (below_size (by repeat (first | (with_reducible first | exact HB.out | apply below_alloc | apply pw_below_drewN | apply below_drew1) | exact HB.out))) : w.heap.size ≤ gb204)); have n3_ := Aside0.mk ((by rw [hg]; exact (below_size (by repeat (first | (with_reducible first | exact HB.out | apply below_alloc | apply pw_below_drewN | apply below_drew1) | exact HB.out))) : w.heap.size ≤ gb204)); clear HB; have HB := n0_; have BK204 := n1_; have GW204 := n2_; have GE204 := n3_; clear n0_ n1_ n2_ n3_; clear hb hbox hg) | ((with_reducible refine gate_callee (f := 11) rfl ?_); refine goesL_ (some 21) rfl rfl Try.func11 (by kernel_rfl) rfl #[] rfl (by (try simp only [List.map_toArray, List.map_cons, List.map_nil]); first | done | rfl | (simp only [List.length_drop, List.length_take]; rfl)) ?_; (with_reducible refine (lamellalaw06_alive.calls k  true _ A5.out).mono ?_); rintro e w9 ⟨rfl, hb⟩; refine ⟨_, rfl, ?_⟩; have n0_ := Aside0.mk (blk_below (g := gb204) (o := .cells #[.int .i64 a0_0, .int .i64 a0_1, .int .i64 a0_2] 23 (0, 0)) (by (with_reducible repeat (first | refine blk_drewN ?_ _ | refine blk_drew ?_ | refine blk_alloc ?_ _)); exact BK204.out) hb); have n1_ := Aside0.mk (below_step (by repeat (first | (with_reducible first | exact HB.out | apply below_alloc | apply pw_below_drewN | apply below_drew1 | refine below_set ?_ GE204.out) | exact HB.out)) hb); clear BK204; clear HB; have BK204 := n0_; have HB := n1_; clear n0_ n1_; (try clear hb); (try clear hb2); (try clear hk); (try clear hi)))
    (try simp only [Act.put, List.setIfInBounds_toArray, List.set_cons_zero, List.set_cons_succ])
    go_cut [36] (fun v36 wc => ∃ (kq : Nat) (x36_6 : Bool), v36 = .bool x36_6 ∧ Aside0 (lamellalaw06_StripeJoins.j0 kq a1 a2 a3 x36_6 a0_0 a0_1 a0_2 = some r) ∧ Aside0 (kq ≤ k) ∧ Aside0 (wc.heap[gb204]? = some (.cells #[.int .i64 a0_0, .int .i64 a0_1, .int .i64 a0_2] 23 (0, 0))) ∧ Aside0 (Below w.heap.size w wc))
    case first =>
      have H := HC7.out
      clear HC7
      by_cases c10 : a2 < 0
      · rw [if_pos c10] at H
        have c10b0 : decide (a2 < 0) = true := decide_eq_true c10
        clear c10
        (first | rw [c10b0] | (simp only [i64_w, i32_w]; rw [c10b0]) | skip)
        have H' := Aside0.mk H
        clear H
        go_wp2
        go_meet
        case rel => exact ⟨_, (true), (by first | rfl | (simp; done) | (simp [*]; done)), H', ⟨by first | omega | exact Nat.le_refl _⟩, ⟨by (with_reducible repeat (first | refine blk_drewN ?_ _ | refine blk_drew ?_ | refine blk_alloc ?_ _)); exact BK204.out⟩, ⟨by repeat (first | (with_reducible first | exact HB.out | apply below_alloc | apply pw_below_drewN | apply below_drew1 | refine below_set ?_ GE204.out) | exact HB.out)⟩⟩
      · rw [if_neg c10] at H
        have c10b0 : decide (a2 < 0) = false := decide_eq_false c10
        clear c10
        (first | rw [c10b0] | (simp only [i64_w, i32_w]; rw [c10b0]) | skip)
        by_cases c11 : a2 > 1024
        · rw [if_pos c11] at H
          have c11b0 : decide (1024 < a2) = true := decide_eq_true c11
          clear c11
          have H' := Aside0.mk H
          clear H
          go_wp2
          go_meet
          case rel => exact ⟨_, (true), (by first | rfl | (simp; done) | (simp [*]; done)), H', ⟨by first | omega | exact Nat.le_refl _⟩, ⟨by (with_reducible repeat (first | refine blk_drewN ?_ _ | refine blk_drew ?_ | refine blk_alloc ?_ _)); exact BK204.out⟩, ⟨by repeat (first | (with_reducible first | exact HB.out | apply below_alloc | apply pw_below_drewN | apply below_drew1 | refine below_set ?_ GE204.out) | exact HB.out)⟩⟩
        · rw [if_neg c11] at H
          have c11b0 : decide (1024 < a2) = false := decide_eq_false c11
          clear c11
          by_cases c12 : a3 < 0
          · rw [if_pos c12] at H
            have c12b0 : decide (a3 < 0) = true := decide_eq_true c12
            clear c12
            have H' := Aside0.mk H
            clear H
            go_wp2
            go_meet
            case rel => exact ⟨_, (true), (by first | rfl | (simp; done) | (simp [*]; done)), H', ⟨by first | omega | exact Nat.le_refl _⟩, ⟨by (with_reducible repeat (first | refine blk_drewN ?_ _ | refine blk_drew ?_ | refine blk_alloc ?_ _)); exact BK204.out⟩, ⟨by repeat (first | (with_reducible first | exact HB.out | apply below_alloc | apply pw_below_drewN | apply below_drew1 | refine below_set ?_ GE204.out) | exact HB.out)⟩⟩
          · rw [if_neg c12] at H
            have c12b0 : decide (a3 < 0) = false := decide_eq_false c12
            clear c12
            have H' := Aside0.mk H
            clear H
            go_wp2
            go_meet
            case rel => exact ⟨_, (decide (a3 > 1024)), (by first | rfl | (simp; done) | (simp [*]; done)), H', ⟨by first | omega | exact Nat.le_refl _⟩, ⟨by (with_reducible repeat (first | refine blk_drewN ?_ _ | refine blk_drew ?_ | refine blk_alloc ?_ _)); exact BK204.out⟩, ⟨by repeat (first | (with_reducible first | exact HB.out | apply below_alloc | apply pw_below_drewN | apply below_drew1 | refine below_set ?_ GE204.out) | exact HB.out)⟩⟩
    case rest =>
      clear HC7
      try clear c1
      try clear p2
      try clear c6
      try clear c8
      try clear c10
      try clear c10b0
      try clear c11
      try clear c11b0
      try clear c12
      try clear c12b0
      obtain ⟨kq, x36_6, rfl, HA, HJ6, BK204, HB⟩ := hcut
      cases kq with
      | zero => exact absurd HA.out (by simp [lamellalaw06_StripeJoins.j0])
      | succ kj6 =>
        have H := HA.out
        clear HA
        simp only [lamellalaw06_StripeJoins.j0] at H
        by_cases c13 : x36_6 = true
        · subst c13
          have H1 : ((lamellalaw06_alive.f kj6).bind fun t206 => (some t206)) = some r := by rw [if_pos rfl] at H; exact H
          clear H
          have H := H1
          clear H1
          replace H := Option.bind_eq_some_iff.mp H
          obtain ⟨t206, A140, H⟩ := H
          replace H : (some t206) = some r := H
          have A14 := Aside0.mk A140
          clear A140
          obtain rfl := Option.some.inj H
          go_wp2_with (first | ((with_reducible refine gate_callee (f := 11) rfl ?_); refine goesL_ (some 37) rfl rfl Try.func11 (by kernel_rfl) rfl #[] rfl (by (try simp only [List.map_toArray, List.map_cons, List.map_nil]); first | done | rfl | (simp only [List.length_drop, List.length_take]; rfl)) ?_; (with_reducible refine (lamellalaw06_alive.calls kj6  t206 _ A14.out).mono ?_); rintro e w15 ⟨rfl, hb⟩; refine ⟨_, rfl, ?_⟩; have n0_ := Aside0.mk (blk_below (g := gb204) (o := .cells #[.int .i64 a0_0, .int .i64 a0_1, .int .i64 a0_2] 23 (0, 0)) (by (with_reducible repeat (first | refine blk_drewN ?_ _ | refine blk_drew ?_ | refine blk_alloc ?_ _)); exact BK204.out) hb); have n1_ := Aside0.mk (below_step (by repeat (first | (with_reducible first | exact HB.out | apply below_alloc | apply pw_below_drewN | apply below_drew1 | refine below_set ?_ GE204.out) | exact HB.out)) hb); clear BK204; clear HB; have BK204 := n0_; have HB := n1_; clear n0_ n1_; (try clear hb); (try clear hb2); (try clear hk); (try clear hi)))
          go_ret
          exact ⟨by first | rfl | (simp [errW_none, errW_some] <;> rfl) | (simp [*, errW_none, errW_some] <;> rfl), by repeat (first | (with_reducible first | exact HB.out | apply below_alloc | apply pw_below_drewN | apply below_drew1 | refine below_set ?_ GE204.out) | exact HB.out)⟩
        · replace c13 := Bool.eq_false_iff.mpr c13
          subst c13
          have H1 : ((stripe_Frags.f kj6 a0_0 a0_1 a0_2 a1 (wrap64 (a2 + a3))).bind fun bt207 => (if bt207.2 = 0 then ((stripe_Frags.f kj6 a0_0 a0_1 a0_2 a1 a2).bind fun bt212 => ((stripe_Frags.f kj6 a0_0 a0_1 a0_2 (wrap64 (a1 + a2)) a3).bind fun bt216 => (if bt212.2 = 0 then (lamellalaw06_StripeJoins.j1 kj6 a1 a2 a3 bt207.1 bt212.1 bt216.1 (bt216.2 != 0) a0_0 a0_1 a0_2) else (lamellalaw06_StripeJoins.j1 kj6 a1 a2 a3 bt207.1 bt212.1 bt216.1 true a0_0 a0_1 a0_2)))) else ((lamellalaw06_alive.f kj6).bind fun t211 => (some t211)))) = some r := by rw [if_neg (show ¬ (false = true) by decide)] at H; exact H
          clear H
          have H := H1
          clear H1
          replace H := Option.bind_eq_some_iff.mp H
          obtain ⟨⟨t207, t210⟩, A160, H⟩ := H
          replace H : (if t210 = 0 then ((stripe_Frags.f kj6 a0_0 a0_1 a0_2 a1 a2).bind fun bt212 => ((stripe_Frags.f kj6 a0_0 a0_1 a0_2 (wrap64 (a1 + a2)) a3).bind fun bt216 => (if bt212.2 = 0 then (lamellalaw06_StripeJoins.j1 kj6 a1 a2 a3 t207 bt212.1 bt216.1 (bt216.2 != 0) a0_0 a0_1 a0_2) else (lamellalaw06_StripeJoins.j1 kj6 a1 a2 a3 t207 bt212.1 bt216.1 true a0_0 a0_1 a0_2)))) else ((lamellalaw06_alive.f kj6).bind fun t211 => (some t211))) = some r := H
          have A16 := Aside0.mk A160
          clear A160
          by_cases c17 : t210 = 0
          · rw [if_pos c17] at H
            have c17b0 : (t210 == 0) = true := beq_iff_eq.mpr c17
            have c17b1 : (t210 != 0) = false := bne_eq_false_iff_eq.mpr c17
            clear c17
            replace H := Option.bind_eq_some_iff.mp H
            obtain ⟨⟨t212, t215⟩, A180, H⟩ := H
            replace H : ((stripe_Frags.f kj6 a0_0 a0_1 a0_2 (wrap64 (a1 + a2)) a3).bind fun bt216 => (if t215 = 0 then (lamellalaw06_StripeJoins.j1 kj6 a1 a2 a3 t207 t212 bt216.1 (bt216.2 != 0) a0_0 a0_1 a0_2) else (lamellalaw06_StripeJoins.j1 kj6 a1 a2 a3 t207 t212 bt216.1 true a0_0 a0_1 a0_2))) = some r := H
            have A18 := Aside0.mk A180
            clear A180
            replace H := Option.bind_eq_some_iff.mp H
            obtain ⟨⟨t216, t219⟩, A190, H⟩ := H
            replace H : (if t215 = 0 then (lamellalaw06_StripeJoins.j1 kj6 a1 a2 a3 t207 t212 t216 (t219 != 0) a0_0 a0_1 a0_2) else (lamellalaw06_StripeJoins.j1 kj6 a1 a2 a3 t207 t212 t216 true a0_0 a0_1 a0_2)) = some r := H
            have A19 := Aside0.mk A190
            clear A190
            have HC20 := Aside0.mk H
            clear H
            have hcz21_0 : wc.cell? ⟨gb204, 0, none⟩ = some (.int .i64 a0_0) := (blk_cell BK204.out 0).trans rfl
            have hcz21_1 : wc.cell? ⟨gb204, 1, none⟩ = some (.int .i64 a0_1) := (blk_cell BK204.out 1).trans rfl
            have hcz21_2 : wc.cell? ⟨gb204, 2, none⟩ = some (.int .i64 a0_2) := (blk_cell BK204.out 2).trans rfl
            have hfz21_0 := blk_frozen BK204.out 0
            have hfz21_1 := blk_frozen BK204.out 1
            have hfz21_2 := blk_frozen BK204.out 2
            go_upto_region 10 with (first | ((with_reducible refine gate_callee (f := 12) rfl ?_); refine goesL_ (some 44) rfl rfl Try.func12 (by kernel_rfl) rfl #[.agg #[.int .i64 a0_0, .int .i64 a0_1, .int .i64 a0_2], .int .i64 a1, .int .i64 (wrap64 (a2 + a3))] rfl (by (try simp only [List.map_toArray, List.map_cons, List.map_nil]); first | done | rfl | (simp only [List.length_drop, List.length_take]; rfl)) ?_; (with_reducible refine (stripe_Frags.calls kj6 a0_0 a0_1 a0_2 a1 (wrap64 (a2 + a3)) t207 t210 _ A16.out).mono ?_); rintro e w22 ⟨v208, rfl, ho0, hb⟩; refine ⟨_, rfl, ?_⟩; have n0_ := Aside0.mk (Kd.R_lower ho0 (below_size (by repeat (first | (with_reducible first | exact HB.out | apply below_alloc | apply pw_below_drewN | apply below_drew1 | refine below_set ?_ GE204.out) | exact HB.out)))); have n1_ := Aside0.mk (blk_below (g := gb204) (o := .cells #[.int .i64 a0_0, .int .i64 a0_1, .int .i64 a0_2] 23 (0, 0)) (by (with_reducible repeat (first | refine blk_drewN ?_ _ | refine blk_drew ?_ | refine blk_alloc ?_ _)); exact BK204.out) hb); have n2_ := Aside0.mk (below_step (by repeat (first | (with_reducible first | exact HB.out | apply below_alloc | apply pw_below_drewN | apply below_drew1 | refine below_set ?_ GE204.out) | exact HB.out)) hb); clear BK204; clear HB; have HO209 := n0_; have BK204 := n1_; have HB := n2_; clear n0_ n1_ n2_; (try clear hb); (try clear hb2); (try clear hk); (try clear hi); (try clear ho0); have hcz23_0 : w22.cell? ⟨gb204, 0, none⟩ = some (.int .i64 a0_0) := (blk_cell BK204.out 0).trans rfl; have hcz23_1 : w22.cell? ⟨gb204, 1, none⟩ = some (.int .i64 a0_1) := (blk_cell BK204.out 1).trans rfl; have hcz23_2 : w22.cell? ⟨gb204, 2, none⟩ = some (.int .i64 a0_2) := (blk_cell BK204.out 2).trans rfl; have hfz23_0 := blk_frozen BK204.out 0; have hfz23_1 := blk_frozen BK204.out 1; have hfz23_2 := blk_frozen BK204.out 2) | ((with_reducible refine gate_callee (f := 12) rfl ?_); refine goesL_ (some 54) rfl rfl Try.func12 (by kernel_rfl) rfl #[.agg #[.int .i64 a0_0, .int .i64 a0_1, .int .i64 a0_2], .int .i64 a1, .int .i64 a2] rfl (by (try simp only [List.map_toArray, List.map_cons, List.map_nil]); first | done | rfl | (simp only [List.length_drop, List.length_take]; rfl)) ?_; (with_reducible refine (stripe_Frags.calls kj6 a0_0 a0_1 a0_2 a1 a2 t212 t215 _ A18.out).mono ?_); rintro e w24 ⟨v213, rfl, ho0, hb⟩; refine ⟨_, rfl, ?_⟩; have n0_ := Aside0.mk (Kd.R_elder' (by (with_reducible repeat (first | apply Kd.R_alloc | apply Kd.R_drewN | apply Kd.R_drew)); exact HO209.out) (Kd.R_base ho0) hb); have n1_ := Aside0.mk (Kd.R_lower (Kd.R_new' ho0 (Kd.R_lt (by (with_reducible repeat (first | apply Kd.R_alloc | apply Kd.R_drewN | apply Kd.R_drew)); exact HO209.out))) (below_size (by repeat (first | (with_reducible first | exact HB.out | apply below_alloc | apply pw_below_drewN | apply below_drew1 | refine below_set ?_ GE204.out) | exact HB.out)))); have n2_ := Aside0.mk (blk_below (g := gb204) (o := .cells #[.int .i64 a0_0, .int .i64 a0_1, .int .i64 a0_2] 23 (0, 0)) (by (with_reducible repeat (first | refine blk_drewN ?_ _ | refine blk_drew ?_ | refine blk_alloc ?_ _)); exact BK204.out) hb); have n3_ := Aside0.mk (below_step (by repeat (first | (with_reducible first | exact HB.out | apply below_alloc | apply pw_below_drewN | apply below_drew1 | refine below_set ?_ GE204.out) | exact HB.out)) hb); clear HO209; clear BK204; clear HB; have HO209 := n0_; have HO214 := n1_; have BK204 := n2_; have HB := n3_; clear n0_ n1_ n2_ n3_; (try clear hb); (try clear hb2); (try clear hk); (try clear hi); (try clear ho0); have hcz25_0 : w24.cell? ⟨gb204, 0, none⟩ = some (.int .i64 a0_0) := (blk_cell BK204.out 0).trans rfl; have hcz25_1 : w24.cell? ⟨gb204, 1, none⟩ = some (.int .i64 a0_1) := (blk_cell BK204.out 1).trans rfl; have hcz25_2 : w24.cell? ⟨gb204, 2, none⟩ = some (.int .i64 a0_2) := (blk_cell BK204.out 2).trans rfl; have hfz25_0 := blk_frozen BK204.out 0; have hfz25_1 := blk_frozen BK204.out 1; have hfz25_2 := blk_frozen BK204.out 2) | ((with_reducible refine gate_callee (f := 12) rfl ?_); refine goesL_ (some 63) rfl rfl Try.func12 (by kernel_rfl) rfl #[.agg #[.int .i64 a0_0, .int .i64 a0_1, .int .i64 a0_2], .int .i64 (wrap64 (a1 + a2)), .int .i64 a3] rfl (by (try simp only [List.map_toArray, List.map_cons, List.map_nil]); first | done | rfl | (simp only [List.length_drop, List.length_take]; rfl)) ?_; (with_reducible refine (stripe_Frags.calls kj6 a0_0 a0_1 a0_2 (wrap64 (a1 + a2)) a3 t216 t219 _ A19.out).mono ?_); rintro e w26 ⟨v217, rfl, ho0, hb⟩; refine ⟨_, rfl, ?_⟩; have n0_ := Aside0.mk (Kd.R_elder' (by (with_reducible repeat (first | apply Kd.R_alloc | apply Kd.R_drewN | apply Kd.R_drew)); exact HO209.out) (Kd.R_base ho0) hb); have n1_ := Aside0.mk (Kd.R_elder' (by (with_reducible repeat (first | apply Kd.R_alloc | apply Kd.R_drewN | apply Kd.R_drew)); exact HO214.out) (Kd.R_base ho0) hb); have n2_ := Aside0.mk (Kd.R_lower (Kd.R_new' (Kd.R_new' ho0 (Kd.R_lt (by (with_reducible repeat (first | apply Kd.R_alloc | apply Kd.R_drewN | apply Kd.R_drew)); exact HO209.out))) (Kd.R_lt (by (with_reducible repeat (first | apply Kd.R_alloc | apply Kd.R_drewN | apply Kd.R_drew)); exact HO214.out))) (below_size (by repeat (first | (with_reducible first | exact HB.out | apply below_alloc | apply pw_below_drewN | apply below_drew1 | refine below_set ?_ GE204.out) | exact HB.out)))); have n3_ := Aside0.mk (blk_below (g := gb204) (o := .cells #[.int .i64 a0_0, .int .i64 a0_1, .int .i64 a0_2] 23 (0, 0)) (by (with_reducible repeat (first | refine blk_drewN ?_ _ | refine blk_drew ?_ | refine blk_alloc ?_ _)); exact BK204.out) hb); have n4_ := Aside0.mk (below_step (by repeat (first | (with_reducible first | exact HB.out | apply below_alloc | apply pw_below_drewN | apply below_drew1 | refine below_set ?_ GE204.out) | exact HB.out)) hb); clear HO209; clear HO214; clear BK204; clear HB; have HO209 := n0_; have HO214 := n1_; have HO218 := n2_; have BK204 := n3_; have HB := n4_; clear n0_ n1_ n2_ n3_ n4_; (try clear hb); (try clear hb2); (try clear hk); (try clear hi); (try clear ho0)))
            (try simp only [Act.put, List.setIfInBounds_toArray, List.set_cons_zero, List.set_cons_succ])
            go_cut [71] (fun v71 wc => ∃ (kq : Nat) (x71_19 : Bool), v71 = .bool x71_19 ∧ Aside0 (lamellalaw06_StripeJoins.j1 kq a1 a2 a3 t207 t212 t216 x71_19 a0_0 a0_1 a0_2 = some r) ∧ Aside0 (kq ≤ kj6) ∧ Aside0 (Kd.R k38 38 wc w.heap.size (fun k_ => some k_ ≠ (v213 : Value).ownBlock ∧ some k_ ≠ (v217 : Value).ownBlock) v208 t207) ∧ Aside0 (Kd.R k38 38 wc w.heap.size (fun k_ => some k_ ≠ (v208 : Value).ownBlock ∧ some k_ ≠ (v217 : Value).ownBlock) v213 t212) ∧ Aside0 (Kd.R k38 38 wc w.heap.size (fun k_ => some k_ ≠ (v208 : Value).ownBlock ∧ some k_ ≠ (v213 : Value).ownBlock) v217 t216) ∧ Aside0 (wc.heap[gb204]? = some (.cells #[.int .i64 a0_0, .int .i64 a0_1, .int .i64 a0_2] 23 (0, 0))) ∧ Aside0 (Below w.heap.size w wc))
            case first =>
              have H := HC20.out
              clear HC20
              by_cases c27 : t215 = 0
              · rw [if_pos c27] at H
                have c27b0 : (t215 == 0) = true := beq_iff_eq.mpr c27
                have c27b1 : (t215 != 0) = false := bne_eq_false_iff_eq.mpr c27
                clear c27
                (first | rw [c27b0] | (simp only [i64_w, i32_w]; rw [c27b0]) | skip)
                have H' := Aside0.mk H
                clear H
                go_wp2
                go_meet
                case rel => exact ⟨_, ((t219 != 0)), (by first | rfl | (simp; done) | (simp [*]; done)), H', ⟨by have := HJ6.out; first | omega | exact Nat.le_refl _⟩, ⟨by (with_reducible repeat (first | apply Kd.R_alloc | apply Kd.R_drewN | apply Kd.R_drew)); exact Kd.R_mono HO209.out (fun _ hk => ⟨hk.1.2, hk.2⟩)⟩, ⟨by (with_reducible repeat (first | apply Kd.R_alloc | apply Kd.R_drewN | apply Kd.R_drew)); exact Kd.R_mono HO214.out (fun _ hk => ⟨hk.1.2, hk.2⟩)⟩, ⟨by (with_reducible repeat (first | apply Kd.R_alloc | apply Kd.R_drewN | apply Kd.R_drew)); exact Kd.R_mono HO218.out (fun _ hk => ⟨hk.1.2, hk.2⟩)⟩, ⟨by (with_reducible repeat (first | refine blk_drewN ?_ _ | refine blk_drew ?_ | refine blk_alloc ?_ _)); exact BK204.out⟩, ⟨by repeat (first | (with_reducible first | exact HB.out | apply below_alloc | apply pw_below_drewN | apply below_drew1 | refine below_set ?_ GE204.out) | exact HB.out)⟩⟩
              · rw [if_neg c27] at H
                have c27b0 : (t215 == 0) = false := beq_eq_false_iff_ne.mpr c27
                have c27b1 : (t215 != 0) = true := bne_iff_ne.mpr c27
                (first | rw [c27b0] | (simp only [i64_w, i32_w]; rw [c27b0]) | skip)
                have H' := Aside0.mk H
                clear H
                go_wp2
                go_meet
                case rel => exact ⟨_, (true), (by first | rfl | (simp; done) | (simp [*]; done)), H', ⟨by have := HJ6.out; first | omega | exact Nat.le_refl _⟩, ⟨by (with_reducible repeat (first | apply Kd.R_alloc | apply Kd.R_drewN | apply Kd.R_drew)); exact Kd.R_mono HO209.out (fun _ hk => ⟨hk.1.2, hk.2⟩)⟩, ⟨by (with_reducible repeat (first | apply Kd.R_alloc | apply Kd.R_drewN | apply Kd.R_drew)); exact Kd.R_mono HO214.out (fun _ hk => ⟨hk.1.2, hk.2⟩)⟩, ⟨by (with_reducible repeat (first | apply Kd.R_alloc | apply Kd.R_drewN | apply Kd.R_drew)); exact Kd.R_mono HO218.out (fun _ hk => ⟨hk.1.2, hk.2⟩)⟩, ⟨by (with_reducible repeat (first | refine blk_drewN ?_ _ | refine blk_drew ?_ | refine blk_alloc ?_ _)); exact BK204.out⟩, ⟨by repeat (first | (with_reducible first | exact HB.out | apply below_alloc | apply pw_below_drewN | apply below_drew1 | refine below_set ?_ GE204.out) | exact HB.out)⟩⟩
            case rest =>
              clear HC20
              try clear c1
              try clear c2
              try clear p2
              try clear c6
              try clear p6
              try clear c8
              try clear c10
              try clear c10b0
              try clear c11
              try clear c11b0
              try clear c12
              try clear c12b0
              try clear c13
              try clear c17
              try clear c17b0
              try clear c17b1
              try clear c27
              try clear c27b0
              try clear c27b1
              try clear hcz21_0
              try clear hcz21_1
              try clear hcz21_2
              try clear hcz23_0
              try clear hcz23_1
              try clear hcz23_2
              try clear hcz25_0
              try clear hcz25_1
              try clear hcz25_2
              try clear hfz21_0
              try clear hfz21_1
              try clear hfz21_2
              try clear hfz23_0
              try clear hfz23_1
              try clear hfz23_2
              try clear hfz25_0
              try clear hfz25_1
              try clear hfz25_2
              try clear p2
              obtain ⟨kq, x71_19, rfl, HA, HJ19, HO_9, HO_11, HO_13, BK204, HB⟩ := hcut
              cases kq with
              | zero => exact absurd HA.out (by simp [lamellalaw06_StripeJoins.j1])
              | succ kj19 =>
                have H := HA.out
                clear HA
                simp only [lamellalaw06_StripeJoins.j1] at H
                by_cases c28 : x71_19 = true
                · subst c28
                  have H1 : (some false) = some r := by rw [if_pos rfl] at H; exact H
                  clear H
                  have H := H1
                  clear H1
                  obtain rfl := Option.some.inj H
                  go_wp2
                  go_ret
                  exact ⟨by first | rfl | (simp [errW_none, errW_some] <;> rfl) | (simp [*, errW_none, errW_some] <;> rfl), by repeat (first | (with_reducible first | exact HB.out | apply below_alloc | apply pw_below_drewN | apply below_drew1 | refine below_set ?_ GE204.out) | exact HB.out)⟩
                · replace c28 := Bool.eq_false_iff.mpr c28
                  subst c28
                  have H1 : (lamellalaw06_StripeJoins.l0 kj19 a1 a2 a3 t207 t212 t216 0 0 a0_0 a0_1 a0_2) = some r := by rw [if_neg (show ¬ (false = true) by decide)] at H; exact H
                  clear H
                  have H := H1
                  clear H1
                  have H' := Aside0.mk H
                  clear H
                  go_wp2
                  go_loopg [15, 16] kj19 (fun kq v15 v16 w' => ∃ (x15_3 : Int) (x16_3 : Int), v15 = .int .i64 x15_3 ∧ v16 = .int .i64 x16_3 ∧ Aside0 (lamellalaw06_StripeJoins.l0 kq a1 a2 a3 t207 t212 t216 x15_3 x16_3 a0_0 a0_1 a0_2 = some r) ∧ Aside0 (kq ≤ kj19) ∧ Aside0 (Kd.R k38 38 w' w.heap.size (fun k_ => some k_ ≠ (v213 : Value).ownBlock ∧ some k_ ≠ (v217 : Value).ownBlock) v208 t207) ∧ Aside0 (Kd.R k38 38 w' w.heap.size (fun k_ => some k_ ≠ (v208 : Value).ownBlock ∧ some k_ ≠ (v217 : Value).ownBlock) v213 t212) ∧ Aside0 (Kd.R k38 38 w' w.heap.size (fun k_ => some k_ ≠ (v208 : Value).ownBlock ∧ some k_ ≠ (v213 : Value).ownBlock) v217 t216) ∧ Aside0 (w'.heap[gb204]? = some (.cells #[.int .i64 a0_0, .int .i64 a0_1, .int .i64 a0_2] 23 (0, 0))) ∧ Aside0 (Below w.heap.size w w'))
                  case atStart => exact ⟨(0), (0), (by first | rfl | (simp; done) | (simp [*]; done)), (by first | rfl | (simp; done) | (simp [*]; done)), H', ⟨Nat.le_refl _⟩, ⟨by (with_reducible repeat (first | apply Kd.R_alloc | apply Kd.R_drewN | apply Kd.R_drew)); exact HO_9.out⟩, ⟨by (with_reducible repeat (first | apply Kd.R_alloc | apply Kd.R_drewN | apply Kd.R_drew)); exact HO_11.out⟩, ⟨by (with_reducible repeat (first | apply Kd.R_alloc | apply Kd.R_drewN | apply Kd.R_drew)); exact HO_13.out⟩, ⟨by (with_reducible repeat (first | refine blk_drewN ?_ _ | refine blk_drew ?_ | refine blk_alloc ?_ _)); exact BK204.out⟩, ⟨by repeat (first | (with_reducible first | exact HB.out | apply below_alloc | apply pw_below_drewN | apply below_drew1 | refine below_set ?_ GE204.out) | exact HB.out)⟩⟩
                  case round =>
                    clear H'
                    try clear c1
                    try clear c2
                    try clear p2
                    try clear c6
                    try clear p6
                    try clear c8
                    try clear c10
                    try clear c10b0
                    try clear c11
                    try clear c11b0
                    try clear c12
                    try clear c12b0
                    try clear c13
                    try clear c17
                    try clear c17b0
                    try clear c17b1
                    try clear c27
                    try clear c27b0
                    try clear c27b1
                    try clear c28
                    try clear hcz21_0
                    try clear hcz21_1
                    try clear hcz21_2
                    try clear hcz23_0
                    try clear hcz23_1
                    try clear hcz23_2
                    try clear hcz25_0
                    try clear hcz25_1
                    try clear hcz25_2
                    try clear hfz21_0
                    try clear hfz21_1
                    try clear hfz21_2
                    try clear hfz23_0
                    try clear hfz23_1
                    try clear hfz23_2
                    try clear hfz25_0
                    try clear hfz25_1
                    try clear hfz25_2
                    try clear p2
                    try clear p6
                    obtain ⟨x15_3, x16_3, rfl, rfl, HA, HK3, HO_9, HO_11, HO_13, BK204, HB⟩ := hrel
                    cases gk with
                    | zero => exact absurd HA.out (by simp [lamellalaw06_StripeJoins.l0])
                    | succ k3 =>
                      have H := HA.out
                      clear HA
                      simp only [lamellalaw06_StripeJoins.l0] at H
                      by_cases c29 : x16_3 < (t207.length : Int)
                      · rw [if_pos c29] at H
                        have c29b0 : decide (x16_3 < (t207.length : Int)) = true := decide_eq_true c29
                        clear c29
                        by_cases c30 : 0 ≤ x16_3
                        · rw [if_pos c30] at H
                          have c30b0 : decide (0 ≤ x16_3) = true := decide_eq_true c30
                          clear c30
                          have H' := Aside0.mk H
                          clear H
                          obtain ⟨Ao31, co31, eo31⟩ := Kd.R_slice HO_9.out
                          subst eo31
                          have p220 : 0 ≤ (x16_3 : Int) := of_decide_eq_true (by first | (with_reducible assumption) | assumption)
                          have q220 : x16_3 < (t207.length : Int) := of_decide_eq_true (by first | (with_reducible assumption) | assumption)
                          obtain ⟨ad220, e220, hx220_0, hx220_1, hx220_2, hx220_3⟩ := at_T38 (Kd.R_reads' HO_9.out).2.2 x16_3 p220 q220
                          cases e220
                          replace p220 := eq_true p220
                          replace q220 := eq_true q220
                          go_wp2
                          go_roundg k3
                          case measure => have := HJ6.out; have := HJ19.out; have := HK3.out; omega
                          case rel => exact ⟨(wrap64 (x15_3 + ((rd_T38 t207 x16_3).f3))), (wrap64 (x16_3 + 1)), (by first | rfl | (simp; done) | (simp [*]; done)), (by first | rfl | (simp; done) | (simp [*]; done)), H', ⟨by have := HJ6.out; have := HJ19.out; have := HK3.out; omega⟩, ⟨by (with_reducible repeat (first | apply Kd.R_alloc | apply Kd.R_drewN | apply Kd.R_drew)); exact HO_9.out⟩, ⟨by (with_reducible repeat (first | apply Kd.R_alloc | apply Kd.R_drewN | apply Kd.R_drew)); exact HO_11.out⟩, ⟨by (with_reducible repeat (first | apply Kd.R_alloc | apply Kd.R_drewN | apply Kd.R_drew)); exact HO_13.out⟩, ⟨by (with_reducible repeat (first | refine blk_drewN ?_ _ | refine blk_drew ?_ | refine blk_alloc ?_ _)); exact BK204.out⟩, ⟨by repeat (first | (with_reducible first | exact HB.out | apply below_alloc | apply pw_below_drewN | apply below_drew1 | refine below_set ?_ GE204.out) | exact HB.out)⟩⟩
                        · rw [if_neg c30] at H
                          exact absurd H (by simp)
                      · rw [if_neg c29] at H
                        have c29b0 : decide (x16_3 < (t207.length : Int)) = false := decide_eq_false c29
                        clear c29
                        have H' := Aside0.mk H
                        clear H
                        obtain ⟨Ao32, co32, eo32⟩ := Kd.R_slice HO_9.out
                        subst eo32
                        go_wp2
                        go_loopg [17, 18] k3 (fun kq v17 v18 w' => ∃ (x17_4 : Int) (x18_4 : Int), v17 = .int .i64 x17_4 ∧ v18 = .int .i64 x18_4 ∧ Aside0 (lamellalaw06_StripeJoins.l1 kq a1 a2 a3 t207 t212 t216 x15_3 x17_4 x18_4 a0_0 a0_1 a0_2 = some r) ∧ Aside0 (kq ≤ k3) ∧ Aside0 (Kd.R k38 38 w' w.heap.size (fun k_ => some k_ ≠ (v213 : Value).ownBlock ∧ some k_ ≠ (v217 : Value).ownBlock) (.slice Ao32 t207.length co32) t207) ∧ Aside0 (Kd.R k38 38 w' w.heap.size (fun k_ => some k_ ≠ ((.slice Ao32 t207.length co32) : Value).ownBlock ∧ some k_ ≠ (v217 : Value).ownBlock) v213 t212) ∧ Aside0 (Kd.R k38 38 w' w.heap.size (fun k_ => some k_ ≠ ((.slice Ao32 t207.length co32) : Value).ownBlock ∧ some k_ ≠ (v213 : Value).ownBlock) v217 t216) ∧ Aside0 (w'.heap[gb204]? = some (.cells #[.int .i64 a0_0, .int .i64 a0_1, .int .i64 a0_2] 23 (0, 0))) ∧ Aside0 (Below w.heap.size w w'))
                        case atStart => exact ⟨(0), (0), (by first | rfl | (simp; done) | (simp [*]; done)), (by first | rfl | (simp; done) | (simp [*]; done)), H', ⟨Nat.le_refl _⟩, ⟨by (with_reducible repeat (first | apply Kd.R_alloc | apply Kd.R_drewN | apply Kd.R_drew)); exact HO_9.out⟩, ⟨by (with_reducible repeat (first | apply Kd.R_alloc | apply Kd.R_drewN | apply Kd.R_drew)); exact HO_11.out⟩, ⟨by (with_reducible repeat (first | apply Kd.R_alloc | apply Kd.R_drewN | apply Kd.R_drew)); exact HO_13.out⟩, ⟨by (with_reducible repeat (first | refine blk_drewN ?_ _ | refine blk_drew ?_ | refine blk_alloc ?_ _)); exact BK204.out⟩, ⟨by repeat (first | (with_reducible first | exact HB.out | apply below_alloc | apply pw_below_drewN | apply below_drew1 | refine below_set ?_ GE204.out) | exact HB.out)⟩⟩
                        case round =>
                          clear H'
                          try clear c1
                          try clear c2
                          try clear p2
                          try clear q2
                          try clear hx2
                          try clear c3
                          try clear c6
                          try clear p6
                          try clear c8
                          try clear c10
                          try clear c10b0
                          try clear c11
                          try clear c11b0
                          try clear c12
                          try clear c12b0
                          try clear c13
                          try clear c17
                          try clear c17b0
                          try clear c17b1
                          try clear p22
                          try clear q22
                          try clear hx22
                          try clear c27
                          try clear c27b0
                          try clear c27b1
                          try clear c28
                          try clear c29
                          try clear c29b0
                          try clear c30
                          try clear c30b0
                          try clear hcz21_0
                          try clear hcz21_1
                          try clear hcz21_2
                          try clear hcz23_0
                          try clear hcz23_1
                          try clear hcz23_2
                          try clear hcz25_0
                          try clear hcz25_1
                          try clear hcz25_2
                          try clear hfz21_0
                          try clear hfz21_1
                          try clear hfz21_2
                          try clear hfz23_0
                          try clear hfz23_1
                          try clear hfz23_2
                          try clear hfz25_0
                          try clear hfz25_1
                          try clear hfz25_2
                          try clear hx220_0
                          try clear hx220_1
                          try clear hx220_2
                          try clear hx220_3
                          try clear p2
                          try clear p220
                          try clear p6
                          try clear q220
                          obtain ⟨x17_4, x18_4, rfl, rfl, HA, HK4, HO_9, HO_11, HO_13, BK204, HB⟩ := hrel
                          cases gk with
                          | zero => exact absurd HA.out (by simp [lamellalaw06_StripeJoins.l1])
                          | succ k4 =>
                            have H := HA.out
                            clear HA
                            simp only [lamellalaw06_StripeJoins.l1] at H
                            by_cases c33 : x18_4 < (t212.length : Int)
                            · rw [if_pos c33] at H
                              have c33b0 : decide (x18_4 < (t212.length : Int)) = true := decide_eq_true c33
                              clear c33
                              by_cases c34 : 0 ≤ x18_4
                              · rw [if_pos c34] at H
                                have c34b0 : decide (0 ≤ x18_4) = true := decide_eq_true c34
                                clear c34
                                have H' := Aside0.mk H
                                clear H
                                obtain ⟨Ao35, co35, eo35⟩ := Kd.R_slice HO_11.out
                                subst eo35
                                have p221 : 0 ≤ (x18_4 : Int) := of_decide_eq_true (by first | (with_reducible assumption) | assumption)
                                have q221 : x18_4 < (t212.length : Int) := of_decide_eq_true (by first | (with_reducible assumption) | assumption)
                                obtain ⟨ad221, e221, hx221_0, hx221_1, hx221_2, hx221_3⟩ := at_T38 (Kd.R_reads' HO_11.out).2.2 x18_4 p221 q221
                                cases e221
                                replace p221 := eq_true p221
                                replace q221 := eq_true q221
                                go_wp2
                                go_roundg k4
                                case measure => have := HJ6.out; have := HJ19.out; have := HK3.out; have := HK4.out; omega
                                case rel => exact ⟨(wrap64 (x17_4 + ((rd_T38 t212 x18_4).f3))), (wrap64 (x18_4 + 1)), (by first | rfl | (simp; done) | (simp [*]; done)), (by first | rfl | (simp; done) | (simp [*]; done)), H', ⟨by have := HJ6.out; have := HJ19.out; have := HK3.out; have := HK4.out; omega⟩, ⟨by (with_reducible repeat (first | apply Kd.R_alloc | apply Kd.R_drewN | apply Kd.R_drew)); exact HO_9.out⟩, ⟨by (with_reducible repeat (first | apply Kd.R_alloc | apply Kd.R_drewN | apply Kd.R_drew)); exact HO_11.out⟩, ⟨by (with_reducible repeat (first | apply Kd.R_alloc | apply Kd.R_drewN | apply Kd.R_drew)); exact HO_13.out⟩, ⟨by (with_reducible repeat (first | refine blk_drewN ?_ _ | refine blk_drew ?_ | refine blk_alloc ?_ _)); exact BK204.out⟩, ⟨by repeat (first | (with_reducible first | exact HB.out | apply below_alloc | apply pw_below_drewN | apply below_drew1 | refine below_set ?_ GE204.out) | exact HB.out)⟩⟩
                              · rw [if_neg c34] at H
                                exact absurd H (by simp)
                            · rw [if_neg c33] at H
                              have c33b0 : decide (x18_4 < (t212.length : Int)) = false := decide_eq_false c33
                              clear c33
                              have H' := Aside0.mk H
                              clear H
                              obtain ⟨Ao36, co36, eo36⟩ := Kd.R_slice HO_11.out
                              subst eo36
                              go_wp2
                              go_loopg [17, 19] k4 (fun kq v17 v19 w' => ∃ (x17_5 : Int) (x19_5 : Int), v17 = .int .i64 x17_5 ∧ v19 = .int .i64 x19_5 ∧ Aside0 (lamellalaw06_StripeJoins.l2 kq a1 a2 a3 t207 t212 t216 x15_3 x17_5 x19_5 a0_0 a0_1 a0_2 = some r) ∧ Aside0 (kq ≤ k4) ∧ Aside0 (Kd.R k38 38 w' w.heap.size (fun k_ => some k_ ≠ ((.slice Ao36 t212.length co36) : Value).ownBlock ∧ some k_ ≠ (v217 : Value).ownBlock) (.slice Ao32 t207.length co32) t207) ∧ Aside0 (Kd.R k38 38 w' w.heap.size (fun k_ => some k_ ≠ ((.slice Ao32 t207.length co32) : Value).ownBlock ∧ some k_ ≠ (v217 : Value).ownBlock) (.slice Ao36 t212.length co36) t212) ∧ Aside0 (Kd.R k38 38 w' w.heap.size (fun k_ => some k_ ≠ ((.slice Ao32 t207.length co32) : Value).ownBlock ∧ some k_ ≠ ((.slice Ao36 t212.length co36) : Value).ownBlock) v217 t216) ∧ Aside0 (w'.heap[gb204]? = some (.cells #[.int .i64 a0_0, .int .i64 a0_1, .int .i64 a0_2] 23 (0, 0))) ∧ Aside0 (Below w.heap.size w w'))
                              case atStart => exact ⟨(x17_4), (0), (by first | rfl | (simp; done) | (simp [*]; done)), (by first | rfl | (simp; done) | (simp [*]; done)), H', ⟨Nat.le_refl _⟩, ⟨by (with_reducible repeat (first | apply Kd.R_alloc | apply Kd.R_drewN | apply Kd.R_drew)); exact HO_9.out⟩, ⟨by (with_reducible repeat (first | apply Kd.R_alloc | apply Kd.R_drewN | apply Kd.R_drew)); exact HO_11.out⟩, ⟨by (with_reducible repeat (first | apply Kd.R_alloc | apply Kd.R_drewN | apply Kd.R_drew)); exact HO_13.out⟩, ⟨by (with_reducible repeat (first | refine blk_drewN ?_ _ | refine blk_drew ?_ | refine blk_alloc ?_ _)); exact BK204.out⟩, ⟨by repeat (first | (with_reducible first | exact HB.out | apply below_alloc | apply pw_below_drewN | apply below_drew1 | refine below_set ?_ GE204.out) | exact HB.out)⟩⟩
                              case round =>
                                clear H'
                                try clear c1
                                try clear c2
                                try clear p2
                                try clear q2
                                try clear hx2
                                try clear c3
                                try clear c6
                                try clear p6
                                try clear c8
                                try clear c10
                                try clear c10b0
                                try clear c11
                                try clear c11b0
                                try clear c12
                                try clear c12b0
                                try clear c13
                                try clear c17
                                try clear c17b0
                                try clear c17b1
                                try clear p22
                                try clear q22
                                try clear hx22
                                try clear c27
                                try clear c27b0
                                try clear c27b1
                                try clear c28
                                try clear c29
                                try clear c29b0
                                try clear c30
                                try clear c30b0
                                try clear c33
                                try clear c33b0
                                try clear c34
                                try clear c34b0
                                try clear hcz21_0
                                try clear hcz21_1
                                try clear hcz21_2
                                try clear hcz23_0
                                try clear hcz23_1
                                try clear hcz23_2
                                try clear hcz25_0
                                try clear hcz25_1
                                try clear hcz25_2
                                try clear hfz21_0
                                try clear hfz21_1
                                try clear hfz21_2
                                try clear hfz23_0
                                try clear hfz23_1
                                try clear hfz23_2
                                try clear hfz25_0
                                try clear hfz25_1
                                try clear hfz25_2
                                try clear hx220_0
                                try clear hx220_1
                                try clear hx220_2
                                try clear hx220_3
                                try clear hx221_0
                                try clear hx221_1
                                try clear hx221_2
                                try clear hx221_3
                                try clear p2
                                try clear p22
                                try clear p220
                                try clear p221
                                try clear p6
                                try clear q2
                                try clear q22
                                try clear q220
                                try clear q221
                                obtain ⟨x17_5, x19_5, rfl, rfl, HA, HK5, HO_9, HO_11, HO_13, BK204, HB⟩ := hrel
                                cases gk with
                                | zero => exact absurd HA.out (by simp [lamellalaw06_StripeJoins.l2])
                                | succ k5 =>
                                  have H := HA.out
                                  clear HA
                                  simp only [lamellalaw06_StripeJoins.l2] at H
                                  by_cases c37 : x19_5 < (t216.length : Int)
                                  · rw [if_pos c37] at H
                                    have c37b0 : decide (x19_5 < (t216.length : Int)) = true := decide_eq_true c37
                                    clear c37
                                    by_cases c38 : 0 ≤ x19_5
                                    · rw [if_pos c38] at H
                                      have c38b0 : decide (0 ≤ x19_5) = true := decide_eq_true c38
                                      clear c38
                                      have H' := Aside0.mk H
                                      clear H
                                      obtain ⟨Ao39, co39, eo39⟩ := Kd.R_slice HO_13.out
                                      subst eo39
                                      have p222 : 0 ≤ (x19_5 : Int) := of_decide_eq_true (by first | (with_reducible assumption) | assumption)
                                      have q222 : x19_5 < (t216.length : Int) := of_decide_eq_true (by first | (with_reducible assumption) | assumption)
                                      obtain ⟨ad222, e222, hx222_0, hx222_1, hx222_2, hx222_3⟩ := at_T38 (Kd.R_reads' HO_13.out).2.2 x19_5 p222 q222
                                      cases e222
                                      replace p222 := eq_true p222
                                      replace q222 := eq_true q222
                                      go_wp2
                                      go_roundg k5
                                      case measure => have := HJ6.out; have := HJ19.out; have := HK3.out; have := HK4.out; have := HK5.out; omega
                                      case rel => exact ⟨(wrap64 (x17_5 + ((rd_T38 t216 x19_5).f3))), (wrap64 (x19_5 + 1)), (by first | rfl | (simp; done) | (simp [*]; done)), (by first | rfl | (simp; done) | (simp [*]; done)), H', ⟨by have := HJ6.out; have := HJ19.out; have := HK3.out; have := HK4.out; have := HK5.out; omega⟩, ⟨by (with_reducible repeat (first | apply Kd.R_alloc | apply Kd.R_drewN | apply Kd.R_drew)); exact HO_9.out⟩, ⟨by (with_reducible repeat (first | apply Kd.R_alloc | apply Kd.R_drewN | apply Kd.R_drew)); exact HO_11.out⟩, ⟨by (with_reducible repeat (first | apply Kd.R_alloc | apply Kd.R_drewN | apply Kd.R_drew)); exact HO_13.out⟩, ⟨by (with_reducible repeat (first | refine blk_drewN ?_ _ | refine blk_drew ?_ | refine blk_alloc ?_ _)); exact BK204.out⟩, ⟨by repeat (first | (with_reducible first | exact HB.out | apply below_alloc | apply pw_below_drewN | apply below_drew1 | refine below_set ?_ GE204.out) | exact HB.out)⟩⟩
                                    · rw [if_neg c38] at H
                                      exact absurd H (by simp)
                                  · rw [if_neg c37] at H
                                    have c37b0 : decide (x19_5 < (t216.length : Int)) = false := decide_eq_false c37
                                    clear c37
                                    replace H := Option.bind_eq_some_iff.mp H
                                    obtain ⟨t223, A400, H⟩ := H
                                    replace H : (if t223 = true then (if x15_3 = (wrap64 (a2 + a3)) then (if x17_5 = x15_3 then (if (wrap64 ((wrap64 ((t212.length : Int) + (t216.length : Int))) - (t207.length : Int))) = 0 then (some true) else (if (wrap64 ((wrap64 ((t212.length : Int) + (t216.length : Int))) - (t207.length : Int))) = 1 then (if a2 > 0 then (if a3 > 0 then (if a0_1 = 0 then (none) else (some ((Int.tmod (wrap64 (a1 + a2)) a0_1) != 0))) else (some false)) else (some false)) else (some false))) else (some false)) else (some false)) else (some false)) = some r := H
                                    have A40 := Aside0.mk A400
                                    clear A400
                                    by_cases c41 : t223 = true
                                    · subst c41
                                      have H1 : (if x15_3 = (wrap64 (a2 + a3)) then (if x17_5 = x15_3 then (if (wrap64 ((wrap64 ((t212.length : Int) + (t216.length : Int))) - (t207.length : Int))) = 0 then (some true) else (if (wrap64 ((wrap64 ((t212.length : Int) + (t216.length : Int))) - (t207.length : Int))) = 1 then (if a2 > 0 then (if a3 > 0 then (if a0_1 = 0 then (none) else (some ((Int.tmod (wrap64 (a1 + a2)) a0_1) != 0))) else (some false)) else (some false)) else (some false))) else (some false)) else (some false)) = some r := by rw [if_pos rfl] at H; exact H
                                      clear H
                                      have H := H1
                                      clear H1
                                      by_cases c42 : x15_3 = (wrap64 (a2 + a3))
                                      · rw [if_pos c42] at H
                                        have c42b0 : (x15_3 == (wrap64 (a2 + a3))) = true := beq_iff_eq.mpr c42
                                        have c42b1 : (x15_3 != (wrap64 (a2 + a3))) = false := bne_eq_false_iff_eq.mpr c42
                                        clear c42
                                        by_cases c43 : x17_5 = x15_3
                                        · rw [if_pos c43] at H
                                          have c43b0 : (x17_5 == x15_3) = true := beq_iff_eq.mpr c43
                                          have c43b1 : (x17_5 != x15_3) = false := bne_eq_false_iff_eq.mpr c43
                                          clear c43
                                          by_cases c44 : (wrap64 ((wrap64 ((t212.length : Int) + (t216.length : Int))) - (t207.length : Int))) = 0
                                          · rw [if_pos c44] at H
                                            have c44b0 : ((wrap64 ((wrap64 ((t212.length : Int) + (t216.length : Int))) - (t207.length : Int))) == 0) = true := beq_iff_eq.mpr c44
                                            have c44b1 : ((wrap64 ((wrap64 ((t212.length : Int) + (t216.length : Int))) - (t207.length : Int))) != 0) = false := bne_eq_false_iff_eq.mpr c44
                                            clear c44
                                            obtain rfl := Option.some.inj H
                                            obtain ⟨Ao45, co45, eo45⟩ := Kd.R_slice HO_13.out
                                            subst eo45
                                            go_wp2_with (first | ((with_reducible refine gate_callee (f := 11) rfl ?_); refine goesL_ (some 119) rfl rfl Try.func11 (by kernel_rfl) rfl #[] rfl (by (try simp only [List.map_toArray, List.map_cons, List.map_nil]); first | done | rfl | (simp only [List.length_drop, List.length_take]; rfl)) ?_; (with_reducible refine (lamellalaw06_alive.calls k5  true _ A40.out).mono ?_); rintro e w46 ⟨rfl, hb⟩; refine ⟨_, rfl, ?_⟩; have n0_ := Aside0.mk (Kd.R_below (by (with_reducible repeat (first | apply Kd.R_alloc | apply Kd.R_drewN | apply Kd.R_drew)); exact HO_9.out) hb); have n1_ := Aside0.mk (Kd.R_below (by (with_reducible repeat (first | apply Kd.R_alloc | apply Kd.R_drewN | apply Kd.R_drew)); exact HO_11.out) hb); have n2_ := Aside0.mk (Kd.R_below (by (with_reducible repeat (first | apply Kd.R_alloc | apply Kd.R_drewN | apply Kd.R_drew)); exact HO_13.out) hb); have n3_ := Aside0.mk (blk_below (g := gb204) (o := .cells #[.int .i64 a0_0, .int .i64 a0_1, .int .i64 a0_2] 23 (0, 0)) (by (with_reducible repeat (first | refine blk_drewN ?_ _ | refine blk_drew ?_ | refine blk_alloc ?_ _)); exact BK204.out) hb); have n4_ := Aside0.mk (below_step (by repeat (first | (with_reducible first | exact HB.out | apply below_alloc | apply pw_below_drewN | apply below_drew1 | refine below_set ?_ GE204.out) | exact HB.out)) hb); clear HO_9; clear HO_11; clear HO_13; clear BK204; clear HB; have HO_9 := n0_; have HO_11 := n1_; have HO_13 := n2_; have BK204 := n3_; have HB := n4_; clear n0_ n1_ n2_ n3_ n4_; (try clear hb); (try clear hb2); (try clear hk); (try clear hi)))
                                            go_ret
                                            exact ⟨by first | rfl | (simp [errW_none, errW_some] <;> rfl) | (simp [*, errW_none, errW_some] <;> rfl), by repeat (first | (with_reducible first | exact HB.out | apply below_alloc | apply pw_below_drewN | apply below_drew1 | refine below_set ?_ GE204.out) | exact HB.out)⟩
                                          · rw [if_neg c44] at H
                                            have c44b0 : ((wrap64 ((wrap64 ((t212.length : Int) + (t216.length : Int))) - (t207.length : Int))) == 0) = false := beq_eq_false_iff_ne.mpr c44
                                            have c44b1 : ((wrap64 ((wrap64 ((t212.length : Int) + (t216.length : Int))) - (t207.length : Int))) != 0) = true := bne_iff_ne.mpr c44
                                            by_cases c47 : (wrap64 ((wrap64 ((t212.length : Int) + (t216.length : Int))) - (t207.length : Int))) = 1
                                            · rw [if_pos c47] at H
                                              have c47b0 : ((wrap64 ((wrap64 ((t212.length : Int) + (t216.length : Int))) - (t207.length : Int))) == 1) = true := beq_iff_eq.mpr c47
                                              have c47b1 : ((wrap64 ((wrap64 ((t212.length : Int) + (t216.length : Int))) - (t207.length : Int))) != 1) = false := bne_eq_false_iff_eq.mpr c47
                                              clear c47
                                              by_cases c48 : a2 > 0
                                              · rw [if_pos c48] at H
                                                have c48b0 : decide (0 < a2) = true := decide_eq_true c48
                                                clear c48
                                                by_cases c49 : a3 > 0
                                                · rw [if_pos c49] at H
                                                  have c49b0 : decide (0 < a3) = true := decide_eq_true c49
                                                  clear c49
                                                  by_cases c50 : a0_1 = 0
                                                  · rw [if_pos c50] at H
                                                    exact absurd H (by simp)
                                                  · rw [if_neg c50] at H
                                                    have c50b0 : (a0_1 == 0) = false := beq_eq_false_iff_ne.mpr c50
                                                    have c50b1 : (a0_1 != 0) = true := bne_iff_ne.mpr c50
                                                    obtain rfl := Option.some.inj H
                                                    obtain ⟨Ao51, co51, eo51⟩ := Kd.R_slice HO_13.out
                                                    subst eo51
                                                    go_wp2_with (first | ((with_reducible refine gate_callee (f := 11) rfl ?_); refine goesL_ (some 119) rfl rfl Try.func11 (by kernel_rfl) rfl #[] rfl (by (try simp only [List.map_toArray, List.map_cons, List.map_nil]); first | done | rfl | (simp only [List.length_drop, List.length_take]; rfl)) ?_; (with_reducible refine (lamellalaw06_alive.calls k5  true _ A40.out).mono ?_); rintro e w52 ⟨rfl, hb⟩; refine ⟨_, rfl, ?_⟩; have n0_ := Aside0.mk (Kd.R_below (by (with_reducible repeat (first | apply Kd.R_alloc | apply Kd.R_drewN | apply Kd.R_drew)); exact HO_9.out) hb); have n1_ := Aside0.mk (Kd.R_below (by (with_reducible repeat (first | apply Kd.R_alloc | apply Kd.R_drewN | apply Kd.R_drew)); exact HO_11.out) hb); have n2_ := Aside0.mk (Kd.R_below (by (with_reducible repeat (first | apply Kd.R_alloc | apply Kd.R_drewN | apply Kd.R_drew)); exact HO_13.out) hb); have n3_ := Aside0.mk (blk_below (g := gb204) (o := .cells #[.int .i64 a0_0, .int .i64 a0_1, .int .i64 a0_2] 23 (0, 0)) (by (with_reducible repeat (first | refine blk_drewN ?_ _ | refine blk_drew ?_ | refine blk_alloc ?_ _)); exact BK204.out) hb); have n4_ := Aside0.mk (below_step (by repeat (first | (with_reducible first | exact HB.out | apply below_alloc | apply pw_below_drewN | apply below_drew1 | refine below_set ?_ GE204.out) | exact HB.out)) hb); clear HO_9; clear HO_11; clear HO_13; clear BK204; clear HB; have HO_9 := n0_; have HO_11 := n1_; have HO_13 := n2_; have BK204 := n3_; have HB := n4_; clear n0_ n1_ n2_ n3_ n4_; (try clear hb); (try clear hb2); (try clear hk); (try clear hi); have hcz53_0 : w52.cell? ⟨gb204, 0, none⟩ = some (.int .i64 a0_0) := (blk_cell BK204.out 0).trans rfl; have hcz53_1 : w52.cell? ⟨gb204, 1, none⟩ = some (.int .i64 a0_1) := (blk_cell BK204.out 1).trans rfl; have hcz53_2 : w52.cell? ⟨gb204, 2, none⟩ = some (.int .i64 a0_2) := (blk_cell BK204.out 2).trans rfl; have hfz53_0 := blk_frozen BK204.out 0; have hfz53_1 := blk_frozen BK204.out 1; have hfz53_2 := blk_frozen BK204.out 2))
                                                    go_ret
                                                    exact ⟨by first | rfl | (simp [errW_none, errW_some] <;> rfl) | (simp [*, errW_none, errW_some] <;> rfl), by repeat (first | (with_reducible first | exact HB.out | apply below_alloc | apply pw_below_drewN | apply below_drew1 | refine below_set ?_ GE204.out) | exact HB.out)⟩
                                                · rw [if_neg c49] at H
                                                  have c49b0 : decide (0 < a3) = false := decide_eq_false c49
                                                  clear c49
                                                  obtain rfl := Option.some.inj H
                                                  obtain ⟨Ao54, co54, eo54⟩ := Kd.R_slice HO_13.out
                                                  subst eo54
                                                  go_wp2_with (first | ((with_reducible refine gate_callee (f := 11) rfl ?_); refine goesL_ (some 119) rfl rfl Try.func11 (by kernel_rfl) rfl #[] rfl (by (try simp only [List.map_toArray, List.map_cons, List.map_nil]); first | done | rfl | (simp only [List.length_drop, List.length_take]; rfl)) ?_; (with_reducible refine (lamellalaw06_alive.calls k5  true _ A40.out).mono ?_); rintro e w55 ⟨rfl, hb⟩; refine ⟨_, rfl, ?_⟩; have n0_ := Aside0.mk (Kd.R_below (by (with_reducible repeat (first | apply Kd.R_alloc | apply Kd.R_drewN | apply Kd.R_drew)); exact HO_9.out) hb); have n1_ := Aside0.mk (Kd.R_below (by (with_reducible repeat (first | apply Kd.R_alloc | apply Kd.R_drewN | apply Kd.R_drew)); exact HO_11.out) hb); have n2_ := Aside0.mk (Kd.R_below (by (with_reducible repeat (first | apply Kd.R_alloc | apply Kd.R_drewN | apply Kd.R_drew)); exact HO_13.out) hb); have n3_ := Aside0.mk (blk_below (g := gb204) (o := .cells #[.int .i64 a0_0, .int .i64 a0_1, .int .i64 a0_2] 23 (0, 0)) (by (with_reducible repeat (first | refine blk_drewN ?_ _ | refine blk_drew ?_ | refine blk_alloc ?_ _)); exact BK204.out) hb); have n4_ := Aside0.mk (below_step (by repeat (first | (with_reducible first | exact HB.out | apply below_alloc | apply pw_below_drewN | apply below_drew1 | refine below_set ?_ GE204.out) | exact HB.out)) hb); clear HO_9; clear HO_11; clear HO_13; clear BK204; clear HB; have HO_9 := n0_; have HO_11 := n1_; have HO_13 := n2_; have BK204 := n3_; have HB := n4_; clear n0_ n1_ n2_ n3_ n4_; (try clear hb); (try clear hb2); (try clear hk); (try clear hi)))
                                                  go_ret
                                                  exact ⟨by first | rfl | (simp [errW_none, errW_some] <;> rfl) | (simp [*, errW_none, errW_some] <;> rfl), by repeat (first | (with_reducible first | exact HB.out | apply below_alloc | apply pw_below_drewN | apply below_drew1 | refine below_set ?_ GE204.out) | exact HB.out)⟩
                                              · rw [if_neg c48] at H
                                                have c48b0 : decide (0 < a2) = false := decide_eq_false c48
                                                clear c48
                                                obtain rfl := Option.some.inj H
                                                obtain ⟨Ao56, co56, eo56⟩ := Kd.R_slice HO_13.out
                                                subst eo56
                                                go_wp2_with (first | ((with_reducible refine gate_callee (f := 11) rfl ?_); refine goesL_ (some 119) rfl rfl Try.func11 (by kernel_rfl) rfl #[] rfl (by (try simp only [List.map_toArray, List.map_cons, List.map_nil]); first | done | rfl | (simp only [List.length_drop, List.length_take]; rfl)) ?_; (with_reducible refine (lamellalaw06_alive.calls k5  true _ A40.out).mono ?_); rintro e w57 ⟨rfl, hb⟩; refine ⟨_, rfl, ?_⟩; have n0_ := Aside0.mk (Kd.R_below (by (with_reducible repeat (first | apply Kd.R_alloc | apply Kd.R_drewN | apply Kd.R_drew)); exact HO_9.out) hb); have n1_ := Aside0.mk (Kd.R_below (by (with_reducible repeat (first | apply Kd.R_alloc | apply Kd.R_drewN | apply Kd.R_drew)); exact HO_11.out) hb); have n2_ := Aside0.mk (Kd.R_below (by (with_reducible repeat (first | apply Kd.R_alloc | apply Kd.R_drewN | apply Kd.R_drew)); exact HO_13.out) hb); have n3_ := Aside0.mk (blk_below (g := gb204) (o := .cells #[.int .i64 a0_0, .int .i64 a0_1, .int .i64 a0_2] 23 (0, 0)) (by (with_reducible repeat (first | refine blk_drewN ?_ _ | refine blk_drew ?_ | refine blk_alloc ?_ _)); exact BK204.out) hb); have n4_ := Aside0.mk (below_step (by repeat (first | (with_reducible first | exact HB.out | apply below_alloc | apply pw_below_drewN | apply below_drew1 | refine below_set ?_ GE204.out) | exact HB.out)) hb); clear HO_9; clear HO_11; clear HO_13; clear BK204; clear HB; have HO_9 := n0_; have HO_11 := n1_; have HO_13 := n2_; have BK204 := n3_; have HB := n4_; clear n0_ n1_ n2_ n3_ n4_; (try clear hb); (try clear hb2); (try clear hk); (try clear hi)))
                                                go_ret
                                                exact ⟨by first | rfl | (simp [errW_none, errW_some] <;> rfl) | (simp [*, errW_none, errW_some] <;> rfl), by repeat (first | (with_reducible first | exact HB.out | apply below_alloc | apply pw_below_drewN | apply below_drew1 | refine below_set ?_ GE204.out) | exact HB.out)⟩
                                            · rw [if_neg c47] at H
                                              have c47b0 : ((wrap64 ((wrap64 ((t212.length : Int) + (t216.length : Int))) - (t207.length : Int))) == 1) = false := beq_eq_false_iff_ne.mpr c47
                                              have c47b1 : ((wrap64 ((wrap64 ((t212.length : Int) + (t216.length : Int))) - (t207.length : Int))) != 1) = true := bne_iff_ne.mpr c47
                                              obtain rfl := Option.some.inj H
                                              obtain ⟨Ao58, co58, eo58⟩ := Kd.R_slice HO_13.out
                                              subst eo58
                                              go_wp2_with (first | ((with_reducible refine gate_callee (f := 11) rfl ?_); refine goesL_ (some 119) rfl rfl Try.func11 (by kernel_rfl) rfl #[] rfl (by (try simp only [List.map_toArray, List.map_cons, List.map_nil]); first | done | rfl | (simp only [List.length_drop, List.length_take]; rfl)) ?_; (with_reducible refine (lamellalaw06_alive.calls k5  true _ A40.out).mono ?_); rintro e w59 ⟨rfl, hb⟩; refine ⟨_, rfl, ?_⟩; have n0_ := Aside0.mk (Kd.R_below (by (with_reducible repeat (first | apply Kd.R_alloc | apply Kd.R_drewN | apply Kd.R_drew)); exact HO_9.out) hb); have n1_ := Aside0.mk (Kd.R_below (by (with_reducible repeat (first | apply Kd.R_alloc | apply Kd.R_drewN | apply Kd.R_drew)); exact HO_11.out) hb); have n2_ := Aside0.mk (Kd.R_below (by (with_reducible repeat (first | apply Kd.R_alloc | apply Kd.R_drewN | apply Kd.R_drew)); exact HO_13.out) hb); have n3_ := Aside0.mk (blk_below (g := gb204) (o := .cells #[.int .i64 a0_0, .int .i64 a0_1, .int .i64 a0_2] 23 (0, 0)) (by (with_reducible repeat (first | refine blk_drewN ?_ _ | refine blk_drew ?_ | refine blk_alloc ?_ _)); exact BK204.out) hb); have n4_ := Aside0.mk (below_step (by repeat (first | (with_reducible first | exact HB.out | apply below_alloc | apply pw_below_drewN | apply below_drew1 | refine below_set ?_ GE204.out) | exact HB.out)) hb); clear HO_9; clear HO_11; clear HO_13; clear BK204; clear HB; have HO_9 := n0_; have HO_11 := n1_; have HO_13 := n2_; have BK204 := n3_; have HB := n4_; clear n0_ n1_ n2_ n3_ n4_; (try clear hb); (try clear hb2); (try clear hk); (try clear hi)))
                                              go_ret
                                              exact ⟨by first | rfl | (simp [errW_none, errW_some] <;> rfl) | (simp [*, errW_none, errW_some] <;> rfl), by repeat (first | (with_reducible first | exact HB.out | apply below_alloc | apply pw_below_drewN | apply below_drew1 | refine below_set ?_ GE204.out) | exact HB.out)⟩
                                        · rw [if_neg c43] at H
                                          have c43b0 : (x17_5 == x15_3) = false := beq_eq_false_iff_ne.mpr c43
                                          have c43b1 : (x17_5 != x15_3) = true := bne_iff_ne.mpr c43
                                          obtain rfl := Option.some.inj H
                                          obtain ⟨Ao60, co60, eo60⟩ := Kd.R_slice HO_13.out
                                          subst eo60
                                          go_wp2_with (first | ((with_reducible refine gate_callee (f := 11) rfl ?_); refine goesL_ (some 119) rfl rfl Try.func11 (by kernel_rfl) rfl #[] rfl (by (try simp only [List.map_toArray, List.map_cons, List.map_nil]); first | done | rfl | (simp only [List.length_drop, List.length_take]; rfl)) ?_; (with_reducible refine (lamellalaw06_alive.calls k5  true _ A40.out).mono ?_); rintro e w61 ⟨rfl, hb⟩; refine ⟨_, rfl, ?_⟩; have n0_ := Aside0.mk (Kd.R_below (by (with_reducible repeat (first | apply Kd.R_alloc | apply Kd.R_drewN | apply Kd.R_drew)); exact HO_9.out) hb); have n1_ := Aside0.mk (Kd.R_below (by (with_reducible repeat (first | apply Kd.R_alloc | apply Kd.R_drewN | apply Kd.R_drew)); exact HO_11.out) hb); have n2_ := Aside0.mk (Kd.R_below (by (with_reducible repeat (first | apply Kd.R_alloc | apply Kd.R_drewN | apply Kd.R_drew)); exact HO_13.out) hb); have n3_ := Aside0.mk (blk_below (g := gb204) (o := .cells #[.int .i64 a0_0, .int .i64 a0_1, .int .i64 a0_2] 23 (0, 0)) (by (with_reducible repeat (first | refine blk_drewN ?_ _ | refine blk_drew ?_ | refine blk_alloc ?_ _)); exact BK204.out) hb); have n4_ := Aside0.mk (below_step (by repeat (first | (with_reducible first | exact HB.out | apply below_alloc | apply pw_below_drewN | apply below_drew1 | refine below_set ?_ GE204.out) | exact HB.out)) hb); clear HO_9; clear HO_11; clear HO_13; clear BK204; clear HB; have HO_9 := n0_; have HO_11 := n1_; have HO_13 := n2_; have BK204 := n3_; have HB := n4_; clear n0_ n1_ n2_ n3_ n4_; (try clear hb); (try clear hb2); (try clear hk); (try clear hi)))
                                          go_ret
                                          exact ⟨by first | rfl | (simp [errW_none, errW_some] <;> rfl) | (simp [*, errW_none, errW_some] <;> rfl), by repeat (first | (with_reducible first | exact HB.out | apply below_alloc | apply pw_below_drewN | apply below_drew1 | refine below_set ?_ GE204.out) | exact HB.out)⟩
                                      · rw [if_neg c42] at H
                                        have c42b0 : (x15_3 == (wrap64 (a2 + a3))) = false := beq_eq_false_iff_ne.mpr c42
                                        have c42b1 : (x15_3 != (wrap64 (a2 + a3))) = true := bne_iff_ne.mpr c42
                                        obtain rfl := Option.some.inj H
                                        obtain ⟨Ao62, co62, eo62⟩ := Kd.R_slice HO_13.out
                                        subst eo62
                                        go_wp2_with (first | ((with_reducible refine gate_callee (f := 11) rfl ?_); refine goesL_ (some 119) rfl rfl Try.func11 (by kernel_rfl) rfl #[] rfl (by (try simp only [List.map_toArray, List.map_cons, List.map_nil]); first | done | rfl | (simp only [List.length_drop, List.length_take]; rfl)) ?_; (with_reducible refine (lamellalaw06_alive.calls k5  true _ A40.out).mono ?_); rintro e w63 ⟨rfl, hb⟩; refine ⟨_, rfl, ?_⟩; have n0_ := Aside0.mk (Kd.R_below (by (with_reducible repeat (first | apply Kd.R_alloc | apply Kd.R_drewN | apply Kd.R_drew)); exact HO_9.out) hb); have n1_ := Aside0.mk (Kd.R_below (by (with_reducible repeat (first | apply Kd.R_alloc | apply Kd.R_drewN | apply Kd.R_drew)); exact HO_11.out) hb); have n2_ := Aside0.mk (Kd.R_below (by (with_reducible repeat (first | apply Kd.R_alloc | apply Kd.R_drewN | apply Kd.R_drew)); exact HO_13.out) hb); have n3_ := Aside0.mk (blk_below (g := gb204) (o := .cells #[.int .i64 a0_0, .int .i64 a0_1, .int .i64 a0_2] 23 (0, 0)) (by (with_reducible repeat (first | refine blk_drewN ?_ _ | refine blk_drew ?_ | refine blk_alloc ?_ _)); exact BK204.out) hb); have n4_ := Aside0.mk (below_step (by repeat (first | (with_reducible first | exact HB.out | apply below_alloc | apply pw_below_drewN | apply below_drew1 | refine below_set ?_ GE204.out) | exact HB.out)) hb); clear HO_9; clear HO_11; clear HO_13; clear BK204; clear HB; have HO_9 := n0_; have HO_11 := n1_; have HO_13 := n2_; have BK204 := n3_; have HB := n4_; clear n0_ n1_ n2_ n3_ n4_; (try clear hb); (try clear hb2); (try clear hk); (try clear hi)))
                                        go_ret
                                        exact ⟨by first | rfl | (simp [errW_none, errW_some] <;> rfl) | (simp [*, errW_none, errW_some] <;> rfl), by repeat (first | (with_reducible first | exact HB.out | apply below_alloc | apply pw_below_drewN | apply below_drew1 | refine below_set ?_ GE204.out) | exact HB.out)⟩
                                    · replace c41 := Bool.eq_false_iff.mpr c41
                                      subst c41
                                      have H1 : (some false) = some r := by rw [if_neg (show ¬ (false = true) by decide)] at H; exact H
                                      clear H
                                      have H := H1
                                      clear H1
                                      obtain rfl := Option.some.inj H
                                      obtain ⟨Ao64, co64, eo64⟩ := Kd.R_slice HO_13.out
                                      subst eo64
                                      go_wp2_with (first | ((with_reducible refine gate_callee (f := 11) rfl ?_); refine goesL_ (some 119) rfl rfl Try.func11 (by kernel_rfl) rfl #[] rfl (by (try simp only [List.map_toArray, List.map_cons, List.map_nil]); first | done | rfl | (simp only [List.length_drop, List.length_take]; rfl)) ?_; (with_reducible refine (lamellalaw06_alive.calls k5  false _ A40.out).mono ?_); rintro e w65 ⟨rfl, hb⟩; refine ⟨_, rfl, ?_⟩; have n0_ := Aside0.mk (Kd.R_below (by (with_reducible repeat (first | apply Kd.R_alloc | apply Kd.R_drewN | apply Kd.R_drew)); exact HO_9.out) hb); have n1_ := Aside0.mk (Kd.R_below (by (with_reducible repeat (first | apply Kd.R_alloc | apply Kd.R_drewN | apply Kd.R_drew)); exact HO_11.out) hb); have n2_ := Aside0.mk (Kd.R_below (by (with_reducible repeat (first | apply Kd.R_alloc | apply Kd.R_drewN | apply Kd.R_drew)); exact HO_13.out) hb); have n3_ := Aside0.mk (blk_below (g := gb204) (o := .cells #[.int .i64 a0_0, .int .i64 a0_1, .int .i64 a0_2] 23 (0, 0)) (by (with_reducible repeat (first | refine blk_drewN ?_ _ | refine blk_drew ?_ | refine blk_alloc ?_ _)); exact BK204.out) hb); have n4_ := Aside0.mk (below_step (by repeat (first | (with_reducible first | exact HB.out | apply below_alloc | apply pw_below_drewN | apply below_drew1 | refine below_set ?_ GE204.out) | exact HB.out)) hb); clear HO_9; clear HO_11; clear HO_13; clear BK204; clear HB; have HO_9 := n0_; have HO_11 := n1_; have HO_13 := n2_; have BK204 := n3_; have HB := n4_; clear n0_ n1_ n2_ n3_ n4_; (try clear hb); (try clear hb2); (try clear hk); (try clear hi)))
                                      go_ret
                                      exact ⟨by first | rfl | (simp [errW_none, errW_some] <;> rfl) | (simp [*, errW_none, errW_some] <;> rfl), by repeat (first | (with_reducible first | exact HB.out | apply below_alloc | apply pw_below_drewN | apply below_drew1 | refine below_set ?_ GE204.out) | exact HB.out)⟩
          · rw [if_neg c17] at H
            have c17b0 : (t210 == 0) = false := beq_eq_false_iff_ne.mpr c17
            have c17b1 : (t210 != 0) = true := bne_iff_ne.mpr c17
            replace H := Option.bind_eq_some_iff.mp H
            obtain ⟨t211, A660, H⟩ := H
            replace H : (some t211) = some r := H
            have A66 := Aside0.mk A660
            clear A660
            obtain rfl := Option.some.inj H
            have hcz67_0 : wc.cell? ⟨gb204, 0, none⟩ = some (.int .i64 a0_0) := (blk_cell BK204.out 0).trans rfl
            have hcz67_1 : wc.cell? ⟨gb204, 1, none⟩ = some (.int .i64 a0_1) := (blk_cell BK204.out 1).trans rfl
            have hcz67_2 : wc.cell? ⟨gb204, 2, none⟩ = some (.int .i64 a0_2) := (blk_cell BK204.out 2).trans rfl
            have hfz67_0 := blk_frozen BK204.out 0
            have hfz67_1 := blk_frozen BK204.out 1
            have hfz67_2 := blk_frozen BK204.out 2
            go_wp2_with (first | ((with_reducible refine gate_callee (f := 12) rfl ?_); refine goesL_ (some 44) rfl rfl Try.func12 (by kernel_rfl) rfl #[.agg #[.int .i64 a0_0, .int .i64 a0_1, .int .i64 a0_2], .int .i64 a1, .int .i64 (wrap64 (a2 + a3))] rfl (by (try simp only [List.map_toArray, List.map_cons, List.map_nil]); first | done | rfl | (simp only [List.length_drop, List.length_take]; rfl)) ?_; (with_reducible refine (stripe_Frags.calls kj6 a0_0 a0_1 a0_2 a1 (wrap64 (a2 + a3)) t207 t210 _ A16.out).mono ?_); rintro e w68 ⟨v208, rfl, ho0, hb⟩; refine ⟨_, rfl, ?_⟩; have n0_ := Aside0.mk (Kd.R_lower ho0 (below_size (by repeat (first | (with_reducible first | exact HB.out | apply below_alloc | apply pw_below_drewN | apply below_drew1 | refine below_set ?_ GE204.out) | exact HB.out)))); have n1_ := Aside0.mk (blk_below (g := gb204) (o := .cells #[.int .i64 a0_0, .int .i64 a0_1, .int .i64 a0_2] 23 (0, 0)) (by (with_reducible repeat (first | refine blk_drewN ?_ _ | refine blk_drew ?_ | refine blk_alloc ?_ _)); exact BK204.out) hb); have n2_ := Aside0.mk (below_step (by repeat (first | (with_reducible first | exact HB.out | apply below_alloc | apply pw_below_drewN | apply below_drew1 | refine below_set ?_ GE204.out) | exact HB.out)) hb); clear BK204; clear HB; have HO209 := n0_; have BK204 := n1_; have HB := n2_; clear n0_ n1_ n2_; (try clear hb); (try clear hb2); (try clear hk); (try clear hi); (try clear ho0)) | ((with_reducible refine gate_callee (f := 11) rfl ?_); refine goesL_ (some 49) rfl rfl Try.func11 (by kernel_rfl) rfl #[] rfl (by (try simp only [List.map_toArray, List.map_cons, List.map_nil]); first | done | rfl | (simp only [List.length_drop, List.length_take]; rfl)) ?_; (with_reducible refine (lamellalaw06_alive.calls kj6  t211 _ A66.out).mono ?_); rintro e w69 ⟨rfl, hb⟩; refine ⟨_, rfl, ?_⟩; have n0_ := Aside0.mk (Kd.R_below (by (with_reducible repeat (first | apply Kd.R_alloc | apply Kd.R_drewN | apply Kd.R_drew)); exact HO209.out) hb); have n1_ := Aside0.mk (blk_below (g := gb204) (o := .cells #[.int .i64 a0_0, .int .i64 a0_1, .int .i64 a0_2] 23 (0, 0)) (by (with_reducible repeat (first | refine blk_drewN ?_ _ | refine blk_drew ?_ | refine blk_alloc ?_ _)); exact BK204.out) hb); have n2_ := Aside0.mk (below_step (by repeat (first | (with_reducible first | exact HB.out | apply below_alloc | apply pw_below_drewN | apply below_drew1 | refine below_set ?_ GE204.out) | exact HB.out)) hb); clear HO209; clear BK204; clear HB; have HO209 := n0_; have BK204 := n1_; have HB := n2_; clear n0_ n1_ n2_; (try clear hb); (try clear hb2); (try clear hk); (try clear hi)))
            go_ret
            exact ⟨by first | rfl | (simp [errW_none, errW_some] <;> rfl) | (simp [*, errW_none, errW_some] <;> rfl), by repeat (first | (with_reducible first | exact HB.out | apply below_alloc | apply pw_below_drewN | apply below_drew1 | refine below_set ?_ GE204.out) | exact HB.out)⟩
  · replace c6 := Bool.eq_false_iff.mpr c6
    subst c6
    have H1 : (some false) = some r := by rw [if_neg (show ¬ (false = true) by decide)] at H; exact H
    clear H
    have H := H1
    clear H1
    obtain rfl := Option.some.inj H
    go_enter Try.func8, Try.ntmps8
    go_wp2_with (first | ((with_reducible refine gate_dst (N := 4) rfl ?_); refine box_event ?hg (N := 4) ?hd (cs := #[.int .i64 a0_0, .int .i64 a0_1, .int .i64 a0_2]) (t := 23) ?hr ?_; (case hd => rfl); (case hg => rfl); (case hr => first | (go_simp; done) | (go_simp; rfl)); intro gb204 hg w70 hbox hb; have n0_ := Aside0.mk (below_step (by repeat (first | (with_reducible first | exact HB.out | apply below_alloc | apply pw_below_drewN | apply below_drew1) | exact HB.out)) hb); have n1_ := Aside0.mk (hbox); have n2_ := Aside0.mk ((by rw [hg]; exact (below_size (by repeat (first | (with_reducible first | exact HB.out | apply below_alloc | apply pw_below_drewN | apply below_drew1) | exact HB.out))) : w.heap.size ≤ gb204)); have n3_ := Aside0.mk ((by rw [hg]; exact (below_size (by repeat (first | (with_reducible first | exact HB.out | apply below_alloc | apply pw_below_drewN | apply below_drew1) | exact HB.out))) : w.heap.size ≤ gb204)); clear HB; have HB := n0_; have BK204 := n1_; have GW204 := n2_; have GE204 := n3_; clear n0_ n1_ n2_ n3_; clear hb hbox hg) | ((with_reducible refine gate_callee (f := 11) rfl ?_); refine goesL_ (some 21) rfl rfl Try.func11 (by kernel_rfl) rfl #[] rfl (by (try simp only [List.map_toArray, List.map_cons, List.map_nil]); first | done | rfl | (simp only [List.length_drop, List.length_take]; rfl)) ?_; (with_reducible refine (lamellalaw06_alive.calls k  false _ A5.out).mono ?_); rintro e w71 ⟨rfl, hb⟩; refine ⟨_, rfl, ?_⟩; have n0_ := Aside0.mk (blk_below (g := gb204) (o := .cells #[.int .i64 a0_0, .int .i64 a0_1, .int .i64 a0_2] 23 (0, 0)) (by (with_reducible repeat (first | refine blk_drewN ?_ _ | refine blk_drew ?_ | refine blk_alloc ?_ _)); exact BK204.out) hb); have n1_ := Aside0.mk (below_step (by repeat (first | (with_reducible first | exact HB.out | apply below_alloc | apply pw_below_drewN | apply below_drew1 | refine below_set ?_ GE204.out) | exact HB.out)) hb); clear BK204; clear HB; have BK204 := n0_; have HB := n1_; clear n0_ n1_; (try clear hb); (try clear hb2); (try clear hk); (try clear hi)))
    go_ret
    exact ⟨by first | rfl | (simp [errW_none, errW_some] <;> rfl) | (simp [*, errW_none, errW_some] <;> rfl), by repeat (first | (with_reducible first | exact HB.out | apply below_alloc | apply pw_below_drewN | apply below_drew1 | refine below_set ?_ GE204.out) | exact HB.out)⟩

-- GIVEN: function 21 (stripe_Back)

end Go.Proofs.Ytaipmnelcpilaaa.P06
