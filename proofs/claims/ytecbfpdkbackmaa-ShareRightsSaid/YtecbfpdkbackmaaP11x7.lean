-- Written by a program of this session (wip/tools/printplus.py) over the kit's printer: some functions are given by hand.
import Derived.Test.YtecbfpdkbackmaaP11x0
import Derived.Test.YtecbfpdkbackmaaP11x3
import Derived.Test.YtecbfpdkbackmaaP11x4
namespace Go.Proofs.Ytecbfpdkbackmaa.P11
open Go.RowKit Go.Proofs.YtecbfpdkbackmaaW.PrintWords Go.Proofs.YtecbfpdkbackmaaW.PrintLast Go.Proofs.YtecbfpdkbackmaaW.PrintMore
attribute [local go_sem] max2_int min2_int max_two min_two max_three min_three max_four min_four   -- for this text's walks alone
set_option linter.unusedVariables false
set_option linter.unusedSimpArgs false

/-! ### lamellaref11_Add: function 19 -/
mutual
def lamellaref11_Add.j0 : Nat → List (S27) → Bool → Int → Int → Int → Int → Int → Option ((List (S27)) × Int)
  | 0, _, _, _, _, _, _, _ => none
  | k + 1, x0, x16, x175000, x175001, x175002, x175003, x175004 => if x16 = true then (some (([] : List (S27)), 1)) else ((lamellaref11_Find.f k x0 x175000 x175001).bind fun t177 => (if t177 ≥ 0 then (some (([] : List (S27)), 8)) else (if (x0.length : Int) = 12 then (lamellaref11_Add.j1 k x0 true x175000 x175001 x175002 x175003 x175004) else ((lamellaref11_Mine.f k x0 x175000).bind fun t178 => (lamellaref11_Add.j1 k x0 (t178 == 4) x175000 x175001 x175002 x175003 x175004)))))
def lamellaref11_Add.j1 : Nat → List (S27) → Bool → Int → Int → Int → Int → Int → Option ((List (S27)) × Int)
  | 0, _, _, _, _, _, _, _ => none
  | k + 1, x0, x33, x175000, x175001, x175002, x175003, x175004 => if x33 = true then (some (([] : List (S27)), 16)) else (lamellaref11_Add.l0 k x0 0 x175000 x175001 x175002 x175003 x175004)
def lamellaref11_Add.l0 : Nat → List (S27) → Int → Int → Int → Int → Int → Int → Option ((List (S27)) × Int)
  | 0, _, _, _, _, _, _, _ => none
  | k + 1, x0, x6, x175000, x175001, x175002, x175003, x175004 => if x6 < (x0.length : Int) then (if 0 ≤ x6 then ((lamellaref11_Clash.f ((rd_T27 x0 x6).f0) ((rd_T27 x0 x6).f1) ((rd_T27 x0 x6).f2) ((rd_T27 x0 x6).f3) ((rd_T27 x0 x6).f4) x175000 x175001 x175002 x175003 x175004).bind fun t180 => (if t180 = true then (some (([] : List (S27)), 13)) else (lamellaref11_Add.l0 k x0 (wrap64 (x6 + 1)) x175000 x175001 x175002 x175003 x175004))) else (none)) else (lamellaref11_Add.l1 k x0 0 x175000 x175001 x175002 x175003 x175004)
def lamellaref11_Add.l1 : Nat → List (S27) → Int → Int → Int → Int → Int → Int → Option ((List (S27)) × Int)
  | 0, _, _, _, _, _, _, _ => none
  | k + 1, x0, x7, x175000, x175001, x175002, x175003, x175004 => if x7 < (x0.length : Int) then (if 0 ≤ x7 then ((lamellaref11_Less.f ((rd_T27 x0 x7).f0) ((rd_T27 x0 x7).f1) ((rd_T27 x0 x7).f2) ((rd_T27 x0 x7).f3) ((rd_T27 x0 x7).f4) x175000 x175001 x175002 x175003 x175004).bind fun t182 => (if t182 = true then (lamellaref11_Add.l1 k x0 (wrap64 (x7 + 1)) x175000 x175001 x175002 x175003 x175004) else (if x7 ≤ (x0.length : Int) then ((some (x0.take (x7 : Int).toNat : List (S27))).bind fun y183 => (if ([] : List (S27)).length + y183.length < 7036874417766 then ((some (([] : List (S27)) ++ y183 : List (S27))).bind fun y187 => (if y187.length < 7036874417766 then ((some (y187 ++ [(⟨x175000, x175001, x175002, x175003, x175004⟩ : S27)] : List (S27))).bind fun y190 => ((some (x0.drop (x7 : Int).toNat : List (S27))).bind fun y193 => (if y190.length + y193.length < 7036874417766 then (some ((y190 ++ y193), 0)) else (none)))) else (none))) else (none))) else (none)))) else (none)) else (if 0 ≤ x7 then (if x7 ≤ (x0.length : Int) then ((some (x0.take (x7 : Int).toNat : List (S27))).bind fun y200 => (if ([] : List (S27)).length + y200.length < 7036874417766 then ((some (([] : List (S27)) ++ y200 : List (S27))).bind fun y204 => (if y204.length < 7036874417766 then ((some (y204 ++ [(⟨x175000, x175001, x175002, x175003, x175004⟩ : S27)] : List (S27))).bind fun y207 => ((some (x0.drop (x7 : Int).toNat : List (S27))).bind fun y210 => (if y207.length + y210.length < 7036874417766 then (some ((y207 ++ y210), 0)) else (none)))) else (none))) else (none))) else (none)) else (none))
end
def lamellaref11_Add.f (k : Nat) (l0 : List (S27)) (a1_0 : Int) (a1_1 : Int) (a1_2 : Int) (a1_3 : Int) (a1_4 : Int) : Option ((List (S27)) × Int) := (lamellaref11_Right.f k l0).bind fun t175 => (if t175 = true then ((lamellaref11_One.f a1_0 a1_1 a1_2 a1_3 a1_4).bind fun t176 => (lamellaref11_Add.j0 k l0 (!t176) a1_0 a1_1 a1_2 a1_3 a1_4)) else (lamellaref11_Add.j0 k l0 true a1_0 a1_1 a1_2 a1_3 a1_4))
theorem lamellaref11_Add.mono_l : ∀ k, (∀ y0 y1 y2 y3 y4 y5 y6, LeO (lamellaref11_Add.j0 k y0 y1 y2 y3 y4 y5 y6) (lamellaref11_Add.j0 (k + 1) y0 y1 y2 y3 y4 y5 y6)) ∧ (∀ y0 y1 y2 y3 y4 y5 y6, LeO (lamellaref11_Add.j1 k y0 y1 y2 y3 y4 y5 y6) (lamellaref11_Add.j1 (k + 1) y0 y1 y2 y3 y4 y5 y6)) ∧ (∀ y0 y1 y2 y3 y4 y5 y6, LeO (lamellaref11_Add.l0 k y0 y1 y2 y3 y4 y5 y6) (lamellaref11_Add.l0 (k + 1) y0 y1 y2 y3 y4 y5 y6)) ∧ (∀ y0 y1 y2 y3 y4 y5 y6, LeO (lamellaref11_Add.l1 k y0 y1 y2 y3 y4 y5 y6) (lamellaref11_Add.l1 (k + 1) y0 y1 y2 y3 y4 y5 y6))
  | 0 => ⟨fun _ _ _ _ _ _ _ r h => by simp [lamellaref11_Add.j0] at h, fun _ _ _ _ _ _ _ r h => by simp [lamellaref11_Add.j1] at h, fun _ _ _ _ _ _ _ r h => by simp [lamellaref11_Add.l0] at h, fun _ _ _ _ _ _ _ r h => by simp [lamellaref11_Add.l1] at h⟩
  | k + 1 => by
    obtain ⟨ih0, ih1, ih2, ih3⟩ := lamellaref11_Add.mono_l k
    refine ⟨?_, ?_, ?_, ?_⟩
    · intro y0 y1 y2 y3 y4 y5 y6
      unfold lamellaref11_Add.j0
      repeat' first
      | (with_reducible exact ih0 _ _ _ _ _ _ _)
      | (with_reducible exact ih1 _ _ _ _ _ _ _)
      | (with_reducible exact ih2 _ _ _ _ _ _ _)
      | (with_reducible exact ih3 _ _ _ _ _ _ _)
      | (with_reducible exact lamellaref11_Find.mono _ _ _ _)
      | (with_reducible exact lamellaref11_Mine.mono _ _ _)
      | (with_reducible exact lamellaref11_Right.mono _ _)
      | (with_reducible exact LeO.refl _)
      | (with_reducible exact LeO.none _)
      | (with_reducible refine LeO.ite ?_ ?_)
      | (with_reducible refine LeO.bind ?_ (fun _ => ?_))
      | exact ih0 _ _ _ _ _ _ _
      | exact ih1 _ _ _ _ _ _ _
      | exact ih2 _ _ _ _ _ _ _
      | exact ih3 _ _ _ _ _ _ _
      | exact lamellaref11_Find.mono _ _ _ _
      | exact lamellaref11_Mine.mono _ _ _
      | exact lamellaref11_Right.mono _ _
      | exact LeO.none _
      | refine LeO.ite ?_ ?_
      | refine LeO.bind ?_ (fun _ => ?_)
    · intro y0 y1 y2 y3 y4 y5 y6
      unfold lamellaref11_Add.j1
      repeat' first
      | (with_reducible exact ih0 _ _ _ _ _ _ _)
      | (with_reducible exact ih1 _ _ _ _ _ _ _)
      | (with_reducible exact ih2 _ _ _ _ _ _ _)
      | (with_reducible exact ih3 _ _ _ _ _ _ _)
      | (with_reducible exact lamellaref11_Find.mono _ _ _ _)
      | (with_reducible exact lamellaref11_Mine.mono _ _ _)
      | (with_reducible exact lamellaref11_Right.mono _ _)
      | (with_reducible exact LeO.refl _)
      | (with_reducible exact LeO.none _)
      | (with_reducible refine LeO.ite ?_ ?_)
      | (with_reducible refine LeO.bind ?_ (fun _ => ?_))
      | exact ih0 _ _ _ _ _ _ _
      | exact ih1 _ _ _ _ _ _ _
      | exact ih2 _ _ _ _ _ _ _
      | exact ih3 _ _ _ _ _ _ _
      | exact lamellaref11_Find.mono _ _ _ _
      | exact lamellaref11_Mine.mono _ _ _
      | exact lamellaref11_Right.mono _ _
      | exact LeO.none _
      | refine LeO.ite ?_ ?_
      | refine LeO.bind ?_ (fun _ => ?_)
    · intro y0 y1 y2 y3 y4 y5 y6
      unfold lamellaref11_Add.l0
      repeat' first
      | (with_reducible exact ih0 _ _ _ _ _ _ _)
      | (with_reducible exact ih1 _ _ _ _ _ _ _)
      | (with_reducible exact ih2 _ _ _ _ _ _ _)
      | (with_reducible exact ih3 _ _ _ _ _ _ _)
      | (with_reducible exact lamellaref11_Find.mono _ _ _ _)
      | (with_reducible exact lamellaref11_Mine.mono _ _ _)
      | (with_reducible exact lamellaref11_Right.mono _ _)
      | (with_reducible exact LeO.refl _)
      | (with_reducible exact LeO.none _)
      | (with_reducible refine LeO.ite ?_ ?_)
      | (with_reducible refine LeO.bind ?_ (fun _ => ?_))
      | exact ih0 _ _ _ _ _ _ _
      | exact ih1 _ _ _ _ _ _ _
      | exact ih2 _ _ _ _ _ _ _
      | exact ih3 _ _ _ _ _ _ _
      | exact lamellaref11_Find.mono _ _ _ _
      | exact lamellaref11_Mine.mono _ _ _
      | exact lamellaref11_Right.mono _ _
      | exact LeO.none _
      | refine LeO.ite ?_ ?_
      | refine LeO.bind ?_ (fun _ => ?_)
    · intro y0 y1 y2 y3 y4 y5 y6
      unfold lamellaref11_Add.l1
      repeat' first
      | (with_reducible exact ih0 _ _ _ _ _ _ _)
      | (with_reducible exact ih1 _ _ _ _ _ _ _)
      | (with_reducible exact ih2 _ _ _ _ _ _ _)
      | (with_reducible exact ih3 _ _ _ _ _ _ _)
      | (with_reducible exact lamellaref11_Find.mono _ _ _ _)
      | (with_reducible exact lamellaref11_Mine.mono _ _ _)
      | (with_reducible exact lamellaref11_Right.mono _ _)
      | (with_reducible exact LeO.refl _)
      | (with_reducible exact LeO.none _)
      | (with_reducible refine LeO.ite ?_ ?_)
      | (with_reducible refine LeO.bind ?_ (fun _ => ?_))
      | exact ih0 _ _ _ _ _ _ _
      | exact ih1 _ _ _ _ _ _ _
      | exact ih2 _ _ _ _ _ _ _
      | exact ih3 _ _ _ _ _ _ _
      | exact lamellaref11_Find.mono _ _ _ _
      | exact lamellaref11_Mine.mono _ _ _
      | exact lamellaref11_Right.mono _ _
      | exact LeO.none _
      | refine LeO.ite ?_ ?_
      | refine LeO.bind ?_ (fun _ => ?_)
theorem lamellaref11_Add.mono : ∀ a0 a1 a2 a3 a4 a5 k, LeO (lamellaref11_Add.f k a0 a1 a2 a3 a4 a5) (lamellaref11_Add.f (k + 1) a0 a1 a2 a3 a4 a5) := by
  intro a0 a1 a2 a3 a4 a5 k
  obtain ⟨ih0, ih1, ih2, ih3⟩ := lamellaref11_Add.mono_l k
  unfold lamellaref11_Add.f
  repeat' first
      | (with_reducible exact ih0 _ _ _ _ _ _ _)
      | (with_reducible exact ih1 _ _ _ _ _ _ _)
      | (with_reducible exact ih2 _ _ _ _ _ _ _)
      | (with_reducible exact ih3 _ _ _ _ _ _ _)
      | (with_reducible exact lamellaref11_Find.mono _ _ _ _)
      | (with_reducible exact lamellaref11_Mine.mono _ _ _)
      | (with_reducible exact lamellaref11_Right.mono _ _)
      | (with_reducible exact LeO.refl _)
      | (with_reducible exact LeO.none _)
      | (with_reducible refine LeO.ite ?_ ?_)
      | (with_reducible refine LeO.bind ?_ (fun _ => ?_))
      | exact ih0 _ _ _ _ _ _ _
      | exact ih1 _ _ _ _ _ _ _
      | exact ih2 _ _ _ _ _ _ _
      | exact ih3 _ _ _ _ _ _ _
      | exact lamellaref11_Find.mono _ _ _ _
      | exact lamellaref11_Mine.mono _ _ _
      | exact lamellaref11_Right.mono _ _
      | exact LeO.none _
      | refine LeO.ite ?_ ?_
      | refine LeO.bind ?_ (fun _ => ?_)
def lamellaref11_Add.T13 : Bool × List (List Nat × List Nat) := (true, [([], []), ([], []), ([1], [1]), ([0, 2], [0, 2]), ([3], [3]), ([4], [4]), ([4], [4]), ([5, 6, 4], [4, 5, 6]), ([7, 4], [4, 7]), ([4], [4]), ([8, 9, 4, 4], [4, 8, 9]), ([4, 10], [4, 10])])
def lamellaref11_Add.B13 : List Nat := [0, 0, 2, 7, 15, 31, 31, 127, 255, 31, 1023, 2047]
theorem lamellaref11_Add.tab13 : rtab .any (opsOf Try.f19 13) = lamellaref11_Add.T13 := by kernel_rfl
theorem lamellaref11_Add.bits13 : waitsOk lamellaref11_Add.T13.2 lamellaref11_Add.B13 = true := by kernel_rfl
set_option maxHeartbeats 8000000 in
set_option maxRecDepth 100000 in
theorem lamellaref11_Add.calls (k : Nat) (A0 : Option Addr) (c0 : Nat) (l0 : List (S27)) (a1_0 : Int) (a1_1 : Int) (a1_2 : Int) (a1_3 : Int) (a1_4 : Int) (r1 : List (S27)) (r2 : Int) (w : World) (hr0 : Kd.C k27 w A0 l0.length l0) (hc0 : l0.length ≤ c0) (h : lamellaref11_Add.f k l0 a1_0 a1_1 a1_2 a1_3 a1_4 = some (r1, r2)) :
    Calls Try.prog 19 #[.slice A0 l0.length c0, .agg #[.int .u32 a1_0, .int .u32 a1_1, .int .u32 a1_2, .int .u32 a1_3, .int .u32 a1_4]] w fun e w' => ∃ v0_ : Value, e = .returned (.tuple #[v0_, .int .i64 r2]) ∧ Kd.R k27 27 w' w.heap.size (fun _ => True) v0_ r1 ∧ Below w.heap.size w w' := by
  have hu27 := Try.underlying27
  have HR0 := Aside0.mk hr0
  have HC0 := Aside0.mk hc0
  clear hr0 hc0
  have HB := Aside0.mk (Below.refl w.heap.size w)
  have H : ((lamellaref11_Right.f k l0).bind fun t175 => (if t175 = true then ((lamellaref11_One.f a1_0 a1_1 a1_2 a1_3 a1_4).bind fun t176 => (lamellaref11_Add.j0 k l0 (!t176) a1_0 a1_1 a1_2 a1_3 a1_4)) else (lamellaref11_Add.j0 k l0 true a1_0 a1_1 a1_2 a1_3 a1_4))) = some (r1, r2) := h
  clear h
  have HC3 := Aside0.mk H
  clear H
  go_enter Try.func19, Try.ntmps19
  go_upto_region 1 with (first | ((with_reducible refine gate_dst (N := 3) rfl ?_); refine box_event ?hg (N := 3) ?hd (cs := #[.int .u32 a1_0, .int .u32 a1_1, .int .u32 a1_2, .int .u32 a1_3, .int .u32 a1_4]) (t := 27) ?hr ?_; (case hd => rfl); (case hg => rfl); (case hr => first | (go_simp; done) | (go_simp; rfl)); intro gb174 hg w4 hbox hb; have n0_ := Aside0.mk (below_step (by repeat (first | (with_reducible first | exact HB.out | apply below_alloc | apply pw_below_drewN | apply below_drew1) | exact HB.out)) hb); have n1_ := Aside0.mk (hbox); have n2_ := Aside0.mk ((by rw [hg]; exact (below_size (by repeat (first | (with_reducible first | exact HB.out | apply below_alloc | apply pw_below_drewN | apply below_drew1) | exact HB.out))) : w.heap.size ≤ gb174)); have n3_ := Aside0.mk ((by rw [hg]; exact (below_size (by repeat (first | (with_reducible first | exact HB.out | apply below_alloc | apply pw_below_drewN | apply below_drew1) | exact HB.out))) : w.heap.size ≤ gb174)); clear HB; have HB := n0_; have BK174 := n1_; have GW174 := n2_; have GE174 := n3_; clear n0_ n1_ n2_ n3_; clear hb hbox hg))
  (try simp only [Act.put, List.setIfInBounds_toArray, List.set_cons_zero, List.set_cons_succ])
  go_cut [16] (fun v16 wc => ∃ (kq : Nat) (x16_2 : Bool), v16 = .bool x16_2 ∧ Aside0 (lamellaref11_Add.j0 kq l0 x16_2 a1_0 a1_1 a1_2 a1_3 a1_4 = some (r1, r2)) ∧ Aside0 (kq ≤ k) ∧ Aside0 (wc.heap[gb174]? = some (.cells #[.int .u32 a1_0, .int .u32 a1_1, .int .u32 a1_2, .int .u32 a1_3, .int .u32 a1_4] 27 (0, 0))) ∧ Aside0 (Below w.heap.size w wc))
  case first =>
    have H := HC3.out
    clear HC3
    replace H := Option.bind_eq_some_iff.mp H
    obtain ⟨t175, A50, H⟩ := H
    replace H : (if t175 = true then ((lamellaref11_One.f a1_0 a1_1 a1_2 a1_3 a1_4).bind fun t176 => (lamellaref11_Add.j0 k l0 (!t176) a1_0 a1_1 a1_2 a1_3 a1_4)) else (lamellaref11_Add.j0 k l0 true a1_0 a1_1 a1_2 a1_3 a1_4)) = some (r1, r2) := H
    have A5 := Aside0.mk A50
    clear A50
    by_cases c6 : t175 = true
    · subst c6
      have H1 : ((lamellaref11_One.f a1_0 a1_1 a1_2 a1_3 a1_4).bind fun t176 => (lamellaref11_Add.j0 k l0 (!t176) a1_0 a1_1 a1_2 a1_3 a1_4)) = some (r1, r2) := by rw [if_pos rfl] at H; exact H
      clear H
      have H := H1
      clear H1
      replace H := Option.bind_eq_some_iff.mp H
      obtain ⟨t176, A70, H⟩ := H
      replace H : (lamellaref11_Add.j0 k l0 (!t176) a1_0 a1_1 a1_2 a1_3 a1_4) = some (r1, r2) := H
      have A7 := Aside0.mk A70
      clear A70
      have H' := Aside0.mk H
      clear H
      go_wp2_with (first | ((with_reducible refine gate_callee (f := 14) rfl ?_); refine goesL_ (some 10) rfl rfl Try.func14 (by kernel_rfl) rfl #[.slice A0 l0.length c0] rfl (by (try simp only [List.map_toArray, List.map_cons, List.map_nil]); first | done | rfl | (simp only [List.length_drop, List.length_take]; rfl)) ?_; (with_reducible refine (lamellaref11_Right.calls k _ _ l0 true _ ?side1 ?side2 A5.out).mono ?_); (case side1 => repeat (first | exact (Kd.C_below HR0.out HB.out) | (with_reducible refine Kd.C_alloc ?_ _) | (with_reducible refine Kd.C_drewN ?_ _) | (with_reducible refine Kd.C_drew ?_))); (case side2 => exact HC0.out); rintro e w8 ⟨rfl, hb⟩; refine ⟨_, rfl, ?_⟩; have n0_ := Aside0.mk (blk_below (g := gb174) (o := .cells #[.int .u32 a1_0, .int .u32 a1_1, .int .u32 a1_2, .int .u32 a1_3, .int .u32 a1_4] 27 (0, 0)) (by (with_reducible repeat (first | refine blk_drewN ?_ _ | refine blk_drew ?_ | refine blk_alloc ?_ _)); exact BK174.out) hb); have n1_ := Aside0.mk (below_step (by repeat (first | (with_reducible first | exact HB.out | apply below_alloc | apply pw_below_drewN | apply below_drew1 | refine below_set ?_ GE174.out) | exact HB.out)) hb); clear BK174; clear HB; have BK174 := n0_; have HB := n1_; clear n0_ n1_; (try clear hb); (try clear hb2); (try clear hk); (try clear hi); have hcz9_0 : w8.cell? ⟨gb174, 0, none⟩ = some (.int .u32 a1_0) := (blk_cell BK174.out 0).trans rfl; have hcz9_1 : w8.cell? ⟨gb174, 1, none⟩ = some (.int .u32 a1_1) := (blk_cell BK174.out 1).trans rfl; have hcz9_2 : w8.cell? ⟨gb174, 2, none⟩ = some (.int .u32 a1_2) := (blk_cell BK174.out 2).trans rfl; have hcz9_3 : w8.cell? ⟨gb174, 3, none⟩ = some (.int .u32 a1_3) := (blk_cell BK174.out 3).trans rfl; have hcz9_4 : w8.cell? ⟨gb174, 4, none⟩ = some (.int .u32 a1_4) := (blk_cell BK174.out 4).trans rfl; have hfz9_0 := blk_frozen BK174.out 0; have hfz9_1 := blk_frozen BK174.out 1; have hfz9_2 := blk_frozen BK174.out 2; have hfz9_3 := blk_frozen BK174.out 3; have hfz9_4 := blk_frozen BK174.out 4) | (go_at_call 31; (with_reducible refine (lamellaref11_One.calls a1_0 a1_1 a1_2 a1_3 a1_4 t176 _ A7.out).mono ?_); rintro e w10 ⟨rfl, hb⟩; have n0_ := Aside0.mk (blk_below (g := gb174) (o := .cells #[.int .u32 a1_0, .int .u32 a1_1, .int .u32 a1_2, .int .u32 a1_3, .int .u32 a1_4] 27 (0, 0)) (by (with_reducible repeat (first | refine blk_drewN ?_ _ | refine blk_drew ?_ | refine blk_alloc ?_ _)); exact BK174.out) hb); have n1_ := Aside0.mk (below_step (by repeat (first | (with_reducible first | exact HB.out | apply below_alloc | apply pw_below_drewN | apply below_drew1 | refine below_set ?_ GE174.out) | exact HB.out)) hb); clear BK174; clear HB; have BK174 := n0_; have HB := n1_; clear n0_ n1_; (try clear hb); (try clear hb2); (try clear hk); (try clear hi)))
      go_meet
      case rel => exact ⟨_, (!t176), (by first | rfl | (simp; done) | (simp [*]; done)), H', ⟨by first | omega | exact Nat.le_refl _⟩, ⟨by (with_reducible repeat (first | refine blk_drewN ?_ _ | refine blk_drew ?_ | refine blk_alloc ?_ _)); exact BK174.out⟩, ⟨by repeat (first | (with_reducible first | exact HB.out | apply below_alloc | apply pw_below_drewN | apply below_drew1 | refine below_set ?_ GE174.out) | exact HB.out)⟩⟩
    · replace c6 := Bool.eq_false_iff.mpr c6
      subst c6
      have H1 : (lamellaref11_Add.j0 k l0 true a1_0 a1_1 a1_2 a1_3 a1_4) = some (r1, r2) := by rw [if_neg (show ¬ (false = true) by decide)] at H; exact H
      clear H
      have H := H1
      clear H1
      have H' := Aside0.mk H
      clear H
      go_wp2_with (first | ((with_reducible refine gate_callee (f := 14) rfl ?_); refine goesL_ (some 10) rfl rfl Try.func14 (by kernel_rfl) rfl #[.slice A0 l0.length c0] rfl (by (try simp only [List.map_toArray, List.map_cons, List.map_nil]); first | done | rfl | (simp only [List.length_drop, List.length_take]; rfl)) ?_; (with_reducible refine (lamellaref11_Right.calls k _ _ l0 false _ ?side1 ?side2 A5.out).mono ?_); (case side1 => repeat (first | exact (Kd.C_below HR0.out HB.out) | (with_reducible refine Kd.C_alloc ?_ _) | (with_reducible refine Kd.C_drewN ?_ _) | (with_reducible refine Kd.C_drew ?_))); (case side2 => exact HC0.out); rintro e w11 ⟨rfl, hb⟩; refine ⟨_, rfl, ?_⟩; have n0_ := Aside0.mk (blk_below (g := gb174) (o := .cells #[.int .u32 a1_0, .int .u32 a1_1, .int .u32 a1_2, .int .u32 a1_3, .int .u32 a1_4] 27 (0, 0)) (by (with_reducible repeat (first | refine blk_drewN ?_ _ | refine blk_drew ?_ | refine blk_alloc ?_ _)); exact BK174.out) hb); have n1_ := Aside0.mk (below_step (by repeat (first | (with_reducible first | exact HB.out | apply below_alloc | apply pw_below_drewN | apply below_drew1 | refine below_set ?_ GE174.out) | exact HB.out)) hb); clear BK174; clear HB; have BK174 := n0_; have HB := n1_; clear n0_ n1_; (try clear hb); (try clear hb2); (try clear hk); (try clear hi)))
      go_meet
      case rel => exact ⟨_, (true), (by first | rfl | (simp; done) | (simp [*]; done)), H', ⟨by first | omega | exact Nat.le_refl _⟩, ⟨by (with_reducible repeat (first | refine blk_drewN ?_ _ | refine blk_drew ?_ | refine blk_alloc ?_ _)); exact BK174.out⟩, ⟨by repeat (first | (with_reducible first | exact HB.out | apply below_alloc | apply pw_below_drewN | apply below_drew1 | refine below_set ?_ GE174.out) | exact HB.out)⟩⟩
  case rest =>
    clear HC3
    try clear c1
    try clear p2
    try clear c6
    try clear hcz9_0
    try clear hcz9_1
    try clear hcz9_2
    try clear hcz9_3
    try clear hcz9_4
    try clear hfz9_0
    try clear hfz9_1
    try clear hfz9_2
    try clear hfz9_3
    try clear hfz9_4
    obtain ⟨kq, x16_2, rfl, HA, HJ2, BK174, HB⟩ := hcut
    cases kq with
    | zero => exact absurd HA.out (by simp [lamellaref11_Add.j0])
    | succ kj2 =>
      have H := HA.out
      clear HA
      simp only [lamellaref11_Add.j0] at H
      by_cases c12 : x16_2 = true
      · subst c12
        have H1 : (some (([] : List (S27)), 1)) = some (r1, r2) := by rw [if_pos rfl] at H; exact H
        clear H
        have H := H1
        clear H1
        simp only [Option.some.injEq, Prod.mk.injEq] at H
        obtain ⟨rfl, rfl⟩ := H
        go_wp2
        go_ret2
        exact ⟨_, by first | rfl | (simp [errW_none, errW_some] <;> rfl) | (simp [*, errW_none, errW_some] <;> rfl), by first | exact Kd.R_nil _ _ _ _ _ | exact Kd.N_nil _ _ _ _ _ | exact Kd.V_nil _ _ _ _ _ | exact Kd.Q_nil _ _ _ _ _ | exact Kd.S_nil _ _ _ _ _, by repeat (first | (with_reducible first | exact HB.out | apply below_alloc | apply pw_below_drewN | apply below_drew1 | refine below_set ?_ GE174.out) | exact HB.out)⟩
      · replace c12 := Bool.eq_false_iff.mpr c12
        subst c12
        have H1 : ((lamellaref11_Find.f kj2 l0 a1_0 a1_1).bind fun t177 => (if t177 ≥ 0 then (some (([] : List (S27)), 8)) else (if (l0.length : Int) = 12 then (lamellaref11_Add.j1 kj2 l0 true a1_0 a1_1 a1_2 a1_3 a1_4) else ((lamellaref11_Mine.f kj2 l0 a1_0).bind fun t178 => (lamellaref11_Add.j1 kj2 l0 (t178 == 4) a1_0 a1_1 a1_2 a1_3 a1_4))))) = some (r1, r2) := by rw [if_neg (show ¬ (false = true) by decide)] at H; exact H
        clear H
        have H := H1
        clear H1
        replace H := Option.bind_eq_some_iff.mp H
        obtain ⟨t177, A130, H⟩ := H
        replace H : (if t177 ≥ 0 then (some (([] : List (S27)), 8)) else (if (l0.length : Int) = 12 then (lamellaref11_Add.j1 kj2 l0 true a1_0 a1_1 a1_2 a1_3 a1_4) else ((lamellaref11_Mine.f kj2 l0 a1_0).bind fun t178 => (lamellaref11_Add.j1 kj2 l0 (t178 == 4) a1_0 a1_1 a1_2 a1_3 a1_4)))) = some (r1, r2) := H
        have A13 := Aside0.mk A130
        clear A130
        by_cases c14 : t177 ≥ 0
        · rw [if_pos c14] at H
          have c14b0 : decide (0 ≤ t177) = true := decide_eq_true c14
          clear c14
          simp only [Option.some.injEq, Prod.mk.injEq] at H
          obtain ⟨rfl, rfl⟩ := H
          have hcz15_0 : wc.cell? ⟨gb174, 0, none⟩ = some (.int .u32 a1_0) := (blk_cell BK174.out 0).trans rfl
          have hcz15_1 : wc.cell? ⟨gb174, 1, none⟩ = some (.int .u32 a1_1) := (blk_cell BK174.out 1).trans rfl
          have hcz15_2 : wc.cell? ⟨gb174, 2, none⟩ = some (.int .u32 a1_2) := (blk_cell BK174.out 2).trans rfl
          have hcz15_3 : wc.cell? ⟨gb174, 3, none⟩ = some (.int .u32 a1_3) := (blk_cell BK174.out 3).trans rfl
          have hcz15_4 : wc.cell? ⟨gb174, 4, none⟩ = some (.int .u32 a1_4) := (blk_cell BK174.out 4).trans rfl
          have hfz15_0 := blk_frozen BK174.out 0
          have hfz15_1 := blk_frozen BK174.out 1
          have hfz15_2 := blk_frozen BK174.out 2
          have hfz15_3 := blk_frozen BK174.out 3
          have hfz15_4 := blk_frozen BK174.out 4
          go_wp2_with (first | ((with_reducible refine gate_callee (f := 13) rfl ?_); refine goesL_ (some 22) rfl rfl Try.func13 (by kernel_rfl) rfl #[.slice A0 l0.length c0, .int .u32 a1_0, .int .u32 a1_1] rfl (by (try simp only [List.map_toArray, List.map_cons, List.map_nil]); first | done | rfl | (simp only [List.length_drop, List.length_take]; rfl)) ?_; (with_reducible refine (lamellaref11_Find.calls kj2 _ _ l0 a1_0 a1_1 t177 _ ?side1 ?side2 A13.out).mono ?_); (case side1 => repeat (first | exact (Kd.C_below HR0.out HB.out) | (with_reducible refine Kd.C_alloc ?_ _) | (with_reducible refine Kd.C_drewN ?_ _) | (with_reducible refine Kd.C_drew ?_))); (case side2 => exact HC0.out); rintro e w' ⟨rfl, ⟨nd, rfl⟩⟩; refine ⟨_, rfl, ?_⟩))
          go_ret2
          exact ⟨_, by first | rfl | (simp [errW_none, errW_some] <;> rfl) | (simp [*, errW_none, errW_some] <;> rfl), by first | exact Kd.R_nil _ _ _ _ _ | exact Kd.N_nil _ _ _ _ _ | exact Kd.V_nil _ _ _ _ _ | exact Kd.Q_nil _ _ _ _ _ | exact Kd.S_nil _ _ _ _ _, by repeat (first | (with_reducible first | exact HB.out | apply below_alloc | apply pw_below_drewN | apply below_drew1 | refine below_set ?_ GE174.out) | exact HB.out)⟩
        · rw [if_neg c14] at H
          have c14b0 : decide (0 ≤ t177) = false := decide_eq_false c14
          clear c14
          have HC16 := Aside0.mk H
          clear H
          have hcz17_0 : wc.cell? ⟨gb174, 0, none⟩ = some (.int .u32 a1_0) := (blk_cell BK174.out 0).trans rfl
          have hcz17_1 : wc.cell? ⟨gb174, 1, none⟩ = some (.int .u32 a1_1) := (blk_cell BK174.out 1).trans rfl
          have hcz17_2 : wc.cell? ⟨gb174, 2, none⟩ = some (.int .u32 a1_2) := (blk_cell BK174.out 2).trans rfl
          have hcz17_3 : wc.cell? ⟨gb174, 3, none⟩ = some (.int .u32 a1_3) := (blk_cell BK174.out 3).trans rfl
          have hcz17_4 : wc.cell? ⟨gb174, 4, none⟩ = some (.int .u32 a1_4) := (blk_cell BK174.out 4).trans rfl
          have hfz17_0 := blk_frozen BK174.out 0
          have hfz17_1 := blk_frozen BK174.out 1
          have hfz17_2 := blk_frozen BK174.out 2
          have hfz17_3 := blk_frozen BK174.out 3
          have hfz17_4 := blk_frozen BK174.out 4
          go_upto_region 5 with (first | ((with_reducible refine gate_callee (f := 13) rfl ?_); refine goesL_ (some 22) rfl rfl Try.func13 (by kernel_rfl) rfl #[.slice A0 l0.length c0, .int .u32 a1_0, .int .u32 a1_1] rfl (by (try simp only [List.map_toArray, List.map_cons, List.map_nil]); first | done | rfl | (simp only [List.length_drop, List.length_take]; rfl)) ?_; (with_reducible refine (lamellaref11_Find.calls kj2 _ _ l0 a1_0 a1_1 t177 _ ?side1 ?side2 A13.out).mono ?_); (case side1 => repeat (first | exact (Kd.C_below HR0.out HB.out) | (with_reducible refine Kd.C_alloc ?_ _) | (with_reducible refine Kd.C_drewN ?_ _) | (with_reducible refine Kd.C_drew ?_))); (case side2 => exact HC0.out); rintro e w' ⟨rfl, ⟨nd, rfl⟩⟩; refine ⟨_, rfl, ?_⟩))
          (try simp only [Act.put, List.setIfInBounds_toArray, List.set_cons_zero, List.set_cons_succ])
          go_cut [33] (fun v33 wc => ∃ (kq : Nat) (x33_15 : Bool), v33 = .bool x33_15 ∧ Aside0 (lamellaref11_Add.j1 kq l0 x33_15 a1_0 a1_1 a1_2 a1_3 a1_4 = some (r1, r2)) ∧ Aside0 (kq ≤ kj2) ∧ Aside0 (wc.heap[gb174]? = some (.cells #[.int .u32 a1_0, .int .u32 a1_1, .int .u32 a1_2, .int .u32 a1_3, .int .u32 a1_4] 27 (0, 0))) ∧ Aside0 (Below w.heap.size w wc))
          case first =>
            have H := HC16.out
            clear HC16
            by_cases c18 : (l0.length : Int) = 12
            · rw [if_pos c18] at H
              have c18b0 : ((l0.length : Int) == 12) = true := beq_iff_eq.mpr c18
              have c18b1 : ((l0.length : Int) != 12) = false := bne_eq_false_iff_eq.mpr c18
              clear c18
              (first | rw [c18b0] | (simp only [i64_w, i32_w]; rw [c18b0]) | skip)
              have H' := Aside0.mk H
              clear H
              go_wp2
              go_meet
              case rel => exact ⟨_, (true), (by first | rfl | (simp; done) | (simp [*]; done)), H', ⟨by have := HJ2.out; first | omega | exact Nat.le_refl _⟩, ⟨by (with_reducible repeat (first | refine blk_drewN ?_ _ | refine blk_drew ?_ | refine blk_alloc ?_ _)); exact BK174.out⟩, ⟨by repeat (first | (with_reducible first | exact HB.out | apply below_alloc | apply pw_below_drewN | apply below_drew1 | refine below_set ?_ GE174.out) | exact HB.out)⟩⟩
            · rw [if_neg c18] at H
              have c18b0 : ((l0.length : Int) == 12) = false := beq_eq_false_iff_ne.mpr c18
              have c18b1 : ((l0.length : Int) != 12) = true := bne_iff_ne.mpr c18
              (first | rw [c18b0] | (simp only [i64_w, i32_w]; rw [c18b0]) | skip)
              replace H := Option.bind_eq_some_iff.mp H
              obtain ⟨t178, A190, H⟩ := H
              replace H : (lamellaref11_Add.j1 kj2 l0 (t178 == 4) a1_0 a1_1 a1_2 a1_3 a1_4) = some (r1, r2) := H
              have A19 := Aside0.mk A190
              clear A190
              have H' := Aside0.mk H
              clear H
              have hcz20_0 : wc.cell? ⟨gb174, 0, none⟩ = some (.int .u32 a1_0) := (blk_cell BK174.out 0).trans rfl
              have hcz20_1 : wc.cell? ⟨gb174, 1, none⟩ = some (.int .u32 a1_1) := (blk_cell BK174.out 1).trans rfl
              have hcz20_2 : wc.cell? ⟨gb174, 2, none⟩ = some (.int .u32 a1_2) := (blk_cell BK174.out 2).trans rfl
              have hcz20_3 : wc.cell? ⟨gb174, 3, none⟩ = some (.int .u32 a1_3) := (blk_cell BK174.out 3).trans rfl
              have hcz20_4 : wc.cell? ⟨gb174, 4, none⟩ = some (.int .u32 a1_4) := (blk_cell BK174.out 4).trans rfl
              have hfz20_0 := blk_frozen BK174.out 0
              have hfz20_1 := blk_frozen BK174.out 1
              have hfz20_2 := blk_frozen BK174.out 2
              have hfz20_3 := blk_frozen BK174.out 3
              have hfz20_4 := blk_frozen BK174.out 4
              go_wp2_with (first | (go_at_call 32; (with_reducible refine (lamellaref11_Mine.calls kj2 _ _ l0 a1_0 t178 _ ?side1 ?side2 A19.out).mono ?_); (case side1 => repeat (first | exact (Kd.C_below HR0.out HB.out) | (with_reducible refine Kd.C_alloc ?_ _) | (with_reducible refine Kd.C_drewN ?_ _) | (with_reducible refine Kd.C_drew ?_))); (case side2 => exact HC0.out); rintro e w' ⟨rfl, ⟨nd, rfl⟩⟩))
              go_meet
              case rel => exact ⟨_, ((t178 == 4)), (by first | rfl | (simp; done) | (simp [*]; done)), H', ⟨by have := HJ2.out; first | omega | exact Nat.le_refl _⟩, ⟨by (with_reducible repeat (first | refine blk_drewN ?_ _ | refine blk_drew ?_ | refine blk_alloc ?_ _)); exact BK174.out⟩, ⟨by repeat (first | (with_reducible first | exact HB.out | apply below_alloc | apply pw_below_drewN | apply below_drew1 | refine below_set ?_ GE174.out) | exact HB.out)⟩⟩
          case rest =>
            clear HC16
            try clear c1
            try clear p2
            try clear c6
            try clear c12
            try clear c13
            try clear c14
            try clear c14b0
            try clear c18
            try clear c18b0
            try clear c18b1
            try clear c19
            try clear hcz15_0
            try clear hcz15_1
            try clear hcz15_2
            try clear hcz15_3
            try clear hcz15_4
            try clear hcz17_0
            try clear hcz17_1
            try clear hcz17_2
            try clear hcz17_3
            try clear hcz17_4
            try clear hcz20_0
            try clear hcz20_1
            try clear hcz20_2
            try clear hcz20_3
            try clear hcz20_4
            try clear hcz9_0
            try clear hcz9_1
            try clear hcz9_2
            try clear hcz9_3
            try clear hcz9_4
            try clear hfz15_0
            try clear hfz15_1
            try clear hfz15_2
            try clear hfz15_3
            try clear hfz15_4
            try clear hfz17_0
            try clear hfz17_1
            try clear hfz17_2
            try clear hfz17_3
            try clear hfz17_4
            try clear hfz20_0
            try clear hfz20_1
            try clear hfz20_2
            try clear hfz20_3
            try clear hfz20_4
            try clear hfz9_0
            try clear hfz9_1
            try clear hfz9_2
            try clear hfz9_3
            try clear hfz9_4
            try clear p2
            obtain ⟨kq, x33_15, rfl, HA, HJ15, BK174, HB⟩ := hcut
            cases kq with
            | zero => exact absurd HA.out (by simp [lamellaref11_Add.j1])
            | succ kj15 =>
              have H := HA.out
              clear HA
              simp only [lamellaref11_Add.j1] at H
              by_cases c21 : x33_15 = true
              · subst c21
                have H1 : (some (([] : List (S27)), 16)) = some (r1, r2) := by rw [if_pos rfl] at H; exact H
                clear H
                have H := H1
                clear H1
                simp only [Option.some.injEq, Prod.mk.injEq] at H
                obtain ⟨rfl, rfl⟩ := H
                go_wp2
                go_ret2
                exact ⟨_, by first | rfl | (simp [errW_none, errW_some] <;> rfl) | (simp [*, errW_none, errW_some] <;> rfl), by first | exact Kd.R_nil _ _ _ _ _ | exact Kd.N_nil _ _ _ _ _ | exact Kd.V_nil _ _ _ _ _ | exact Kd.Q_nil _ _ _ _ _ | exact Kd.S_nil _ _ _ _ _, by repeat (first | (with_reducible first | exact HB.out | apply below_alloc | apply pw_below_drewN | apply below_drew1 | refine below_set ?_ GE174.out) | exact HB.out)⟩
              · replace c21 := Bool.eq_false_iff.mpr c21
                subst c21
                have H1 : (lamellaref11_Add.l0 kj15 l0 0 a1_0 a1_1 a1_2 a1_3 a1_4) = some (r1, r2) := by rw [if_neg (show ¬ (false = true) by decide)] at H; exact H
                clear H
                have H := H1
                clear H1
                have H' := Aside0.mk H
                clear H
                go_wp2
                go_loopg [6] kj15 (fun kq v6 w' => ∃ (x6_3 : Int), v6 = .int .i64 x6_3 ∧ Aside0 (lamellaref11_Add.l0 kq l0 x6_3 a1_0 a1_1 a1_2 a1_3 a1_4 = some (r1, r2)) ∧ Aside0 (kq ≤ kj15) ∧ Aside0 (w'.heap[gb174]? = some (.cells #[.int .u32 a1_0, .int .u32 a1_1, .int .u32 a1_2, .int .u32 a1_3, .int .u32 a1_4] 27 (0, 0))) ∧ Aside0 (Below w.heap.size w w'))
                case atStart => exact ⟨(0), (by first | rfl | (simp; done) | (simp [*]; done)), H', ⟨Nat.le_refl _⟩, ⟨by (with_reducible repeat (first | refine blk_drewN ?_ _ | refine blk_drew ?_ | refine blk_alloc ?_ _)); exact BK174.out⟩, ⟨by repeat (first | (with_reducible first | exact HB.out | apply below_alloc | apply pw_below_drewN | apply below_drew1 | refine below_set ?_ GE174.out) | exact HB.out)⟩⟩
                case round =>
                  clear H'
                  try clear c1
                  try clear c2
                  try clear p2
                  try clear c6
                  try clear c12
                  try clear c13
                  try clear c14
                  try clear c14b0
                  try clear c18
                  try clear c18b0
                  try clear c18b1
                  try clear c19
                  try clear c21
                  try clear hcz15_0
                  try clear hcz15_1
                  try clear hcz15_2
                  try clear hcz15_3
                  try clear hcz15_4
                  try clear hcz17_0
                  try clear hcz17_1
                  try clear hcz17_2
                  try clear hcz17_3
                  try clear hcz17_4
                  try clear hcz20_0
                  try clear hcz20_1
                  try clear hcz20_2
                  try clear hcz20_3
                  try clear hcz20_4
                  try clear hcz9_0
                  try clear hcz9_1
                  try clear hcz9_2
                  try clear hcz9_3
                  try clear hcz9_4
                  try clear hfz15_0
                  try clear hfz15_1
                  try clear hfz15_2
                  try clear hfz15_3
                  try clear hfz15_4
                  try clear hfz17_0
                  try clear hfz17_1
                  try clear hfz17_2
                  try clear hfz17_3
                  try clear hfz17_4
                  try clear hfz20_0
                  try clear hfz20_1
                  try clear hfz20_2
                  try clear hfz20_3
                  try clear hfz20_4
                  try clear hfz9_0
                  try clear hfz9_1
                  try clear hfz9_2
                  try clear hfz9_3
                  try clear hfz9_4
                  try clear p2
                  obtain ⟨x6_3, rfl, HA, HK3, BK174, HB⟩ := hrel
                  cases gk with
                  | zero => exact absurd HA.out (by simp [lamellaref11_Add.l0])
                  | succ k3 =>
                    have H := HA.out
                    clear HA
                    simp only [lamellaref11_Add.l0] at H
                    by_cases c22 : x6_3 < (l0.length : Int)
                    · rw [if_pos c22] at H
                      have c22b0 : decide (x6_3 < (l0.length : Int)) = true := decide_eq_true c22
                      clear c22
                      by_cases c23 : 0 ≤ x6_3
                      · rw [if_pos c23] at H
                        have c23b0 : decide (0 ≤ x6_3) = true := decide_eq_true c23
                        clear c23
                        replace H := Option.bind_eq_some_iff.mp H
                        obtain ⟨t180, A240, H⟩ := H
                        replace H : (if t180 = true then (some (([] : List (S27)), 13)) else (lamellaref11_Add.l0 k3 l0 (wrap64 (x6_3 + 1)) a1_0 a1_1 a1_2 a1_3 a1_4)) = some (r1, r2) := H
                        have A24 := Aside0.mk A240
                        clear A240
                        by_cases c25 : t180 = true
                        · subst c25
                          have H1 : (some (([] : List (S27)), 13)) = some (r1, r2) := by rw [if_pos rfl] at H; exact H
                          clear H
                          have H := H1
                          clear H1
                          simp only [Option.some.injEq, Prod.mk.injEq] at H
                          obtain ⟨rfl, rfl⟩ := H
                          try go_wp2
                          have n0_ := Aside0.mk (blk_drew BK174.out)
                          have n1_ := Aside0.mk (below_drew1 HB.out)
                          clear BK174
                          clear HB
                          have BK174 := n0_
                          have HB := n1_
                          clear n0_ n1_
                          have p179 : 0 ≤ (x6_3 : Int) := of_decide_eq_true (by first | (with_reducible assumption) | assumption)
                          have q179 : x6_3 < (l0.length : Int) := of_decide_eq_true (by first | (with_reducible assumption) | assumption)
                          obtain ⟨ad179, e179, hx179_0, hx179_1, hx179_2, hx179_3, hx179_4⟩ := at_T27 HR0.out x6_3 p179 q179
                          have hw179_4 := hx179_4
                          have hw179_3 := hx179_3
                          have hw179_2 := hx179_2
                          have hw179_1 := hx179_1
                          have hw179_0 := hx179_0
                          cases e179
                          replace hx179_0 := (HB.out.cell (World.block_lt_of_cell? w _ hx179_0)).trans hx179_0
                          replace hx179_1 := (HB.out.cell (World.block_lt_of_cell? w _ hx179_1)).trans hx179_1
                          replace hx179_2 := (HB.out.cell (World.block_lt_of_cell? w _ hx179_2)).trans hx179_2
                          replace hx179_3 := (HB.out.cell (World.block_lt_of_cell? w _ hx179_3)).trans hx179_3
                          replace hx179_4 := (HB.out.cell (World.block_lt_of_cell? w _ hx179_4)).trans hx179_4
                          replace p179 := eq_true p179
                          replace q179 := eq_true q179
                          refine start_ (n := 6) (S := fun w' => w'.cell? ⟨gb174, 0, none⟩ = some (.int .u32 a1_0) ∧ w'.cell? ⟨gb174, 1, none⟩ = some (.int .u32 a1_1) ∧ w'.cell? ⟨gb174, 2, none⟩ = some (.int .u32 a1_2) ∧ w'.cell? ⟨gb174, 3, none⟩ = some (.int .u32 a1_3) ∧ w'.cell? ⟨gb174, 4, none⟩ = some (.int .u32 a1_4) ∧ w'.cell? (ad179.add ((x6_3).toNat * 5)) = some (.int .u32 ((rd_T27 l0 x6_3).f0)) ∧ w'.cell? ⟨(ad179.add ((x6_3).toNat * 5)).block, (ad179.add ((x6_3).toNat * 5)).off + 1, none⟩ = some (.int .u32 ((rd_T27 l0 x6_3).f1)) ∧ w'.cell? ⟨(ad179.add ((x6_3).toNat * 5)).block, (ad179.add ((x6_3).toNat * 5)).off + 2, none⟩ = some (.int .u32 ((rd_T27 l0 x6_3).f2)) ∧ w'.cell? ⟨(ad179.add ((x6_3).toNat * 5)).block, (ad179.add ((x6_3).toNat * 5)).off + 3, none⟩ = some (.int .u32 ((rd_T27 l0 x6_3).f3)) ∧ w'.cell? ⟨(ad179.add ((x6_3).toNat * 5)).block, (ad179.add ((x6_3).toNat * 5)).off + 4, none⟩ = some (.int .u32 ((rd_T27 l0 x6_3).f4))) (ds := []) #[false, false, false, false, false, false] (by kernel_rfl) rfl rfl ⟨(blk_cell BK174.out 0).trans rfl, (blk_cell BK174.out 1).trans rfl, (blk_cell BK174.out 2).trans rfl, (blk_cell BK174.out 3).trans rfl, (blk_cell BK174.out 4).trans rfl, ((HB.out.cell (World.block_lt_of_cell? w _ hw179_0)).trans hw179_0), ((HB.out.cell (World.block_lt_of_cell? w _ hw179_1)).trans hw179_1), ((HB.out.cell (World.block_lt_of_cell? w _ hw179_2)).trans hw179_2), ((HB.out.cell (World.block_lt_of_cell? w _ hw179_3)).trans hw179_3), ((HB.out.cell (World.block_lt_of_cell? w _ hw179_4)).trans hw179_4)⟩ (fun hHeld => ?_)
                          generalize wr.drew = w26 at BK174 HB hx179_0 hx179_1 hx179_2 hx179_3 hx179_4 hHeld ⊢
                          refine pure_ (i := 0) (N := some 40) (v := ?_) (a' := ?_) #[true, false, false, false, false, false] rfl rfl (by kernel_rfl) (fun _ _ _ h => h) (Or.inl ⟨by rfl, ?_⟩) ?_ ?_
                          rotate_left
                          · intro w'
                            go_simp
                            with_reducible rfl
                          rotate_left
                          · simp only [Act.put, List.setIfInBounds_toArray, List.set_cons_zero, List.set_cons_succ, i64_w, i32_w]
                            rfl
                          refine pure_ (i := 1) (N := some 41) (v := ?_) (a' := ?_) #[true, true, false, false, false, false] rfl rfl (by kernel_rfl) (fun _ _ _ h => h) (Or.inl ⟨by rfl, ?_⟩) ?_ ?_
                          rotate_left
                          · intro w'
                            go_simp
                            with_reducible rfl
                          rotate_left
                          · simp only [Act.put, List.setIfInBounds_toArray, List.set_cons_zero, List.set_cons_succ, i64_w, i32_w]
                            rfl
                          refine pure_ (i := 2) (N := some 42) (v := ?_) (a' := ?_) #[true, true, true, false, false, false] rfl rfl (by kernel_rfl) (fun _ _ _ h => h) (Or.inl ⟨by rfl, ?_⟩) ?_ ?_
                          rotate_left
                          · intro w'
                            go_simp
                            with_reducible rfl
                          rotate_left
                          · simp only [Act.put, List.setIfInBounds_toArray, List.set_cons_zero, List.set_cons_succ, i64_w, i32_w]
                            rfl
                          refine take_ (i := 3) (N := some 43) (v := ?_) (a' := ?_) #[true, true, true, true, false, false] rfl rfl (by kernel_rfl) (fun _ _ _ h => h) (Or.inl ⟨by rfl, ?_⟩) hHeld ?_ ?_
                          rotate_left
                          · rintro w' ⟨s0, s1, s2, s3, s4, s5, s6, s7, s8, s9⟩
                            go_simp
                            with_reducible rfl
                          rotate_left
                          · simp only [Act.put, List.setIfInBounds_toArray, List.set_cons_zero, List.set_cons_succ, i64_w, i32_w]
                            rfl
                          refine take_ (i := 4) (N := some 44) (v := ?_) (a' := ?_) #[true, true, true, true, true, false] rfl rfl (by kernel_rfl) (fun _ _ _ h => h) (Or.inl ⟨by rfl, ?_⟩) hHeld ?_ ?_
                          rotate_left
                          · rintro w' ⟨s0, s1, s2, s3, s4, s5, s6, s7, s8, s9⟩
                            go_simp
                            with_reducible rfl
                          rotate_left
                          · simp only [Act.put, List.setIfInBounds_toArray, List.set_cons_zero, List.set_cons_succ, i64_w, i32_w]
                            rfl
                          refine one_ (i := 5) (N := some 45) #[true, true, true, true, true, true] rfl rfl (by kernel_rfl) (by decide) (fun K hK => ?_)
                          refine goes_ Try.func34 (by kernel_rfl) rfl #[.agg #[.int .u32 ((rd_T27 l0 x6_3).f0), .int .u32 ((rd_T27 l0 x6_3).f1), .int .u32 ((rd_T27 l0 x6_3).f2), .int .u32 ((rd_T27 l0 x6_3).f3), .int .u32 ((rd_T27 l0 x6_3).f4)], .agg #[.int .u32 a1_0, .int .u32 a1_1, .int .u32 a1_2, .int .u32 a1_3, .int .u32 a1_4]] (by rfl) rfl rfl (by (try simp only [List.map_toArray, List.map_cons, List.map_nil]); first | done | rfl | (simp only [List.length_drop, List.length_take]; rfl)) ?_
                          with_reducible refine (lamellaref11_Clash.calls ((rd_T27 l0 x6_3).f0) ((rd_T27 l0 x6_3).f1) ((rd_T27 l0 x6_3).f2) ((rd_T27 l0 x6_3).f3) ((rd_T27 l0 x6_3).f4) a1_0 a1_1 a1_2 a1_3 a1_4 true _ A24.out).mono ?_
                          rintro e w27 ⟨rfl, hb⟩
                          refine ⟨_, rfl, ?_⟩
                          have n0_ := Aside0.mk (blk_below (g := gb174) (o := .cells #[.int .u32 a1_0, .int .u32 a1_1, .int .u32 a1_2, .int .u32 a1_3, .int .u32 a1_4] 27 (0, 0)) (by (with_reducible repeat (first | refine blk_drewN ?_ _ | refine blk_drew ?_ | refine blk_alloc ?_ _)); exact BK174.out) hb)
                          have n1_ := Aside0.mk (below_step (by repeat (first | (with_reducible first | exact HB.out | apply below_alloc | apply pw_below_drewN | apply below_drew1 | refine below_set ?_ GE174.out) | exact HB.out)) hb)
                          clear BK174
                          clear HB
                          have BK174 := n0_
                          have HB := n1_
                          clear n0_ n1_
                          (try clear hb)
                          (try clear hb2)
                          (try clear hk)
                          (try clear hi)
                          refine hK.out _ _ ⟨(blk_cell BK174.out 0).trans rfl, (blk_cell BK174.out 1).trans rfl, (blk_cell BK174.out 2).trans rfl, (blk_cell BK174.out 3).trans rfl, (blk_cell BK174.out 4).trans rfl, ((HB.out.cell (World.block_lt_of_cell? w _ hw179_0)).trans hw179_0), ((HB.out.cell (World.block_lt_of_cell? w _ hw179_1)).trans hw179_1), ((HB.out.cell (World.block_lt_of_cell? w _ hw179_2)).trans hw179_2), ((HB.out.cell (World.block_lt_of_cell? w _ hw179_3)).trans hw179_3), ((HB.out.cell (World.block_lt_of_cell? w _ hw179_4)).trans hw179_4)⟩ (fun hHeld => ?_)
                          clear hK K
                          refine norm_ (a' := ?_) ?_ ?_
                          rotate_left
                          · show Act.put _ (some 45) _ = _
                            simp only [Act.put, List.setIfInBounds_toArray, List.set_cons_zero, List.set_cons_succ, i64_w, i32_w]
                            rfl
                          refine done_ (by kernel_rfl) ?_
                          try go_wp2
                          go_ret2
                          exact ⟨_, by first | rfl | (simp [errW_none, errW_some] <;> rfl) | (simp [*, errW_none, errW_some] <;> rfl), by first | exact Kd.R_nil _ _ _ _ _ | exact Kd.N_nil _ _ _ _ _ | exact Kd.V_nil _ _ _ _ _ | exact Kd.Q_nil _ _ _ _ _ | exact Kd.S_nil _ _ _ _ _, by repeat (first | (with_reducible first | exact HB.out | apply below_alloc | apply pw_below_drewN | apply below_drew1 | refine below_set ?_ GE174.out) | exact HB.out)⟩
                        · replace c25 := Bool.eq_false_iff.mpr c25
                          subst c25
                          have H1 : (lamellaref11_Add.l0 k3 l0 (wrap64 (x6_3 + 1)) a1_0 a1_1 a1_2 a1_3 a1_4) = some (r1, r2) := by rw [if_neg (show ¬ (false = true) by decide)] at H; exact H
                          clear H
                          have H := H1
                          clear H1
                          have H' := Aside0.mk H
                          clear H
                          try go_wp2
                          have n0_ := Aside0.mk (blk_drew BK174.out)
                          have n1_ := Aside0.mk (below_drew1 HB.out)
                          clear BK174
                          clear HB
                          have BK174 := n0_
                          have HB := n1_
                          clear n0_ n1_
                          have p179 : 0 ≤ (x6_3 : Int) := of_decide_eq_true (by first | (with_reducible assumption) | assumption)
                          have q179 : x6_3 < (l0.length : Int) := of_decide_eq_true (by first | (with_reducible assumption) | assumption)
                          obtain ⟨ad179, e179, hx179_0, hx179_1, hx179_2, hx179_3, hx179_4⟩ := at_T27 HR0.out x6_3 p179 q179
                          have hw179_4 := hx179_4
                          have hw179_3 := hx179_3
                          have hw179_2 := hx179_2
                          have hw179_1 := hx179_1
                          have hw179_0 := hx179_0
                          cases e179
                          replace hx179_0 := (HB.out.cell (World.block_lt_of_cell? w _ hx179_0)).trans hx179_0
                          replace hx179_1 := (HB.out.cell (World.block_lt_of_cell? w _ hx179_1)).trans hx179_1
                          replace hx179_2 := (HB.out.cell (World.block_lt_of_cell? w _ hx179_2)).trans hx179_2
                          replace hx179_3 := (HB.out.cell (World.block_lt_of_cell? w _ hx179_3)).trans hx179_3
                          replace hx179_4 := (HB.out.cell (World.block_lt_of_cell? w _ hx179_4)).trans hx179_4
                          replace p179 := eq_true p179
                          replace q179 := eq_true q179
                          refine start_ (n := 6) (S := fun w' => w'.cell? ⟨gb174, 0, none⟩ = some (.int .u32 a1_0) ∧ w'.cell? ⟨gb174, 1, none⟩ = some (.int .u32 a1_1) ∧ w'.cell? ⟨gb174, 2, none⟩ = some (.int .u32 a1_2) ∧ w'.cell? ⟨gb174, 3, none⟩ = some (.int .u32 a1_3) ∧ w'.cell? ⟨gb174, 4, none⟩ = some (.int .u32 a1_4) ∧ w'.cell? (ad179.add ((x6_3).toNat * 5)) = some (.int .u32 ((rd_T27 l0 x6_3).f0)) ∧ w'.cell? ⟨(ad179.add ((x6_3).toNat * 5)).block, (ad179.add ((x6_3).toNat * 5)).off + 1, none⟩ = some (.int .u32 ((rd_T27 l0 x6_3).f1)) ∧ w'.cell? ⟨(ad179.add ((x6_3).toNat * 5)).block, (ad179.add ((x6_3).toNat * 5)).off + 2, none⟩ = some (.int .u32 ((rd_T27 l0 x6_3).f2)) ∧ w'.cell? ⟨(ad179.add ((x6_3).toNat * 5)).block, (ad179.add ((x6_3).toNat * 5)).off + 3, none⟩ = some (.int .u32 ((rd_T27 l0 x6_3).f3)) ∧ w'.cell? ⟨(ad179.add ((x6_3).toNat * 5)).block, (ad179.add ((x6_3).toNat * 5)).off + 4, none⟩ = some (.int .u32 ((rd_T27 l0 x6_3).f4))) (ds := []) #[false, false, false, false, false, false] (by kernel_rfl) rfl rfl ⟨(blk_cell BK174.out 0).trans rfl, (blk_cell BK174.out 1).trans rfl, (blk_cell BK174.out 2).trans rfl, (blk_cell BK174.out 3).trans rfl, (blk_cell BK174.out 4).trans rfl, ((HB.out.cell (World.block_lt_of_cell? w _ hw179_0)).trans hw179_0), ((HB.out.cell (World.block_lt_of_cell? w _ hw179_1)).trans hw179_1), ((HB.out.cell (World.block_lt_of_cell? w _ hw179_2)).trans hw179_2), ((HB.out.cell (World.block_lt_of_cell? w _ hw179_3)).trans hw179_3), ((HB.out.cell (World.block_lt_of_cell? w _ hw179_4)).trans hw179_4)⟩ (fun hHeld => ?_)
                          generalize wr.drew = w28 at BK174 HB hx179_0 hx179_1 hx179_2 hx179_3 hx179_4 hHeld ⊢
                          refine pure_ (i := 0) (N := some 40) (v := ?_) (a' := ?_) #[true, false, false, false, false, false] rfl rfl (by kernel_rfl) (fun _ _ _ h => h) (Or.inl ⟨by rfl, ?_⟩) ?_ ?_
                          rotate_left
                          · intro w'
                            go_simp
                            with_reducible rfl
                          rotate_left
                          · simp only [Act.put, List.setIfInBounds_toArray, List.set_cons_zero, List.set_cons_succ, i64_w, i32_w]
                            rfl
                          refine pure_ (i := 1) (N := some 41) (v := ?_) (a' := ?_) #[true, true, false, false, false, false] rfl rfl (by kernel_rfl) (fun _ _ _ h => h) (Or.inl ⟨by rfl, ?_⟩) ?_ ?_
                          rotate_left
                          · intro w'
                            go_simp
                            with_reducible rfl
                          rotate_left
                          · simp only [Act.put, List.setIfInBounds_toArray, List.set_cons_zero, List.set_cons_succ, i64_w, i32_w]
                            rfl
                          refine pure_ (i := 2) (N := some 42) (v := ?_) (a' := ?_) #[true, true, true, false, false, false] rfl rfl (by kernel_rfl) (fun _ _ _ h => h) (Or.inl ⟨by rfl, ?_⟩) ?_ ?_
                          rotate_left
                          · intro w'
                            go_simp
                            with_reducible rfl
                          rotate_left
                          · simp only [Act.put, List.setIfInBounds_toArray, List.set_cons_zero, List.set_cons_succ, i64_w, i32_w]
                            rfl
                          refine take_ (i := 3) (N := some 43) (v := ?_) (a' := ?_) #[true, true, true, true, false, false] rfl rfl (by kernel_rfl) (fun _ _ _ h => h) (Or.inl ⟨by rfl, ?_⟩) hHeld ?_ ?_
                          rotate_left
                          · rintro w' ⟨s0, s1, s2, s3, s4, s5, s6, s7, s8, s9⟩
                            go_simp
                            with_reducible rfl
                          rotate_left
                          · simp only [Act.put, List.setIfInBounds_toArray, List.set_cons_zero, List.set_cons_succ, i64_w, i32_w]
                            rfl
                          refine take_ (i := 4) (N := some 44) (v := ?_) (a' := ?_) #[true, true, true, true, true, false] rfl rfl (by kernel_rfl) (fun _ _ _ h => h) (Or.inl ⟨by rfl, ?_⟩) hHeld ?_ ?_
                          rotate_left
                          · rintro w' ⟨s0, s1, s2, s3, s4, s5, s6, s7, s8, s9⟩
                            go_simp
                            with_reducible rfl
                          rotate_left
                          · simp only [Act.put, List.setIfInBounds_toArray, List.set_cons_zero, List.set_cons_succ, i64_w, i32_w]
                            rfl
                          refine one_ (i := 5) (N := some 45) #[true, true, true, true, true, true] rfl rfl (by kernel_rfl) (by decide) (fun K hK => ?_)
                          refine goes_ Try.func34 (by kernel_rfl) rfl #[.agg #[.int .u32 ((rd_T27 l0 x6_3).f0), .int .u32 ((rd_T27 l0 x6_3).f1), .int .u32 ((rd_T27 l0 x6_3).f2), .int .u32 ((rd_T27 l0 x6_3).f3), .int .u32 ((rd_T27 l0 x6_3).f4)], .agg #[.int .u32 a1_0, .int .u32 a1_1, .int .u32 a1_2, .int .u32 a1_3, .int .u32 a1_4]] (by rfl) rfl rfl (by (try simp only [List.map_toArray, List.map_cons, List.map_nil]); first | done | rfl | (simp only [List.length_drop, List.length_take]; rfl)) ?_
                          with_reducible refine (lamellaref11_Clash.calls ((rd_T27 l0 x6_3).f0) ((rd_T27 l0 x6_3).f1) ((rd_T27 l0 x6_3).f2) ((rd_T27 l0 x6_3).f3) ((rd_T27 l0 x6_3).f4) a1_0 a1_1 a1_2 a1_3 a1_4 false _ A24.out).mono ?_
                          rintro e w29 ⟨rfl, hb⟩
                          refine ⟨_, rfl, ?_⟩
                          have n0_ := Aside0.mk (blk_below (g := gb174) (o := .cells #[.int .u32 a1_0, .int .u32 a1_1, .int .u32 a1_2, .int .u32 a1_3, .int .u32 a1_4] 27 (0, 0)) (by (with_reducible repeat (first | refine blk_drewN ?_ _ | refine blk_drew ?_ | refine blk_alloc ?_ _)); exact BK174.out) hb)
                          have n1_ := Aside0.mk (below_step (by repeat (first | (with_reducible first | exact HB.out | apply below_alloc | apply pw_below_drewN | apply below_drew1 | refine below_set ?_ GE174.out) | exact HB.out)) hb)
                          clear BK174
                          clear HB
                          have BK174 := n0_
                          have HB := n1_
                          clear n0_ n1_
                          (try clear hb)
                          (try clear hb2)
                          (try clear hk)
                          (try clear hi)
                          refine hK.out _ _ ⟨(blk_cell BK174.out 0).trans rfl, (blk_cell BK174.out 1).trans rfl, (blk_cell BK174.out 2).trans rfl, (blk_cell BK174.out 3).trans rfl, (blk_cell BK174.out 4).trans rfl, ((HB.out.cell (World.block_lt_of_cell? w _ hw179_0)).trans hw179_0), ((HB.out.cell (World.block_lt_of_cell? w _ hw179_1)).trans hw179_1), ((HB.out.cell (World.block_lt_of_cell? w _ hw179_2)).trans hw179_2), ((HB.out.cell (World.block_lt_of_cell? w _ hw179_3)).trans hw179_3), ((HB.out.cell (World.block_lt_of_cell? w _ hw179_4)).trans hw179_4)⟩ (fun hHeld => ?_)
                          clear hK K
                          refine norm_ (a' := ?_) ?_ ?_
                          rotate_left
                          · show Act.put _ (some 45) _ = _
                            simp only [Act.put, List.setIfInBounds_toArray, List.set_cons_zero, List.set_cons_succ, i64_w, i32_w]
                            rfl
                          refine done_ (by kernel_rfl) ?_
                          try go_wp2
                          go_roundg k3
                          case measure => have := HJ2.out; have := HJ15.out; have := HK3.out; omega
                          case rel => exact ⟨(wrap64 (x6_3 + 1)), (by first | rfl | (simp; done) | (simp [*]; done)), H', ⟨by have := HJ2.out; have := HJ15.out; have := HK3.out; omega⟩, ⟨by (with_reducible repeat (first | refine blk_drewN ?_ _ | refine blk_drew ?_ | refine blk_alloc ?_ _)); exact BK174.out⟩, ⟨by repeat (first | (with_reducible first | exact HB.out | apply below_alloc | apply pw_below_drewN | apply below_drew1 | refine below_set ?_ GE174.out) | exact HB.out)⟩⟩
                      · rw [if_neg c23] at H
                        exact absurd H (by simp)
                    · rw [if_neg c22] at H
                      have c22b0 : decide (x6_3 < (l0.length : Int)) = false := decide_eq_false c22
                      clear c22
                      have H' := Aside0.mk H
                      clear H
                      go_wp2
                      go_loopg [7] k3 (fun kq v7 w' => ∃ (x7_4 : Int), v7 = .int .i64 x7_4 ∧ Aside0 (lamellaref11_Add.l1 kq l0 x7_4 a1_0 a1_1 a1_2 a1_3 a1_4 = some (r1, r2)) ∧ Aside0 (kq ≤ k3) ∧ Aside0 (w'.heap[gb174]? = some (.cells #[.int .u32 a1_0, .int .u32 a1_1, .int .u32 a1_2, .int .u32 a1_3, .int .u32 a1_4] 27 (0, 0))) ∧ Aside0 (Below w.heap.size w w'))
                      case atStart => exact ⟨(0), (by first | rfl | (simp; done) | (simp [*]; done)), H', ⟨Nat.le_refl _⟩, ⟨by (with_reducible repeat (first | refine blk_drewN ?_ _ | refine blk_drew ?_ | refine blk_alloc ?_ _)); exact BK174.out⟩, ⟨by repeat (first | (with_reducible first | exact HB.out | apply below_alloc | apply pw_below_drewN | apply below_drew1 | refine below_set ?_ GE174.out) | exact HB.out)⟩⟩
                      case round =>
                        clear H'
                        try clear c1
                        try clear p1
                        try clear q1
                        try clear hx1
                        try clear c2
                        try clear p2
                        try clear c3
                        try clear c6
                        try clear p6
                        try clear c12
                        try clear c13
                        try clear c14
                        try clear c14b0
                        try clear p17
                        try clear q17
                        try clear hx17
                        try clear c18
                        try clear c18b0
                        try clear c18b1
                        try clear c19
                        try clear c21
                        try clear c22
                        try clear c22b0
                        try clear c23
                        try clear c23b0
                        try clear c25
                        try clear hcz15_0
                        try clear hcz15_1
                        try clear hcz15_2
                        try clear hcz15_3
                        try clear hcz15_4
                        try clear hcz17_0
                        try clear hcz17_1
                        try clear hcz17_2
                        try clear hcz17_3
                        try clear hcz17_4
                        try clear hcz20_0
                        try clear hcz20_1
                        try clear hcz20_2
                        try clear hcz20_3
                        try clear hcz20_4
                        try clear hcz9_0
                        try clear hcz9_1
                        try clear hcz9_2
                        try clear hcz9_3
                        try clear hcz9_4
                        try clear hfz15_0
                        try clear hfz15_1
                        try clear hfz15_2
                        try clear hfz15_3
                        try clear hfz15_4
                        try clear hfz17_0
                        try clear hfz17_1
                        try clear hfz17_2
                        try clear hfz17_3
                        try clear hfz17_4
                        try clear hfz20_0
                        try clear hfz20_1
                        try clear hfz20_2
                        try clear hfz20_3
                        try clear hfz20_4
                        try clear hfz9_0
                        try clear hfz9_1
                        try clear hfz9_2
                        try clear hfz9_3
                        try clear hfz9_4
                        try clear hx179_0
                        try clear hx179_1
                        try clear hx179_2
                        try clear hx179_3
                        try clear hx179_4
                        try clear p179
                        try clear p2
                        try clear q179
                        obtain ⟨x7_4, rfl, HA, HK4, BK174, HB⟩ := hrel
                        cases gk with
                        | zero => exact absurd HA.out (by simp [lamellaref11_Add.l1])
                        | succ k4 =>
                          have H := HA.out
                          clear HA
                          simp only [lamellaref11_Add.l1] at H
                          by_cases c30 : x7_4 < (l0.length : Int)
                          · rw [if_pos c30] at H
                            have c30b0 : decide (x7_4 < (l0.length : Int)) = true := decide_eq_true c30
                            clear c30
                            by_cases c31 : 0 ≤ x7_4
                            · rw [if_pos c31] at H
                              have c31b0 : decide (0 ≤ x7_4) = true := decide_eq_true c31
                              clear c31
                              replace H := Option.bind_eq_some_iff.mp H
                              obtain ⟨t182, A320, H⟩ := H
                              replace H : (if t182 = true then (lamellaref11_Add.l1 k4 l0 (wrap64 (x7_4 + 1)) a1_0 a1_1 a1_2 a1_3 a1_4) else (if x7_4 ≤ (l0.length : Int) then ((some (l0.take (x7_4 : Int).toNat : List (S27))).bind fun y183 => (if ([] : List (S27)).length + y183.length < 7036874417766 then ((some (([] : List (S27)) ++ y183 : List (S27))).bind fun y187 => (if y187.length < 7036874417766 then ((some (y187 ++ [(⟨a1_0, a1_1, a1_2, a1_3, a1_4⟩ : S27)] : List (S27))).bind fun y190 => ((some (l0.drop (x7_4 : Int).toNat : List (S27))).bind fun y193 => (if y190.length + y193.length < 7036874417766 then (some ((y190 ++ y193), 0)) else (none)))) else (none))) else (none))) else (none))) = some (r1, r2) := H
                              have A32 := Aside0.mk A320
                              clear A320
                              by_cases c33 : t182 = true
                              · subst c33
                                have H1 : (lamellaref11_Add.l1 k4 l0 (wrap64 (x7_4 + 1)) a1_0 a1_1 a1_2 a1_3 a1_4) = some (r1, r2) := by rw [if_pos rfl] at H; exact H
                                clear H
                                have H := H1
                                clear H1
                                have H' := Aside0.mk H
                                clear H
                                try go_wp2
                                have n0_ := Aside0.mk (blk_drew BK174.out)
                                have n1_ := Aside0.mk (below_drew1 HB.out)
                                clear BK174
                                clear HB
                                have BK174 := n0_
                                have HB := n1_
                                clear n0_ n1_
                                have p181 : 0 ≤ (x7_4 : Int) := of_decide_eq_true (by first | (with_reducible assumption) | assumption)
                                have q181 : x7_4 < (l0.length : Int) := of_decide_eq_true (by first | (with_reducible assumption) | assumption)
                                obtain ⟨ad181, e181, hx181_0, hx181_1, hx181_2, hx181_3, hx181_4⟩ := at_T27 HR0.out x7_4 p181 q181
                                have hw181_4 := hx181_4
                                have hw181_3 := hx181_3
                                have hw181_2 := hx181_2
                                have hw181_1 := hx181_1
                                have hw181_0 := hx181_0
                                cases e181
                                replace hx181_0 := (HB.out.cell (World.block_lt_of_cell? w _ hx181_0)).trans hx181_0
                                replace hx181_1 := (HB.out.cell (World.block_lt_of_cell? w _ hx181_1)).trans hx181_1
                                replace hx181_2 := (HB.out.cell (World.block_lt_of_cell? w _ hx181_2)).trans hx181_2
                                replace hx181_3 := (HB.out.cell (World.block_lt_of_cell? w _ hx181_3)).trans hx181_3
                                replace hx181_4 := (HB.out.cell (World.block_lt_of_cell? w _ hx181_4)).trans hx181_4
                                replace p181 := eq_true p181
                                replace q181 := eq_true q181
                                refine start_ (n := 12) (S := fun w' => w'.cell? ⟨gb174, 0, none⟩ = some (.int .u32 a1_0) ∧ w'.cell? ⟨gb174, 1, none⟩ = some (.int .u32 a1_1) ∧ w'.cell? ⟨gb174, 2, none⟩ = some (.int .u32 a1_2) ∧ w'.cell? ⟨gb174, 3, none⟩ = some (.int .u32 a1_3) ∧ w'.cell? ⟨gb174, 4, none⟩ = some (.int .u32 a1_4) ∧ w'.cell? (ad181.add ((x7_4).toNat * 5)) = some (.int .u32 ((rd_T27 l0 x7_4).f0)) ∧ w'.cell? ⟨(ad181.add ((x7_4).toNat * 5)).block, (ad181.add ((x7_4).toNat * 5)).off + 1, none⟩ = some (.int .u32 ((rd_T27 l0 x7_4).f1)) ∧ w'.cell? ⟨(ad181.add ((x7_4).toNat * 5)).block, (ad181.add ((x7_4).toNat * 5)).off + 2, none⟩ = some (.int .u32 ((rd_T27 l0 x7_4).f2)) ∧ w'.cell? ⟨(ad181.add ((x7_4).toNat * 5)).block, (ad181.add ((x7_4).toNat * 5)).off + 3, none⟩ = some (.int .u32 ((rd_T27 l0 x7_4).f3)) ∧ w'.cell? ⟨(ad181.add ((x7_4).toNat * 5)).block, (ad181.add ((x7_4).toNat * 5)).off + 4, none⟩ = some (.int .u32 ((rd_T27 l0 x7_4).f4))) (ds := []) #[false, false, false, false, false, false, false, false, false, false, false, false] (by kernel_rfl) rfl rfl ⟨(blk_cell BK174.out 0).trans rfl, (blk_cell BK174.out 1).trans rfl, (blk_cell BK174.out 2).trans rfl, (blk_cell BK174.out 3).trans rfl, (blk_cell BK174.out 4).trans rfl, ((HB.out.cell (World.block_lt_of_cell? w _ hw181_0)).trans hw181_0), ((HB.out.cell (World.block_lt_of_cell? w _ hw181_1)).trans hw181_1), ((HB.out.cell (World.block_lt_of_cell? w _ hw181_2)).trans hw181_2), ((HB.out.cell (World.block_lt_of_cell? w _ hw181_3)).trans hw181_3), ((HB.out.cell (World.block_lt_of_cell? w _ hw181_4)).trans hw181_4)⟩ (fun hHeld => ?_); refine with_tabW lamellaref11_Add.tab13 lamellaref11_Add.bits13 (fun HT_ HW_ => ?_)
                                generalize wr.drew = w34 at BK174 HB hx181_0 hx181_1 hx181_2 hx181_3 hx181_4 hHeld ⊢
                                refine pure_ (i := 0) (N := some 46) (v := ?_) (a' := ?_) #[true, false, false, false, false, false, false, false, false, false, false, false] rfl rfl (any_of HT_.out (by kernel_rfl)) (fun _ _ _ h => h) (Or.inl ⟨by rfl, ?_⟩) ?_ ?_
                                rotate_left
                                · intro w'
                                  go_simp
                                  with_reducible rfl
                                rotate_left
                                · simp only [Act.put, List.setIfInBounds_toArray, List.set_cons_zero, List.set_cons_succ, i64_w, i32_w]
                                  rfl
                                refine pure_ (i := 1) (N := some 47) (v := ?_) (a' := ?_) #[true, true, false, false, false, false, false, false, false, false, false, false] rfl rfl (any_of HT_.out (by kernel_rfl)) (fun _ _ _ h => h) (Or.inl ⟨by rfl, ?_⟩) ?_ ?_
                                rotate_left
                                · intro w'
                                  go_simp
                                  with_reducible rfl
                                rotate_left
                                · simp only [Act.put, List.setIfInBounds_toArray, List.set_cons_zero, List.set_cons_succ, i64_w, i32_w]
                                  rfl
                                refine pure_ (i := 2) (N := some 48) (v := ?_) (a' := ?_) #[true, true, true, false, false, false, false, false, false, false, false, false] rfl rfl (any_of HT_.out (by kernel_rfl)) (fun _ _ _ h => h) (Or.inl ⟨by rfl, ?_⟩) ?_ ?_
                                rotate_left
                                · intro w'
                                  go_simp
                                  with_reducible rfl
                                rotate_left
                                · simp only [Act.put, List.setIfInBounds_toArray, List.set_cons_zero, List.set_cons_succ, i64_w, i32_w]
                                  rfl
                                refine pure_ (i := 3) (N := some 49) (v := ?_) (a' := ?_) #[true, true, true, true, false, false, false, false, false, false, false, false] rfl rfl (any_of HT_.out (by kernel_rfl)) (fun _ _ _ h => h) (Or.inl ⟨by rfl, ?_⟩) ?_ ?_
                                rotate_left
                                · intro w'
                                  go_simp
                                  with_reducible rfl
                                rotate_left
                                · simp only [Act.put, List.setIfInBounds_toArray, List.set_cons_zero, List.set_cons_succ, i64_w, i32_w]
                                  rfl
                                refine pure_ (i := 4) (N := some 50) (v := ?_) (a' := ?_) #[true, true, true, true, true, false, false, false, false, false, false, false] rfl rfl (any_of HT_.out (by kernel_rfl)) (fun _ _ _ h => h) (Or.inl ⟨by rfl, ?_⟩) ?_ ?_
                                rotate_left
                                · intro w'
                                  go_simp
                                  with_reducible rfl
                                rotate_left
                                · simp only [Act.put, List.setIfInBounds_toArray, List.set_cons_zero, List.set_cons_succ, i64_w, i32_w]
                                  rfl
                                refine pure_ (i := 5) (N := some 51) (v := ?_) (a' := ?_) #[true, true, true, true, true, true, false, false, false, false, false, false] rfl rfl (any_of HT_.out (by kernel_rfl)) (fun _ _ _ h => h) (Or.inl ⟨by rfl, ?_⟩) ?_ ?_
                                rotate_left
                                · intro w'
                                  go_simp
                                  with_reducible rfl
                                rotate_left
                                · simp only [Act.put, List.setIfInBounds_toArray, List.set_cons_zero, List.set_cons_succ, i64_w, i32_w]
                                  rfl
                                refine pure_ (i := 6) (N := some 52) (v := ?_) (a' := ?_) #[true, true, true, true, true, true, true, false, false, false, false, false] rfl rfl (any_of HT_.out (by kernel_rfl)) (fun _ _ _ h => h) (Or.inl ⟨by rfl, ?_⟩) ?_ ?_
                                rotate_left
                                · intro w'
                                  go_simp
                                  with_reducible rfl
                                rotate_left
                                · simp only [Act.put, List.setIfInBounds_toArray, List.set_cons_zero, List.set_cons_succ, i64_w, i32_w]
                                  rfl
                                refine pure_ (i := 7) (N := some 53) (v := ?_) (a' := ?_) #[true, true, true, true, true, true, true, true, false, false, false, false] rfl rfl (any_of HT_.out (by kernel_rfl)) (fun _ _ _ h => h) (Or.inl ⟨by rfl, ?_⟩) ?_ ?_
                                rotate_left
                                · intro w'
                                  go_simp
                                  with_reducible rfl
                                rotate_left
                                · simp only [Act.put, List.setIfInBounds_toArray, List.set_cons_zero, List.set_cons_succ, i64_w, i32_w]
                                  rfl
                                refine take_ (i := 8) (N := some 54) (v := ?_) (a' := ?_) #[true, true, true, true, true, true, true, true, true, false, false, false] rfl rfl (take_ofW HT_.out HW_.out (by kernel_rfl)) (fun _ _ _ h => h) (Or.inl ⟨by rfl, ?_⟩) hHeld ?_ ?_
                                rotate_left
                                · rintro w' ⟨s0, s1, s2, s3, s4, s5, s6, s7, s8, s9⟩
                                  go_simp
                                  with_reducible rfl
                                rotate_left
                                · simp only [Act.put, List.setIfInBounds_toArray, List.set_cons_zero, List.set_cons_succ, i64_w, i32_w]
                                  rfl
                                refine take_ (i := 9) (N := some 55) (v := ?_) (a' := ?_) #[true, true, true, true, true, true, true, true, true, true, false, false] rfl rfl (take_ofW HT_.out HW_.out (by kernel_rfl)) (fun _ _ _ h => h) (Or.inl ⟨by rfl, ?_⟩) hHeld ?_ ?_
                                rotate_left
                                · rintro w' ⟨s0, s1, s2, s3, s4, s5, s6, s7, s8, s9⟩
                                  go_simp
                                  with_reducible rfl
                                rotate_left
                                · simp only [Act.put, List.setIfInBounds_toArray, List.set_cons_zero, List.set_cons_succ, i64_w, i32_w]
                                  rfl
                                refine one_ (i := 10) (N := some 56) #[true, true, true, true, true, true, true, true, true, true, true, false] rfl rfl (one_of HT_.out (by kernel_rfl)) (by decide) (fun K hK => ?_)
                                refine goes_ Try.func33 (by kernel_rfl) rfl #[.agg #[.int .u32 ((rd_T27 l0 x7_4).f0), .int .u32 ((rd_T27 l0 x7_4).f1), .int .u32 ((rd_T27 l0 x7_4).f2), .int .u32 ((rd_T27 l0 x7_4).f3), .int .u32 ((rd_T27 l0 x7_4).f4)], .agg #[.int .u32 a1_0, .int .u32 a1_1, .int .u32 a1_2, .int .u32 a1_3, .int .u32 a1_4]] (by rfl) rfl rfl (by (try simp only [List.map_toArray, List.map_cons, List.map_nil]); first | done | rfl | (simp only [List.length_drop, List.length_take]; rfl)) ?_
                                with_reducible refine (lamellaref11_Less.calls ((rd_T27 l0 x7_4).f0) ((rd_T27 l0 x7_4).f1) ((rd_T27 l0 x7_4).f2) ((rd_T27 l0 x7_4).f3) ((rd_T27 l0 x7_4).f4) a1_0 a1_1 a1_2 a1_3 a1_4 true _ A32.out).mono ?_
                                rintro e w35 ⟨rfl, hb⟩
                                refine ⟨_, rfl, ?_⟩
                                have n0_ := Aside0.mk (blk_below (g := gb174) (o := .cells #[.int .u32 a1_0, .int .u32 a1_1, .int .u32 a1_2, .int .u32 a1_3, .int .u32 a1_4] 27 (0, 0)) (by (with_reducible repeat (first | refine blk_drewN ?_ _ | refine blk_drew ?_ | refine blk_alloc ?_ _)); exact BK174.out) hb)
                                have n1_ := Aside0.mk (below_step (by repeat (first | (with_reducible first | exact HB.out | apply below_alloc | apply pw_below_drewN | apply below_drew1 | refine below_set ?_ GE174.out) | exact HB.out)) hb)
                                clear BK174
                                clear HB
                                have BK174 := n0_
                                have HB := n1_
                                clear n0_ n1_
                                (try clear hb)
                                (try clear hb2)
                                (try clear hk)
                                (try clear hi)
                                refine hK.out _ _ ⟨(blk_cell BK174.out 0).trans rfl, (blk_cell BK174.out 1).trans rfl, (blk_cell BK174.out 2).trans rfl, (blk_cell BK174.out 3).trans rfl, (blk_cell BK174.out 4).trans rfl, ((HB.out.cell (World.block_lt_of_cell? w _ hw181_0)).trans hw181_0), ((HB.out.cell (World.block_lt_of_cell? w _ hw181_1)).trans hw181_1), ((HB.out.cell (World.block_lt_of_cell? w _ hw181_2)).trans hw181_2), ((HB.out.cell (World.block_lt_of_cell? w _ hw181_3)).trans hw181_3), ((HB.out.cell (World.block_lt_of_cell? w _ hw181_4)).trans hw181_4)⟩ (fun hHeld => ?_)
                                clear hK K
                                refine norm_ (a' := ?_) ?_ ?_
                                rotate_left
                                · show Act.put _ (some 56) _ = _
                                  simp only [Act.put, List.setIfInBounds_toArray, List.set_cons_zero, List.set_cons_succ, i64_w, i32_w]
                                  rfl
                                refine pure_ (i := 11) (N := some 57) (v := ?_) (a' := ?_) #[true, true, true, true, true, true, true, true, true, true, true, true] rfl rfl (any_of HT_.out (by kernel_rfl)) (fun _ _ _ h => h) (Or.inl ⟨by rfl, ?_⟩) ?_ ?_
                                rotate_left
                                · intro w'
                                  go_simp
                                  with_reducible rfl
                                rotate_left
                                · simp only [Act.put, List.setIfInBounds_toArray, List.set_cons_zero, List.set_cons_succ, i64_w, i32_w]
                                  rfl
                                refine done_ (done_of HT_.out (by kernel_rfl)) ?_
                                try go_wp2
                                go_roundg k4
                                case measure => have := HJ2.out; have := HJ15.out; have := HK3.out; have := HK4.out; omega
                                case rel => exact ⟨(wrap64 (x7_4 + 1)), (by first | rfl | (simp; done) | (simp [*]; done)), H', ⟨by have := HJ2.out; have := HJ15.out; have := HK3.out; have := HK4.out; omega⟩, ⟨by (with_reducible repeat (first | refine blk_drewN ?_ _ | refine blk_drew ?_ | refine blk_alloc ?_ _)); exact BK174.out⟩, ⟨by repeat (first | (with_reducible first | exact HB.out | apply below_alloc | apply pw_below_drewN | apply below_drew1 | refine below_set ?_ GE174.out) | exact HB.out)⟩⟩
                              · replace c33 := Bool.eq_false_iff.mpr c33
                                subst c33
                                have H1 : (if x7_4 ≤ (l0.length : Int) then ((some (l0.take (x7_4 : Int).toNat : List (S27))).bind fun y183 => (if ([] : List (S27)).length + y183.length < 7036874417766 then ((some (([] : List (S27)) ++ y183 : List (S27))).bind fun y187 => (if y187.length < 7036874417766 then ((some (y187 ++ [(⟨a1_0, a1_1, a1_2, a1_3, a1_4⟩ : S27)] : List (S27))).bind fun y190 => ((some (l0.drop (x7_4 : Int).toNat : List (S27))).bind fun y193 => (if y190.length + y193.length < 7036874417766 then (some ((y190 ++ y193), 0)) else (none)))) else (none))) else (none))) else (none)) = some (r1, r2) := by rw [if_neg (show ¬ (false = true) by decide)] at H; exact H
                                clear H
                                have H := H1
                                clear H1
                                have c36b0 := eq_true (of_decide_eq_true (by first | (with_reducible assumption) | assumption) : 0 ≤ x7_4)
                                by_cases c37 : x7_4 ≤ (l0.length : Int)
                                · rw [if_pos c37] at H
                                  have c37b0 := eq_true c37
                                  have c37b1 : decide (x7_4 ≤ (l0.length : Int)) = true := decide_eq_true c37
                                  clear c37
                                  obtain ⟨y183, hy183⟩ : ∃ y_ : List (S27), y_ = (l0.take (x7_4 : Int).toNat) := ⟨_, rfl⟩
                                  replace H : (if ([] : List (S27)).length + y183.length < 7036874417766 then ((some (([] : List (S27)) ++ y183 : List (S27))).bind fun y187 => (if y187.length < 7036874417766 then ((some (y187 ++ [(⟨a1_0, a1_1, a1_2, a1_3, a1_4⟩ : S27)] : List (S27))).bind fun y190 => ((some (l0.drop (x7_4 : Int).toNat : List (S27))).bind fun y193 => (if y190.length + y193.length < 7036874417766 then (some ((y190 ++ y193), 0)) else (none)))) else (none))) else (none)) = some (r1, r2) := by first | (rw [hy183]; with_reducible exact H) | (have H2_ := (Option.bind_some _ _).symm.trans H; rw [hy183]; with_reducible exact H2_) | (have H2_ := (Option.bind_some _ _).symm.trans H; with_reducible exact H2_) | with_reducible exact H | (rw [hy183]; exact H) | exact H
                                  have Ny183 := Aside0.mk hy183
                                  clear hy183
                                  by_cases c38 : ([] : List (S27)).length + y183.length < 7036874417766
                                  · rw [if_pos c38] at H
                                    have LMc38 := Aside0.mk c38
                                    clear c38
                                    obtain ⟨y187, hy187⟩ : ∃ y_ : List (S27), y_ = (([] : List (S27)) ++ y183) := ⟨_, rfl⟩
                                    replace H : (if y187.length < 7036874417766 then ((some (y187 ++ [(⟨a1_0, a1_1, a1_2, a1_3, a1_4⟩ : S27)] : List (S27))).bind fun y190 => ((some (l0.drop (x7_4 : Int).toNat : List (S27))).bind fun y193 => (if y190.length + y193.length < 7036874417766 then (some ((y190 ++ y193), 0)) else (none)))) else (none)) = some (r1, r2) := by first | (rw [hy187]; with_reducible exact H) | (have H2_ := (Option.bind_some _ _).symm.trans H; rw [hy187]; with_reducible exact H2_) | (have H2_ := (Option.bind_some _ _).symm.trans H; with_reducible exact H2_) | with_reducible exact H | (rw [hy187]; exact H) | exact H
                                    have Ny187 := Aside0.mk hy187
                                    clear hy187
                                    by_cases c39 : y187.length < 7036874417766
                                    · rw [if_pos c39] at H
                                      have LMc39 := Aside0.mk c39
                                      clear c39
                                      obtain ⟨y190, hy190⟩ : ∃ y_ : List (S27), y_ = (y187 ++ [(⟨a1_0, a1_1, a1_2, a1_3, a1_4⟩ : S27)]) := ⟨_, rfl⟩
                                      replace H : ((some (l0.drop (x7_4 : Int).toNat : List (S27))).bind fun y193 => (if y190.length + y193.length < 7036874417766 then (some ((y190 ++ y193), 0)) else (none))) = some (r1, r2) := by first | (rw [hy190]; with_reducible exact H) | (have H2_ := (Option.bind_some _ _).symm.trans H; rw [hy190]; with_reducible exact H2_) | (have H2_ := (Option.bind_some _ _).symm.trans H; with_reducible exact H2_) | with_reducible exact H | (rw [hy190]; exact H) | exact H
                                      have Ny190 := Aside0.mk hy190
                                      clear hy190
                                      have c40b0 := eq_true (of_decide_eq_true (by first | (with_reducible assumption) | assumption) : 0 ≤ x7_4)
                                      have c41b0 := eq_true (of_decide_eq_true (by first | (with_reducible assumption) | assumption) : x7_4 ≤ (l0.length : Int))
                                      obtain ⟨y193, hy193⟩ : ∃ y_ : List (S27), y_ = (l0.drop (x7_4 : Int).toNat) := ⟨_, rfl⟩
                                      replace H : (if y190.length + y193.length < 7036874417766 then (some ((y190 ++ y193), 0)) else (none)) = some (r1, r2) := by first | (rw [hy193]; with_reducible exact H) | (have H2_ := (Option.bind_some _ _).symm.trans H; rw [hy193]; with_reducible exact H2_) | (have H2_ := (Option.bind_some _ _).symm.trans H; with_reducible exact H2_) | with_reducible exact H | (rw [hy193]; exact H) | exact H
                                      have Ny193 := Aside0.mk hy193
                                      clear hy193
                                      by_cases c42 : y190.length + y193.length < 7036874417766
                                      · rw [if_pos c42] at H
                                        have LMc42 := Aside0.mk c42
                                        clear c42
                                        obtain ⟨y197, hy197⟩ : ∃ y_ : List (S27), y_ = (y190 ++ y193) := ⟨_, rfl⟩
                                        replace H : (some (y197, 0)) = some (r1, r2) := by first | (rw [hy197]; with_reducible exact H) | (have H2_ := (Option.bind_some _ _).symm.trans H; rw [hy197]; with_reducible exact H2_) | (have H2_ := (Option.bind_some _ _).symm.trans H; with_reducible exact H2_) | with_reducible exact H | (rw [hy197]; exact H) | exact H
                                        have Ny197 := Aside0.mk hy197
                                        clear hy197
                                        simp only [Option.some.injEq, Prod.mk.injEq] at H
                                        obtain ⟨rfl, rfl⟩ := H
                                        try go_wp2
                                        have n0_ := Aside0.mk (blk_drew BK174.out)
                                        have n1_ := Aside0.mk (below_drew1 HB.out)
                                        clear BK174
                                        clear HB
                                        have BK174 := n0_
                                        have HB := n1_
                                        clear n0_ n1_
                                        have p181 : 0 ≤ (x7_4 : Int) := of_decide_eq_true (by first | (with_reducible assumption) | assumption)
                                        have q181 : x7_4 < (l0.length : Int) := of_decide_eq_true (by first | (with_reducible assumption) | assumption)
                                        obtain ⟨ad181, e181, hx181_0, hx181_1, hx181_2, hx181_3, hx181_4⟩ := at_T27 HR0.out x7_4 p181 q181
                                        have hw181_4 := hx181_4
                                        have hw181_3 := hx181_3
                                        have hw181_2 := hx181_2
                                        have hw181_1 := hx181_1
                                        have hw181_0 := hx181_0
                                        cases e181
                                        replace hx181_0 := (HB.out.cell (World.block_lt_of_cell? w _ hx181_0)).trans hx181_0
                                        replace hx181_1 := (HB.out.cell (World.block_lt_of_cell? w _ hx181_1)).trans hx181_1
                                        replace hx181_2 := (HB.out.cell (World.block_lt_of_cell? w _ hx181_2)).trans hx181_2
                                        replace hx181_3 := (HB.out.cell (World.block_lt_of_cell? w _ hx181_3)).trans hx181_3
                                        replace hx181_4 := (HB.out.cell (World.block_lt_of_cell? w _ hx181_4)).trans hx181_4
                                        replace p181 := eq_true p181
                                        replace q181 := eq_true q181
                                        refine start_ (n := 12) (S := fun w' => w'.cell? ⟨gb174, 0, none⟩ = some (.int .u32 a1_0) ∧ w'.cell? ⟨gb174, 1, none⟩ = some (.int .u32 a1_1) ∧ w'.cell? ⟨gb174, 2, none⟩ = some (.int .u32 a1_2) ∧ w'.cell? ⟨gb174, 3, none⟩ = some (.int .u32 a1_3) ∧ w'.cell? ⟨gb174, 4, none⟩ = some (.int .u32 a1_4) ∧ w'.cell? (ad181.add ((x7_4).toNat * 5)) = some (.int .u32 ((rd_T27 l0 x7_4).f0)) ∧ w'.cell? ⟨(ad181.add ((x7_4).toNat * 5)).block, (ad181.add ((x7_4).toNat * 5)).off + 1, none⟩ = some (.int .u32 ((rd_T27 l0 x7_4).f1)) ∧ w'.cell? ⟨(ad181.add ((x7_4).toNat * 5)).block, (ad181.add ((x7_4).toNat * 5)).off + 2, none⟩ = some (.int .u32 ((rd_T27 l0 x7_4).f2)) ∧ w'.cell? ⟨(ad181.add ((x7_4).toNat * 5)).block, (ad181.add ((x7_4).toNat * 5)).off + 3, none⟩ = some (.int .u32 ((rd_T27 l0 x7_4).f3)) ∧ w'.cell? ⟨(ad181.add ((x7_4).toNat * 5)).block, (ad181.add ((x7_4).toNat * 5)).off + 4, none⟩ = some (.int .u32 ((rd_T27 l0 x7_4).f4))) (ds := []) #[false, false, false, false, false, false, false, false, false, false, false, false] (by kernel_rfl) rfl rfl ⟨(blk_cell BK174.out 0).trans rfl, (blk_cell BK174.out 1).trans rfl, (blk_cell BK174.out 2).trans rfl, (blk_cell BK174.out 3).trans rfl, (blk_cell BK174.out 4).trans rfl, ((HB.out.cell (World.block_lt_of_cell? w _ hw181_0)).trans hw181_0), ((HB.out.cell (World.block_lt_of_cell? w _ hw181_1)).trans hw181_1), ((HB.out.cell (World.block_lt_of_cell? w _ hw181_2)).trans hw181_2), ((HB.out.cell (World.block_lt_of_cell? w _ hw181_3)).trans hw181_3), ((HB.out.cell (World.block_lt_of_cell? w _ hw181_4)).trans hw181_4)⟩ (fun hHeld => ?_); refine with_tabW lamellaref11_Add.tab13 lamellaref11_Add.bits13 (fun HT_ HW_ => ?_)
                                        generalize wr.drew = w43 at BK174 HB hx181_0 hx181_1 hx181_2 hx181_3 hx181_4 hHeld ⊢
                                        refine pure_ (i := 0) (N := some 46) (v := ?_) (a' := ?_) #[true, false, false, false, false, false, false, false, false, false, false, false] rfl rfl (any_of HT_.out (by kernel_rfl)) (fun _ _ _ h => h) (Or.inl ⟨by rfl, ?_⟩) ?_ ?_
                                        rotate_left
                                        · intro w'
                                          go_simp
                                          with_reducible rfl
                                        rotate_left
                                        · simp only [Act.put, List.setIfInBounds_toArray, List.set_cons_zero, List.set_cons_succ, i64_w, i32_w]
                                          rfl
                                        refine pure_ (i := 1) (N := some 47) (v := ?_) (a' := ?_) #[true, true, false, false, false, false, false, false, false, false, false, false] rfl rfl (any_of HT_.out (by kernel_rfl)) (fun _ _ _ h => h) (Or.inl ⟨by rfl, ?_⟩) ?_ ?_
                                        rotate_left
                                        · intro w'
                                          go_simp
                                          with_reducible rfl
                                        rotate_left
                                        · simp only [Act.put, List.setIfInBounds_toArray, List.set_cons_zero, List.set_cons_succ, i64_w, i32_w]
                                          rfl
                                        refine pure_ (i := 2) (N := some 48) (v := ?_) (a' := ?_) #[true, true, true, false, false, false, false, false, false, false, false, false] rfl rfl (any_of HT_.out (by kernel_rfl)) (fun _ _ _ h => h) (Or.inl ⟨by rfl, ?_⟩) ?_ ?_
                                        rotate_left
                                        · intro w'
                                          go_simp
                                          with_reducible rfl
                                        rotate_left
                                        · simp only [Act.put, List.setIfInBounds_toArray, List.set_cons_zero, List.set_cons_succ, i64_w, i32_w]
                                          rfl
                                        refine pure_ (i := 3) (N := some 49) (v := ?_) (a' := ?_) #[true, true, true, true, false, false, false, false, false, false, false, false] rfl rfl (any_of HT_.out (by kernel_rfl)) (fun _ _ _ h => h) (Or.inl ⟨by rfl, ?_⟩) ?_ ?_
                                        rotate_left
                                        · intro w'
                                          go_simp
                                          with_reducible rfl
                                        rotate_left
                                        · simp only [Act.put, List.setIfInBounds_toArray, List.set_cons_zero, List.set_cons_succ, i64_w, i32_w]
                                          rfl
                                        refine pure_ (i := 4) (N := some 50) (v := ?_) (a' := ?_) #[true, true, true, true, true, false, false, false, false, false, false, false] rfl rfl (any_of HT_.out (by kernel_rfl)) (fun _ _ _ h => h) (Or.inl ⟨by rfl, ?_⟩) ?_ ?_
                                        rotate_left
                                        · intro w'
                                          go_simp
                                          with_reducible rfl
                                        rotate_left
                                        · simp only [Act.put, List.setIfInBounds_toArray, List.set_cons_zero, List.set_cons_succ, i64_w, i32_w]
                                          rfl
                                        refine pure_ (i := 5) (N := some 51) (v := ?_) (a' := ?_) #[true, true, true, true, true, true, false, false, false, false, false, false] rfl rfl (any_of HT_.out (by kernel_rfl)) (fun _ _ _ h => h) (Or.inl ⟨by rfl, ?_⟩) ?_ ?_
                                        rotate_left
                                        · intro w'
                                          go_simp
                                          with_reducible rfl
                                        rotate_left
                                        · simp only [Act.put, List.setIfInBounds_toArray, List.set_cons_zero, List.set_cons_succ, i64_w, i32_w]
                                          rfl
                                        refine pure_ (i := 6) (N := some 52) (v := ?_) (a' := ?_) #[true, true, true, true, true, true, true, false, false, false, false, false] rfl rfl (any_of HT_.out (by kernel_rfl)) (fun _ _ _ h => h) (Or.inl ⟨by rfl, ?_⟩) ?_ ?_
                                        rotate_left
                                        · intro w'
                                          go_simp
                                          with_reducible rfl
                                        rotate_left
                                        · simp only [Act.put, List.setIfInBounds_toArray, List.set_cons_zero, List.set_cons_succ, i64_w, i32_w]
                                          rfl
                                        refine pure_ (i := 7) (N := some 53) (v := ?_) (a' := ?_) #[true, true, true, true, true, true, true, true, false, false, false, false] rfl rfl (any_of HT_.out (by kernel_rfl)) (fun _ _ _ h => h) (Or.inl ⟨by rfl, ?_⟩) ?_ ?_
                                        rotate_left
                                        · intro w'
                                          go_simp
                                          with_reducible rfl
                                        rotate_left
                                        · simp only [Act.put, List.setIfInBounds_toArray, List.set_cons_zero, List.set_cons_succ, i64_w, i32_w]
                                          rfl
                                        refine take_ (i := 8) (N := some 54) (v := ?_) (a' := ?_) #[true, true, true, true, true, true, true, true, true, false, false, false] rfl rfl (take_ofW HT_.out HW_.out (by kernel_rfl)) (fun _ _ _ h => h) (Or.inl ⟨by rfl, ?_⟩) hHeld ?_ ?_
                                        rotate_left
                                        · rintro w' ⟨s0, s1, s2, s3, s4, s5, s6, s7, s8, s9⟩
                                          go_simp
                                          with_reducible rfl
                                        rotate_left
                                        · simp only [Act.put, List.setIfInBounds_toArray, List.set_cons_zero, List.set_cons_succ, i64_w, i32_w]
                                          rfl
                                        refine take_ (i := 9) (N := some 55) (v := ?_) (a' := ?_) #[true, true, true, true, true, true, true, true, true, true, false, false] rfl rfl (take_ofW HT_.out HW_.out (by kernel_rfl)) (fun _ _ _ h => h) (Or.inl ⟨by rfl, ?_⟩) hHeld ?_ ?_
                                        rotate_left
                                        · rintro w' ⟨s0, s1, s2, s3, s4, s5, s6, s7, s8, s9⟩
                                          go_simp
                                          with_reducible rfl
                                        rotate_left
                                        · simp only [Act.put, List.setIfInBounds_toArray, List.set_cons_zero, List.set_cons_succ, i64_w, i32_w]
                                          rfl
                                        refine one_ (i := 10) (N := some 56) #[true, true, true, true, true, true, true, true, true, true, true, false] rfl rfl (one_of HT_.out (by kernel_rfl)) (by decide) (fun K hK => ?_)
                                        refine goes_ Try.func33 (by kernel_rfl) rfl #[.agg #[.int .u32 ((rd_T27 l0 x7_4).f0), .int .u32 ((rd_T27 l0 x7_4).f1), .int .u32 ((rd_T27 l0 x7_4).f2), .int .u32 ((rd_T27 l0 x7_4).f3), .int .u32 ((rd_T27 l0 x7_4).f4)], .agg #[.int .u32 a1_0, .int .u32 a1_1, .int .u32 a1_2, .int .u32 a1_3, .int .u32 a1_4]] (by rfl) rfl rfl (by (try simp only [List.map_toArray, List.map_cons, List.map_nil]); first | done | rfl | (simp only [List.length_drop, List.length_take]; rfl)) ?_
                                        with_reducible refine (lamellaref11_Less.calls ((rd_T27 l0 x7_4).f0) ((rd_T27 l0 x7_4).f1) ((rd_T27 l0 x7_4).f2) ((rd_T27 l0 x7_4).f3) ((rd_T27 l0 x7_4).f4) a1_0 a1_1 a1_2 a1_3 a1_4 false _ A32.out).mono ?_
                                        rintro e w44 ⟨rfl, hb⟩
                                        refine ⟨_, rfl, ?_⟩
                                        have n0_ := Aside0.mk (blk_below (g := gb174) (o := .cells #[.int .u32 a1_0, .int .u32 a1_1, .int .u32 a1_2, .int .u32 a1_3, .int .u32 a1_4] 27 (0, 0)) (by (with_reducible repeat (first | refine blk_drewN ?_ _ | refine blk_drew ?_ | refine blk_alloc ?_ _)); exact BK174.out) hb)
                                        have n1_ := Aside0.mk (below_step (by repeat (first | (with_reducible first | exact HB.out | apply below_alloc | apply pw_below_drewN | apply below_drew1 | refine below_set ?_ GE174.out) | exact HB.out)) hb)
                                        clear BK174
                                        clear HB
                                        have BK174 := n0_
                                        have HB := n1_
                                        clear n0_ n1_
                                        (try clear hb)
                                        (try clear hb2)
                                        (try clear hk)
                                        (try clear hi)
                                        refine hK.out _ _ ⟨(blk_cell BK174.out 0).trans rfl, (blk_cell BK174.out 1).trans rfl, (blk_cell BK174.out 2).trans rfl, (blk_cell BK174.out 3).trans rfl, (blk_cell BK174.out 4).trans rfl, ((HB.out.cell (World.block_lt_of_cell? w _ hw181_0)).trans hw181_0), ((HB.out.cell (World.block_lt_of_cell? w _ hw181_1)).trans hw181_1), ((HB.out.cell (World.block_lt_of_cell? w _ hw181_2)).trans hw181_2), ((HB.out.cell (World.block_lt_of_cell? w _ hw181_3)).trans hw181_3), ((HB.out.cell (World.block_lt_of_cell? w _ hw181_4)).trans hw181_4)⟩ (fun hHeld => ?_)
                                        clear hK K
                                        refine norm_ (a' := ?_) ?_ ?_
                                        rotate_left
                                        · show Act.put _ (some 56) _ = _
                                          simp only [Act.put, List.setIfInBounds_toArray, List.set_cons_zero, List.set_cons_succ, i64_w, i32_w]
                                          rfl
                                        refine pure_ (i := 11) (N := some 57) (v := ?_) (a' := ?_) #[true, true, true, true, true, true, true, true, true, true, true, true] rfl rfl (any_of HT_.out (by kernel_rfl)) (fun _ _ _ h => h) (Or.inl ⟨by rfl, ?_⟩) ?_ ?_
                                        rotate_left
                                        · intro w'
                                          go_simp
                                          with_reducible rfl
                                        rotate_left
                                        · simp only [Act.put, List.setIfInBounds_toArray, List.set_cons_zero, List.set_cons_succ, i64_w, i32_w]
                                          rfl
                                        refine done_ (done_of HT_.out (by kernel_rfl)) ?_
                                        have q45 : (x7_4 : Int) ≤ ((l0.length : Int) : Int) := of_decide_eq_true (by first | (with_reducible assumption) | assumption)
                                        obtain ⟨i045, hi045, _, hsz45, _⟩ := info_parts info27
                                        have hroom45 : l0.length ≤ c0 := HC0.out
                                        have hC45 : Kd.C k27 _ (some ad181) l0.length l0 := HR0.out
                                        have hcut45 := cut_to (P := Try.prog) 22 27 .i64 Try.underlying22 hi045 (some ad181) l0.length c0 x7_4 (of_decide_eq_true (by first | (with_reducible assumption) | assumption)) q45 hroom45
                                        have hr45 := Kd.C_take (m := (x7_4 : Int).toNat) hC45 (by omega)
                                        have hy45 : y183.length = (x7_4 : Int).toNat := (by rw [Ny183.out, List.length_take]; omega)
                                        rw [← Ny183.out] at hr45
                                        rw [← hy45] at hcut45
                                        have HR186 := Aside0.mk hr45
                                        have HC186 := Aside0.mk (show y183.length ≤ c0 from by omega)
                                        clear hr45 hC45 hroom45 hi045 hsz45
                                        have KY45 := Aside0.mk hy45
                                        clear hy45
                                        replace q45 := eq_true q45
                                        try go_wp2_with (first | ((with_reducible refine gate_builtin (b := .append) (xs := #[.tmp 60, .tmp 63]) rfl ?_); at_builtin; refine Kd.R_append_rows k27 (w0 := w) w.heap.size rfl (.tmp 60) (.tmp 63) 22 27 (.agg #[(.int .u32 0), (.int .u32 0), (.int .u32 0), (.int .u32 0), (.int .u32 0)]) 20 rfl Try.underlying22 info27 rfl (by decide) (by omega) (.slice none 0 0) ([] : List (S27)) y183 _ _ _ (fun k_ => k_ ≠ gb174) (fun _ => False) rfl rfl ?aO ?aR (fun _ _ h => h) (fun _ h => h.elim) ?aF ?aB ?aS ?aL ?_; (case aR => repeat (first | exact (Kd.C_below HR186.out HB.out) | (with_reducible refine Kd.C_alloc ?_ _) | (with_reducible refine Kd.C_drewN ?_ _) | (with_reducible refine Kd.C_drew ?_))); (case aB => exact (by repeat (first | (with_reducible first | exact HB.out | apply below_alloc | apply pw_below_drewN | apply below_drew1 | refine below_set ?_ GE174.out) | exact HB.out))); (case aF => exact (fun k_ hk => Kd.freshB (g := gb174) (o := .cells #[.int .u32 a1_0, .int .u32 a1_1, .int .u32 a1_2, .int .u32 a1_3, .int .u32 a1_4] 27 (0, 0)) (by (with_reducible repeat (first | refine blk_drewN ?_ _ | refine blk_drew ?_ | refine blk_alloc ?_ _)); exact BK174.out) k_ hk)); (case aO => exact ((Kd.R_nil _ _ _ _ (fun k_ => k_ ≠ gb174)))); (case aS => exact (below_size (by repeat (first | (with_reducible first | exact HB.out | apply below_alloc | apply pw_below_drewN | apply below_drew1 | refine below_set ?_ GE174.out) | exact HB.out)))); (case aL => have := LMc38.out; omega); intro v188 w46 ho hb hg hat; rw [← Ny187.out] at ho; have n0_ := Aside0.mk (blk_grown (g := gb174) (o := .cells #[.int .u32 a1_0, .int .u32 a1_1, .int .u32 a1_2, .int .u32 a1_3, .int .u32 a1_4] 27 (0, 0)) (by (with_reducible repeat (first | refine blk_drewN ?_ _ | refine blk_drew ?_ | refine blk_alloc ?_ _)); exact BK174.out) hg (by simp [Value.ownBlock])); have n1_ := Aside0.mk (hb); have n2_ := Aside0.mk (ho); clear BK174; clear HB; have BK174 := n0_; have HB := n1_; have HO189 := n2_; clear n0_ n1_ n2_; clear ho hb hg hat; have hcz47_0 : w46.cell? ⟨gb174, 0, none⟩ = some (.int .u32 a1_0) := (blk_cell BK174.out 0).trans rfl; have hcz47_1 : w46.cell? ⟨gb174, 1, none⟩ = some (.int .u32 a1_1) := (blk_cell BK174.out 1).trans rfl; have hcz47_2 : w46.cell? ⟨gb174, 2, none⟩ = some (.int .u32 a1_2) := (blk_cell BK174.out 2).trans rfl; have hcz47_3 : w46.cell? ⟨gb174, 3, none⟩ = some (.int .u32 a1_3) := (blk_cell BK174.out 3).trans rfl; have hcz47_4 : w46.cell? ⟨gb174, 4, none⟩ = some (.int .u32 a1_4) := (blk_cell BK174.out 4).trans rfl; have hfz47_0 := blk_frozen BK174.out 0; have hfz47_1 := blk_frozen BK174.out 1; have hfz47_2 := blk_frozen BK174.out 2; have hfz47_3 := blk_frozen BK174.out 3; have hfz47_4 := blk_frozen BK174.out 4) | ((with_reducible refine gate_builtin (b := .append) (xs := #[.tmp 65, .tmp 67]) rfl ?_); at_builtin; refine Kd.R_append k27 (w0 := w) w.heap.size rfl (.tmp 65) (.tmp 67) 22 27 (.agg #[(.int .u32 0), (.int .u32 0), (.int .u32 0), (.int .u32 0), (.int .u32 0)]) 20 rfl Try.underlying22 info27 rfl (by decide) (by omega) v188 y187 (⟨a1_0, a1_1, a1_2, a1_3, a1_4⟩ : S27) [.int .u32 a1_0, .int .u32 a1_1, .int .u32 a1_2, .int .u32 a1_3, .int .u32 a1_4] (fun k_ => k_ ≠ gb174) (fun _ => False) rfl rfl ?aP (fun _ hk => hk.elim) ?aF ?aO ?aB ?aS ?aL ?_; (case aP => exact k27_mkM _ _ _ (⟨a1_0, a1_1, a1_2, a1_3, a1_4⟩ : S27)); (case aB => exact (by repeat (first | (with_reducible first | exact HB.out | apply below_alloc | apply pw_below_drewN | apply below_drew1 | refine below_set ?_ GE174.out) | exact HB.out))); (case aF => exact (fun k_ hk => Kd.freshB (g := gb174) (o := .cells #[.int .u32 a1_0, .int .u32 a1_1, .int .u32 a1_2, .int .u32 a1_3, .int .u32 a1_4] 27 (0, 0)) (by (with_reducible repeat (first | refine blk_drewN ?_ _ | refine blk_drew ?_ | refine blk_alloc ?_ _)); exact BK174.out) k_ hk)); (case aO => exact (by (with_reducible repeat (first | apply Kd.R_alloc | apply Kd.R_drewN | apply Kd.R_drew)); exact HO189.out)); (case aS => exact (below_size (by repeat (first | (with_reducible first | exact HB.out | apply below_alloc | apply pw_below_drewN | apply below_drew1 | refine below_set ?_ GE174.out) | exact HB.out)))); (case aL => have := LMc39.out; omega); intro v191 w48 ho hb hg hat; rw [← Ny190.out] at ho; have n0_ := Aside0.mk (blk_grown (g := gb174) (o := .cells #[.int .u32 a1_0, .int .u32 a1_1, .int .u32 a1_2, .int .u32 a1_3, .int .u32 a1_4] 27 (0, 0)) (by (with_reducible repeat (first | refine blk_drewN ?_ _ | refine blk_drew ?_ | refine blk_alloc ?_ _)); exact BK174.out) hg (Kd.R_away HO189.out (fun _ hk => hk))); have n1_ := Aside0.mk (hb); have n2_ := Aside0.mk (ho); clear BK174; clear HB; clear HO189; have BK174 := n0_; have HB := n1_; have HO192 := n2_; clear n0_ n1_ n2_; clear ho hb hg hat; have q49 : (x7_4 : Int) ≤ ((l0.length : Int) : Int) := of_decide_eq_true (by first | (with_reducible assumption) | assumption); obtain ⟨i049, hi049, _, hsz49, _⟩ := info_parts info27; have hroom49 : l0.length ≤ c0 := HC0.out; have hC49 : Kd.C k27 _ (some ad181) l0.length l0 := HR0.out; have q049 : (0 : Int) ≤ (x7_4 : Int) := of_decide_eq_true (by first | (with_reducible assumption) | assumption); have hcut49 := cut_from (P := Try.prog) 22 27 .i64 Try.underlying22 hi049 5 hsz49 (some ad181) l0.length c0 x7_4 q049 q49; have hr49 := Kd.C_drop (m := (x7_4 : Int).toNat) (c := c0) hC49 (by omega) hroom49; obtain ⟨A49, hA49⟩ : ∃ A1, A1 = (if c0 = (x7_4 : Int).toNat then (some ad181) else ((some ad181) : Option Addr).map (·.add ((x7_4 : Int).toNat * 5))) := ⟨_, rfl⟩; obtain ⟨c49, hc49⟩ : ∃ c1, c1 = c0 - (x7_4 : Int).toNat := ⟨_, rfl⟩; have hy49 : y193.length = l0.length - (x7_4 : Int).toNat := (by rw [Ny193.out, List.length_drop] <;> omega); rw [show (l0).drop (x7_4 : Int).toNat = y193 from Ny193.out.symm] at hr49; replace hr49 : Kd.C k27 _ A49 y193.length y193 := (by rw [hA49]; exact hr49); rw [← hy49, ← hA49, ← hc49] at hcut49; have HR196 := Aside0.mk hr49; have HC196 := Aside0.mk (show y193.length ≤ c49 from by rw [hy49, hc49]; exact Nat.sub_le_sub_right hroom49 _); clear hr49 hC49 hroom49 hi049 hsz49 hc49; have KY49 := Aside0.mk hy49; have KA49 := Aside0.mk hA49; clear hy49 hA49; replace q49 := eq_true q49) | ((with_reducible refine gate_builtin (b := .append) (xs := #[.tmp 69, .tmp 72]) rfl ?_); at_builtin; refine Kd.R_append_rows k27 (w0 := w) w.heap.size rfl (.tmp 69) (.tmp 72) 22 27 (.agg #[(.int .u32 0), (.int .u32 0), (.int .u32 0), (.int .u32 0), (.int .u32 0)]) 20 rfl Try.underlying22 info27 rfl (by decide) (by omega) v191 y190 y193 _ _ _ (fun k_ => k_ ≠ gb174) (fun _ => False) rfl rfl ?aO ?aR (fun _ _ h => h) (fun _ h => h.elim) ?aF ?aB ?aS ?aL ?_; (case aR => repeat (first | exact (Kd.C_below HR196.out HB.out) | (with_reducible refine Kd.C_alloc ?_ _) | (with_reducible refine Kd.C_drewN ?_ _) | (with_reducible refine Kd.C_drew ?_))); (case aB => exact (by repeat (first | (with_reducible first | exact HB.out | apply below_alloc | apply pw_below_drewN | apply below_drew1 | refine below_set ?_ GE174.out) | exact HB.out))); (case aF => exact (fun k_ hk => Kd.freshB (g := gb174) (o := .cells #[.int .u32 a1_0, .int .u32 a1_1, .int .u32 a1_2, .int .u32 a1_3, .int .u32 a1_4] 27 (0, 0)) (by (with_reducible repeat (first | refine blk_drewN ?_ _ | refine blk_drew ?_ | refine blk_alloc ?_ _)); exact BK174.out) k_ hk)); (case aO => exact (by (with_reducible repeat (first | apply Kd.R_alloc | apply Kd.R_drewN | apply Kd.R_drew)); exact HO192.out)); (case aS => exact (below_size (by repeat (first | (with_reducible first | exact HB.out | apply below_alloc | apply pw_below_drewN | apply below_drew1 | refine below_set ?_ GE174.out) | exact HB.out)))); (case aL => have := LMc42.out; omega); intro v198 w50 ho hb hg hat; rw [← Ny197.out] at ho; have n0_ := Aside0.mk (blk_grown (g := gb174) (o := .cells #[.int .u32 a1_0, .int .u32 a1_1, .int .u32 a1_2, .int .u32 a1_3, .int .u32 a1_4] 27 (0, 0)) (by (with_reducible repeat (first | refine blk_drewN ?_ _ | refine blk_drew ?_ | refine blk_alloc ?_ _)); exact BK174.out) hg (Kd.R_away HO192.out (fun _ hk => hk))); have n1_ := Aside0.mk (hb); have n2_ := Aside0.mk (ho); clear BK174; clear HB; clear HO192; have BK174 := n0_; have HB := n1_; have HO199 := n2_; clear n0_ n1_ n2_; clear ho hb hg hat))
                                        go_ret2
                                        exact ⟨_, by first | rfl | (simp [errW_none, errW_some] <;> rfl) | (simp [*, errW_none, errW_some] <;> rfl), by (with_reducible repeat (first | apply Kd.R_alloc | apply Kd.R_drewN | apply Kd.R_drew)); exact Kd.R_mono HO199.out (fun _ hk => trivial), by repeat (first | (with_reducible first | exact HB.out | apply below_alloc | apply pw_below_drewN | apply below_drew1 | refine below_set ?_ GE174.out) | exact HB.out)⟩
                                      · rw [if_neg c42] at H
                                        exact absurd H (by simp)
                                    · rw [if_neg c39] at H
                                      exact absurd H (by simp)
                                  · rw [if_neg c38] at H
                                    exact absurd H (by simp)
                                · rw [if_neg c37] at H
                                  exact absurd H (by simp)
                            · rw [if_neg c31] at H
                              exact absurd H (by simp)
                          · rw [if_neg c30] at H
                            have c30b0 : decide (x7_4 < (l0.length : Int)) = false := decide_eq_false c30
                            clear c30
                            by_cases c51 : 0 ≤ x7_4
                            · rw [if_pos c51] at H
                              have c51b0 := eq_true c51
                              have c51b1 : decide (0 ≤ x7_4) = true := decide_eq_true c51
                              clear c51
                              by_cases c52 : x7_4 ≤ (l0.length : Int)
                              · rw [if_pos c52] at H
                                have c52b0 := eq_true c52
                                have c52b1 : decide (x7_4 ≤ (l0.length : Int)) = true := decide_eq_true c52
                                clear c52
                                obtain ⟨y200, hy200⟩ : ∃ y_ : List (S27), y_ = (l0.take (x7_4 : Int).toNat) := ⟨_, rfl⟩
                                replace H : (if ([] : List (S27)).length + y200.length < 7036874417766 then ((some (([] : List (S27)) ++ y200 : List (S27))).bind fun y204 => (if y204.length < 7036874417766 then ((some (y204 ++ [(⟨a1_0, a1_1, a1_2, a1_3, a1_4⟩ : S27)] : List (S27))).bind fun y207 => ((some (l0.drop (x7_4 : Int).toNat : List (S27))).bind fun y210 => (if y207.length + y210.length < 7036874417766 then (some ((y207 ++ y210), 0)) else (none)))) else (none))) else (none)) = some (r1, r2) := by first | (rw [hy200]; with_reducible exact H) | (have H2_ := (Option.bind_some _ _).symm.trans H; rw [hy200]; with_reducible exact H2_) | (have H2_ := (Option.bind_some _ _).symm.trans H; with_reducible exact H2_) | with_reducible exact H | (rw [hy200]; exact H) | exact H
                                have Ny200 := Aside0.mk hy200
                                clear hy200
                                by_cases c53 : ([] : List (S27)).length + y200.length < 7036874417766
                                · rw [if_pos c53] at H
                                  have LMc53 := Aside0.mk c53
                                  clear c53
                                  obtain ⟨y204, hy204⟩ : ∃ y_ : List (S27), y_ = (([] : List (S27)) ++ y200) := ⟨_, rfl⟩
                                  replace H : (if y204.length < 7036874417766 then ((some (y204 ++ [(⟨a1_0, a1_1, a1_2, a1_3, a1_4⟩ : S27)] : List (S27))).bind fun y207 => ((some (l0.drop (x7_4 : Int).toNat : List (S27))).bind fun y210 => (if y207.length + y210.length < 7036874417766 then (some ((y207 ++ y210), 0)) else (none)))) else (none)) = some (r1, r2) := by first | (rw [hy204]; with_reducible exact H) | (have H2_ := (Option.bind_some _ _).symm.trans H; rw [hy204]; with_reducible exact H2_) | (have H2_ := (Option.bind_some _ _).symm.trans H; with_reducible exact H2_) | with_reducible exact H | (rw [hy204]; exact H) | exact H
                                  have Ny204 := Aside0.mk hy204
                                  clear hy204
                                  by_cases c54 : y204.length < 7036874417766
                                  · rw [if_pos c54] at H
                                    have LMc54 := Aside0.mk c54
                                    clear c54
                                    obtain ⟨y207, hy207⟩ : ∃ y_ : List (S27), y_ = (y204 ++ [(⟨a1_0, a1_1, a1_2, a1_3, a1_4⟩ : S27)]) := ⟨_, rfl⟩
                                    replace H : ((some (l0.drop (x7_4 : Int).toNat : List (S27))).bind fun y210 => (if y207.length + y210.length < 7036874417766 then (some ((y207 ++ y210), 0)) else (none))) = some (r1, r2) := by first | (rw [hy207]; with_reducible exact H) | (have H2_ := (Option.bind_some _ _).symm.trans H; rw [hy207]; with_reducible exact H2_) | (have H2_ := (Option.bind_some _ _).symm.trans H; with_reducible exact H2_) | with_reducible exact H | (rw [hy207]; exact H) | exact H
                                    have Ny207 := Aside0.mk hy207
                                    clear hy207
                                    have c55b0 := eq_true (of_decide_eq_true (by first | (with_reducible assumption) | assumption) : 0 ≤ x7_4)
                                    have c56b0 := eq_true (of_decide_eq_true (by first | (with_reducible assumption) | assumption) : x7_4 ≤ (l0.length : Int))
                                    obtain ⟨y210, hy210⟩ : ∃ y_ : List (S27), y_ = (l0.drop (x7_4 : Int).toNat) := ⟨_, rfl⟩
                                    replace H : (if y207.length + y210.length < 7036874417766 then (some ((y207 ++ y210), 0)) else (none)) = some (r1, r2) := by first | (rw [hy210]; with_reducible exact H) | (have H2_ := (Option.bind_some _ _).symm.trans H; rw [hy210]; with_reducible exact H2_) | (have H2_ := (Option.bind_some _ _).symm.trans H; with_reducible exact H2_) | with_reducible exact H | (rw [hy210]; exact H) | exact H
                                    have Ny210 := Aside0.mk hy210
                                    clear hy210
                                    by_cases c57 : y207.length + y210.length < 7036874417766
                                    · rw [if_pos c57] at H
                                      have LMc57 := Aside0.mk c57
                                      clear c57
                                      obtain ⟨y214, hy214⟩ : ∃ y_ : List (S27), y_ = (y207 ++ y210) := ⟨_, rfl⟩
                                      replace H : (some (y214, 0)) = some (r1, r2) := by first | (rw [hy214]; with_reducible exact H) | (have H2_ := (Option.bind_some _ _).symm.trans H; rw [hy214]; with_reducible exact H2_) | (have H2_ := (Option.bind_some _ _).symm.trans H; with_reducible exact H2_) | with_reducible exact H | (rw [hy214]; exact H) | exact H
                                      have Ny214 := Aside0.mk hy214
                                      clear hy214
                                      simp only [Option.some.injEq, Prod.mk.injEq] at H
                                      obtain ⟨rfl, rfl⟩ := H
                                      try go_wp2
                                      have n0_ := Aside0.mk (blk_drew BK174.out)
                                      have n1_ := Aside0.mk (below_drew1 HB.out)
                                      clear BK174
                                      clear HB
                                      have BK174 := n0_
                                      have HB := n1_
                                      clear n0_ n1_
                                      refine start_ (n := 12) (S := fun w' => True) (ds := []) #[false, false, false, false, false, false, false, false, false, false, false, false] (by kernel_rfl) rfl rfl trivial (fun hHeld => ?_); refine with_tabW lamellaref11_Add.tab13 lamellaref11_Add.bits13 (fun HT_ HW_ => ?_)
                                      generalize wr.drew = w58 at BK174 HB hHeld ⊢
                                      refine pure_ (i := 0) (N := some 46) (v := ?_) (a' := ?_) #[true, false, false, false, false, false, false, false, false, false, false, false] rfl rfl (any_of HT_.out (by kernel_rfl)) (fun _ _ _ h => h) (Or.inl ⟨by rfl, ?_⟩) ?_ ?_
                                      rotate_left
                                      · intro w'
                                        go_simp
                                        with_reducible rfl
                                      rotate_left
                                      · simp only [Act.put, List.setIfInBounds_toArray, List.set_cons_zero, List.set_cons_succ, i64_w, i32_w]
                                        rfl
                                      refine pure_ (i := 1) (N := some 47) (v := ?_) (a' := ?_) #[true, true, false, false, false, false, false, false, false, false, false, false] rfl rfl (any_of HT_.out (by kernel_rfl)) (fun _ _ _ h => h) (Or.inl ⟨by rfl, ?_⟩) ?_ ?_
                                      rotate_left
                                      · intro w'
                                        go_simp
                                        with_reducible rfl
                                      rotate_left
                                      · simp only [Act.put, List.setIfInBounds_toArray, List.set_cons_zero, List.set_cons_succ, i64_w, i32_w]
                                        rfl
                                      refine pure_ (i := 2) (N := some 48) (v := ?_) (a' := ?_) #[true, true, true, false, false, false, false, false, false, false, false, false] rfl rfl (any_of HT_.out (by kernel_rfl)) (fun _ _ _ h => h) (Or.inl ⟨by rfl, ?_⟩) ?_ ?_
                                      rotate_left
                                      · intro w'
                                        go_simp
                                        with_reducible rfl
                                      rotate_left
                                      · simp only [Act.put, List.setIfInBounds_toArray, List.set_cons_zero, List.set_cons_succ, i64_w, i32_w]
                                        rfl
                                      refine pure_ (i := 3) (N := some 49) (v := ?_) (a' := ?_) #[true, true, true, true, false, false, false, false, false, false, false, false] rfl rfl (any_of HT_.out (by kernel_rfl)) (fun _ _ _ h => h) (Or.inl ⟨by rfl, ?_⟩) ?_ ?_
                                      rotate_left
                                      · intro w'
                                        go_simp
                                        with_reducible rfl
                                      rotate_left
                                      · simp only [Act.put, List.setIfInBounds_toArray, List.set_cons_zero, List.set_cons_succ, i64_w, i32_w]
                                        rfl
                                      refine pure_ (i := 4) (N := some 50) (v := ?_) (a' := ?_) #[true, true, true, true, true, false, false, false, false, false, false, false] rfl rfl (any_of HT_.out (by kernel_rfl)) (fun _ _ _ h => h) (Or.inl ⟨by rfl, ?_⟩) ?_ ?_
                                      rotate_left
                                      · intro w'
                                        go_simp
                                        with_reducible rfl
                                      rotate_left
                                      · simp only [Act.put, List.setIfInBounds_toArray, List.set_cons_zero, List.set_cons_succ, i64_w, i32_w]
                                        rfl
                                      refine pure_ (i := 5) (N := some 51) (v := undef) (a' := ?_) #[true, true, true, true, true, true, false, false, false, false, false, false] rfl rfl (any_of HT_.out (by kernel_rfl)) (fun _ _ _ h => h) (Or.inr ⟨by rfl, rfl⟩) ?_ ?_
                                      rotate_left
                                      · simp only [Act.put, List.setIfInBounds_toArray, List.set_cons_zero, List.set_cons_succ, i64_w, i32_w]
                                        rfl
                                      refine pure_ (i := 6) (N := some 52) (v := undef) (a' := ?_) #[true, true, true, true, true, true, true, false, false, false, false, false] rfl rfl (any_of HT_.out (by kernel_rfl)) (fun _ _ _ h => h) (Or.inr ⟨by rfl, rfl⟩) ?_ ?_
                                      rotate_left
                                      · simp only [Act.put, List.setIfInBounds_toArray, List.set_cons_zero, List.set_cons_succ, i64_w, i32_w]
                                        rfl
                                      refine pure_ (i := 7) (N := some 53) (v := undef) (a' := ?_) #[true, true, true, true, true, true, true, true, false, false, false, false] rfl rfl (any_of HT_.out (by kernel_rfl)) (fun _ _ _ h => h) (Or.inr ⟨by rfl, rfl⟩) ?_ ?_
                                      rotate_left
                                      · simp only [Act.put, List.setIfInBounds_toArray, List.set_cons_zero, List.set_cons_succ, i64_w, i32_w]
                                        rfl
                                      refine pure_ (i := 8) (N := some 54) (v := undef) (a' := ?_) #[true, true, true, true, true, true, true, true, true, false, false, false] rfl rfl (any_of HT_.out (by kernel_rfl)) (fun _ _ _ h => h) (Or.inr ⟨by rfl, rfl⟩) ?_ ?_
                                      rotate_left
                                      · simp only [Act.put, List.setIfInBounds_toArray, List.set_cons_zero, List.set_cons_succ, i64_w, i32_w]
                                        rfl
                                      refine pure_ (i := 9) (N := some 55) (v := undef) (a' := ?_) #[true, true, true, true, true, true, true, true, true, true, false, false] rfl rfl (any_of HT_.out (by kernel_rfl)) (fun _ _ _ h => h) (Or.inr ⟨by rfl, rfl⟩) ?_ ?_
                                      rotate_left
                                      · simp only [Act.put, List.setIfInBounds_toArray, List.set_cons_zero, List.set_cons_succ, i64_w, i32_w]
                                        rfl
                                      refine pure_ (i := 10) (N := some 56) (v := undef) (a' := ?_) #[true, true, true, true, true, true, true, true, true, true, true, false] rfl rfl (any_of HT_.out (by kernel_rfl)) (fun _ _ _ h => h) (Or.inr ⟨by rfl, rfl⟩) ?_ ?_
                                      rotate_left
                                      · simp only [Act.put, List.setIfInBounds_toArray, List.set_cons_zero, List.set_cons_succ, i64_w, i32_w]
                                        rfl
                                      refine pure_ (i := 11) (N := some 57) (v := ?_) (a' := ?_) #[true, true, true, true, true, true, true, true, true, true, true, true] rfl rfl (any_of HT_.out (by kernel_rfl)) (fun _ _ _ h => h) (Or.inl ⟨by rfl, ?_⟩) ?_ ?_
                                      rotate_left
                                      · intro w'
                                        go_simp
                                        with_reducible rfl
                                      rotate_left
                                      · simp only [Act.put, List.setIfInBounds_toArray, List.set_cons_zero, List.set_cons_succ, i64_w, i32_w]
                                        rfl
                                      refine done_ (done_of HT_.out (by kernel_rfl)) ?_
                                      have q59 : (x7_4 : Int) ≤ ((l0.length : Int) : Int) := of_decide_eq_true (by first | (with_reducible assumption) | assumption)
                                      obtain ⟨i059, hi059, _, hsz59, _⟩ := info_parts info27
                                      have hroom59 : l0.length ≤ c0 := HC0.out
                                      have hC59 : Kd.C k27 _ A0 l0.length l0 := HR0.out
                                      have hcut59 := cut_to (P := Try.prog) 22 27 .i64 Try.underlying22 hi059 A0 l0.length c0 x7_4 (of_decide_eq_true (by first | (with_reducible assumption) | assumption)) q59 hroom59
                                      have hr59 := Kd.C_take (m := (x7_4 : Int).toNat) hC59 (by omega)
                                      have hy59 : y200.length = (x7_4 : Int).toNat := (by rw [Ny200.out, List.length_take]; omega)
                                      rw [← Ny200.out] at hr59
                                      rw [← hy59] at hcut59
                                      have HR203 := Aside0.mk hr59
                                      have HC203 := Aside0.mk (show y200.length ≤ c0 from by omega)
                                      clear hr59 hC59 hroom59 hi059 hsz59
                                      have KY59 := Aside0.mk hy59
                                      clear hy59
                                      replace q59 := eq_true q59
                                      try go_wp2_with (first | ((with_reducible refine gate_builtin (b := .append) (xs := #[.tmp 60, .tmp 63]) rfl ?_); at_builtin; refine Kd.R_append_rows k27 (w0 := w) w.heap.size rfl (.tmp 60) (.tmp 63) 22 27 (.agg #[(.int .u32 0), (.int .u32 0), (.int .u32 0), (.int .u32 0), (.int .u32 0)]) 20 rfl Try.underlying22 info27 rfl (by decide) (by omega) (.slice none 0 0) ([] : List (S27)) y200 _ _ _ (fun k_ => k_ ≠ gb174) (fun _ => False) rfl rfl ?aO ?aR (fun _ _ h => h) (fun _ h => h.elim) ?aF ?aB ?aS ?aL ?_; (case aR => repeat (first | exact (Kd.C_below HR203.out HB.out) | (with_reducible refine Kd.C_alloc ?_ _) | (with_reducible refine Kd.C_drewN ?_ _) | (with_reducible refine Kd.C_drew ?_))); (case aB => exact (by repeat (first | (with_reducible first | exact HB.out | apply below_alloc | apply pw_below_drewN | apply below_drew1 | refine below_set ?_ GE174.out) | exact HB.out))); (case aF => exact (fun k_ hk => Kd.freshB (g := gb174) (o := .cells #[.int .u32 a1_0, .int .u32 a1_1, .int .u32 a1_2, .int .u32 a1_3, .int .u32 a1_4] 27 (0, 0)) (by (with_reducible repeat (first | refine blk_drewN ?_ _ | refine blk_drew ?_ | refine blk_alloc ?_ _)); exact BK174.out) k_ hk)); (case aO => exact ((Kd.R_nil _ _ _ _ (fun k_ => k_ ≠ gb174)))); (case aS => exact (below_size (by repeat (first | (with_reducible first | exact HB.out | apply below_alloc | apply pw_below_drewN | apply below_drew1 | refine below_set ?_ GE174.out) | exact HB.out)))); (case aL => have := LMc53.out; omega); intro v205 w60 ho hb hg hat; rw [← Ny204.out] at ho; have n0_ := Aside0.mk (blk_grown (g := gb174) (o := .cells #[.int .u32 a1_0, .int .u32 a1_1, .int .u32 a1_2, .int .u32 a1_3, .int .u32 a1_4] 27 (0, 0)) (by (with_reducible repeat (first | refine blk_drewN ?_ _ | refine blk_drew ?_ | refine blk_alloc ?_ _)); exact BK174.out) hg (by simp [Value.ownBlock])); have n1_ := Aside0.mk (hb); have n2_ := Aside0.mk (ho); clear BK174; clear HB; have BK174 := n0_; have HB := n1_; have HO206 := n2_; clear n0_ n1_ n2_; clear ho hb hg hat; have hcz61_0 : w60.cell? ⟨gb174, 0, none⟩ = some (.int .u32 a1_0) := (blk_cell BK174.out 0).trans rfl; have hcz61_1 : w60.cell? ⟨gb174, 1, none⟩ = some (.int .u32 a1_1) := (blk_cell BK174.out 1).trans rfl; have hcz61_2 : w60.cell? ⟨gb174, 2, none⟩ = some (.int .u32 a1_2) := (blk_cell BK174.out 2).trans rfl; have hcz61_3 : w60.cell? ⟨gb174, 3, none⟩ = some (.int .u32 a1_3) := (blk_cell BK174.out 3).trans rfl; have hcz61_4 : w60.cell? ⟨gb174, 4, none⟩ = some (.int .u32 a1_4) := (blk_cell BK174.out 4).trans rfl; have hfz61_0 := blk_frozen BK174.out 0; have hfz61_1 := blk_frozen BK174.out 1; have hfz61_2 := blk_frozen BK174.out 2; have hfz61_3 := blk_frozen BK174.out 3; have hfz61_4 := blk_frozen BK174.out 4) | ((with_reducible refine gate_builtin (b := .append) (xs := #[.tmp 65, .tmp 67]) rfl ?_); at_builtin; refine Kd.R_append k27 (w0 := w) w.heap.size rfl (.tmp 65) (.tmp 67) 22 27 (.agg #[(.int .u32 0), (.int .u32 0), (.int .u32 0), (.int .u32 0), (.int .u32 0)]) 20 rfl Try.underlying22 info27 rfl (by decide) (by omega) v205 y204 (⟨a1_0, a1_1, a1_2, a1_3, a1_4⟩ : S27) [.int .u32 a1_0, .int .u32 a1_1, .int .u32 a1_2, .int .u32 a1_3, .int .u32 a1_4] (fun k_ => k_ ≠ gb174) (fun _ => False) rfl rfl ?aP (fun _ hk => hk.elim) ?aF ?aO ?aB ?aS ?aL ?_; (case aP => exact k27_mkM _ _ _ (⟨a1_0, a1_1, a1_2, a1_3, a1_4⟩ : S27)); (case aB => exact (by repeat (first | (with_reducible first | exact HB.out | apply below_alloc | apply pw_below_drewN | apply below_drew1 | refine below_set ?_ GE174.out) | exact HB.out))); (case aF => exact (fun k_ hk => Kd.freshB (g := gb174) (o := .cells #[.int .u32 a1_0, .int .u32 a1_1, .int .u32 a1_2, .int .u32 a1_3, .int .u32 a1_4] 27 (0, 0)) (by (with_reducible repeat (first | refine blk_drewN ?_ _ | refine blk_drew ?_ | refine blk_alloc ?_ _)); exact BK174.out) k_ hk)); (case aO => exact (by (with_reducible repeat (first | apply Kd.R_alloc | apply Kd.R_drewN | apply Kd.R_drew)); exact HO206.out)); (case aS => exact (below_size (by repeat (first | (with_reducible first | exact HB.out | apply below_alloc | apply pw_below_drewN | apply below_drew1 | refine below_set ?_ GE174.out) | exact HB.out)))); (case aL => have := LMc54.out; omega); intro v208 w62 ho hb hg hat; rw [← Ny207.out] at ho; have n0_ := Aside0.mk (blk_grown (g := gb174) (o := .cells #[.int .u32 a1_0, .int .u32 a1_1, .int .u32 a1_2, .int .u32 a1_3, .int .u32 a1_4] 27 (0, 0)) (by (with_reducible repeat (first | refine blk_drewN ?_ _ | refine blk_drew ?_ | refine blk_alloc ?_ _)); exact BK174.out) hg (Kd.R_away HO206.out (fun _ hk => hk))); have n1_ := Aside0.mk (hb); have n2_ := Aside0.mk (ho); clear BK174; clear HB; clear HO206; have BK174 := n0_; have HB := n1_; have HO209 := n2_; clear n0_ n1_ n2_; clear ho hb hg hat; have q63 : (x7_4 : Int) ≤ ((l0.length : Int) : Int) := of_decide_eq_true (by first | (with_reducible assumption) | assumption); obtain ⟨i063, hi063, _, hsz63, _⟩ := info_parts info27; have hroom63 : l0.length ≤ c0 := HC0.out; have hC63 : Kd.C k27 _ A0 l0.length l0 := HR0.out; have q063 : (0 : Int) ≤ (x7_4 : Int) := of_decide_eq_true (by first | (with_reducible assumption) | assumption); have hcut63 := cut_from (P := Try.prog) 22 27 .i64 Try.underlying22 hi063 5 hsz63 A0 l0.length c0 x7_4 q063 q63; have hr63 := Kd.C_drop (m := (x7_4 : Int).toNat) (c := c0) hC63 (by omega) hroom63; obtain ⟨A63, hA63⟩ : ∃ A1, A1 = (if c0 = (x7_4 : Int).toNat then A0 else (A0 : Option Addr).map (·.add ((x7_4 : Int).toNat * 5))) := ⟨_, rfl⟩; obtain ⟨c63, hc63⟩ : ∃ c1, c1 = c0 - (x7_4 : Int).toNat := ⟨_, rfl⟩; have hy63 : y210.length = l0.length - (x7_4 : Int).toNat := (by rw [Ny210.out, List.length_drop] <;> omega); rw [show (l0).drop (x7_4 : Int).toNat = y210 from Ny210.out.symm] at hr63; replace hr63 : Kd.C k27 _ A63 y210.length y210 := (by rw [hA63]; exact hr63); rw [← hy63, ← hA63, ← hc63] at hcut63; have HR213 := Aside0.mk hr63; have HC213 := Aside0.mk (show y210.length ≤ c63 from by rw [hy63, hc63]; exact Nat.sub_le_sub_right hroom63 _); clear hr63 hC63 hroom63 hi063 hsz63 hc63; have KY63 := Aside0.mk hy63; have KA63 := Aside0.mk hA63; clear hy63 hA63; replace q63 := eq_true q63) | ((with_reducible refine gate_builtin (b := .append) (xs := #[.tmp 69, .tmp 72]) rfl ?_); at_builtin; refine Kd.R_append_rows k27 (w0 := w) w.heap.size rfl (.tmp 69) (.tmp 72) 22 27 (.agg #[(.int .u32 0), (.int .u32 0), (.int .u32 0), (.int .u32 0), (.int .u32 0)]) 20 rfl Try.underlying22 info27 rfl (by decide) (by omega) v208 y207 y210 _ _ _ (fun k_ => k_ ≠ gb174) (fun _ => False) rfl rfl ?aO ?aR (fun _ _ h => h) (fun _ h => h.elim) ?aF ?aB ?aS ?aL ?_; (case aR => repeat (first | exact (Kd.C_below HR213.out HB.out) | (with_reducible refine Kd.C_alloc ?_ _) | (with_reducible refine Kd.C_drewN ?_ _) | (with_reducible refine Kd.C_drew ?_))); (case aB => exact (by repeat (first | (with_reducible first | exact HB.out | apply below_alloc | apply pw_below_drewN | apply below_drew1 | refine below_set ?_ GE174.out) | exact HB.out))); (case aF => exact (fun k_ hk => Kd.freshB (g := gb174) (o := .cells #[.int .u32 a1_0, .int .u32 a1_1, .int .u32 a1_2, .int .u32 a1_3, .int .u32 a1_4] 27 (0, 0)) (by (with_reducible repeat (first | refine blk_drewN ?_ _ | refine blk_drew ?_ | refine blk_alloc ?_ _)); exact BK174.out) k_ hk)); (case aO => exact (by (with_reducible repeat (first | apply Kd.R_alloc | apply Kd.R_drewN | apply Kd.R_drew)); exact HO209.out)); (case aS => exact (below_size (by repeat (first | (with_reducible first | exact HB.out | apply below_alloc | apply pw_below_drewN | apply below_drew1 | refine below_set ?_ GE174.out) | exact HB.out)))); (case aL => have := LMc57.out; omega); intro v215 w64 ho hb hg hat; rw [← Ny214.out] at ho; have n0_ := Aside0.mk (blk_grown (g := gb174) (o := .cells #[.int .u32 a1_0, .int .u32 a1_1, .int .u32 a1_2, .int .u32 a1_3, .int .u32 a1_4] 27 (0, 0)) (by (with_reducible repeat (first | refine blk_drewN ?_ _ | refine blk_drew ?_ | refine blk_alloc ?_ _)); exact BK174.out) hg (Kd.R_away HO209.out (fun _ hk => hk))); have n1_ := Aside0.mk (hb); have n2_ := Aside0.mk (ho); clear BK174; clear HB; clear HO209; have BK174 := n0_; have HB := n1_; have HO216 := n2_; clear n0_ n1_ n2_; clear ho hb hg hat))
                                      go_ret2
                                      exact ⟨_, by first | rfl | (simp [errW_none, errW_some] <;> rfl) | (simp [*, errW_none, errW_some] <;> rfl), by (with_reducible repeat (first | apply Kd.R_alloc | apply Kd.R_drewN | apply Kd.R_drew)); exact Kd.R_mono HO216.out (fun _ hk => trivial), by repeat (first | (with_reducible first | exact HB.out | apply below_alloc | apply pw_below_drewN | apply below_drew1 | refine below_set ?_ GE174.out) | exact HB.out)⟩
                                    · rw [if_neg c57] at H
                                      exact absurd H (by simp)
                                  · rw [if_neg c54] at H
                                    exact absurd H (by simp)
                                · rw [if_neg c53] at H
                                  exact absurd H (by simp)
                              · rw [if_neg c52] at H
                                exact absurd H (by simp)
                            · rw [if_neg c51] at H
                              exact absurd H (by simp)

end Go.Proofs.Ytecbfpdkbackmaa.P11
