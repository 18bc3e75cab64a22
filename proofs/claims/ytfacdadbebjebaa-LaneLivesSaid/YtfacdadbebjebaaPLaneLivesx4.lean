-- PRINTED BY print.sh 35421559b90ae4d0a3588c463048766b98c2df88dd9212a6774a882060cdf62d: not written by this session
import Derived.Test.YtfacdadbebjebaaPLaneLivesx0
import Derived.Test.YtfacdadbebjebaaPLaneLivesx2
import Derived.Test.YtfacdadbebjebaaPLaneLivesx3
namespace Go.Proofs.Ytfacdadbebjebaa.PLaneLives
open Go.RowKit Go.Proofs.YtfacdadbebjebaaW.PrintWords Go.Proofs.YtfacdadbebjebaaW.PrintLast Go.Proofs.YtfacdadbebjebaaW.PrintMore
attribute [local go_sem] max2_int min2_int max_two min_two max_three min_three max_four min_four   -- for this text's walks alone
set_option linter.unusedVariables false
set_option linter.unusedSimpArgs false

/-! ### lamellalaw08_LaneLives: function 7 -/
mutual
def lamellalaw08_LaneLives.j0 : Nat → Int → Int → Int → List Int → Bool → Int → Int → ByteArray → Option (Bool)
  | 0, _, _, _, _, _, _, _, _ => none
  | k + 1, x1, x2, x3, x4, x24, x143000, x143001, x143002 => if x24 = true then ((lamellalaw08_alive.f k).bind fun t144 => (some t144)) else ((lane_Done.f k x143000 x143001 x143002 x1 1 (⟨#[102, 105, 114, 115, 116]⟩ : ByteArray)).bind fun bt145 => (if bt145.1 = x1 then (if bt145.2.1 = 1 then (if bt145.2.2.toList = ([102, 105, 114, 115, 116] : List UInt8) then ((lane_Judge.f k bt145.1 bt145.2.1 bt145.2.2 x2 x3).bind fun t149 => (lamellalaw08_LaneLives.j1 k x1 x2 x3 x4 (t149 != 3) bt145.1 bt145.2.1 bt145.2.2)) else (lamellalaw08_LaneLives.j1 k x1 x2 x3 x4 true bt145.1 bt145.2.1 bt145.2.2)) else (lamellalaw08_LaneLives.j1 k x1 x2 x3 x4 true bt145.1 bt145.2.1 bt145.2.2)) else (lamellalaw08_LaneLives.j1 k x1 x2 x3 x4 true bt145.1 bt145.2.1 bt145.2.2)))
def lamellalaw08_LaneLives.j1 : Nat → Int → Int → Int → List Int → Bool → Int → Int → ByteArray → Option (Bool)
  | 0, _, _, _, _, _, _, _, _ => none
  | k + 1, x1, x2, x3, x4, x49, x149000, x149001, x149002 => if x49 = true then (some false) else (lamellalaw08_LaneLives.l0 k x1 x2 x3 x4 0 x149000 x149001 x149002)
def lamellalaw08_LaneLives.l0 : Nat → Int → Int → Int → List Int → Int → Int → Int → ByteArray → Option (Bool)
  | 0, _, _, _, _, _, _, _, _ => none
  | k + 1, x1, x2, x3, x4, x12, x149000, x149001, x149002 => if x12 < (x4.length : Int) then (lamellalaw08_LaneLives.j3 k x1 x2 x3 x4 x12 (decide (x12 < 100)) x149000 x149001 x149002) else (lamellalaw08_LaneLives.j3 k x1 x2 x3 x4 x12 false x149000 x149001 x149002)
def lamellalaw08_LaneLives.j3 : Nat → Int → Int → Int → List Int → Int → Bool → Int → Int → ByteArray → Option (Bool)
  | 0, _, _, _, _, _, _, _, _, _ => none
  | k + 1, x1, x2, x3, x4, x12, x57, x149000, x149001, x149002 => if x57 = true then (if 0 ≤ x12 then (if x12 < (x4.length : Int) then ((lane_Done.f k x149000 x149001 x149002 x1 (rd x4 x12) (⟨#[110, 101, 120, 116]⟩ : ByteArray)).bind fun bt152 => (if bt152.1 = x1 then (if bt152.2.1 < x149001 then (some false) else (if bt152.2.1 > ((x149001 + 1) % 4294967296) then (some false) else ((lane_Judge.f k bt152.1 bt152.2.1 bt152.2.2 x2 x3).bind fun t156 => (if t156 = 3 then (lamellalaw08_LaneLives.l0 k x1 x2 x3 x4 (wrap64 (x12 + 1)) bt152.1 bt152.2.1 bt152.2.2) else (some false))))) else (some false))) else (none)) else (none)) else ((lamellalaw08_alive.f k).bind fun t150 => (some t150))
end
def lamellalaw08_LaneLives.f (k : Nat) (a0_0 : Int) (a0_1 : Int) (a0_2 : ByteArray) (a1 : Int) (a2 : Int) (a3 : Int) (l4 : List Int) : Option (Bool) := (lamellalaw08_alive.f k).bind fun t143 => (if t143 = true then (if a1 ≤ a0_0 then (lamellalaw08_LaneLives.j0 k a1 a2 a3 l4 true a0_0 a0_1 a0_2) else (lamellalaw08_LaneLives.j0 k a1 a2 a3 l4 (decide (a2 ≥ a1)) a0_0 a0_1 a0_2)) else (some false))
theorem lamellalaw08_LaneLives.mono_l : ∀ k, (∀ y0 y1 y2 y3 y4 y5 y6 y7, LeO (lamellalaw08_LaneLives.j0 k y0 y1 y2 y3 y4 y5 y6 y7) (lamellalaw08_LaneLives.j0 (k + 1) y0 y1 y2 y3 y4 y5 y6 y7)) ∧ (∀ y0 y1 y2 y3 y4 y5 y6 y7, LeO (lamellalaw08_LaneLives.j1 k y0 y1 y2 y3 y4 y5 y6 y7) (lamellalaw08_LaneLives.j1 (k + 1) y0 y1 y2 y3 y4 y5 y6 y7)) ∧ (∀ y0 y1 y2 y3 y4 y5 y6 y7, LeO (lamellalaw08_LaneLives.l0 k y0 y1 y2 y3 y4 y5 y6 y7) (lamellalaw08_LaneLives.l0 (k + 1) y0 y1 y2 y3 y4 y5 y6 y7)) ∧ (∀ y0 y1 y2 y3 y4 y5 y6 y7 y8, LeO (lamellalaw08_LaneLives.j3 k y0 y1 y2 y3 y4 y5 y6 y7 y8) (lamellalaw08_LaneLives.j3 (k + 1) y0 y1 y2 y3 y4 y5 y6 y7 y8))
  | 0 => ⟨fun _ _ _ _ _ _ _ _ r h => by simp [lamellalaw08_LaneLives.j0] at h, fun _ _ _ _ _ _ _ _ r h => by simp [lamellalaw08_LaneLives.j1] at h, fun _ _ _ _ _ _ _ _ r h => by simp [lamellalaw08_LaneLives.l0] at h, fun _ _ _ _ _ _ _ _ _ r h => by simp [lamellalaw08_LaneLives.j3] at h⟩
  | k + 1 => by
    obtain ⟨ih0, ih1, ih2, ih3⟩ := lamellalaw08_LaneLives.mono_l k
    refine ⟨?_, ?_, ?_, ?_⟩
    · intro y0 y1 y2 y3 y4 y5 y6 y7
      unfold lamellalaw08_LaneLives.j0
      repeat' first
      | (with_reducible exact ih0 _ _ _ _ _ _ _ _)
      | (with_reducible exact ih1 _ _ _ _ _ _ _ _)
      | (with_reducible exact ih2 _ _ _ _ _ _ _ _)
      | (with_reducible exact ih3 _ _ _ _ _ _ _ _ _)
      | (with_reducible exact lamellalaw08_alive.mono _)
      | (with_reducible exact lane_Done.mono _ _ _ _ _ _ _)
      | (with_reducible exact lane_Judge.mono _ _ _ _ _ _)
      | (with_reducible exact LeO.refl _)
      | (with_reducible exact LeO.none _)
      | (with_reducible refine LeO.ite ?_ ?_)
      | (with_reducible refine LeO.bind ?_ (fun _ => ?_))
      | exact ih0 _ _ _ _ _ _ _ _
      | exact ih1 _ _ _ _ _ _ _ _
      | exact ih2 _ _ _ _ _ _ _ _
      | exact ih3 _ _ _ _ _ _ _ _ _
      | exact lamellalaw08_alive.mono _
      | exact lane_Done.mono _ _ _ _ _ _ _
      | exact lane_Judge.mono _ _ _ _ _ _
      | exact LeO.none _
      | refine LeO.ite ?_ ?_
      | refine LeO.bind ?_ (fun _ => ?_)
    · intro y0 y1 y2 y3 y4 y5 y6 y7
      unfold lamellalaw08_LaneLives.j1
      repeat' first
      | (with_reducible exact ih0 _ _ _ _ _ _ _ _)
      | (with_reducible exact ih1 _ _ _ _ _ _ _ _)
      | (with_reducible exact ih2 _ _ _ _ _ _ _ _)
      | (with_reducible exact ih3 _ _ _ _ _ _ _ _ _)
      | (with_reducible exact lamellalaw08_alive.mono _)
      | (with_reducible exact lane_Done.mono _ _ _ _ _ _ _)
      | (with_reducible exact lane_Judge.mono _ _ _ _ _ _)
      | (with_reducible exact LeO.refl _)
      | (with_reducible exact LeO.none _)
      | (with_reducible refine LeO.ite ?_ ?_)
      | (with_reducible refine LeO.bind ?_ (fun _ => ?_))
      | exact ih0 _ _ _ _ _ _ _ _
      | exact ih1 _ _ _ _ _ _ _ _
      | exact ih2 _ _ _ _ _ _ _ _
      | exact ih3 _ _ _ _ _ _ _ _ _
      | exact lamellalaw08_alive.mono _
      | exact lane_Done.mono _ _ _ _ _ _ _
      | exact lane_Judge.mono _ _ _ _ _ _
      | exact LeO.none _
      | refine LeO.ite ?_ ?_
      | refine LeO.bind ?_ (fun _ => ?_)
    · intro y0 y1 y2 y3 y4 y5 y6 y7
      unfold lamellalaw08_LaneLives.l0
      repeat' first
      | (with_reducible exact ih0 _ _ _ _ _ _ _ _)
      | (with_reducible exact ih1 _ _ _ _ _ _ _ _)
      | (with_reducible exact ih2 _ _ _ _ _ _ _ _)
      | (with_reducible exact ih3 _ _ _ _ _ _ _ _ _)
      | (with_reducible exact lamellalaw08_alive.mono _)
      | (with_reducible exact lane_Done.mono _ _ _ _ _ _ _)
      | (with_reducible exact lane_Judge.mono _ _ _ _ _ _)
      | (with_reducible exact LeO.refl _)
      | (with_reducible exact LeO.none _)
      | (with_reducible refine LeO.ite ?_ ?_)
      | (with_reducible refine LeO.bind ?_ (fun _ => ?_))
      | exact ih0 _ _ _ _ _ _ _ _
      | exact ih1 _ _ _ _ _ _ _ _
      | exact ih2 _ _ _ _ _ _ _ _
      | exact ih3 _ _ _ _ _ _ _ _ _
      | exact lamellalaw08_alive.mono _
      | exact lane_Done.mono _ _ _ _ _ _ _
      | exact lane_Judge.mono _ _ _ _ _ _
      | exact LeO.none _
      | refine LeO.ite ?_ ?_
      | refine LeO.bind ?_ (fun _ => ?_)
    · intro y0 y1 y2 y3 y4 y5 y6 y7 y8
      unfold lamellalaw08_LaneLives.j3
      repeat' first
      | (with_reducible exact ih0 _ _ _ _ _ _ _ _)
      | (with_reducible exact ih1 _ _ _ _ _ _ _ _)
      | (with_reducible exact ih2 _ _ _ _ _ _ _ _)
      | (with_reducible exact ih3 _ _ _ _ _ _ _ _ _)
      | (with_reducible exact lamellalaw08_alive.mono _)
      | (with_reducible exact lane_Done.mono _ _ _ _ _ _ _)
      | (with_reducible exact lane_Judge.mono _ _ _ _ _ _)
      | (with_reducible exact LeO.refl _)
      | (with_reducible exact LeO.none _)
      | (with_reducible refine LeO.ite ?_ ?_)
      | (with_reducible refine LeO.bind ?_ (fun _ => ?_))
      | exact ih0 _ _ _ _ _ _ _ _
      | exact ih1 _ _ _ _ _ _ _ _
      | exact ih2 _ _ _ _ _ _ _ _
      | exact ih3 _ _ _ _ _ _ _ _ _
      | exact lamellalaw08_alive.mono _
      | exact lane_Done.mono _ _ _ _ _ _ _
      | exact lane_Judge.mono _ _ _ _ _ _
      | exact LeO.none _
      | refine LeO.ite ?_ ?_
      | refine LeO.bind ?_ (fun _ => ?_)
theorem lamellalaw08_LaneLives.mono : ∀ a0 a1 a2 a3 a4 a5 a6 k, LeO (lamellalaw08_LaneLives.f k a0 a1 a2 a3 a4 a5 a6) (lamellalaw08_LaneLives.f (k + 1) a0 a1 a2 a3 a4 a5 a6) := by
  intro a0 a1 a2 a3 a4 a5 a6 k
  obtain ⟨ih0, ih1, ih2, ih3⟩ := lamellalaw08_LaneLives.mono_l k
  unfold lamellalaw08_LaneLives.f
  repeat' first
      | (with_reducible exact ih0 _ _ _ _ _ _ _ _)
      | (with_reducible exact ih1 _ _ _ _ _ _ _ _)
      | (with_reducible exact ih2 _ _ _ _ _ _ _ _)
      | (with_reducible exact ih3 _ _ _ _ _ _ _ _ _)
      | (with_reducible exact lamellalaw08_alive.mono _)
      | (with_reducible exact lane_Done.mono _ _ _ _ _ _ _)
      | (with_reducible exact lane_Judge.mono _ _ _ _ _ _)
      | (with_reducible exact LeO.refl _)
      | (with_reducible exact LeO.none _)
      | (with_reducible refine LeO.ite ?_ ?_)
      | (with_reducible refine LeO.bind ?_ (fun _ => ?_))
      | exact ih0 _ _ _ _ _ _ _ _
      | exact ih1 _ _ _ _ _ _ _ _
      | exact ih2 _ _ _ _ _ _ _ _
      | exact ih3 _ _ _ _ _ _ _ _ _
      | exact lamellalaw08_alive.mono _
      | exact lane_Done.mono _ _ _ _ _ _ _
      | exact lane_Judge.mono _ _ _ _ _ _
      | exact LeO.none _
      | refine LeO.ite ?_ ?_
      | refine LeO.bind ?_ (fun _ => ?_)
def lamellalaw08_LaneLives.T11 : Bool × List (List Nat × List Nat) := (true, [([], []), ([], []), ([], []), ([], []), ([2, 3], [2, 3]), ([4], [4]), ([0, 1, 5], [0, 1, 5]), ([], []), ([7, 6, 6, 0, 1, 2, 3, 4, 5, 6, 7], [6, 7])])
def lamellalaw08_LaneLives.B11 : List Nat := [0, 0, 0, 0, 12, 28, 63, 0, 255]
theorem lamellalaw08_LaneLives.tab11 : rtab .any (opsOf Try.f7 11) = lamellalaw08_LaneLives.T11 := by kernel_rfl
theorem lamellalaw08_LaneLives.bits11 : waitsOk lamellalaw08_LaneLives.T11.2 lamellalaw08_LaneLives.B11 = true := by kernel_rfl
set_option maxHeartbeats 8000000 in
set_option maxRecDepth 100000 in
theorem lamellalaw08_LaneLives.calls (k : Nat) (a0_0 : Int) (a0_1 : Int) (a0_2 : ByteArray) (a1 : Int) (a2 : Int) (a3 : Int) (A4 : Option Addr) (c4 : Nat) (l4 : List Int) (r : Bool) (w : World) (hr4 : Kd.C (Kd.int .u32) w A4 l4.length l4) (hc4 : l4.length ≤ c4) (h : lamellalaw08_LaneLives.f k a0_0 a0_1 a0_2 a1 a2 a3 l4 = some r) :
    Calls Try.prog 7 #[.agg #[.int .u32 a0_0, .int .u32 a0_1, .string a0_2], .int .u32 a1, .int .u32 a2, .int .u32 a3, .slice A4 l4.length c4] w fun e w' => e = .returned (.bool r) ∧ Below w.heap.size w w' := by
  have hu24 := Try.underlying24
  have HR4 := Aside0.mk hr4
  have HC4 := Aside0.mk hc4
  clear hr4 hc4
  have HB := Aside0.mk (Below.refl w.heap.size w)
  have H : ((lamellalaw08_alive.f k).bind fun t143 => (if t143 = true then (if a1 ≤ a0_0 then (lamellalaw08_LaneLives.j0 k a1 a2 a3 l4 true a0_0 a0_1 a0_2) else (lamellalaw08_LaneLives.j0 k a1 a2 a3 l4 (decide (a2 ≥ a1)) a0_0 a0_1 a0_2)) else (some false))) = some r := h
  clear h
  replace H := Option.bind_eq_some_iff.mp H
  obtain ⟨t143, A60, H⟩ := H
  replace H : (if t143 = true then (if a1 ≤ a0_0 then (lamellalaw08_LaneLives.j0 k a1 a2 a3 l4 true a0_0 a0_1 a0_2) else (lamellalaw08_LaneLives.j0 k a1 a2 a3 l4 (decide (a2 ≥ a1)) a0_0 a0_1 a0_2)) else (some false)) = some r := H
  have A6 := Aside0.mk A60
  clear A60
  by_cases c7 : t143 = true
  · subst c7
    have H1 : (if a1 ≤ a0_0 then (lamellalaw08_LaneLives.j0 k a1 a2 a3 l4 true a0_0 a0_1 a0_2) else (lamellalaw08_LaneLives.j0 k a1 a2 a3 l4 (decide (a2 ≥ a1)) a0_0 a0_1 a0_2)) = some r := by rw [if_pos rfl] at H; exact H
    clear H
    have H := H1
    clear H1
    have HC8 := Aside0.mk H
    clear H
    go_enter Try.func7, Try.ntmps7
    go_upto_region 3 with (first | ((with_reducible refine gate_dst (N := 5) rfl ?_); refine box_event ?hg (N := 5) ?hd (cs := #[.int .u32 a0_0, .int .u32 a0_1, .string a0_2]) (t := 24) ?hr ?_; (case hd => rfl); (case hg => rfl); (case hr => first | (go_simp; done) | (go_simp; rfl)); intro gb142 hg w9 hbox hb; have n0_ := Aside0.mk (below_step (by repeat (first | (with_reducible first | exact HB.out | apply below_alloc | apply pw_below_drewN | apply below_drew1) | exact HB.out)) hb); have n1_ := Aside0.mk (hbox); have n2_ := Aside0.mk ((by rw [hg]; exact (below_size (by repeat (first | (with_reducible first | exact HB.out | apply below_alloc | apply pw_below_drewN | apply below_drew1) | exact HB.out))) : w.heap.size ≤ gb142)); have n3_ := Aside0.mk ((by rw [hg]; exact (below_size (by repeat (first | (with_reducible first | exact HB.out | apply below_alloc | apply pw_below_drewN | apply below_drew1) | exact HB.out))) : w.heap.size ≤ gb142)); clear HB; have HB := n0_; have BK142 := n1_; have GW142 := n2_; have GE142 := n3_; clear n0_ n1_ n2_ n3_; clear hb hbox hg) | ((with_reducible refine gate_callee (f := 8) rfl ?_); refine goesL_ (some 14) rfl rfl Try.func8 (by kernel_rfl) rfl #[] rfl (by (try simp only [List.map_toArray, List.map_cons, List.map_nil]); first | done | rfl | (simp only [List.length_drop, List.length_take]; rfl)) ?_; (with_reducible refine (lamellalaw08_alive.calls k  true _ A6.out).mono ?_); rintro e w10 ⟨rfl, hb⟩; refine ⟨_, rfl, ?_⟩; have n0_ := Aside0.mk (blk_below (g := gb142) (o := .cells #[.int .u32 a0_0, .int .u32 a0_1, .string a0_2] 24 (0, 0)) (by (with_reducible repeat (first | refine blk_drewN ?_ _ | refine blk_drew ?_ | refine blk_alloc ?_ _)); exact BK142.out) hb); have n1_ := Aside0.mk (below_step (by repeat (first | (with_reducible first | exact HB.out | apply below_alloc | apply pw_below_drewN | apply below_drew1 | refine below_set ?_ GE142.out) | exact HB.out)) hb); clear BK142; clear HB; have BK142 := n0_; have HB := n1_; clear n0_ n1_; (try clear hb); (try clear hb2); (try clear hk); (try clear hi)))
    (try simp only [Act.put, List.setIfInBounds_toArray, List.set_cons_zero, List.set_cons_succ])
    go_cut [24] (fun v24 wc => ∃ (kq : Nat) (x24_7 : Bool), v24 = .bool x24_7 ∧ Aside0 (lamellalaw08_LaneLives.j0 kq a1 a2 a3 l4 x24_7 a0_0 a0_1 a0_2 = some r) ∧ Aside0 (kq ≤ k) ∧ Aside0 (wc.heap[gb142]? = some (.cells #[.int .u32 a0_0, .int .u32 a0_1, .string a0_2] 24 (0, 0))) ∧ Aside0 (Below w.heap.size w wc))
    case first =>
      have H := HC8.out
      clear HC8
      by_cases c11 : a1 ≤ a0_0
      · rw [if_pos c11] at H
        have c11b0 : decide (a1 ≤ a0_0) = true := decide_eq_true c11
        clear c11
        (first | rw [c11b0] | (simp only [i64_w, i32_w]; rw [c11b0]) | skip)
        have H' := Aside0.mk H
        clear H
        have hcz12_0 : w10.cell? ⟨gb142, 0, none⟩ = some (.int .u32 a0_0) := (blk_cell BK142.out 0).trans rfl
        have hcz12_1 : w10.cell? ⟨gb142, 1, none⟩ = some (.int .u32 a0_1) := (blk_cell BK142.out 1).trans rfl
        have hcz12_2 : w10.cell? ⟨gb142, 2, none⟩ = some (.string a0_2) := (blk_cell BK142.out 2).trans rfl
        have hfz12_0 := blk_frozen BK142.out 0
        have hfz12_1 := blk_frozen BK142.out 1
        have hfz12_2 := blk_frozen BK142.out 2
        go_wp2
        go_meet
        case rel => exact ⟨_, (true), (by first | rfl | (simp; done) | (simp [*]; done)), H', ⟨by first | omega | exact Nat.le_refl _⟩, ⟨by (with_reducible repeat (first | refine blk_drewN ?_ _ | refine blk_drew ?_ | refine blk_alloc ?_ _)); exact BK142.out⟩, ⟨by repeat (first | (with_reducible first | exact HB.out | apply below_alloc | apply pw_below_drewN | apply below_drew1 | refine below_set ?_ GE142.out) | exact HB.out)⟩⟩
      · rw [if_neg c11] at H
        have c11b0 : decide (a1 ≤ a0_0) = false := decide_eq_false c11
        clear c11
        (first | rw [c11b0] | (simp only [i64_w, i32_w]; rw [c11b0]) | skip)
        have H' := Aside0.mk H
        clear H
        have hcz13_0 : w10.cell? ⟨gb142, 0, none⟩ = some (.int .u32 a0_0) := (blk_cell BK142.out 0).trans rfl
        have hcz13_1 : w10.cell? ⟨gb142, 1, none⟩ = some (.int .u32 a0_1) := (blk_cell BK142.out 1).trans rfl
        have hcz13_2 : w10.cell? ⟨gb142, 2, none⟩ = some (.string a0_2) := (blk_cell BK142.out 2).trans rfl
        have hfz13_0 := blk_frozen BK142.out 0
        have hfz13_1 := blk_frozen BK142.out 1
        have hfz13_2 := blk_frozen BK142.out 2
        go_wp2
        go_meet
        case rel => exact ⟨_, (decide (a2 ≥ a1)), (by first | rfl | (simp; done) | (simp [*]; done)), H', ⟨by first | omega | exact Nat.le_refl _⟩, ⟨by (with_reducible repeat (first | refine blk_drewN ?_ _ | refine blk_drew ?_ | refine blk_alloc ?_ _)); exact BK142.out⟩, ⟨by repeat (first | (with_reducible first | exact HB.out | apply below_alloc | apply pw_below_drewN | apply below_drew1 | refine below_set ?_ GE142.out) | exact HB.out)⟩⟩
    case rest =>
      clear HC8
      try clear c1
      try clear p2
      try clear c4
      try clear c7
      try clear c8
      try clear c11
      try clear c11b0
      try clear hcz12_0
      try clear hcz12_1
      try clear hcz12_2
      try clear hcz13_0
      try clear hcz13_1
      try clear hcz13_2
      try clear hfz12_0
      try clear hfz12_1
      try clear hfz12_2
      try clear hfz13_0
      try clear hfz13_1
      try clear hfz13_2
      obtain ⟨kq, x24_7, rfl, HA, HJ7, BK142, HB⟩ := hcut
      cases kq with
      | zero => exact absurd HA.out (by simp [lamellalaw08_LaneLives.j0])
      | succ kj7 =>
        have H := HA.out
        clear HA
        simp only [lamellalaw08_LaneLives.j0] at H
        by_cases c14 : x24_7 = true
        · subst c14
          have H1 : ((lamellalaw08_alive.f kj7).bind fun t144 => (some t144)) = some r := by rw [if_pos rfl] at H; exact H
          clear H
          have H := H1
          clear H1
          replace H := Option.bind_eq_some_iff.mp H
          obtain ⟨t144, A150, H⟩ := H
          replace H : (some t144) = some r := H
          have A15 := Aside0.mk A150
          clear A150
          obtain rfl := Option.some.inj H
          go_wp2_with (first | ((with_reducible refine gate_callee (f := 8) rfl ?_); refine goesL_ (some 25) rfl rfl Try.func8 (by kernel_rfl) rfl #[] rfl (by (try simp only [List.map_toArray, List.map_cons, List.map_nil]); first | done | rfl | (simp only [List.length_drop, List.length_take]; rfl)) ?_; (with_reducible refine (lamellalaw08_alive.calls kj7  t144 _ A15.out).mono ?_); rintro e w16 ⟨rfl, hb⟩; refine ⟨_, rfl, ?_⟩; have n0_ := Aside0.mk (blk_below (g := gb142) (o := .cells #[.int .u32 a0_0, .int .u32 a0_1, .string a0_2] 24 (0, 0)) (by (with_reducible repeat (first | refine blk_drewN ?_ _ | refine blk_drew ?_ | refine blk_alloc ?_ _)); exact BK142.out) hb); have n1_ := Aside0.mk (below_step (by repeat (first | (with_reducible first | exact HB.out | apply below_alloc | apply pw_below_drewN | apply below_drew1 | refine below_set ?_ GE142.out) | exact HB.out)) hb); clear BK142; clear HB; have BK142 := n0_; have HB := n1_; clear n0_ n1_; (try clear hb); (try clear hb2); (try clear hk); (try clear hi)))
          go_ret
          exact ⟨by first | rfl | (simp [errW_none, errW_some] <;> rfl) | (simp [*, errW_none, errW_some] <;> rfl), by repeat (first | (with_reducible first | exact HB.out | apply below_alloc | apply pw_below_drewN | apply below_drew1 | refine below_set ?_ GE142.out) | exact HB.out)⟩
        · replace c14 := Bool.eq_false_iff.mpr c14
          subst c14
          have H1 : ((lane_Done.f kj7 a0_0 a0_1 a0_2 a1 1 (⟨#[102, 105, 114, 115, 116]⟩ : ByteArray)).bind fun bt145 => (if bt145.1 = a1 then (if bt145.2.1 = 1 then (if bt145.2.2.toList = ([102, 105, 114, 115, 116] : List UInt8) then ((lane_Judge.f kj7 bt145.1 bt145.2.1 bt145.2.2 a2 a3).bind fun t149 => (lamellalaw08_LaneLives.j1 kj7 a1 a2 a3 l4 (t149 != 3) bt145.1 bt145.2.1 bt145.2.2)) else (lamellalaw08_LaneLives.j1 kj7 a1 a2 a3 l4 true bt145.1 bt145.2.1 bt145.2.2)) else (lamellalaw08_LaneLives.j1 kj7 a1 a2 a3 l4 true bt145.1 bt145.2.1 bt145.2.2)) else (lamellalaw08_LaneLives.j1 kj7 a1 a2 a3 l4 true bt145.1 bt145.2.1 bt145.2.2))) = some r := by rw [if_neg (show ¬ (false = true) by decide)] at H; exact H
          clear H
          have H := H1
          clear H1
          replace H := Option.bind_eq_some_iff.mp H
          obtain ⟨⟨t145, t146, t147⟩, A170, H⟩ := H
          replace H : (if t145 = a1 then (if t146 = 1 then (if t147.toList = ([102, 105, 114, 115, 116] : List UInt8) then ((lane_Judge.f kj7 t145 t146 t147 a2 a3).bind fun t149 => (lamellalaw08_LaneLives.j1 kj7 a1 a2 a3 l4 (t149 != 3) t145 t146 t147)) else (lamellalaw08_LaneLives.j1 kj7 a1 a2 a3 l4 true t145 t146 t147)) else (lamellalaw08_LaneLives.j1 kj7 a1 a2 a3 l4 true t145 t146 t147)) else (lamellalaw08_LaneLives.j1 kj7 a1 a2 a3 l4 true t145 t146 t147)) = some r := H
          have A17 := Aside0.mk A170
          clear A170
          have HC18 := Aside0.mk H
          clear H
          have hcz19_0 : wc.cell? ⟨gb142, 0, none⟩ = some (.int .u32 a0_0) := (blk_cell BK142.out 0).trans rfl
          have hcz19_1 : wc.cell? ⟨gb142, 1, none⟩ = some (.int .u32 a0_1) := (blk_cell BK142.out 1).trans rfl
          have hcz19_2 : wc.cell? ⟨gb142, 2, none⟩ = some (.string a0_2) := (blk_cell BK142.out 2).trans rfl
          have hfz19_0 := blk_frozen BK142.out 0
          have hfz19_1 := blk_frozen BK142.out 1
          have hfz19_2 := blk_frozen BK142.out 2
          go_upto_region 6 with (first | ((with_reducible refine gate_callee (f := 11) rfl ?_); refine goesL_ (some 28) rfl rfl Try.func11 (by kernel_rfl) rfl #[.agg #[.int .u32 a0_0, .int .u32 a0_1, .string a0_2], .int .u32 a1, .int .u32 1, .string (⟨#[102, 105, 114, 115, 116]⟩ : ByteArray)] rfl (by (try simp only [List.map_toArray, List.map_cons, List.map_nil]); first | done | rfl | (simp only [List.length_drop, List.length_take]; rfl)) ?_; (with_reducible refine (lane_Done.calls kj7 a0_0 a0_1 a0_2 a1 1 (⟨#[102, 105, 114, 115, 116]⟩ : ByteArray) t145 t146 t147 _ A17.out).mono ?_); rintro e w20 ⟨rfl, hb⟩; refine ⟨_, rfl, ?_⟩; have n0_ := Aside0.mk (blk_below (g := gb142) (o := .cells #[.int .u32 a0_0, .int .u32 a0_1, .string a0_2] 24 (0, 0)) (by (with_reducible repeat (first | refine blk_drewN ?_ _ | refine blk_drew ?_ | refine blk_alloc ?_ _)); exact BK142.out) hb); have n1_ := Aside0.mk (below_step (by repeat (first | (with_reducible first | exact HB.out | apply below_alloc | apply pw_below_drewN | apply below_drew1 | refine below_set ?_ GE142.out) | exact HB.out)) hb); clear BK142; clear HB; have BK142 := n0_; have HB := n1_; clear n0_ n1_; (try clear hb); (try clear hb2); (try clear hk); (try clear hi)) | ((with_reducible refine gate_dst (N := 11) rfl ?_); refine box_event ?hg (N := 11) ?hd (cs := #[.int .u32 0, .int .u32 0, .string (⟨#[]⟩ : ByteArray)]) (t := 24) ?hr ?_; (case hd => rfl); (case hg => rfl); (case hr => first | (go_simp; done) | (go_simp; rfl)); intro gb148 hg w21 hbox hb; have n0_ := Aside0.mk (blk_below (g := gb142) (o := .cells #[.int .u32 a0_0, .int .u32 a0_1, .string a0_2] 24 (0, 0)) (by (with_reducible repeat (first | refine blk_drewN ?_ _ | refine blk_drew ?_ | refine blk_alloc ?_ _)); exact BK142.out) hb); have n1_ := Aside0.mk (below_step (by repeat (first | (with_reducible first | exact HB.out | apply below_alloc | apply pw_below_drewN | apply below_drew1 | refine below_set ?_ GE142.out) | exact HB.out)) hb); have n2_ := Aside0.mk (hbox); have n3_ := Aside0.mk ((by rw [hg]; exact (below_size (by repeat (first | (with_reducible first | exact HB.out | apply below_alloc | apply pw_below_drewN | apply below_drew1 | refine below_set ?_ GE142.out) | exact HB.out))) : w.heap.size ≤ gb148)); have n4_ := Aside0.mk ((by rw [hg]; exact (below_size (by repeat (first | (with_reducible first | exact HB.out | apply below_alloc | apply pw_below_drewN | apply below_drew1 | refine below_set ?_ GE142.out) | exact HB.out))) : w.heap.size ≤ gb148)); have n5_ := Aside0.mk ((by rw [hg]; exact Nat.ne_of_lt (blk_lt (g := gb142) (o := .cells #[.int .u32 a0_0, .int .u32 a0_1, .string a0_2] 24 (0, 0)) (by (with_reducible repeat (first | refine blk_drewN ?_ _ | refine blk_drew ?_ | refine blk_alloc ?_ _)); exact BK142.out)) : gb142 ≠ gb148)); have n6_ := Aside0.mk ((by rw [hg]; exact Nat.ne_of_gt (blk_lt (g := gb142) (o := .cells #[.int .u32 a0_0, .int .u32 a0_1, .string a0_2] 24 (0, 0)) (by (with_reducible repeat (first | refine blk_drewN ?_ _ | refine blk_drew ?_ | refine blk_alloc ?_ _)); exact BK142.out)) : gb148 ≠ gb142)); clear BK142; clear HB; have BK142 := n0_; have HB := n1_; have BK148 := n2_; have GW148 := n3_; have GE148 := n4_; have NB142_148 := n5_; have NB148_142 := n6_; clear n0_ n1_ n2_ n3_ n4_ n5_ n6_; clear hb hbox hg; have hnb22 := NB148_142.out; have hnc22 := NB142_148.out; have hcz23_0 : w21.cell? ⟨gb148, 0, none⟩ = some (.int .u32 0) := (blk_cell BK148.out 0).trans rfl; have hcz23_1 : w21.cell? ⟨gb148, 1, none⟩ = some (.int .u32 0) := (blk_cell BK148.out 1).trans rfl; have hcz23_2 : w21.cell? ⟨gb148, 2, none⟩ = some (.string (⟨#[]⟩ : ByteArray)) := (blk_cell BK148.out 2).trans rfl; have hfz23_0 := blk_frozen BK148.out 0; have hfz23_1 := blk_frozen BK148.out 1; have hfz23_2 := blk_frozen BK148.out 2))
          (try simp only [Act.put, List.setIfInBounds_toArray, List.set_cons_zero, List.set_cons_succ])
          go_cut [49] (fun v49 wc => ∃ (kq : Nat) (x49_17 : Bool), v49 = .bool x49_17 ∧ Aside0 (lamellalaw08_LaneLives.j1 kq a1 a2 a3 l4 x49_17 t145 t146 t147 = some r) ∧ Aside0 (kq ≤ kj7) ∧ Aside0 (wc.heap[gb142]? = some (.cells #[.int .u32 a0_0, .int .u32 a0_1, .string a0_2] 24 (0, 0))) ∧ Aside0 (wc.heap[gb148]? = some (.cells #[.int .u32 t145, .int .u32 t146, .string t147] 24 (0, 0))) ∧ Aside0 (Below w.heap.size w wc))
          case first =>
            have H := HC18.out
            clear HC18
            by_cases c24 : t145 = a1
            · rw [if_pos c24] at H
              have c24b0 : (t145 == a1) = true := beq_iff_eq.mpr c24
              have c24b1 : (t145 != a1) = false := bne_eq_false_iff_eq.mpr c24
              clear c24
              (first | rw [c24b0] | (simp only [i64_w, i32_w]; rw [c24b0]) | skip)
              by_cases c25 : t146 = 1
              · rw [if_pos c25] at H
                have c25b0 : (t146 == 1) = true := beq_iff_eq.mpr c25
                have c25b1 : (t146 != 1) = false := bne_eq_false_iff_eq.mpr c25
                clear c25
                by_cases c26 : t147.toList = ([102, 105, 114, 115, 116] : List UInt8)
                · rw [if_pos c26] at H
                  have c26b0 : (t147.toList == ([102, 105, 114, 115, 116] : List UInt8)) = true := beq_iff_eq.mpr c26
                  have c26b1 : (t147.toList != ([102, 105, 114, 115, 116] : List UInt8)) = false := bne_eq_false_iff_eq.mpr c26
                  clear c26
                  replace H := Option.bind_eq_some_iff.mp H
                  obtain ⟨t149, A270, H⟩ := H
                  replace H : (lamellalaw08_LaneLives.j1 kj7 a1 a2 a3 l4 (t149 != 3) t145 t146 t147) = some r := H
                  have A27 := Aside0.mk A270
                  clear A270
                  have H' := Aside0.mk H
                  clear H
                  have hnb28 := NB148_142.out
                  have hnc28 := NB142_148.out
                  have hcz29_0 : w21.cell? ⟨gb148, 0, none⟩ = some (.int .u32 0) := (blk_cell BK148.out 0).trans rfl
                  have hcz29_1 : w21.cell? ⟨gb148, 1, none⟩ = some (.int .u32 0) := (blk_cell BK148.out 1).trans rfl
                  have hcz29_2 : w21.cell? ⟨gb148, 2, none⟩ = some (.string (⟨#[]⟩ : ByteArray)) := (blk_cell BK148.out 2).trans rfl
                  have hfz29_0 := blk_frozen BK148.out 0
                  have hfz29_1 := blk_frozen BK148.out 1
                  have hfz29_2 := blk_frozen BK148.out 2
                  go_wp2_with (first | (go_at_call 9; (with_reducible refine (lane_Judge.calls kj7 t145 t146 t147 a2 a3 t149 _ A27.out).mono ?_); rintro e w30 ⟨rfl, hb⟩; have n0_ := Aside0.mk (blk_below (g := gb142) (o := .cells #[.int .u32 a0_0, .int .u32 a0_1, .string a0_2] 24 (0, 0)) (by (with_reducible repeat (first | refine blk_drewN ?_ _ | refine blk_drew ?_ | refine blk_alloc ?_ _)); refine blk_far ?_ NB142_148.out _; (with_reducible repeat (first | refine blk_drewN ?_ _ | refine blk_drew ?_ | refine blk_alloc ?_ _)); refine blk_far ?_ NB142_148.out _; (with_reducible repeat (first | refine blk_drewN ?_ _ | refine blk_drew ?_ | refine blk_alloc ?_ _)); refine blk_far ?_ NB142_148.out _; (with_reducible repeat (first | refine blk_drewN ?_ _ | refine blk_drew ?_ | refine blk_alloc ?_ _)); exact BK142.out) hb); have n1_ := Aside0.mk (blk_below (g := gb148) (o := .cells #[.int .u32 t145, .int .u32 t146, .string t147] 24 (0, 0)) (by (with_reducible repeat (first | refine blk_drewN ?_ _ | refine blk_drew ?_ | refine blk_alloc ?_ _)); refine blk_put (cs := #[.int .u32 t145, .int .u32 t146, .string (⟨#[]⟩ : ByteArray)]) ?_ 2 _ rfl; (with_reducible repeat (first | refine blk_drewN ?_ _ | refine blk_drew ?_ | refine blk_alloc ?_ _)); refine blk_put (cs := #[.int .u32 t145, .int .u32 0, .string (⟨#[]⟩ : ByteArray)]) ?_ 1 _ rfl; (with_reducible repeat (first | refine blk_drewN ?_ _ | refine blk_drew ?_ | refine blk_alloc ?_ _)); refine blk_put (cs := #[.int .u32 0, .int .u32 0, .string (⟨#[]⟩ : ByteArray)]) ?_ 0 _ rfl; (with_reducible repeat (first | refine blk_drewN ?_ _ | refine blk_drew ?_ | refine blk_alloc ?_ _)); exact BK148.out) hb); have n2_ := Aside0.mk (below_step (by repeat (first | (with_reducible first | exact HB.out | apply below_alloc | apply pw_below_drewN | apply below_drew1 | refine below_set ?_ GE142.out | refine below_set ?_ GE148.out) | exact HB.out)) hb); clear BK142; clear BK148; clear HB; have BK142 := n0_; have BK148 := n1_; have HB := n2_; clear n0_ n1_ n2_; (try clear hb); (try clear hb2); (try clear hk); (try clear hi)))
                  go_meet
                  case rel => exact ⟨_, ((t149 != 3)), (by first | rfl | (simp; done) | (simp [*]; done)), H', ⟨by have := HJ7.out; first | omega | exact Nat.le_refl _⟩, ⟨by (with_reducible repeat (first | refine blk_drewN ?_ _ | refine blk_drew ?_ | refine blk_alloc ?_ _)); exact BK142.out⟩, ⟨by (with_reducible repeat (first | refine blk_drewN ?_ _ | refine blk_drew ?_ | refine blk_alloc ?_ _)); exact BK148.out⟩, ⟨by repeat (first | (with_reducible first | exact HB.out | apply below_alloc | apply pw_below_drewN | apply below_drew1 | refine below_set ?_ GE142.out | refine below_set ?_ GE148.out) | exact HB.out)⟩⟩
                · rw [if_neg c26] at H
                  have c26b0 : (t147.toList == ([102, 105, 114, 115, 116] : List UInt8)) = false := beq_eq_false_iff_ne.mpr c26
                  have c26b1 : (t147.toList != ([102, 105, 114, 115, 116] : List UInt8)) = true := bne_iff_ne.mpr c26
                  have H' := Aside0.mk H
                  clear H
                  have hnb31 := NB148_142.out
                  have hnc31 := NB142_148.out
                  have hcz32_0 : w21.cell? ⟨gb148, 0, none⟩ = some (.int .u32 0) := (blk_cell BK148.out 0).trans rfl
                  have hcz32_1 : w21.cell? ⟨gb148, 1, none⟩ = some (.int .u32 0) := (blk_cell BK148.out 1).trans rfl
                  have hcz32_2 : w21.cell? ⟨gb148, 2, none⟩ = some (.string (⟨#[]⟩ : ByteArray)) := (blk_cell BK148.out 2).trans rfl
                  have hfz32_0 := blk_frozen BK148.out 0
                  have hfz32_1 := blk_frozen BK148.out 1
                  have hfz32_2 := blk_frozen BK148.out 2
                  go_wp2
                  go_meet
                  case rel => exact ⟨_, (true), (by first | rfl | (simp; done) | (simp [*]; done)), H', ⟨by have := HJ7.out; first | omega | exact Nat.le_refl _⟩, ⟨by (with_reducible repeat (first | refine blk_drewN ?_ _ | refine blk_drew ?_ | refine blk_alloc ?_ _)); refine blk_far ?_ NB142_148.out _; (with_reducible repeat (first | refine blk_drewN ?_ _ | refine blk_drew ?_ | refine blk_alloc ?_ _)); refine blk_far ?_ NB142_148.out _; (with_reducible repeat (first | refine blk_drewN ?_ _ | refine blk_drew ?_ | refine blk_alloc ?_ _)); refine blk_far ?_ NB142_148.out _; (with_reducible repeat (first | refine blk_drewN ?_ _ | refine blk_drew ?_ | refine blk_alloc ?_ _)); exact BK142.out⟩, ⟨by (with_reducible repeat (first | refine blk_drewN ?_ _ | refine blk_drew ?_ | refine blk_alloc ?_ _)); refine blk_put (cs := #[.int .u32 t145, .int .u32 t146, .string (⟨#[]⟩ : ByteArray)]) ?_ 2 _ rfl; (with_reducible repeat (first | refine blk_drewN ?_ _ | refine blk_drew ?_ | refine blk_alloc ?_ _)); refine blk_put (cs := #[.int .u32 t145, .int .u32 0, .string (⟨#[]⟩ : ByteArray)]) ?_ 1 _ rfl; (with_reducible repeat (first | refine blk_drewN ?_ _ | refine blk_drew ?_ | refine blk_alloc ?_ _)); refine blk_put (cs := #[.int .u32 0, .int .u32 0, .string (⟨#[]⟩ : ByteArray)]) ?_ 0 _ rfl; (with_reducible repeat (first | refine blk_drewN ?_ _ | refine blk_drew ?_ | refine blk_alloc ?_ _)); exact BK148.out⟩, ⟨by repeat (first | (with_reducible first | exact HB.out | apply below_alloc | apply pw_below_drewN | apply below_drew1 | refine below_set ?_ GE142.out | refine below_set ?_ GE148.out) | exact HB.out)⟩⟩
              · rw [if_neg c25] at H
                have c25b0 : (t146 == 1) = false := beq_eq_false_iff_ne.mpr c25
                have c25b1 : (t146 != 1) = true := bne_iff_ne.mpr c25
                have H' := Aside0.mk H
                clear H
                have hnb33 := NB148_142.out
                have hnc33 := NB142_148.out
                have hcz34_0 : w21.cell? ⟨gb148, 0, none⟩ = some (.int .u32 0) := (blk_cell BK148.out 0).trans rfl
                have hcz34_1 : w21.cell? ⟨gb148, 1, none⟩ = some (.int .u32 0) := (blk_cell BK148.out 1).trans rfl
                have hcz34_2 : w21.cell? ⟨gb148, 2, none⟩ = some (.string (⟨#[]⟩ : ByteArray)) := (blk_cell BK148.out 2).trans rfl
                have hfz34_0 := blk_frozen BK148.out 0
                have hfz34_1 := blk_frozen BK148.out 1
                have hfz34_2 := blk_frozen BK148.out 2
                go_wp2
                go_meet
                case rel => exact ⟨_, (true), (by first | rfl | (simp; done) | (simp [*]; done)), H', ⟨by have := HJ7.out; first | omega | exact Nat.le_refl _⟩, ⟨by (with_reducible repeat (first | refine blk_drewN ?_ _ | refine blk_drew ?_ | refine blk_alloc ?_ _)); refine blk_far ?_ NB142_148.out _; (with_reducible repeat (first | refine blk_drewN ?_ _ | refine blk_drew ?_ | refine blk_alloc ?_ _)); refine blk_far ?_ NB142_148.out _; (with_reducible repeat (first | refine blk_drewN ?_ _ | refine blk_drew ?_ | refine blk_alloc ?_ _)); refine blk_far ?_ NB142_148.out _; (with_reducible repeat (first | refine blk_drewN ?_ _ | refine blk_drew ?_ | refine blk_alloc ?_ _)); exact BK142.out⟩, ⟨by (with_reducible repeat (first | refine blk_drewN ?_ _ | refine blk_drew ?_ | refine blk_alloc ?_ _)); refine blk_put (cs := #[.int .u32 t145, .int .u32 t146, .string (⟨#[]⟩ : ByteArray)]) ?_ 2 _ rfl; (with_reducible repeat (first | refine blk_drewN ?_ _ | refine blk_drew ?_ | refine blk_alloc ?_ _)); refine blk_put (cs := #[.int .u32 t145, .int .u32 0, .string (⟨#[]⟩ : ByteArray)]) ?_ 1 _ rfl; (with_reducible repeat (first | refine blk_drewN ?_ _ | refine blk_drew ?_ | refine blk_alloc ?_ _)); refine blk_put (cs := #[.int .u32 0, .int .u32 0, .string (⟨#[]⟩ : ByteArray)]) ?_ 0 _ rfl; (with_reducible repeat (first | refine blk_drewN ?_ _ | refine blk_drew ?_ | refine blk_alloc ?_ _)); exact BK148.out⟩, ⟨by repeat (first | (with_reducible first | exact HB.out | apply below_alloc | apply pw_below_drewN | apply below_drew1 | refine below_set ?_ GE142.out | refine below_set ?_ GE148.out) | exact HB.out)⟩⟩
            · rw [if_neg c24] at H
              have c24b0 : (t145 == a1) = false := beq_eq_false_iff_ne.mpr c24
              have c24b1 : (t145 != a1) = true := bne_iff_ne.mpr c24
              (first | rw [c24b0] | (simp only [i64_w, i32_w]; rw [c24b0]) | skip)
              have H' := Aside0.mk H
              clear H
              have hnb35 := NB148_142.out
              have hnc35 := NB142_148.out
              have hcz36_0 : w21.cell? ⟨gb148, 0, none⟩ = some (.int .u32 0) := (blk_cell BK148.out 0).trans rfl
              have hcz36_1 : w21.cell? ⟨gb148, 1, none⟩ = some (.int .u32 0) := (blk_cell BK148.out 1).trans rfl
              have hcz36_2 : w21.cell? ⟨gb148, 2, none⟩ = some (.string (⟨#[]⟩ : ByteArray)) := (blk_cell BK148.out 2).trans rfl
              have hfz36_0 := blk_frozen BK148.out 0
              have hfz36_1 := blk_frozen BK148.out 1
              have hfz36_2 := blk_frozen BK148.out 2
              go_wp2
              go_meet
              case rel => exact ⟨_, (true), (by first | rfl | (simp; done) | (simp [*]; done)), H', ⟨by have := HJ7.out; first | omega | exact Nat.le_refl _⟩, ⟨by (with_reducible repeat (first | refine blk_drewN ?_ _ | refine blk_drew ?_ | refine blk_alloc ?_ _)); refine blk_far ?_ NB142_148.out _; (with_reducible repeat (first | refine blk_drewN ?_ _ | refine blk_drew ?_ | refine blk_alloc ?_ _)); refine blk_far ?_ NB142_148.out _; (with_reducible repeat (first | refine blk_drewN ?_ _ | refine blk_drew ?_ | refine blk_alloc ?_ _)); refine blk_far ?_ NB142_148.out _; (with_reducible repeat (first | refine blk_drewN ?_ _ | refine blk_drew ?_ | refine blk_alloc ?_ _)); exact BK142.out⟩, ⟨by (with_reducible repeat (first | refine blk_drewN ?_ _ | refine blk_drew ?_ | refine blk_alloc ?_ _)); refine blk_put (cs := #[.int .u32 t145, .int .u32 t146, .string (⟨#[]⟩ : ByteArray)]) ?_ 2 _ rfl; (with_reducible repeat (first | refine blk_drewN ?_ _ | refine blk_drew ?_ | refine blk_alloc ?_ _)); refine blk_put (cs := #[.int .u32 t145, .int .u32 0, .string (⟨#[]⟩ : ByteArray)]) ?_ 1 _ rfl; (with_reducible repeat (first | refine blk_drewN ?_ _ | refine blk_drew ?_ | refine blk_alloc ?_ _)); refine blk_put (cs := #[.int .u32 0, .int .u32 0, .string (⟨#[]⟩ : ByteArray)]) ?_ 0 _ rfl; (with_reducible repeat (first | refine blk_drewN ?_ _ | refine blk_drew ?_ | refine blk_alloc ?_ _)); exact BK148.out⟩, ⟨by repeat (first | (with_reducible first | exact HB.out | apply below_alloc | apply pw_below_drewN | apply below_drew1 | refine below_set ?_ GE142.out | refine below_set ?_ GE148.out) | exact HB.out)⟩⟩
          case rest =>
            clear HC18
            try clear c1
            try clear c2
            try clear p2
            try clear c3
            try clear c4
            try clear c7
            try clear c8
            try clear c11
            try clear c11b0
            try clear c14
            try clear c22
            try clear c24
            try clear c24b0
            try clear c24b1
            try clear c25
            try clear c25b0
            try clear c25b1
            try clear c26
            try clear c26b0
            try clear c26b1
            try clear c28
            try clear c31
            try clear c33
            try clear c35
            try clear hcz12_0
            try clear hcz12_1
            try clear hcz12_2
            try clear hcz13_0
            try clear hcz13_1
            try clear hcz13_2
            try clear hcz19_0
            try clear hcz19_1
            try clear hcz19_2
            try clear hcz23_0
            try clear hcz23_1
            try clear hcz23_2
            try clear hcz29_0
            try clear hcz29_1
            try clear hcz29_2
            try clear hcz32_0
            try clear hcz32_1
            try clear hcz32_2
            try clear hcz34_0
            try clear hcz34_1
            try clear hcz34_2
            try clear hcz36_0
            try clear hcz36_1
            try clear hcz36_2
            try clear hfz12_0
            try clear hfz12_1
            try clear hfz12_2
            try clear hfz13_0
            try clear hfz13_1
            try clear hfz13_2
            try clear hfz19_0
            try clear hfz19_1
            try clear hfz19_2
            try clear hfz23_0
            try clear hfz23_1
            try clear hfz23_2
            try clear hfz29_0
            try clear hfz29_1
            try clear hfz29_2
            try clear hfz32_0
            try clear hfz32_1
            try clear hfz32_2
            try clear hfz34_0
            try clear hfz34_1
            try clear hfz34_2
            try clear hfz36_0
            try clear hfz36_1
            try clear hfz36_2
            try clear p2
            obtain ⟨kq, x49_17, rfl, HA, HJ17, BK142, BK148, HB⟩ := hcut
            cases kq with
            | zero => exact absurd HA.out (by simp [lamellalaw08_LaneLives.j1])
            | succ kj17 =>
              have H := HA.out
              clear HA
              simp only [lamellalaw08_LaneLives.j1] at H
              by_cases c37 : x49_17 = true
              · subst c37
                have H1 : (some false) = some r := by rw [if_pos rfl] at H; exact H
                clear H
                have H := H1
                clear H1
                obtain rfl := Option.some.inj H
                go_wp2
                go_ret
                exact ⟨by first | rfl | (simp [errW_none, errW_some] <;> rfl) | (simp [*, errW_none, errW_some] <;> rfl), by repeat (first | (with_reducible first | exact HB.out | apply below_alloc | apply pw_below_drewN | apply below_drew1 | refine below_set ?_ GE142.out | refine below_set ?_ GE148.out) | exact HB.out)⟩
              · replace c37 := Bool.eq_false_iff.mpr c37
                subst c37
                have H1 : (lamellalaw08_LaneLives.l0 kj17 a1 a2 a3 l4 0 t145 t146 t147) = some r := by rw [if_neg (show ¬ (false = true) by decide)] at H; exact H
                clear H
                have H := H1
                clear H1
                have H' := Aside0.mk H
                clear H
                go_wp2
                go_loopg [12] kj17 (fun kq v12 w' => ∃ (x12_3 : Int) (x149000_3 : Int) (x149001_3 : Int) (x149002_3 : ByteArray), v12 = .int .i64 x12_3 ∧ Aside0 (lamellalaw08_LaneLives.l0 kq a1 a2 a3 l4 x12_3 x149000_3 x149001_3 x149002_3 = some r) ∧ Aside0 (kq ≤ kj17) ∧ Aside0 (w'.heap[gb142]? = some (.cells #[.int .u32 a0_0, .int .u32 a0_1, .string a0_2] 24 (0, 0))) ∧ Aside0 (w'.heap[gb148]? = some (.cells #[.int .u32 x149000_3, .int .u32 x149001_3, .string x149002_3] 24 (0, 0))) ∧ Aside0 (Below w.heap.size w w'))
                case atStart => exact ⟨(0), (t145), (t146), (t147), (by first | rfl | (simp; done) | (simp [*]; done)), H', ⟨Nat.le_refl _⟩, ⟨by (with_reducible repeat (first | refine blk_drewN ?_ _ | refine blk_drew ?_ | refine blk_alloc ?_ _)); exact BK142.out⟩, ⟨by (with_reducible repeat (first | refine blk_drewN ?_ _ | refine blk_drew ?_ | refine blk_alloc ?_ _)); exact BK148.out⟩, ⟨by repeat (first | (with_reducible first | exact HB.out | apply below_alloc | apply pw_below_drewN | apply below_drew1 | refine below_set ?_ GE142.out | refine below_set ?_ GE148.out) | exact HB.out)⟩⟩
                case round =>
                  clear H'
                  try clear c1
                  try clear c2
                  try clear p2
                  try clear c3
                  try clear c4
                  try clear c7
                  try clear c8
                  try clear c11
                  try clear c11b0
                  try clear c14
                  try clear c22
                  try clear c24
                  try clear c24b0
                  try clear c24b1
                  try clear c25
                  try clear c25b0
                  try clear c25b1
                  try clear c26
                  try clear c26b0
                  try clear c26b1
                  try clear c28
                  try clear c31
                  try clear c33
                  try clear c35
                  try clear c37
                  try clear hcz12_0
                  try clear hcz12_1
                  try clear hcz12_2
                  try clear hcz13_0
                  try clear hcz13_1
                  try clear hcz13_2
                  try clear hcz19_0
                  try clear hcz19_1
                  try clear hcz19_2
                  try clear hcz23_0
                  try clear hcz23_1
                  try clear hcz23_2
                  try clear hcz29_0
                  try clear hcz29_1
                  try clear hcz29_2
                  try clear hcz32_0
                  try clear hcz32_1
                  try clear hcz32_2
                  try clear hcz34_0
                  try clear hcz34_1
                  try clear hcz34_2
                  try clear hcz36_0
                  try clear hcz36_1
                  try clear hcz36_2
                  try clear hfz12_0
                  try clear hfz12_1
                  try clear hfz12_2
                  try clear hfz13_0
                  try clear hfz13_1
                  try clear hfz13_2
                  try clear hfz19_0
                  try clear hfz19_1
                  try clear hfz19_2
                  try clear hfz23_0
                  try clear hfz23_1
                  try clear hfz23_2
                  try clear hfz29_0
                  try clear hfz29_1
                  try clear hfz29_2
                  try clear hfz32_0
                  try clear hfz32_1
                  try clear hfz32_2
                  try clear hfz34_0
                  try clear hfz34_1
                  try clear hfz34_2
                  try clear hfz36_0
                  try clear hfz36_1
                  try clear hfz36_2
                  try clear p2
                  obtain ⟨x12_3, x149000_3, x149001_3, x149002_3, rfl, HA, HK3, BK142, BK148, HB⟩ := hrel
                  cases gk with
                  | zero => exact absurd HA.out (by simp [lamellalaw08_LaneLives.l0])
                  | succ k3 =>
                    have H := HA.out
                    clear HA
                    simp only [lamellalaw08_LaneLives.l0] at H
                    have HC38 := Aside0.mk H
                    clear H
                    go_upto_region 9 with (fail)
                    go_cut [57] (fun v57 wc => ∃ (kq : Nat) (x57_37 : Bool), v57 = .bool x57_37 ∧ Aside0 (lamellalaw08_LaneLives.j3 kq a1 a2 a3 l4 x12_3 x57_37 x149000_3 x149001_3 x149002_3 = some r) ∧ Aside0 (kq ≤ k3) ∧ Aside0 (wc.heap[gb142]? = some (.cells #[.int .u32 a0_0, .int .u32 a0_1, .string a0_2] 24 (0, 0))) ∧ Aside0 (wc.heap[gb148]? = some (.cells #[.int .u32 x149000_3, .int .u32 x149001_3, .string x149002_3] 24 (0, 0))) ∧ Aside0 (Below w.heap.size w wc))
                    case first =>
                      have H := HC38.out
                      clear HC38
                      by_cases c39 : x12_3 < (l4.length : Int)
                      · rw [if_pos c39] at H
                        have c39b0 : decide (x12_3 < (l4.length : Int)) = true := decide_eq_true c39
                        clear c39
                        (first | rw [c39b0] | (simp only [i64_w, i32_w]; rw [c39b0]) | skip)
                        have H' := Aside0.mk H
                        clear H
                        go_wp2
                        go_meet
                        case rel => exact ⟨_, (decide (x12_3 < 100)), (by first | rfl | (simp; done) | (simp [*]; done)), H', ⟨by have := HJ7.out; have := HJ17.out; have := HK3.out; first | omega | exact Nat.le_refl _⟩, ⟨by (with_reducible repeat (first | refine blk_drewN ?_ _ | refine blk_drew ?_ | refine blk_alloc ?_ _)); exact BK142.out⟩, ⟨by (with_reducible repeat (first | refine blk_drewN ?_ _ | refine blk_drew ?_ | refine blk_alloc ?_ _)); exact BK148.out⟩, ⟨by repeat (first | (with_reducible first | exact HB.out | apply below_alloc | apply pw_below_drewN | apply below_drew1 | refine below_set ?_ GE142.out | refine below_set ?_ GE148.out) | exact HB.out)⟩⟩
                      · rw [if_neg c39] at H
                        have c39b0 : decide (x12_3 < (l4.length : Int)) = false := decide_eq_false c39
                        clear c39
                        (first | rw [c39b0] | (simp only [i64_w, i32_w]; rw [c39b0]) | skip)
                        have H' := Aside0.mk H
                        clear H
                        go_wp2
                        go_meet
                        case rel => exact ⟨_, (false), (by first | rfl | (simp; done) | (simp [*]; done)), H', ⟨by have := HJ7.out; have := HJ17.out; have := HK3.out; first | omega | exact Nat.le_refl _⟩, ⟨by (with_reducible repeat (first | refine blk_drewN ?_ _ | refine blk_drew ?_ | refine blk_alloc ?_ _)); exact BK142.out⟩, ⟨by (with_reducible repeat (first | refine blk_drewN ?_ _ | refine blk_drew ?_ | refine blk_alloc ?_ _)); exact BK148.out⟩, ⟨by repeat (first | (with_reducible first | exact HB.out | apply below_alloc | apply pw_below_drewN | apply below_drew1 | refine below_set ?_ GE142.out | refine below_set ?_ GE148.out) | exact HB.out)⟩⟩
                    case rest =>
                      clear HC38
                      try clear c1
                      try clear c2
                      try clear p2
                      try clear c3
                      try clear c4
                      try clear c7
                      try clear c8
                      try clear c11
                      try clear c11b0
                      try clear c14
                      try clear c22
                      try clear c24
                      try clear c24b0
                      try clear c24b1
                      try clear c25
                      try clear c25b0
                      try clear c25b1
                      try clear c26
                      try clear c26b0
                      try clear c26b1
                      try clear c28
                      try clear c31
                      try clear c33
                      try clear c35
                      try clear c37
                      try clear c39
                      try clear c39b0
                      try clear hcz12_0
                      try clear hcz12_1
                      try clear hcz12_2
                      try clear hcz13_0
                      try clear hcz13_1
                      try clear hcz13_2
                      try clear hcz19_0
                      try clear hcz19_1
                      try clear hcz19_2
                      try clear hcz23_0
                      try clear hcz23_1
                      try clear hcz23_2
                      try clear hcz29_0
                      try clear hcz29_1
                      try clear hcz29_2
                      try clear hcz32_0
                      try clear hcz32_1
                      try clear hcz32_2
                      try clear hcz34_0
                      try clear hcz34_1
                      try clear hcz34_2
                      try clear hcz36_0
                      try clear hcz36_1
                      try clear hcz36_2
                      try clear hfz12_0
                      try clear hfz12_1
                      try clear hfz12_2
                      try clear hfz13_0
                      try clear hfz13_1
                      try clear hfz13_2
                      try clear hfz19_0
                      try clear hfz19_1
                      try clear hfz19_2
                      try clear hfz23_0
                      try clear hfz23_1
                      try clear hfz23_2
                      try clear hfz29_0
                      try clear hfz29_1
                      try clear hfz29_2
                      try clear hfz32_0
                      try clear hfz32_1
                      try clear hfz32_2
                      try clear hfz34_0
                      try clear hfz34_1
                      try clear hfz34_2
                      try clear hfz36_0
                      try clear hfz36_1
                      try clear hfz36_2
                      try clear p2
                      obtain ⟨kq, x57_37, rfl, HA, HJ37, BK142, BK148, HB⟩ := hcut
                      cases kq with
                      | zero => exact absurd HA.out (by simp [lamellalaw08_LaneLives.j3])
                      | succ kj37 =>
                        have H := HA.out
                        clear HA
                        simp only [lamellalaw08_LaneLives.j3] at H
                        by_cases c40 : x57_37 = true
                        · subst c40
                          have H1 : (if 0 ≤ x12_3 then (if x12_3 < (l4.length : Int) then ((lane_Done.f kj37 x149000_3 x149001_3 x149002_3 a1 (rd l4 x12_3) (⟨#[110, 101, 120, 116]⟩ : ByteArray)).bind fun bt152 => (if bt152.1 = a1 then (if bt152.2.1 < x149001_3 then (some false) else (if bt152.2.1 > ((x149001_3 + 1) % 4294967296) then (some false) else ((lane_Judge.f kj37 bt152.1 bt152.2.1 bt152.2.2 a2 a3).bind fun t156 => (if t156 = 3 then (lamellalaw08_LaneLives.l0 kj37 a1 a2 a3 l4 (wrap64 (x12_3 + 1)) bt152.1 bt152.2.1 bt152.2.2) else (some false))))) else (some false))) else (none)) else (none)) = some r := by rw [if_pos rfl] at H; exact H
                          clear H
                          have H := H1
                          clear H1
                          by_cases c41 : 0 ≤ x12_3
                          · rw [if_pos c41] at H
                            have c41b0 : decide (0 ≤ x12_3) = true := decide_eq_true c41
                            clear c41
                            by_cases c42 : x12_3 < (l4.length : Int)
                            · rw [if_pos c42] at H
                              have c42b0 : decide (x12_3 < (l4.length : Int)) = true := decide_eq_true c42
                              clear c42
                              replace H := Option.bind_eq_some_iff.mp H
                              obtain ⟨⟨t152, t153, t154⟩, A430, H⟩ := H
                              replace H : (if t152 = a1 then (if t153 < x149001_3 then (some false) else (if t153 > ((x149001_3 + 1) % 4294967296) then (some false) else ((lane_Judge.f kj37 t152 t153 t154 a2 a3).bind fun t156 => (if t156 = 3 then (lamellalaw08_LaneLives.l0 kj37 a1 a2 a3 l4 (wrap64 (x12_3 + 1)) t152 t153 t154) else (some false))))) else (some false)) = some r := H
                              have A43 := Aside0.mk A430
                              clear A430
                              by_cases c44 : t152 = a1
                              · rw [if_pos c44] at H
                                have c44b0 : (t152 == a1) = true := beq_iff_eq.mpr c44
                                have c44b1 : (t152 != a1) = false := bne_eq_false_iff_eq.mpr c44
                                clear c44
                                by_cases c45 : t153 < x149001_3
                                · rw [if_pos c45] at H
                                  have c45b0 : decide (t153 < x149001_3) = true := decide_eq_true c45
                                  clear c45
                                  obtain rfl := Option.some.inj H
                                  try go_wp2
                                  have n0_ := Aside0.mk (blk_drew BK142.out)
                                  have n1_ := Aside0.mk (blk_drew BK148.out)
                                  have n2_ := Aside0.mk (below_drew1 HB.out)
                                  clear BK142
                                  clear BK148
                                  clear HB
                                  have BK142 := n0_
                                  have BK148 := n1_
                                  have HB := n2_
                                  clear n0_ n1_ n2_
                                  have p151 : 0 ≤ (x12_3 : Int) := of_decide_eq_true (by first | (with_reducible assumption) | assumption)
                                  have q151 : x12_3 < (l4.length : Int) := of_decide_eq_true (by first | (with_reducible assumption) | assumption)
                                  obtain ⟨ad151, e151, hx151_0⟩ := Kd.at_int HR4.out x12_3 p151 q151
                                  have hw151_0 := hx151_0
                                  cases e151
                                  replace hx151_0 := (HB.out.cell (World.block_lt_of_cell? w _ hx151_0)).trans hx151_0
                                  replace p151 := eq_true p151
                                  replace q151 := eq_true q151
                                  refine start_ (n := 9) (S := fun w' => w'.cell? ⟨gb148, 0, none⟩ = some (.int .u32 x149000_3) ∧ w'.cell? ⟨gb148, 1, none⟩ = some (.int .u32 x149001_3) ∧ w'.cell? ⟨gb148, 2, none⟩ = some (.string x149002_3) ∧ w'.cell? (ad151.add (x12_3).toNat) = some (.int .u32 (rd l4 x12_3))) (ds := []) #[false, false, false, false, false, false, false, false, false] (by kernel_rfl) rfl rfl ⟨(blk_cell BK148.out 0).trans rfl, (blk_cell BK148.out 1).trans rfl, (blk_cell BK148.out 2).trans rfl, ((HB.out.cell (World.block_lt_of_cell? w _ hw151_0)).trans hw151_0)⟩ (fun hHeld => ?_); refine with_tabW lamellalaw08_LaneLives.tab11 lamellalaw08_LaneLives.bits11 (fun HT_ HW_ => ?_)
                                  generalize wc.drew = w46 at BK142 BK148 HB hx151_0 hHeld ⊢
                                  refine pure_ (i := 1) (N := some 61) (v := ?_) (a' := ?_) #[false, true, false, false, false, false, false, false, false] rfl rfl (any_of HT_.out (by kernel_rfl)) (fun _ _ _ h => h) (Or.inl ⟨by rfl, ?_⟩) ?_ ?_
                                  rotate_left
                                  · intro w'
                                    go_simp
                                    with_reducible rfl
                                  rotate_left
                                  · simp only [Act.put, List.setIfInBounds_toArray, List.set_cons_zero, List.set_cons_succ, i64_w, i32_w]
                                    rfl
                                  refine pure_ (i := 2) (N := some 62) (v := ?_) (a' := ?_) #[false, true, true, false, false, false, false, false, false] rfl rfl (any_of HT_.out (by kernel_rfl)) (fun _ _ _ h => h) (Or.inl ⟨by rfl, ?_⟩) ?_ ?_
                                  rotate_left
                                  · intro w'
                                    go_simp
                                    with_reducible rfl
                                  rotate_left
                                  · simp only [Act.put, List.setIfInBounds_toArray, List.set_cons_zero, List.set_cons_succ, i64_w, i32_w]
                                    rfl
                                  refine pure_ (i := 3) (N := some 63) (v := ?_) (a' := ?_) #[false, true, true, true, false, false, false, false, false] rfl rfl (any_of HT_.out (by kernel_rfl)) (fun _ _ _ h => h) (Or.inl ⟨by rfl, ?_⟩) ?_ ?_
                                  rotate_left
                                  · intro w'
                                    go_simp
                                    with_reducible rfl
                                  rotate_left
                                  · simp only [Act.put, List.setIfInBounds_toArray, List.set_cons_zero, List.set_cons_succ, i64_w, i32_w]
                                    rfl
                                  refine pure_ (i := 4) (N := some 64) (v := ?_) (a' := ?_) #[false, true, true, true, true, false, false, false, false] rfl rfl (any_of HT_.out (by kernel_rfl)) (fun _ _ _ h => h) (Or.inl ⟨by rfl, ?_⟩) ?_ ?_
                                  rotate_left
                                  · intro w'
                                    go_simp
                                    with_reducible rfl
                                  rotate_left
                                  · simp only [Act.put, List.setIfInBounds_toArray, List.set_cons_zero, List.set_cons_succ, i64_w, i32_w]
                                    rfl
                                  refine take_ (i := 0) (N := some 60) (v := ?_) (a' := ?_) #[true, true, true, true, true, false, false, false, false] rfl rfl (take_ofW HT_.out HW_.out (by kernel_rfl)) (fun _ _ _ h => h) (Or.inl ⟨by rfl, ?_⟩) hHeld ?_ ?_
                                  rotate_left
                                  · rintro w' ⟨s0, s1, s2, s3⟩
                                    go_simp
                                    with_reducible rfl
                                  rotate_left
                                  · simp only [Act.put, List.setIfInBounds_toArray, List.set_cons_zero, List.set_cons_succ, i64_w, i32_w]
                                    rfl
                                  refine take_ (i := 5) (N := some 65) (v := ?_) (a' := ?_) #[true, true, true, true, true, true, false, false, false] rfl rfl (take_ofW HT_.out HW_.out (by kernel_rfl)) (fun _ _ _ h => h) (Or.inl ⟨by rfl, ?_⟩) hHeld ?_ ?_
                                  rotate_left
                                  · rintro w' ⟨s0, s1, s2, s3⟩
                                    go_simp
                                    with_reducible rfl
                                  rotate_left
                                  · simp only [Act.put, List.setIfInBounds_toArray, List.set_cons_zero, List.set_cons_succ, i64_w, i32_w]
                                    rfl
                                  refine join_ (σ := Nat) 1 #[true, true, true, true, true, true, true, true, false] (fun s_ => [(66, .agg #[.int .u32 t152, .int .u32 t153, .string t154]), (13, .pointer (some ⟨s_, 0, none⟩))]) (fun s_ w' => (w'.cell? ⟨gb148, 0, none⟩ = some (.int .u32 x149000_3) ∧ w'.cell? ⟨gb148, 1, none⟩ = some (.int .u32 x149001_3) ∧ w'.cell? ⟨gb148, 2, none⟩ = some (.string x149002_3) ∧ w'.cell? (ad151.add (x12_3).toNat) = some (.int .u32 (rd l4 x12_3))) ∧ (w'.heap[gb142]? = some (.cells #[.int .u32 a0_0, .int .u32 a0_1, .string a0_2] 24 (0, 0))) ∧ (w'.heap[gb148]? = some (.cells #[.int .u32 x149000_3, .int .u32 x149001_3, .string x149002_3] 24 (0, 0))) ∧ (w'.heap[s_]? = some (.cells #[.int .u32 0, .int .u32 0, .string (⟨#[]⟩ : ByteArray)] 24 (0, 0))) ∧ (w.heap.size ≤ s_) ∧ (w.heap.size ≤ s_) ∧ (gb142 ≠ s_) ∧ (s_ ≠ gb142) ∧ (gb148 ≠ s_) ∧ (s_ ≠ gb148) ∧ (Below w.heap.size w w')) ?_ ?_
                                  rotate_left
                                  · intro hCont
                                    refine two_ (i := 6) (j := 7) (Ni := some 66) (Nj := some 13) #[true, true, true, true, true, true, true, false, false] #[true, true, true, true, true, true, false, true, false] rfl rfl rfl rfl (two_of HT_.out (by kernel_rfl)) (by decide) (by decide) (fun K hK => ?_) (fun K hK => ?_)
                                    · skip
                                      refine goes_ Try.func11 (by kernel_rfl) rfl #[.agg #[.int .u32 x149000_3, .int .u32 x149001_3, .string x149002_3], .int .u32 a1, .int .u32 (rd l4 x12_3), .string (⟨#[110, 101, 120, 116]⟩ : ByteArray)] (by rfl) rfl rfl (by (try simp only [List.map_toArray, List.map_cons, List.map_nil]); first | done | rfl | (simp only [List.length_drop, List.length_take]; rfl)) ?_
                                      with_reducible refine (lane_Done.calls kj37 x149000_3 x149001_3 x149002_3 a1 (rd l4 x12_3) (⟨#[110, 101, 120, 116]⟩ : ByteArray) t152 t153 t154 _ A43.out).mono ?_
                                      rintro e w47 ⟨rfl, hb⟩
                                      refine ⟨_, rfl, ?_⟩
                                      have n0_ := Aside0.mk (blk_below (g := gb142) (o := .cells #[.int .u32 a0_0, .int .u32 a0_1, .string a0_2] 24 (0, 0)) (by (with_reducible repeat (first | refine blk_drewN ?_ _ | refine blk_drew ?_ | refine blk_alloc ?_ _)); exact BK142.out) hb)
                                      have n1_ := Aside0.mk (blk_below (g := gb148) (o := .cells #[.int .u32 x149000_3, .int .u32 x149001_3, .string x149002_3] 24 (0, 0)) (by (with_reducible repeat (first | refine blk_drewN ?_ _ | refine blk_drew ?_ | refine blk_alloc ?_ _)); exact BK148.out) hb)
                                      have n2_ := Aside0.mk (below_step (by repeat (first | (with_reducible first | exact HB.out | apply below_alloc | apply pw_below_drewN | apply below_drew1 | refine below_set ?_ GE142.out | refine below_set ?_ GE148.out) | exact HB.out)) hb)
                                      clear BK142
                                      clear BK148
                                      clear HB
                                      have BK142 := n0_
                                      have BK148 := n1_
                                      have HB := n2_
                                      clear n0_ n1_ n2_
                                      (try clear hb)
                                      (try clear hb2)
                                      (try clear hk)
                                      (try clear hi)
                                      refine hK.out _ _ ⟨(blk_cell BK148.out 0).trans rfl, (blk_cell BK148.out 1).trans rfl, (blk_cell BK148.out 2).trans rfl, ((HB.out.cell (World.block_lt_of_cell? w _ hw151_0)).trans hw151_0)⟩ (fun hHeld => ?_)
                                      clear hK K
                                      refine norm_ (a' := ?_) ?_ ?_
                                      rotate_left
                                      · show Act.put _ (some 66) _ = _
                                        simp only [Act.put, List.setIfInBounds_toArray, List.set_cons_zero, List.set_cons_succ, i64_w, i32_w]
                                        rfl
                                      refine one_ (i := 7) (N := some 13) #[true, true, true, true, true, true, true, true, false] rfl rfl (one_of HT_.out (by kernel_rfl)) (by decide) (fun K hK => ?_)
                                      refine box_step ?hg (N := 13) ?hd (cs := #[.int .u32 0, .int .u32 0, .string (⟨#[]⟩ : ByteArray)]) (t := 24) ?hr ?_; (case hd => rfl); (case hg => rfl); (case hr => first | (go_simp; done) | (go_simp; rfl))
                                      intro gb155 hg w48 hbox hb
                                      have n0_ := Aside0.mk (blk_below (g := gb142) (o := .cells #[.int .u32 a0_0, .int .u32 a0_1, .string a0_2] 24 (0, 0)) (by (with_reducible repeat (first | refine blk_drewN ?_ _ | refine blk_drew ?_ | refine blk_alloc ?_ _)); exact BK142.out) hb)
                                      have n1_ := Aside0.mk (blk_below (g := gb148) (o := .cells #[.int .u32 x149000_3, .int .u32 x149001_3, .string x149002_3] 24 (0, 0)) (by (with_reducible repeat (first | refine blk_drewN ?_ _ | refine blk_drew ?_ | refine blk_alloc ?_ _)); exact BK148.out) hb)
                                      have n2_ := Aside0.mk (below_step (by repeat (first | (with_reducible first | exact HB.out | apply below_alloc | apply pw_below_drewN | apply below_drew1 | refine below_set ?_ GE142.out | refine below_set ?_ GE148.out) | exact HB.out)) hb)
                                      have n3_ := Aside0.mk (hbox)
                                      have n4_ := Aside0.mk ((by rw [hg]; exact (below_size (by repeat (first | (with_reducible first | exact HB.out | apply below_alloc | apply pw_below_drewN | apply below_drew1 | refine below_set ?_ GE142.out | refine below_set ?_ GE148.out) | exact HB.out))) : w.heap.size ≤ gb155))
                                      have n5_ := Aside0.mk ((by rw [hg]; exact (below_size (by repeat (first | (with_reducible first | exact HB.out | apply below_alloc | apply pw_below_drewN | apply below_drew1 | refine below_set ?_ GE142.out | refine below_set ?_ GE148.out) | exact HB.out))) : w.heap.size ≤ gb155))
                                      have n6_ := Aside0.mk ((by rw [hg]; exact Nat.ne_of_lt (blk_lt (g := gb142) (o := .cells #[.int .u32 a0_0, .int .u32 a0_1, .string a0_2] 24 (0, 0)) (by (with_reducible repeat (first | refine blk_drewN ?_ _ | refine blk_drew ?_ | refine blk_alloc ?_ _)); exact BK142.out)) : gb142 ≠ gb155))
                                      have n7_ := Aside0.mk ((by rw [hg]; exact Nat.ne_of_gt (blk_lt (g := gb142) (o := .cells #[.int .u32 a0_0, .int .u32 a0_1, .string a0_2] 24 (0, 0)) (by (with_reducible repeat (first | refine blk_drewN ?_ _ | refine blk_drew ?_ | refine blk_alloc ?_ _)); exact BK142.out)) : gb155 ≠ gb142))
                                      have n8_ := Aside0.mk ((by rw [hg]; exact Nat.ne_of_lt (blk_lt (g := gb148) (o := .cells #[.int .u32 x149000_3, .int .u32 x149001_3, .string x149002_3] 24 (0, 0)) (by (with_reducible repeat (first | refine blk_drewN ?_ _ | refine blk_drew ?_ | refine blk_alloc ?_ _)); exact BK148.out)) : gb148 ≠ gb155))
                                      have n9_ := Aside0.mk ((by rw [hg]; exact Nat.ne_of_gt (blk_lt (g := gb148) (o := .cells #[.int .u32 x149000_3, .int .u32 x149001_3, .string x149002_3] 24 (0, 0)) (by (with_reducible repeat (first | refine blk_drewN ?_ _ | refine blk_drew ?_ | refine blk_alloc ?_ _)); exact BK148.out)) : gb155 ≠ gb148))
                                      clear BK142
                                      clear BK148
                                      clear HB
                                      have BK142 := n0_
                                      have BK148 := n1_
                                      have HB := n2_
                                      have BK155 := n3_
                                      have GW155 := n4_
                                      have GE155 := n5_
                                      have NB142_155 := n6_
                                      have NB155_142 := n7_
                                      have NB148_155 := n8_
                                      have NB155_148 := n9_
                                      clear n0_ n1_ n2_ n3_ n4_ n5_ n6_ n7_ n8_ n9_
                                      clear hb hbox hg
                                      refine hK.out _ _ ⟨(blk_cell BK148.out 0).trans rfl, (blk_cell BK148.out 1).trans rfl, (blk_cell BK148.out 2).trans rfl, ((HB.out.cell (World.block_lt_of_cell? w _ hw151_0)).trans hw151_0)⟩ (fun hHeld => ?_)
                                      clear hK K
                                      refine norm_ (a' := ?_) ?_ ?_
                                      rotate_left
                                      · show Act.put _ (some 13) _ = _
                                        simp only [Act.put, List.setIfInBounds_toArray, List.set_cons_zero, List.set_cons_succ, i64_w, i32_w]
                                        rfl
                                      exact norm_ (by simp only [putAll, Act.put, List.setIfInBounds_toArray, List.set_cons_zero, List.set_cons_succ]) (hCont (gb155) _ ⟨hHeld, (by (with_reducible repeat (first | refine blk_drewN ?_ _ | refine blk_drew ?_ | refine blk_alloc ?_ _)); exact BK142.out), (by (with_reducible repeat (first | refine blk_drewN ?_ _ | refine blk_drew ?_ | refine blk_alloc ?_ _)); exact BK148.out), (by (with_reducible repeat (first | refine blk_drewN ?_ _ | refine blk_drew ?_ | refine blk_alloc ?_ _)); exact BK155.out), GW155.out, GE155.out, NB142_155.out, NB155_142.out, NB148_155.out, NB155_148.out, (by repeat (first | (with_reducible first | exact HB.out | apply below_alloc | apply pw_below_drewN | apply below_drew1 | refine below_set ?_ GE142.out | refine below_set ?_ GE148.out | refine below_set ?_ GE155.out) | exact HB.out))⟩)
                                    · skip
                                      refine box_step ?hg (N := 13) ?hd (cs := #[.int .u32 0, .int .u32 0, .string (⟨#[]⟩ : ByteArray)]) (t := 24) ?hr ?_; (case hd => rfl); (case hg => rfl); (case hr => first | (go_simp; done) | (go_simp; rfl))
                                      intro gb155 hg w47 hbox hb
                                      have n0_ := Aside0.mk (blk_below (g := gb142) (o := .cells #[.int .u32 a0_0, .int .u32 a0_1, .string a0_2] 24 (0, 0)) (by (with_reducible repeat (first | refine blk_drewN ?_ _ | refine blk_drew ?_ | refine blk_alloc ?_ _)); exact BK142.out) hb)
                                      have n1_ := Aside0.mk (blk_below (g := gb148) (o := .cells #[.int .u32 x149000_3, .int .u32 x149001_3, .string x149002_3] 24 (0, 0)) (by (with_reducible repeat (first | refine blk_drewN ?_ _ | refine blk_drew ?_ | refine blk_alloc ?_ _)); exact BK148.out) hb)
                                      have n2_ := Aside0.mk (below_step (by repeat (first | (with_reducible first | exact HB.out | apply below_alloc | apply pw_below_drewN | apply below_drew1 | refine below_set ?_ GE142.out | refine below_set ?_ GE148.out) | exact HB.out)) hb)
                                      have n3_ := Aside0.mk (hbox)
                                      have n4_ := Aside0.mk ((by rw [hg]; exact (below_size (by repeat (first | (with_reducible first | exact HB.out | apply below_alloc | apply pw_below_drewN | apply below_drew1 | refine below_set ?_ GE142.out | refine below_set ?_ GE148.out) | exact HB.out))) : w.heap.size ≤ gb155))
                                      have n5_ := Aside0.mk ((by rw [hg]; exact (below_size (by repeat (first | (with_reducible first | exact HB.out | apply below_alloc | apply pw_below_drewN | apply below_drew1 | refine below_set ?_ GE142.out | refine below_set ?_ GE148.out) | exact HB.out))) : w.heap.size ≤ gb155))
                                      have n6_ := Aside0.mk ((by rw [hg]; exact Nat.ne_of_lt (blk_lt (g := gb142) (o := .cells #[.int .u32 a0_0, .int .u32 a0_1, .string a0_2] 24 (0, 0)) (by (with_reducible repeat (first | refine blk_drewN ?_ _ | refine blk_drew ?_ | refine blk_alloc ?_ _)); exact BK142.out)) : gb142 ≠ gb155))
                                      have n7_ := Aside0.mk ((by rw [hg]; exact Nat.ne_of_gt (blk_lt (g := gb142) (o := .cells #[.int .u32 a0_0, .int .u32 a0_1, .string a0_2] 24 (0, 0)) (by (with_reducible repeat (first | refine blk_drewN ?_ _ | refine blk_drew ?_ | refine blk_alloc ?_ _)); exact BK142.out)) : gb155 ≠ gb142))
                                      have n8_ := Aside0.mk ((by rw [hg]; exact Nat.ne_of_lt (blk_lt (g := gb148) (o := .cells #[.int .u32 x149000_3, .int .u32 x149001_3, .string x149002_3] 24 (0, 0)) (by (with_reducible repeat (first | refine blk_drewN ?_ _ | refine blk_drew ?_ | refine blk_alloc ?_ _)); exact BK148.out)) : gb148 ≠ gb155))
                                      have n9_ := Aside0.mk ((by rw [hg]; exact Nat.ne_of_gt (blk_lt (g := gb148) (o := .cells #[.int .u32 x149000_3, .int .u32 x149001_3, .string x149002_3] 24 (0, 0)) (by (with_reducible repeat (first | refine blk_drewN ?_ _ | refine blk_drew ?_ | refine blk_alloc ?_ _)); exact BK148.out)) : gb155 ≠ gb148))
                                      clear BK142
                                      clear BK148
                                      clear HB
                                      have BK142 := n0_
                                      have BK148 := n1_
                                      have HB := n2_
                                      have BK155 := n3_
                                      have GW155 := n4_
                                      have GE155 := n5_
                                      have NB142_155 := n6_
                                      have NB155_142 := n7_
                                      have NB148_155 := n8_
                                      have NB155_148 := n9_
                                      clear n0_ n1_ n2_ n3_ n4_ n5_ n6_ n7_ n8_ n9_
                                      clear hb hbox hg
                                      refine hK.out _ _ ⟨(blk_cell BK148.out 0).trans rfl, (blk_cell BK148.out 1).trans rfl, (blk_cell BK148.out 2).trans rfl, ((HB.out.cell (World.block_lt_of_cell? w _ hw151_0)).trans hw151_0)⟩ (fun hHeld => ?_)
                                      clear hK K
                                      refine norm_ (a' := ?_) ?_ ?_
                                      rotate_left
                                      · show Act.put _ (some 13) _ = _
                                        simp only [Act.put, List.setIfInBounds_toArray, List.set_cons_zero, List.set_cons_succ, i64_w, i32_w]
                                        rfl
                                      refine one_ (i := 6) (N := some 66) #[true, true, true, true, true, true, true, true, false] rfl rfl (one_of HT_.out (by kernel_rfl)) (by decide) (fun K hK => ?_)
                                      refine goes_ Try.func11 (by kernel_rfl) rfl #[.agg #[.int .u32 x149000_3, .int .u32 x149001_3, .string x149002_3], .int .u32 a1, .int .u32 (rd l4 x12_3), .string (⟨#[110, 101, 120, 116]⟩ : ByteArray)] (by rfl) rfl rfl (by (try simp only [List.map_toArray, List.map_cons, List.map_nil]); first | done | rfl | (simp only [List.length_drop, List.length_take]; rfl)) ?_
                                      with_reducible refine (lane_Done.calls kj37 x149000_3 x149001_3 x149002_3 a1 (rd l4 x12_3) (⟨#[110, 101, 120, 116]⟩ : ByteArray) t152 t153 t154 _ A43.out).mono ?_
                                      rintro e w48 ⟨rfl, hb⟩
                                      refine ⟨_, rfl, ?_⟩
                                      have n0_ := Aside0.mk (blk_below (g := gb142) (o := .cells #[.int .u32 a0_0, .int .u32 a0_1, .string a0_2] 24 (0, 0)) (by (with_reducible repeat (first | refine blk_drewN ?_ _ | refine blk_drew ?_ | refine blk_alloc ?_ _)); exact BK142.out) hb)
                                      have n1_ := Aside0.mk (blk_below (g := gb148) (o := .cells #[.int .u32 x149000_3, .int .u32 x149001_3, .string x149002_3] 24 (0, 0)) (by (with_reducible repeat (first | refine blk_drewN ?_ _ | refine blk_drew ?_ | refine blk_alloc ?_ _)); exact BK148.out) hb)
                                      have n2_ := Aside0.mk (blk_below (g := gb155) (o := .cells #[.int .u32 0, .int .u32 0, .string (⟨#[]⟩ : ByteArray)] 24 (0, 0)) (by (with_reducible repeat (first | refine blk_drewN ?_ _ | refine blk_drew ?_ | refine blk_alloc ?_ _)); exact BK155.out) hb)
                                      have n3_ := Aside0.mk (below_step (by repeat (first | (with_reducible first | exact HB.out | apply below_alloc | apply pw_below_drewN | apply below_drew1 | refine below_set ?_ GE142.out | refine below_set ?_ GE148.out | refine below_set ?_ GE155.out) | exact HB.out)) hb)
                                      clear BK142
                                      clear BK148
                                      clear BK155
                                      clear HB
                                      have BK142 := n0_
                                      have BK148 := n1_
                                      have BK155 := n2_
                                      have HB := n3_
                                      clear n0_ n1_ n2_ n3_
                                      (try clear hb)
                                      (try clear hb2)
                                      (try clear hk)
                                      (try clear hi)
                                      refine hK.out _ _ ⟨(blk_cell BK148.out 0).trans rfl, (blk_cell BK148.out 1).trans rfl, (blk_cell BK148.out 2).trans rfl, ((HB.out.cell (World.block_lt_of_cell? w _ hw151_0)).trans hw151_0)⟩ (fun hHeld => ?_)
                                      clear hK K
                                      refine norm_ (a' := ?_) ?_ ?_
                                      rotate_left
                                      · show Act.put _ (some 66) _ = _
                                        simp only [Act.put, List.setIfInBounds_toArray, List.set_cons_zero, List.set_cons_succ, i64_w, i32_w]
                                        rfl
                                      exact norm_ (by simp only [putAll, Act.put, List.setIfInBounds_toArray, List.set_cons_zero, List.set_cons_succ]) (hCont (gb155) _ ⟨hHeld, (by (with_reducible repeat (first | refine blk_drewN ?_ _ | refine blk_drew ?_ | refine blk_alloc ?_ _)); exact BK142.out), (by (with_reducible repeat (first | refine blk_drewN ?_ _ | refine blk_drew ?_ | refine blk_alloc ?_ _)); exact BK148.out), (by (with_reducible repeat (first | refine blk_drewN ?_ _ | refine blk_drew ?_ | refine blk_alloc ?_ _)); exact BK155.out), GW155.out, GE155.out, NB142_155.out, NB155_142.out, NB148_155.out, NB155_148.out, (by repeat (first | (with_reducible first | exact HB.out | apply below_alloc | apply pw_below_drewN | apply below_drew1 | refine below_set ?_ GE142.out | refine below_set ?_ GE148.out | refine below_set ?_ GE155.out) | exact HB.out))⟩)
                                  rintro gb155 w49 ⟨hS_, h0_, h1_, h2_, h3_, h4_, h5_, h6_, h7_, h8_, h9_⟩
                                  have n0_ : Aside0 (w49.heap[gb142]? = some (.cells #[.int .u32 a0_0, .int .u32 a0_1, .string a0_2] 24 (0, 0))) := ⟨h0_⟩
                                  have n1_ : Aside0 (w49.heap[gb148]? = some (.cells #[.int .u32 x149000_3, .int .u32 x149001_3, .string x149002_3] 24 (0, 0))) := ⟨h1_⟩
                                  have n2_ : Aside0 (w49.heap[gb155]? = some (.cells #[.int .u32 0, .int .u32 0, .string (⟨#[]⟩ : ByteArray)] 24 (0, 0))) := ⟨h2_⟩
                                  have n3_ : Aside0 (w.heap.size ≤ gb155) := ⟨h3_⟩
                                  have n4_ : Aside0 (w.heap.size ≤ gb155) := ⟨h4_⟩
                                  have n5_ : Aside0 (gb142 ≠ gb155) := ⟨h5_⟩
                                  have n6_ : Aside0 (gb155 ≠ gb142) := ⟨h6_⟩
                                  have n7_ : Aside0 (gb148 ≠ gb155) := ⟨h7_⟩
                                  have n8_ : Aside0 (gb155 ≠ gb148) := ⟨h8_⟩
                                  have n9_ : Aside0 (Below w.heap.size w w49) := ⟨h9_⟩
                                  clear BK142
                                  clear BK148
                                  clear HB
                                  clear h0_ h1_ h2_ h3_ h4_ h5_ h6_ h7_ h8_ h9_
                                  have BK142 := n0_
                                  have BK148 := n1_
                                  have BK155 := n2_
                                  have GW155 := n3_
                                  have GE155 := n4_
                                  have NB142_155 := n5_
                                  have NB155_142 := n6_
                                  have NB148_155 := n7_
                                  have NB155_148 := n8_
                                  have HB := n9_
                                  clear n0_ n1_ n2_ n3_ n4_ n5_ n6_ n7_ n8_ n9_
                                  have hHeld : w49.cell? ⟨gb148, 0, none⟩ = some (.int .u32 x149000_3) ∧ w49.cell? ⟨gb148, 1, none⟩ = some (.int .u32 x149001_3) ∧ w49.cell? ⟨gb148, 2, none⟩ = some (.string x149002_3) ∧ w49.cell? (ad151.add (x12_3).toNat) = some (.int .u32 (rd l4 x12_3)) := hS_
                                  refine norm_ (a' := ?_) ?_ ?_
                                  rotate_left
                                  · simp only [putAll, Act.put, List.setIfInBounds_toArray, List.set_cons_zero, List.set_cons_succ]
                                    rfl
                                  refine one_ (i := 8) (N := none) #[true, true, true, true, true, true, true, true, true] rfl rfl (one_of HT_.out (by kernel_rfl)) (by decide) (fun K hK => ?_)
                                  have hs50 : w49.cell? ⟨gb155, 0, none⟩ = some (.int .u32 0) := (blk_cell BK155.out 0).trans rfl
                                  have hfs50 := blk_frozen BK155.out 0
                                  have hns50_0 := NB142_155.out
                                  have hns50_1 := NB148_155.out
                                  have hms50_0 := NB155_142.out
                                  have hms50_1 := NB155_148.out
                                  have hs51 : w49.cell? ⟨gb155, 1, none⟩ = some (.int .u32 0) := (blk_cell BK155.out 1).trans rfl
                                  have hfs51 := blk_frozen BK155.out 1
                                  have hns51_0 := NB142_155.out
                                  have hns51_1 := NB148_155.out
                                  have hms51_0 := NB155_142.out
                                  have hms51_1 := NB155_148.out
                                  have hs52 : w49.cell? ⟨gb155, 2, none⟩ = some (.string (⟨#[]⟩ : ByteArray)) := (blk_cell BK155.out 2).trans rfl
                                  have hfs52 := blk_frozen BK155.out 2
                                  have hns52_0 := NB142_155.out
                                  have hns52_1 := NB148_155.out
                                  have hms52_0 := NB155_142.out
                                  have hms52_1 := NB155_148.out
                                  refine skip_ (w1 := ?_) (by rfl) rfl ?_ ?_
                                  rotate_left
                                  · go_simp
                                    rfl
                                  refine hK.out _ _ ⟨((cell_far (p := ⟨gb155, _, none⟩) NB148_155.out _).trans (((cell_far (p := ⟨gb155, _, none⟩) NB148_155.out _).trans (((cell_far (p := ⟨gb155, _, none⟩) NB148_155.out _).trans (hHeld.1)))))), ((cell_far (p := ⟨gb155, _, none⟩) NB148_155.out _).trans (((cell_far (p := ⟨gb155, _, none⟩) NB148_155.out _).trans (((cell_far (p := ⟨gb155, _, none⟩) NB148_155.out _).trans (hHeld.2.1)))))), ((cell_far (p := ⟨gb155, _, none⟩) NB148_155.out _).trans (((cell_far (p := ⟨gb155, _, none⟩) NB148_155.out _).trans (((cell_far (p := ⟨gb155, _, none⟩) NB148_155.out _).trans (hHeld.2.2.1)))))), ((cell_far (p := ⟨gb155, _, none⟩) (by first | exact Nat.ne_of_lt (Nat.lt_of_lt_of_le (by have := World.block_lt_of_cell? _ _ hw151_0; first | rwa [add_block] at this | exact this) GW155.out) | (rw [add_block]; exact Nat.ne_of_lt (Nat.lt_of_lt_of_le (by have := World.block_lt_of_cell? _ _ hw151_0; first | rwa [add_block] at this | exact this) GW155.out)) | (show (Addr.add _ _).block ≠ _; rw [add_block]; exact Nat.ne_of_lt (Nat.lt_of_lt_of_le (by have := World.block_lt_of_cell? _ _ hw151_0; first | rwa [add_block] at this | exact this) GW155.out)) | (dsimp only; exact Nat.ne_of_lt (Nat.lt_of_lt_of_le (by have := World.block_lt_of_cell? _ _ hw151_0; first | rwa [add_block] at this | exact this) GW155.out))) _).trans (((cell_far (p := ⟨gb155, _, none⟩) (by first | exact Nat.ne_of_lt (Nat.lt_of_lt_of_le (by have := World.block_lt_of_cell? _ _ hw151_0; first | rwa [add_block] at this | exact this) GW155.out) | (rw [add_block]; exact Nat.ne_of_lt (Nat.lt_of_lt_of_le (by have := World.block_lt_of_cell? _ _ hw151_0; first | rwa [add_block] at this | exact this) GW155.out)) | (show (Addr.add _ _).block ≠ _; rw [add_block]; exact Nat.ne_of_lt (Nat.lt_of_lt_of_le (by have := World.block_lt_of_cell? _ _ hw151_0; first | rwa [add_block] at this | exact this) GW155.out)) | (dsimp only; exact Nat.ne_of_lt (Nat.lt_of_lt_of_le (by have := World.block_lt_of_cell? _ _ hw151_0; first | rwa [add_block] at this | exact this) GW155.out))) _).trans (((cell_far (p := ⟨gb155, _, none⟩) (by first | exact Nat.ne_of_lt (Nat.lt_of_lt_of_le (by have := World.block_lt_of_cell? _ _ hw151_0; first | rwa [add_block] at this | exact this) GW155.out) | (rw [add_block]; exact Nat.ne_of_lt (Nat.lt_of_lt_of_le (by have := World.block_lt_of_cell? _ _ hw151_0; first | rwa [add_block] at this | exact this) GW155.out)) | (show (Addr.add _ _).block ≠ _; rw [add_block]; exact Nat.ne_of_lt (Nat.lt_of_lt_of_le (by have := World.block_lt_of_cell? _ _ hw151_0; first | rwa [add_block] at this | exact this) GW155.out)) | (dsimp only; exact Nat.ne_of_lt (Nat.lt_of_lt_of_le (by have := World.block_lt_of_cell? _ _ hw151_0; first | rwa [add_block] at this | exact this) GW155.out))) _).trans (hHeld.2.2.2))))))⟩ (fun hHeld => ?_)
                                  clear hK K
                                  refine done_ (done_of HT_.out (by kernel_rfl)) ?_
                                  have hnb53 := NB155_142.out
                                  have hnc53 := NB142_155.out
                                  have hnb54 := NB155_148.out
                                  have hnc54 := NB148_155.out
                                  have hcz55_0 : w49.cell? ⟨gb155, 0, none⟩ = some (.int .u32 0) := (blk_cell BK155.out 0).trans rfl
                                  have hcz55_1 : w49.cell? ⟨gb155, 1, none⟩ = some (.int .u32 0) := (blk_cell BK155.out 1).trans rfl
                                  have hcz55_2 : w49.cell? ⟨gb155, 2, none⟩ = some (.string (⟨#[]⟩ : ByteArray)) := (blk_cell BK155.out 2).trans rfl
                                  have hfz55_0 := blk_frozen BK155.out 0
                                  have hfz55_1 := blk_frozen BK155.out 1
                                  have hfz55_2 := blk_frozen BK155.out 2
                                  have hnb56 := NB148_142.out
                                  have hnc56 := NB142_148.out
                                  have hcz57_0 : w49.cell? ⟨gb148, 0, none⟩ = some (.int .u32 x149000_3) := (blk_cell BK148.out 0).trans rfl
                                  have hcz57_1 : w49.cell? ⟨gb148, 1, none⟩ = some (.int .u32 x149001_3) := (blk_cell BK148.out 1).trans rfl
                                  have hcz57_2 : w49.cell? ⟨gb148, 2, none⟩ = some (.string x149002_3) := (blk_cell BK148.out 2).trans rfl
                                  have hfz57_0 := blk_frozen BK148.out 0
                                  have hfz57_1 := blk_frozen BK148.out 1
                                  have hfz57_2 := blk_frozen BK148.out 2
                                  try go_wp2
                                  go_ret
                                  exact ⟨by first | rfl | (simp [errW_none, errW_some] <;> rfl) | (simp [*, errW_none, errW_some] <;> rfl), by repeat (first | (with_reducible first | exact HB.out | apply below_alloc | apply pw_below_drewN | apply below_drew1 | refine below_set ?_ GE142.out | refine below_set ?_ GE148.out | refine below_set ?_ GE155.out) | exact HB.out)⟩
                                · rw [if_neg c45] at H
                                  have c45b0 : decide (t153 < x149001_3) = false := decide_eq_false c45
                                  clear c45
                                  by_cases c58 : t153 > ((x149001_3 + 1) % 4294967296)
                                  · rw [if_pos c58] at H
                                    have c58b0 : decide (((x149001_3 + 1) % 4294967296) < t153) = true := decide_eq_true c58
                                    clear c58
                                    obtain rfl := Option.some.inj H
                                    try go_wp2
                                    have n0_ := Aside0.mk (blk_drew BK142.out)
                                    have n1_ := Aside0.mk (blk_drew BK148.out)
                                    have n2_ := Aside0.mk (below_drew1 HB.out)
                                    clear BK142
                                    clear BK148
                                    clear HB
                                    have BK142 := n0_
                                    have BK148 := n1_
                                    have HB := n2_
                                    clear n0_ n1_ n2_
                                    have p151 : 0 ≤ (x12_3 : Int) := of_decide_eq_true (by first | (with_reducible assumption) | assumption)
                                    have q151 : x12_3 < (l4.length : Int) := of_decide_eq_true (by first | (with_reducible assumption) | assumption)
                                    obtain ⟨ad151, e151, hx151_0⟩ := Kd.at_int HR4.out x12_3 p151 q151
                                    have hw151_0 := hx151_0
                                    cases e151
                                    replace hx151_0 := (HB.out.cell (World.block_lt_of_cell? w _ hx151_0)).trans hx151_0
                                    replace p151 := eq_true p151
                                    replace q151 := eq_true q151
                                    refine start_ (n := 9) (S := fun w' => w'.cell? ⟨gb148, 0, none⟩ = some (.int .u32 x149000_3) ∧ w'.cell? ⟨gb148, 1, none⟩ = some (.int .u32 x149001_3) ∧ w'.cell? ⟨gb148, 2, none⟩ = some (.string x149002_3) ∧ w'.cell? (ad151.add (x12_3).toNat) = some (.int .u32 (rd l4 x12_3))) (ds := []) #[false, false, false, false, false, false, false, false, false] (by kernel_rfl) rfl rfl ⟨(blk_cell BK148.out 0).trans rfl, (blk_cell BK148.out 1).trans rfl, (blk_cell BK148.out 2).trans rfl, ((HB.out.cell (World.block_lt_of_cell? w _ hw151_0)).trans hw151_0)⟩ (fun hHeld => ?_); refine with_tabW lamellalaw08_LaneLives.tab11 lamellalaw08_LaneLives.bits11 (fun HT_ HW_ => ?_)
                                    generalize wc.drew = w59 at BK142 BK148 HB hx151_0 hHeld ⊢
                                    refine pure_ (i := 1) (N := some 61) (v := ?_) (a' := ?_) #[false, true, false, false, false, false, false, false, false] rfl rfl (any_of HT_.out (by kernel_rfl)) (fun _ _ _ h => h) (Or.inl ⟨by rfl, ?_⟩) ?_ ?_
                                    rotate_left
                                    · intro w'
                                      go_simp
                                      with_reducible rfl
                                    rotate_left
                                    · simp only [Act.put, List.setIfInBounds_toArray, List.set_cons_zero, List.set_cons_succ, i64_w, i32_w]
                                      rfl
                                    refine pure_ (i := 2) (N := some 62) (v := ?_) (a' := ?_) #[false, true, true, false, false, false, false, false, false] rfl rfl (any_of HT_.out (by kernel_rfl)) (fun _ _ _ h => h) (Or.inl ⟨by rfl, ?_⟩) ?_ ?_
                                    rotate_left
                                    · intro w'
                                      go_simp
                                      with_reducible rfl
                                    rotate_left
                                    · simp only [Act.put, List.setIfInBounds_toArray, List.set_cons_zero, List.set_cons_succ, i64_w, i32_w]
                                      rfl
                                    refine pure_ (i := 3) (N := some 63) (v := ?_) (a' := ?_) #[false, true, true, true, false, false, false, false, false] rfl rfl (any_of HT_.out (by kernel_rfl)) (fun _ _ _ h => h) (Or.inl ⟨by rfl, ?_⟩) ?_ ?_
                                    rotate_left
                                    · intro w'
                                      go_simp
                                      with_reducible rfl
                                    rotate_left
                                    · simp only [Act.put, List.setIfInBounds_toArray, List.set_cons_zero, List.set_cons_succ, i64_w, i32_w]
                                      rfl
                                    refine pure_ (i := 4) (N := some 64) (v := ?_) (a' := ?_) #[false, true, true, true, true, false, false, false, false] rfl rfl (any_of HT_.out (by kernel_rfl)) (fun _ _ _ h => h) (Or.inl ⟨by rfl, ?_⟩) ?_ ?_
                                    rotate_left
                                    · intro w'
                                      go_simp
                                      with_reducible rfl
                                    rotate_left
                                    · simp only [Act.put, List.setIfInBounds_toArray, List.set_cons_zero, List.set_cons_succ, i64_w, i32_w]
                                      rfl
                                    refine take_ (i := 0) (N := some 60) (v := ?_) (a' := ?_) #[true, true, true, true, true, false, false, false, false] rfl rfl (take_ofW HT_.out HW_.out (by kernel_rfl)) (fun _ _ _ h => h) (Or.inl ⟨by rfl, ?_⟩) hHeld ?_ ?_
                                    rotate_left
                                    · rintro w' ⟨s0, s1, s2, s3⟩
                                      go_simp
                                      with_reducible rfl
                                    rotate_left
                                    · simp only [Act.put, List.setIfInBounds_toArray, List.set_cons_zero, List.set_cons_succ, i64_w, i32_w]
                                      rfl
                                    refine take_ (i := 5) (N := some 65) (v := ?_) (a' := ?_) #[true, true, true, true, true, true, false, false, false] rfl rfl (take_ofW HT_.out HW_.out (by kernel_rfl)) (fun _ _ _ h => h) (Or.inl ⟨by rfl, ?_⟩) hHeld ?_ ?_
                                    rotate_left
                                    · rintro w' ⟨s0, s1, s2, s3⟩
                                      go_simp
                                      with_reducible rfl
                                    rotate_left
                                    · simp only [Act.put, List.setIfInBounds_toArray, List.set_cons_zero, List.set_cons_succ, i64_w, i32_w]
                                      rfl
                                    refine join_ (σ := Nat) 1 #[true, true, true, true, true, true, true, true, false] (fun s_ => [(66, .agg #[.int .u32 t152, .int .u32 t153, .string t154]), (13, .pointer (some ⟨s_, 0, none⟩))]) (fun s_ w' => (w'.cell? ⟨gb148, 0, none⟩ = some (.int .u32 x149000_3) ∧ w'.cell? ⟨gb148, 1, none⟩ = some (.int .u32 x149001_3) ∧ w'.cell? ⟨gb148, 2, none⟩ = some (.string x149002_3) ∧ w'.cell? (ad151.add (x12_3).toNat) = some (.int .u32 (rd l4 x12_3))) ∧ (w'.heap[gb142]? = some (.cells #[.int .u32 a0_0, .int .u32 a0_1, .string a0_2] 24 (0, 0))) ∧ (w'.heap[gb148]? = some (.cells #[.int .u32 x149000_3, .int .u32 x149001_3, .string x149002_3] 24 (0, 0))) ∧ (w'.heap[s_]? = some (.cells #[.int .u32 0, .int .u32 0, .string (⟨#[]⟩ : ByteArray)] 24 (0, 0))) ∧ (w.heap.size ≤ s_) ∧ (w.heap.size ≤ s_) ∧ (gb142 ≠ s_) ∧ (s_ ≠ gb142) ∧ (gb148 ≠ s_) ∧ (s_ ≠ gb148) ∧ (Below w.heap.size w w')) ?_ ?_
                                    rotate_left
                                    · intro hCont
                                      refine two_ (i := 6) (j := 7) (Ni := some 66) (Nj := some 13) #[true, true, true, true, true, true, true, false, false] #[true, true, true, true, true, true, false, true, false] rfl rfl rfl rfl (two_of HT_.out (by kernel_rfl)) (by decide) (by decide) (fun K hK => ?_) (fun K hK => ?_)
                                      · skip
                                        refine goes_ Try.func11 (by kernel_rfl) rfl #[.agg #[.int .u32 x149000_3, .int .u32 x149001_3, .string x149002_3], .int .u32 a1, .int .u32 (rd l4 x12_3), .string (⟨#[110, 101, 120, 116]⟩ : ByteArray)] (by rfl) rfl rfl (by (try simp only [List.map_toArray, List.map_cons, List.map_nil]); first | done | rfl | (simp only [List.length_drop, List.length_take]; rfl)) ?_
                                        with_reducible refine (lane_Done.calls kj37 x149000_3 x149001_3 x149002_3 a1 (rd l4 x12_3) (⟨#[110, 101, 120, 116]⟩ : ByteArray) t152 t153 t154 _ A43.out).mono ?_
                                        rintro e w60 ⟨rfl, hb⟩
                                        refine ⟨_, rfl, ?_⟩
                                        have n0_ := Aside0.mk (blk_below (g := gb142) (o := .cells #[.int .u32 a0_0, .int .u32 a0_1, .string a0_2] 24 (0, 0)) (by (with_reducible repeat (first | refine blk_drewN ?_ _ | refine blk_drew ?_ | refine blk_alloc ?_ _)); exact BK142.out) hb)
                                        have n1_ := Aside0.mk (blk_below (g := gb148) (o := .cells #[.int .u32 x149000_3, .int .u32 x149001_3, .string x149002_3] 24 (0, 0)) (by (with_reducible repeat (first | refine blk_drewN ?_ _ | refine blk_drew ?_ | refine blk_alloc ?_ _)); exact BK148.out) hb)
                                        have n2_ := Aside0.mk (below_step (by repeat (first | (with_reducible first | exact HB.out | apply below_alloc | apply pw_below_drewN | apply below_drew1 | refine below_set ?_ GE142.out | refine below_set ?_ GE148.out) | exact HB.out)) hb)
                                        clear BK142
                                        clear BK148
                                        clear HB
                                        have BK142 := n0_
                                        have BK148 := n1_
                                        have HB := n2_
                                        clear n0_ n1_ n2_
                                        (try clear hb)
                                        (try clear hb2)
                                        (try clear hk)
                                        (try clear hi)
                                        refine hK.out _ _ ⟨(blk_cell BK148.out 0).trans rfl, (blk_cell BK148.out 1).trans rfl, (blk_cell BK148.out 2).trans rfl, ((HB.out.cell (World.block_lt_of_cell? w _ hw151_0)).trans hw151_0)⟩ (fun hHeld => ?_)
                                        clear hK K
                                        refine norm_ (a' := ?_) ?_ ?_
                                        rotate_left
                                        · show Act.put _ (some 66) _ = _
                                          simp only [Act.put, List.setIfInBounds_toArray, List.set_cons_zero, List.set_cons_succ, i64_w, i32_w]
                                          rfl
                                        refine one_ (i := 7) (N := some 13) #[true, true, true, true, true, true, true, true, false] rfl rfl (one_of HT_.out (by kernel_rfl)) (by decide) (fun K hK => ?_)
                                        refine box_step ?hg (N := 13) ?hd (cs := #[.int .u32 0, .int .u32 0, .string (⟨#[]⟩ : ByteArray)]) (t := 24) ?hr ?_; (case hd => rfl); (case hg => rfl); (case hr => first | (go_simp; done) | (go_simp; rfl))
                                        intro gb155 hg w61 hbox hb
                                        have n0_ := Aside0.mk (blk_below (g := gb142) (o := .cells #[.int .u32 a0_0, .int .u32 a0_1, .string a0_2] 24 (0, 0)) (by (with_reducible repeat (first | refine blk_drewN ?_ _ | refine blk_drew ?_ | refine blk_alloc ?_ _)); exact BK142.out) hb)
                                        have n1_ := Aside0.mk (blk_below (g := gb148) (o := .cells #[.int .u32 x149000_3, .int .u32 x149001_3, .string x149002_3] 24 (0, 0)) (by (with_reducible repeat (first | refine blk_drewN ?_ _ | refine blk_drew ?_ | refine blk_alloc ?_ _)); exact BK148.out) hb)
                                        have n2_ := Aside0.mk (below_step (by repeat (first | (with_reducible first | exact HB.out | apply below_alloc | apply pw_below_drewN | apply below_drew1 | refine below_set ?_ GE142.out | refine below_set ?_ GE148.out) | exact HB.out)) hb)
                                        have n3_ := Aside0.mk (hbox)
                                        have n4_ := Aside0.mk ((by rw [hg]; exact (below_size (by repeat (first | (with_reducible first | exact HB.out | apply below_alloc | apply pw_below_drewN | apply below_drew1 | refine below_set ?_ GE142.out | refine below_set ?_ GE148.out) | exact HB.out))) : w.heap.size ≤ gb155))
                                        have n5_ := Aside0.mk ((by rw [hg]; exact (below_size (by repeat (first | (with_reducible first | exact HB.out | apply below_alloc | apply pw_below_drewN | apply below_drew1 | refine below_set ?_ GE142.out | refine below_set ?_ GE148.out) | exact HB.out))) : w.heap.size ≤ gb155))
                                        have n6_ := Aside0.mk ((by rw [hg]; exact Nat.ne_of_lt (blk_lt (g := gb142) (o := .cells #[.int .u32 a0_0, .int .u32 a0_1, .string a0_2] 24 (0, 0)) (by (with_reducible repeat (first | refine blk_drewN ?_ _ | refine blk_drew ?_ | refine blk_alloc ?_ _)); exact BK142.out)) : gb142 ≠ gb155))
                                        have n7_ := Aside0.mk ((by rw [hg]; exact Nat.ne_of_gt (blk_lt (g := gb142) (o := .cells #[.int .u32 a0_0, .int .u32 a0_1, .string a0_2] 24 (0, 0)) (by (with_reducible repeat (first | refine blk_drewN ?_ _ | refine blk_drew ?_ | refine blk_alloc ?_ _)); exact BK142.out)) : gb155 ≠ gb142))
                                        have n8_ := Aside0.mk ((by rw [hg]; exact Nat.ne_of_lt (blk_lt (g := gb148) (o := .cells #[.int .u32 x149000_3, .int .u32 x149001_3, .string x149002_3] 24 (0, 0)) (by (with_reducible repeat (first | refine blk_drewN ?_ _ | refine blk_drew ?_ | refine blk_alloc ?_ _)); exact BK148.out)) : gb148 ≠ gb155))
                                        have n9_ := Aside0.mk ((by rw [hg]; exact Nat.ne_of_gt (blk_lt (g := gb148) (o := .cells #[.int .u32 x149000_3, .int .u32 x149001_3, .string x149002_3] 24 (0, 0)) (by (with_reducible repeat (first | refine blk_drewN ?_ _ | refine blk_drew ?_ | refine blk_alloc ?_ _)); exact BK148.out)) : gb155 ≠ gb148))
                                        clear BK142
                                        clear BK148
                                        clear HB
                                        have BK142 := n0_
                                        have BK148 := n1_
                                        have HB := n2_
                                        have BK155 := n3_
                                        have GW155 := n4_
                                        have GE155 := n5_
                                        have NB142_155 := n6_
                                        have NB155_142 := n7_
                                        have NB148_155 := n8_
                                        have NB155_148 := n9_
                                        clear n0_ n1_ n2_ n3_ n4_ n5_ n6_ n7_ n8_ n9_
                                        clear hb hbox hg
                                        refine hK.out _ _ ⟨(blk_cell BK148.out 0).trans rfl, (blk_cell BK148.out 1).trans rfl, (blk_cell BK148.out 2).trans rfl, ((HB.out.cell (World.block_lt_of_cell? w _ hw151_0)).trans hw151_0)⟩ (fun hHeld => ?_)
                                        clear hK K
                                        refine norm_ (a' := ?_) ?_ ?_
                                        rotate_left
                                        · show Act.put _ (some 13) _ = _
                                          simp only [Act.put, List.setIfInBounds_toArray, List.set_cons_zero, List.set_cons_succ, i64_w, i32_w]
                                          rfl
                                        exact norm_ (by simp only [putAll, Act.put, List.setIfInBounds_toArray, List.set_cons_zero, List.set_cons_succ]) (hCont (gb155) _ ⟨hHeld, (by (with_reducible repeat (first | refine blk_drewN ?_ _ | refine blk_drew ?_ | refine blk_alloc ?_ _)); exact BK142.out), (by (with_reducible repeat (first | refine blk_drewN ?_ _ | refine blk_drew ?_ | refine blk_alloc ?_ _)); exact BK148.out), (by (with_reducible repeat (first | refine blk_drewN ?_ _ | refine blk_drew ?_ | refine blk_alloc ?_ _)); exact BK155.out), GW155.out, GE155.out, NB142_155.out, NB155_142.out, NB148_155.out, NB155_148.out, (by repeat (first | (with_reducible first | exact HB.out | apply below_alloc | apply pw_below_drewN | apply below_drew1 | refine below_set ?_ GE142.out | refine below_set ?_ GE148.out | refine below_set ?_ GE155.out) | exact HB.out))⟩)
                                      · skip
                                        refine box_step ?hg (N := 13) ?hd (cs := #[.int .u32 0, .int .u32 0, .string (⟨#[]⟩ : ByteArray)]) (t := 24) ?hr ?_; (case hd => rfl); (case hg => rfl); (case hr => first | (go_simp; done) | (go_simp; rfl))
                                        intro gb155 hg w60 hbox hb
                                        have n0_ := Aside0.mk (blk_below (g := gb142) (o := .cells #[.int .u32 a0_0, .int .u32 a0_1, .string a0_2] 24 (0, 0)) (by (with_reducible repeat (first | refine blk_drewN ?_ _ | refine blk_drew ?_ | refine blk_alloc ?_ _)); exact BK142.out) hb)
                                        have n1_ := Aside0.mk (blk_below (g := gb148) (o := .cells #[.int .u32 x149000_3, .int .u32 x149001_3, .string x149002_3] 24 (0, 0)) (by (with_reducible repeat (first | refine blk_drewN ?_ _ | refine blk_drew ?_ | refine blk_alloc ?_ _)); exact BK148.out) hb)
                                        have n2_ := Aside0.mk (below_step (by repeat (first | (with_reducible first | exact HB.out | apply below_alloc | apply pw_below_drewN | apply below_drew1 | refine below_set ?_ GE142.out | refine below_set ?_ GE148.out) | exact HB.out)) hb)
                                        have n3_ := Aside0.mk (hbox)
                                        have n4_ := Aside0.mk ((by rw [hg]; exact (below_size (by repeat (first | (with_reducible first | exact HB.out | apply below_alloc | apply pw_below_drewN | apply below_drew1 | refine below_set ?_ GE142.out | refine below_set ?_ GE148.out) | exact HB.out))) : w.heap.size ≤ gb155))
                                        have n5_ := Aside0.mk ((by rw [hg]; exact (below_size (by repeat (first | (with_reducible first | exact HB.out | apply below_alloc | apply pw_below_drewN | apply below_drew1 | refine below_set ?_ GE142.out | refine below_set ?_ GE148.out) | exact HB.out))) : w.heap.size ≤ gb155))
                                        have n6_ := Aside0.mk ((by rw [hg]; exact Nat.ne_of_lt (blk_lt (g := gb142) (o := .cells #[.int .u32 a0_0, .int .u32 a0_1, .string a0_2] 24 (0, 0)) (by (with_reducible repeat (first | refine blk_drewN ?_ _ | refine blk_drew ?_ | refine blk_alloc ?_ _)); exact BK142.out)) : gb142 ≠ gb155))
                                        have n7_ := Aside0.mk ((by rw [hg]; exact Nat.ne_of_gt (blk_lt (g := gb142) (o := .cells #[.int .u32 a0_0, .int .u32 a0_1, .string a0_2] 24 (0, 0)) (by (with_reducible repeat (first | refine blk_drewN ?_ _ | refine blk_drew ?_ | refine blk_alloc ?_ _)); exact BK142.out)) : gb155 ≠ gb142))
                                        have n8_ := Aside0.mk ((by rw [hg]; exact Nat.ne_of_lt (blk_lt (g := gb148) (o := .cells #[.int .u32 x149000_3, .int .u32 x149001_3, .string x149002_3] 24 (0, 0)) (by (with_reducible repeat (first | refine blk_drewN ?_ _ | refine blk_drew ?_ | refine blk_alloc ?_ _)); exact BK148.out)) : gb148 ≠ gb155))
                                        have n9_ := Aside0.mk ((by rw [hg]; exact Nat.ne_of_gt (blk_lt (g := gb148) (o := .cells #[.int .u32 x149000_3, .int .u32 x149001_3, .string x149002_3] 24 (0, 0)) (by (with_reducible repeat (first | refine blk_drewN ?_ _ | refine blk_drew ?_ | refine blk_alloc ?_ _)); exact BK148.out)) : gb155 ≠ gb148))
                                        clear BK142
                                        clear BK148
                                        clear HB
                                        have BK142 := n0_
                                        have BK148 := n1_
                                        have HB := n2_
                                        have BK155 := n3_
                                        have GW155 := n4_
                                        have GE155 := n5_
                                        have NB142_155 := n6_
                                        have NB155_142 := n7_
                                        have NB148_155 := n8_
                                        have NB155_148 := n9_
                                        clear n0_ n1_ n2_ n3_ n4_ n5_ n6_ n7_ n8_ n9_
                                        clear hb hbox hg
                                        refine hK.out _ _ ⟨(blk_cell BK148.out 0).trans rfl, (blk_cell BK148.out 1).trans rfl, (blk_cell BK148.out 2).trans rfl, ((HB.out.cell (World.block_lt_of_cell? w _ hw151_0)).trans hw151_0)⟩ (fun hHeld => ?_)
                                        clear hK K
                                        refine norm_ (a' := ?_) ?_ ?_
                                        rotate_left
                                        · show Act.put _ (some 13) _ = _
                                          simp only [Act.put, List.setIfInBounds_toArray, List.set_cons_zero, List.set_cons_succ, i64_w, i32_w]
                                          rfl
                                        refine one_ (i := 6) (N := some 66) #[true, true, true, true, true, true, true, true, false] rfl rfl (one_of HT_.out (by kernel_rfl)) (by decide) (fun K hK => ?_)
                                        refine goes_ Try.func11 (by kernel_rfl) rfl #[.agg #[.int .u32 x149000_3, .int .u32 x149001_3, .string x149002_3], .int .u32 a1, .int .u32 (rd l4 x12_3), .string (⟨#[110, 101, 120, 116]⟩ : ByteArray)] (by rfl) rfl rfl (by (try simp only [List.map_toArray, List.map_cons, List.map_nil]); first | done | rfl | (simp only [List.length_drop, List.length_take]; rfl)) ?_
                                        with_reducible refine (lane_Done.calls kj37 x149000_3 x149001_3 x149002_3 a1 (rd l4 x12_3) (⟨#[110, 101, 120, 116]⟩ : ByteArray) t152 t153 t154 _ A43.out).mono ?_
                                        rintro e w61 ⟨rfl, hb⟩
                                        refine ⟨_, rfl, ?_⟩
                                        have n0_ := Aside0.mk (blk_below (g := gb142) (o := .cells #[.int .u32 a0_0, .int .u32 a0_1, .string a0_2] 24 (0, 0)) (by (with_reducible repeat (first | refine blk_drewN ?_ _ | refine blk_drew ?_ | refine blk_alloc ?_ _)); exact BK142.out) hb)
                                        have n1_ := Aside0.mk (blk_below (g := gb148) (o := .cells #[.int .u32 x149000_3, .int .u32 x149001_3, .string x149002_3] 24 (0, 0)) (by (with_reducible repeat (first | refine blk_drewN ?_ _ | refine blk_drew ?_ | refine blk_alloc ?_ _)); exact BK148.out) hb)
                                        have n2_ := Aside0.mk (blk_below (g := gb155) (o := .cells #[.int .u32 0, .int .u32 0, .string (⟨#[]⟩ : ByteArray)] 24 (0, 0)) (by (with_reducible repeat (first | refine blk_drewN ?_ _ | refine blk_drew ?_ | refine blk_alloc ?_ _)); exact BK155.out) hb)
                                        have n3_ := Aside0.mk (below_step (by repeat (first | (with_reducible first | exact HB.out | apply below_alloc | apply pw_below_drewN | apply below_drew1 | refine below_set ?_ GE142.out | refine below_set ?_ GE148.out | refine below_set ?_ GE155.out) | exact HB.out)) hb)
                                        clear BK142
                                        clear BK148
                                        clear BK155
                                        clear HB
                                        have BK142 := n0_
                                        have BK148 := n1_
                                        have BK155 := n2_
                                        have HB := n3_
                                        clear n0_ n1_ n2_ n3_
                                        (try clear hb)
                                        (try clear hb2)
                                        (try clear hk)
                                        (try clear hi)
                                        refine hK.out _ _ ⟨(blk_cell BK148.out 0).trans rfl, (blk_cell BK148.out 1).trans rfl, (blk_cell BK148.out 2).trans rfl, ((HB.out.cell (World.block_lt_of_cell? w _ hw151_0)).trans hw151_0)⟩ (fun hHeld => ?_)
                                        clear hK K
                                        refine norm_ (a' := ?_) ?_ ?_
                                        rotate_left
                                        · show Act.put _ (some 66) _ = _
                                          simp only [Act.put, List.setIfInBounds_toArray, List.set_cons_zero, List.set_cons_succ, i64_w, i32_w]
                                          rfl
                                        exact norm_ (by simp only [putAll, Act.put, List.setIfInBounds_toArray, List.set_cons_zero, List.set_cons_succ]) (hCont (gb155) _ ⟨hHeld, (by (with_reducible repeat (first | refine blk_drewN ?_ _ | refine blk_drew ?_ | refine blk_alloc ?_ _)); exact BK142.out), (by (with_reducible repeat (first | refine blk_drewN ?_ _ | refine blk_drew ?_ | refine blk_alloc ?_ _)); exact BK148.out), (by (with_reducible repeat (first | refine blk_drewN ?_ _ | refine blk_drew ?_ | refine blk_alloc ?_ _)); exact BK155.out), GW155.out, GE155.out, NB142_155.out, NB155_142.out, NB148_155.out, NB155_148.out, (by repeat (first | (with_reducible first | exact HB.out | apply below_alloc | apply pw_below_drewN | apply below_drew1 | refine below_set ?_ GE142.out | refine below_set ?_ GE148.out | refine below_set ?_ GE155.out) | exact HB.out))⟩)
                                    rintro gb155 w62 ⟨hS_, h0_, h1_, h2_, h3_, h4_, h5_, h6_, h7_, h8_, h9_⟩
                                    have n0_ : Aside0 (w62.heap[gb142]? = some (.cells #[.int .u32 a0_0, .int .u32 a0_1, .string a0_2] 24 (0, 0))) := ⟨h0_⟩
                                    have n1_ : Aside0 (w62.heap[gb148]? = some (.cells #[.int .u32 x149000_3, .int .u32 x149001_3, .string x149002_3] 24 (0, 0))) := ⟨h1_⟩
                                    have n2_ : Aside0 (w62.heap[gb155]? = some (.cells #[.int .u32 0, .int .u32 0, .string (⟨#[]⟩ : ByteArray)] 24 (0, 0))) := ⟨h2_⟩
                                    have n3_ : Aside0 (w.heap.size ≤ gb155) := ⟨h3_⟩
                                    have n4_ : Aside0 (w.heap.size ≤ gb155) := ⟨h4_⟩
                                    have n5_ : Aside0 (gb142 ≠ gb155) := ⟨h5_⟩
                                    have n6_ : Aside0 (gb155 ≠ gb142) := ⟨h6_⟩
                                    have n7_ : Aside0 (gb148 ≠ gb155) := ⟨h7_⟩
                                    have n8_ : Aside0 (gb155 ≠ gb148) := ⟨h8_⟩
                                    have n9_ : Aside0 (Below w.heap.size w w62) := ⟨h9_⟩
                                    clear BK142
                                    clear BK148
                                    clear HB
                                    clear h0_ h1_ h2_ h3_ h4_ h5_ h6_ h7_ h8_ h9_
                                    have BK142 := n0_
                                    have BK148 := n1_
                                    have BK155 := n2_
                                    have GW155 := n3_
                                    have GE155 := n4_
                                    have NB142_155 := n5_
                                    have NB155_142 := n6_
                                    have NB148_155 := n7_
                                    have NB155_148 := n8_
                                    have HB := n9_
                                    clear n0_ n1_ n2_ n3_ n4_ n5_ n6_ n7_ n8_ n9_
                                    have hHeld : w62.cell? ⟨gb148, 0, none⟩ = some (.int .u32 x149000_3) ∧ w62.cell? ⟨gb148, 1, none⟩ = some (.int .u32 x149001_3) ∧ w62.cell? ⟨gb148, 2, none⟩ = some (.string x149002_3) ∧ w62.cell? (ad151.add (x12_3).toNat) = some (.int .u32 (rd l4 x12_3)) := hS_
                                    refine norm_ (a' := ?_) ?_ ?_
                                    rotate_left
                                    · simp only [putAll, Act.put, List.setIfInBounds_toArray, List.set_cons_zero, List.set_cons_succ]
                                      rfl
                                    refine one_ (i := 8) (N := none) #[true, true, true, true, true, true, true, true, true] rfl rfl (one_of HT_.out (by kernel_rfl)) (by decide) (fun K hK => ?_)
                                    have hs63 : w62.cell? ⟨gb155, 0, none⟩ = some (.int .u32 0) := (blk_cell BK155.out 0).trans rfl
                                    have hfs63 := blk_frozen BK155.out 0
                                    have hns63_0 := NB142_155.out
                                    have hns63_1 := NB148_155.out
                                    have hms63_0 := NB155_142.out
                                    have hms63_1 := NB155_148.out
                                    have hs64 : w62.cell? ⟨gb155, 1, none⟩ = some (.int .u32 0) := (blk_cell BK155.out 1).trans rfl
                                    have hfs64 := blk_frozen BK155.out 1
                                    have hns64_0 := NB142_155.out
                                    have hns64_1 := NB148_155.out
                                    have hms64_0 := NB155_142.out
                                    have hms64_1 := NB155_148.out
                                    have hs65 : w62.cell? ⟨gb155, 2, none⟩ = some (.string (⟨#[]⟩ : ByteArray)) := (blk_cell BK155.out 2).trans rfl
                                    have hfs65 := blk_frozen BK155.out 2
                                    have hns65_0 := NB142_155.out
                                    have hns65_1 := NB148_155.out
                                    have hms65_0 := NB155_142.out
                                    have hms65_1 := NB155_148.out
                                    refine skip_ (w1 := ?_) (by rfl) rfl ?_ ?_
                                    rotate_left
                                    · go_simp
                                      rfl
                                    refine hK.out _ _ ⟨((cell_far (p := ⟨gb155, _, none⟩) NB148_155.out _).trans (((cell_far (p := ⟨gb155, _, none⟩) NB148_155.out _).trans (((cell_far (p := ⟨gb155, _, none⟩) NB148_155.out _).trans (hHeld.1)))))), ((cell_far (p := ⟨gb155, _, none⟩) NB148_155.out _).trans (((cell_far (p := ⟨gb155, _, none⟩) NB148_155.out _).trans (((cell_far (p := ⟨gb155, _, none⟩) NB148_155.out _).trans (hHeld.2.1)))))), ((cell_far (p := ⟨gb155, _, none⟩) NB148_155.out _).trans (((cell_far (p := ⟨gb155, _, none⟩) NB148_155.out _).trans (((cell_far (p := ⟨gb155, _, none⟩) NB148_155.out _).trans (hHeld.2.2.1)))))), ((cell_far (p := ⟨gb155, _, none⟩) (by first | exact Nat.ne_of_lt (Nat.lt_of_lt_of_le (by have := World.block_lt_of_cell? _ _ hw151_0; first | rwa [add_block] at this | exact this) GW155.out) | (rw [add_block]; exact Nat.ne_of_lt (Nat.lt_of_lt_of_le (by have := World.block_lt_of_cell? _ _ hw151_0; first | rwa [add_block] at this | exact this) GW155.out)) | (show (Addr.add _ _).block ≠ _; rw [add_block]; exact Nat.ne_of_lt (Nat.lt_of_lt_of_le (by have := World.block_lt_of_cell? _ _ hw151_0; first | rwa [add_block] at this | exact this) GW155.out)) | (dsimp only; exact Nat.ne_of_lt (Nat.lt_of_lt_of_le (by have := World.block_lt_of_cell? _ _ hw151_0; first | rwa [add_block] at this | exact this) GW155.out))) _).trans (((cell_far (p := ⟨gb155, _, none⟩) (by first | exact Nat.ne_of_lt (Nat.lt_of_lt_of_le (by have := World.block_lt_of_cell? _ _ hw151_0; first | rwa [add_block] at this | exact this) GW155.out) | (rw [add_block]; exact Nat.ne_of_lt (Nat.lt_of_lt_of_le (by have := World.block_lt_of_cell? _ _ hw151_0; first | rwa [add_block] at this | exact this) GW155.out)) | (show (Addr.add _ _).block ≠ _; rw [add_block]; exact Nat.ne_of_lt (Nat.lt_of_lt_of_le (by have := World.block_lt_of_cell? _ _ hw151_0; first | rwa [add_block] at this | exact this) GW155.out)) | (dsimp only; exact Nat.ne_of_lt (Nat.lt_of_lt_of_le (by have := World.block_lt_of_cell? _ _ hw151_0; first | rwa [add_block] at this | exact this) GW155.out))) _).trans (((cell_far (p := ⟨gb155, _, none⟩) (by first | exact Nat.ne_of_lt (Nat.lt_of_lt_of_le (by have := World.block_lt_of_cell? _ _ hw151_0; first | rwa [add_block] at this | exact this) GW155.out) | (rw [add_block]; exact Nat.ne_of_lt (Nat.lt_of_lt_of_le (by have := World.block_lt_of_cell? _ _ hw151_0; first | rwa [add_block] at this | exact this) GW155.out)) | (show (Addr.add _ _).block ≠ _; rw [add_block]; exact Nat.ne_of_lt (Nat.lt_of_lt_of_le (by have := World.block_lt_of_cell? _ _ hw151_0; first | rwa [add_block] at this | exact this) GW155.out)) | (dsimp only; exact Nat.ne_of_lt (Nat.lt_of_lt_of_le (by have := World.block_lt_of_cell? _ _ hw151_0; first | rwa [add_block] at this | exact this) GW155.out))) _).trans (hHeld.2.2.2))))))⟩ (fun hHeld => ?_)
                                    clear hK K
                                    refine done_ (done_of HT_.out (by kernel_rfl)) ?_
                                    have hnb66 := NB155_142.out
                                    have hnc66 := NB142_155.out
                                    have hnb67 := NB155_148.out
                                    have hnc67 := NB148_155.out
                                    have hcz68_0 : w62.cell? ⟨gb155, 0, none⟩ = some (.int .u32 0) := (blk_cell BK155.out 0).trans rfl
                                    have hcz68_1 : w62.cell? ⟨gb155, 1, none⟩ = some (.int .u32 0) := (blk_cell BK155.out 1).trans rfl
                                    have hcz68_2 : w62.cell? ⟨gb155, 2, none⟩ = some (.string (⟨#[]⟩ : ByteArray)) := (blk_cell BK155.out 2).trans rfl
                                    have hfz68_0 := blk_frozen BK155.out 0
                                    have hfz68_1 := blk_frozen BK155.out 1
                                    have hfz68_2 := blk_frozen BK155.out 2
                                    have hnb69 := NB148_142.out
                                    have hnc69 := NB142_148.out
                                    have hcz70_0 : w62.cell? ⟨gb148, 0, none⟩ = some (.int .u32 x149000_3) := (blk_cell BK148.out 0).trans rfl
                                    have hcz70_1 : w62.cell? ⟨gb148, 1, none⟩ = some (.int .u32 x149001_3) := (blk_cell BK148.out 1).trans rfl
                                    have hcz70_2 : w62.cell? ⟨gb148, 2, none⟩ = some (.string x149002_3) := (blk_cell BK148.out 2).trans rfl
                                    have hfz70_0 := blk_frozen BK148.out 0
                                    have hfz70_1 := blk_frozen BK148.out 1
                                    have hfz70_2 := blk_frozen BK148.out 2
                                    try go_wp2
                                    go_ret
                                    exact ⟨by first | rfl | (simp [errW_none, errW_some] <;> rfl) | (simp [*, errW_none, errW_some] <;> rfl), by repeat (first | (with_reducible first | exact HB.out | apply below_alloc | apply pw_below_drewN | apply below_drew1 | refine below_set ?_ GE142.out | refine below_set ?_ GE148.out | refine below_set ?_ GE155.out) | exact HB.out)⟩
                                  · rw [if_neg c58] at H
                                    have c58b0 : decide (((x149001_3 + 1) % 4294967296) < t153) = false := decide_eq_false c58
                                    clear c58
                                    replace H := Option.bind_eq_some_iff.mp H
                                    obtain ⟨t156, A710, H⟩ := H
                                    replace H : (if t156 = 3 then (lamellalaw08_LaneLives.l0 kj37 a1 a2 a3 l4 (wrap64 (x12_3 + 1)) t152 t153 t154) else (some false)) = some r := H
                                    have A71 := Aside0.mk A710
                                    clear A710
                                    by_cases c72 : t156 = 3
                                    · rw [if_pos c72] at H
                                      have c72b0 : (t156 == 3) = true := beq_iff_eq.mpr c72
                                      have c72b1 : (t156 != 3) = false := bne_eq_false_iff_eq.mpr c72
                                      clear c72
                                      have H' := Aside0.mk H
                                      clear H
                                      try go_wp2
                                      have n0_ := Aside0.mk (blk_drew BK142.out)
                                      have n1_ := Aside0.mk (blk_drew BK148.out)
                                      have n2_ := Aside0.mk (below_drew1 HB.out)
                                      clear BK142
                                      clear BK148
                                      clear HB
                                      have BK142 := n0_
                                      have BK148 := n1_
                                      have HB := n2_
                                      clear n0_ n1_ n2_
                                      have p151 : 0 ≤ (x12_3 : Int) := of_decide_eq_true (by first | (with_reducible assumption) | assumption)
                                      have q151 : x12_3 < (l4.length : Int) := of_decide_eq_true (by first | (with_reducible assumption) | assumption)
                                      obtain ⟨ad151, e151, hx151_0⟩ := Kd.at_int HR4.out x12_3 p151 q151
                                      have hw151_0 := hx151_0
                                      cases e151
                                      replace hx151_0 := (HB.out.cell (World.block_lt_of_cell? w _ hx151_0)).trans hx151_0
                                      replace p151 := eq_true p151
                                      replace q151 := eq_true q151
                                      refine start_ (n := 9) (S := fun w' => w'.cell? ⟨gb148, 0, none⟩ = some (.int .u32 x149000_3) ∧ w'.cell? ⟨gb148, 1, none⟩ = some (.int .u32 x149001_3) ∧ w'.cell? ⟨gb148, 2, none⟩ = some (.string x149002_3) ∧ w'.cell? (ad151.add (x12_3).toNat) = some (.int .u32 (rd l4 x12_3))) (ds := []) #[false, false, false, false, false, false, false, false, false] (by kernel_rfl) rfl rfl ⟨(blk_cell BK148.out 0).trans rfl, (blk_cell BK148.out 1).trans rfl, (blk_cell BK148.out 2).trans rfl, ((HB.out.cell (World.block_lt_of_cell? w _ hw151_0)).trans hw151_0)⟩ (fun hHeld => ?_); refine with_tabW lamellalaw08_LaneLives.tab11 lamellalaw08_LaneLives.bits11 (fun HT_ HW_ => ?_)
                                      generalize wc.drew = w73 at BK142 BK148 HB hx151_0 hHeld ⊢
                                      refine pure_ (i := 1) (N := some 61) (v := ?_) (a' := ?_) #[false, true, false, false, false, false, false, false, false] rfl rfl (any_of HT_.out (by kernel_rfl)) (fun _ _ _ h => h) (Or.inl ⟨by rfl, ?_⟩) ?_ ?_
                                      rotate_left
                                      · intro w'
                                        go_simp
                                        with_reducible rfl
                                      rotate_left
                                      · simp only [Act.put, List.setIfInBounds_toArray, List.set_cons_zero, List.set_cons_succ, i64_w, i32_w]
                                        rfl
                                      refine pure_ (i := 2) (N := some 62) (v := ?_) (a' := ?_) #[false, true, true, false, false, false, false, false, false] rfl rfl (any_of HT_.out (by kernel_rfl)) (fun _ _ _ h => h) (Or.inl ⟨by rfl, ?_⟩) ?_ ?_
                                      rotate_left
                                      · intro w'
                                        go_simp
                                        with_reducible rfl
                                      rotate_left
                                      · simp only [Act.put, List.setIfInBounds_toArray, List.set_cons_zero, List.set_cons_succ, i64_w, i32_w]
                                        rfl
                                      refine pure_ (i := 3) (N := some 63) (v := ?_) (a' := ?_) #[false, true, true, true, false, false, false, false, false] rfl rfl (any_of HT_.out (by kernel_rfl)) (fun _ _ _ h => h) (Or.inl ⟨by rfl, ?_⟩) ?_ ?_
                                      rotate_left
                                      · intro w'
                                        go_simp
                                        with_reducible rfl
                                      rotate_left
                                      · simp only [Act.put, List.setIfInBounds_toArray, List.set_cons_zero, List.set_cons_succ, i64_w, i32_w]
                                        rfl
                                      refine pure_ (i := 4) (N := some 64) (v := ?_) (a' := ?_) #[false, true, true, true, true, false, false, false, false] rfl rfl (any_of HT_.out (by kernel_rfl)) (fun _ _ _ h => h) (Or.inl ⟨by rfl, ?_⟩) ?_ ?_
                                      rotate_left
                                      · intro w'
                                        go_simp
                                        with_reducible rfl
                                      rotate_left
                                      · simp only [Act.put, List.setIfInBounds_toArray, List.set_cons_zero, List.set_cons_succ, i64_w, i32_w]
                                        rfl
                                      refine take_ (i := 0) (N := some 60) (v := ?_) (a' := ?_) #[true, true, true, true, true, false, false, false, false] rfl rfl (take_ofW HT_.out HW_.out (by kernel_rfl)) (fun _ _ _ h => h) (Or.inl ⟨by rfl, ?_⟩) hHeld ?_ ?_
                                      rotate_left
                                      · rintro w' ⟨s0, s1, s2, s3⟩
                                        go_simp
                                        with_reducible rfl
                                      rotate_left
                                      · simp only [Act.put, List.setIfInBounds_toArray, List.set_cons_zero, List.set_cons_succ, i64_w, i32_w]
                                        rfl
                                      refine take_ (i := 5) (N := some 65) (v := ?_) (a' := ?_) #[true, true, true, true, true, true, false, false, false] rfl rfl (take_ofW HT_.out HW_.out (by kernel_rfl)) (fun _ _ _ h => h) (Or.inl ⟨by rfl, ?_⟩) hHeld ?_ ?_
                                      rotate_left
                                      · rintro w' ⟨s0, s1, s2, s3⟩
                                        go_simp
                                        with_reducible rfl
                                      rotate_left
                                      · simp only [Act.put, List.setIfInBounds_toArray, List.set_cons_zero, List.set_cons_succ, i64_w, i32_w]
                                        rfl
                                      refine join_ (σ := Nat) 1 #[true, true, true, true, true, true, true, true, false] (fun s_ => [(66, .agg #[.int .u32 t152, .int .u32 t153, .string t154]), (13, .pointer (some ⟨s_, 0, none⟩))]) (fun s_ w' => (w'.cell? ⟨gb148, 0, none⟩ = some (.int .u32 x149000_3) ∧ w'.cell? ⟨gb148, 1, none⟩ = some (.int .u32 x149001_3) ∧ w'.cell? ⟨gb148, 2, none⟩ = some (.string x149002_3) ∧ w'.cell? (ad151.add (x12_3).toNat) = some (.int .u32 (rd l4 x12_3))) ∧ (w'.heap[gb142]? = some (.cells #[.int .u32 a0_0, .int .u32 a0_1, .string a0_2] 24 (0, 0))) ∧ (w'.heap[gb148]? = some (.cells #[.int .u32 x149000_3, .int .u32 x149001_3, .string x149002_3] 24 (0, 0))) ∧ (w'.heap[s_]? = some (.cells #[.int .u32 0, .int .u32 0, .string (⟨#[]⟩ : ByteArray)] 24 (0, 0))) ∧ (w.heap.size ≤ s_) ∧ (w.heap.size ≤ s_) ∧ (gb142 ≠ s_) ∧ (s_ ≠ gb142) ∧ (gb148 ≠ s_) ∧ (s_ ≠ gb148) ∧ (Below w.heap.size w w')) ?_ ?_
                                      rotate_left
                                      · intro hCont
                                        refine two_ (i := 6) (j := 7) (Ni := some 66) (Nj := some 13) #[true, true, true, true, true, true, true, false, false] #[true, true, true, true, true, true, false, true, false] rfl rfl rfl rfl (two_of HT_.out (by kernel_rfl)) (by decide) (by decide) (fun K hK => ?_) (fun K hK => ?_)
                                        · skip
                                          refine goes_ Try.func11 (by kernel_rfl) rfl #[.agg #[.int .u32 x149000_3, .int .u32 x149001_3, .string x149002_3], .int .u32 a1, .int .u32 (rd l4 x12_3), .string (⟨#[110, 101, 120, 116]⟩ : ByteArray)] (by rfl) rfl rfl (by (try simp only [List.map_toArray, List.map_cons, List.map_nil]); first | done | rfl | (simp only [List.length_drop, List.length_take]; rfl)) ?_
                                          with_reducible refine (lane_Done.calls kj37 x149000_3 x149001_3 x149002_3 a1 (rd l4 x12_3) (⟨#[110, 101, 120, 116]⟩ : ByteArray) t152 t153 t154 _ A43.out).mono ?_
                                          rintro e w74 ⟨rfl, hb⟩
                                          refine ⟨_, rfl, ?_⟩
                                          have n0_ := Aside0.mk (blk_below (g := gb142) (o := .cells #[.int .u32 a0_0, .int .u32 a0_1, .string a0_2] 24 (0, 0)) (by (with_reducible repeat (first | refine blk_drewN ?_ _ | refine blk_drew ?_ | refine blk_alloc ?_ _)); exact BK142.out) hb)
                                          have n1_ := Aside0.mk (blk_below (g := gb148) (o := .cells #[.int .u32 x149000_3, .int .u32 x149001_3, .string x149002_3] 24 (0, 0)) (by (with_reducible repeat (first | refine blk_drewN ?_ _ | refine blk_drew ?_ | refine blk_alloc ?_ _)); exact BK148.out) hb)
                                          have n2_ := Aside0.mk (below_step (by repeat (first | (with_reducible first | exact HB.out | apply below_alloc | apply pw_below_drewN | apply below_drew1 | refine below_set ?_ GE142.out | refine below_set ?_ GE148.out) | exact HB.out)) hb)
                                          clear BK142
                                          clear BK148
                                          clear HB
                                          have BK142 := n0_
                                          have BK148 := n1_
                                          have HB := n2_
                                          clear n0_ n1_ n2_
                                          (try clear hb)
                                          (try clear hb2)
                                          (try clear hk)
                                          (try clear hi)
                                          refine hK.out _ _ ⟨(blk_cell BK148.out 0).trans rfl, (blk_cell BK148.out 1).trans rfl, (blk_cell BK148.out 2).trans rfl, ((HB.out.cell (World.block_lt_of_cell? w _ hw151_0)).trans hw151_0)⟩ (fun hHeld => ?_)
                                          clear hK K
                                          refine norm_ (a' := ?_) ?_ ?_
                                          rotate_left
                                          · show Act.put _ (some 66) _ = _
                                            simp only [Act.put, List.setIfInBounds_toArray, List.set_cons_zero, List.set_cons_succ, i64_w, i32_w]
                                            rfl
                                          refine one_ (i := 7) (N := some 13) #[true, true, true, true, true, true, true, true, false] rfl rfl (one_of HT_.out (by kernel_rfl)) (by decide) (fun K hK => ?_)
                                          refine box_step ?hg (N := 13) ?hd (cs := #[.int .u32 0, .int .u32 0, .string (⟨#[]⟩ : ByteArray)]) (t := 24) ?hr ?_; (case hd => rfl); (case hg => rfl); (case hr => first | (go_simp; done) | (go_simp; rfl))
                                          intro gb155 hg w75 hbox hb
                                          have n0_ := Aside0.mk (blk_below (g := gb142) (o := .cells #[.int .u32 a0_0, .int .u32 a0_1, .string a0_2] 24 (0, 0)) (by (with_reducible repeat (first | refine blk_drewN ?_ _ | refine blk_drew ?_ | refine blk_alloc ?_ _)); exact BK142.out) hb)
                                          have n1_ := Aside0.mk (blk_below (g := gb148) (o := .cells #[.int .u32 x149000_3, .int .u32 x149001_3, .string x149002_3] 24 (0, 0)) (by (with_reducible repeat (first | refine blk_drewN ?_ _ | refine blk_drew ?_ | refine blk_alloc ?_ _)); exact BK148.out) hb)
                                          have n2_ := Aside0.mk (below_step (by repeat (first | (with_reducible first | exact HB.out | apply below_alloc | apply pw_below_drewN | apply below_drew1 | refine below_set ?_ GE142.out | refine below_set ?_ GE148.out) | exact HB.out)) hb)
                                          have n3_ := Aside0.mk (hbox)
                                          have n4_ := Aside0.mk ((by rw [hg]; exact (below_size (by repeat (first | (with_reducible first | exact HB.out | apply below_alloc | apply pw_below_drewN | apply below_drew1 | refine below_set ?_ GE142.out | refine below_set ?_ GE148.out) | exact HB.out))) : w.heap.size ≤ gb155))
                                          have n5_ := Aside0.mk ((by rw [hg]; exact (below_size (by repeat (first | (with_reducible first | exact HB.out | apply below_alloc | apply pw_below_drewN | apply below_drew1 | refine below_set ?_ GE142.out | refine below_set ?_ GE148.out) | exact HB.out))) : w.heap.size ≤ gb155))
                                          have n6_ := Aside0.mk ((by rw [hg]; exact Nat.ne_of_lt (blk_lt (g := gb142) (o := .cells #[.int .u32 a0_0, .int .u32 a0_1, .string a0_2] 24 (0, 0)) (by (with_reducible repeat (first | refine blk_drewN ?_ _ | refine blk_drew ?_ | refine blk_alloc ?_ _)); exact BK142.out)) : gb142 ≠ gb155))
                                          have n7_ := Aside0.mk ((by rw [hg]; exact Nat.ne_of_gt (blk_lt (g := gb142) (o := .cells #[.int .u32 a0_0, .int .u32 a0_1, .string a0_2] 24 (0, 0)) (by (with_reducible repeat (first | refine blk_drewN ?_ _ | refine blk_drew ?_ | refine blk_alloc ?_ _)); exact BK142.out)) : gb155 ≠ gb142))
                                          have n8_ := Aside0.mk ((by rw [hg]; exact Nat.ne_of_lt (blk_lt (g := gb148) (o := .cells #[.int .u32 x149000_3, .int .u32 x149001_3, .string x149002_3] 24 (0, 0)) (by (with_reducible repeat (first | refine blk_drewN ?_ _ | refine blk_drew ?_ | refine blk_alloc ?_ _)); exact BK148.out)) : gb148 ≠ gb155))
                                          have n9_ := Aside0.mk ((by rw [hg]; exact Nat.ne_of_gt (blk_lt (g := gb148) (o := .cells #[.int .u32 x149000_3, .int .u32 x149001_3, .string x149002_3] 24 (0, 0)) (by (with_reducible repeat (first | refine blk_drewN ?_ _ | refine blk_drew ?_ | refine blk_alloc ?_ _)); exact BK148.out)) : gb155 ≠ gb148))
                                          clear BK142
                                          clear BK148
                                          clear HB
                                          have BK142 := n0_
                                          have BK148 := n1_
                                          have HB := n2_
                                          have BK155 := n3_
                                          have GW155 := n4_
                                          have GE155 := n5_
                                          have NB142_155 := n6_
                                          have NB155_142 := n7_
                                          have NB148_155 := n8_
                                          have NB155_148 := n9_
                                          clear n0_ n1_ n2_ n3_ n4_ n5_ n6_ n7_ n8_ n9_
                                          clear hb hbox hg
                                          refine hK.out _ _ ⟨(blk_cell BK148.out 0).trans rfl, (blk_cell BK148.out 1).trans rfl, (blk_cell BK148.out 2).trans rfl, ((HB.out.cell (World.block_lt_of_cell? w _ hw151_0)).trans hw151_0)⟩ (fun hHeld => ?_)
                                          clear hK K
                                          refine norm_ (a' := ?_) ?_ ?_
                                          rotate_left
                                          · show Act.put _ (some 13) _ = _
                                            simp only [Act.put, List.setIfInBounds_toArray, List.set_cons_zero, List.set_cons_succ, i64_w, i32_w]
                                            rfl
                                          exact norm_ (by simp only [putAll, Act.put, List.setIfInBounds_toArray, List.set_cons_zero, List.set_cons_succ]) (hCont (gb155) _ ⟨hHeld, (by (with_reducible repeat (first | refine blk_drewN ?_ _ | refine blk_drew ?_ | refine blk_alloc ?_ _)); exact BK142.out), (by (with_reducible repeat (first | refine blk_drewN ?_ _ | refine blk_drew ?_ | refine blk_alloc ?_ _)); exact BK148.out), (by (with_reducible repeat (first | refine blk_drewN ?_ _ | refine blk_drew ?_ | refine blk_alloc ?_ _)); exact BK155.out), GW155.out, GE155.out, NB142_155.out, NB155_142.out, NB148_155.out, NB155_148.out, (by repeat (first | (with_reducible first | exact HB.out | apply below_alloc | apply pw_below_drewN | apply below_drew1 | refine below_set ?_ GE142.out | refine below_set ?_ GE148.out | refine below_set ?_ GE155.out) | exact HB.out))⟩)
                                        · skip
                                          refine box_step ?hg (N := 13) ?hd (cs := #[.int .u32 0, .int .u32 0, .string (⟨#[]⟩ : ByteArray)]) (t := 24) ?hr ?_; (case hd => rfl); (case hg => rfl); (case hr => first | (go_simp; done) | (go_simp; rfl))
                                          intro gb155 hg w74 hbox hb
                                          have n0_ := Aside0.mk (blk_below (g := gb142) (o := .cells #[.int .u32 a0_0, .int .u32 a0_1, .string a0_2] 24 (0, 0)) (by (with_reducible repeat (first | refine blk_drewN ?_ _ | refine blk_drew ?_ | refine blk_alloc ?_ _)); exact BK142.out) hb)
                                          have n1_ := Aside0.mk (blk_below (g := gb148) (o := .cells #[.int .u32 x149000_3, .int .u32 x149001_3, .string x149002_3] 24 (0, 0)) (by (with_reducible repeat (first | refine blk_drewN ?_ _ | refine blk_drew ?_ | refine blk_alloc ?_ _)); exact BK148.out) hb)
                                          have n2_ := Aside0.mk (below_step (by repeat (first | (with_reducible first | exact HB.out | apply below_alloc | apply pw_below_drewN | apply below_drew1 | refine below_set ?_ GE142.out | refine below_set ?_ GE148.out) | exact HB.out)) hb)
                                          have n3_ := Aside0.mk (hbox)
                                          have n4_ := Aside0.mk ((by rw [hg]; exact (below_size (by repeat (first | (with_reducible first | exact HB.out | apply below_alloc | apply pw_below_drewN | apply below_drew1 | refine below_set ?_ GE142.out | refine below_set ?_ GE148.out) | exact HB.out))) : w.heap.size ≤ gb155))
                                          have n5_ := Aside0.mk ((by rw [hg]; exact (below_size (by repeat (first | (with_reducible first | exact HB.out | apply below_alloc | apply pw_below_drewN | apply below_drew1 | refine below_set ?_ GE142.out | refine below_set ?_ GE148.out) | exact HB.out))) : w.heap.size ≤ gb155))
                                          have n6_ := Aside0.mk ((by rw [hg]; exact Nat.ne_of_lt (blk_lt (g := gb142) (o := .cells #[.int .u32 a0_0, .int .u32 a0_1, .string a0_2] 24 (0, 0)) (by (with_reducible repeat (first | refine blk_drewN ?_ _ | refine blk_drew ?_ | refine blk_alloc ?_ _)); exact BK142.out)) : gb142 ≠ gb155))
                                          have n7_ := Aside0.mk ((by rw [hg]; exact Nat.ne_of_gt (blk_lt (g := gb142) (o := .cells #[.int .u32 a0_0, .int .u32 a0_1, .string a0_2] 24 (0, 0)) (by (with_reducible repeat (first | refine blk_drewN ?_ _ | refine blk_drew ?_ | refine blk_alloc ?_ _)); exact BK142.out)) : gb155 ≠ gb142))
                                          have n8_ := Aside0.mk ((by rw [hg]; exact Nat.ne_of_lt (blk_lt (g := gb148) (o := .cells #[.int .u32 x149000_3, .int .u32 x149001_3, .string x149002_3] 24 (0, 0)) (by (with_reducible repeat (first | refine blk_drewN ?_ _ | refine blk_drew ?_ | refine blk_alloc ?_ _)); exact BK148.out)) : gb148 ≠ gb155))
                                          have n9_ := Aside0.mk ((by rw [hg]; exact Nat.ne_of_gt (blk_lt (g := gb148) (o := .cells #[.int .u32 x149000_3, .int .u32 x149001_3, .string x149002_3] 24 (0, 0)) (by (with_reducible repeat (first | refine blk_drewN ?_ _ | refine blk_drew ?_ | refine blk_alloc ?_ _)); exact BK148.out)) : gb155 ≠ gb148))
                                          clear BK142
                                          clear BK148
                                          clear HB
                                          have BK142 := n0_
                                          have BK148 := n1_
                                          have HB := n2_
                                          have BK155 := n3_
                                          have GW155 := n4_
                                          have GE155 := n5_
                                          have NB142_155 := n6_
                                          have NB155_142 := n7_
                                          have NB148_155 := n8_
                                          have NB155_148 := n9_
                                          clear n0_ n1_ n2_ n3_ n4_ n5_ n6_ n7_ n8_ n9_
                                          clear hb hbox hg
                                          refine hK.out _ _ ⟨(blk_cell BK148.out 0).trans rfl, (blk_cell BK148.out 1).trans rfl, (blk_cell BK148.out 2).trans rfl, ((HB.out.cell (World.block_lt_of_cell? w _ hw151_0)).trans hw151_0)⟩ (fun hHeld => ?_)
                                          clear hK K
                                          refine norm_ (a' := ?_) ?_ ?_
                                          rotate_left
                                          · show Act.put _ (some 13) _ = _
                                            simp only [Act.put, List.setIfInBounds_toArray, List.set_cons_zero, List.set_cons_succ, i64_w, i32_w]
                                            rfl
                                          refine one_ (i := 6) (N := some 66) #[true, true, true, true, true, true, true, true, false] rfl rfl (one_of HT_.out (by kernel_rfl)) (by decide) (fun K hK => ?_)
                                          refine goes_ Try.func11 (by kernel_rfl) rfl #[.agg #[.int .u32 x149000_3, .int .u32 x149001_3, .string x149002_3], .int .u32 a1, .int .u32 (rd l4 x12_3), .string (⟨#[110, 101, 120, 116]⟩ : ByteArray)] (by rfl) rfl rfl (by (try simp only [List.map_toArray, List.map_cons, List.map_nil]); first | done | rfl | (simp only [List.length_drop, List.length_take]; rfl)) ?_
                                          with_reducible refine (lane_Done.calls kj37 x149000_3 x149001_3 x149002_3 a1 (rd l4 x12_3) (⟨#[110, 101, 120, 116]⟩ : ByteArray) t152 t153 t154 _ A43.out).mono ?_
                                          rintro e w75 ⟨rfl, hb⟩
                                          refine ⟨_, rfl, ?_⟩
                                          have n0_ := Aside0.mk (blk_below (g := gb142) (o := .cells #[.int .u32 a0_0, .int .u32 a0_1, .string a0_2] 24 (0, 0)) (by (with_reducible repeat (first | refine blk_drewN ?_ _ | refine blk_drew ?_ | refine blk_alloc ?_ _)); exact BK142.out) hb)
                                          have n1_ := Aside0.mk (blk_below (g := gb148) (o := .cells #[.int .u32 x149000_3, .int .u32 x149001_3, .string x149002_3] 24 (0, 0)) (by (with_reducible repeat (first | refine blk_drewN ?_ _ | refine blk_drew ?_ | refine blk_alloc ?_ _)); exact BK148.out) hb)
                                          have n2_ := Aside0.mk (blk_below (g := gb155) (o := .cells #[.int .u32 0, .int .u32 0, .string (⟨#[]⟩ : ByteArray)] 24 (0, 0)) (by (with_reducible repeat (first | refine blk_drewN ?_ _ | refine blk_drew ?_ | refine blk_alloc ?_ _)); exact BK155.out) hb)
                                          have n3_ := Aside0.mk (below_step (by repeat (first | (with_reducible first | exact HB.out | apply below_alloc | apply pw_below_drewN | apply below_drew1 | refine below_set ?_ GE142.out | refine below_set ?_ GE148.out | refine below_set ?_ GE155.out) | exact HB.out)) hb)
                                          clear BK142
                                          clear BK148
                                          clear BK155
                                          clear HB
                                          have BK142 := n0_
                                          have BK148 := n1_
                                          have BK155 := n2_
                                          have HB := n3_
                                          clear n0_ n1_ n2_ n3_
                                          (try clear hb)
                                          (try clear hb2)
                                          (try clear hk)
                                          (try clear hi)
                                          refine hK.out _ _ ⟨(blk_cell BK148.out 0).trans rfl, (blk_cell BK148.out 1).trans rfl, (blk_cell BK148.out 2).trans rfl, ((HB.out.cell (World.block_lt_of_cell? w _ hw151_0)).trans hw151_0)⟩ (fun hHeld => ?_)
                                          clear hK K
                                          refine norm_ (a' := ?_) ?_ ?_
                                          rotate_left
                                          · show Act.put _ (some 66) _ = _
                                            simp only [Act.put, List.setIfInBounds_toArray, List.set_cons_zero, List.set_cons_succ, i64_w, i32_w]
                                            rfl
                                          exact norm_ (by simp only [putAll, Act.put, List.setIfInBounds_toArray, List.set_cons_zero, List.set_cons_succ]) (hCont (gb155) _ ⟨hHeld, (by (with_reducible repeat (first | refine blk_drewN ?_ _ | refine blk_drew ?_ | refine blk_alloc ?_ _)); exact BK142.out), (by (with_reducible repeat (first | refine blk_drewN ?_ _ | refine blk_drew ?_ | refine blk_alloc ?_ _)); exact BK148.out), (by (with_reducible repeat (first | refine blk_drewN ?_ _ | refine blk_drew ?_ | refine blk_alloc ?_ _)); exact BK155.out), GW155.out, GE155.out, NB142_155.out, NB155_142.out, NB148_155.out, NB155_148.out, (by repeat (first | (with_reducible first | exact HB.out | apply below_alloc | apply pw_below_drewN | apply below_drew1 | refine below_set ?_ GE142.out | refine below_set ?_ GE148.out | refine below_set ?_ GE155.out) | exact HB.out))⟩)
                                      rintro gb155 w76 ⟨hS_, h0_, h1_, h2_, h3_, h4_, h5_, h6_, h7_, h8_, h9_⟩
                                      have n0_ : Aside0 (w76.heap[gb142]? = some (.cells #[.int .u32 a0_0, .int .u32 a0_1, .string a0_2] 24 (0, 0))) := ⟨h0_⟩
                                      have n1_ : Aside0 (w76.heap[gb148]? = some (.cells #[.int .u32 x149000_3, .int .u32 x149001_3, .string x149002_3] 24 (0, 0))) := ⟨h1_⟩
                                      have n2_ : Aside0 (w76.heap[gb155]? = some (.cells #[.int .u32 0, .int .u32 0, .string (⟨#[]⟩ : ByteArray)] 24 (0, 0))) := ⟨h2_⟩
                                      have n3_ : Aside0 (w.heap.size ≤ gb155) := ⟨h3_⟩
                                      have n4_ : Aside0 (w.heap.size ≤ gb155) := ⟨h4_⟩
                                      have n5_ : Aside0 (gb142 ≠ gb155) := ⟨h5_⟩
                                      have n6_ : Aside0 (gb155 ≠ gb142) := ⟨h6_⟩
                                      have n7_ : Aside0 (gb148 ≠ gb155) := ⟨h7_⟩
                                      have n8_ : Aside0 (gb155 ≠ gb148) := ⟨h8_⟩
                                      have n9_ : Aside0 (Below w.heap.size w w76) := ⟨h9_⟩
                                      clear BK142
                                      clear BK148
                                      clear HB
                                      clear h0_ h1_ h2_ h3_ h4_ h5_ h6_ h7_ h8_ h9_
                                      have BK142 := n0_
                                      have BK148 := n1_
                                      have BK155 := n2_
                                      have GW155 := n3_
                                      have GE155 := n4_
                                      have NB142_155 := n5_
                                      have NB155_142 := n6_
                                      have NB148_155 := n7_
                                      have NB155_148 := n8_
                                      have HB := n9_
                                      clear n0_ n1_ n2_ n3_ n4_ n5_ n6_ n7_ n8_ n9_
                                      have hHeld : w76.cell? ⟨gb148, 0, none⟩ = some (.int .u32 x149000_3) ∧ w76.cell? ⟨gb148, 1, none⟩ = some (.int .u32 x149001_3) ∧ w76.cell? ⟨gb148, 2, none⟩ = some (.string x149002_3) ∧ w76.cell? (ad151.add (x12_3).toNat) = some (.int .u32 (rd l4 x12_3)) := hS_
                                      refine norm_ (a' := ?_) ?_ ?_
                                      rotate_left
                                      · simp only [putAll, Act.put, List.setIfInBounds_toArray, List.set_cons_zero, List.set_cons_succ]
                                        rfl
                                      refine one_ (i := 8) (N := none) #[true, true, true, true, true, true, true, true, true] rfl rfl (one_of HT_.out (by kernel_rfl)) (by decide) (fun K hK => ?_)
                                      have hs77 : w76.cell? ⟨gb155, 0, none⟩ = some (.int .u32 0) := (blk_cell BK155.out 0).trans rfl
                                      have hfs77 := blk_frozen BK155.out 0
                                      have hns77_0 := NB142_155.out
                                      have hns77_1 := NB148_155.out
                                      have hms77_0 := NB155_142.out
                                      have hms77_1 := NB155_148.out
                                      have hs78 : w76.cell? ⟨gb155, 1, none⟩ = some (.int .u32 0) := (blk_cell BK155.out 1).trans rfl
                                      have hfs78 := blk_frozen BK155.out 1
                                      have hns78_0 := NB142_155.out
                                      have hns78_1 := NB148_155.out
                                      have hms78_0 := NB155_142.out
                                      have hms78_1 := NB155_148.out
                                      have hs79 : w76.cell? ⟨gb155, 2, none⟩ = some (.string (⟨#[]⟩ : ByteArray)) := (blk_cell BK155.out 2).trans rfl
                                      have hfs79 := blk_frozen BK155.out 2
                                      have hns79_0 := NB142_155.out
                                      have hns79_1 := NB148_155.out
                                      have hms79_0 := NB155_142.out
                                      have hms79_1 := NB155_148.out
                                      refine skip_ (w1 := ?_) (by rfl) rfl ?_ ?_
                                      rotate_left
                                      · go_simp
                                        rfl
                                      refine hK.out _ _ ⟨((cell_far (p := ⟨gb155, _, none⟩) NB148_155.out _).trans (((cell_far (p := ⟨gb155, _, none⟩) NB148_155.out _).trans (((cell_far (p := ⟨gb155, _, none⟩) NB148_155.out _).trans (hHeld.1)))))), ((cell_far (p := ⟨gb155, _, none⟩) NB148_155.out _).trans (((cell_far (p := ⟨gb155, _, none⟩) NB148_155.out _).trans (((cell_far (p := ⟨gb155, _, none⟩) NB148_155.out _).trans (hHeld.2.1)))))), ((cell_far (p := ⟨gb155, _, none⟩) NB148_155.out _).trans (((cell_far (p := ⟨gb155, _, none⟩) NB148_155.out _).trans (((cell_far (p := ⟨gb155, _, none⟩) NB148_155.out _).trans (hHeld.2.2.1)))))), ((cell_far (p := ⟨gb155, _, none⟩) (by first | exact Nat.ne_of_lt (Nat.lt_of_lt_of_le (by have := World.block_lt_of_cell? _ _ hw151_0; first | rwa [add_block] at this | exact this) GW155.out) | (rw [add_block]; exact Nat.ne_of_lt (Nat.lt_of_lt_of_le (by have := World.block_lt_of_cell? _ _ hw151_0; first | rwa [add_block] at this | exact this) GW155.out)) | (show (Addr.add _ _).block ≠ _; rw [add_block]; exact Nat.ne_of_lt (Nat.lt_of_lt_of_le (by have := World.block_lt_of_cell? _ _ hw151_0; first | rwa [add_block] at this | exact this) GW155.out)) | (dsimp only; exact Nat.ne_of_lt (Nat.lt_of_lt_of_le (by have := World.block_lt_of_cell? _ _ hw151_0; first | rwa [add_block] at this | exact this) GW155.out))) _).trans (((cell_far (p := ⟨gb155, _, none⟩) (by first | exact Nat.ne_of_lt (Nat.lt_of_lt_of_le (by have := World.block_lt_of_cell? _ _ hw151_0; first | rwa [add_block] at this | exact this) GW155.out) | (rw [add_block]; exact Nat.ne_of_lt (Nat.lt_of_lt_of_le (by have := World.block_lt_of_cell? _ _ hw151_0; first | rwa [add_block] at this | exact this) GW155.out)) | (show (Addr.add _ _).block ≠ _; rw [add_block]; exact Nat.ne_of_lt (Nat.lt_of_lt_of_le (by have := World.block_lt_of_cell? _ _ hw151_0; first | rwa [add_block] at this | exact this) GW155.out)) | (dsimp only; exact Nat.ne_of_lt (Nat.lt_of_lt_of_le (by have := World.block_lt_of_cell? _ _ hw151_0; first | rwa [add_block] at this | exact this) GW155.out))) _).trans (((cell_far (p := ⟨gb155, _, none⟩) (by first | exact Nat.ne_of_lt (Nat.lt_of_lt_of_le (by have := World.block_lt_of_cell? _ _ hw151_0; first | rwa [add_block] at this | exact this) GW155.out) | (rw [add_block]; exact Nat.ne_of_lt (Nat.lt_of_lt_of_le (by have := World.block_lt_of_cell? _ _ hw151_0; first | rwa [add_block] at this | exact this) GW155.out)) | (show (Addr.add _ _).block ≠ _; rw [add_block]; exact Nat.ne_of_lt (Nat.lt_of_lt_of_le (by have := World.block_lt_of_cell? _ _ hw151_0; first | rwa [add_block] at this | exact this) GW155.out)) | (dsimp only; exact Nat.ne_of_lt (Nat.lt_of_lt_of_le (by have := World.block_lt_of_cell? _ _ hw151_0; first | rwa [add_block] at this | exact this) GW155.out))) _).trans (hHeld.2.2.2))))))⟩ (fun hHeld => ?_)
                                      clear hK K
                                      refine done_ (done_of HT_.out (by kernel_rfl)) ?_
                                      have hnb80 := NB155_142.out
                                      have hnc80 := NB142_155.out
                                      have hnb81 := NB155_148.out
                                      have hnc81 := NB148_155.out
                                      have hcz82_0 : w76.cell? ⟨gb155, 0, none⟩ = some (.int .u32 0) := (blk_cell BK155.out 0).trans rfl
                                      have hcz82_1 : w76.cell? ⟨gb155, 1, none⟩ = some (.int .u32 0) := (blk_cell BK155.out 1).trans rfl
                                      have hcz82_2 : w76.cell? ⟨gb155, 2, none⟩ = some (.string (⟨#[]⟩ : ByteArray)) := (blk_cell BK155.out 2).trans rfl
                                      have hfz82_0 := blk_frozen BK155.out 0
                                      have hfz82_1 := blk_frozen BK155.out 1
                                      have hfz82_2 := blk_frozen BK155.out 2
                                      have hnb83 := NB148_142.out
                                      have hnc83 := NB142_148.out
                                      have hcz84_0 : w76.cell? ⟨gb148, 0, none⟩ = some (.int .u32 x149000_3) := (blk_cell BK148.out 0).trans rfl
                                      have hcz84_1 : w76.cell? ⟨gb148, 1, none⟩ = some (.int .u32 x149001_3) := (blk_cell BK148.out 1).trans rfl
                                      have hcz84_2 : w76.cell? ⟨gb148, 2, none⟩ = some (.string x149002_3) := (blk_cell BK148.out 2).trans rfl
                                      have hfz84_0 := blk_frozen BK148.out 0
                                      have hfz84_1 := blk_frozen BK148.out 1
                                      have hfz84_2 := blk_frozen BK148.out 2
                                      try go_wp2_with (first | (go_at_call 9; (with_reducible refine (lane_Judge.calls kj37 t152 t153 t154 a2 a3 t156 _ A71.out).mono ?_); rintro e w85 ⟨rfl, hb⟩; have n0_ := Aside0.mk (blk_below (g := gb142) (o := .cells #[.int .u32 a0_0, .int .u32 a0_1, .string a0_2] 24 (0, 0)) (by (with_reducible repeat (first | refine blk_drewN ?_ _ | refine blk_drew ?_ | refine blk_alloc ?_ _)); refine blk_far ?_ NB142_155.out _; (with_reducible repeat (first | refine blk_drewN ?_ _ | refine blk_drew ?_ | refine blk_alloc ?_ _)); refine blk_far ?_ NB142_155.out _; (with_reducible repeat (first | refine blk_drewN ?_ _ | refine blk_drew ?_ | refine blk_alloc ?_ _)); refine blk_far ?_ NB142_155.out _; (with_reducible repeat (first | refine blk_drewN ?_ _ | refine blk_drew ?_ | refine blk_alloc ?_ _)); exact BK142.out) hb); have n1_ := Aside0.mk (blk_below (g := gb148) (o := .cells #[.int .u32 x149000_3, .int .u32 x149001_3, .string x149002_3] 24 (0, 0)) (by (with_reducible repeat (first | refine blk_drewN ?_ _ | refine blk_drew ?_ | refine blk_alloc ?_ _)); refine blk_far ?_ NB148_155.out _; (with_reducible repeat (first | refine blk_drewN ?_ _ | refine blk_drew ?_ | refine blk_alloc ?_ _)); refine blk_far ?_ NB148_155.out _; (with_reducible repeat (first | refine blk_drewN ?_ _ | refine blk_drew ?_ | refine blk_alloc ?_ _)); refine blk_far ?_ NB148_155.out _; (with_reducible repeat (first | refine blk_drewN ?_ _ | refine blk_drew ?_ | refine blk_alloc ?_ _)); exact BK148.out) hb); have n2_ := Aside0.mk (blk_below (g := gb155) (o := .cells #[.int .u32 t152, .int .u32 t153, .string t154] 24 (0, 0)) (by (with_reducible repeat (first | refine blk_drewN ?_ _ | refine blk_drew ?_ | refine blk_alloc ?_ _)); refine blk_put (cs := #[.int .u32 t152, .int .u32 t153, .string (⟨#[]⟩ : ByteArray)]) ?_ 2 _ rfl; (with_reducible repeat (first | refine blk_drewN ?_ _ | refine blk_drew ?_ | refine blk_alloc ?_ _)); refine blk_put (cs := #[.int .u32 t152, .int .u32 0, .string (⟨#[]⟩ : ByteArray)]) ?_ 1 _ rfl; (with_reducible repeat (first | refine blk_drewN ?_ _ | refine blk_drew ?_ | refine blk_alloc ?_ _)); refine blk_put (cs := #[.int .u32 0, .int .u32 0, .string (⟨#[]⟩ : ByteArray)]) ?_ 0 _ rfl; (with_reducible repeat (first | refine blk_drewN ?_ _ | refine blk_drew ?_ | refine blk_alloc ?_ _)); exact BK155.out) hb); have n3_ := Aside0.mk (below_step (by repeat (first | (with_reducible first | exact HB.out | apply below_alloc | apply pw_below_drewN | apply below_drew1 | refine below_set ?_ GE142.out | refine below_set ?_ GE148.out | refine below_set ?_ GE155.out) | exact HB.out)) hb); clear BK142; clear BK148; clear BK155; clear HB; have BK142 := n0_; have BK148 := n1_; have BK155 := n2_; have HB := n3_; clear n0_ n1_ n2_ n3_; (try clear hb); (try clear hb2); (try clear hk); (try clear hi); have hcz86_0 : w85.cell? ⟨gb155, 0, none⟩ = some (.int .u32 t152) := (blk_cell BK155.out 0).trans rfl; have hcz86_1 : w85.cell? ⟨gb155, 1, none⟩ = some (.int .u32 t153) := (blk_cell BK155.out 1).trans rfl; have hcz86_2 : w85.cell? ⟨gb155, 2, none⟩ = some (.string t154) := (blk_cell BK155.out 2).trans rfl; have hfz86_0 := blk_frozen BK155.out 0; have hfz86_1 := blk_frozen BK155.out 1; have hfz86_2 := blk_frozen BK155.out 2; have hcz87_0 : w85.cell? ⟨gb148, 0, none⟩ = some (.int .u32 x149000_3) := (blk_cell BK148.out 0).trans rfl; have hcz87_1 : w85.cell? ⟨gb148, 1, none⟩ = some (.int .u32 x149001_3) := (blk_cell BK148.out 1).trans rfl; have hcz87_2 : w85.cell? ⟨gb148, 2, none⟩ = some (.string x149002_3) := (blk_cell BK148.out 2).trans rfl; have hfz87_0 := blk_frozen BK148.out 0; have hfz87_1 := blk_frozen BK148.out 1; have hfz87_2 := blk_frozen BK148.out 2))
                                      go_roundg kj37
                                      case measure => have := HJ7.out; have := HJ17.out; have := HK3.out; have := HJ37.out; omega
                                      case rel => exact ⟨(wrap64 (x12_3 + 1)), (t152), (t153), (t154), (by first | rfl | (simp; done) | (simp [*]; done)), H', ⟨by have := HJ7.out; have := HJ17.out; have := HK3.out; have := HJ37.out; omega⟩, ⟨by (with_reducible repeat (first | refine blk_drewN ?_ _ | refine blk_drew ?_ | refine blk_alloc ?_ _)); refine blk_far ?_ NB142_148.out _; (with_reducible repeat (first | refine blk_drewN ?_ _ | refine blk_drew ?_ | refine blk_alloc ?_ _)); refine blk_far ?_ NB142_148.out _; (with_reducible repeat (first | refine blk_drewN ?_ _ | refine blk_drew ?_ | refine blk_alloc ?_ _)); refine blk_far ?_ NB142_148.out _; (with_reducible repeat (first | refine blk_drewN ?_ _ | refine blk_drew ?_ | refine blk_alloc ?_ _)); exact BK142.out⟩, ⟨by (with_reducible repeat (first | refine blk_drewN ?_ _ | refine blk_drew ?_ | refine blk_alloc ?_ _)); refine blk_put (cs := #[.int .u32 t152, .int .u32 t153, .string x149002_3]) ?_ 2 _ rfl; (with_reducible repeat (first | refine blk_drewN ?_ _ | refine blk_drew ?_ | refine blk_alloc ?_ _)); refine blk_put (cs := #[.int .u32 t152, .int .u32 x149001_3, .string x149002_3]) ?_ 1 _ rfl; (with_reducible repeat (first | refine blk_drewN ?_ _ | refine blk_drew ?_ | refine blk_alloc ?_ _)); refine blk_put (cs := #[.int .u32 x149000_3, .int .u32 x149001_3, .string x149002_3]) ?_ 0 _ rfl; (with_reducible repeat (first | refine blk_drewN ?_ _ | refine blk_drew ?_ | refine blk_alloc ?_ _)); exact BK148.out⟩, ⟨by repeat (first | (with_reducible first | exact HB.out | apply below_alloc | apply pw_below_drewN | apply below_drew1 | refine below_set ?_ GE142.out | refine below_set ?_ GE148.out | refine below_set ?_ GE155.out) | exact HB.out)⟩⟩
                                    · rw [if_neg c72] at H
                                      have c72b0 : (t156 == 3) = false := beq_eq_false_iff_ne.mpr c72
                                      have c72b1 : (t156 != 3) = true := bne_iff_ne.mpr c72
                                      obtain rfl := Option.some.inj H
                                      try go_wp2
                                      have n0_ := Aside0.mk (blk_drew BK142.out)
                                      have n1_ := Aside0.mk (blk_drew BK148.out)
                                      have n2_ := Aside0.mk (below_drew1 HB.out)
                                      clear BK142
                                      clear BK148
                                      clear HB
                                      have BK142 := n0_
                                      have BK148 := n1_
                                      have HB := n2_
                                      clear n0_ n1_ n2_
                                      have p151 : 0 ≤ (x12_3 : Int) := of_decide_eq_true (by first | (with_reducible assumption) | assumption)
                                      have q151 : x12_3 < (l4.length : Int) := of_decide_eq_true (by first | (with_reducible assumption) | assumption)
                                      obtain ⟨ad151, e151, hx151_0⟩ := Kd.at_int HR4.out x12_3 p151 q151
                                      have hw151_0 := hx151_0
                                      cases e151
                                      replace hx151_0 := (HB.out.cell (World.block_lt_of_cell? w _ hx151_0)).trans hx151_0
                                      replace p151 := eq_true p151
                                      replace q151 := eq_true q151
                                      refine start_ (n := 9) (S := fun w' => w'.cell? ⟨gb148, 0, none⟩ = some (.int .u32 x149000_3) ∧ w'.cell? ⟨gb148, 1, none⟩ = some (.int .u32 x149001_3) ∧ w'.cell? ⟨gb148, 2, none⟩ = some (.string x149002_3) ∧ w'.cell? (ad151.add (x12_3).toNat) = some (.int .u32 (rd l4 x12_3))) (ds := []) #[false, false, false, false, false, false, false, false, false] (by kernel_rfl) rfl rfl ⟨(blk_cell BK148.out 0).trans rfl, (blk_cell BK148.out 1).trans rfl, (blk_cell BK148.out 2).trans rfl, ((HB.out.cell (World.block_lt_of_cell? w _ hw151_0)).trans hw151_0)⟩ (fun hHeld => ?_); refine with_tabW lamellalaw08_LaneLives.tab11 lamellalaw08_LaneLives.bits11 (fun HT_ HW_ => ?_)
                                      generalize wc.drew = w88 at BK142 BK148 HB hx151_0 hHeld ⊢
                                      refine pure_ (i := 1) (N := some 61) (v := ?_) (a' := ?_) #[false, true, false, false, false, false, false, false, false] rfl rfl (any_of HT_.out (by kernel_rfl)) (fun _ _ _ h => h) (Or.inl ⟨by rfl, ?_⟩) ?_ ?_
                                      rotate_left
                                      · intro w'
                                        go_simp
                                        with_reducible rfl
                                      rotate_left
                                      · simp only [Act.put, List.setIfInBounds_toArray, List.set_cons_zero, List.set_cons_succ, i64_w, i32_w]
                                        rfl
                                      refine pure_ (i := 2) (N := some 62) (v := ?_) (a' := ?_) #[false, true, true, false, false, false, false, false, false] rfl rfl (any_of HT_.out (by kernel_rfl)) (fun _ _ _ h => h) (Or.inl ⟨by rfl, ?_⟩) ?_ ?_
                                      rotate_left
                                      · intro w'
                                        go_simp
                                        with_reducible rfl
                                      rotate_left
                                      · simp only [Act.put, List.setIfInBounds_toArray, List.set_cons_zero, List.set_cons_succ, i64_w, i32_w]
                                        rfl
                                      refine pure_ (i := 3) (N := some 63) (v := ?_) (a' := ?_) #[false, true, true, true, false, false, false, false, false] rfl rfl (any_of HT_.out (by kernel_rfl)) (fun _ _ _ h => h) (Or.inl ⟨by rfl, ?_⟩) ?_ ?_
                                      rotate_left
                                      · intro w'
                                        go_simp
                                        with_reducible rfl
                                      rotate_left
                                      · simp only [Act.put, List.setIfInBounds_toArray, List.set_cons_zero, List.set_cons_succ, i64_w, i32_w]
                                        rfl
                                      refine pure_ (i := 4) (N := some 64) (v := ?_) (a' := ?_) #[false, true, true, true, true, false, false, false, false] rfl rfl (any_of HT_.out (by kernel_rfl)) (fun _ _ _ h => h) (Or.inl ⟨by rfl, ?_⟩) ?_ ?_
                                      rotate_left
                                      · intro w'
                                        go_simp
                                        with_reducible rfl
                                      rotate_left
                                      · simp only [Act.put, List.setIfInBounds_toArray, List.set_cons_zero, List.set_cons_succ, i64_w, i32_w]
                                        rfl
                                      refine take_ (i := 0) (N := some 60) (v := ?_) (a' := ?_) #[true, true, true, true, true, false, false, false, false] rfl rfl (take_ofW HT_.out HW_.out (by kernel_rfl)) (fun _ _ _ h => h) (Or.inl ⟨by rfl, ?_⟩) hHeld ?_ ?_
                                      rotate_left
                                      · rintro w' ⟨s0, s1, s2, s3⟩
                                        go_simp
                                        with_reducible rfl
                                      rotate_left
                                      · simp only [Act.put, List.setIfInBounds_toArray, List.set_cons_zero, List.set_cons_succ, i64_w, i32_w]
                                        rfl
                                      refine take_ (i := 5) (N := some 65) (v := ?_) (a' := ?_) #[true, true, true, true, true, true, false, false, false] rfl rfl (take_ofW HT_.out HW_.out (by kernel_rfl)) (fun _ _ _ h => h) (Or.inl ⟨by rfl, ?_⟩) hHeld ?_ ?_
                                      rotate_left
                                      · rintro w' ⟨s0, s1, s2, s3⟩
                                        go_simp
                                        with_reducible rfl
                                      rotate_left
                                      · simp only [Act.put, List.setIfInBounds_toArray, List.set_cons_zero, List.set_cons_succ, i64_w, i32_w]
                                        rfl
                                      refine join_ (σ := Nat) 1 #[true, true, true, true, true, true, true, true, false] (fun s_ => [(66, .agg #[.int .u32 t152, .int .u32 t153, .string t154]), (13, .pointer (some ⟨s_, 0, none⟩))]) (fun s_ w' => (w'.cell? ⟨gb148, 0, none⟩ = some (.int .u32 x149000_3) ∧ w'.cell? ⟨gb148, 1, none⟩ = some (.int .u32 x149001_3) ∧ w'.cell? ⟨gb148, 2, none⟩ = some (.string x149002_3) ∧ w'.cell? (ad151.add (x12_3).toNat) = some (.int .u32 (rd l4 x12_3))) ∧ (w'.heap[gb142]? = some (.cells #[.int .u32 a0_0, .int .u32 a0_1, .string a0_2] 24 (0, 0))) ∧ (w'.heap[gb148]? = some (.cells #[.int .u32 x149000_3, .int .u32 x149001_3, .string x149002_3] 24 (0, 0))) ∧ (w'.heap[s_]? = some (.cells #[.int .u32 0, .int .u32 0, .string (⟨#[]⟩ : ByteArray)] 24 (0, 0))) ∧ (w.heap.size ≤ s_) ∧ (w.heap.size ≤ s_) ∧ (gb142 ≠ s_) ∧ (s_ ≠ gb142) ∧ (gb148 ≠ s_) ∧ (s_ ≠ gb148) ∧ (Below w.heap.size w w')) ?_ ?_
                                      rotate_left
                                      · intro hCont
                                        refine two_ (i := 6) (j := 7) (Ni := some 66) (Nj := some 13) #[true, true, true, true, true, true, true, false, false] #[true, true, true, true, true, true, false, true, false] rfl rfl rfl rfl (two_of HT_.out (by kernel_rfl)) (by decide) (by decide) (fun K hK => ?_) (fun K hK => ?_)
                                        · skip
                                          refine goes_ Try.func11 (by kernel_rfl) rfl #[.agg #[.int .u32 x149000_3, .int .u32 x149001_3, .string x149002_3], .int .u32 a1, .int .u32 (rd l4 x12_3), .string (⟨#[110, 101, 120, 116]⟩ : ByteArray)] (by rfl) rfl rfl (by (try simp only [List.map_toArray, List.map_cons, List.map_nil]); first | done | rfl | (simp only [List.length_drop, List.length_take]; rfl)) ?_
                                          with_reducible refine (lane_Done.calls kj37 x149000_3 x149001_3 x149002_3 a1 (rd l4 x12_3) (⟨#[110, 101, 120, 116]⟩ : ByteArray) t152 t153 t154 _ A43.out).mono ?_
                                          rintro e w89 ⟨rfl, hb⟩
                                          refine ⟨_, rfl, ?_⟩
                                          have n0_ := Aside0.mk (blk_below (g := gb142) (o := .cells #[.int .u32 a0_0, .int .u32 a0_1, .string a0_2] 24 (0, 0)) (by (with_reducible repeat (first | refine blk_drewN ?_ _ | refine blk_drew ?_ | refine blk_alloc ?_ _)); exact BK142.out) hb)
                                          have n1_ := Aside0.mk (blk_below (g := gb148) (o := .cells #[.int .u32 x149000_3, .int .u32 x149001_3, .string x149002_3] 24 (0, 0)) (by (with_reducible repeat (first | refine blk_drewN ?_ _ | refine blk_drew ?_ | refine blk_alloc ?_ _)); exact BK148.out) hb)
                                          have n2_ := Aside0.mk (below_step (by repeat (first | (with_reducible first | exact HB.out | apply below_alloc | apply pw_below_drewN | apply below_drew1 | refine below_set ?_ GE142.out | refine below_set ?_ GE148.out) | exact HB.out)) hb)
                                          clear BK142
                                          clear BK148
                                          clear HB
                                          have BK142 := n0_
                                          have BK148 := n1_
                                          have HB := n2_
                                          clear n0_ n1_ n2_
                                          (try clear hb)
                                          (try clear hb2)
                                          (try clear hk)
                                          (try clear hi)
                                          refine hK.out _ _ ⟨(blk_cell BK148.out 0).trans rfl, (blk_cell BK148.out 1).trans rfl, (blk_cell BK148.out 2).trans rfl, ((HB.out.cell (World.block_lt_of_cell? w _ hw151_0)).trans hw151_0)⟩ (fun hHeld => ?_)
                                          clear hK K
                                          refine norm_ (a' := ?_) ?_ ?_
                                          rotate_left
                                          · show Act.put _ (some 66) _ = _
                                            simp only [Act.put, List.setIfInBounds_toArray, List.set_cons_zero, List.set_cons_succ, i64_w, i32_w]
                                            rfl
                                          refine one_ (i := 7) (N := some 13) #[true, true, true, true, true, true, true, true, false] rfl rfl (one_of HT_.out (by kernel_rfl)) (by decide) (fun K hK => ?_)
                                          refine box_step ?hg (N := 13) ?hd (cs := #[.int .u32 0, .int .u32 0, .string (⟨#[]⟩ : ByteArray)]) (t := 24) ?hr ?_; (case hd => rfl); (case hg => rfl); (case hr => first | (go_simp; done) | (go_simp; rfl))
                                          intro gb155 hg w90 hbox hb
                                          have n0_ := Aside0.mk (blk_below (g := gb142) (o := .cells #[.int .u32 a0_0, .int .u32 a0_1, .string a0_2] 24 (0, 0)) (by (with_reducible repeat (first | refine blk_drewN ?_ _ | refine blk_drew ?_ | refine blk_alloc ?_ _)); exact BK142.out) hb)
                                          have n1_ := Aside0.mk (blk_below (g := gb148) (o := .cells #[.int .u32 x149000_3, .int .u32 x149001_3, .string x149002_3] 24 (0, 0)) (by (with_reducible repeat (first | refine blk_drewN ?_ _ | refine blk_drew ?_ | refine blk_alloc ?_ _)); exact BK148.out) hb)
                                          have n2_ := Aside0.mk (below_step (by repeat (first | (with_reducible first | exact HB.out | apply below_alloc | apply pw_below_drewN | apply below_drew1 | refine below_set ?_ GE142.out | refine below_set ?_ GE148.out) | exact HB.out)) hb)
                                          have n3_ := Aside0.mk (hbox)
                                          have n4_ := Aside0.mk ((by rw [hg]; exact (below_size (by repeat (first | (with_reducible first | exact HB.out | apply below_alloc | apply pw_below_drewN | apply below_drew1 | refine below_set ?_ GE142.out | refine below_set ?_ GE148.out) | exact HB.out))) : w.heap.size ≤ gb155))
                                          have n5_ := Aside0.mk ((by rw [hg]; exact (below_size (by repeat (first | (with_reducible first | exact HB.out | apply below_alloc | apply pw_below_drewN | apply below_drew1 | refine below_set ?_ GE142.out | refine below_set ?_ GE148.out) | exact HB.out))) : w.heap.size ≤ gb155))
                                          have n6_ := Aside0.mk ((by rw [hg]; exact Nat.ne_of_lt (blk_lt (g := gb142) (o := .cells #[.int .u32 a0_0, .int .u32 a0_1, .string a0_2] 24 (0, 0)) (by (with_reducible repeat (first | refine blk_drewN ?_ _ | refine blk_drew ?_ | refine blk_alloc ?_ _)); exact BK142.out)) : gb142 ≠ gb155))
                                          have n7_ := Aside0.mk ((by rw [hg]; exact Nat.ne_of_gt (blk_lt (g := gb142) (o := .cells #[.int .u32 a0_0, .int .u32 a0_1, .string a0_2] 24 (0, 0)) (by (with_reducible repeat (first | refine blk_drewN ?_ _ | refine blk_drew ?_ | refine blk_alloc ?_ _)); exact BK142.out)) : gb155 ≠ gb142))
                                          have n8_ := Aside0.mk ((by rw [hg]; exact Nat.ne_of_lt (blk_lt (g := gb148) (o := .cells #[.int .u32 x149000_3, .int .u32 x149001_3, .string x149002_3] 24 (0, 0)) (by (with_reducible repeat (first | refine blk_drewN ?_ _ | refine blk_drew ?_ | refine blk_alloc ?_ _)); exact BK148.out)) : gb148 ≠ gb155))
                                          have n9_ := Aside0.mk ((by rw [hg]; exact Nat.ne_of_gt (blk_lt (g := gb148) (o := .cells #[.int .u32 x149000_3, .int .u32 x149001_3, .string x149002_3] 24 (0, 0)) (by (with_reducible repeat (first | refine blk_drewN ?_ _ | refine blk_drew ?_ | refine blk_alloc ?_ _)); exact BK148.out)) : gb155 ≠ gb148))
                                          clear BK142
                                          clear BK148
                                          clear HB
                                          have BK142 := n0_
                                          have BK148 := n1_
                                          have HB := n2_
                                          have BK155 := n3_
                                          have GW155 := n4_
                                          have GE155 := n5_
                                          have NB142_155 := n6_
                                          have NB155_142 := n7_
                                          have NB148_155 := n8_
                                          have NB155_148 := n9_
                                          clear n0_ n1_ n2_ n3_ n4_ n5_ n6_ n7_ n8_ n9_
                                          clear hb hbox hg
                                          refine hK.out _ _ ⟨(blk_cell BK148.out 0).trans rfl, (blk_cell BK148.out 1).trans rfl, (blk_cell BK148.out 2).trans rfl, ((HB.out.cell (World.block_lt_of_cell? w _ hw151_0)).trans hw151_0)⟩ (fun hHeld => ?_)
                                          clear hK K
                                          refine norm_ (a' := ?_) ?_ ?_
                                          rotate_left
                                          · show Act.put _ (some 13) _ = _
                                            simp only [Act.put, List.setIfInBounds_toArray, List.set_cons_zero, List.set_cons_succ, i64_w, i32_w]
                                            rfl
                                          exact norm_ (by simp only [putAll, Act.put, List.setIfInBounds_toArray, List.set_cons_zero, List.set_cons_succ]) (hCont (gb155) _ ⟨hHeld, (by (with_reducible repeat (first | refine blk_drewN ?_ _ | refine blk_drew ?_ | refine blk_alloc ?_ _)); exact BK142.out), (by (with_reducible repeat (first | refine blk_drewN ?_ _ | refine blk_drew ?_ | refine blk_alloc ?_ _)); exact BK148.out), (by (with_reducible repeat (first | refine blk_drewN ?_ _ | refine blk_drew ?_ | refine blk_alloc ?_ _)); exact BK155.out), GW155.out, GE155.out, NB142_155.out, NB155_142.out, NB148_155.out, NB155_148.out, (by repeat (first | (with_reducible first | exact HB.out | apply below_alloc | apply pw_below_drewN | apply below_drew1 | refine below_set ?_ GE142.out | refine below_set ?_ GE148.out | refine below_set ?_ GE155.out) | exact HB.out))⟩)
                                        · skip
                                          refine box_step ?hg (N := 13) ?hd (cs := #[.int .u32 0, .int .u32 0, .string (⟨#[]⟩ : ByteArray)]) (t := 24) ?hr ?_; (case hd => rfl); (case hg => rfl); (case hr => first | (go_simp; done) | (go_simp; rfl))
                                          intro gb155 hg w89 hbox hb
                                          have n0_ := Aside0.mk (blk_below (g := gb142) (o := .cells #[.int .u32 a0_0, .int .u32 a0_1, .string a0_2] 24 (0, 0)) (by (with_reducible repeat (first | refine blk_drewN ?_ _ | refine blk_drew ?_ | refine blk_alloc ?_ _)); exact BK142.out) hb)
                                          have n1_ := Aside0.mk (blk_below (g := gb148) (o := .cells #[.int .u32 x149000_3, .int .u32 x149001_3, .string x149002_3] 24 (0, 0)) (by (with_reducible repeat (first | refine blk_drewN ?_ _ | refine blk_drew ?_ | refine blk_alloc ?_ _)); exact BK148.out) hb)
                                          have n2_ := Aside0.mk (below_step (by repeat (first | (with_reducible first | exact HB.out | apply below_alloc | apply pw_below_drewN | apply below_drew1 | refine below_set ?_ GE142.out | refine below_set ?_ GE148.out) | exact HB.out)) hb)
                                          have n3_ := Aside0.mk (hbox)
                                          have n4_ := Aside0.mk ((by rw [hg]; exact (below_size (by repeat (first | (with_reducible first | exact HB.out | apply below_alloc | apply pw_below_drewN | apply below_drew1 | refine below_set ?_ GE142.out | refine below_set ?_ GE148.out) | exact HB.out))) : w.heap.size ≤ gb155))
                                          have n5_ := Aside0.mk ((by rw [hg]; exact (below_size (by repeat (first | (with_reducible first | exact HB.out | apply below_alloc | apply pw_below_drewN | apply below_drew1 | refine below_set ?_ GE142.out | refine below_set ?_ GE148.out) | exact HB.out))) : w.heap.size ≤ gb155))
                                          have n6_ := Aside0.mk ((by rw [hg]; exact Nat.ne_of_lt (blk_lt (g := gb142) (o := .cells #[.int .u32 a0_0, .int .u32 a0_1, .string a0_2] 24 (0, 0)) (by (with_reducible repeat (first | refine blk_drewN ?_ _ | refine blk_drew ?_ | refine blk_alloc ?_ _)); exact BK142.out)) : gb142 ≠ gb155))
                                          have n7_ := Aside0.mk ((by rw [hg]; exact Nat.ne_of_gt (blk_lt (g := gb142) (o := .cells #[.int .u32 a0_0, .int .u32 a0_1, .string a0_2] 24 (0, 0)) (by (with_reducible repeat (first | refine blk_drewN ?_ _ | refine blk_drew ?_ | refine blk_alloc ?_ _)); exact BK142.out)) : gb155 ≠ gb142))
                                          have n8_ := Aside0.mk ((by rw [hg]; exact Nat.ne_of_lt (blk_lt (g := gb148) (o := .cells #[.int .u32 x149000_3, .int .u32 x149001_3, .string x149002_3] 24 (0, 0)) (by (with_reducible repeat (first | refine blk_drewN ?_ _ | refine blk_drew ?_ | refine blk_alloc ?_ _)); exact BK148.out)) : gb148 ≠ gb155))
                                          have n9_ := Aside0.mk ((by rw [hg]; exact Nat.ne_of_gt (blk_lt (g := gb148) (o := .cells #[.int .u32 x149000_3, .int .u32 x149001_3, .string x149002_3] 24 (0, 0)) (by (with_reducible repeat (first | refine blk_drewN ?_ _ | refine blk_drew ?_ | refine blk_alloc ?_ _)); exact BK148.out)) : gb155 ≠ gb148))
                                          clear BK142
                                          clear BK148
                                          clear HB
                                          have BK142 := n0_
                                          have BK148 := n1_
                                          have HB := n2_
                                          have BK155 := n3_
                                          have GW155 := n4_
                                          have GE155 := n5_
                                          have NB142_155 := n6_
                                          have NB155_142 := n7_
                                          have NB148_155 := n8_
                                          have NB155_148 := n9_
                                          clear n0_ n1_ n2_ n3_ n4_ n5_ n6_ n7_ n8_ n9_
                                          clear hb hbox hg
                                          refine hK.out _ _ ⟨(blk_cell BK148.out 0).trans rfl, (blk_cell BK148.out 1).trans rfl, (blk_cell BK148.out 2).trans rfl, ((HB.out.cell (World.block_lt_of_cell? w _ hw151_0)).trans hw151_0)⟩ (fun hHeld => ?_)
                                          clear hK K
                                          refine norm_ (a' := ?_) ?_ ?_
                                          rotate_left
                                          · show Act.put _ (some 13) _ = _
                                            simp only [Act.put, List.setIfInBounds_toArray, List.set_cons_zero, List.set_cons_succ, i64_w, i32_w]
                                            rfl
                                          refine one_ (i := 6) (N := some 66) #[true, true, true, true, true, true, true, true, false] rfl rfl (one_of HT_.out (by kernel_rfl)) (by decide) (fun K hK => ?_)
                                          refine goes_ Try.func11 (by kernel_rfl) rfl #[.agg #[.int .u32 x149000_3, .int .u32 x149001_3, .string x149002_3], .int .u32 a1, .int .u32 (rd l4 x12_3), .string (⟨#[110, 101, 120, 116]⟩ : ByteArray)] (by rfl) rfl rfl (by (try simp only [List.map_toArray, List.map_cons, List.map_nil]); first | done | rfl | (simp only [List.length_drop, List.length_take]; rfl)) ?_
                                          with_reducible refine (lane_Done.calls kj37 x149000_3 x149001_3 x149002_3 a1 (rd l4 x12_3) (⟨#[110, 101, 120, 116]⟩ : ByteArray) t152 t153 t154 _ A43.out).mono ?_
                                          rintro e w90 ⟨rfl, hb⟩
                                          refine ⟨_, rfl, ?_⟩
                                          have n0_ := Aside0.mk (blk_below (g := gb142) (o := .cells #[.int .u32 a0_0, .int .u32 a0_1, .string a0_2] 24 (0, 0)) (by (with_reducible repeat (first | refine blk_drewN ?_ _ | refine blk_drew ?_ | refine blk_alloc ?_ _)); exact BK142.out) hb)
                                          have n1_ := Aside0.mk (blk_below (g := gb148) (o := .cells #[.int .u32 x149000_3, .int .u32 x149001_3, .string x149002_3] 24 (0, 0)) (by (with_reducible repeat (first | refine blk_drewN ?_ _ | refine blk_drew ?_ | refine blk_alloc ?_ _)); exact BK148.out) hb)
                                          have n2_ := Aside0.mk (blk_below (g := gb155) (o := .cells #[.int .u32 0, .int .u32 0, .string (⟨#[]⟩ : ByteArray)] 24 (0, 0)) (by (with_reducible repeat (first | refine blk_drewN ?_ _ | refine blk_drew ?_ | refine blk_alloc ?_ _)); exact BK155.out) hb)
                                          have n3_ := Aside0.mk (below_step (by repeat (first | (with_reducible first | exact HB.out | apply below_alloc | apply pw_below_drewN | apply below_drew1 | refine below_set ?_ GE142.out | refine below_set ?_ GE148.out | refine below_set ?_ GE155.out) | exact HB.out)) hb)
                                          clear BK142
                                          clear BK148
                                          clear BK155
                                          clear HB
                                          have BK142 := n0_
                                          have BK148 := n1_
                                          have BK155 := n2_
                                          have HB := n3_
                                          clear n0_ n1_ n2_ n3_
                                          (try clear hb)
                                          (try clear hb2)
                                          (try clear hk)
                                          (try clear hi)
                                          refine hK.out _ _ ⟨(blk_cell BK148.out 0).trans rfl, (blk_cell BK148.out 1).trans rfl, (blk_cell BK148.out 2).trans rfl, ((HB.out.cell (World.block_lt_of_cell? w _ hw151_0)).trans hw151_0)⟩ (fun hHeld => ?_)
                                          clear hK K
                                          refine norm_ (a' := ?_) ?_ ?_
                                          rotate_left
                                          · show Act.put _ (some 66) _ = _
                                            simp only [Act.put, List.setIfInBounds_toArray, List.set_cons_zero, List.set_cons_succ, i64_w, i32_w]
                                            rfl
                                          exact norm_ (by simp only [putAll, Act.put, List.setIfInBounds_toArray, List.set_cons_zero, List.set_cons_succ]) (hCont (gb155) _ ⟨hHeld, (by (with_reducible repeat (first | refine blk_drewN ?_ _ | refine blk_drew ?_ | refine blk_alloc ?_ _)); exact BK142.out), (by (with_reducible repeat (first | refine blk_drewN ?_ _ | refine blk_drew ?_ | refine blk_alloc ?_ _)); exact BK148.out), (by (with_reducible repeat (first | refine blk_drewN ?_ _ | refine blk_drew ?_ | refine blk_alloc ?_ _)); exact BK155.out), GW155.out, GE155.out, NB142_155.out, NB155_142.out, NB148_155.out, NB155_148.out, (by repeat (first | (with_reducible first | exact HB.out | apply below_alloc | apply pw_below_drewN | apply below_drew1 | refine below_set ?_ GE142.out | refine below_set ?_ GE148.out | refine below_set ?_ GE155.out) | exact HB.out))⟩)
                                      rintro gb155 w91 ⟨hS_, h0_, h1_, h2_, h3_, h4_, h5_, h6_, h7_, h8_, h9_⟩
                                      have n0_ : Aside0 (w91.heap[gb142]? = some (.cells #[.int .u32 a0_0, .int .u32 a0_1, .string a0_2] 24 (0, 0))) := ⟨h0_⟩
                                      have n1_ : Aside0 (w91.heap[gb148]? = some (.cells #[.int .u32 x149000_3, .int .u32 x149001_3, .string x149002_3] 24 (0, 0))) := ⟨h1_⟩
                                      have n2_ : Aside0 (w91.heap[gb155]? = some (.cells #[.int .u32 0, .int .u32 0, .string (⟨#[]⟩ : ByteArray)] 24 (0, 0))) := ⟨h2_⟩
                                      have n3_ : Aside0 (w.heap.size ≤ gb155) := ⟨h3_⟩
                                      have n4_ : Aside0 (w.heap.size ≤ gb155) := ⟨h4_⟩
                                      have n5_ : Aside0 (gb142 ≠ gb155) := ⟨h5_⟩
                                      have n6_ : Aside0 (gb155 ≠ gb142) := ⟨h6_⟩
                                      have n7_ : Aside0 (gb148 ≠ gb155) := ⟨h7_⟩
                                      have n8_ : Aside0 (gb155 ≠ gb148) := ⟨h8_⟩
                                      have n9_ : Aside0 (Below w.heap.size w w91) := ⟨h9_⟩
                                      clear BK142
                                      clear BK148
                                      clear HB
                                      clear h0_ h1_ h2_ h3_ h4_ h5_ h6_ h7_ h8_ h9_
                                      have BK142 := n0_
                                      have BK148 := n1_
                                      have BK155 := n2_
                                      have GW155 := n3_
                                      have GE155 := n4_
                                      have NB142_155 := n5_
                                      have NB155_142 := n6_
                                      have NB148_155 := n7_
                                      have NB155_148 := n8_
                                      have HB := n9_
                                      clear n0_ n1_ n2_ n3_ n4_ n5_ n6_ n7_ n8_ n9_
                                      have hHeld : w91.cell? ⟨gb148, 0, none⟩ = some (.int .u32 x149000_3) ∧ w91.cell? ⟨gb148, 1, none⟩ = some (.int .u32 x149001_3) ∧ w91.cell? ⟨gb148, 2, none⟩ = some (.string x149002_3) ∧ w91.cell? (ad151.add (x12_3).toNat) = some (.int .u32 (rd l4 x12_3)) := hS_
                                      refine norm_ (a' := ?_) ?_ ?_
                                      rotate_left
                                      · simp only [putAll, Act.put, List.setIfInBounds_toArray, List.set_cons_zero, List.set_cons_succ]
                                        rfl
                                      refine one_ (i := 8) (N := none) #[true, true, true, true, true, true, true, true, true] rfl rfl (one_of HT_.out (by kernel_rfl)) (by decide) (fun K hK => ?_)
                                      have hs92 : w91.cell? ⟨gb155, 0, none⟩ = some (.int .u32 0) := (blk_cell BK155.out 0).trans rfl
                                      have hfs92 := blk_frozen BK155.out 0
                                      have hns92_0 := NB142_155.out
                                      have hns92_1 := NB148_155.out
                                      have hms92_0 := NB155_142.out
                                      have hms92_1 := NB155_148.out
                                      have hs93 : w91.cell? ⟨gb155, 1, none⟩ = some (.int .u32 0) := (blk_cell BK155.out 1).trans rfl
                                      have hfs93 := blk_frozen BK155.out 1
                                      have hns93_0 := NB142_155.out
                                      have hns93_1 := NB148_155.out
                                      have hms93_0 := NB155_142.out
                                      have hms93_1 := NB155_148.out
                                      have hs94 : w91.cell? ⟨gb155, 2, none⟩ = some (.string (⟨#[]⟩ : ByteArray)) := (blk_cell BK155.out 2).trans rfl
                                      have hfs94 := blk_frozen BK155.out 2
                                      have hns94_0 := NB142_155.out
                                      have hns94_1 := NB148_155.out
                                      have hms94_0 := NB155_142.out
                                      have hms94_1 := NB155_148.out
                                      refine skip_ (w1 := ?_) (by rfl) rfl ?_ ?_
                                      rotate_left
                                      · go_simp
                                        rfl
                                      refine hK.out _ _ ⟨((cell_far (p := ⟨gb155, _, none⟩) NB148_155.out _).trans (((cell_far (p := ⟨gb155, _, none⟩) NB148_155.out _).trans (((cell_far (p := ⟨gb155, _, none⟩) NB148_155.out _).trans (hHeld.1)))))), ((cell_far (p := ⟨gb155, _, none⟩) NB148_155.out _).trans (((cell_far (p := ⟨gb155, _, none⟩) NB148_155.out _).trans (((cell_far (p := ⟨gb155, _, none⟩) NB148_155.out _).trans (hHeld.2.1)))))), ((cell_far (p := ⟨gb155, _, none⟩) NB148_155.out _).trans (((cell_far (p := ⟨gb155, _, none⟩) NB148_155.out _).trans (((cell_far (p := ⟨gb155, _, none⟩) NB148_155.out _).trans (hHeld.2.2.1)))))), ((cell_far (p := ⟨gb155, _, none⟩) (by first | exact Nat.ne_of_lt (Nat.lt_of_lt_of_le (by have := World.block_lt_of_cell? _ _ hw151_0; first | rwa [add_block] at this | exact this) GW155.out) | (rw [add_block]; exact Nat.ne_of_lt (Nat.lt_of_lt_of_le (by have := World.block_lt_of_cell? _ _ hw151_0; first | rwa [add_block] at this | exact this) GW155.out)) | (show (Addr.add _ _).block ≠ _; rw [add_block]; exact Nat.ne_of_lt (Nat.lt_of_lt_of_le (by have := World.block_lt_of_cell? _ _ hw151_0; first | rwa [add_block] at this | exact this) GW155.out)) | (dsimp only; exact Nat.ne_of_lt (Nat.lt_of_lt_of_le (by have := World.block_lt_of_cell? _ _ hw151_0; first | rwa [add_block] at this | exact this) GW155.out))) _).trans (((cell_far (p := ⟨gb155, _, none⟩) (by first | exact Nat.ne_of_lt (Nat.lt_of_lt_of_le (by have := World.block_lt_of_cell? _ _ hw151_0; first | rwa [add_block] at this | exact this) GW155.out) | (rw [add_block]; exact Nat.ne_of_lt (Nat.lt_of_lt_of_le (by have := World.block_lt_of_cell? _ _ hw151_0; first | rwa [add_block] at this | exact this) GW155.out)) | (show (Addr.add _ _).block ≠ _; rw [add_block]; exact Nat.ne_of_lt (Nat.lt_of_lt_of_le (by have := World.block_lt_of_cell? _ _ hw151_0; first | rwa [add_block] at this | exact this) GW155.out)) | (dsimp only; exact Nat.ne_of_lt (Nat.lt_of_lt_of_le (by have := World.block_lt_of_cell? _ _ hw151_0; first | rwa [add_block] at this | exact this) GW155.out))) _).trans (((cell_far (p := ⟨gb155, _, none⟩) (by first | exact Nat.ne_of_lt (Nat.lt_of_lt_of_le (by have := World.block_lt_of_cell? _ _ hw151_0; first | rwa [add_block] at this | exact this) GW155.out) | (rw [add_block]; exact Nat.ne_of_lt (Nat.lt_of_lt_of_le (by have := World.block_lt_of_cell? _ _ hw151_0; first | rwa [add_block] at this | exact this) GW155.out)) | (show (Addr.add _ _).block ≠ _; rw [add_block]; exact Nat.ne_of_lt (Nat.lt_of_lt_of_le (by have := World.block_lt_of_cell? _ _ hw151_0; first | rwa [add_block] at this | exact this) GW155.out)) | (dsimp only; exact Nat.ne_of_lt (Nat.lt_of_lt_of_le (by have := World.block_lt_of_cell? _ _ hw151_0; first | rwa [add_block] at this | exact this) GW155.out))) _).trans (hHeld.2.2.2))))))⟩ (fun hHeld => ?_)
                                      clear hK K
                                      refine done_ (done_of HT_.out (by kernel_rfl)) ?_
                                      have hnb95 := NB155_142.out
                                      have hnc95 := NB142_155.out
                                      have hnb96 := NB155_148.out
                                      have hnc96 := NB148_155.out
                                      have hcz97_0 : w91.cell? ⟨gb155, 0, none⟩ = some (.int .u32 0) := (blk_cell BK155.out 0).trans rfl
                                      have hcz97_1 : w91.cell? ⟨gb155, 1, none⟩ = some (.int .u32 0) := (blk_cell BK155.out 1).trans rfl
                                      have hcz97_2 : w91.cell? ⟨gb155, 2, none⟩ = some (.string (⟨#[]⟩ : ByteArray)) := (blk_cell BK155.out 2).trans rfl
                                      have hfz97_0 := blk_frozen BK155.out 0
                                      have hfz97_1 := blk_frozen BK155.out 1
                                      have hfz97_2 := blk_frozen BK155.out 2
                                      have hnb98 := NB148_142.out
                                      have hnc98 := NB142_148.out
                                      have hcz99_0 : w91.cell? ⟨gb148, 0, none⟩ = some (.int .u32 x149000_3) := (blk_cell BK148.out 0).trans rfl
                                      have hcz99_1 : w91.cell? ⟨gb148, 1, none⟩ = some (.int .u32 x149001_3) := (blk_cell BK148.out 1).trans rfl
                                      have hcz99_2 : w91.cell? ⟨gb148, 2, none⟩ = some (.string x149002_3) := (blk_cell BK148.out 2).trans rfl
                                      have hfz99_0 := blk_frozen BK148.out 0
                                      have hfz99_1 := blk_frozen BK148.out 1
                                      have hfz99_2 := blk_frozen BK148.out 2
                                      try go_wp2_with (first | (go_at_call 9; (with_reducible refine (lane_Judge.calls kj37 t152 t153 t154 a2 a3 t156 _ A71.out).mono ?_); rintro e w100 ⟨rfl, hb⟩; have n0_ := Aside0.mk (blk_below (g := gb142) (o := .cells #[.int .u32 a0_0, .int .u32 a0_1, .string a0_2] 24 (0, 0)) (by (with_reducible repeat (first | refine blk_drewN ?_ _ | refine blk_drew ?_ | refine blk_alloc ?_ _)); refine blk_far ?_ NB142_155.out _; (with_reducible repeat (first | refine blk_drewN ?_ _ | refine blk_drew ?_ | refine blk_alloc ?_ _)); refine blk_far ?_ NB142_155.out _; (with_reducible repeat (first | refine blk_drewN ?_ _ | refine blk_drew ?_ | refine blk_alloc ?_ _)); refine blk_far ?_ NB142_155.out _; (with_reducible repeat (first | refine blk_drewN ?_ _ | refine blk_drew ?_ | refine blk_alloc ?_ _)); exact BK142.out) hb); have n1_ := Aside0.mk (blk_below (g := gb148) (o := .cells #[.int .u32 x149000_3, .int .u32 x149001_3, .string x149002_3] 24 (0, 0)) (by (with_reducible repeat (first | refine blk_drewN ?_ _ | refine blk_drew ?_ | refine blk_alloc ?_ _)); refine blk_far ?_ NB148_155.out _; (with_reducible repeat (first | refine blk_drewN ?_ _ | refine blk_drew ?_ | refine blk_alloc ?_ _)); refine blk_far ?_ NB148_155.out _; (with_reducible repeat (first | refine blk_drewN ?_ _ | refine blk_drew ?_ | refine blk_alloc ?_ _)); refine blk_far ?_ NB148_155.out _; (with_reducible repeat (first | refine blk_drewN ?_ _ | refine blk_drew ?_ | refine blk_alloc ?_ _)); exact BK148.out) hb); have n2_ := Aside0.mk (blk_below (g := gb155) (o := .cells #[.int .u32 t152, .int .u32 t153, .string t154] 24 (0, 0)) (by (with_reducible repeat (first | refine blk_drewN ?_ _ | refine blk_drew ?_ | refine blk_alloc ?_ _)); refine blk_put (cs := #[.int .u32 t152, .int .u32 t153, .string (⟨#[]⟩ : ByteArray)]) ?_ 2 _ rfl; (with_reducible repeat (first | refine blk_drewN ?_ _ | refine blk_drew ?_ | refine blk_alloc ?_ _)); refine blk_put (cs := #[.int .u32 t152, .int .u32 0, .string (⟨#[]⟩ : ByteArray)]) ?_ 1 _ rfl; (with_reducible repeat (first | refine blk_drewN ?_ _ | refine blk_drew ?_ | refine blk_alloc ?_ _)); refine blk_put (cs := #[.int .u32 0, .int .u32 0, .string (⟨#[]⟩ : ByteArray)]) ?_ 0 _ rfl; (with_reducible repeat (first | refine blk_drewN ?_ _ | refine blk_drew ?_ | refine blk_alloc ?_ _)); exact BK155.out) hb); have n3_ := Aside0.mk (below_step (by repeat (first | (with_reducible first | exact HB.out | apply below_alloc | apply pw_below_drewN | apply below_drew1 | refine below_set ?_ GE142.out | refine below_set ?_ GE148.out | refine below_set ?_ GE155.out) | exact HB.out)) hb); clear BK142; clear BK148; clear BK155; clear HB; have BK142 := n0_; have BK148 := n1_; have BK155 := n2_; have HB := n3_; clear n0_ n1_ n2_ n3_; (try clear hb); (try clear hb2); (try clear hk); (try clear hi)))
                                      go_ret
                                      exact ⟨by first | rfl | (simp [errW_none, errW_some] <;> rfl) | (simp [*, errW_none, errW_some] <;> rfl), by repeat (first | (with_reducible first | exact HB.out | apply below_alloc | apply pw_below_drewN | apply below_drew1 | refine below_set ?_ GE142.out | refine below_set ?_ GE148.out | refine below_set ?_ GE155.out) | exact HB.out)⟩
                              · rw [if_neg c44] at H
                                have c44b0 : (t152 == a1) = false := beq_eq_false_iff_ne.mpr c44
                                have c44b1 : (t152 != a1) = true := bne_iff_ne.mpr c44
                                obtain rfl := Option.some.inj H
                                try go_wp2
                                have n0_ := Aside0.mk (blk_drew BK142.out)
                                have n1_ := Aside0.mk (blk_drew BK148.out)
                                have n2_ := Aside0.mk (below_drew1 HB.out)
                                clear BK142
                                clear BK148
                                clear HB
                                have BK142 := n0_
                                have BK148 := n1_
                                have HB := n2_
                                clear n0_ n1_ n2_
                                have p151 : 0 ≤ (x12_3 : Int) := of_decide_eq_true (by first | (with_reducible assumption) | assumption)
                                have q151 : x12_3 < (l4.length : Int) := of_decide_eq_true (by first | (with_reducible assumption) | assumption)
                                obtain ⟨ad151, e151, hx151_0⟩ := Kd.at_int HR4.out x12_3 p151 q151
                                have hw151_0 := hx151_0
                                cases e151
                                replace hx151_0 := (HB.out.cell (World.block_lt_of_cell? w _ hx151_0)).trans hx151_0
                                replace p151 := eq_true p151
                                replace q151 := eq_true q151
                                refine start_ (n := 9) (S := fun w' => w'.cell? ⟨gb148, 0, none⟩ = some (.int .u32 x149000_3) ∧ w'.cell? ⟨gb148, 1, none⟩ = some (.int .u32 x149001_3) ∧ w'.cell? ⟨gb148, 2, none⟩ = some (.string x149002_3) ∧ w'.cell? (ad151.add (x12_3).toNat) = some (.int .u32 (rd l4 x12_3))) (ds := []) #[false, false, false, false, false, false, false, false, false] (by kernel_rfl) rfl rfl ⟨(blk_cell BK148.out 0).trans rfl, (blk_cell BK148.out 1).trans rfl, (blk_cell BK148.out 2).trans rfl, ((HB.out.cell (World.block_lt_of_cell? w _ hw151_0)).trans hw151_0)⟩ (fun hHeld => ?_); refine with_tabW lamellalaw08_LaneLives.tab11 lamellalaw08_LaneLives.bits11 (fun HT_ HW_ => ?_)
                                generalize wc.drew = w101 at BK142 BK148 HB hx151_0 hHeld ⊢
                                refine pure_ (i := 1) (N := some 61) (v := ?_) (a' := ?_) #[false, true, false, false, false, false, false, false, false] rfl rfl (any_of HT_.out (by kernel_rfl)) (fun _ _ _ h => h) (Or.inl ⟨by rfl, ?_⟩) ?_ ?_
                                rotate_left
                                · intro w'
                                  go_simp
                                  with_reducible rfl
                                rotate_left
                                · simp only [Act.put, List.setIfInBounds_toArray, List.set_cons_zero, List.set_cons_succ, i64_w, i32_w]
                                  rfl
                                refine pure_ (i := 2) (N := some 62) (v := ?_) (a' := ?_) #[false, true, true, false, false, false, false, false, false] rfl rfl (any_of HT_.out (by kernel_rfl)) (fun _ _ _ h => h) (Or.inl ⟨by rfl, ?_⟩) ?_ ?_
                                rotate_left
                                · intro w'
                                  go_simp
                                  with_reducible rfl
                                rotate_left
                                · simp only [Act.put, List.setIfInBounds_toArray, List.set_cons_zero, List.set_cons_succ, i64_w, i32_w]
                                  rfl
                                refine pure_ (i := 3) (N := some 63) (v := ?_) (a' := ?_) #[false, true, true, true, false, false, false, false, false] rfl rfl (any_of HT_.out (by kernel_rfl)) (fun _ _ _ h => h) (Or.inl ⟨by rfl, ?_⟩) ?_ ?_
                                rotate_left
                                · intro w'
                                  go_simp
                                  with_reducible rfl
                                rotate_left
                                · simp only [Act.put, List.setIfInBounds_toArray, List.set_cons_zero, List.set_cons_succ, i64_w, i32_w]
                                  rfl
                                refine pure_ (i := 4) (N := some 64) (v := ?_) (a' := ?_) #[false, true, true, true, true, false, false, false, false] rfl rfl (any_of HT_.out (by kernel_rfl)) (fun _ _ _ h => h) (Or.inl ⟨by rfl, ?_⟩) ?_ ?_
                                rotate_left
                                · intro w'
                                  go_simp
                                  with_reducible rfl
                                rotate_left
                                · simp only [Act.put, List.setIfInBounds_toArray, List.set_cons_zero, List.set_cons_succ, i64_w, i32_w]
                                  rfl
                                refine take_ (i := 0) (N := some 60) (v := ?_) (a' := ?_) #[true, true, true, true, true, false, false, false, false] rfl rfl (take_ofW HT_.out HW_.out (by kernel_rfl)) (fun _ _ _ h => h) (Or.inl ⟨by rfl, ?_⟩) hHeld ?_ ?_
                                rotate_left
                                · rintro w' ⟨s0, s1, s2, s3⟩
                                  go_simp
                                  with_reducible rfl
                                rotate_left
                                · simp only [Act.put, List.setIfInBounds_toArray, List.set_cons_zero, List.set_cons_succ, i64_w, i32_w]
                                  rfl
                                refine take_ (i := 5) (N := some 65) (v := ?_) (a' := ?_) #[true, true, true, true, true, true, false, false, false] rfl rfl (take_ofW HT_.out HW_.out (by kernel_rfl)) (fun _ _ _ h => h) (Or.inl ⟨by rfl, ?_⟩) hHeld ?_ ?_
                                rotate_left
                                · rintro w' ⟨s0, s1, s2, s3⟩
                                  go_simp
                                  with_reducible rfl
                                rotate_left
                                · simp only [Act.put, List.setIfInBounds_toArray, List.set_cons_zero, List.set_cons_succ, i64_w, i32_w]
                                  rfl
                                refine join_ (σ := Nat) 1 #[true, true, true, true, true, true, true, true, false] (fun s_ => [(66, .agg #[.int .u32 t152, .int .u32 t153, .string t154]), (13, .pointer (some ⟨s_, 0, none⟩))]) (fun s_ w' => (w'.cell? ⟨gb148, 0, none⟩ = some (.int .u32 x149000_3) ∧ w'.cell? ⟨gb148, 1, none⟩ = some (.int .u32 x149001_3) ∧ w'.cell? ⟨gb148, 2, none⟩ = some (.string x149002_3) ∧ w'.cell? (ad151.add (x12_3).toNat) = some (.int .u32 (rd l4 x12_3))) ∧ (w'.heap[gb142]? = some (.cells #[.int .u32 a0_0, .int .u32 a0_1, .string a0_2] 24 (0, 0))) ∧ (w'.heap[gb148]? = some (.cells #[.int .u32 x149000_3, .int .u32 x149001_3, .string x149002_3] 24 (0, 0))) ∧ (w'.heap[s_]? = some (.cells #[.int .u32 0, .int .u32 0, .string (⟨#[]⟩ : ByteArray)] 24 (0, 0))) ∧ (w.heap.size ≤ s_) ∧ (w.heap.size ≤ s_) ∧ (gb142 ≠ s_) ∧ (s_ ≠ gb142) ∧ (gb148 ≠ s_) ∧ (s_ ≠ gb148) ∧ (Below w.heap.size w w')) ?_ ?_
                                rotate_left
                                · intro hCont
                                  refine two_ (i := 6) (j := 7) (Ni := some 66) (Nj := some 13) #[true, true, true, true, true, true, true, false, false] #[true, true, true, true, true, true, false, true, false] rfl rfl rfl rfl (two_of HT_.out (by kernel_rfl)) (by decide) (by decide) (fun K hK => ?_) (fun K hK => ?_)
                                  · skip
                                    refine goes_ Try.func11 (by kernel_rfl) rfl #[.agg #[.int .u32 x149000_3, .int .u32 x149001_3, .string x149002_3], .int .u32 a1, .int .u32 (rd l4 x12_3), .string (⟨#[110, 101, 120, 116]⟩ : ByteArray)] (by rfl) rfl rfl (by (try simp only [List.map_toArray, List.map_cons, List.map_nil]); first | done | rfl | (simp only [List.length_drop, List.length_take]; rfl)) ?_
                                    with_reducible refine (lane_Done.calls kj37 x149000_3 x149001_3 x149002_3 a1 (rd l4 x12_3) (⟨#[110, 101, 120, 116]⟩ : ByteArray) t152 t153 t154 _ A43.out).mono ?_
                                    rintro e w102 ⟨rfl, hb⟩
                                    refine ⟨_, rfl, ?_⟩
                                    have n0_ := Aside0.mk (blk_below (g := gb142) (o := .cells #[.int .u32 a0_0, .int .u32 a0_1, .string a0_2] 24 (0, 0)) (by (with_reducible repeat (first | refine blk_drewN ?_ _ | refine blk_drew ?_ | refine blk_alloc ?_ _)); exact BK142.out) hb)
                                    have n1_ := Aside0.mk (blk_below (g := gb148) (o := .cells #[.int .u32 x149000_3, .int .u32 x149001_3, .string x149002_3] 24 (0, 0)) (by (with_reducible repeat (first | refine blk_drewN ?_ _ | refine blk_drew ?_ | refine blk_alloc ?_ _)); exact BK148.out) hb)
                                    have n2_ := Aside0.mk (below_step (by repeat (first | (with_reducible first | exact HB.out | apply below_alloc | apply pw_below_drewN | apply below_drew1 | refine below_set ?_ GE142.out | refine below_set ?_ GE148.out) | exact HB.out)) hb)
                                    clear BK142
                                    clear BK148
                                    clear HB
                                    have BK142 := n0_
                                    have BK148 := n1_
                                    have HB := n2_
                                    clear n0_ n1_ n2_
                                    (try clear hb)
                                    (try clear hb2)
                                    (try clear hk)
                                    (try clear hi)
                                    refine hK.out _ _ ⟨(blk_cell BK148.out 0).trans rfl, (blk_cell BK148.out 1).trans rfl, (blk_cell BK148.out 2).trans rfl, ((HB.out.cell (World.block_lt_of_cell? w _ hw151_0)).trans hw151_0)⟩ (fun hHeld => ?_)
                                    clear hK K
                                    refine norm_ (a' := ?_) ?_ ?_
                                    rotate_left
                                    · show Act.put _ (some 66) _ = _
                                      simp only [Act.put, List.setIfInBounds_toArray, List.set_cons_zero, List.set_cons_succ, i64_w, i32_w]
                                      rfl
                                    refine one_ (i := 7) (N := some 13) #[true, true, true, true, true, true, true, true, false] rfl rfl (one_of HT_.out (by kernel_rfl)) (by decide) (fun K hK => ?_)
                                    refine box_step ?hg (N := 13) ?hd (cs := #[.int .u32 0, .int .u32 0, .string (⟨#[]⟩ : ByteArray)]) (t := 24) ?hr ?_; (case hd => rfl); (case hg => rfl); (case hr => first | (go_simp; done) | (go_simp; rfl))
                                    intro gb155 hg w103 hbox hb
                                    have n0_ := Aside0.mk (blk_below (g := gb142) (o := .cells #[.int .u32 a0_0, .int .u32 a0_1, .string a0_2] 24 (0, 0)) (by (with_reducible repeat (first | refine blk_drewN ?_ _ | refine blk_drew ?_ | refine blk_alloc ?_ _)); exact BK142.out) hb)
                                    have n1_ := Aside0.mk (blk_below (g := gb148) (o := .cells #[.int .u32 x149000_3, .int .u32 x149001_3, .string x149002_3] 24 (0, 0)) (by (with_reducible repeat (first | refine blk_drewN ?_ _ | refine blk_drew ?_ | refine blk_alloc ?_ _)); exact BK148.out) hb)
                                    have n2_ := Aside0.mk (below_step (by repeat (first | (with_reducible first | exact HB.out | apply below_alloc | apply pw_below_drewN | apply below_drew1 | refine below_set ?_ GE142.out | refine below_set ?_ GE148.out) | exact HB.out)) hb)
                                    have n3_ := Aside0.mk (hbox)
                                    have n4_ := Aside0.mk ((by rw [hg]; exact (below_size (by repeat (first | (with_reducible first | exact HB.out | apply below_alloc | apply pw_below_drewN | apply below_drew1 | refine below_set ?_ GE142.out | refine below_set ?_ GE148.out) | exact HB.out))) : w.heap.size ≤ gb155))
                                    have n5_ := Aside0.mk ((by rw [hg]; exact (below_size (by repeat (first | (with_reducible first | exact HB.out | apply below_alloc | apply pw_below_drewN | apply below_drew1 | refine below_set ?_ GE142.out | refine below_set ?_ GE148.out) | exact HB.out))) : w.heap.size ≤ gb155))
                                    have n6_ := Aside0.mk ((by rw [hg]; exact Nat.ne_of_lt (blk_lt (g := gb142) (o := .cells #[.int .u32 a0_0, .int .u32 a0_1, .string a0_2] 24 (0, 0)) (by (with_reducible repeat (first | refine blk_drewN ?_ _ | refine blk_drew ?_ | refine blk_alloc ?_ _)); exact BK142.out)) : gb142 ≠ gb155))
                                    have n7_ := Aside0.mk ((by rw [hg]; exact Nat.ne_of_gt (blk_lt (g := gb142) (o := .cells #[.int .u32 a0_0, .int .u32 a0_1, .string a0_2] 24 (0, 0)) (by (with_reducible repeat (first | refine blk_drewN ?_ _ | refine blk_drew ?_ | refine blk_alloc ?_ _)); exact BK142.out)) : gb155 ≠ gb142))
                                    have n8_ := Aside0.mk ((by rw [hg]; exact Nat.ne_of_lt (blk_lt (g := gb148) (o := .cells #[.int .u32 x149000_3, .int .u32 x149001_3, .string x149002_3] 24 (0, 0)) (by (with_reducible repeat (first | refine blk_drewN ?_ _ | refine blk_drew ?_ | refine blk_alloc ?_ _)); exact BK148.out)) : gb148 ≠ gb155))
                                    have n9_ := Aside0.mk ((by rw [hg]; exact Nat.ne_of_gt (blk_lt (g := gb148) (o := .cells #[.int .u32 x149000_3, .int .u32 x149001_3, .string x149002_3] 24 (0, 0)) (by (with_reducible repeat (first | refine blk_drewN ?_ _ | refine blk_drew ?_ | refine blk_alloc ?_ _)); exact BK148.out)) : gb155 ≠ gb148))
                                    clear BK142
                                    clear BK148
                                    clear HB
                                    have BK142 := n0_
                                    have BK148 := n1_
                                    have HB := n2_
                                    have BK155 := n3_
                                    have GW155 := n4_
                                    have GE155 := n5_
                                    have NB142_155 := n6_
                                    have NB155_142 := n7_
                                    have NB148_155 := n8_
                                    have NB155_148 := n9_
                                    clear n0_ n1_ n2_ n3_ n4_ n5_ n6_ n7_ n8_ n9_
                                    clear hb hbox hg
                                    refine hK.out _ _ ⟨(blk_cell BK148.out 0).trans rfl, (blk_cell BK148.out 1).trans rfl, (blk_cell BK148.out 2).trans rfl, ((HB.out.cell (World.block_lt_of_cell? w _ hw151_0)).trans hw151_0)⟩ (fun hHeld => ?_)
                                    clear hK K
                                    refine norm_ (a' := ?_) ?_ ?_
                                    rotate_left
                                    · show Act.put _ (some 13) _ = _
                                      simp only [Act.put, List.setIfInBounds_toArray, List.set_cons_zero, List.set_cons_succ, i64_w, i32_w]
                                      rfl
                                    exact norm_ (by simp only [putAll, Act.put, List.setIfInBounds_toArray, List.set_cons_zero, List.set_cons_succ]) (hCont (gb155) _ ⟨hHeld, (by (with_reducible repeat (first | refine blk_drewN ?_ _ | refine blk_drew ?_ | refine blk_alloc ?_ _)); exact BK142.out), (by (with_reducible repeat (first | refine blk_drewN ?_ _ | refine blk_drew ?_ | refine blk_alloc ?_ _)); exact BK148.out), (by (with_reducible repeat (first | refine blk_drewN ?_ _ | refine blk_drew ?_ | refine blk_alloc ?_ _)); exact BK155.out), GW155.out, GE155.out, NB142_155.out, NB155_142.out, NB148_155.out, NB155_148.out, (by repeat (first | (with_reducible first | exact HB.out | apply below_alloc | apply pw_below_drewN | apply below_drew1 | refine below_set ?_ GE142.out | refine below_set ?_ GE148.out | refine below_set ?_ GE155.out) | exact HB.out))⟩)
                                  · skip
                                    refine box_step ?hg (N := 13) ?hd (cs := #[.int .u32 0, .int .u32 0, .string (⟨#[]⟩ : ByteArray)]) (t := 24) ?hr ?_; (case hd => rfl); (case hg => rfl); (case hr => first | (go_simp; done) | (go_simp; rfl))
                                    intro gb155 hg w102 hbox hb
                                    have n0_ := Aside0.mk (blk_below (g := gb142) (o := .cells #[.int .u32 a0_0, .int .u32 a0_1, .string a0_2] 24 (0, 0)) (by (with_reducible repeat (first | refine blk_drewN ?_ _ | refine blk_drew ?_ | refine blk_alloc ?_ _)); exact BK142.out) hb)
                                    have n1_ := Aside0.mk (blk_below (g := gb148) (o := .cells #[.int .u32 x149000_3, .int .u32 x149001_3, .string x149002_3] 24 (0, 0)) (by (with_reducible repeat (first | refine blk_drewN ?_ _ | refine blk_drew ?_ | refine blk_alloc ?_ _)); exact BK148.out) hb)
                                    have n2_ := Aside0.mk (below_step (by repeat (first | (with_reducible first | exact HB.out | apply below_alloc | apply pw_below_drewN | apply below_drew1 | refine below_set ?_ GE142.out | refine below_set ?_ GE148.out) | exact HB.out)) hb)
                                    have n3_ := Aside0.mk (hbox)
                                    have n4_ := Aside0.mk ((by rw [hg]; exact (below_size (by repeat (first | (with_reducible first | exact HB.out | apply below_alloc | apply pw_below_drewN | apply below_drew1 | refine below_set ?_ GE142.out | refine below_set ?_ GE148.out) | exact HB.out))) : w.heap.size ≤ gb155))
                                    have n5_ := Aside0.mk ((by rw [hg]; exact (below_size (by repeat (first | (with_reducible first | exact HB.out | apply below_alloc | apply pw_below_drewN | apply below_drew1 | refine below_set ?_ GE142.out | refine below_set ?_ GE148.out) | exact HB.out))) : w.heap.size ≤ gb155))
                                    have n6_ := Aside0.mk ((by rw [hg]; exact Nat.ne_of_lt (blk_lt (g := gb142) (o := .cells #[.int .u32 a0_0, .int .u32 a0_1, .string a0_2] 24 (0, 0)) (by (with_reducible repeat (first | refine blk_drewN ?_ _ | refine blk_drew ?_ | refine blk_alloc ?_ _)); exact BK142.out)) : gb142 ≠ gb155))
                                    have n7_ := Aside0.mk ((by rw [hg]; exact Nat.ne_of_gt (blk_lt (g := gb142) (o := .cells #[.int .u32 a0_0, .int .u32 a0_1, .string a0_2] 24 (0, 0)) (by (with_reducible repeat (first | refine blk_drewN ?_ _ | refine blk_drew ?_ | refine blk_alloc ?_ _)); exact BK142.out)) : gb155 ≠ gb142))
                                    have n8_ := Aside0.mk ((by rw [hg]; exact Nat.ne_of_lt (blk_lt (g := gb148) (o := .cells #[.int .u32 x149000_3, .int .u32 x149001_3, .string x149002_3] 24 (0, 0)) (by (with_reducible repeat (first | refine blk_drewN ?_ _ | refine blk_drew ?_ | refine blk_alloc ?_ _)); exact BK148.out)) : gb148 ≠ gb155))
                                    have n9_ := Aside0.mk ((by rw [hg]; exact Nat.ne_of_gt (blk_lt (g := gb148) (o := .cells #[.int .u32 x149000_3, .int .u32 x149001_3, .string x149002_3] 24 (0, 0)) (by (with_reducible repeat (first | refine blk_drewN ?_ _ | refine blk_drew ?_ | refine blk_alloc ?_ _)); exact BK148.out)) : gb155 ≠ gb148))
                                    clear BK142
                                    clear BK148
                                    clear HB
                                    have BK142 := n0_
                                    have BK148 := n1_
                                    have HB := n2_
                                    have BK155 := n3_
                                    have GW155 := n4_
                                    have GE155 := n5_
                                    have NB142_155 := n6_
                                    have NB155_142 := n7_
                                    have NB148_155 := n8_
                                    have NB155_148 := n9_
                                    clear n0_ n1_ n2_ n3_ n4_ n5_ n6_ n7_ n8_ n9_
                                    clear hb hbox hg
                                    refine hK.out _ _ ⟨(blk_cell BK148.out 0).trans rfl, (blk_cell BK148.out 1).trans rfl, (blk_cell BK148.out 2).trans rfl, ((HB.out.cell (World.block_lt_of_cell? w _ hw151_0)).trans hw151_0)⟩ (fun hHeld => ?_)
                                    clear hK K
                                    refine norm_ (a' := ?_) ?_ ?_
                                    rotate_left
                                    · show Act.put _ (some 13) _ = _
                                      simp only [Act.put, List.setIfInBounds_toArray, List.set_cons_zero, List.set_cons_succ, i64_w, i32_w]
                                      rfl
                                    refine one_ (i := 6) (N := some 66) #[true, true, true, true, true, true, true, true, false] rfl rfl (one_of HT_.out (by kernel_rfl)) (by decide) (fun K hK => ?_)
                                    refine goes_ Try.func11 (by kernel_rfl) rfl #[.agg #[.int .u32 x149000_3, .int .u32 x149001_3, .string x149002_3], .int .u32 a1, .int .u32 (rd l4 x12_3), .string (⟨#[110, 101, 120, 116]⟩ : ByteArray)] (by rfl) rfl rfl (by (try simp only [List.map_toArray, List.map_cons, List.map_nil]); first | done | rfl | (simp only [List.length_drop, List.length_take]; rfl)) ?_
                                    with_reducible refine (lane_Done.calls kj37 x149000_3 x149001_3 x149002_3 a1 (rd l4 x12_3) (⟨#[110, 101, 120, 116]⟩ : ByteArray) t152 t153 t154 _ A43.out).mono ?_
                                    rintro e w103 ⟨rfl, hb⟩
                                    refine ⟨_, rfl, ?_⟩
                                    have n0_ := Aside0.mk (blk_below (g := gb142) (o := .cells #[.int .u32 a0_0, .int .u32 a0_1, .string a0_2] 24 (0, 0)) (by (with_reducible repeat (first | refine blk_drewN ?_ _ | refine blk_drew ?_ | refine blk_alloc ?_ _)); exact BK142.out) hb)
                                    have n1_ := Aside0.mk (blk_below (g := gb148) (o := .cells #[.int .u32 x149000_3, .int .u32 x149001_3, .string x149002_3] 24 (0, 0)) (by (with_reducible repeat (first | refine blk_drewN ?_ _ | refine blk_drew ?_ | refine blk_alloc ?_ _)); exact BK148.out) hb)
                                    have n2_ := Aside0.mk (blk_below (g := gb155) (o := .cells #[.int .u32 0, .int .u32 0, .string (⟨#[]⟩ : ByteArray)] 24 (0, 0)) (by (with_reducible repeat (first | refine blk_drewN ?_ _ | refine blk_drew ?_ | refine blk_alloc ?_ _)); exact BK155.out) hb)
                                    have n3_ := Aside0.mk (below_step (by repeat (first | (with_reducible first | exact HB.out | apply below_alloc | apply pw_below_drewN | apply below_drew1 | refine below_set ?_ GE142.out | refine below_set ?_ GE148.out | refine below_set ?_ GE155.out) | exact HB.out)) hb)
                                    clear BK142
                                    clear BK148
                                    clear BK155
                                    clear HB
                                    have BK142 := n0_
                                    have BK148 := n1_
                                    have BK155 := n2_
                                    have HB := n3_
                                    clear n0_ n1_ n2_ n3_
                                    (try clear hb)
                                    (try clear hb2)
                                    (try clear hk)
                                    (try clear hi)
                                    refine hK.out _ _ ⟨(blk_cell BK148.out 0).trans rfl, (blk_cell BK148.out 1).trans rfl, (blk_cell BK148.out 2).trans rfl, ((HB.out.cell (World.block_lt_of_cell? w _ hw151_0)).trans hw151_0)⟩ (fun hHeld => ?_)
                                    clear hK K
                                    refine norm_ (a' := ?_) ?_ ?_
                                    rotate_left
                                    · show Act.put _ (some 66) _ = _
                                      simp only [Act.put, List.setIfInBounds_toArray, List.set_cons_zero, List.set_cons_succ, i64_w, i32_w]
                                      rfl
                                    exact norm_ (by simp only [putAll, Act.put, List.setIfInBounds_toArray, List.set_cons_zero, List.set_cons_succ]) (hCont (gb155) _ ⟨hHeld, (by (with_reducible repeat (first | refine blk_drewN ?_ _ | refine blk_drew ?_ | refine blk_alloc ?_ _)); exact BK142.out), (by (with_reducible repeat (first | refine blk_drewN ?_ _ | refine blk_drew ?_ | refine blk_alloc ?_ _)); exact BK148.out), (by (with_reducible repeat (first | refine blk_drewN ?_ _ | refine blk_drew ?_ | refine blk_alloc ?_ _)); exact BK155.out), GW155.out, GE155.out, NB142_155.out, NB155_142.out, NB148_155.out, NB155_148.out, (by repeat (first | (with_reducible first | exact HB.out | apply below_alloc | apply pw_below_drewN | apply below_drew1 | refine below_set ?_ GE142.out | refine below_set ?_ GE148.out | refine below_set ?_ GE155.out) | exact HB.out))⟩)
                                rintro gb155 w104 ⟨hS_, h0_, h1_, h2_, h3_, h4_, h5_, h6_, h7_, h8_, h9_⟩
                                have n0_ : Aside0 (w104.heap[gb142]? = some (.cells #[.int .u32 a0_0, .int .u32 a0_1, .string a0_2] 24 (0, 0))) := ⟨h0_⟩
                                have n1_ : Aside0 (w104.heap[gb148]? = some (.cells #[.int .u32 x149000_3, .int .u32 x149001_3, .string x149002_3] 24 (0, 0))) := ⟨h1_⟩
                                have n2_ : Aside0 (w104.heap[gb155]? = some (.cells #[.int .u32 0, .int .u32 0, .string (⟨#[]⟩ : ByteArray)] 24 (0, 0))) := ⟨h2_⟩
                                have n3_ : Aside0 (w.heap.size ≤ gb155) := ⟨h3_⟩
                                have n4_ : Aside0 (w.heap.size ≤ gb155) := ⟨h4_⟩
                                have n5_ : Aside0 (gb142 ≠ gb155) := ⟨h5_⟩
                                have n6_ : Aside0 (gb155 ≠ gb142) := ⟨h6_⟩
                                have n7_ : Aside0 (gb148 ≠ gb155) := ⟨h7_⟩
                                have n8_ : Aside0 (gb155 ≠ gb148) := ⟨h8_⟩
                                have n9_ : Aside0 (Below w.heap.size w w104) := ⟨h9_⟩
                                clear BK142
                                clear BK148
                                clear HB
                                clear h0_ h1_ h2_ h3_ h4_ h5_ h6_ h7_ h8_ h9_
                                have BK142 := n0_
                                have BK148 := n1_
                                have BK155 := n2_
                                have GW155 := n3_
                                have GE155 := n4_
                                have NB142_155 := n5_
                                have NB155_142 := n6_
                                have NB148_155 := n7_
                                have NB155_148 := n8_
                                have HB := n9_
                                clear n0_ n1_ n2_ n3_ n4_ n5_ n6_ n7_ n8_ n9_
                                have hHeld : w104.cell? ⟨gb148, 0, none⟩ = some (.int .u32 x149000_3) ∧ w104.cell? ⟨gb148, 1, none⟩ = some (.int .u32 x149001_3) ∧ w104.cell? ⟨gb148, 2, none⟩ = some (.string x149002_3) ∧ w104.cell? (ad151.add (x12_3).toNat) = some (.int .u32 (rd l4 x12_3)) := hS_
                                refine norm_ (a' := ?_) ?_ ?_
                                rotate_left
                                · simp only [putAll, Act.put, List.setIfInBounds_toArray, List.set_cons_zero, List.set_cons_succ]
                                  rfl
                                refine one_ (i := 8) (N := none) #[true, true, true, true, true, true, true, true, true] rfl rfl (one_of HT_.out (by kernel_rfl)) (by decide) (fun K hK => ?_)
                                have hs105 : w104.cell? ⟨gb155, 0, none⟩ = some (.int .u32 0) := (blk_cell BK155.out 0).trans rfl
                                have hfs105 := blk_frozen BK155.out 0
                                have hns105_0 := NB142_155.out
                                have hns105_1 := NB148_155.out
                                have hms105_0 := NB155_142.out
                                have hms105_1 := NB155_148.out
                                have hs106 : w104.cell? ⟨gb155, 1, none⟩ = some (.int .u32 0) := (blk_cell BK155.out 1).trans rfl
                                have hfs106 := blk_frozen BK155.out 1
                                have hns106_0 := NB142_155.out
                                have hns106_1 := NB148_155.out
                                have hms106_0 := NB155_142.out
                                have hms106_1 := NB155_148.out
                                have hs107 : w104.cell? ⟨gb155, 2, none⟩ = some (.string (⟨#[]⟩ : ByteArray)) := (blk_cell BK155.out 2).trans rfl
                                have hfs107 := blk_frozen BK155.out 2
                                have hns107_0 := NB142_155.out
                                have hns107_1 := NB148_155.out
                                have hms107_0 := NB155_142.out
                                have hms107_1 := NB155_148.out
                                refine skip_ (w1 := ?_) (by rfl) rfl ?_ ?_
                                rotate_left
                                · go_simp
                                  rfl
                                refine hK.out _ _ ⟨((cell_far (p := ⟨gb155, _, none⟩) NB148_155.out _).trans (((cell_far (p := ⟨gb155, _, none⟩) NB148_155.out _).trans (((cell_far (p := ⟨gb155, _, none⟩) NB148_155.out _).trans (hHeld.1)))))), ((cell_far (p := ⟨gb155, _, none⟩) NB148_155.out _).trans (((cell_far (p := ⟨gb155, _, none⟩) NB148_155.out _).trans (((cell_far (p := ⟨gb155, _, none⟩) NB148_155.out _).trans (hHeld.2.1)))))), ((cell_far (p := ⟨gb155, _, none⟩) NB148_155.out _).trans (((cell_far (p := ⟨gb155, _, none⟩) NB148_155.out _).trans (((cell_far (p := ⟨gb155, _, none⟩) NB148_155.out _).trans (hHeld.2.2.1)))))), ((cell_far (p := ⟨gb155, _, none⟩) (by first | exact Nat.ne_of_lt (Nat.lt_of_lt_of_le (by have := World.block_lt_of_cell? _ _ hw151_0; first | rwa [add_block] at this | exact this) GW155.out) | (rw [add_block]; exact Nat.ne_of_lt (Nat.lt_of_lt_of_le (by have := World.block_lt_of_cell? _ _ hw151_0; first | rwa [add_block] at this | exact this) GW155.out)) | (show (Addr.add _ _).block ≠ _; rw [add_block]; exact Nat.ne_of_lt (Nat.lt_of_lt_of_le (by have := World.block_lt_of_cell? _ _ hw151_0; first | rwa [add_block] at this | exact this) GW155.out)) | (dsimp only; exact Nat.ne_of_lt (Nat.lt_of_lt_of_le (by have := World.block_lt_of_cell? _ _ hw151_0; first | rwa [add_block] at this | exact this) GW155.out))) _).trans (((cell_far (p := ⟨gb155, _, none⟩) (by first | exact Nat.ne_of_lt (Nat.lt_of_lt_of_le (by have := World.block_lt_of_cell? _ _ hw151_0; first | rwa [add_block] at this | exact this) GW155.out) | (rw [add_block]; exact Nat.ne_of_lt (Nat.lt_of_lt_of_le (by have := World.block_lt_of_cell? _ _ hw151_0; first | rwa [add_block] at this | exact this) GW155.out)) | (show (Addr.add _ _).block ≠ _; rw [add_block]; exact Nat.ne_of_lt (Nat.lt_of_lt_of_le (by have := World.block_lt_of_cell? _ _ hw151_0; first | rwa [add_block] at this | exact this) GW155.out)) | (dsimp only; exact Nat.ne_of_lt (Nat.lt_of_lt_of_le (by have := World.block_lt_of_cell? _ _ hw151_0; first | rwa [add_block] at this | exact this) GW155.out))) _).trans (((cell_far (p := ⟨gb155, _, none⟩) (by first | exact Nat.ne_of_lt (Nat.lt_of_lt_of_le (by have := World.block_lt_of_cell? _ _ hw151_0; first | rwa [add_block] at this | exact this) GW155.out) | (rw [add_block]; exact Nat.ne_of_lt (Nat.lt_of_lt_of_le (by have := World.block_lt_of_cell? _ _ hw151_0; first | rwa [add_block] at this | exact this) GW155.out)) | (show (Addr.add _ _).block ≠ _; rw [add_block]; exact Nat.ne_of_lt (Nat.lt_of_lt_of_le (by have := World.block_lt_of_cell? _ _ hw151_0; first | rwa [add_block] at this | exact this) GW155.out)) | (dsimp only; exact Nat.ne_of_lt (Nat.lt_of_lt_of_le (by have := World.block_lt_of_cell? _ _ hw151_0; first | rwa [add_block] at this | exact this) GW155.out))) _).trans (hHeld.2.2.2))))))⟩ (fun hHeld => ?_)
                                clear hK K
                                refine done_ (done_of HT_.out (by kernel_rfl)) ?_
                                have hnb108 := NB155_142.out
                                have hnc108 := NB142_155.out
                                have hnb109 := NB155_148.out
                                have hnc109 := NB148_155.out
                                have hcz110_0 : w104.cell? ⟨gb155, 0, none⟩ = some (.int .u32 0) := (blk_cell BK155.out 0).trans rfl
                                have hcz110_1 : w104.cell? ⟨gb155, 1, none⟩ = some (.int .u32 0) := (blk_cell BK155.out 1).trans rfl
                                have hcz110_2 : w104.cell? ⟨gb155, 2, none⟩ = some (.string (⟨#[]⟩ : ByteArray)) := (blk_cell BK155.out 2).trans rfl
                                have hfz110_0 := blk_frozen BK155.out 0
                                have hfz110_1 := blk_frozen BK155.out 1
                                have hfz110_2 := blk_frozen BK155.out 2
                                try go_wp2
                                go_ret
                                exact ⟨by first | rfl | (simp [errW_none, errW_some] <;> rfl) | (simp [*, errW_none, errW_some] <;> rfl), by repeat (first | (with_reducible first | exact HB.out | apply below_alloc | apply pw_below_drewN | apply below_drew1 | refine below_set ?_ GE142.out | refine below_set ?_ GE148.out | refine below_set ?_ GE155.out) | exact HB.out)⟩
                            · rw [if_neg c42] at H
                              exact absurd H (by simp)
                          · rw [if_neg c41] at H
                            exact absurd H (by simp)
                        · replace c40 := Bool.eq_false_iff.mpr c40
                          subst c40
                          have H1 : ((lamellalaw08_alive.f kj37).bind fun t150 => (some t150)) = some r := by rw [if_neg (show ¬ (false = true) by decide)] at H; exact H
                          clear H
                          have H := H1
                          clear H1
                          replace H := Option.bind_eq_some_iff.mp H
                          obtain ⟨t150, A1110, H⟩ := H
                          replace H : (some t150) = some r := H
                          have A111 := Aside0.mk A1110
                          clear A1110
                          obtain rfl := Option.some.inj H
                          go_wp2_with (first | ((with_reducible refine gate_callee (f := 8) rfl ?_); refine goesL_ (some 94) rfl rfl Try.func8 (by kernel_rfl) rfl #[] rfl (by (try simp only [List.map_toArray, List.map_cons, List.map_nil]); first | done | rfl | (simp only [List.length_drop, List.length_take]; rfl)) ?_; (with_reducible refine (lamellalaw08_alive.calls kj37  t150 _ A111.out).mono ?_); rintro e w112 ⟨rfl, hb⟩; refine ⟨_, rfl, ?_⟩; have n0_ := Aside0.mk (blk_below (g := gb142) (o := .cells #[.int .u32 a0_0, .int .u32 a0_1, .string a0_2] 24 (0, 0)) (by (with_reducible repeat (first | refine blk_drewN ?_ _ | refine blk_drew ?_ | refine blk_alloc ?_ _)); exact BK142.out) hb); have n1_ := Aside0.mk (blk_below (g := gb148) (o := .cells #[.int .u32 x149000_3, .int .u32 x149001_3, .string x149002_3] 24 (0, 0)) (by (with_reducible repeat (first | refine blk_drewN ?_ _ | refine blk_drew ?_ | refine blk_alloc ?_ _)); exact BK148.out) hb); have n2_ := Aside0.mk (below_step (by repeat (first | (with_reducible first | exact HB.out | apply below_alloc | apply pw_below_drewN | apply below_drew1 | refine below_set ?_ GE142.out | refine below_set ?_ GE148.out) | exact HB.out)) hb); clear BK142; clear BK148; clear HB; have BK142 := n0_; have BK148 := n1_; have HB := n2_; clear n0_ n1_ n2_; (try clear hb); (try clear hb2); (try clear hk); (try clear hi)))
                          go_ret
                          exact ⟨by first | rfl | (simp [errW_none, errW_some] <;> rfl) | (simp [*, errW_none, errW_some] <;> rfl), by repeat (first | (with_reducible first | exact HB.out | apply below_alloc | apply pw_below_drewN | apply below_drew1 | refine below_set ?_ GE142.out | refine below_set ?_ GE148.out) | exact HB.out)⟩
  · replace c7 := Bool.eq_false_iff.mpr c7
    subst c7
    have H1 : (some false) = some r := by rw [if_neg (show ¬ (false = true) by decide)] at H; exact H
    clear H
    have H := H1
    clear H1
    obtain rfl := Option.some.inj H
    go_enter Try.func7, Try.ntmps7
    go_wp2_with (first | ((with_reducible refine gate_dst (N := 5) rfl ?_); refine box_event ?hg (N := 5) ?hd (cs := #[.int .u32 a0_0, .int .u32 a0_1, .string a0_2]) (t := 24) ?hr ?_; (case hd => rfl); (case hg => rfl); (case hr => first | (go_simp; done) | (go_simp; rfl)); intro gb142 hg w113 hbox hb; have n0_ := Aside0.mk (below_step (by repeat (first | (with_reducible first | exact HB.out | apply below_alloc | apply pw_below_drewN | apply below_drew1) | exact HB.out)) hb); have n1_ := Aside0.mk (hbox); have n2_ := Aside0.mk ((by rw [hg]; exact (below_size (by repeat (first | (with_reducible first | exact HB.out | apply below_alloc | apply pw_below_drewN | apply below_drew1) | exact HB.out))) : w.heap.size ≤ gb142)); have n3_ := Aside0.mk ((by rw [hg]; exact (below_size (by repeat (first | (with_reducible first | exact HB.out | apply below_alloc | apply pw_below_drewN | apply below_drew1) | exact HB.out))) : w.heap.size ≤ gb142)); clear HB; have HB := n0_; have BK142 := n1_; have GW142 := n2_; have GE142 := n3_; clear n0_ n1_ n2_ n3_; clear hb hbox hg) | ((with_reducible refine gate_callee (f := 8) rfl ?_); refine goesL_ (some 14) rfl rfl Try.func8 (by kernel_rfl) rfl #[] rfl (by (try simp only [List.map_toArray, List.map_cons, List.map_nil]); first | done | rfl | (simp only [List.length_drop, List.length_take]; rfl)) ?_; (with_reducible refine (lamellalaw08_alive.calls k  false _ A6.out).mono ?_); rintro e w114 ⟨rfl, hb⟩; refine ⟨_, rfl, ?_⟩; have n0_ := Aside0.mk (blk_below (g := gb142) (o := .cells #[.int .u32 a0_0, .int .u32 a0_1, .string a0_2] 24 (0, 0)) (by (with_reducible repeat (first | refine blk_drewN ?_ _ | refine blk_drew ?_ | refine blk_alloc ?_ _)); exact BK142.out) hb); have n1_ := Aside0.mk (below_step (by repeat (first | (with_reducible first | exact HB.out | apply below_alloc | apply pw_below_drewN | apply below_drew1 | refine below_set ?_ GE142.out) | exact HB.out)) hb); clear BK142; clear HB; have BK142 := n0_; have HB := n1_; clear n0_ n1_; (try clear hb); (try clear hb2); (try clear hk); (try clear hi)))
    go_ret
    exact ⟨by first | rfl | (simp [errW_none, errW_some] <;> rfl) | (simp [*, errW_none, errW_some] <;> rfl), by repeat (first | (with_reducible first | exact HB.out | apply below_alloc | apply pw_below_drewN | apply below_drew1 | refine below_set ?_ GE142.out) | exact HB.out)⟩

end Go.Proofs.Ytfacdadbebjebaa.PLaneLives
