/- Layer wal: the document's log: at, Whole. Layer wal: the document's Open, Read. Layer wal: the document's Read, its commit's steps. Layer wal: the document's numbers, its filling, what its steps keep. Layer wal: the document's steps of a commit. Layer wal: the document's Commit. -/
import Derived.Test.YtmdojgkgohmghaaDevRM
import Derived.Test.YtmdojgkgohmghaaP04x3
import Derived.Test.YtmdojgkgohmghaaWalO
import Derived.Test.YtmdojgkgohmghaaWalPlan
import Derived.Test.YtmdojgkgohmghaaWalF
import Derived.Test.YtmdojgkgohmghaaWalM2
import Derived.Test.YtmdojgkgohmghaaGoto
import Derived.Test.YtmdojgkgohmghaaWalM3
namespace Go.Proofs.Ytmdojgkgohmghaa.Wal
open Go.RowKit Go.Own Go.Blk Go.DevL Go.XdrL Go.WalL Go.OpsL Go.Sees Go.Proofs.Ytmdojgkgohmghaa.P04 Go.Proofs.Ytmdojgkgohmghaa.Xdr Go.Proofs.YtmdojgkgohmghaaW.PrintLast Go.Proofs.YtmdojgkgohmghaaW.PrintWords
open Go.Proofs.Ytmdojgkgohmghaa.Dev hiding stop_here execOp_build execOp_alloc execOp_store execOp_load execOp_buildSlice execOp_makeSlice execOp_box execOp_copy execOp_append wpList_val wpList_none Up RAt
set_option linter.unusedVariables false
set_option linter.unusedSimpArgs false
set_option maxRecDepth 100000
variable {F : Nat → Prop} {w w' : World} {p q : Nat} {d : Dv} {last : Nat} {dead : Bool}
theorem bt_get (s : ByteArray) (i : Nat) (h : i < s.size) : bt s (i : Int) = ((s.data.toList.getD i 0).toNat : Int) := by
  unfold bt
  rw [dif_pos (by rw [Int.toNat_natCast]; exact h)]
  have hl : i < s.data.toList.length := by rw [Array.length_toList]; exact h
  rw [List.getD_eq_getElem?_getD, List.getElem?_eq_getElem hl, Option.getD_some]
  simp only [Int.toNat_natCast]
  rfl
theorem get4_at (s : ByteArray) (i : Nat) (h : i + 4 ≤ s.size) (hm : s.size = 256) : (get4 (s.extract i 256) : Int) = ((bt s (i : Int) * 256 + bt s ((i + 1 : Nat) : Int)) * 65536 + (bt s ((i + 2 : Nat) : Int) * 256 + bt s ((i + 3 : Nat) : Int))) := by
  rw [bt_get s i (by omega), bt_get s (i + 1) (by omega), bt_get s (i + 2) (by omega), bt_get s (i + 3) (by omega)]
  have key : ∀ j, j < 4 → (s.extract i 256).data.toList.getD j 0 = s.data.toList.getD (i + j) 0 := fun j hj => by
    have hl : s.data.toList.length = 256 := by rw [Array.length_toList]; exact hm
    rw [ByteArray.data_extract, Array.toList_extract, List.extract_eq_take_drop, List.getD_eq_getElem?_getD, List.getD_eq_getElem?_getD, List.getElem?_take, if_pos (by omega), List.getElem?_drop]
  unfold get4
  rw [key 0 (by omega), key 1 (by omega), key 2 (by omega), key 3 (by omega)]
  simp only [Nat.add_zero]
  omega
theorem at_run (s : ByteArray) (hm : s.size = 256) (i : Nat) (hi : i + 4 ≤ 256) : lamellaref04_at.f s (i : Int) = some (get4 (s.extract i 256) : Int) := by
  have e1 : wrap64 ((i : Int) + 1) = ((i + 1 : Nat) : Int) := by unfold wrap64; omega
  have e2 : wrap64 ((i : Int) + 2) = ((i + 2 : Nat) : Int) := by unfold wrap64; omega
  have e3 : wrap64 ((i : Int) + 3) = ((i + 3 : Nat) : Int) := by unfold wrap64; omega
  have b0 := bt_range s (i : Int)
  have b1 := bt_range s ((i + 1 : Nat) : Int)
  have b2 := bt_range s ((i + 2 : Nat) : Int)
  have b3 := bt_range s ((i + 3 : Nat) : Int)
  unfold lamellaref04_at.f
  rw [e1, e2, e3, if_pos (by omega), if_pos (by omega), if_pos (by omega), if_pos (by omega), if_pos (by omega), if_pos (by omega), if_pos (by omega), if_pos (by omega), get4_at s i (by omega) hm]
  congr 1
  omega
theorem at_calls (s : ByteArray) (hm : s.size = 256) (i : Nat) (hi : i + 4 ≤ 256) (w : World) : Calls Try.prog 53 #[.string s, .int .i64 (i : Int)] w fun e w' => e = .returned (.int .u32 (get4 (s.extract i 256) : Int)) ∧ Below w.heap.size w w' :=
  (lamellaref04_at.calls s i _ w (at_run s hm i hi)).mono fun e w' ⟨he, hd⟩ => ⟨he, hd.below⟩
theorem rnow_any (h : RDev F w p d) (i : Nat) (hi : i < d.firm.length) (hl : d.late.length ≤ 1000000) : Calls Try.prog 52 #[.pointer (some ⟨p, 0, none⟩), .int .i64 (i : Int)] w fun e w' => e = .returned (.string (d.now.getD i ByteArray.empty)) ∧ w = w' := by obtain ⟨_, _, h⟩ := h; exact rnow_calls h i hi hl
theorem now_size (h : d.OK) (i : Nat) (hi : i < d.firm.length) : (d.now.getD i ByteArray.empty).size = 256 := by
  have hl := h.now_length
  have hi' : i < d.now.length := by omega
  rw [List.getD_eq_getElem?_getD, List.getElem?_eq_getElem hi', Option.getD_some]
  exact h.now_size _ (List.getElem_mem hi')
/-- The struct of the document's device. -/
theorem RDev.struct (h : RDev F w p d) : ∃ gf cf vl, w.heap[p]? = some (.cells #[.slice (some ⟨gf, 0, none⟩) d.firm.length cf, vl, .int .i64 d.fuse, .bool d.dead] 67 (0, 0)) := by
  obtain ⟨vf, vl, h⟩ := h
  obtain ⟨gf, cf, hvf, _⟩ := cell_firm h.hf 0 (by have := h.ok.n1; omega)
  exact ⟨gf, cf, vl, by rw [← hvf]; exact h.hq⟩
def wholeD (d : Dv) : Int × Bool :=
  if (markOf (d.now.getD 0 ByteArray.empty)).2.2 = false then (0, false)
  else match entsOf d (markOf (d.now.getD 0 ByteArray.empty)).1 (markOf (d.now.getD 0 ByteArray.empty)).2.1 with
    | none => (0, false)
    | some _ => (((markOf (d.now.getD 0 ByteArray.empty)).2.1 : Int), true)
theorem get_zero (s : ByteArray) (hm : s.size = 256) : s.extract 0 256 = s := by
  apply ByteArray.ext
  rw [ByteArray.data_extract]
  have : s.data.size = 256 := hm
  simp [this]
set_option maxHeartbeats 16000000 in
theorem whole_calls (h : RDev F w p d) (hl : d.late.length ≤ 1000000) (h41 : 41 < d.firm.length) : Calls Try.prog 54 #[.pointer (some ⟨p, 0, none⟩)] w fun e w' =>
    e = .returned (.tuple #[.int .i64 (wholeD d).1, .bool (wholeD d).2]) ∧ Below w.heap.size w w' := by
  have hn2 := h.ok.n2
  have hm := now_size h.ok 0 (by omega)
  have HW0 := Lib.hid (fun W (hb : Below w.heap.size w W) => rnow_any (h.below hb) 0 (by omega) hl)
  have H := Lib.hid h
  obtain ⟨m, em⟩ : ∃ m, d.now.getD 0 ByteArray.empty = m := ⟨_, rfl⟩
  rw [em] at hm HW0
  have HA8 := Lib.hid (fun W => at_calls m hm 8 (by decide) W)
  have HA4 := Lib.hid (fun W => at_calls m hm 4 (by decide) W)
  have h4 : (4 : Int) ≤ (m.size : Int) := by omega
  have hlc : ((m.extract 0 4).toList == [76, 67, 79, 77]) = decide (m.extract 0 4 = lcom) := by rw [← bytes_eq, show lcom.toList = [76, 67, 79, 77] by rw [ByteArray.toList_eq]; rfl]
  have hlc2 : (!(m.extract 0 4).toList == [76, 67, 79, 77]) = !decide (m.extract 0 4 = lcom) := congrArg not hlc
  by_cases hx : m.extract 0 4 = lcom
  · have e1 : markOf m = (get4 (m.extract 4 256), get4 (m.extract 8 256), true) := by unfold markOf; rw [if_pos hx]
    rw [decide_eq_true hx] at hlc hlc2
    have hc := get4_lt (m.extract 8 256)
    have hn := get4_lt (m.extract 4 256)
    obtain ⟨n, en⟩ : ∃ n, get4 (m.extract 4 256) = n := ⟨_, rfl⟩
    obtain ⟨c, ec⟩ : ∃ c, get4 (m.extract 8 256) = c := ⟨_, rfl⟩
    rw [en, ec] at e1
    rw [en] at HA4 hn
    rw [ec] at HA8 hc
    have e2 : wholeD d = (match entsOf d n c with | none => ((0 : Int), false) | some _ => ((c : Int), true)) := by unfold wholeD; rw [em, e1, if_neg (by simp)]
    clear hx en ec
    by_cases hcc : c < 1 ∨ 40 < c
    · rw [e2, ents_bad hcc]
      clear h e1 e2
      go_enter Try.func54, Try.ntmps54
      go_wp2_with fail
      refine (HW0.out w (Below.refl _ _)).mono ?_
      rintro e w1 ⟨rfl, rfl⟩
      go_wp2_with fail
      refine (HA8.out _).mono ?_
      rintro e w2 ⟨rfl, hb⟩
      have HB2 := Lib.hid hb
      clear hb
      by_cases h1 : c < 1
      · have h1' : ((c : Int) < 1) = True := eq_true (by omega)
        go_wp2
        go_ret2
        exact ⟨rfl, HB2.out⟩
      · have h1' : ((c : Int) < 1) = False := eq_false (by omega)
        have h2' : ((40 : Int) < (c : Int)) = True := eq_true (by omega)
        go_wp2
        go_ret2
        exact ⟨rfl, HB2.out⟩
    have h1' : ((c : Int) < 1) = False := eq_false (by omega)
    have h2' : ((40 : Int) < (c : Int)) = False := eq_false (by omega)
    obtain ⟨G, r, hr, HG⟩ : ∃ (G : Nat → Bool) (r : Int × Bool), wholeD d = r ∧ Hid ((∀ i, i < c → G i = false → r = (0, false)) ∧ ((∀ i, i < c → G i = true) → r = ((c : Int), true)) ∧
        (∀ i, G i = (get4 ((d.now.getD (i + 1) ByteArray.empty).extract 4 256) == n && decide (41 ≤ get4 (d.now.getD (i + 1) ByteArray.empty)) && decide (get4 (d.now.getD (i + 1) ByteArray.empty) < d.firm.length)))) :=
      ⟨fun i => good d n (i + 1), _, rfl, Lib.hid ⟨fun i hi hg => by rw [e2, ents_no i hi hg], fun hg => by rw [e2, ents_yes hcc hg], fun i => rfl⟩⟩
    rw [hr]
    clear h e1 e2 hr
    go_enter Try.func54, Try.ntmps54
    go_wp2_with fail
    refine (HW0.out w (Below.refl _ _)).mono ?_
    rintro e w1 ⟨rfl, rfl⟩
    go_wp2_with fail
    refine (HA8.out _).mono ?_
    rintro e w2 ⟨rfl, hb⟩
    have HB2 := Lib.hid hb
    clear hb
    go_wp2_with fail
    go_loopw [6] (fun s6 wr => ∃ i : Nat, i ≤ c ∧ s6 = .int .i64 ((i : Int) + 1) ∧ Hid (∀ j, j < i → G j = true) ∧ Hid (Below w.heap.size w wr)) (fun s6 _ => (c + 1) - (intOf s6).toNat)
    case atStart => exact ⟨0, by omega, by simp, Lib.hid (fun j hj => absurd hj (by omega)), HB2⟩
    case round =>
      clear HB2
      obtain ⟨i, hi, rfl, HGG, HB⟩ := hrel
      by_cases i1 : i = c
      · subst i1
        have i2 : ((i : Int) + 1 ≤ (i : Int)) = False := eq_false (by omega)
        go_wp2
        go_ret2
        rw [HG.out.2.1 (fun j hj => HGG.out j hj)]
        exact ⟨rfl, HB.out⟩
      · have i2 : ((i : Int) + 1 ≤ (c : Int)) = True := eq_true (by omega)
        have HD := Lib.hid (H.out.below HB.out)
        have hm1 := now_size H.out.ok (i + 1) (by omega)
        have HR := Lib.hid (rnow_any HD.out (i + 1) (by omega) hl)
        have hcast : (((i + 1 : Nat) : Int)) = (i : Int) + 1 := by omega
        rw [hcast] at HR
        have hgd := HG.out.2.2 i
        obtain ⟨b, eb⟩ : ∃ b, d.now.getD (i + 1) ByteArray.empty = b := ⟨_, rfl⟩
        rw [eb] at hm1 HR hgd
        have HA0 := Lib.hid (fun W => at_calls b hm1 0 (by decide) W)
        rw [get_zero b hm1] at HA0
        have HB4 := Lib.hid (fun W => at_calls b hm1 4 (by decide) W)
        have hA := get4_lt b
        have hB := get4_lt (b.extract 4 256)
        obtain ⟨nA, eA⟩ : ∃ n, get4 b = n := ⟨_, rfl⟩
        obtain ⟨nB, eB⟩ : ∃ n, get4 (b.extract 4 256) = n := ⟨_, rfl⟩
        rw [eA] at hA hgd HA0
        rw [eB] at hB hgd HB4
        have HGD := Lib.hid hgd
        clear eb eA eB hm1 hgd hcast
        go_wp2_with fail
        refine HR.out.mono ?_
        rintro e w1 ⟨rfl, rfl⟩
        go_wp2_with fail
        refine (HA0.out _).mono ?_
        rintro e w3 ⟨rfl, hb⟩
        have HB3 := Lib.hid (HB.out.trans (hb.mono HB.out.size))
        clear hb
        by_cases g2 : 41 ≤ nA
        · have g2' : ((nA : Int) < 41) = False := eq_false (by omega)
          obtain ⟨gf, cf, vl, hst⟩ := RDev.struct (H.out.below HB3.out)
          obtain ⟨x0, y0, x1, y1, x2, y2, x3, y3⟩ := blk4 hst
          clear hst
          by_cases g3 : nA < d.firm.length
          · have g3' : ((d.firm.length : Int) ≤ (nA : Int)) = False := eq_false (by omega)
            have g3n : (d.firm.length ≤ nA) = False := eq_false (by omega)
            go_wp2_with fail
            refine (HB4.out _).mono ?_
            rintro e w4 ⟨rfl, hb⟩
            have HB5 := Lib.hid (HB3.out.trans (hb.mono HB3.out.size))
            clear hb
            go_wp2_with fail
            refine (HA4.out _).mono ?_
            rintro e w5 ⟨rfl, hb⟩
            have HB6 := Lib.hid (HB5.out.trans (hb.mono HB5.out.size))
            clear hb x0 y0 x1 y1 x2 y2 x3 y3
            by_cases g1 : nB = n
            · have g1' : ((nB : Int) = (n : Int)) = True := eq_true (by omega)
              have g1b : ((nB : Int) == (n : Int)) = true := by rw [beq_iff_eq]; omega
              have hg : G i = true := by rw [HGD.out, g1]; simp [g2, g3]
              go_wp2
              go_roundw
              case rel =>
                refine ⟨i + 1, by omega, by first | rfl | go_num, Lib.hid (fun j hj => ?_), HB6⟩
                rcases Nat.lt_succ_iff_lt_or_eq.1 hj with hj | rfl
                · exact HGG.out j hj
                · exact hg
              case measure => simp [intOf]; omega
            · have g1' : ((nB : Int) = (n : Int)) = False := eq_false (by omega)
              have g1b : ((nB : Int) == (n : Int)) = false := by rw [beq_eq_false_iff_ne]; omega
              have hg : G i = false := by rw [HGD.out]; simp [g1]
              go_wp2
              go_ret2
              rw [HG.out.1 i (by omega) hg]
              exact ⟨rfl, HB6.out⟩
          · have g3' : ((d.firm.length : Int) ≤ (nA : Int)) = True := eq_true (by omega)
            have g3n : (d.firm.length ≤ nA) = True := eq_true (by omega)
            have hg : G i = false := by rw [HGD.out]; simp [g3]
            go_wp2
            go_ret2
            rw [HG.out.1 i (by omega) hg]
            exact ⟨rfl, HB3.out⟩
        · have g2' : ((nA : Int) < 41) = True := eq_true (by omega)
          have hg : G i = false := by rw [HGD.out]; simp [g2]
          go_wp2
          go_ret2
          rw [HG.out.1 i (by omega) hg]
          exact ⟨rfl, HB3.out⟩
  · have e1 : markOf m = (0, 0, false) := by unfold markOf; rw [if_neg hx]
    have e2 : wholeD d = (0, false) := by unfold wholeD; rw [em, e1, if_pos rfl]
    rw [decide_eq_false hx] at hlc hlc2
    rw [e2]
    clear h hx
    go_enter Try.func54, Try.ntmps54
    go_wp2_with fail
    refine (HW0.out w (Below.refl _ _)).mono ?_
    rintro e w1 ⟨rfl, rfl⟩
    go_wp2
    go_ret2
    exact ⟨rfl, Below.refl _ _⟩
end Go.Proofs.Ytmdojgkgohmghaa.Wal
namespace Go.Proofs.Ytmdojgkgohmghaa.Wal
open Go.RowKit Go.Own Go.Blk Go.DevL Go.XdrL Go.WalL Go.OpsL Go.Sees Go.Proofs.Ytmdojgkgohmghaa.P04 Go.Proofs.Ytmdojgkgohmghaa.Xdr Go.Proofs.YtmdojgkgohmghaaW.PrintLast Go.Proofs.YtmdojgkgohmghaaW.PrintWords
open Go.Proofs.Ytmdojgkgohmghaa.Dev hiding stop_here execOp_build execOp_alloc execOp_store execOp_load execOp_buildSlice execOp_makeSlice execOp_box execOp_copy execOp_append wpList_val wpList_none Up RAt
set_option linter.unusedVariables false
set_option linter.unusedSimpArgs false
set_option maxRecDepth 100000
variable {F : Nat → Prop} {w w' wr wr' : World} {p q : Nat} {d d' d'' : Dv} {last : Nat} {dead : Bool} {l : List (Int × ByteArray)} {i : Nat}
theorem write_now {x : ByteArray} {j : Int} (h : d.write j x = (0, d')) : d'.now = d.now.set j.toNat x := by
  unfold Dv.write at h
  split at h
  · cases h
  · split at h
    · cases h
    · obtain rfl := (Prod.mk.inj h).2
      show (d.late ++ [(j.toNat, x)]).foldl put d.firm = _
      rw [List.foldl_append]
      rfl
theorem write_code {x : ByteArray} {j : Int} (h0 : 0 ≤ j) (h1 : j < d.firm.length) (hx : x.size = 256) {e : Int} (h : d.write j x = (e, d')) : (e = 0 ∨ e = 5) ∧ d'.firm.length = d.firm.length := by
  unfold Dv.write at h
  rw [if_neg (by simp [Dv.bad, hx]; omega)] at h
  split at h
  · obtain ⟨rfl, rfl⟩ := Prod.mk.inj h; exact ⟨.inr rfl, rfl⟩
  · obtain ⟨rfl, rfl⟩ := Prod.mk.inj h; exact ⟨.inl rfl, rfl⟩
theorem barrier_code {e : Int} (h : d.barrier = (e, d')) : e = 0 ∨ e = 5 := by
  unfold Dv.barrier at h
  split at h
  · exact .inr (Prod.mk.inj h).1.symm
  · exact .inl (Prod.mk.inj h).1.symm
theorem wrs_now : ∀ (l : List (Int × ByteArray)) {d d' : Dv}, WalL.wrs d l = (0, d') → d'.now = puts l d.now
  | [], d, d', h => by obtain rfl := (Prod.mk.inj h).2; rfl
  | x :: l, d, d', h => by
    rw [wrs_cons] at h
    unfold andThen at h
    split at h
    · rename_i h0
      have h1 := write_now (d' := (d.write x.1 x.2).2) (Prod.ext h0 rfl : d.write x.1 x.2 = (0, _))
      rw [wrs_now l h, h1]
      rfl
    · rename_i h0
      rw [h] at h0
      exact absurd rfl h0
theorem wrs_len : ∀ (l : List (Int × ByteArray)) (d : Dv), (WalL.wrs d l).2.firm.length = d.firm.length
  | [], d => rfl
  | x :: l, d => by
    simp only [WalL.wrs]
    have h1 : (d.write x.1 x.2).2.firm.length = d.firm.length := by
      unfold Dv.write
      split
      · rfl
      · split <;> rfl
    split
    · rw [wrs_len l, h1]
    · exact h1
def RLAt (w : World) (q p : Nat) (last : Nat) (dead : Bool) : Prop := w.heap[q]? = some (.cells #[.pointer (some ⟨p, 0, none⟩), .int .u32 (last : Int), .bool dead] 69 (0, 0)) ∧ last < 4294967296
theorem RLAt.below (h : RLAt w q p last dead) (hb : Below w.heap.size w w') : RLAt w' q p last dead := ⟨below_old h.1 hb, h.2⟩
theorem RLAt.keep {G : Nat → Prop} (h : RLAt w q p last dead) (hF : Fr G w w') (hG : ¬ G q) : RLAt w' q p last dead := ⟨hF.at h.1 hG, h.2⟩
theorem RLAt.lt (h : RLAt w q p last dead) : q < w.heap.size := lt_of h.1
def ropenPost (F : Nat → Prop) (w w' : World) (p : Nat) (r : Int × Nat × Dv) (e : Ending) : Prop :=
  ∃ G, RDev G w' p r.2.2 ∧ Sub F w w' G ∧ Fr F w w' ∧
    if r.1 = 0 then ∃ q, e = .returned (.tuple #[.pointer (some ⟨q, 0, none⟩), .int .i64 0]) ∧ RLAt w' q p r.2.1 false ∧ ¬ G q ∧ w.heap.size ≤ q
    else e = .returned (.tuple #[.pointer none, .int .i64 r.1])
theorem ropenPost_same (h : RDev F w' p d) (hb : Below w.heap.size w w') {e : Ending} {n : Nat} {c : Int} (hc : c ≠ 0) (he : e = .returned (.tuple #[.pointer none, .int .i64 c])) : ropenPost F w w' p (c, n, d) e :=
  ⟨F, h, fun k hk => .inl hk, Fr.of_below hb, by rw [if_neg hc]; exact he⟩
theorem ropenPost_ok (h : RDev F w' p d) (hb : Below w.heap.size w w') {e : Ending} {n : Nat} (hq : RLAt w' q p n false) (hqF : ¬ F q) (hqw : w.heap.size ≤ q) (he : e = .returned (.tuple #[.pointer (some ⟨q, 0, none⟩), .int .i64 0])) : ropenPost F w w' p (0, n, d) e :=
  ⟨F, h, fun k hk => .inl hk, Fr.of_below hb, by rw [if_pos rfl]; exact ⟨q, he, hq, hqF, hqw⟩⟩
theorem box_rlog (w : World) (p : Nat) : (Instr.box 69 (.agg #[.pointer (some ⟨p, 0, none⟩), .int .u32 0, .bool false])).run Try.prog w = .ok (.pointer (some ⟨w.heap.size, 0, none⟩)) (w.alloc (.cells #[.pointer (some ⟨p, 0, none⟩), .int .u32 0, .bool false] 69)) := by kernel_rfl
structure ROSt (F : Nat → Prop) (w wr : World) (p q : Nat) (l : List (Int × ByteArray)) (d d' : Dv) (last i : Nat) : Prop where
  dev : ∃ G, RDev G wr p d' ∧ Sub F w wr G ∧ ¬ G q
  fr : Fr F w wr
  lat : RLAt wr q p last false
  ge : w.heap.size ≤ q
  run : WalL.wrs d (l.take i) = (0, d')
  late : d'.late.length ≤ d.late.length + i
theorem ROSt.below (h : ROSt F w wr p q l d d' last i) (hb : Below wr.heap.size wr wr') : ROSt F w wr' p q l d d' last i where
  dev := by
    obtain ⟨G, h1, h2, h3⟩ := h.dev
    exact ⟨G, h1.below hb, h2.grow hb.size, h3⟩
  fr := h.fr.trans (Fr.of_below (F := F) hb) (fun _ _ h => h)
  lat := h.lat.below hb
  ge := h.ge
  run := h.run
  late := h.late
theorem ROSt.next {e : Int} (h : ROSt F w wr p q l d d' last i) (hi : i < l.length) (hw : d'.write l[i].1 l[i].2 = (0, d''))
    {G : Nat → Prop} (hG : Sub F w wr G) (hq : ¬ G q) (hd : RDev (Dev.Up G wr wr') wr' p d'') (hf : Fr G wr wr') : ROSt F w wr' p q l d d'' last (i + 1) where
  dev := ⟨_, hd, hG.up h.fr.size hf.size, fun hk => by
      rcases hk with hk | hk
      · exact hq hk
      · have := h.lat.lt; omega⟩
  fr := h.fr.trans hf (fun k hk hg => (hG k hg).elim id fun ⟨a, _⟩ => by omega)
  lat := h.lat.keep hf hq
  ge := h.ge
  run := by rw [wrs_step h.run hi, hw]
  late := by have := write_late d' l[i].1 l[i].2; rw [hw] at this; have := h.late; simp only at *; omega
theorem ents_is {d : Dv} {n c : Nat} {l : List (Int × ByteArray)} (h : entsOf d n c = some l) : l = entL d c ∧ c ≤ 40 := by
  unfold entsOf at h
  split at h
  · cases h
  · rename_i hc
    split at h
    · exact ⟨(Option.some.inj h).symm, by omega⟩
    · cases h
theorem ents_good {d : Dv} {n c : Nat} {l : List (Int × ByteArray)} (h : entsOf d n c = some l) : l.length = c ∧ c ≤ 40 ∧ ∀ i (hi : i < l.length), l[i] = ((get4 (d.now.getD (i + 1) ByteArray.empty) : Int), d.now.getD (i + 1) ByteArray.empty) ∧ 41 ≤ get4 (d.now.getD (i + 1) ByteArray.empty) ∧ get4 (d.now.getD (i + 1) ByteArray.empty) < d.firm.length := by
  obtain ⟨e, hc⟩ := ents_is h
  subst e
  refine ⟨entL_len d c, hc, fun i hi => ?_⟩
  rw [entL_len] at hi
  unfold entsOf at h
  split at h
  · cases h
  · split at h
    · rename_i hg
      have h1 := List.all_eq_true.1 hg i (List.mem_range.2 hi)
      unfold good at h1
      simp only [Bool.and_eq_true, beq_iff_eq, decide_eq_true_eq] at h1
      exact ⟨by simp [entL, entAt], h1.1.2, h1.2⟩
    · cases h
set_option maxHeartbeats 16000000 in
theorem ropen_calls (h : RDev F w p d) (hl : d.late.length ≤ 900000) : Calls Try.prog 39 #[.pointer (some ⟨p, 0, none⟩)] w fun e w' => ropenPost F w w' p (openD d) e := by
  have hn2 := h.ok.n2
  have H := Lib.hid h
  obtain ⟨gf, cf, vl, hst⟩ := RDev.struct h
  by_cases hs : d.firm.length ≤ 41
  · rw [openD_small hs]
    obtain ⟨x0, y0, x1, y1, x2, y2, x3, y3⟩ := blk4 hst
    clear h hst
    have hs' : ((d.firm.length : Int) < 42) = True := eq_true (by omega)
    go_enter Try.func39, Try.ntmps39
    go_wp2
    go_ret2
    exact ropenPost_same H.out (Below.refl _ _) (by decide) rfl
  have hs' : ((d.firm.length : Int) < 42) = False := eq_false (by omega)
  by_cases hd : d.dead = true
  · rw [openD_dead hs hd]
    rw [hd] at hst
    obtain ⟨x0, y0, x1, y1, x2, y2, x3, y3⟩ := blk4 hst
    clear h hst
    go_enter Try.func39, Try.ntmps39
    go_wp2
    go_ret2
    exact ropenPost_same H.out (Below.refl _ _) (by decide) rfl
  have hd' : d.dead = false := by simpa using hd
  rw [hd'] at hst
  obtain ⟨x0, y0, x1, y1, x2, y2, x3, y3⟩ := blk4 hst
  have hb1 : Below w.heap.size w (w.alloc (.cells #[.pointer (some ⟨p, 0, none⟩), .int .u32 0, .bool false] 69)) := (Below.refl _ _).alloc (Nat.le_refl _) _
  have hq1 := alloc_at w (.cells #[.pointer (some ⟨p, 0, none⟩), .int .u32 0, .bool false] 69)
  have HBX := Lib.hid (box_rlog w p)
  have hqF : ¬ F w.heap.size := fun hf => by have := h.lt _ hf; omega
  obtain ⟨q, hq⟩ : ∃ q, w.heap.size = q := ⟨_, rfl⟩
  have HQ := Lib.hid hq
  rw [hq] at hq1 hqF HBX
  generalize w.alloc (.cells #[.pointer (some ⟨p, 0, none⟩), .int .u32 0, .bool false] 69) = w1 at hb1 hq1 HBX
  have HB1 := Lib.hid hb1
  have HQ1 := Lib.hid (show RLAt w1 q p 0 false from ⟨hq1, by decide⟩)
  have HQF := Lib.hid hqF
  have hm := now_size h.ok 0 (by omega)
  have HW0 := Lib.hid (fun W (hb : Below w.heap.size w W) => rnow_any (h.below hb) 0 (by omega) (by omega))
  have HWH := Lib.hid (fun W (hb : RDev F W p d) => whole_calls hb (by omega) (by omega))
  have hop : openD d = if (wholeD d).2 = true then openR d (markOf (d.now.getD 0 ByteArray.empty)).1 (entsOf d (markOf (d.now.getD 0 ByteArray.empty)).1 (markOf (d.now.getD 0 ByteArray.empty)).2.1) else (0, (markOf (d.now.getD 0 ByteArray.empty)).1, d) := by
    unfold openD wholeD
    rw [if_neg hs, if_neg hd]
    by_cases hmk : (markOf (d.now.getD 0 ByteArray.empty)).2.2 = false
    · rw [if_pos hmk, if_pos hmk, if_neg (by simp), markOf_no hmk]
    · rw [if_neg hmk, if_neg hmk]
      cases entsOf d (markOf (d.now.getD 0 ByteArray.empty)).1 (markOf (d.now.getD 0 ByteArray.empty)).2.1 with
      | none => rw [if_neg (by simp)]
      | some l => rw [if_pos rfl]; rfl
  have hwh : (wholeD d).2 = true → ∃ l, entsOf d (markOf (d.now.getD 0 ByteArray.empty)).1 (markOf (d.now.getD 0 ByteArray.empty)).2.1 = some l ∧ (wholeD d).1 = ((markOf (d.now.getD 0 ByteArray.empty)).2.1 : Int) := by
    unfold wholeD
    split
    · intro h; cases h
    · cases entsOf d (markOf (d.now.getD 0 ByteArray.empty)).1 (markOf (d.now.getD 0 ByteArray.empty)).2.1 with
      | none => intro h; cases h
      | some l => exact fun _ => ⟨l, rfl, rfl⟩
  obtain ⟨m, em⟩ : ∃ m, d.now.getD 0 ByteArray.empty = m := ⟨_, rfl⟩
  rw [em] at hm HW0 hop hwh
  have HA4 := Lib.hid (fun W => at_calls m hm 4 (by decide) W)
  have h4 : (4 : Int) ≤ (m.size : Int) := by omega
  have hlc : ((m.extract 0 4).toList == [76, 67, 79, 77]) = decide (m.extract 0 4 = lcom) := by rw [← bytes_eq, show lcom.toList = [76, 67, 79, 77] by rw [ByteArray.toList_eq]; rfl]
  have hmk : markOf m = if m.extract 0 4 = lcom then (get4 (m.extract 4 256), get4 (m.extract 8 256), true) else (0, 0, false) := rfl
  by_cases hx : m.extract 0 4 = lcom
  · have e1 : markOf m = (get4 (m.extract 4 256), get4 (m.extract 8 256), true) := by rw [hmk, if_pos hx]
    rw [e1] at hop hwh
    rw [decide_eq_true hx] at hlc
    have hn := get4_lt (m.extract 4 256)
    obtain ⟨n, en⟩ : ∃ n, get4 (m.extract 4 256) = n := ⟨_, rfl⟩
    obtain ⟨c, ec⟩ : ∃ c, get4 (m.extract 8 256) = c := ⟨_, rfl⟩
    simp only [en, ec] at hop hwh
    rw [en] at HA4 hn
    have HN := Lib.hid hn
    clear hx en ec e1 hmk em hm h hb1 hq1 hqF hq hn
    obtain ⟨R, hR⟩ : ∃ R, openD d = R := ⟨_, rfl⟩
    rw [hR] at hop ⊢
    obtain ⟨⟨wc, wb⟩, hwd⟩ : ∃ r, wholeD d = r := ⟨_, rfl⟩
    rw [hwd] at hop hwh HWH
    simp only at hop hwh
    have HOP := Lib.hid hop
    have HWK := Lib.hid hwh
    clear hop hwh hwd hR
    go_enter Try.func39, Try.ntmps39
    go_wp2_with (((with_reducible refine gate_dst (N := 22) rfl ?_); refine wpList_val rfl rfl (execOp_box rfl rfl HBX.out) ?_))
    refine (HW0.out _ HB1.out).mono ?_
    rintro e w2 ⟨rfl, rfl⟩
    go_wp2_with fail
    refine (HA4.out _).mono ?_
    rintro e w2 ⟨rfl, hb⟩
    have HB2 := Lib.hid hb
    have HQ2 := Lib.hid (HQ1.out.below HB2.out)
    obtain ⟨x0, y0, x1, y1, x2, y2⟩ := blk3 HQ2.out.1
    clear hb HQ1 HBX
    go_wp2_with fail
    have hf3 : Fr (· = q) w2 (w2.setCell ⟨q, 1, none⟩ (.int .u32 (n : Int))) := Fr.setCell (F := (· = q)) w2 (p := ⟨q, 1, none⟩) rfl (.int .u32 (n : Int))
    have hq3 : RLAt (w2.setCell ⟨q, 1, none⟩ (.int .u32 (n : Int))) q p n false := ⟨by simpa using set_at HQ2.out.1 1 (.int .u32 (n : Int)), HN.out⟩
    have HD3 := Lib.hid (((H.out.below HB1.out).below HB2.out).keep hf3 (fun k hk e => HQF.out (by have e' : k = q := e; rw [← e']; exact hk)))
    have HQ3 := Lib.hid hq3
    have HB3 := Lib.hid ((HB1.out.trans (HB2.out.mono HB1.out.size)).trans (hf3.below (by have := HB1.out.size; have := HB2.out.size; omega) (fun k hk => by have e : k = q := hk; rw [e, ← HQ.out]; exact Nat.le_refl _)))
    clear x0 y0 x1 y1 x2 y2 x3 y3 hf3 hq3 HQ2 HA4
    generalize w2.setCell ⟨q, 1, none⟩ (.int .u32 (n : Int)) = w3 at HD3 HQ3 HB3 ⊢
    clear HB1 HB2
    refine (HWH.out w3 HD3.out).mono ?_
    rintro e w4 ⟨rfl, hb⟩
    have HB4 := Lib.hid (HB3.out.trans (hb.mono HB3.out.size))
    have HD4 := Lib.hid (HD3.out.below hb)
    have HQ4 := Lib.hid (HQ3.out.below hb)
    clear hb HB3 HD3 HQ3 HWH HW0
    cases wb with
    | false =>
      have hop := HOP.out
      rw [if_neg (by simp)] at hop
      go_wp2
      go_ret2
      rw [hop]
      exact ropenPost_ok HD4.out HB4.out HQ4.out HQF.out (Nat.le_of_eq HQ.out) rfl
    | true =>
      obtain ⟨l, hle, rfl⟩ := HWK.out rfl
      have hop := HOP.out
      rw [if_pos rfl, hle] at hop
      obtain ⟨hlc1, hl40, hgood⟩ := ents_good hle
      obtain rfl := hlc1
      have HOPR := Lib.hid (show R = ((andThen (WalL.wrs d l) Dv.barrier).1, n, (andThen (WalL.wrs d l) Dv.barrier).2) from hop)
      have HGD := Lib.hid hgood
      have HS0 := Lib.hid (show ROSt F w w4 p q l d d n 0 from ⟨⟨F, HD4.out, fun k hk => .inl hk, HQF.out⟩, Fr.of_below HB4.out, HQ4.out, Nat.le_of_eq HQ.out, rfl, Nat.le_refl _⟩)
      clear hgood hop hle HOP HWK HD4 HQ4 HB4 HQF
      go_wp2_with fail
      go_loopw [8] (fun s8 wr => ∃ (i : Nat) (d' : Dv), i ≤ l.length ∧ s8 = .int .i64 ((i : Int) + 1) ∧ Hid (ROSt F w wr p q l d d' n i)) (fun s8 _ => (l.length + 1) - (intOf s8).toNat)
      case atStart => exact ⟨0, d, Nat.zero_le _, by simp, HS0⟩
      case round =>
        clear HS0
        obtain ⟨i, d', hi, rfl, HO⟩ := hrel
        by_cases hil : i < l.length
        · have hil' : ((i : Int) + 1 ≤ (l.length : Int)) = True := eq_true (by omega)
          have hnow : d'.now = puts (l.take i) d.now := wrs_now _ HO.out.run
          have hlen : d'.firm.length = d.firm.length := by have := wrs_len (l.take i) d; rw [HO.out.run] at this; exact this
          obtain ⟨hx1, hx2, hx3⟩ := HGD.out i hil
          have hb : d'.now.getD (i + 1) ByteArray.empty = d.now.getD (i + 1) ByteArray.empty := by
            rw [hnow]
            exact puts_low _ _ (fun x hx => by
              obtain ⟨k, hk, rfl⟩ := List.getElem_of_mem (List.mem_of_mem_take hx)
              rw [(HGD.out k hk).1]
              have := (HGD.out k hk).2.1
              show (41 : Int) ≤ ((get4 (d.now.getD (k + 1) ByteArray.empty) : Nat) : Int)
              omega) (i + 1) (by omega)
          obtain ⟨G, hg1, hg2, hg3⟩ := HO.out.dev
          have hbs := now_size H.out.ok (i + 1) (by omega)
          have HR := Lib.hid (rnow_any hg1 (i + 1) (by omega) (by have := HO.out.late; omega))
          rw [hb] at HR
          have hcast : (((i + 1 : Nat) : Int)) = (i : Int) + 1 := by omega
          rw [hcast] at HR
          obtain ⟨b, eb⟩ : ∃ b, d.now.getD (i + 1) ByteArray.empty = b := ⟨_, rfl⟩
          rw [eb] at hbs HR hx1 hx2 hx3
          have HA0 := Lib.hid (fun W => at_calls b hbs 0 (by decide) W)
          rw [get_zero b hbs] at HA0
          have hA := get4_lt b
          have HX := Lib.hid (fun dd (e : d'.write (get4 b : Int) b = dd) => (show d'.write l[i].1 l[i].2 = dd by rw [hx1]; exact e))
          obtain ⟨ad, ead⟩ : ∃ n, get4 b = n := ⟨_, rfl⟩
          rw [ead] at HA0 hA hx2 hx3 HX
          have HIL := Lib.hid hil
          have HWR := Lib.hid (fun W (hW : Below wr.heap.size wr W) => rwrite_any (hg1.below hW) (ad : Int) b (by have := HO.out.late; omega))
          have hcode := fun e dd (e1 : d'.write (ad : Int) b = (e, dd)) => (write_code (by omega) (by omega) hbs e1).1
          obtain ⟨⟨ew, dw⟩, hdw⟩ : ∃ r, d'.write (ad : Int) b = r := ⟨_, rfl⟩
          rw [hdw] at HWR
          have hc5 := hcode _ _ hdw
          have HDW := Lib.hid (HX.out _ hdw)
          have HG := Lib.hid (And.intro hg2 hg3)
          clear hg1 hg2 hg3 hdw HX hcode hx1 eb ead hb hnow hlen hbs hcast
          go_wp2_with fail
          refine HR.out.mono ?_
          rintro e w5 ⟨rfl, rfl⟩
          go_wp2_with fail
          refine (HA0.out _).mono ?_
          rintro e w6 ⟨rfl, hb⟩
          have HB6 := Lib.hid hb
          have HO6 := Lib.hid (HO.out.below hb)
          clear hb
          go_wp2_with fail
          refine (HWR.out _ HB6.out).mono ?_
          rintro e w7 ⟨rfl, h1, h2⟩
          have H1 := Lib.hid h1
          have H2 := Lib.hid h2
          clear h1 h2 HWR
          by_cases he0 : ew = 0
          · subst he0
            go_wp2
            go_roundw
            case rel => exact ⟨i + 1, dw, by have := HIL.out; omega, by first | rfl | go_num, Lib.hid (ROSt.next (e := 0) HO6.out HIL.out HDW.out (HG.out.1.grow HB6.out.size) HG.out.2 H1.out H2.out)⟩
            case measure => have := HIL.out; simp [intOf]; omega
          · have he5 : ew = 5 := by omega
            subst he5
            have hst : WalL.wrs d l = (5, dw) := wrs_stop (i := i + 1) (by rw [wrs_step HO.out.run HIL.out]; exact HDW.out) he0
            have HRES := Lib.hid (show (andThen (WalL.wrs d l) Dv.barrier) = (5, dw) by rw [hst]; unfold andThen; rw [if_neg he0])
            clear hst
            go_wp2
            go_ret2
            rw [HOPR.out, HRES.out]
            exact ⟨_, H1.out, (HG.out.1.grow HB6.out.size).up HO6.out.fr.size H2.out.size, HO6.out.fr.trans H2.out (fun k hk hg => (HG.out.1 k hg).elim id fun ⟨a, _⟩ => by omega), by rw [if_neg he0]; rfl⟩
        · have hil' : ((i : Int) + 1 ≤ (l.length : Int)) = False := eq_false (by omega)
          obtain ⟨G, hg1, hg2, hg3⟩ := HO.out.dev
          have HBA := Lib.hid (rbarrier_any hg1 (by have := HO.out.late; omega))
          have hrun : WalL.wrs d l = (0, d') := by have := HO.out.run; rw [List.take_of_length_le (by omega)] at this; exact this
          have HRES := Lib.hid (show (andThen (WalL.wrs d l) Dv.barrier) = d'.barrier by rw [hrun]; rfl)
          have HG := Lib.hid (And.intro hg2 hg3)
          clear hg1 hg2 hg3 hrun
          obtain ⟨⟨eb, db⟩, hbr⟩ : ∃ r, d'.barrier = r := ⟨_, rfl⟩
          rw [hbr] at HBA HRES
          have hc5 := barrier_code hbr
          clear hbr
          by_cases he0 : eb = 0
          · subst he0
            go_wp2_with fail
            refine HBA.out.mono ?_
            rintro e w5 ⟨rfl, h1, h2⟩
            have H1 := Lib.hid h1
            have H2 := Lib.hid h2
            clear h1 h2 HBA
            go_wp2
            go_ret2
            rw [HOPR.out, HRES.out]
            exact ⟨_, H1.out, HG.out.1.up HO.out.fr.size H2.out.size, HO.out.fr.trans H2.out (fun k hk hg => (HG.out.1 k hg).elim id fun ⟨a, _⟩ => by omega), by rw [if_pos rfl]; exact ⟨q, rfl, HO.out.lat.keep H2.out HG.out.2, fun hu => by
              rcases hu with hu | hu
              · exact HG.out.2 hu
              · have := HO.out.lat.lt; omega, HO.out.ge⟩⟩
          · have he5 : eb = 5 := by omega
            subst he5
            go_wp2_with fail
            refine HBA.out.mono ?_
            rintro e w5 ⟨rfl, h1, h2⟩
            have H1 := Lib.hid h1
            have H2 := Lib.hid h2
            clear h1 h2 HBA
            go_wp2
            go_ret2
            rw [HOPR.out, HRES.out]
            exact ⟨_, H1.out, HG.out.1.up HO.out.fr.size H2.out.size, HO.out.fr.trans H2.out (fun k hk hg => (HG.out.1 k hg).elim id fun ⟨a, _⟩ => by omega), by rw [if_neg he0]; rfl⟩
  · have e1 : markOf m = (0, 0, false) := by rw [hmk, if_neg hx]
    have e2 : wholeD d = (0, false) := by unfold wholeD; rw [em, e1, if_pos rfl]
    have e3 : openD d = (0, 0, d) := by rw [hop, e2, e1]; rfl
    rw [decide_eq_false hx] at hlc
    rw [e2] at HWH
    rw [e3]
    clear hx e1 e2 e3 hop hwh hmk em hm h hb1 hq1 hqF hq
    go_enter Try.func39, Try.ntmps39
    go_wp2_with (((with_reducible refine gate_dst (N := 22) rfl ?_); refine wpList_val rfl rfl (execOp_box rfl rfl HBX.out) ?_))
    refine (HW0.out _ HB1.out).mono ?_
    rintro e w2 ⟨rfl, rfl⟩
    go_wp2_with fail
    refine (HWH.out _ (H.out.below HB1.out)).mono ?_
    rintro e w2 ⟨rfl, hb⟩
    have HB2 := Lib.hid hb
    clear hb
    go_wp2
    go_ret2
    exact ⟨F, (H.out.below HB1.out).below HB2.out, fun k hk => .inl hk, Fr.of_below (HB1.out.trans (HB2.out.mono HB1.out.size)), by rw [if_pos rfl]; exact ⟨q, rfl, HQ1.out.below HB2.out, HQF.out, Nat.le_of_eq HQ.out⟩⟩
end Go.Proofs.Ytmdojgkgohmghaa.Wal
namespace Go.Proofs.Ytmdojgkgohmghaa.Wal
open Go.RowKit Go.Own Go.Blk Go.DevL Go.XdrL Go.WalL Go.OpsL Go.Sees Go.Proofs.Ytmdojgkgohmghaa.P04 Go.Proofs.Ytmdojgkgohmghaa.Xdr Go.Proofs.YtmdojgkgohmghaaW.PrintLast Go.Proofs.YtmdojgkgohmghaaW.PrintWords
open Go.Proofs.Ytmdojgkgohmghaa.Dev hiding stop_here execOp_build execOp_alloc execOp_store execOp_load execOp_buildSlice execOp_makeSlice execOp_box execOp_copy execOp_append wpList_val wpList_none Up RAt
set_option linter.unusedVariables false
set_option linter.unusedSimpArgs false
set_option maxRecDepth 100000
variable {F : Nat → Prop} {w w' wr wr' : World} {p q : Nat} {d d' d'' : Dv} {last : Nat} {dead : Bool} {l : List (Int × ByteArray)} {i : Nat}
set_option maxHeartbeats 16000000 in
theorem rread_calls (hq : RLAt w q p last dead) (h : RDev F w p d) (hl : d.late.length ≤ 1000000) (h41 : 41 < d.firm.length) (k : Int) : Calls Try.prog 43 #[.pointer (some ⟨q, 0, none⟩), .int .i64 k] w fun e w' =>
    e = .returned (.tuple #[.string (readL d dead k).1, .int .i64 (readL d dead k).2]) ∧ Below w.heap.size w w' := by
  have hn2 := h.ok.n2
  have H := Lib.hid h
  obtain ⟨gf, cf, vl, hst⟩ := RDev.struct h
  obtain ⟨x0, y0, x1, y1, x2, y2, x3, y3⟩ := blk4 hst
  obtain ⟨u0, v0, u1, v1, u2, v2⟩ := blk3 hq.1
  by_cases hk : k < 0 ∨ sizeL d ≤ k
  · have e1 : readL d dead k = (ByteArray.empty, 1) := by unfold readL; rw [if_pos hk]
    rw [e1]
    unfold sizeL at hk
    clear h hst e1
    have hw : IntKind.i64.wrap ((d.firm.length : Int) - 41) = (d.firm.length : Int) - 41 := by rw [IntKind.wrap_i64]; omega
    by_cases k0 : k < 0
    · have k0' : (k < 0) = True := eq_true k0
      go_enter Try.func43, Try.ntmps43
      go_wp2
      go_ret2
      exact ⟨rfl, Below.refl _ _⟩
    · have k0' : (k < 0) = False := eq_false k0
      have k1' : ((d.firm.length : Int) - 41 ≤ k) = True := eq_true (by omega)
      go_enter Try.func43, Try.ntmps43
      go_wp2
      go_ret2
      exact ⟨rfl, Below.refl _ _⟩
  · have e1 : readL d dead k = if dead = true ∨ d.dead = true then (ByteArray.empty, 5) else ((d.now.getD (41 + k).toNat ByteArray.empty).extract 8 256, 0) := by unfold readL; rw [if_neg hk]
    rw [e1]
    unfold sizeL at hk
    have hw : IntKind.i64.wrap ((d.firm.length : Int) - 41) = (d.firm.length : Int) - 41 := by rw [IntKind.wrap_i64]; omega
    have k0' : (k < 0) = False := eq_false (by omega)
    have k1' : ((d.firm.length : Int) - 41 ≤ k) = False := eq_false (by omega)
    by_cases hde : dead = true
    · subst hde
      rw [if_pos (.inl rfl)]
      clear h hst e1
      go_enter Try.func43, Try.ntmps43
      go_wp2
      go_ret2
      exact ⟨rfl, Below.refl _ _⟩
    have hde' : dead = false := by simpa using hde
    subst hde'
    by_cases hdd : d.dead = true
    · rw [if_pos (.inr hdd)]
      rw [hdd] at x3
      clear h hst e1
      go_enter Try.func43, Try.ntmps43
      go_wp2
      go_ret2
      exact ⟨rfl, Below.refl _ _⟩
    have hdd' : d.dead = false := by simpa using hdd
    rw [if_neg (by rw [hdd']; simp)]
    rw [hdd'] at x3
    obtain ⟨k, rfl⟩ := Int.eq_ofNat_of_zero_le (show 0 ≤ k by omega)
    have HR := Lib.hid (rnow_any h (41 + k) (by omega) hl)
    have hbs := now_size h.ok (41 + k) (by omega)
    rw [show ((41 + (k : Int)).toNat) = 41 + k by omega]
    obtain ⟨b, eb⟩ : ∃ b, d.now.getD (41 + k) ByteArray.empty = b := ⟨_, rfl⟩
    rw [eb] at HR hbs ⊢
    have hw2 : IntKind.i64.wrap (41 + (k : Int)) = 41 + (k : Int) := by rw [IntKind.wrap_i64]; omega
    have hcast : ((41 + k : Nat) : Int) = 41 + (k : Int) := by omega
    rw [hcast] at HR
    have h8 : (8 : Int) ≤ (b.size : Int) := by omega
    have hb256 : b.size = 256 := hbs
    clear h hst e1 eb hbs hcast
    go_enter Try.func43, Try.ntmps43
    go_wp2_with fail
    refine HR.out.mono ?_
    rintro e w1 ⟨rfl, rfl⟩
    go_wp2
    go_ret2
    exact ⟨by first | rfl | (rw [hb256]; rfl), Below.refl _ _⟩
end Go.Proofs.Ytmdojgkgohmghaa.Wal
namespace Go.Proofs.Ytmdojgkgohmghaa.Wal
open Go.RowKit Go.Own Go.Blk Go.DevL Go.XdrL Go.WalL Go.OpsL Go.Sees Go.Proofs.Ytmdojgkgohmghaa.P04 Go.Proofs.Ytmdojgkgohmghaa.Xdr Go.Proofs.YtmdojgkgohmghaaW.PrintLast Go.Proofs.YtmdojgkgohmghaaW.PrintWords
open Go.Proofs.Ytmdojgkgohmghaa.Dev hiding stop_here execOp_build execOp_alloc execOp_store execOp_load execOp_buildSlice execOp_makeSlice execOp_box execOp_copy execOp_append wpList_val wpList_none Up RAt
set_option linter.unusedVariables false
set_option linter.unusedSimpArgs false
set_option maxRecDepth 100000
variable {F : Nat → Prop} {w w' wr wr' : World} {p q : Nat} {d d' d'' : Dv} {last c : Nat} {dead : Bool} {v v' : Value} {l : List ByteArray} {b : List (Int × ByteArray)} {e : Int}
theorem u8_mod (n : Nat) : UInt8.ofNat (n % 256) = UInt8.ofNat n := by
  apply UInt8.toNat_inj.1
  rw [UInt8.toNat_ofNat', UInt8.toNat_ofNat', Nat.mod_mod_of_dvd _ (by decide)]
theorem number_run (n : Nat) (h : n < 4294967296) : lamellaref02_Number.f (n : Int) = some (num4 n) := by
  have key : ∀ k : Nat, 0 < k → ((Int.tdiv (n : Int) (k : Int)) % 4294967296) % 256 = ((n / k % 256 : Nat) : Int) := fun k hk => by
    have h1 : Int.tdiv (n : Int) (k : Int) = ((n / k : Nat) : Int) := Int.ofNat_tdiv n k
    have h2 := Nat.div_le_self n k
    rw [h1]
    omega
  have k0 : (Int.tmod (n : Int) 256) % 256 = ((n % 256 : Nat) : Int) := by
    have h1 : Int.tmod (n : Int) ((256 : Nat) : Int) = ((n % 256 : Nat) : Int) := Int.ofNat_tmod n 256
    have h2 : Int.tmod (n : Int) 256 = ((n % 256 : Nat) : Int) := h1
    rw [h2]
    omega
  unfold lamellaref02_Number.f
  have k1 := key 16777216 (by decide)
  have k2 := key 65536 (by decide)
  have k3 := key 256 (by decide)
  have e1 : ((16777216 : Nat) : Int) = 16777216 := rfl
  have e2 : ((65536 : Nat) : Int) = 65536 := rfl
  have e3 : ((256 : Nat) : Int) = 256 := rfl
  rw [e1] at k1
  rw [e2] at k2
  rw [e3] at k3
  rw [k0, k1, k2, k3]
  unfold strOfNums num4
  simp only [List.map_cons, List.map_nil, Int.toNat_natCast, u8_mod]
theorem number_calls (n : Nat) (h : n < 4294967296) (w : World) : Calls Try.prog 67 #[.int .u32 (n : Int)] w fun e w' => e = .returned (.string (num4 n)) ∧ Below w.heap.size w w' :=
  lamellaref02_Number.calls _ _ _ (number_run n h)
theorem fill_run : ∀ m (s : ByteArray), s.size + m = 256 → lamellaref04_fill.f (m + 1) s = some (s ++ zeros (256 - s.size))
  | 0, s, h => by
    unfold lamellaref04_fill.f
    rw [lamellaref04_fill.l0, if_neg (by omega)]
    rw [show 256 - s.size = 0 by omega, show zeros 0 = ByteArray.empty from rfl, ByteArray.append_empty]
  | m + 1, s, h => by
    unfold lamellaref04_fill.f
    rw [lamellaref04_fill.l0, if_pos (by omega), if_pos (by omega)]
    have hz : (⟨#[0]⟩ : ByteArray) = zeros 1 := rfl
    have hs : (s ++ (⟨#[0]⟩ : ByteArray)).size = s.size + 1 := by rw [ByteArray.size_append, hz, zeros_size]
    have h1 := fill_run m (s ++ (⟨#[0]⟩ : ByteArray)) (by rw [hs]; omega)
    unfold lamellaref04_fill.f at h1
    rw [h1, hs, hz, ByteArray.append_assoc, zeros_add, show 1 + (256 - (s.size + 1)) = 256 - s.size by omega]
theorem fill_calls (s : ByteArray) (h : s.size ≤ 256) (w : World) : Calls Try.prog 66 #[.string s] w fun e w' => e = .returned (.string (pad s)) ∧ Below w.heap.size w w' :=
  (lamellaref04_fill.calls _ s _ w (fill_run (256 - s.size) s (by omega))).mono fun e w' ⟨he, hd⟩ => ⟨he, hd.below⟩
/-- What the document's steps keep on their way. -/
structure RCSt (F : Nat → Prop) (w wr : World) (p q : Nat) (v : Value) (l : List ByteArray) (d0 d' : Dv) (c : Nat) : Prop where
  dev : ∃ G, RDev G wr p d' ∧ Sub F w wr G ∧ ¬ G q ∧ ∀ k, v.ownBlock = some k → ¬ G k
  fr : Fr F w wr
  row : SR wr v l
  ge : ∀ k, v.ownBlock = some k → w.heap.size ≤ k
  late : d'.late.length ≤ d0.late.length + c
theorem RCSt.below (h : RCSt F w wr p q v l d d' c) (hb : Below wr.heap.size wr wr') : RCSt F w wr' p q v l d d' c where
  dev := by
    obtain ⟨G, h1, h2, h3, h4⟩ := h.dev
    exact ⟨G, h1.below hb, h2.grow hb.size, h3, h4⟩
  fr := h.fr.trans (Fr.of_below (F := F) hb) (fun _ _ h => h)
  row := part_below h.row hb
  ge := h.ge
  late := h.late
theorem RCSt.step (h : RCSt F w wr p q v l d d' c) (hq : q < w.heap.size) {G : Nat → Prop} (hG : Sub F w wr G) (hgq : ¬ G q) (hv : ∀ k, v.ownBlock = some k → ¬ G k) (hd : RDev (Dev.Up G wr wr') wr' p d'') (hf : Fr G wr wr') (hl : d''.late.length ≤ d'.late.length + 1) : RCSt F w wr' p q v l d d'' (c + 1) where
  dev := ⟨_, hd, hG.up h.fr.size hf.size, fun hk => by
      rcases hk with hk | hk
      · exact hgq hk
      · have := h.fr.size; omega, fun k hk hu => by
      rcases hu with hu | hu
      · exact hv k hk hu
      · have := (h.row.lt k hk).2; omega⟩
  fr := h.fr.trans hf (fun k hk hg => (hG k hg).elim id fun ⟨a, _⟩ => by omega)
  row := hf.part h.row hv
  ge := h.ge
  late := by have := h.late; omega
theorem RCSt.add {x : ByteArray} (h : RCSt F w wr p q v l d d' c) (hq : q < w.heap.size) (hf : Fr (fun k => v.ownBlock = some k) wr wr') (hr : SR wr' v' (l ++ [x])) (hn : ∀ k, v'.ownBlock = some k → v.ownBlock = some k ∨ wr.heap.size ≤ k) : RCSt F w wr' p q v' (l ++ [x]) d d' c where
  dev := by
    obtain ⟨G, h1, h2, h3, h4⟩ := h.dev
    refine ⟨G, h1.keep hf (fun k hk e => h4 k e hk), h2.grow hf.size, h3, fun k hk hg => ?_⟩
    rcases hn k hk with e | e
    · exact h4 k e hg
    · have := h1.lt k hg; omega
  fr := h.fr.trans hf (fun k hk e => by have := h.ge k e; omega)
  row := hr
  ge := fun k hk => by
    rcases hn k hk with e | e
    · exact h.ge k e
    · have := h.fr.size; omega
  late := h.late
theorem RLAt.cell0 (h : RLAt w q p last dead) : w.cell? ⟨q, 0, none⟩ = some (.pointer (some ⟨p, 0, none⟩)) := (blk3 h.1).1
def rstepsPost (F : Nat → Prop) (w w' : World) (p q : Nat) (R : Int × Dv) (e : Ending) : Prop :=
  e = .returned (.bool (decide (R.1 = 0))) ∧ (∃ G, RDev G w' p R.2 ∧ Sub F w w' G ∧ ¬ G q) ∧ Fr F w w'
theorem RCSt.done (h : RCSt F w wr p q v l d d' c) : rstepsPost F w wr p q (0, d') (.returned (.bool true)) := by
  obtain ⟨G, h1, h2, h3, h4⟩ := h.dev
  exact ⟨rfl, ⟨G, h1, h2, h3⟩, h.fr⟩
theorem RCSt.died (h : RCSt F w wr p q v l d d' c) (he : e ≠ 0) : rstepsPost F w wr p q (e, d') (.returned (.bool false)) := by
  obtain ⟨G, h1, h2, h3, h4⟩ := h.dev
  exact ⟨by rw [decide_eq_false (show ¬ (e, d').1 = 0 from he)], ⟨G, h1, h2, h3⟩, h.fr⟩
end Go.Proofs.Ytmdojgkgohmghaa.Wal
namespace Go.Proofs.Ytmdojgkgohmghaa.Wal
open Go.RowKit Go.Own Go.Blk Go.DevL Go.XdrL Go.WalL Go.OpsL Go.Maps Go.Sees Go.Proofs.Ytmdojgkgohmghaa.P04 Go.Proofs.Ytmdojgkgohmghaa.Xdr Go.Proofs.YtmdojgkgohmghaaW.PrintLast Go.Proofs.YtmdojgkgohmghaaW.PrintWords
open Go.Proofs.Ytmdojgkgohmghaa.Dev hiding stop_here execOp_build execOp_alloc execOp_store execOp_load execOp_buildSlice execOp_makeSlice execOp_box execOp_copy execOp_append wpList_val wpList_none Up RAt
set_option linter.unusedVariables false
set_option linter.unusedSimpArgs false
set_option maxRecDepth 100000
variable {F : Nat → Prop} {w w' wr wr' : World} {p q : Nat} {d d' d'' : Dv} {last c : Nat} {dead : Bool} {v v' : Value} {l : List ByteArray} {b : List (Int × ByteArray)} {e : Int}
def XAt (w : World) (blk o : Nat) (xa : Int) (xs : ByteArray) : Prop := blk < w.heap.size ∧ w.cell? ⟨blk, o, none⟩ = some (.int .i64 xa) ∧ w.cell? ⟨blk, o + 1, none⟩ = some (.string xs)
theorem XAt.keep {G : Nat → Prop} {blk o : Nat} {xa : Int} {xs : ByteArray} (h : XAt w blk o xa xs) (hF : Fr G w w') (hG : ¬ G blk) : XAt w' blk o xa xs :=
  ⟨Nat.lt_of_lt_of_le h.1 hF.size, (by rw [← h.2.1]; unfold World.cell?; simp only; rw [hF.block blk h.1 hG]), (by rw [← h.2.2]; unfold World.cell?; simp only; rw [hF.block blk h.1 hG])⟩
theorem XAt.below {blk o : Nat} {xa : Int} {xs : ByteArray} (h : XAt w blk o xa xs) (hb : Below w.heap.size w w') : XAt w' blk o xa xs :=
  h.keep (G := fun _ => False) (Fr.of_below hb) id
set_option maxHeartbeats 64000000 in
theorem rsteps_calls (h : RLAt w q p last dead) (hd : RDev F w p d) (hqF : ¬ F q) (A : Option Addr) (cap : Nat) (hA : ArrAt w A ncells 2 b) (hAF : ∀ a, A = some a → ¬ F a.block) (hfit : fit (sizeL d) b) (hlm : last ≠ 4294967295) (hl : d.late.length ≤ 900000) :
    Calls Try.prog 56 #[.pointer (some ⟨q, 0, none⟩), .slice A b.length cap] w fun e w' => rstepsPost F w w' p q (commitD d (last + 1) b) e := by
  have hlast : last + 1 < 4294967296 := by have := h.2; omega
  have hn2 := hd.ok.n2
  have hqw := h.lt
  have hbl := hfit.2.1
  have HFT := Lib.hid (show ∀ i (hi : i < b.length), 0 ≤ b[i].1 ∧ b[i].1 < 1000 ∧ b[i].2.size ≤ 248 from fun i hi => by
    have h1 := hfit.2.2.1 b[i] (List.getElem_mem hi)
    have h2 : sizeL d = (d.firm.length : Int) - 41 := rfl
    exact ⟨h1.1, by omega, h1.2.2⟩)
  obtain ⟨E, M, T, U, K1, K2, K3, K4, hP⟩ := plan_of d b (last + 1)
  obtain ⟨R, hR⟩ : ∃ R, commitD d (last + 1) b = R := ⟨_, rfl⟩
  rw [hR] at hP ⊢
  have HP := Lib.hid hP
  obtain ⟨L, hL⟩ : ∃ L : Nat → List ByteArray, (∀ i, (L i).length = i) ∧ L 0 = [] ∧ (∀ i, L (i + 1) = L i ++ [E i]) ∧ ∀ n i, i < n → (L n)[i]? = some (E i) :=
    ⟨fun n => (List.range n).map E, fun i => by simp, rfl, fun i => by simp [List.range_succ], fun n i hi => by simp [hi]⟩
  have HL := Lib.hid hL
  have HLQ := Lib.hid h
  have HQF := Lib.hid hqF
  have HA := Lib.hid hA
  have HAF := Lib.hid hAF
  have hm : pad (⟨#[76, 67, 79, 77]⟩ ++ num4 (last + 1) ++ num4 b.length) = M := by rw [hP.mrk, ByteArray.append_assoc]; rfl
  have HPAD2 := Lib.hid (fun W => (show Calls Try.prog 66 #[.string (⟨#[76, 67, 79, 77]⟩ ++ num4 (last + 1) ++ num4 b.length)] W fun e w' => e = .returned (.string M) ∧ Below W.heap.size W w' by rw [← hm]; exact fill_calls _ (by rw [ByteArray.size_append, ByteArray.size_append, num4_size, num4_size]; show 4 + _ + _ ≤ 256; omega) W))
  have HNUMN := Lib.hid (fun W => (show Calls Try.prog 67 #[.int .u32 ((last : Int) + 1)] W fun e w' => e = .returned (.string (num4 (last + 1))) ∧ Below W.heap.size W w' by have := number_calls (last + 1) hlast W; rw [show ((last + 1 : Nat) : Int) = (last : Int) + 1 by omega] at this; exact this))
  have HNUMB := Lib.hid (fun W => number_calls b.length (by omega) W)
  have hw5 : IntKind.u32.wrap ((last : Int) + 1) = (last : Int) + 1 := by rw [IntKind.wrap_u32]; omega
  have hw6 : ((last : Int) + 1) % 4294967296 = (last : Int) + 1 := by omega
  have hw7 : (b.length : Int) % 4294967296 = (b.length : Int) := by omega
  have hw8 : IntKind.u32.wrap (b.length : Int) = (b.length : Int) := by rw [IntKind.wrap_u32]; omega
  have HS0 := Lib.hid (show RCSt F w w p q (.slice none 0 0) [] d d 0 from
    ⟨⟨F, hd, fun k hk => .inl hk, hqF, fun k hk => by simp [Value.ownBlock] at hk⟩, Fr.of_below (Below.refl _ _), part_of_own (World.ownsRow_nil ..), fun k hk => by simp [Value.ownBlock] at hk, Nat.le_refl _⟩)
  obtain ⟨x0, y0, x1, y1, x2, y2⟩ := blk3 h.1
  clear h hd hqF hA hAF hfit hR hP hL hm hlm
  go_enter Try.func56, Try.ntmps56
  go_wp2_with fail
  go_loopw [6, 7] (fun s6 s7 wr => ∃ (i : Nat), i ≤ b.length ∧ s7 = .int .i64 (i : Int) ∧ ∃ d', Hid (RCSt F w wr p q s6 (L i) d d' i) ∧ Hid (R = T i d')) (fun _ s7 _ => b.length - (intOf s7).toNat)
  case atStart => exact ⟨0, Nat.zero_le _, by simp, d, Lib.hid (by rw [HL.out.2.1]; exact HS0.out), Lib.hid HP.out.start⟩
  case round =>
    clear HS0 x0 y0 x1 y1 x2 y2
    obtain ⟨i, hi, rfl, d', HO, HRX⟩ := hrel
    obtain ⟨a8, c8, e8, -⟩ := part_form HO.out.row
    rw [HL.out.1] at e8
    subst e8
    by_cases hil : i < b.length
    · have hil' : ((i : Int) < (b.length : Int)) = True := eq_true (by omega)
      obtain ⟨blk, off, hAA, hbw, hcs0⟩ := HA.out i hil
      subst hAA
      obtain ⟨x, hx⟩ : ∃ x, b[i] = x := ⟨_, rfl⟩
      rw [hx] at hcs0
      have HFB := Lib.hid (HAF.out _ rfl)
      have HBW := Lib.hid hbw
      have hfx := HFT.out i hil
      rw [hx] at hfx
      have hex := HP.out.ent i hil
      rw [hx] at hex
      have hhx := HP.out.home i hil
      rw [hx] at hhx
      obtain ⟨xa, xs⟩ := x
      simp only at hfx hex hhx
      obtain ⟨hx0, hx1, hx2⟩ := hfx
      obtain ⟨xn, rfl⟩ := Int.eq_ofNat_of_zero_le hx0
      have HX := Lib.hid ((show XAt w blk (off + i * 2) (xn : Int) xs from ⟨hbw, hcs0 0 _ rfl, hcs0 1 _ rfl⟩).keep HO.out.fr HFB.out)
      have hxn : xn < 1000 := by omega
      have HHX := Lib.hid hhx
      have hei : pad (num4 (41 + xn) ++ num4 (last + 1) ++ xs) = E i := by rw [hex]; unfold WalL.ent; rw [show (41 + (xn : Int)).toNat = 41 + xn by omega]
      obtain ⟨ei, heq⟩ : ∃ ei, E i = ei := ⟨_, rfl⟩
      rw [heq] at hei
      have HEI := Lib.hid heq
      have HI := Lib.hid (show i < b.length from hil)
      have hw1 : IntKind.i64.wrap (41 + (xn : Int)) = 41 + (xn : Int) := by rw [IntKind.wrap_i64]; omega
      have hw2 : IntKind.u32.wrap (41 + (xn : Int)) = 41 + (xn : Int) := by rw [IntKind.wrap_u32]; omega
      have hw3 : (41 + (xn : Int)) % 4294967296 = 41 + (xn : Int) := by omega
      have hw4 : IntKind.i64.wrap (1 + (i : Int)) = 1 + (i : Int) := by rw [IntKind.wrap_i64]; omega
      have HPAD := Lib.hid (fun W => (show Calls Try.prog 66 #[.string (num4 (41 + xn) ++ num4 (last + 1) ++ xs)] W fun e w' => e = .returned (.string ei) ∧ Below W.heap.size W w' by rw [← hei]; exact fill_calls _ (by rw [ByteArray.size_append, ByteArray.size_append, num4_size, num4_size]; omega) W))
      have HNUM := Lib.hid (fun W => (show Calls Try.prog 67 #[.int .u32 (41 + (xn : Int))] W fun e w' => e = .returned (.string (num4 (41 + xn))) ∧ Below W.heap.size W w' by have := number_calls (41 + xn) (by omega) W; rw [show ((41 + xn : Nat) : Int) = 41 + (xn : Int) by omega] at this; exact this))
      clear hx hcs0 hhx hex hei heq hbw
      go_wp2_with fail
      refine start_ (n := 19) (S := fun w' => XAt w' blk (off + i * 2) (xn : Int) xs) (ds := []) #[false, false, false, false, false, false, false, false, false, false, false, false, false, false, false, false, false, false, false] (by kernel_rfl) rfl rfl (HX.out.below (Below.refl _ _).drew) (fun hHeld => ?_)
      have HO7 := Lib.hid (HO.out.below (Below.refl wr.heap.size wr).drew)
      have HX7 := Lib.hid (HX.out.below (Below.refl wr.heap.size wr).drew)
      generalize wr.drew = w7 at HO7 HX7 hHeld ⊢
      refine pure_ (i := 0) (N := some 21) (v := ?_) (a' := ?_) #[true, false, false, false, false, false, false, false, false, false, false, false, false, false, false, false, false, false, false] rfl rfl (by kernel_rfl) (fun _ _ _ h => h) (Or.inl ⟨by rfl, ?_⟩) ?_ ?_
      rotate_left
      · intro w'
        go_simp
        with_reducible rfl
      rotate_left
      · simp only [Act.put, List.setIfInBounds_toArray, List.set_cons_zero, List.set_cons_succ, i64_w, i32_w]
        rfl
      refine pure_ (i := 1) (N := some 22) (v := ?_) (a' := ?_) #[true, true, false, false, false, false, false, false, false, false, false, false, false, false, false, false, false, false, false] rfl rfl (by kernel_rfl) (fun _ _ _ h => h) (Or.inl ⟨by rfl, ?_⟩) ?_ ?_
      rotate_left
      · intro w'
        go_simp
        with_reducible rfl
      rotate_left
      · simp only [Act.put, List.setIfInBounds_toArray, List.set_cons_zero, List.set_cons_succ, i64_w, i32_w]
        rfl
      refine pure_ (i := 2) (N := some 23) (v := ?_) (a' := ?_) #[true, true, true, false, false, false, false, false, false, false, false, false, false, false, false, false, false, false, false] rfl rfl (by kernel_rfl) (fun _ _ _ h => h) (Or.inl ⟨by rfl, ?_⟩) ?_ ?_
      rotate_left
      · intro w'
        go_simp
        with_reducible rfl
      rotate_left
      · simp only [Act.put, List.setIfInBounds_toArray, List.set_cons_zero, List.set_cons_succ, i64_w, i32_w]
        rfl
      refine pure_ (i := 3) (N := some 24) (v := ?_) (a' := ?_) #[true, true, true, true, false, false, false, false, false, false, false, false, false, false, false, false, false, false, false] rfl rfl (by kernel_rfl) (fun _ _ _ h => h) (Or.inl ⟨by rfl, ?_⟩) ?_ ?_
      rotate_left
      · intro w'
        go_simp
        with_reducible rfl
      rotate_left
      · simp only [Act.put, List.setIfInBounds_toArray, List.set_cons_zero, List.set_cons_succ, i64_w, i32_w]
        rfl
      refine take_ (i := 4) (N := some 25) (v := ?_) (a' := ?_) #[true, true, true, true, true, false, false, false, false, false, false, false, false, false, false, false, false, false, false] rfl rfl (by kernel_rfl) (fun _ _ _ h => h) (Or.inl ⟨by rfl, ?_⟩) hHeld ?_ ?_
      rotate_left
      · intro w' hS
        have z0 := hS.2.1
        go_simp
        with_reducible rfl
      rotate_left
      · simp only [Act.put, List.setIfInBounds_toArray, List.set_cons_zero, List.set_cons_succ, i64_w, i32_w]
        rfl
      refine pure_ (i := 5) (N := some 26) (v := ?_) (a' := ?_) #[true, true, true, true, true, true, false, false, false, false, false, false, false, false, false, false, false, false, false] rfl rfl (by kernel_rfl) (fun _ _ _ h => h) (Or.inl ⟨by rfl, ?_⟩) ?_ ?_
      rotate_left
      · intro w'
        go_simp
        with_reducible rfl
      rotate_left
      · simp only [Act.put, List.setIfInBounds_toArray, List.set_cons_zero, List.set_cons_succ, i64_w, i32_w]
        rfl
      refine pure_ (i := 6) (N := some 27) (v := ?_) (a' := ?_) #[true, true, true, true, true, true, true, false, false, false, false, false, false, false, false, false, false, false, false] rfl rfl (by kernel_rfl) (fun _ _ _ h => h) (Or.inl ⟨by rfl, ?_⟩) ?_ ?_
      rotate_left
      · intro w'
        go_simp
        with_reducible rfl
      rotate_left
      · simp only [Act.put, List.setIfInBounds_toArray, List.set_cons_zero, List.set_cons_succ, i64_w, i32_w]
        rfl
      refine pure_ (i := 8) (N := some 29) (v := ?_) (a' := ?_) #[true, true, true, true, true, true, true, false, true, false, false, false, false, false, false, false, false, false, false] rfl rfl (by kernel_rfl) (fun _ _ _ h => h) (Or.inl ⟨by rfl, ?_⟩) ?_ ?_
      rotate_left
      · intro w'
        go_simp
        with_reducible rfl
      rotate_left
      · simp only [Act.put, List.setIfInBounds_toArray, List.set_cons_zero, List.set_cons_succ, i64_w, i32_w]
        rfl
      refine pure_ (i := 11) (N := some 32) (v := ?_) (a' := ?_) #[true, true, true, true, true, true, true, false, true, false, false, true, false, false, false, false, false, false, false] rfl rfl (by kernel_rfl) (fun _ _ _ h => h) (Or.inl ⟨by rfl, ?_⟩) ?_ ?_
      rotate_left
      · intro w'
        go_simp
        with_reducible rfl
      rotate_left
      · simp only [Act.put, List.setIfInBounds_toArray, List.set_cons_zero, List.set_cons_succ, i64_w, i32_w]
        rfl
      refine pure_ (i := 12) (N := some 33) (v := ?_) (a' := ?_) #[true, true, true, true, true, true, true, false, true, false, false, true, true, false, false, false, false, false, false] rfl rfl (by kernel_rfl) (fun _ _ _ h => h) (Or.inl ⟨by rfl, ?_⟩) ?_ ?_
      rotate_left
      · intro w'
        go_simp
        with_reducible rfl
      rotate_left
      · simp only [Act.put, List.setIfInBounds_toArray, List.set_cons_zero, List.set_cons_succ, i64_w, i32_w]
        rfl
      refine pure_ (i := 13) (N := some 34) (v := ?_) (a' := ?_) #[true, true, true, true, true, true, true, false, true, false, false, true, true, true, false, false, false, false, false] rfl rfl (by kernel_rfl) (fun _ _ _ h => h) (Or.inl ⟨by rfl, ?_⟩) ?_ ?_
      rotate_left
      · intro w'
        go_simp
        with_reducible rfl
      rotate_left
      · simp only [Act.put, List.setIfInBounds_toArray, List.set_cons_zero, List.set_cons_succ, i64_w, i32_w]
        rfl
      refine pure_ (i := 14) (N := some 35) (v := ?_) (a' := ?_) #[true, true, true, true, true, true, true, false, true, false, false, true, true, true, true, false, false, false, false] rfl rfl (by kernel_rfl) (fun _ _ _ h => h) (Or.inl ⟨by rfl, ?_⟩) ?_ ?_
      rotate_left
      · intro w'
        go_simp
        with_reducible rfl
      rotate_left
      · simp only [Act.put, List.setIfInBounds_toArray, List.set_cons_zero, List.set_cons_succ, i64_w, i32_w]
        rfl
      refine take_ (i := 15) (N := some 36) (v := ?_) (a' := ?_) #[true, true, true, true, true, true, true, false, true, false, false, true, true, true, true, true, false, false, false] rfl rfl (by kernel_rfl) (fun _ _ _ h => h) (Or.inl ⟨by rfl, ?_⟩) hHeld ?_ ?_
      rotate_left
      · intro w' hS
        have z0 := hS.2.2
        go_simp
        with_reducible rfl
      rotate_left
      · simp only [Act.put, List.setIfInBounds_toArray, List.set_cons_zero, List.set_cons_succ, i64_w, i32_w]
        rfl
      refine one_ (i := 7) (N := some 28) #[true, true, true, true, true, true, true, true, true, false, false, true, true, true, true, true, false, false, false] rfl rfl (by kernel_rfl) (by decide) (fun K hK => ?_)
      refine goes_ Try.func67 (by kernel_rfl) rfl #[.int .u32 (41 + (xn : Int))] (by rfl) rfl rfl (by (try simp only [List.map_toArray, List.map_cons, List.map_nil]); first | done | rfl) ?_
      refine (HNUM.out _).mono ?_
      rintro e w8 ⟨rfl, hb⟩
      refine ⟨_, rfl, ?_⟩
      have HO8 := Lib.hid (HO7.out.below hb)
      have HX8 := Lib.hid (HX7.out.below hb)
      clear hb
      refine hK.out _ _ HX8.out (fun hHeld => ?_)
      clear hK K
      refine norm_ (a' := ?_) ?_ ?_
      rotate_left
      · show Act.put _ (some 28) _ = _
        simp only [Act.put, List.setIfInBounds_toArray, List.set_cons_zero, List.set_cons_succ, i64_w, i32_w]
        rfl
      refine one_ (i := 9) (N := some 30) #[true, true, true, true, true, true, true, true, true, true, false, true, true, true, true, true, false, false, false] rfl rfl (by kernel_rfl) (by decide) (fun K hK => ?_)
      refine goes_ Try.func67 (by kernel_rfl) rfl #[.int .u32 ((last : Int) + 1)] (by rfl) rfl rfl (by (try simp only [List.map_toArray, List.map_cons, List.map_nil]); first | done | rfl) ?_
      refine (HNUMN.out _).mono ?_
      rintro e w9 ⟨rfl, hb⟩
      refine ⟨_, rfl, ?_⟩
      have HO9 := Lib.hid (HO8.out.below hb)
      have HX9 := Lib.hid (HX8.out.below hb)
      clear hb
      refine hK.out _ _ HX9.out (fun hHeld => ?_)
      clear hK K
      refine norm_ (a' := ?_) ?_ ?_
      rotate_left
      · show Act.put _ (some 30) _ = _
        simp only [Act.put, List.setIfInBounds_toArray, List.set_cons_zero, List.set_cons_succ, i64_w, i32_w]
        rfl
      refine pure_ (i := 10) (N := some 31) (v := ?_) (a' := ?_) #[true, true, true, true, true, true, true, true, true, true, true, true, true, true, true, true, false, false, false] rfl rfl (by kernel_rfl) (fun _ _ _ h => h) (Or.inl ⟨by rfl, ?_⟩) ?_ ?_
      rotate_left
      · intro w'
        have hcat : (9223372036854775807 < (num4 (41 + xn)).size + (num4 (last + 1)).size) = False := eq_false (by rw [num4_size, num4_size]; omega)
        go_simp
        with_reducible rfl
      rotate_left
      · simp only [Act.put, List.setIfInBounds_toArray, List.set_cons_zero, List.set_cons_succ, i64_w, i32_w]
        rfl
      refine pure_ (i := 16) (N := some 37) (v := ?_) (a' := ?_) #[true, true, true, true, true, true, true, true, true, true, true, true, true, true, true, true, true, false, false] rfl rfl (by kernel_rfl) (fun _ _ _ h => h) (Or.inl ⟨by rfl, ?_⟩) ?_ ?_
      rotate_left
      · intro w'
        have hcat : (9223372036854775807 < (num4 (41 + xn)).size + (num4 (last + 1)).size + xs.size) = False := eq_false (by rw [num4_size, num4_size]; omega)
        go_simp
        with_reducible rfl
      rotate_left
      · simp only [Act.put, List.setIfInBounds_toArray, List.set_cons_zero, List.set_cons_succ, i64_w, i32_w]
        rfl
      refine one_ (i := 17) (N := some 38) #[true, true, true, true, true, true, true, true, true, true, true, true, true, true, true, true, true, true, false] rfl rfl (by kernel_rfl) (by decide) (fun K hK => ?_)
      refine goes_ Try.func66 (by kernel_rfl) rfl #[.string (num4 (41 + xn) ++ num4 (last + 1) ++ xs)] (by rfl) rfl rfl (by (try simp only [List.map_toArray, List.map_cons, List.map_nil]); first | done | rfl) ?_
      refine (HPAD.out _).mono ?_
      rintro e w10 ⟨rfl, hb⟩
      refine ⟨_, rfl, ?_⟩
      have HO10 := Lib.hid (HO9.out.below hb)
      have HX10 := Lib.hid (HX9.out.below hb)
      clear hb
      refine hK.out _ _ HX10.out (fun hHeld => ?_)
      clear hK K
      refine norm_ (a' := ?_) ?_ ?_
      rotate_left
      · show Act.put _ (some 38) _ = _
        simp only [Act.put, List.setIfInBounds_toArray, List.set_cons_zero, List.set_cons_succ, i64_w, i32_w]
        rfl
      refine pure_ (i := 18) (N := some 8) (v := ?_) (a' := ?_) #[true, true, true, true, true, true, true, true, true, true, true, true, true, true, true, true, true, true, true] rfl rfl (by kernel_rfl) (fun _ _ _ h => h) (Or.inl ⟨by rfl, ?_⟩) ?_ ?_
      rotate_left
      · intro w'
        go_simp
        with_reducible rfl
      rotate_left
      · simp only [Act.put, List.setIfInBounds_toArray, List.set_cons_zero, List.set_cons_succ, i64_w, i32_w]
        rfl
      refine done_ (by kernel_rfl) ?_
      obtain ⟨hbs, u11, w11, hr11, ho11, hf11, hw11⟩ := sadds w10 HO10.out.row ei (by rw [HL.out.1]; omega)
      have HBS := Lib.hid hbs
      have HR11 := Lib.hid hr11
      have HO11 := Lib.hid (HO10.out.add hqw hf11 ho11 hw11)
      obtain ⟨a11, c11, e11, -⟩ := part_form ho11
      rw [show (L i ++ [ei]).length = i + 1 by rw [List.length_append, HL.out.1]; rfl] at e11
      subst e11
      have hlx : L (i + 1) = L i ++ [ei] := by rw [HL.out.2.2.1, HEI.out]
      rw [← hlx] at HO11
      clear hlx hbs hr11 ho11 hf11 hw11
      have c0 := (HLQ.out.keep HO11.out.fr HQF.out).cell0
      obtain ⟨G, hg1, hg2, hg3, hg4⟩ := HO11.out.dev
      have HG := Lib.hid (And.intro hg2 (And.intro hg3 hg4))
      have HWR := Lib.hid (rwrite_any hg1 (1 + (i : Int)) ei (by have := HO11.out.late; omega))
      clear hg1 hg2 hg3 hg4
      obtain ⟨⟨ew, dw⟩, hdw⟩ : ∃ r, d'.write (1 + (i : Int)) ei = r := ⟨_, rfl⟩
      rw [hdw] at HWR
      have HWT := Lib.hid hdw
      clear hdw
      go_wp2_with (first | ((with_reducible refine gate_dst (N := 41) rfl ?_); refine wpList_val rfl rfl (execOp_buildSlice (ps := #[(0, .string ei)]) rfl rfl HBS.out) ?_) | ((with_reducible refine gate_dst (N := 42) rfl ?_); refine wpList_val rfl rfl (execOp_append rfl rfl rfl HR11.out) ?_))
      refine HWR.out.mono ?_
      rintro e w13 ⟨rfl, hd, hf⟩
      have HO13 := Lib.hid (HO11.out.step hqw HG.out.1 HG.out.2.1 HG.out.2.2 hd hf (write_late' HWT.out))
      have HRT := Lib.hid (show R = andThen (ew, dw) (T (i + 1)) by rw [HRX.out, HP.out.jour i d' HI.out, HEI.out, HWT.out])
      clear hd hf HWT HG HRX HO11 c0
      by_cases he0 : ew = 0
      · subst he0
        have HRY := Lib.hid (show R = T (i + 1) dw by rw [HRT.out, andThen_ok])
        clear HRT
        go_wp2
        go_roundw
        case rel => exact ⟨i + 1, by omega, by first | rfl | go_num, dw, HO13, HRY⟩
        case measure => simp [intOf]; omega
      · have he0' : (ew = 0) = False := eq_false he0
        have HRY := Lib.hid (show R = (ew, dw) by rw [HRT.out, andThen_no he0])
        clear HRT
        go_wp2
        go_ret
        rw [HRY.out]
        exact HO13.out.died he0
    · have hil' : ((i : Int) < (b.length : Int)) = False := eq_false (by omega)
      obtain rfl : i = b.length := by omega
      have HRX1 := Lib.hid (show R = andThen d'.barrier K2 by rw [HRX.out, HP.out.jend, HP.out.k1])
      clear HRX
      obtain ⟨⟨eb, d1⟩, hb1⟩ : ∃ r, d'.barrier = r := ⟨_, rfl⟩
      have HB1 := Lib.hid hb1
      obtain ⟨⟨ew, dw⟩, hw1⟩ : ∃ r, d1.write 0 M = r := ⟨_, rfl⟩
      have HWT := Lib.hid hw1
      obtain ⟨⟨e2, d2⟩, hb2⟩ : ∃ r, dw.barrier = r := ⟨_, rfl⟩
      have HB2 := Lib.hid hb2
      clear hb1 hw1 hb2
      have c0 := (HLQ.out.keep HO.out.fr HQF.out).cell0
      by_cases he1 : eb = 0
      · subst he1
        have hrx2 : R = K2 d1 := by rw [HRX1.out, HB1.out, andThen_ok]
        by_cases hew : ew = 0
        · subst hew
          have hrx3 : R = K3 dw := by rw [hrx2, HP.out.k2, HWT.out, andThen_ok]
          by_cases he0 : e2 = 0
          · subst he0
            have HRX4 := Lib.hid (show R = K4 d2 by rw [hrx3, HP.out.k3, HB2.out, andThen_ok])
            clear hrx2 hrx3
            go_wp2_with fail
            refine start_ (n := 31) (S := fun w' => w'.cell? ⟨q, 0, none⟩ = some (.pointer (some ⟨p, 0, none⟩))) (ds := []) #[false, false, false, false, false, false, false, false, false, false, false, false, false, false, false, false, false, false, false, false, false, false, false, false, false, false, false, false, false, false, false] (by kernel_rfl) rfl rfl (c0) (fun hHeld => ?_)
            have HO2 := Lib.hid (HO.out.below (Below.refl wr.heap.size wr).drew)
            generalize wr.drew = w2 at HO2 hHeld ⊢
            clear c0
            refine pure_ (i := 0) (N := some 52) (v := ?_) (a' := ?_) #[true, false, false, false, false, false, false, false, false, false, false, false, false, false, false, false, false, false, false, false, false, false, false, false, false, false, false, false, false, false, false] rfl rfl (by kernel_rfl) (fun _ _ _ h => h) (Or.inl ⟨by rfl, ?_⟩) ?_ ?_
            rotate_left
            · intro w'
              go_simp
              with_reducible rfl
            rotate_left
            · simp only [Act.put, List.setIfInBounds_toArray, List.set_cons_zero, List.set_cons_succ, i64_w, i32_w]
              rfl
            refine pure_ (i := 1) (N := some 53) (v := ?_) (a' := ?_) #[true, true, false, false, false, false, false, false, false, false, false, false, false, false, false, false, false, false, false, false, false, false, false, false, false, false, false, false, false, false, false] rfl rfl (by kernel_rfl) (fun _ _ _ h => h) (Or.inl ⟨by rfl, ?_⟩) ?_ ?_
            rotate_left
            · intro w'
              go_simp
              with_reducible rfl
            rotate_left
            · simp only [Act.put, List.setIfInBounds_toArray, List.set_cons_zero, List.set_cons_succ, i64_w, i32_w]
              rfl
            refine pure_ (i := 2) (N := some 54) (v := ?_) (a' := ?_) #[true, true, true, false, false, false, false, false, false, false, false, false, false, false, false, false, false, false, false, false, false, false, false, false, false, false, false, false, false, false, false] rfl rfl (by kernel_rfl) (fun _ _ _ h => h) (Or.inl ⟨by rfl, ?_⟩) ?_ ?_
            rotate_left
            · intro w'
              go_simp
              with_reducible rfl
            rotate_left
            · simp only [Act.put, List.setIfInBounds_toArray, List.set_cons_zero, List.set_cons_succ, i64_w, i32_w]
              rfl
            refine take_ (i := 3) (N := some 55) (v := ?_) (a' := ?_) #[true, true, true, true, false, false, false, false, false, false, false, false, false, false, false, false, false, false, false, false, false, false, false, false, false, false, false, false, false, false, false] rfl rfl (by kernel_rfl) (fun _ _ _ h => h) (Or.inl ⟨by rfl, ?_⟩) hHeld ?_ ?_
            rotate_left
            · intro w' hS
              have z0 := hS
              go_simp
              with_reducible rfl
            rotate_left
            · simp only [Act.put, List.setIfInBounds_toArray, List.set_cons_zero, List.set_cons_succ, i64_w, i32_w]
              rfl
            obtain ⟨G, hg1, hg2, hg3, hg4⟩ := HO2.out.dev
            have HG := Lib.hid (And.intro hg2 (And.intro hg3 hg4))
            have HBA := Lib.hid (rbarrier_any hg1 (by have := HO2.out.late; omega))
            rw [HB1.out] at HBA
            clear hg1 hg2 hg3 hg4
            refine one_ (i := 4) (N := some 56) #[true, true, true, true, true, false, false, false, false, false, false, false, false, false, false, false, false, false, false, false, false, false, false, false, false, false, false, false, false, false, false] rfl rfl (by kernel_rfl) (by decide) (fun K hK => ?_)
            refine goes_ Try.func55 (by kernel_rfl) rfl #[.pointer (some ⟨p, 0, none⟩)] (by rfl) rfl rfl (by (try simp only [List.map_toArray, List.map_cons, List.map_nil]); first | done | rfl) ?_
            refine (HBA.out).mono ?_
            rintro e w3 ⟨rfl, hd, hf⟩
            have HO3 := Lib.hid (HO2.out.step hqw HG.out.1 HG.out.2.1 HG.out.2.2 hd hf (barrier_late HB1.out))
            clear hd hf HG
            refine ⟨_, rfl, ?_⟩
            refine hK.out _ _ ((HLQ.out.keep HO3.out.fr HQF.out).cell0) (fun hHeld => ?_)
            clear hK K
            refine norm_ (a' := ?_) ?_ ?_
            rotate_left
            · show Act.put _ (some 56) _ = _
              simp only [Act.put, List.setIfInBounds_toArray, List.set_cons_zero, List.set_cons_succ, i64_w, i32_w]
              rfl
            refine pure_ (i := 5) (N := some 57) (v := ?_) (a' := ?_) #[true, true, true, true, true, true, false, false, false, false, false, false, false, false, false, false, false, false, false, false, false, false, false, false, false, false, false, false, false, false, false] rfl rfl (by kernel_rfl) (fun _ _ _ h => h) (Or.inl ⟨by rfl, ?_⟩) ?_ ?_
            rotate_left
            · intro w'
              go_simp
              with_reducible rfl
            rotate_left
            · simp only [Act.put, List.setIfInBounds_toArray, List.set_cons_zero, List.set_cons_succ, i64_w, i32_w]
              rfl
            refine pure_ (i := 6) (N := some 58) (v := ?_) (a' := ?_) #[true, true, true, true, true, true, true, false, false, false, false, false, false, false, false, false, false, false, false, false, false, false, false, false, false, false, false, false, false, false, false] rfl rfl (by kernel_rfl) (fun _ _ _ h => h) (Or.inl ⟨by rfl, ?_⟩) ?_ ?_
            rotate_left
            · intro w'
              go_simp
              with_reducible rfl
            rotate_left
            · simp only [Act.put, List.setIfInBounds_toArray, List.set_cons_zero, List.set_cons_succ, i64_w, i32_w]
              rfl
            refine pure_ (i := 7) (N := some 59) (v := ?_) (a' := ?_) #[true, true, true, true, true, true, true, true, false, false, false, false, false, false, false, false, false, false, false, false, false, false, false, false, false, false, false, false, false, false, false] rfl rfl (by kernel_rfl) (fun _ _ _ h => h) (Or.inl ⟨by rfl, ?_⟩) ?_ ?_
            rotate_left
            · intro w'
              go_simp
              with_reducible rfl
            rotate_left
            · simp only [Act.put, List.setIfInBounds_toArray, List.set_cons_zero, List.set_cons_succ, i64_w, i32_w]
              rfl
            refine pure_ (i := 8) (N := some 60) (v := ?_) (a' := ?_) #[true, true, true, true, true, true, true, true, true, false, false, false, false, false, false, false, false, false, false, false, false, false, false, false, false, false, false, false, false, false, false] rfl rfl (by kernel_rfl) (fun _ _ _ h => h) (Or.inl ⟨by rfl, ?_⟩) ?_ ?_
            rotate_left
            · intro w'
              go_simp
              with_reducible rfl
            rotate_left
            · simp only [Act.put, List.setIfInBounds_toArray, List.set_cons_zero, List.set_cons_succ, i64_w, i32_w]
              rfl
            refine pure_ (i := 9) (N := some 61) (v := ?_) (a' := ?_) #[true, true, true, true, true, true, true, true, true, true, false, false, false, false, false, false, false, false, false, false, false, false, false, false, false, false, false, false, false, false, false] rfl rfl (by kernel_rfl) (fun _ _ _ h => h) (Or.inl ⟨by rfl, ?_⟩) ?_ ?_
            rotate_left
            · intro w'
              go_simp
              with_reducible rfl
            rotate_left
            · simp only [Act.put, List.setIfInBounds_toArray, List.set_cons_zero, List.set_cons_succ, i64_w, i32_w]
              rfl
            refine take_ (i := 10) (N := some 62) (v := ?_) (a' := ?_) #[true, true, true, true, true, true, true, true, true, true, true, false, false, false, false, false, false, false, false, false, false, false, false, false, false, false, false, false, false, false, false] rfl rfl (by kernel_rfl) (fun _ _ _ h => h) (Or.inl ⟨by rfl, ?_⟩) hHeld ?_ ?_
            rotate_left
            · intro w' hS
              have z0 := hS
              go_simp
              with_reducible rfl
            rotate_left
            · simp only [Act.put, List.setIfInBounds_toArray, List.set_cons_zero, List.set_cons_succ, i64_w, i32_w]
              rfl
            refine pure_ (i := 11) (N := some 63) (v := ?_) (a' := ?_) #[true, true, true, true, true, true, true, true, true, true, true, true, false, false, false, false, false, false, false, false, false, false, false, false, false, false, false, false, false, false, false] rfl rfl (by kernel_rfl) (fun _ _ _ h => h) (Or.inl ⟨by rfl, ?_⟩) ?_ ?_
            rotate_left
            · intro w'
              go_simp
              with_reducible rfl
            rotate_left
            · simp only [Act.put, List.setIfInBounds_toArray, List.set_cons_zero, List.set_cons_succ, i64_w, i32_w]
              rfl
            refine pure_ (i := 14) (N := some 66) (v := ?_) (a' := ?_) #[true, true, true, true, true, true, true, true, true, true, true, true, false, false, true, false, false, false, false, false, false, false, false, false, false, false, false, false, false, false, false] rfl rfl (by kernel_rfl) (fun _ _ _ h => h) (Or.inl ⟨by rfl, ?_⟩) ?_ ?_
            rotate_left
            · intro w'
              go_simp
              with_reducible rfl
            rotate_left
            · simp only [Act.put, List.setIfInBounds_toArray, List.set_cons_zero, List.set_cons_succ, i64_w, i32_w]
              rfl
            refine pure_ (i := 15) (N := some 67) (v := ?_) (a' := ?_) #[true, true, true, true, true, true, true, true, true, true, true, true, false, false, true, true, false, false, false, false, false, false, false, false, false, false, false, false, false, false, false] rfl rfl (by kernel_rfl) (fun _ _ _ h => h) (Or.inl ⟨by rfl, ?_⟩) ?_ ?_
            rotate_left
            · intro w'
              go_simp
              with_reducible rfl
            rotate_left
            · simp only [Act.put, List.setIfInBounds_toArray, List.set_cons_zero, List.set_cons_succ, i64_w, i32_w]
              rfl
            refine pure_ (i := 16) (N := some 68) (v := ?_) (a' := ?_) #[true, true, true, true, true, true, true, true, true, true, true, true, false, false, true, true, true, false, false, false, false, false, false, false, false, false, false, false, false, false, false] rfl rfl (by kernel_rfl) (fun _ _ _ h => h) (Or.inl ⟨by rfl, ?_⟩) ?_ ?_
            rotate_left
            · intro w'
              go_simp
              with_reducible rfl
            rotate_left
            · simp only [Act.put, List.setIfInBounds_toArray, List.set_cons_zero, List.set_cons_succ, i64_w, i32_w]
              rfl
            refine one_ (i := 12) (N := some 64) #[true, true, true, true, true, true, true, true, true, true, true, true, true, false, true, true, true, false, false, false, false, false, false, false, false, false, false, false, false, false, false] rfl rfl (by kernel_rfl) (by decide) (fun K hK => ?_)
            refine goes_ Try.func67 (by kernel_rfl) rfl #[.int .u32 ((last : Int) + 1)] (by rfl) rfl rfl (by (try simp only [List.map_toArray, List.map_cons, List.map_nil]); first | done | rfl) ?_
            refine (HNUMN.out _).mono ?_
            rintro e w4 ⟨rfl, hb⟩
            refine ⟨_, rfl, ?_⟩
            have HO4 := Lib.hid (HO3.out.below hb)
            clear hb
            refine hK.out _ _ ((HLQ.out.keep HO4.out.fr HQF.out).cell0) (fun hHeld => ?_)
            clear hK K
            refine norm_ (a' := ?_) ?_ ?_
            rotate_left
            · show Act.put _ (some 64) _ = _
              simp only [Act.put, List.setIfInBounds_toArray, List.set_cons_zero, List.set_cons_succ, i64_w, i32_w]
              rfl
            refine pure_ (i := 13) (N := some 65) (v := ?_) (a' := ?_) #[true, true, true, true, true, true, true, true, true, true, true, true, true, true, true, true, true, false, false, false, false, false, false, false, false, false, false, false, false, false, false] rfl rfl (by kernel_rfl) (fun _ _ _ h => h) (Or.inl ⟨by rfl, ?_⟩) ?_ ?_
            rotate_left
            · intro w'
              have hcat : (9223372036854775807 < 4 + (num4 (last + 1)).size) = False := eq_false (by rw [num4_size]; omega)
              go_simp
              with_reducible rfl
            rotate_left
            · simp only [Act.put, List.setIfInBounds_toArray, List.set_cons_zero, List.set_cons_succ, i64_w, i32_w]
              rfl
            refine one_ (i := 17) (N := some 69) #[true, true, true, true, true, true, true, true, true, true, true, true, true, true, true, true, true, true, false, false, false, false, false, false, false, false, false, false, false, false, false] rfl rfl (by kernel_rfl) (by decide) (fun K hK => ?_)
            refine goes_ Try.func67 (by kernel_rfl) rfl #[.int .u32 (b.length : Int)] (by rfl) rfl rfl (by (try simp only [List.map_toArray, List.map_cons, List.map_nil]); first | done | rfl) ?_
            refine (HNUMB.out _).mono ?_
            rintro e w5 ⟨rfl, hb⟩
            refine ⟨_, rfl, ?_⟩
            have HO5 := Lib.hid (HO4.out.below hb)
            clear hb
            refine hK.out _ _ ((HLQ.out.keep HO5.out.fr HQF.out).cell0) (fun hHeld => ?_)
            clear hK K
            refine norm_ (a' := ?_) ?_ ?_
            rotate_left
            · show Act.put _ (some 69) _ = _
              simp only [Act.put, List.setIfInBounds_toArray, List.set_cons_zero, List.set_cons_succ, i64_w, i32_w]
              rfl
            refine pure_ (i := 18) (N := some 70) (v := ?_) (a' := ?_) #[true, true, true, true, true, true, true, true, true, true, true, true, true, true, true, true, true, true, true, false, false, false, false, false, false, false, false, false, false, false, false] rfl rfl (by kernel_rfl) (fun _ _ _ h => h) (Or.inl ⟨by rfl, ?_⟩) ?_ ?_
            rotate_left
            · intro w'
              have hcat : (9223372036854775807 < 4 + (num4 (last + 1)).size + (num4 b.length).size) = False := eq_false (by rw [num4_size, num4_size]; omega)
              go_simp
              with_reducible rfl
            rotate_left
            · simp only [Act.put, List.setIfInBounds_toArray, List.set_cons_zero, List.set_cons_succ, i64_w, i32_w]
              rfl
            refine one_ (i := 19) (N := some 71) #[true, true, true, true, true, true, true, true, true, true, true, true, true, true, true, true, true, true, true, true, false, false, false, false, false, false, false, false, false, false, false] rfl rfl (by kernel_rfl) (by decide) (fun K hK => ?_)
            refine goes_ Try.func66 (by kernel_rfl) rfl #[.string (⟨#[76, 67, 79, 77]⟩ ++ num4 (last + 1) ++ num4 b.length)] (by rfl) rfl rfl (by (try simp only [List.map_toArray, List.map_cons, List.map_nil]); first | done | rfl) ?_
            refine (HPAD2.out _).mono ?_
            rintro e w6 ⟨rfl, hb⟩
            refine ⟨_, rfl, ?_⟩
            have HO6 := Lib.hid (HO5.out.below hb)
            clear hb
            refine hK.out _ _ ((HLQ.out.keep HO6.out.fr HQF.out).cell0) (fun hHeld => ?_)
            clear hK K
            refine norm_ (a' := ?_) ?_ ?_
            rotate_left
            · show Act.put _ (some 71) _ = _
              simp only [Act.put, List.setIfInBounds_toArray, List.set_cons_zero, List.set_cons_succ, i64_w, i32_w]
              rfl
            obtain ⟨G, hg1, hg2, hg3, hg4⟩ := HO6.out.dev
            have HG := Lib.hid (And.intro hg2 (And.intro hg3 hg4))
            have HWR := Lib.hid (rwrite_any hg1 0 M (by have := HO6.out.late; omega))
            rw [HWT.out] at HWR
            clear hg1 hg2 hg3 hg4
            refine one_ (i := 20) (N := some 72) #[true, true, true, true, true, true, true, true, true, true, true, true, true, true, true, true, true, true, true, true, true, false, false, false, false, false, false, false, false, false, false] rfl rfl (by kernel_rfl) (by decide) (fun K hK => ?_)
            refine goes_ Try.func44 (by kernel_rfl) rfl #[.pointer (some ⟨p, 0, none⟩), .int .i64 0, .string M] (by rfl) rfl rfl (by (try simp only [List.map_toArray, List.map_cons, List.map_nil]); first | done | rfl) ?_
            refine (HWR.out).mono ?_
            rintro e w7 ⟨rfl, hd, hf⟩
            have HO8 := Lib.hid (HO6.out.step hqw HG.out.1 HG.out.2.1 HG.out.2.2 hd hf (write_late' HWT.out))
            clear hd hf HG
            refine ⟨_, rfl, ?_⟩
            refine hK.out _ _ ((HLQ.out.keep HO8.out.fr HQF.out).cell0) (fun hHeld => ?_)
            clear hK K
            refine norm_ (a' := ?_) ?_ ?_
            rotate_left
            · show Act.put _ (some 72) _ = _
              simp only [Act.put, List.setIfInBounds_toArray, List.set_cons_zero, List.set_cons_succ, i64_w, i32_w]
              rfl
            refine pure_ (i := 21) (N := some 73) (v := ?_) (a' := ?_) #[true, true, true, true, true, true, true, true, true, true, true, true, true, true, true, true, true, true, true, true, true, true, false, false, false, false, false, false, false, false, false] rfl rfl (by kernel_rfl) (fun _ _ _ h => h) (Or.inl ⟨by rfl, ?_⟩) ?_ ?_
            rotate_left
            · intro w'
              go_simp
              with_reducible rfl
            rotate_left
            · simp only [Act.put, List.setIfInBounds_toArray, List.set_cons_zero, List.set_cons_succ, i64_w, i32_w]
              rfl
            refine pure_ (i := 22) (N := some 74) (v := ?_) (a' := ?_) #[true, true, true, true, true, true, true, true, true, true, true, true, true, true, true, true, true, true, true, true, true, true, true, false, false, false, false, false, false, false, false] rfl rfl (by kernel_rfl) (fun _ _ _ h => h) (Or.inl ⟨by rfl, ?_⟩) ?_ ?_
            rotate_left
            · intro w'
              go_simp
              with_reducible rfl
            rotate_left
            · simp only [Act.put, List.setIfInBounds_toArray, List.set_cons_zero, List.set_cons_succ, i64_w, i32_w]
              rfl
            refine pure_ (i := 23) (N := some 75) (v := ?_) (a' := ?_) #[true, true, true, true, true, true, true, true, true, true, true, true, true, true, true, true, true, true, true, true, true, true, true, true, false, false, false, false, false, false, false] rfl rfl (by kernel_rfl) (fun _ _ _ h => h) (Or.inl ⟨by rfl, ?_⟩) ?_ ?_
            rotate_left
            · intro w'
              go_simp
              with_reducible rfl
            rotate_left
            · simp only [Act.put, List.setIfInBounds_toArray, List.set_cons_zero, List.set_cons_succ, i64_w, i32_w]
              rfl
            refine pure_ (i := 24) (N := some 76) (v := ?_) (a' := ?_) #[true, true, true, true, true, true, true, true, true, true, true, true, true, true, true, true, true, true, true, true, true, true, true, true, true, false, false, false, false, false, false] rfl rfl (by kernel_rfl) (fun _ _ _ h => h) (Or.inl ⟨by rfl, ?_⟩) ?_ ?_
            rotate_left
            · intro w'
              go_simp
              with_reducible rfl
            rotate_left
            · simp only [Act.put, List.setIfInBounds_toArray, List.set_cons_zero, List.set_cons_succ, i64_w, i32_w]
              rfl
            refine pure_ (i := 25) (N := some 77) (v := ?_) (a' := ?_) #[true, true, true, true, true, true, true, true, true, true, true, true, true, true, true, true, true, true, true, true, true, true, true, true, true, true, false, false, false, false, false] rfl rfl (by kernel_rfl) (fun _ _ _ h => h) (Or.inl ⟨by rfl, ?_⟩) ?_ ?_
            rotate_left
            · intro w'
              go_simp
              with_reducible rfl
            rotate_left
            · simp only [Act.put, List.setIfInBounds_toArray, List.set_cons_zero, List.set_cons_succ, i64_w, i32_w]
              rfl
            refine pure_ (i := 26) (N := some 78) (v := ?_) (a' := ?_) #[true, true, true, true, true, true, true, true, true, true, true, true, true, true, true, true, true, true, true, true, true, true, true, true, true, true, true, false, false, false, false] rfl rfl (by kernel_rfl) (fun _ _ _ h => h) (Or.inl ⟨by rfl, ?_⟩) ?_ ?_
            rotate_left
            · intro w'
              go_simp
              with_reducible rfl
            rotate_left
            · simp only [Act.put, List.setIfInBounds_toArray, List.set_cons_zero, List.set_cons_succ, i64_w, i32_w]
              rfl
            refine take_ (i := 27) (N := some 79) (v := ?_) (a' := ?_) #[true, true, true, true, true, true, true, true, true, true, true, true, true, true, true, true, true, true, true, true, true, true, true, true, true, true, true, true, false, false, false] rfl rfl (by kernel_rfl) (fun _ _ _ h => h) (Or.inl ⟨by rfl, ?_⟩) hHeld ?_ ?_
            rotate_left
            · intro w' hS
              have z0 := hS
              go_simp
              with_reducible rfl
            rotate_left
            · simp only [Act.put, List.setIfInBounds_toArray, List.set_cons_zero, List.set_cons_succ, i64_w, i32_w]
              rfl
            obtain ⟨G, hg1, hg2, hg3, hg4⟩ := HO8.out.dev
            have HG := Lib.hid (And.intro hg2 (And.intro hg3 hg4))
            have HBA := Lib.hid (rbarrier_any hg1 (by have := HO8.out.late; omega))
            rw [HB2.out] at HBA
            clear hg1 hg2 hg3 hg4
            refine one_ (i := 28) (N := some 80) #[true, true, true, true, true, true, true, true, true, true, true, true, true, true, true, true, true, true, true, true, true, true, true, true, true, true, true, true, true, false, false] rfl rfl (by kernel_rfl) (by decide) (fun K hK => ?_)
            refine goes_ Try.func55 (by kernel_rfl) rfl #[.pointer (some ⟨p, 0, none⟩)] (by rfl) rfl rfl (by (try simp only [List.map_toArray, List.map_cons, List.map_nil]); first | done | rfl) ?_
            refine (HBA.out).mono ?_
            rintro e w9 ⟨rfl, hd, hf⟩
            have HO9 := Lib.hid (HO8.out.step hqw HG.out.1 HG.out.2.1 HG.out.2.2 hd hf (barrier_late HB2.out))
            clear hd hf HG
            refine ⟨_, rfl, ?_⟩
            refine hK.out _ _ ((HLQ.out.keep HO9.out.fr HQF.out).cell0) (fun hHeld => ?_)
            clear hK K
            refine norm_ (a' := ?_) ?_ ?_
            rotate_left
            · show Act.put _ (some 80) _ = _
              simp only [Act.put, List.setIfInBounds_toArray, List.set_cons_zero, List.set_cons_succ, i64_w, i32_w]
              rfl
            refine pure_ (i := 29) (N := some 81) (v := ?_) (a' := ?_) #[true, true, true, true, true, true, true, true, true, true, true, true, true, true, true, true, true, true, true, true, true, true, true, true, true, true, true, true, true, true, false] rfl rfl (by kernel_rfl) (fun _ _ _ h => h) (Or.inl ⟨by rfl, ?_⟩) ?_ ?_
            rotate_left
            · intro w'
              go_simp
              with_reducible rfl
            rotate_left
            · simp only [Act.put, List.setIfInBounds_toArray, List.set_cons_zero, List.set_cons_succ, i64_w, i32_w]
              rfl
            refine pure_ (i := 30) (N := some 82) (v := ?_) (a' := ?_) #[true, true, true, true, true, true, true, true, true, true, true, true, true, true, true, true, true, true, true, true, true, true, true, true, true, true, true, true, true, true, true] rfl rfl (by kernel_rfl) (fun _ _ _ h => h) (Or.inl ⟨by rfl, ?_⟩) ?_ ?_
            rotate_left
            · intro w'
              go_simp
              with_reducible rfl
            rotate_left
            · simp only [Act.put, List.setIfInBounds_toArray, List.set_cons_zero, List.set_cons_succ, i64_w, i32_w]
              rfl
            refine done_ (by kernel_rfl) ?_
            go_wp2_with fail
            go_loopw [9] (fun s9 wr => ∃ (i : Nat), i ≤ b.length ∧ s9 = .int .i64 (i : Int) ∧ ∃ d', Hid (RCSt F w wr p q (.slice a8 b.length c8) (L b.length) d d' (b.length + 1 + 1 + 1 + i)) ∧ Hid (R = U i d')) (fun s9 _ => b.length - (intOf s9).toNat)
            case atStart => exact ⟨0, Nat.zero_le _, by simp, d2, HO9, Lib.hid (by rw [HRX4.out, HP.out.k4])⟩
            case round =>
              clear HO9 HRX4 HB1 HB2 HWT HRX1
              obtain ⟨i, hi, rfl, d', HO, HRX⟩ := hrel
              by_cases hil : i < b.length
              · have hil' : ((i : Int) < (b.length : Int)) = True := eq_true (by omega)
                obtain ⟨blk, off, hAA, hbw, hcs0⟩ := HA.out i hil
                subst hAA
                obtain ⟨x, hx⟩ : ∃ x, b[i] = x := ⟨_, rfl⟩
                rw [hx] at hcs0
                have HFB := Lib.hid (HAF.out _ rfl)
                have HBW := Lib.hid hbw
                have hfx := HFT.out i hil
                rw [hx] at hfx
                have hex := HP.out.ent i hil
                rw [hx] at hex
                have hhx := HP.out.home i hil
                rw [hx] at hhx
                obtain ⟨xa, xs⟩ := x
                simp only at hfx hex hhx
                obtain ⟨hx0, hx1, hx2⟩ := hfx
                obtain ⟨xn, rfl⟩ := Int.eq_ofNat_of_zero_le hx0
                have HX := Lib.hid ((show XAt w blk (off + i * 2) (xn : Int) xs from ⟨hbw, hcs0 0 _ rfl, hcs0 1 _ rfl⟩).keep HO.out.fr HFB.out)
                have hxn : xn < 1000 := by omega
                have HHX := Lib.hid hhx
                have hei : pad (num4 (41 + xn) ++ num4 (last + 1) ++ xs) = E i := by rw [hex]; unfold WalL.ent; rw [show (41 + (xn : Int)).toNat = 41 + xn by omega]
                obtain ⟨ei, heq⟩ : ∃ ei, E i = ei := ⟨_, rfl⟩
                rw [heq] at hei
                have HEI := Lib.hid heq
                have HI := Lib.hid (show i < b.length from hil)
                have hw1 : IntKind.i64.wrap (41 + (xn : Int)) = 41 + (xn : Int) := by rw [IntKind.wrap_i64]; omega
                have hw2 : IntKind.u32.wrap (41 + (xn : Int)) = 41 + (xn : Int) := by rw [IntKind.wrap_u32]; omega
                have hw3 : (41 + (xn : Int)) % 4294967296 = 41 + (xn : Int) := by omega
                have hw4 : IntKind.i64.wrap (1 + (i : Int)) = 1 + (i : Int) := by rw [IntKind.wrap_i64]; omega
                have HPAD := Lib.hid (fun W => (show Calls Try.prog 66 #[.string (num4 (41 + xn) ++ num4 (last + 1) ++ xs)] W fun e w' => e = .returned (.string ei) ∧ Below W.heap.size W w' by rw [← hei]; exact fill_calls _ (by rw [ByteArray.size_append, ByteArray.size_append, num4_size, num4_size]; omega) W))
                have HNUM := Lib.hid (fun W => (show Calls Try.prog 67 #[.int .u32 (41 + (xn : Int))] W fun e w' => e = .returned (.string (num4 (41 + xn))) ∧ Below W.heap.size W w' by have := number_calls (41 + xn) (by omega) W; rw [show ((41 + xn : Nat) : Int) = 41 + (xn : Int) by omega] at this; exact this))
                clear hx hcs0 hhx hex hei heq hbw
                obtain ⟨g, cg, eg, c1⟩ := srow_get HO.out.row i (by rw [HL.out.1]; exact HI.out)
                simp only [Value.slice.injEq, true_and] at eg
                obtain ⟨rfl, -, -⟩ := eg
                have HLI := Lib.hid (show (L b.length)[i]? = some ei by rw [HL.out.2.2.2 _ _ HI.out, HEI.out])
                replace c1 := cellS (n := b.length) (cp := c8) HO.out.row HLI.out
                have c0 := (HLQ.out.keep HO.out.fr HQF.out).cell0
                go_wp2_with fail
                refine start_ (n := 16) (S := fun w' => w'.cell? ⟨q, 0, none⟩ = some (.pointer (some ⟨p, 0, none⟩)) ∧ w'.cell? ⟨g, i, none⟩ = some (.string ei) ∧ XAt w' blk (off + i * 2) (xn : Int) xs) (ds := []) #[false, false, false, false, false, false, false, false, false, false, false, false, false, false, false, false] (by kernel_rfl) rfl rfl (⟨c0, c1, HX.out.below (Below.refl _ _).drew⟩) (fun hHeld => ?_)
                have HO12 := Lib.hid (HO.out.below (Below.refl wr.heap.size wr).drew)
                have HX12 := Lib.hid (HX.out.below (Below.refl wr.heap.size wr).drew)
                generalize wr.drew = w12 at HO12 HX12 hHeld ⊢
                clear c0 c1
                obtain ⟨G, hg1, hg2, hg3, hg4⟩ := HO12.out.dev
                have HGB := Lib.hid (show ¬ G blk from fun h => (hg2 blk h).elim HFB.out (fun a => by have := HBW.out; omega))
                have HG := Lib.hid (And.intro hg2 (And.intro hg3 hg4))
                have HWR := Lib.hid (rwrite_any hg1 (41 + (xn : Int)) ei (by have := HO12.out.late; omega))
                clear hg1 hg2 hg3 hg4
                obtain ⟨⟨ew, dw⟩, hdw⟩ : ∃ r, d'.write (41 + (xn : Int)) ei = r := ⟨_, rfl⟩
                rw [hdw] at HWR
                have HWT := Lib.hid hdw
                clear hdw
                refine pure_ (i := 0) (N := some 89) (v := ?_) (a' := ?_) #[true, false, false, false, false, false, false, false, false, false, false, false, false, false, false, false] rfl rfl (by kernel_rfl) (fun _ _ _ h => h) (Or.inl ⟨by rfl, ?_⟩) ?_ ?_
                rotate_left
                · intro w'
                  go_simp
                  with_reducible rfl
                rotate_left
                · simp only [Act.put, List.setIfInBounds_toArray, List.set_cons_zero, List.set_cons_succ, i64_w, i32_w]
                  rfl
                refine pure_ (i := 1) (N := some 90) (v := ?_) (a' := ?_) #[true, true, false, false, false, false, false, false, false, false, false, false, false, false, false, false] rfl rfl (by kernel_rfl) (fun _ _ _ h => h) (Or.inl ⟨by rfl, ?_⟩) ?_ ?_
                rotate_left
                · intro w'
                  go_simp
                  with_reducible rfl
                rotate_left
                · simp only [Act.put, List.setIfInBounds_toArray, List.set_cons_zero, List.set_cons_succ, i64_w, i32_w]
                  rfl
                refine pure_ (i := 2) (N := some 91) (v := ?_) (a' := ?_) #[true, true, true, false, false, false, false, false, false, false, false, false, false, false, false, false] rfl rfl (by kernel_rfl) (fun _ _ _ h => h) (Or.inl ⟨by rfl, ?_⟩) ?_ ?_
                rotate_left
                · intro w'
                  go_simp
                  with_reducible rfl
                rotate_left
                · simp only [Act.put, List.setIfInBounds_toArray, List.set_cons_zero, List.set_cons_succ, i64_w, i32_w]
                  rfl
                refine take_ (i := 3) (N := some 92) (v := ?_) (a' := ?_) #[true, true, true, true, false, false, false, false, false, false, false, false, false, false, false, false] rfl rfl (by kernel_rfl) (fun _ _ _ h => h) (Or.inl ⟨by rfl, ?_⟩) hHeld ?_ ?_
                rotate_left
                · intro w' hS
                  have z0 := hS.1
                  go_simp
                  with_reducible rfl
                rotate_left
                · simp only [Act.put, List.setIfInBounds_toArray, List.set_cons_zero, List.set_cons_succ, i64_w, i32_w]
                  rfl
                refine pure_ (i := 4) (N := some 93) (v := ?_) (a' := ?_) #[true, true, true, true, true, false, false, false, false, false, false, false, false, false, false, false] rfl rfl (by kernel_rfl) (fun _ _ _ h => h) (Or.inl ⟨by rfl, ?_⟩) ?_ ?_
                rotate_left
                · intro w'
                  go_simp
                  with_reducible rfl
                rotate_left
                · simp only [Act.put, List.setIfInBounds_toArray, List.set_cons_zero, List.set_cons_succ, i64_w, i32_w]
                  rfl
                refine pure_ (i := 5) (N := some 94) (v := ?_) (a' := ?_) #[true, true, true, true, true, true, false, false, false, false, false, false, false, false, false, false] rfl rfl (by kernel_rfl) (fun _ _ _ h => h) (Or.inl ⟨by rfl, ?_⟩) ?_ ?_
                rotate_left
                · intro w'
                  go_simp
                  with_reducible rfl
                rotate_left
                · simp only [Act.put, List.setIfInBounds_toArray, List.set_cons_zero, List.set_cons_succ, i64_w, i32_w]
                  rfl
                refine pure_ (i := 6) (N := some 95) (v := ?_) (a' := ?_) #[true, true, true, true, true, true, true, false, false, false, false, false, false, false, false, false] rfl rfl (by kernel_rfl) (fun _ _ _ h => h) (Or.inl ⟨by rfl, ?_⟩) ?_ ?_
                rotate_left
                · intro w'
                  go_simp
                  with_reducible rfl
                rotate_left
                · simp only [Act.put, List.setIfInBounds_toArray, List.set_cons_zero, List.set_cons_succ, i64_w, i32_w]
                  rfl
                refine pure_ (i := 7) (N := some 96) (v := ?_) (a' := ?_) #[true, true, true, true, true, true, true, true, false, false, false, false, false, false, false, false] rfl rfl (by kernel_rfl) (fun _ _ _ h => h) (Or.inl ⟨by rfl, ?_⟩) ?_ ?_
                rotate_left
                · intro w'
                  go_simp
                  with_reducible rfl
                rotate_left
                · simp only [Act.put, List.setIfInBounds_toArray, List.set_cons_zero, List.set_cons_succ, i64_w, i32_w]
                  rfl
                refine take_ (i := 8) (N := some 97) (v := ?_) (a' := ?_) #[true, true, true, true, true, true, true, true, true, false, false, false, false, false, false, false] rfl rfl (by kernel_rfl) (fun _ _ _ h => h) (Or.inl ⟨by rfl, ?_⟩) hHeld ?_ ?_
                rotate_left
                · intro w' hS
                  have z0 := hS.2.2.2.1
                  go_simp
                  with_reducible rfl
                rotate_left
                · simp only [Act.put, List.setIfInBounds_toArray, List.set_cons_zero, List.set_cons_succ, i64_w, i32_w]
                  rfl
                refine pure_ (i := 9) (N := some 98) (v := ?_) (a' := ?_) #[true, true, true, true, true, true, true, true, true, true, false, false, false, false, false, false] rfl rfl (by kernel_rfl) (fun _ _ _ h => h) (Or.inl ⟨by rfl, ?_⟩) ?_ ?_
                rotate_left
                · intro w'
                  go_simp
                  with_reducible rfl
                rotate_left
                · simp only [Act.put, List.setIfInBounds_toArray, List.set_cons_zero, List.set_cons_succ, i64_w, i32_w]
                  rfl
                refine pure_ (i := 10) (N := some 99) (v := ?_) (a' := ?_) #[true, true, true, true, true, true, true, true, true, true, true, false, false, false, false, false] rfl rfl (by kernel_rfl) (fun _ _ _ h => h) (Or.inl ⟨by rfl, ?_⟩) ?_ ?_
                rotate_left
                · intro w'
                  go_simp
                  with_reducible rfl
                rotate_left
                · simp only [Act.put, List.setIfInBounds_toArray, List.set_cons_zero, List.set_cons_succ, i64_w, i32_w]
                  rfl
                refine pure_ (i := 11) (N := some 100) (v := ?_) (a' := ?_) #[true, true, true, true, true, true, true, true, true, true, true, true, false, false, false, false] rfl rfl (by kernel_rfl) (fun _ _ _ h => h) (Or.inl ⟨by rfl, ?_⟩) ?_ ?_
                rotate_left
                · intro w'
                  go_simp
                  with_reducible rfl
                rotate_left
                · simp only [Act.put, List.setIfInBounds_toArray, List.set_cons_zero, List.set_cons_succ, i64_w, i32_w]
                  rfl
                refine pure_ (i := 12) (N := some 101) (v := ?_) (a' := ?_) #[true, true, true, true, true, true, true, true, true, true, true, true, true, false, false, false] rfl rfl (by kernel_rfl) (fun _ _ _ h => h) (Or.inl ⟨by rfl, ?_⟩) ?_ ?_
                rotate_left
                · intro w'
                  go_simp
                  with_reducible rfl
                rotate_left
                · simp only [Act.put, List.setIfInBounds_toArray, List.set_cons_zero, List.set_cons_succ, i64_w, i32_w]
                  rfl
                refine take_ (i := 13) (N := some 102) (v := ?_) (a' := ?_) #[true, true, true, true, true, true, true, true, true, true, true, true, true, true, false, false] rfl rfl (by kernel_rfl) (fun _ _ _ h => h) (Or.inl ⟨by rfl, ?_⟩) hHeld ?_ ?_
                rotate_left
                · intro w' hS
                  have z0 := hS.2.1
                  go_simp
                  with_reducible rfl
                rotate_left
                · simp only [Act.put, List.setIfInBounds_toArray, List.set_cons_zero, List.set_cons_succ, i64_w, i32_w]
                  rfl
                refine one_ (i := 14) (N := some 103) #[true, true, true, true, true, true, true, true, true, true, true, true, true, true, true, false] rfl rfl (by kernel_rfl) (by decide) (fun K hK => ?_)
                refine goes_ Try.func44 (by kernel_rfl) rfl #[.pointer (some ⟨p, 0, none⟩), .int .i64 (41 + (xn : Int)), .string ei] (by rfl) rfl rfl (by (try simp only [List.map_toArray, List.map_cons, List.map_nil]); first | done | rfl) ?_
                refine (HWR.out).mono ?_
                rintro e w13 ⟨rfl, hd, hf⟩
                have HO13 := Lib.hid (HO12.out.step hqw HG.out.1 HG.out.2.1 HG.out.2.2 hd hf (write_late' HWT.out))
                have HX13 := Lib.hid (HX12.out.keep hf HGB.out)
                clear hd hf HG
                refine ⟨_, rfl, ?_⟩
                refine hK.out _ _ ⟨(HLQ.out.keep HO13.out.fr HQF.out).cell0, cellS HO13.out.row HLI.out, HX13.out⟩ (fun hHeld => ?_)
                clear hK K
                refine norm_ (a' := ?_) ?_ ?_
                rotate_left
                · show Act.put _ (some 103) _ = _
                  simp only [Act.put, List.setIfInBounds_toArray, List.set_cons_zero, List.set_cons_succ, i64_w, i32_w]
                  rfl
                refine pure_ (i := 15) (N := some 104) (v := ?_) (a' := ?_) #[true, true, true, true, true, true, true, true, true, true, true, true, true, true, true, true] rfl rfl (by kernel_rfl) (fun _ _ _ h => h) (Or.inl ⟨by rfl, ?_⟩) ?_ ?_
                rotate_left
                · intro w'
                  go_simp
                  with_reducible rfl
                rotate_left
                · simp only [Act.put, List.setIfInBounds_toArray, List.set_cons_zero, List.set_cons_succ, i64_w, i32_w]
                  rfl
                refine done_ (by kernel_rfl) ?_
                have HRT := Lib.hid (show R = andThen (ew, dw) (U (i + 1)) by rw [HRX.out, HHX.out, HEI.out, HWT.out])
                clear HWT HO12 HRX HX12 HX13 HX
                by_cases he0 : ew = 0
                · subst he0
                  have HRY := Lib.hid (show R = U (i + 1) dw by rw [HRT.out, andThen_ok])
                  clear HRT
                  go_wp2
                  go_roundw
                  case rel => exact ⟨i + 1, by omega, by first | rfl | go_num, dw, HO13, HRY⟩
                  case measure => simp [intOf]; omega
                · have he0' : (ew = 0) = False := eq_false he0
                  have HRY := Lib.hid (show R = (ew, dw) by rw [HRT.out, andThen_no he0])
                  clear HRT
                  go_wp2
                  go_ret
                  rw [HRY.out]
                  exact HO13.out.died he0
              · have hil' : ((i : Int) < (b.length : Int)) = False := eq_false (by omega)
                obtain rfl : i = b.length := by omega
                have c0 := (HLQ.out.keep HO.out.fr HQF.out).cell0
                have hrx : R = d'.barrier := by rw [HRX.out, HP.out.hend]
                obtain ⟨⟨ew, d3⟩, hdw⟩ : ∃ r, d'.barrier = r := ⟨_, rfl⟩
                rw [hdw] at hrx
                have HRY := Lib.hid hrx
                obtain ⟨G, hg1, hg2, hg3, hg4⟩ := HO.out.dev
                have HG := Lib.hid (And.intro hg2 (And.intro hg3 hg4))
                have HBA := Lib.hid (rbarrier_any hg1 (by have := HO.out.late; omega))
                rw [hdw] at HBA
                have HBT := Lib.hid hdw
                clear hdw hg1 hg2 hg3 hg4 HRX hrx
                go_wp2_with fail
                refine HBA.out.mono ?_
                rintro e w9 ⟨rfl, hd, hf⟩
                have HO9 := Lib.hid (HO.out.step hqw HG.out.1 HG.out.2.1 HG.out.2.2 hd hf (barrier_late HBT.out))
                clear hd hf HG HBA HBT c0
                by_cases he0 : ew = 0
                · subst he0
                  go_wp2
                  go_ret
                  rw [HRY.out]
                  exact HO9.out.done
                · have he0' : (ew = 0) = False := eq_false he0
                  go_wp2
                  go_ret
                  rw [HRY.out]
                  refine (show rstepsPost F w w9 p q (ew, d3) (.returned (.bool (ew == 0))) from ?_)
                  rw [show (ew == 0) = false from beq_false_of_ne he0]
                  exact HO9.out.died he0
          · have he0' : (e2 = 0) = False := eq_false he0
            have HRY := Lib.hid (show R = (e2, d2) by rw [hrx3, HP.out.k3, HB2.out, andThen_no he0])
            clear hrx2 hrx3
            go_wp2_with fail
            refine start_ (n := 31) (S := fun w' => w'.cell? ⟨q, 0, none⟩ = some (.pointer (some ⟨p, 0, none⟩))) (ds := []) #[false, false, false, false, false, false, false, false, false, false, false, false, false, false, false, false, false, false, false, false, false, false, false, false, false, false, false, false, false, false, false] (by kernel_rfl) rfl rfl (c0) (fun hHeld => ?_)
            have HO2 := Lib.hid (HO.out.below (Below.refl wr.heap.size wr).drew)
            generalize wr.drew = w2 at HO2 hHeld ⊢
            clear c0
            refine pure_ (i := 0) (N := some 52) (v := ?_) (a' := ?_) #[true, false, false, false, false, false, false, false, false, false, false, false, false, false, false, false, false, false, false, false, false, false, false, false, false, false, false, false, false, false, false] rfl rfl (by kernel_rfl) (fun _ _ _ h => h) (Or.inl ⟨by rfl, ?_⟩) ?_ ?_
            rotate_left
            · intro w'
              go_simp
              with_reducible rfl
            rotate_left
            · simp only [Act.put, List.setIfInBounds_toArray, List.set_cons_zero, List.set_cons_succ, i64_w, i32_w]
              rfl
            refine pure_ (i := 1) (N := some 53) (v := ?_) (a' := ?_) #[true, true, false, false, false, false, false, false, false, false, false, false, false, false, false, false, false, false, false, false, false, false, false, false, false, false, false, false, false, false, false] rfl rfl (by kernel_rfl) (fun _ _ _ h => h) (Or.inl ⟨by rfl, ?_⟩) ?_ ?_
            rotate_left
            · intro w'
              go_simp
              with_reducible rfl
            rotate_left
            · simp only [Act.put, List.setIfInBounds_toArray, List.set_cons_zero, List.set_cons_succ, i64_w, i32_w]
              rfl
            refine pure_ (i := 2) (N := some 54) (v := ?_) (a' := ?_) #[true, true, true, false, false, false, false, false, false, false, false, false, false, false, false, false, false, false, false, false, false, false, false, false, false, false, false, false, false, false, false] rfl rfl (by kernel_rfl) (fun _ _ _ h => h) (Or.inl ⟨by rfl, ?_⟩) ?_ ?_
            rotate_left
            · intro w'
              go_simp
              with_reducible rfl
            rotate_left
            · simp only [Act.put, List.setIfInBounds_toArray, List.set_cons_zero, List.set_cons_succ, i64_w, i32_w]
              rfl
            refine take_ (i := 3) (N := some 55) (v := ?_) (a' := ?_) #[true, true, true, true, false, false, false, false, false, false, false, false, false, false, false, false, false, false, false, false, false, false, false, false, false, false, false, false, false, false, false] rfl rfl (by kernel_rfl) (fun _ _ _ h => h) (Or.inl ⟨by rfl, ?_⟩) hHeld ?_ ?_
            rotate_left
            · intro w' hS
              have z0 := hS
              go_simp
              with_reducible rfl
            rotate_left
            · simp only [Act.put, List.setIfInBounds_toArray, List.set_cons_zero, List.set_cons_succ, i64_w, i32_w]
              rfl
            obtain ⟨G, hg1, hg2, hg3, hg4⟩ := HO2.out.dev
            have HG := Lib.hid (And.intro hg2 (And.intro hg3 hg4))
            have HBA := Lib.hid (rbarrier_any hg1 (by have := HO2.out.late; omega))
            rw [HB1.out] at HBA
            clear hg1 hg2 hg3 hg4
            refine one_ (i := 4) (N := some 56) #[true, true, true, true, true, false, false, false, false, false, false, false, false, false, false, false, false, false, false, false, false, false, false, false, false, false, false, false, false, false, false] rfl rfl (by kernel_rfl) (by decide) (fun K hK => ?_)
            refine goes_ Try.func55 (by kernel_rfl) rfl #[.pointer (some ⟨p, 0, none⟩)] (by rfl) rfl rfl (by (try simp only [List.map_toArray, List.map_cons, List.map_nil]); first | done | rfl) ?_
            refine (HBA.out).mono ?_
            rintro e w3 ⟨rfl, hd, hf⟩
            have HO3 := Lib.hid (HO2.out.step hqw HG.out.1 HG.out.2.1 HG.out.2.2 hd hf (barrier_late HB1.out))
            clear hd hf HG
            refine ⟨_, rfl, ?_⟩
            refine hK.out _ _ ((HLQ.out.keep HO3.out.fr HQF.out).cell0) (fun hHeld => ?_)
            clear hK K
            refine norm_ (a' := ?_) ?_ ?_
            rotate_left
            · show Act.put _ (some 56) _ = _
              simp only [Act.put, List.setIfInBounds_toArray, List.set_cons_zero, List.set_cons_succ, i64_w, i32_w]
              rfl
            refine pure_ (i := 5) (N := some 57) (v := ?_) (a' := ?_) #[true, true, true, true, true, true, false, false, false, false, false, false, false, false, false, false, false, false, false, false, false, false, false, false, false, false, false, false, false, false, false] rfl rfl (by kernel_rfl) (fun _ _ _ h => h) (Or.inl ⟨by rfl, ?_⟩) ?_ ?_
            rotate_left
            · intro w'
              go_simp
              with_reducible rfl
            rotate_left
            · simp only [Act.put, List.setIfInBounds_toArray, List.set_cons_zero, List.set_cons_succ, i64_w, i32_w]
              rfl
            refine pure_ (i := 6) (N := some 58) (v := ?_) (a' := ?_) #[true, true, true, true, true, true, true, false, false, false, false, false, false, false, false, false, false, false, false, false, false, false, false, false, false, false, false, false, false, false, false] rfl rfl (by kernel_rfl) (fun _ _ _ h => h) (Or.inl ⟨by rfl, ?_⟩) ?_ ?_
            rotate_left
            · intro w'
              go_simp
              with_reducible rfl
            rotate_left
            · simp only [Act.put, List.setIfInBounds_toArray, List.set_cons_zero, List.set_cons_succ, i64_w, i32_w]
              rfl
            refine pure_ (i := 7) (N := some 59) (v := ?_) (a' := ?_) #[true, true, true, true, true, true, true, true, false, false, false, false, false, false, false, false, false, false, false, false, false, false, false, false, false, false, false, false, false, false, false] rfl rfl (by kernel_rfl) (fun _ _ _ h => h) (Or.inl ⟨by rfl, ?_⟩) ?_ ?_
            rotate_left
            · intro w'
              go_simp
              with_reducible rfl
            rotate_left
            · simp only [Act.put, List.setIfInBounds_toArray, List.set_cons_zero, List.set_cons_succ, i64_w, i32_w]
              rfl
            refine pure_ (i := 8) (N := some 60) (v := ?_) (a' := ?_) #[true, true, true, true, true, true, true, true, true, false, false, false, false, false, false, false, false, false, false, false, false, false, false, false, false, false, false, false, false, false, false] rfl rfl (by kernel_rfl) (fun _ _ _ h => h) (Or.inl ⟨by rfl, ?_⟩) ?_ ?_
            rotate_left
            · intro w'
              go_simp
              with_reducible rfl
            rotate_left
            · simp only [Act.put, List.setIfInBounds_toArray, List.set_cons_zero, List.set_cons_succ, i64_w, i32_w]
              rfl
            refine pure_ (i := 9) (N := some 61) (v := ?_) (a' := ?_) #[true, true, true, true, true, true, true, true, true, true, false, false, false, false, false, false, false, false, false, false, false, false, false, false, false, false, false, false, false, false, false] rfl rfl (by kernel_rfl) (fun _ _ _ h => h) (Or.inl ⟨by rfl, ?_⟩) ?_ ?_
            rotate_left
            · intro w'
              go_simp
              with_reducible rfl
            rotate_left
            · simp only [Act.put, List.setIfInBounds_toArray, List.set_cons_zero, List.set_cons_succ, i64_w, i32_w]
              rfl
            refine take_ (i := 10) (N := some 62) (v := ?_) (a' := ?_) #[true, true, true, true, true, true, true, true, true, true, true, false, false, false, false, false, false, false, false, false, false, false, false, false, false, false, false, false, false, false, false] rfl rfl (by kernel_rfl) (fun _ _ _ h => h) (Or.inl ⟨by rfl, ?_⟩) hHeld ?_ ?_
            rotate_left
            · intro w' hS
              have z0 := hS
              go_simp
              with_reducible rfl
            rotate_left
            · simp only [Act.put, List.setIfInBounds_toArray, List.set_cons_zero, List.set_cons_succ, i64_w, i32_w]
              rfl
            refine pure_ (i := 11) (N := some 63) (v := ?_) (a' := ?_) #[true, true, true, true, true, true, true, true, true, true, true, true, false, false, false, false, false, false, false, false, false, false, false, false, false, false, false, false, false, false, false] rfl rfl (by kernel_rfl) (fun _ _ _ h => h) (Or.inl ⟨by rfl, ?_⟩) ?_ ?_
            rotate_left
            · intro w'
              go_simp
              with_reducible rfl
            rotate_left
            · simp only [Act.put, List.setIfInBounds_toArray, List.set_cons_zero, List.set_cons_succ, i64_w, i32_w]
              rfl
            refine pure_ (i := 14) (N := some 66) (v := ?_) (a' := ?_) #[true, true, true, true, true, true, true, true, true, true, true, true, false, false, true, false, false, false, false, false, false, false, false, false, false, false, false, false, false, false, false] rfl rfl (by kernel_rfl) (fun _ _ _ h => h) (Or.inl ⟨by rfl, ?_⟩) ?_ ?_
            rotate_left
            · intro w'
              go_simp
              with_reducible rfl
            rotate_left
            · simp only [Act.put, List.setIfInBounds_toArray, List.set_cons_zero, List.set_cons_succ, i64_w, i32_w]
              rfl
            refine pure_ (i := 15) (N := some 67) (v := ?_) (a' := ?_) #[true, true, true, true, true, true, true, true, true, true, true, true, false, false, true, true, false, false, false, false, false, false, false, false, false, false, false, false, false, false, false] rfl rfl (by kernel_rfl) (fun _ _ _ h => h) (Or.inl ⟨by rfl, ?_⟩) ?_ ?_
            rotate_left
            · intro w'
              go_simp
              with_reducible rfl
            rotate_left
            · simp only [Act.put, List.setIfInBounds_toArray, List.set_cons_zero, List.set_cons_succ, i64_w, i32_w]
              rfl
            refine pure_ (i := 16) (N := some 68) (v := ?_) (a' := ?_) #[true, true, true, true, true, true, true, true, true, true, true, true, false, false, true, true, true, false, false, false, false, false, false, false, false, false, false, false, false, false, false] rfl rfl (by kernel_rfl) (fun _ _ _ h => h) (Or.inl ⟨by rfl, ?_⟩) ?_ ?_
            rotate_left
            · intro w'
              go_simp
              with_reducible rfl
            rotate_left
            · simp only [Act.put, List.setIfInBounds_toArray, List.set_cons_zero, List.set_cons_succ, i64_w, i32_w]
              rfl
            refine one_ (i := 12) (N := some 64) #[true, true, true, true, true, true, true, true, true, true, true, true, true, false, true, true, true, false, false, false, false, false, false, false, false, false, false, false, false, false, false] rfl rfl (by kernel_rfl) (by decide) (fun K hK => ?_)
            refine goes_ Try.func67 (by kernel_rfl) rfl #[.int .u32 ((last : Int) + 1)] (by rfl) rfl rfl (by (try simp only [List.map_toArray, List.map_cons, List.map_nil]); first | done | rfl) ?_
            refine (HNUMN.out _).mono ?_
            rintro e w4 ⟨rfl, hb⟩
            refine ⟨_, rfl, ?_⟩
            have HO4 := Lib.hid (HO3.out.below hb)
            clear hb
            refine hK.out _ _ ((HLQ.out.keep HO4.out.fr HQF.out).cell0) (fun hHeld => ?_)
            clear hK K
            refine norm_ (a' := ?_) ?_ ?_
            rotate_left
            · show Act.put _ (some 64) _ = _
              simp only [Act.put, List.setIfInBounds_toArray, List.set_cons_zero, List.set_cons_succ, i64_w, i32_w]
              rfl
            refine pure_ (i := 13) (N := some 65) (v := ?_) (a' := ?_) #[true, true, true, true, true, true, true, true, true, true, true, true, true, true, true, true, true, false, false, false, false, false, false, false, false, false, false, false, false, false, false] rfl rfl (by kernel_rfl) (fun _ _ _ h => h) (Or.inl ⟨by rfl, ?_⟩) ?_ ?_
            rotate_left
            · intro w'
              have hcat : (9223372036854775807 < 4 + (num4 (last + 1)).size) = False := eq_false (by rw [num4_size]; omega)
              go_simp
              with_reducible rfl
            rotate_left
            · simp only [Act.put, List.setIfInBounds_toArray, List.set_cons_zero, List.set_cons_succ, i64_w, i32_w]
              rfl
            refine one_ (i := 17) (N := some 69) #[true, true, true, true, true, true, true, true, true, true, true, true, true, true, true, true, true, true, false, false, false, false, false, false, false, false, false, false, false, false, false] rfl rfl (by kernel_rfl) (by decide) (fun K hK => ?_)
            refine goes_ Try.func67 (by kernel_rfl) rfl #[.int .u32 (b.length : Int)] (by rfl) rfl rfl (by (try simp only [List.map_toArray, List.map_cons, List.map_nil]); first | done | rfl) ?_
            refine (HNUMB.out _).mono ?_
            rintro e w5 ⟨rfl, hb⟩
            refine ⟨_, rfl, ?_⟩
            have HO5 := Lib.hid (HO4.out.below hb)
            clear hb
            refine hK.out _ _ ((HLQ.out.keep HO5.out.fr HQF.out).cell0) (fun hHeld => ?_)
            clear hK K
            refine norm_ (a' := ?_) ?_ ?_
            rotate_left
            · show Act.put _ (some 69) _ = _
              simp only [Act.put, List.setIfInBounds_toArray, List.set_cons_zero, List.set_cons_succ, i64_w, i32_w]
              rfl
            refine pure_ (i := 18) (N := some 70) (v := ?_) (a' := ?_) #[true, true, true, true, true, true, true, true, true, true, true, true, true, true, true, true, true, true, true, false, false, false, false, false, false, false, false, false, false, false, false] rfl rfl (by kernel_rfl) (fun _ _ _ h => h) (Or.inl ⟨by rfl, ?_⟩) ?_ ?_
            rotate_left
            · intro w'
              have hcat : (9223372036854775807 < 4 + (num4 (last + 1)).size + (num4 b.length).size) = False := eq_false (by rw [num4_size, num4_size]; omega)
              go_simp
              with_reducible rfl
            rotate_left
            · simp only [Act.put, List.setIfInBounds_toArray, List.set_cons_zero, List.set_cons_succ, i64_w, i32_w]
              rfl
            refine one_ (i := 19) (N := some 71) #[true, true, true, true, true, true, true, true, true, true, true, true, true, true, true, true, true, true, true, true, false, false, false, false, false, false, false, false, false, false, false] rfl rfl (by kernel_rfl) (by decide) (fun K hK => ?_)
            refine goes_ Try.func66 (by kernel_rfl) rfl #[.string (⟨#[76, 67, 79, 77]⟩ ++ num4 (last + 1) ++ num4 b.length)] (by rfl) rfl rfl (by (try simp only [List.map_toArray, List.map_cons, List.map_nil]); first | done | rfl) ?_
            refine (HPAD2.out _).mono ?_
            rintro e w6 ⟨rfl, hb⟩
            refine ⟨_, rfl, ?_⟩
            have HO6 := Lib.hid (HO5.out.below hb)
            clear hb
            refine hK.out _ _ ((HLQ.out.keep HO6.out.fr HQF.out).cell0) (fun hHeld => ?_)
            clear hK K
            refine norm_ (a' := ?_) ?_ ?_
            rotate_left
            · show Act.put _ (some 71) _ = _
              simp only [Act.put, List.setIfInBounds_toArray, List.set_cons_zero, List.set_cons_succ, i64_w, i32_w]
              rfl
            obtain ⟨G, hg1, hg2, hg3, hg4⟩ := HO6.out.dev
            have HG := Lib.hid (And.intro hg2 (And.intro hg3 hg4))
            have HWR := Lib.hid (rwrite_any hg1 0 M (by have := HO6.out.late; omega))
            rw [HWT.out] at HWR
            clear hg1 hg2 hg3 hg4
            refine one_ (i := 20) (N := some 72) #[true, true, true, true, true, true, true, true, true, true, true, true, true, true, true, true, true, true, true, true, true, false, false, false, false, false, false, false, false, false, false] rfl rfl (by kernel_rfl) (by decide) (fun K hK => ?_)
            refine goes_ Try.func44 (by kernel_rfl) rfl #[.pointer (some ⟨p, 0, none⟩), .int .i64 0, .string M] (by rfl) rfl rfl (by (try simp only [List.map_toArray, List.map_cons, List.map_nil]); first | done | rfl) ?_
            refine (HWR.out).mono ?_
            rintro e w7 ⟨rfl, hd, hf⟩
            have HO8 := Lib.hid (HO6.out.step hqw HG.out.1 HG.out.2.1 HG.out.2.2 hd hf (write_late' HWT.out))
            clear hd hf HG
            refine ⟨_, rfl, ?_⟩
            refine hK.out _ _ ((HLQ.out.keep HO8.out.fr HQF.out).cell0) (fun hHeld => ?_)
            clear hK K
            refine norm_ (a' := ?_) ?_ ?_
            rotate_left
            · show Act.put _ (some 72) _ = _
              simp only [Act.put, List.setIfInBounds_toArray, List.set_cons_zero, List.set_cons_succ, i64_w, i32_w]
              rfl
            refine pure_ (i := 21) (N := some 73) (v := ?_) (a' := ?_) #[true, true, true, true, true, true, true, true, true, true, true, true, true, true, true, true, true, true, true, true, true, true, false, false, false, false, false, false, false, false, false] rfl rfl (by kernel_rfl) (fun _ _ _ h => h) (Or.inl ⟨by rfl, ?_⟩) ?_ ?_
            rotate_left
            · intro w'
              go_simp
              with_reducible rfl
            rotate_left
            · simp only [Act.put, List.setIfInBounds_toArray, List.set_cons_zero, List.set_cons_succ, i64_w, i32_w]
              rfl
            refine pure_ (i := 22) (N := some 74) (v := ?_) (a' := ?_) #[true, true, true, true, true, true, true, true, true, true, true, true, true, true, true, true, true, true, true, true, true, true, true, false, false, false, false, false, false, false, false] rfl rfl (by kernel_rfl) (fun _ _ _ h => h) (Or.inl ⟨by rfl, ?_⟩) ?_ ?_
            rotate_left
            · intro w'
              go_simp
              with_reducible rfl
            rotate_left
            · simp only [Act.put, List.setIfInBounds_toArray, List.set_cons_zero, List.set_cons_succ, i64_w, i32_w]
              rfl
            refine pure_ (i := 23) (N := some 75) (v := ?_) (a' := ?_) #[true, true, true, true, true, true, true, true, true, true, true, true, true, true, true, true, true, true, true, true, true, true, true, true, false, false, false, false, false, false, false] rfl rfl (by kernel_rfl) (fun _ _ _ h => h) (Or.inl ⟨by rfl, ?_⟩) ?_ ?_
            rotate_left
            · intro w'
              go_simp
              with_reducible rfl
            rotate_left
            · simp only [Act.put, List.setIfInBounds_toArray, List.set_cons_zero, List.set_cons_succ, i64_w, i32_w]
              rfl
            refine pure_ (i := 24) (N := some 76) (v := ?_) (a' := ?_) #[true, true, true, true, true, true, true, true, true, true, true, true, true, true, true, true, true, true, true, true, true, true, true, true, true, false, false, false, false, false, false] rfl rfl (by kernel_rfl) (fun _ _ _ h => h) (Or.inl ⟨by rfl, ?_⟩) ?_ ?_
            rotate_left
            · intro w'
              go_simp
              with_reducible rfl
            rotate_left
            · simp only [Act.put, List.setIfInBounds_toArray, List.set_cons_zero, List.set_cons_succ, i64_w, i32_w]
              rfl
            refine pure_ (i := 25) (N := some 77) (v := ?_) (a' := ?_) #[true, true, true, true, true, true, true, true, true, true, true, true, true, true, true, true, true, true, true, true, true, true, true, true, true, true, false, false, false, false, false] rfl rfl (by kernel_rfl) (fun _ _ _ h => h) (Or.inl ⟨by rfl, ?_⟩) ?_ ?_
            rotate_left
            · intro w'
              go_simp
              with_reducible rfl
            rotate_left
            · simp only [Act.put, List.setIfInBounds_toArray, List.set_cons_zero, List.set_cons_succ, i64_w, i32_w]
              rfl
            refine pure_ (i := 26) (N := some 78) (v := ?_) (a' := ?_) #[true, true, true, true, true, true, true, true, true, true, true, true, true, true, true, true, true, true, true, true, true, true, true, true, true, true, true, false, false, false, false] rfl rfl (by kernel_rfl) (fun _ _ _ h => h) (Or.inl ⟨by rfl, ?_⟩) ?_ ?_
            rotate_left
            · intro w'
              go_simp
              with_reducible rfl
            rotate_left
            · simp only [Act.put, List.setIfInBounds_toArray, List.set_cons_zero, List.set_cons_succ, i64_w, i32_w]
              rfl
            refine take_ (i := 27) (N := some 79) (v := ?_) (a' := ?_) #[true, true, true, true, true, true, true, true, true, true, true, true, true, true, true, true, true, true, true, true, true, true, true, true, true, true, true, true, false, false, false] rfl rfl (by kernel_rfl) (fun _ _ _ h => h) (Or.inl ⟨by rfl, ?_⟩) hHeld ?_ ?_
            rotate_left
            · intro w' hS
              have z0 := hS
              go_simp
              with_reducible rfl
            rotate_left
            · simp only [Act.put, List.setIfInBounds_toArray, List.set_cons_zero, List.set_cons_succ, i64_w, i32_w]
              rfl
            obtain ⟨G, hg1, hg2, hg3, hg4⟩ := HO8.out.dev
            have HG := Lib.hid (And.intro hg2 (And.intro hg3 hg4))
            have HBA := Lib.hid (rbarrier_any hg1 (by have := HO8.out.late; omega))
            rw [HB2.out] at HBA
            clear hg1 hg2 hg3 hg4
            refine one_ (i := 28) (N := some 80) #[true, true, true, true, true, true, true, true, true, true, true, true, true, true, true, true, true, true, true, true, true, true, true, true, true, true, true, true, true, false, false] rfl rfl (by kernel_rfl) (by decide) (fun K hK => ?_)
            refine goes_ Try.func55 (by kernel_rfl) rfl #[.pointer (some ⟨p, 0, none⟩)] (by rfl) rfl rfl (by (try simp only [List.map_toArray, List.map_cons, List.map_nil]); first | done | rfl) ?_
            refine (HBA.out).mono ?_
            rintro e w9 ⟨rfl, hd, hf⟩
            have HO9 := Lib.hid (HO8.out.step hqw HG.out.1 HG.out.2.1 HG.out.2.2 hd hf (barrier_late HB2.out))
            clear hd hf HG
            refine ⟨_, rfl, ?_⟩
            refine hK.out _ _ ((HLQ.out.keep HO9.out.fr HQF.out).cell0) (fun hHeld => ?_)
            clear hK K
            refine norm_ (a' := ?_) ?_ ?_
            rotate_left
            · show Act.put _ (some 80) _ = _
              simp only [Act.put, List.setIfInBounds_toArray, List.set_cons_zero, List.set_cons_succ, i64_w, i32_w]
              rfl
            refine pure_ (i := 29) (N := some 81) (v := ?_) (a' := ?_) #[true, true, true, true, true, true, true, true, true, true, true, true, true, true, true, true, true, true, true, true, true, true, true, true, true, true, true, true, true, true, false] rfl rfl (by kernel_rfl) (fun _ _ _ h => h) (Or.inl ⟨by rfl, ?_⟩) ?_ ?_
            rotate_left
            · intro w'
              go_simp
              with_reducible rfl
            rotate_left
            · simp only [Act.put, List.setIfInBounds_toArray, List.set_cons_zero, List.set_cons_succ, i64_w, i32_w]
              rfl
            refine pure_ (i := 30) (N := some 82) (v := ?_) (a' := ?_) #[true, true, true, true, true, true, true, true, true, true, true, true, true, true, true, true, true, true, true, true, true, true, true, true, true, true, true, true, true, true, true] rfl rfl (by kernel_rfl) (fun _ _ _ h => h) (Or.inl ⟨by rfl, ?_⟩) ?_ ?_
            rotate_left
            · intro w'
              go_simp
              with_reducible rfl
            rotate_left
            · simp only [Act.put, List.setIfInBounds_toArray, List.set_cons_zero, List.set_cons_succ, i64_w, i32_w]
              rfl
            refine done_ (by kernel_rfl) ?_
            go_wp2
            go_ret
            rw [HRY.out]
            exact HO9.out.died he0
        · have hew' : (ew = 0) = False := eq_false hew
          have HRY := Lib.hid (show R = (ew, dw) by rw [hrx2, HP.out.k2, HWT.out, andThen_no hew])
          have he0 := hew
          have hbe : (!decide (ew = 0)) = true := by simp [hew]
          have hbe2 : (!(ew == 0)) = true := by simp [hew]
          clear hrx2
          go_wp2_with fail
          refine start_ (n := 31) (S := fun w' => w'.cell? ⟨q, 0, none⟩ = some (.pointer (some ⟨p, 0, none⟩))) (ds := []) #[false, false, false, false, false, false, false, false, false, false, false, false, false, false, false, false, false, false, false, false, false, false, false, false, false, false, false, false, false, false, false] (by kernel_rfl) rfl rfl (c0) (fun hHeld => ?_)
          have HO2 := Lib.hid (HO.out.below (Below.refl wr.heap.size wr).drew)
          generalize wr.drew = w2 at HO2 hHeld ⊢
          clear c0
          refine pure_ (i := 0) (N := some 52) (v := ?_) (a' := ?_) #[true, false, false, false, false, false, false, false, false, false, false, false, false, false, false, false, false, false, false, false, false, false, false, false, false, false, false, false, false, false, false] rfl rfl (by kernel_rfl) (fun _ _ _ h => h) (Or.inl ⟨by rfl, ?_⟩) ?_ ?_
          rotate_left
          · intro w'
            go_simp
            with_reducible rfl
          rotate_left
          · simp only [Act.put, List.setIfInBounds_toArray, List.set_cons_zero, List.set_cons_succ, i64_w, i32_w]
            rfl
          refine pure_ (i := 1) (N := some 53) (v := ?_) (a' := ?_) #[true, true, false, false, false, false, false, false, false, false, false, false, false, false, false, false, false, false, false, false, false, false, false, false, false, false, false, false, false, false, false] rfl rfl (by kernel_rfl) (fun _ _ _ h => h) (Or.inl ⟨by rfl, ?_⟩) ?_ ?_
          rotate_left
          · intro w'
            go_simp
            with_reducible rfl
          rotate_left
          · simp only [Act.put, List.setIfInBounds_toArray, List.set_cons_zero, List.set_cons_succ, i64_w, i32_w]
            rfl
          refine pure_ (i := 2) (N := some 54) (v := ?_) (a' := ?_) #[true, true, true, false, false, false, false, false, false, false, false, false, false, false, false, false, false, false, false, false, false, false, false, false, false, false, false, false, false, false, false] rfl rfl (by kernel_rfl) (fun _ _ _ h => h) (Or.inl ⟨by rfl, ?_⟩) ?_ ?_
          rotate_left
          · intro w'
            go_simp
            with_reducible rfl
          rotate_left
          · simp only [Act.put, List.setIfInBounds_toArray, List.set_cons_zero, List.set_cons_succ, i64_w, i32_w]
            rfl
          refine take_ (i := 3) (N := some 55) (v := ?_) (a' := ?_) #[true, true, true, true, false, false, false, false, false, false, false, false, false, false, false, false, false, false, false, false, false, false, false, false, false, false, false, false, false, false, false] rfl rfl (by kernel_rfl) (fun _ _ _ h => h) (Or.inl ⟨by rfl, ?_⟩) hHeld ?_ ?_
          rotate_left
          · intro w' hS
            have z0 := hS
            go_simp
            with_reducible rfl
          rotate_left
          · simp only [Act.put, List.setIfInBounds_toArray, List.set_cons_zero, List.set_cons_succ, i64_w, i32_w]
            rfl
          obtain ⟨G, hg1, hg2, hg3, hg4⟩ := HO2.out.dev
          have HG := Lib.hid (And.intro hg2 (And.intro hg3 hg4))
          have HBA := Lib.hid (rbarrier_any hg1 (by have := HO2.out.late; omega))
          rw [HB1.out] at HBA
          clear hg1 hg2 hg3 hg4
          refine one_ (i := 4) (N := some 56) #[true, true, true, true, true, false, false, false, false, false, false, false, false, false, false, false, false, false, false, false, false, false, false, false, false, false, false, false, false, false, false] rfl rfl (by kernel_rfl) (by decide) (fun K hK => ?_)
          refine goes_ Try.func55 (by kernel_rfl) rfl #[.pointer (some ⟨p, 0, none⟩)] (by rfl) rfl rfl (by (try simp only [List.map_toArray, List.map_cons, List.map_nil]); first | done | rfl) ?_
          refine (HBA.out).mono ?_
          rintro e w3 ⟨rfl, hd, hf⟩
          have HO3 := Lib.hid (HO2.out.step hqw HG.out.1 HG.out.2.1 HG.out.2.2 hd hf (barrier_late HB1.out))
          clear hd hf HG
          refine ⟨_, rfl, ?_⟩
          refine hK.out _ _ ((HLQ.out.keep HO3.out.fr HQF.out).cell0) (fun hHeld => ?_)
          clear hK K
          refine norm_ (a' := ?_) ?_ ?_
          rotate_left
          · show Act.put _ (some 56) _ = _
            simp only [Act.put, List.setIfInBounds_toArray, List.set_cons_zero, List.set_cons_succ, i64_w, i32_w]
            rfl
          refine pure_ (i := 5) (N := some 57) (v := ?_) (a' := ?_) #[true, true, true, true, true, true, false, false, false, false, false, false, false, false, false, false, false, false, false, false, false, false, false, false, false, false, false, false, false, false, false] rfl rfl (by kernel_rfl) (fun _ _ _ h => h) (Or.inl ⟨by rfl, ?_⟩) ?_ ?_
          rotate_left
          · intro w'
            go_simp
            with_reducible rfl
          rotate_left
          · simp only [Act.put, List.setIfInBounds_toArray, List.set_cons_zero, List.set_cons_succ, i64_w, i32_w]
            rfl
          refine pure_ (i := 6) (N := some 58) (v := ?_) (a' := ?_) #[true, true, true, true, true, true, true, false, false, false, false, false, false, false, false, false, false, false, false, false, false, false, false, false, false, false, false, false, false, false, false] rfl rfl (by kernel_rfl) (fun _ _ _ h => h) (Or.inl ⟨by rfl, ?_⟩) ?_ ?_
          rotate_left
          · intro w'
            go_simp
            with_reducible rfl
          rotate_left
          · simp only [Act.put, List.setIfInBounds_toArray, List.set_cons_zero, List.set_cons_succ, i64_w, i32_w]
            rfl
          refine pure_ (i := 7) (N := some 59) (v := ?_) (a' := ?_) #[true, true, true, true, true, true, true, true, false, false, false, false, false, false, false, false, false, false, false, false, false, false, false, false, false, false, false, false, false, false, false] rfl rfl (by kernel_rfl) (fun _ _ _ h => h) (Or.inl ⟨by rfl, ?_⟩) ?_ ?_
          rotate_left
          · intro w'
            go_simp
            with_reducible rfl
          rotate_left
          · simp only [Act.put, List.setIfInBounds_toArray, List.set_cons_zero, List.set_cons_succ, i64_w, i32_w]
            rfl
          refine pure_ (i := 8) (N := some 60) (v := ?_) (a' := ?_) #[true, true, true, true, true, true, true, true, true, false, false, false, false, false, false, false, false, false, false, false, false, false, false, false, false, false, false, false, false, false, false] rfl rfl (by kernel_rfl) (fun _ _ _ h => h) (Or.inl ⟨by rfl, ?_⟩) ?_ ?_
          rotate_left
          · intro w'
            go_simp
            with_reducible rfl
          rotate_left
          · simp only [Act.put, List.setIfInBounds_toArray, List.set_cons_zero, List.set_cons_succ, i64_w, i32_w]
            rfl
          refine pure_ (i := 9) (N := some 61) (v := ?_) (a' := ?_) #[true, true, true, true, true, true, true, true, true, true, false, false, false, false, false, false, false, false, false, false, false, false, false, false, false, false, false, false, false, false, false] rfl rfl (by kernel_rfl) (fun _ _ _ h => h) (Or.inl ⟨by rfl, ?_⟩) ?_ ?_
          rotate_left
          · intro w'
            go_simp
            with_reducible rfl
          rotate_left
          · simp only [Act.put, List.setIfInBounds_toArray, List.set_cons_zero, List.set_cons_succ, i64_w, i32_w]
            rfl
          refine take_ (i := 10) (N := some 62) (v := ?_) (a' := ?_) #[true, true, true, true, true, true, true, true, true, true, true, false, false, false, false, false, false, false, false, false, false, false, false, false, false, false, false, false, false, false, false] rfl rfl (by kernel_rfl) (fun _ _ _ h => h) (Or.inl ⟨by rfl, ?_⟩) hHeld ?_ ?_
          rotate_left
          · intro w' hS
            have z0 := hS
            go_simp
            with_reducible rfl
          rotate_left
          · simp only [Act.put, List.setIfInBounds_toArray, List.set_cons_zero, List.set_cons_succ, i64_w, i32_w]
            rfl
          refine pure_ (i := 11) (N := some 63) (v := ?_) (a' := ?_) #[true, true, true, true, true, true, true, true, true, true, true, true, false, false, false, false, false, false, false, false, false, false, false, false, false, false, false, false, false, false, false] rfl rfl (by kernel_rfl) (fun _ _ _ h => h) (Or.inl ⟨by rfl, ?_⟩) ?_ ?_
          rotate_left
          · intro w'
            go_simp
            with_reducible rfl
          rotate_left
          · simp only [Act.put, List.setIfInBounds_toArray, List.set_cons_zero, List.set_cons_succ, i64_w, i32_w]
            rfl
          refine pure_ (i := 14) (N := some 66) (v := ?_) (a' := ?_) #[true, true, true, true, true, true, true, true, true, true, true, true, false, false, true, false, false, false, false, false, false, false, false, false, false, false, false, false, false, false, false] rfl rfl (by kernel_rfl) (fun _ _ _ h => h) (Or.inl ⟨by rfl, ?_⟩) ?_ ?_
          rotate_left
          · intro w'
            go_simp
            with_reducible rfl
          rotate_left
          · simp only [Act.put, List.setIfInBounds_toArray, List.set_cons_zero, List.set_cons_succ, i64_w, i32_w]
            rfl
          refine pure_ (i := 15) (N := some 67) (v := ?_) (a' := ?_) #[true, true, true, true, true, true, true, true, true, true, true, true, false, false, true, true, false, false, false, false, false, false, false, false, false, false, false, false, false, false, false] rfl rfl (by kernel_rfl) (fun _ _ _ h => h) (Or.inl ⟨by rfl, ?_⟩) ?_ ?_
          rotate_left
          · intro w'
            go_simp
            with_reducible rfl
          rotate_left
          · simp only [Act.put, List.setIfInBounds_toArray, List.set_cons_zero, List.set_cons_succ, i64_w, i32_w]
            rfl
          refine pure_ (i := 16) (N := some 68) (v := ?_) (a' := ?_) #[true, true, true, true, true, true, true, true, true, true, true, true, false, false, true, true, true, false, false, false, false, false, false, false, false, false, false, false, false, false, false] rfl rfl (by kernel_rfl) (fun _ _ _ h => h) (Or.inl ⟨by rfl, ?_⟩) ?_ ?_
          rotate_left
          · intro w'
            go_simp
            with_reducible rfl
          rotate_left
          · simp only [Act.put, List.setIfInBounds_toArray, List.set_cons_zero, List.set_cons_succ, i64_w, i32_w]
            rfl
          refine one_ (i := 12) (N := some 64) #[true, true, true, true, true, true, true, true, true, true, true, true, true, false, true, true, true, false, false, false, false, false, false, false, false, false, false, false, false, false, false] rfl rfl (by kernel_rfl) (by decide) (fun K hK => ?_)
          refine goes_ Try.func67 (by kernel_rfl) rfl #[.int .u32 ((last : Int) + 1)] (by rfl) rfl rfl (by (try simp only [List.map_toArray, List.map_cons, List.map_nil]); first | done | rfl) ?_
          refine (HNUMN.out _).mono ?_
          rintro e w4 ⟨rfl, hb⟩
          refine ⟨_, rfl, ?_⟩
          have HO4 := Lib.hid (HO3.out.below hb)
          clear hb
          refine hK.out _ _ ((HLQ.out.keep HO4.out.fr HQF.out).cell0) (fun hHeld => ?_)
          clear hK K
          refine norm_ (a' := ?_) ?_ ?_
          rotate_left
          · show Act.put _ (some 64) _ = _
            simp only [Act.put, List.setIfInBounds_toArray, List.set_cons_zero, List.set_cons_succ, i64_w, i32_w]
            rfl
          refine pure_ (i := 13) (N := some 65) (v := ?_) (a' := ?_) #[true, true, true, true, true, true, true, true, true, true, true, true, true, true, true, true, true, false, false, false, false, false, false, false, false, false, false, false, false, false, false] rfl rfl (by kernel_rfl) (fun _ _ _ h => h) (Or.inl ⟨by rfl, ?_⟩) ?_ ?_
          rotate_left
          · intro w'
            have hcat : (9223372036854775807 < 4 + (num4 (last + 1)).size) = False := eq_false (by rw [num4_size]; omega)
            go_simp
            with_reducible rfl
          rotate_left
          · simp only [Act.put, List.setIfInBounds_toArray, List.set_cons_zero, List.set_cons_succ, i64_w, i32_w]
            rfl
          refine one_ (i := 17) (N := some 69) #[true, true, true, true, true, true, true, true, true, true, true, true, true, true, true, true, true, true, false, false, false, false, false, false, false, false, false, false, false, false, false] rfl rfl (by kernel_rfl) (by decide) (fun K hK => ?_)
          refine goes_ Try.func67 (by kernel_rfl) rfl #[.int .u32 (b.length : Int)] (by rfl) rfl rfl (by (try simp only [List.map_toArray, List.map_cons, List.map_nil]); first | done | rfl) ?_
          refine (HNUMB.out _).mono ?_
          rintro e w5 ⟨rfl, hb⟩
          refine ⟨_, rfl, ?_⟩
          have HO5 := Lib.hid (HO4.out.below hb)
          clear hb
          refine hK.out _ _ ((HLQ.out.keep HO5.out.fr HQF.out).cell0) (fun hHeld => ?_)
          clear hK K
          refine norm_ (a' := ?_) ?_ ?_
          rotate_left
          · show Act.put _ (some 69) _ = _
            simp only [Act.put, List.setIfInBounds_toArray, List.set_cons_zero, List.set_cons_succ, i64_w, i32_w]
            rfl
          refine pure_ (i := 18) (N := some 70) (v := ?_) (a' := ?_) #[true, true, true, true, true, true, true, true, true, true, true, true, true, true, true, true, true, true, true, false, false, false, false, false, false, false, false, false, false, false, false] rfl rfl (by kernel_rfl) (fun _ _ _ h => h) (Or.inl ⟨by rfl, ?_⟩) ?_ ?_
          rotate_left
          · intro w'
            have hcat : (9223372036854775807 < 4 + (num4 (last + 1)).size + (num4 b.length).size) = False := eq_false (by rw [num4_size, num4_size]; omega)
            go_simp
            with_reducible rfl
          rotate_left
          · simp only [Act.put, List.setIfInBounds_toArray, List.set_cons_zero, List.set_cons_succ, i64_w, i32_w]
            rfl
          refine one_ (i := 19) (N := some 71) #[true, true, true, true, true, true, true, true, true, true, true, true, true, true, true, true, true, true, true, true, false, false, false, false, false, false, false, false, false, false, false] rfl rfl (by kernel_rfl) (by decide) (fun K hK => ?_)
          refine goes_ Try.func66 (by kernel_rfl) rfl #[.string (⟨#[76, 67, 79, 77]⟩ ++ num4 (last + 1) ++ num4 b.length)] (by rfl) rfl rfl (by (try simp only [List.map_toArray, List.map_cons, List.map_nil]); first | done | rfl) ?_
          refine (HPAD2.out _).mono ?_
          rintro e w6 ⟨rfl, hb⟩
          refine ⟨_, rfl, ?_⟩
          have HO6 := Lib.hid (HO5.out.below hb)
          clear hb
          refine hK.out _ _ ((HLQ.out.keep HO6.out.fr HQF.out).cell0) (fun hHeld => ?_)
          clear hK K
          refine norm_ (a' := ?_) ?_ ?_
          rotate_left
          · show Act.put _ (some 71) _ = _
            simp only [Act.put, List.setIfInBounds_toArray, List.set_cons_zero, List.set_cons_succ, i64_w, i32_w]
            rfl
          obtain ⟨G, hg1, hg2, hg3, hg4⟩ := HO6.out.dev
          have HG := Lib.hid (And.intro hg2 (And.intro hg3 hg4))
          have HWR := Lib.hid (rwrite_any hg1 0 M (by have := HO6.out.late; omega))
          rw [HWT.out] at HWR
          clear hg1 hg2 hg3 hg4
          refine one_ (i := 20) (N := some 72) #[true, true, true, true, true, true, true, true, true, true, true, true, true, true, true, true, true, true, true, true, true, false, false, false, false, false, false, false, false, false, false] rfl rfl (by kernel_rfl) (by decide) (fun K hK => ?_)
          refine goes_ Try.func44 (by kernel_rfl) rfl #[.pointer (some ⟨p, 0, none⟩), .int .i64 0, .string M] (by rfl) rfl rfl (by (try simp only [List.map_toArray, List.map_cons, List.map_nil]); first | done | rfl) ?_
          refine (HWR.out).mono ?_
          rintro e w7 ⟨rfl, hd, hf⟩
          have HO8 := Lib.hid (HO6.out.step hqw HG.out.1 HG.out.2.1 HG.out.2.2 hd hf (write_late' HWT.out))
          clear hd hf HG
          refine ⟨_, rfl, ?_⟩
          refine hK.out _ _ ((HLQ.out.keep HO8.out.fr HQF.out).cell0) (fun hHeld => ?_)
          clear hK K
          refine norm_ (a' := ?_) ?_ ?_
          rotate_left
          · show Act.put _ (some 72) _ = _
            simp only [Act.put, List.setIfInBounds_toArray, List.set_cons_zero, List.set_cons_succ, i64_w, i32_w]
            rfl
          refine pure_ (i := 21) (N := some 73) (v := .bool true) (a' := ?_) #[true, true, true, true, true, true, true, true, true, true, true, true, true, true, true, true, true, true, true, true, true, true, false, false, false, false, false, false, false, false, false] rfl rfl (by kernel_rfl) (fun _ _ _ h => h) (Or.inl ⟨by rfl, ?_⟩) ?_ ?_
          · intro w'
            go_simp
            all_goals first | with_reducible rfl | rfl | (simp [he0]; done)
          rotate_left
          · simp only [Act.put, List.setIfInBounds_toArray, List.set_cons_zero, List.set_cons_succ, i64_w, i32_w]
            rfl
          refine pure_ (i := 22) (N := some 74) (v := ?_) (a' := ?_) #[true, true, true, true, true, true, true, true, true, true, true, true, true, true, true, true, true, true, true, true, true, true, true, false, false, false, false, false, false, false, false] rfl rfl (by kernel_rfl) (fun _ _ _ h => h) (Or.inl ⟨by rfl, ?_⟩) ?_ ?_
          rotate_left
          · intro w'
            go_simp
            with_reducible rfl
          rotate_left
          · simp only [Act.put, List.setIfInBounds_toArray, List.set_cons_zero, List.set_cons_succ, i64_w, i32_w]
            rfl
          refine pure_ (i := 23) (N := some 75) (v := ?_) (a' := ?_) #[true, true, true, true, true, true, true, true, true, true, true, true, true, true, true, true, true, true, true, true, true, true, true, true, false, false, false, false, false, false, false] rfl rfl (by kernel_rfl) (fun _ _ _ h => h) (Or.inl ⟨by rfl, ?_⟩) ?_ ?_
          rotate_left
          · intro w'
            go_simp
            with_reducible rfl
          rotate_left
          · simp only [Act.put, List.setIfInBounds_toArray, List.set_cons_zero, List.set_cons_succ, i64_w, i32_w]
            rfl
          refine pure_ (i := 24) (N := some 76) (v := undef) (a' := ?_) #[true, true, true, true, true, true, true, true, true, true, true, true, true, true, true, true, true, true, true, true, true, true, true, true, true, false, false, false, false, false, false] rfl rfl (by kernel_rfl) (fun _ _ _ h => h) (Or.inr ⟨by rfl, rfl⟩) ?_ ?_
          rotate_left
          · simp only [Act.put, List.setIfInBounds_toArray, List.set_cons_zero, List.set_cons_succ, i64_w, i32_w]
            rfl
          refine pure_ (i := 25) (N := some 77) (v := undef) (a' := ?_) #[true, true, true, true, true, true, true, true, true, true, true, true, true, true, true, true, true, true, true, true, true, true, true, true, true, true, false, false, false, false, false] rfl rfl (by kernel_rfl) (fun _ _ _ h => h) (Or.inr ⟨by rfl, rfl⟩) ?_ ?_
          rotate_left
          · simp only [Act.put, List.setIfInBounds_toArray, List.set_cons_zero, List.set_cons_succ, i64_w, i32_w]
            rfl
          refine pure_ (i := 26) (N := some 78) (v := undef) (a' := ?_) #[true, true, true, true, true, true, true, true, true, true, true, true, true, true, true, true, true, true, true, true, true, true, true, true, true, true, true, false, false, false, false] rfl rfl (by kernel_rfl) (fun _ _ _ h => h) (Or.inr ⟨by rfl, rfl⟩) ?_ ?_
          rotate_left
          · simp only [Act.put, List.setIfInBounds_toArray, List.set_cons_zero, List.set_cons_succ, i64_w, i32_w]
            rfl
          refine pure_ (i := 27) (N := some 79) (v := undef) (a' := ?_) #[true, true, true, true, true, true, true, true, true, true, true, true, true, true, true, true, true, true, true, true, true, true, true, true, true, true, true, true, false, false, false] rfl rfl (by kernel_rfl) (fun _ _ _ h => h) (Or.inr ⟨by rfl, rfl⟩) ?_ ?_
          rotate_left
          · simp only [Act.put, List.setIfInBounds_toArray, List.set_cons_zero, List.set_cons_succ, i64_w, i32_w]
            rfl
          refine pure_ (i := 28) (N := some 80) (v := undef) (a' := ?_) #[true, true, true, true, true, true, true, true, true, true, true, true, true, true, true, true, true, true, true, true, true, true, true, true, true, true, true, true, true, false, false] rfl rfl (by kernel_rfl) (fun _ _ _ h => h) (Or.inr ⟨by rfl, rfl⟩) ?_ ?_
          rotate_left
          · simp only [Act.put, List.setIfInBounds_toArray, List.set_cons_zero, List.set_cons_succ, i64_w, i32_w]
            rfl
          refine pure_ (i := 29) (N := some 81) (v := undef) (a' := ?_) #[true, true, true, true, true, true, true, true, true, true, true, true, true, true, true, true, true, true, true, true, true, true, true, true, true, true, true, true, true, true, false] rfl rfl (by kernel_rfl) (fun _ _ _ h => h) (Or.inr ⟨by rfl, rfl⟩) ?_ ?_
          rotate_left
          · simp only [Act.put, List.setIfInBounds_toArray, List.set_cons_zero, List.set_cons_succ, i64_w, i32_w]
            rfl
          refine pure_ (i := 30) (N := some 82) (v := ?_) (a' := ?_) #[true, true, true, true, true, true, true, true, true, true, true, true, true, true, true, true, true, true, true, true, true, true, true, true, true, true, true, true, true, true, true] rfl rfl (by kernel_rfl) (fun _ _ _ h => h) (Or.inl ⟨by rfl, ?_⟩) ?_ ?_
          rotate_left
          · intro w'
            go_simp
            with_reducible rfl
          rotate_left
          · simp only [Act.put, List.setIfInBounds_toArray, List.set_cons_zero, List.set_cons_succ, i64_w, i32_w]
            rfl
          refine done_ (by kernel_rfl) ?_
          go_wp2
          go_ret
          rw [HRY.out]
          exact HO8.out.died he0
      · have he1' : (eb = 0) = False := eq_false he1
        have HRY := Lib.hid (show R = (eb, d1) by rw [HRX1.out, HB1.out, andThen_no he1])
        have he0 := he1
        have hbe : (!decide (eb = 0)) = true := by simp [he1]
        have hbe2 : (!(eb == 0)) = true := by simp [he1]
        go_wp2_with fail
        refine start_ (n := 31) (S := fun w' => w'.cell? ⟨q, 0, none⟩ = some (.pointer (some ⟨p, 0, none⟩))) (ds := []) #[false, false, false, false, false, false, false, false, false, false, false, false, false, false, false, false, false, false, false, false, false, false, false, false, false, false, false, false, false, false, false] (by kernel_rfl) rfl rfl (c0) (fun hHeld => ?_)
        have HO2 := Lib.hid (HO.out.below (Below.refl wr.heap.size wr).drew)
        generalize wr.drew = w2 at HO2 hHeld ⊢
        clear c0
        refine pure_ (i := 0) (N := some 52) (v := ?_) (a' := ?_) #[true, false, false, false, false, false, false, false, false, false, false, false, false, false, false, false, false, false, false, false, false, false, false, false, false, false, false, false, false, false, false] rfl rfl (by kernel_rfl) (fun _ _ _ h => h) (Or.inl ⟨by rfl, ?_⟩) ?_ ?_
        rotate_left
        · intro w'
          go_simp
          with_reducible rfl
        rotate_left
        · simp only [Act.put, List.setIfInBounds_toArray, List.set_cons_zero, List.set_cons_succ, i64_w, i32_w]
          rfl
        refine pure_ (i := 1) (N := some 53) (v := ?_) (a' := ?_) #[true, true, false, false, false, false, false, false, false, false, false, false, false, false, false, false, false, false, false, false, false, false, false, false, false, false, false, false, false, false, false] rfl rfl (by kernel_rfl) (fun _ _ _ h => h) (Or.inl ⟨by rfl, ?_⟩) ?_ ?_
        rotate_left
        · intro w'
          go_simp
          with_reducible rfl
        rotate_left
        · simp only [Act.put, List.setIfInBounds_toArray, List.set_cons_zero, List.set_cons_succ, i64_w, i32_w]
          rfl
        refine pure_ (i := 2) (N := some 54) (v := ?_) (a' := ?_) #[true, true, true, false, false, false, false, false, false, false, false, false, false, false, false, false, false, false, false, false, false, false, false, false, false, false, false, false, false, false, false] rfl rfl (by kernel_rfl) (fun _ _ _ h => h) (Or.inl ⟨by rfl, ?_⟩) ?_ ?_
        rotate_left
        · intro w'
          go_simp
          with_reducible rfl
        rotate_left
        · simp only [Act.put, List.setIfInBounds_toArray, List.set_cons_zero, List.set_cons_succ, i64_w, i32_w]
          rfl
        refine take_ (i := 3) (N := some 55) (v := ?_) (a' := ?_) #[true, true, true, true, false, false, false, false, false, false, false, false, false, false, false, false, false, false, false, false, false, false, false, false, false, false, false, false, false, false, false] rfl rfl (by kernel_rfl) (fun _ _ _ h => h) (Or.inl ⟨by rfl, ?_⟩) hHeld ?_ ?_
        rotate_left
        · intro w' hS
          have z0 := hS
          go_simp
          with_reducible rfl
        rotate_left
        · simp only [Act.put, List.setIfInBounds_toArray, List.set_cons_zero, List.set_cons_succ, i64_w, i32_w]
          rfl
        obtain ⟨G, hg1, hg2, hg3, hg4⟩ := HO2.out.dev
        have HG := Lib.hid (And.intro hg2 (And.intro hg3 hg4))
        have HBA := Lib.hid (rbarrier_any hg1 (by have := HO2.out.late; omega))
        rw [HB1.out] at HBA
        clear hg1 hg2 hg3 hg4
        refine one_ (i := 4) (N := some 56) #[true, true, true, true, true, false, false, false, false, false, false, false, false, false, false, false, false, false, false, false, false, false, false, false, false, false, false, false, false, false, false] rfl rfl (by kernel_rfl) (by decide) (fun K hK => ?_)
        refine goes_ Try.func55 (by kernel_rfl) rfl #[.pointer (some ⟨p, 0, none⟩)] (by rfl) rfl rfl (by (try simp only [List.map_toArray, List.map_cons, List.map_nil]); first | done | rfl) ?_
        refine (HBA.out).mono ?_
        rintro e w3 ⟨rfl, hd, hf⟩
        have HO3 := Lib.hid (HO2.out.step hqw HG.out.1 HG.out.2.1 HG.out.2.2 hd hf (barrier_late HB1.out))
        clear hd hf HG
        refine ⟨_, rfl, ?_⟩
        refine hK.out _ _ ((HLQ.out.keep HO3.out.fr HQF.out).cell0) (fun hHeld => ?_)
        clear hK K
        refine norm_ (a' := ?_) ?_ ?_
        rotate_left
        · show Act.put _ (some 56) _ = _
          simp only [Act.put, List.setIfInBounds_toArray, List.set_cons_zero, List.set_cons_succ, i64_w, i32_w]
          rfl
        refine pure_ (i := 5) (N := some 57) (v := .bool true) (a' := ?_) #[true, true, true, true, true, true, false, false, false, false, false, false, false, false, false, false, false, false, false, false, false, false, false, false, false, false, false, false, false, false, false] rfl rfl (by kernel_rfl) (fun _ _ _ h => h) (Or.inl ⟨by rfl, ?_⟩) ?_ ?_
        · intro w'
          go_simp
          all_goals first | with_reducible rfl | rfl | (simp [he0]; done)
        rotate_left
        · simp only [Act.put, List.setIfInBounds_toArray, List.set_cons_zero, List.set_cons_succ, i64_w, i32_w]
          rfl
        refine pure_ (i := 6) (N := some 58) (v := ?_) (a' := ?_) #[true, true, true, true, true, true, true, false, false, false, false, false, false, false, false, false, false, false, false, false, false, false, false, false, false, false, false, false, false, false, false] rfl rfl (by kernel_rfl) (fun _ _ _ h => h) (Or.inl ⟨by rfl, ?_⟩) ?_ ?_
        rotate_left
        · intro w'
          go_simp
          with_reducible rfl
        rotate_left
        · simp only [Act.put, List.setIfInBounds_toArray, List.set_cons_zero, List.set_cons_succ, i64_w, i32_w]
          rfl
        refine pure_ (i := 7) (N := some 59) (v := undef) (a' := ?_) #[true, true, true, true, true, true, true, true, false, false, false, false, false, false, false, false, false, false, false, false, false, false, false, false, false, false, false, false, false, false, false] rfl rfl (by kernel_rfl) (fun _ _ _ h => h) (Or.inr ⟨by rfl, rfl⟩) ?_ ?_
        rotate_left
        · simp only [Act.put, List.setIfInBounds_toArray, List.set_cons_zero, List.set_cons_succ, i64_w, i32_w]
          rfl
        refine pure_ (i := 8) (N := some 60) (v := undef) (a' := ?_) #[true, true, true, true, true, true, true, true, true, false, false, false, false, false, false, false, false, false, false, false, false, false, false, false, false, false, false, false, false, false, false] rfl rfl (by kernel_rfl) (fun _ _ _ h => h) (Or.inr ⟨by rfl, rfl⟩) ?_ ?_
        rotate_left
        · simp only [Act.put, List.setIfInBounds_toArray, List.set_cons_zero, List.set_cons_succ, i64_w, i32_w]
          rfl
        refine pure_ (i := 9) (N := some 61) (v := undef) (a' := ?_) #[true, true, true, true, true, true, true, true, true, true, false, false, false, false, false, false, false, false, false, false, false, false, false, false, false, false, false, false, false, false, false] rfl rfl (by kernel_rfl) (fun _ _ _ h => h) (Or.inr ⟨by rfl, rfl⟩) ?_ ?_
        rotate_left
        · simp only [Act.put, List.setIfInBounds_toArray, List.set_cons_zero, List.set_cons_succ, i64_w, i32_w]
          rfl
        refine pure_ (i := 10) (N := some 62) (v := undef) (a' := ?_) #[true, true, true, true, true, true, true, true, true, true, true, false, false, false, false, false, false, false, false, false, false, false, false, false, false, false, false, false, false, false, false] rfl rfl (by kernel_rfl) (fun _ _ _ h => h) (Or.inr ⟨by rfl, rfl⟩) ?_ ?_
        rotate_left
        · simp only [Act.put, List.setIfInBounds_toArray, List.set_cons_zero, List.set_cons_succ, i64_w, i32_w]
          rfl
        refine pure_ (i := 11) (N := some 63) (v := undef) (a' := ?_) #[true, true, true, true, true, true, true, true, true, true, true, true, false, false, false, false, false, false, false, false, false, false, false, false, false, false, false, false, false, false, false] rfl rfl (by kernel_rfl) (fun _ _ _ h => h) (Or.inr ⟨by rfl, rfl⟩) ?_ ?_
        rotate_left
        · simp only [Act.put, List.setIfInBounds_toArray, List.set_cons_zero, List.set_cons_succ, i64_w, i32_w]
          rfl
        refine pure_ (i := 12) (N := some 64) (v := undef) (a' := ?_) #[true, true, true, true, true, true, true, true, true, true, true, true, true, false, false, false, false, false, false, false, false, false, false, false, false, false, false, false, false, false, false] rfl rfl (by kernel_rfl) (fun _ _ _ h => h) (Or.inr ⟨by rfl, rfl⟩) ?_ ?_
        rotate_left
        · simp only [Act.put, List.setIfInBounds_toArray, List.set_cons_zero, List.set_cons_succ, i64_w, i32_w]
          rfl
        refine pure_ (i := 13) (N := some 65) (v := undef) (a' := ?_) #[true, true, true, true, true, true, true, true, true, true, true, true, true, true, false, false, false, false, false, false, false, false, false, false, false, false, false, false, false, false, false] rfl rfl (by kernel_rfl) (fun _ _ _ h => h) (Or.inr ⟨by rfl, rfl⟩) ?_ ?_
        rotate_left
        · simp only [Act.put, List.setIfInBounds_toArray, List.set_cons_zero, List.set_cons_succ, i64_w, i32_w]
          rfl
        refine pure_ (i := 14) (N := some 66) (v := undef) (a' := ?_) #[true, true, true, true, true, true, true, true, true, true, true, true, true, true, true, false, false, false, false, false, false, false, false, false, false, false, false, false, false, false, false] rfl rfl (by kernel_rfl) (fun _ _ _ h => h) (Or.inr ⟨by rfl, rfl⟩) ?_ ?_
        rotate_left
        · simp only [Act.put, List.setIfInBounds_toArray, List.set_cons_zero, List.set_cons_succ, i64_w, i32_w]
          rfl
        refine pure_ (i := 15) (N := some 67) (v := undef) (a' := ?_) #[true, true, true, true, true, true, true, true, true, true, true, true, true, true, true, true, false, false, false, false, false, false, false, false, false, false, false, false, false, false, false] rfl rfl (by kernel_rfl) (fun _ _ _ h => h) (Or.inr ⟨by rfl, rfl⟩) ?_ ?_
        rotate_left
        · simp only [Act.put, List.setIfInBounds_toArray, List.set_cons_zero, List.set_cons_succ, i64_w, i32_w]
          rfl
        refine pure_ (i := 16) (N := some 68) (v := undef) (a' := ?_) #[true, true, true, true, true, true, true, true, true, true, true, true, true, true, true, true, true, false, false, false, false, false, false, false, false, false, false, false, false, false, false] rfl rfl (by kernel_rfl) (fun _ _ _ h => h) (Or.inr ⟨by rfl, rfl⟩) ?_ ?_
        rotate_left
        · simp only [Act.put, List.setIfInBounds_toArray, List.set_cons_zero, List.set_cons_succ, i64_w, i32_w]
          rfl
        refine pure_ (i := 17) (N := some 69) (v := undef) (a' := ?_) #[true, true, true, true, true, true, true, true, true, true, true, true, true, true, true, true, true, true, false, false, false, false, false, false, false, false, false, false, false, false, false] rfl rfl (by kernel_rfl) (fun _ _ _ h => h) (Or.inr ⟨by rfl, rfl⟩) ?_ ?_
        rotate_left
        · simp only [Act.put, List.setIfInBounds_toArray, List.set_cons_zero, List.set_cons_succ, i64_w, i32_w]
          rfl
        refine pure_ (i := 18) (N := some 70) (v := undef) (a' := ?_) #[true, true, true, true, true, true, true, true, true, true, true, true, true, true, true, true, true, true, true, false, false, false, false, false, false, false, false, false, false, false, false] rfl rfl (by kernel_rfl) (fun _ _ _ h => h) (Or.inr ⟨by rfl, rfl⟩) ?_ ?_
        rotate_left
        · simp only [Act.put, List.setIfInBounds_toArray, List.set_cons_zero, List.set_cons_succ, i64_w, i32_w]
          rfl
        refine pure_ (i := 19) (N := some 71) (v := undef) (a' := ?_) #[true, true, true, true, true, true, true, true, true, true, true, true, true, true, true, true, true, true, true, true, false, false, false, false, false, false, false, false, false, false, false] rfl rfl (by kernel_rfl) (fun _ _ _ h => h) (Or.inr ⟨by rfl, rfl⟩) ?_ ?_
        rotate_left
        · simp only [Act.put, List.setIfInBounds_toArray, List.set_cons_zero, List.set_cons_succ, i64_w, i32_w]
          rfl
        refine pure_ (i := 20) (N := some 72) (v := undef) (a' := ?_) #[true, true, true, true, true, true, true, true, true, true, true, true, true, true, true, true, true, true, true, true, true, false, false, false, false, false, false, false, false, false, false] rfl rfl (by kernel_rfl) (fun _ _ _ h => h) (Or.inr ⟨by rfl, rfl⟩) ?_ ?_
        rotate_left
        · simp only [Act.put, List.setIfInBounds_toArray, List.set_cons_zero, List.set_cons_succ, i64_w, i32_w]
          rfl
        refine pure_ (i := 21) (N := some 73) (v := undef) (a' := ?_) #[true, true, true, true, true, true, true, true, true, true, true, true, true, true, true, true, true, true, true, true, true, true, false, false, false, false, false, false, false, false, false] rfl rfl (by kernel_rfl) (fun _ _ _ h => h) (Or.inr ⟨by rfl, rfl⟩) ?_ ?_
        rotate_left
        · simp only [Act.put, List.setIfInBounds_toArray, List.set_cons_zero, List.set_cons_succ, i64_w, i32_w]
          rfl
        refine pure_ (i := 22) (N := some 74) (v := ?_) (a' := ?_) #[true, true, true, true, true, true, true, true, true, true, true, true, true, true, true, true, true, true, true, true, true, true, true, false, false, false, false, false, false, false, false] rfl rfl (by kernel_rfl) (fun _ _ _ h => h) (Or.inl ⟨by rfl, ?_⟩) ?_ ?_
        rotate_left
        · intro w'
          go_simp
          with_reducible rfl
        rotate_left
        · simp only [Act.put, List.setIfInBounds_toArray, List.set_cons_zero, List.set_cons_succ, i64_w, i32_w]
          rfl
        refine pure_ (i := 23) (N := some 75) (v := ?_) (a' := ?_) #[true, true, true, true, true, true, true, true, true, true, true, true, true, true, true, true, true, true, true, true, true, true, true, true, false, false, false, false, false, false, false] rfl rfl (by kernel_rfl) (fun _ _ _ h => h) (Or.inl ⟨by rfl, ?_⟩) ?_ ?_
        rotate_left
        · intro w'
          go_simp
          with_reducible rfl
        rotate_left
        · simp only [Act.put, List.setIfInBounds_toArray, List.set_cons_zero, List.set_cons_succ, i64_w, i32_w]
          rfl
        refine pure_ (i := 24) (N := some 76) (v := undef) (a' := ?_) #[true, true, true, true, true, true, true, true, true, true, true, true, true, true, true, true, true, true, true, true, true, true, true, true, true, false, false, false, false, false, false] rfl rfl (by kernel_rfl) (fun _ _ _ h => h) (Or.inr ⟨by rfl, rfl⟩) ?_ ?_
        rotate_left
        · simp only [Act.put, List.setIfInBounds_toArray, List.set_cons_zero, List.set_cons_succ, i64_w, i32_w]
          rfl
        refine pure_ (i := 25) (N := some 77) (v := undef) (a' := ?_) #[true, true, true, true, true, true, true, true, true, true, true, true, true, true, true, true, true, true, true, true, true, true, true, true, true, true, false, false, false, false, false] rfl rfl (by kernel_rfl) (fun _ _ _ h => h) (Or.inr ⟨by rfl, rfl⟩) ?_ ?_
        rotate_left
        · simp only [Act.put, List.setIfInBounds_toArray, List.set_cons_zero, List.set_cons_succ, i64_w, i32_w]
          rfl
        refine pure_ (i := 26) (N := some 78) (v := undef) (a' := ?_) #[true, true, true, true, true, true, true, true, true, true, true, true, true, true, true, true, true, true, true, true, true, true, true, true, true, true, true, false, false, false, false] rfl rfl (by kernel_rfl) (fun _ _ _ h => h) (Or.inr ⟨by rfl, rfl⟩) ?_ ?_
        rotate_left
        · simp only [Act.put, List.setIfInBounds_toArray, List.set_cons_zero, List.set_cons_succ, i64_w, i32_w]
          rfl
        refine pure_ (i := 27) (N := some 79) (v := undef) (a' := ?_) #[true, true, true, true, true, true, true, true, true, true, true, true, true, true, true, true, true, true, true, true, true, true, true, true, true, true, true, true, false, false, false] rfl rfl (by kernel_rfl) (fun _ _ _ h => h) (Or.inr ⟨by rfl, rfl⟩) ?_ ?_
        rotate_left
        · simp only [Act.put, List.setIfInBounds_toArray, List.set_cons_zero, List.set_cons_succ, i64_w, i32_w]
          rfl
        refine pure_ (i := 28) (N := some 80) (v := undef) (a' := ?_) #[true, true, true, true, true, true, true, true, true, true, true, true, true, true, true, true, true, true, true, true, true, true, true, true, true, true, true, true, true, false, false] rfl rfl (by kernel_rfl) (fun _ _ _ h => h) (Or.inr ⟨by rfl, rfl⟩) ?_ ?_
        rotate_left
        · simp only [Act.put, List.setIfInBounds_toArray, List.set_cons_zero, List.set_cons_succ, i64_w, i32_w]
          rfl
        refine pure_ (i := 29) (N := some 81) (v := undef) (a' := ?_) #[true, true, true, true, true, true, true, true, true, true, true, true, true, true, true, true, true, true, true, true, true, true, true, true, true, true, true, true, true, true, false] rfl rfl (by kernel_rfl) (fun _ _ _ h => h) (Or.inr ⟨by rfl, rfl⟩) ?_ ?_
        rotate_left
        · simp only [Act.put, List.setIfInBounds_toArray, List.set_cons_zero, List.set_cons_succ, i64_w, i32_w]
          rfl
        refine pure_ (i := 30) (N := some 82) (v := ?_) (a' := ?_) #[true, true, true, true, true, true, true, true, true, true, true, true, true, true, true, true, true, true, true, true, true, true, true, true, true, true, true, true, true, true, true] rfl rfl (by kernel_rfl) (fun _ _ _ h => h) (Or.inl ⟨by rfl, ?_⟩) ?_ ?_
        rotate_left
        · intro w'
          go_simp
          with_reducible rfl
        rotate_left
        · simp only [Act.put, List.setIfInBounds_toArray, List.set_cons_zero, List.set_cons_succ, i64_w, i32_w]
          rfl
        refine done_ (by kernel_rfl) ?_
        go_wp2
        go_ret
        rw [HRY.out]
        exact HO3.out.died he0
end Go.Proofs.Ytmdojgkgohmghaa.Wal
namespace Go.Proofs.Ytmdojgkgohmghaa.Wal
open Go.RowKit Go.Own Go.Blk Go.DevL Go.XdrL Go.WalL Go.OpsL Go.Maps Go.Sees Go.Proofs.Ytmdojgkgohmghaa.P04 Go.Proofs.Ytmdojgkgohmghaa.Xdr Go.Proofs.YtmdojgkgohmghaaW.PrintLast Go.Proofs.YtmdojgkgohmghaaW.PrintWords
open Go.Proofs.Ytmdojgkgohmghaa.Dev hiding stop_here execOp_build execOp_alloc execOp_store execOp_load execOp_buildSlice execOp_makeSlice execOp_box execOp_copy execOp_append wpList_val wpList_none Up RAt
set_option linter.unusedVariables false
set_option linter.unusedSimpArgs false
set_option maxRecDepth 100000
variable {F : Nat → Prop} {w w' wr wr' : World} {p q : Nat} {d d' d'' : Dv} {last c : Nat} {dead : Bool} {v v' : Value} {l : List ByteArray} {b : List (Int × ByteArray)} {e : Int}
/-- An answer of the device: nought or five, and as many blocks as before. -/
def Co (N : Nat) (r : Int × Dv) : Prop := (r.1 = 0 ∨ r.1 = 5) ∧ r.2.firm.length = N
theorem Co.write {N : Nat} (h : d.firm.length = N) {i : Int} {x : ByteArray} (h0 : 0 ≤ i) (h1 : i < N) (hx : x.size = 256) : Co N (d.write i x) := by
  obtain ⟨h2, h3⟩ := write_code (d := d) (x := x) (j := i) h0 (by omega) hx (e := (d.write i x).1) (d' := (d.write i x).2) rfl
  exact ⟨h2, by omega⟩
theorem Co.barrier {N : Nat} (h : d.firm.length = N) : Co N d.barrier := by
  unfold Dv.barrier
  split
  · exact ⟨.inr rfl, h⟩
  · refine ⟨.inl rfl, ?_⟩
    show d.now.length = N
    rw [← h]
    exact length_puts _ _
theorem Co.andThen {N : Nat} {r : Int × Dv} {f : Dv → Int × Dv} (h : Co N r) (hf : ∀ d, d.firm.length = N → Co N (f d)) : Co N (WalL.andThen r f) := by
  unfold WalL.andThen
  split
  · exact hf _ h.2
  · exact h
theorem Co.wrs {N : Nat} : ∀ (l : List (Int × ByteArray)) {d : Dv}, d.firm.length = N → (∀ x ∈ l, 0 ≤ x.1 ∧ x.1 < N ∧ x.2.size = 256) → Co N (WalL.wrs d l)
  | [], d, h, _ => ⟨.inl rfl, h⟩
  | x :: l, d, h, hl => by
    have h1 := hl x List.mem_cons_self
    have h2 := Co.write h h1.1 h1.2.1 h1.2.2
    simp only [WalL.wrs]
    split
    · exact Co.wrs l h2.2 (fun y hy => hl y (List.mem_cons_of_mem _ hy))
    · exact h2
theorem commitD_co (n : Nat) (h41 : 41 < d.firm.length) (hf : fit (sizeL d) b) : Co d.firm.length (commitD d n b) := by
  have hs : sizeL d = (d.firm.length : Int) - 41 := rfl
  have h40 := hf.2.1
  have hb : ∀ x ∈ b, 0 ≤ x.1 ∧ x.1 < (d.firm.length : Int) - 41 ∧ x.2.size ≤ 248 := fun x hx => by have := hf.2.2.1 x hx; omega
  unfold commitD
  refine Co.andThen (Co.wrs _ rfl fun x hx => ?_) fun d1 e1 => Co.andThen (Co.barrier e1) fun d2 e2 => Co.andThen (Co.write e2 (by omega) (by omega) (mark_size _ _)) fun d3 e3 => Co.andThen (Co.barrier e3) fun d4 e4 => Co.andThen (Co.wrs _ e4 fun x hx => ?_) fun d5 e5 => Co.barrier e5
  · obtain ⟨i, hi, rfl⟩ := mem_jour hx
    exact ⟨by show (0 : Int) ≤ 1 + (i : Int); omega, by show (1 + (i : Int)) < _; omega, ent_size (hb _ (List.getElem_mem hi)).2.2⟩
  · unfold homes at hx
    obtain ⟨y, hy, rfl⟩ := List.mem_map.1 hx
    have := hb y hy
    exact ⟨by show (0 : Int) ≤ 41 + y.1; omega, by show 41 + y.1 < _; omega, ent_size this.2.2⟩
def rcommitPost (F : Nat → Prop) (w w' : World) (p q : Nat) (r : Int × Dv × Nat × Bool) (e : Ending) : Prop :=
  e = .returned (.int .i64 r.1) ∧ (∃ G, RDev G w' p r.2.1 ∧ Sub F w w' G ∧ ¬ G q) ∧ RLAt w' q p r.2.2.1 r.2.2.2 ∧ Fr (fun k => F k ∨ k = q) w w'
theorem rcommitPost_same (h : RLAt w q p last dead) (hd : RDev F w p d) (hqF : ¬ F q) (hb : Below w.heap.size w w') {c : Int} : rcommitPost F w w' p q (c, d, last, dead) (.returned (.int .i64 c)) :=
  ⟨rfl, ⟨F, hd.below hb, fun k hk => .inl hk, hqF⟩, h.below hb, Fr.of_below hb⟩
theorem rset_post {R : Int × Dv} {w1 w2 : World} (h : RLAt w q p last dead) (hqF : ¬ F q) (hb : Below w.heap.size w w1) (hd : ∃ G, RDev G w2 p R.2 ∧ Sub F w1 w2 G ∧ ¬ G q) (hf : Fr F w1 w2) {k : Nat} {u : Value} {last' : Nat} {dead' : Bool} {c : Int} (hl' : last' < 4294967296)
    (hset : ((#[.pointer (some ⟨p, 0, none⟩), .int .u32 (last : Int), .bool dead] : Array Value).setIfInBounds k u) = #[.pointer (some ⟨p, 0, none⟩), .int .u32 (last' : Int), .bool dead']) :
    rcommitPost F w (w2.setCell ⟨q, k, none⟩ u) p q (c, R.2, last', dead') (.returned (.int .i64 c)) := by
  have hf3 : Fr (· = q) w2 (w2.setCell ⟨q, k, none⟩ u) := Fr.setCell (F := (· = q)) w2 (p := ⟨q, k, none⟩) rfl _
  obtain ⟨G, h1, h2, h3⟩ := hd
  have hs := hb.size
  refine ⟨rfl, ⟨G, h1.keep hf3 (fun j hj e => h3 (by have e' : j = q := e; rw [← e']; exact hj)), fun j hj => ?_, h3⟩, ⟨?_, hl'⟩, ?_⟩
  · rcases h2 j hj with h | ⟨ha, hb'⟩
    · exact .inl h
    · exact .inr ⟨by omega, Nat.lt_of_lt_of_le hb' hf3.size⟩
  · have hq2 := ((h.below hb).keep hf hqF).1
    have := set_at hq2 k u
    rw [this]
    rw [← hset]
  · exact (((Fr.of_below (F := F) hb).trans hf (fun _ _ h => h)).mono (fun _ _ => .inl)).trans hf3 (fun j _ e => .inr e)
theorem rright_calls (A : Option Addr) (cap : Nat) (hA : ArrAt w A ncells 2 b) (hc : b.length ≤ cap) (hbl : b.length ≤ 140737488355328) (size : Int) : Calls Try.prog 27 #[.slice A b.length cap, .int .i64 size] w fun e w' => e = .returned (.bool (decide (fit size b))) ∧ Below w.heap.size w w' := by
  obtain ⟨k, hk⟩ := right_run size b
  have := lamellaref04_Right.calls k A cap (b.map mk26) size (decide (fit size b)) w (by rw [List.length_map]; exact kd_of_arr hA (by omega)) (by rw [List.length_map]; exact hc) hk
  rw [List.length_map] at this
  exact this.mono fun e w' ⟨he, hd⟩ => ⟨he, hd.below⟩
set_option maxHeartbeats 16000000 in
theorem rcommit_calls (h : RLAt w q p last dead) (hd : RDev F w p d) (hqF : ¬ F q) (A : Option Addr) (cap : Nat) (hA : ArrAt w A ncells 2 b) (hc : b.length ≤ cap) (hAF : 0 < b.length → ∀ a, A = some a → ¬ F a.block) (hbl : b.length ≤ 140737488355328) (hl : d.late.length ≤ 900000) (h41 : 41 < d.firm.length) :
    Calls Try.prog 40 #[.pointer (some ⟨q, 0, none⟩), .slice A b.length cap] w fun e w' => rcommitPost F w w' p q (commitL d last dead b) e := by
  have hn2 := hd.ok.n2
  have HRI := Lib.hid (rright_calls A cap hA hc hbl (sizeL d))
  have hsz : sizeL d = (d.firm.length : Int) - 41 := rfl
  rw [hsz] at HRI
  have hw0 : IntKind.i64.wrap ((d.firm.length : Int) - 41) = (d.firm.length : Int) - 41 := by rw [IntKind.wrap_i64]; omega
  obtain ⟨gf, cf, vl, hst⟩ := RDev.struct hd
  obtain ⟨x0, y0, x1, y1, x2, y2, x3, y3⟩ := blk4 hst
  obtain ⟨u0, v0, u1, v1, u2, v2⟩ := blk3 h.1
  have HLQ := Lib.hid h
  by_cases hf : fit (sizeL d) b
  · rw [← hsz, decide_eq_true hf, hsz] at HRI
    by_cases hdd : dead = true
    · subst hdd
      have e : commitL d last true b = (5, d, last, true) := by unfold commitL; rw [if_neg (not_not_intro hf), if_pos rfl]
      rw [e]
      have HP := Lib.hid (fun W (hb : Below w.heap.size w W) => rcommitPost_same h hd hqF hb (c := 5))
      clear h hd hqF hA hAF hf e hst
      go_enter Try.func40, Try.ntmps40
      go_wp2_with fail
      refine HRI.out.mono ?_
      rintro e w1 ⟨rfl, hb⟩
      clear x0 y0 x1 y1 x2 y2 x3 y3 u0 v0 u1 v1 u2 v2
      obtain ⟨x0, y0, x1, y1, x2, y2⟩ := blk3 (HLQ.out.below hb).1
      have HB := Lib.hid hb
      clear hb
      go_wp2
      go_ret
      exact HP.out _ HB.out
    · have hdd' : dead = false := by simpa using hdd
      subst hdd'
      by_cases hlm : last = 4294967295
      · have e : commitL d last false b = (16, d, last, false) := by unfold commitL; rw [if_neg (not_not_intro hf), if_neg (by simp), if_pos hlm]
        rw [e]
        have HP := Lib.hid (fun W (hb : Below w.heap.size w W) => rcommitPost_same h hd hqF hb (c := 16))
        clear h hd hqF hA hAF hf e hst
        subst hlm
        go_enter Try.func40, Try.ntmps40
        go_wp2_with fail
        refine HRI.out.mono ?_
        rintro e w1 ⟨rfl, hb⟩
        clear x0 y0 x1 y1 x2 y2 x3 y3 u0 v0 u1 v1 u2 v2
        obtain ⟨x0, y0, x1, y1, x2, y2⟩ := blk3 (HLQ.out.below hb).1
        have HB := Lib.hid hb
        clear hb
        go_wp2
        go_ret
        exact HP.out _ HB.out
      · have hl1 : ((last : Int) = 4294967295) = False := eq_false (by omega)
        have hl2 : (last = 4294967295) = False := eq_false hlm
        have hl3 : ((last : Int) == 4294967295) = false := beq_false_of_ne (by omega)
        have hlt := h.2
        have hw5 : IntKind.u32.wrap ((last : Int) + 1) = (last : Int) + 1 := by rw [IntKind.wrap_u32]; omega
        have hw6 : ((last : Int) + 1) % 4294967296 = (last : Int) + 1 := by omega
        have hr : commitL d last false b = if (commitD d (last + 1) b).1 = 0 then (0, (commitD d (last + 1) b).2, last + 1, false) else ((commitD d (last + 1) b).1, (commitD d (last + 1) b).2, last, true) := by
          unfold commitL
          rw [if_neg (not_not_intro hf), if_neg (by simp), if_neg hlm]
        have hco := (commitD_co (last + 1) h41 hf).1
        have HSTP := Lib.hid (fun W (hb : Below w.heap.size w W) => rsteps_calls (h.below hb) (hd.below hb) hqF A cap (hA.below hb) (hAF hf.1) hf hlm hl)
        have HQF := Lib.hid hqF
        rw [hr]
        obtain ⟨R, hR⟩ : ∃ R, commitD d (last + 1) b = R := ⟨_, rfl⟩
        rw [hR] at hco HSTP ⊢
        have HCO := Lib.hid hco
        clear h hd hqF hA hAF hf hst hr hR hco hlm
        go_enter Try.func40, Try.ntmps40
        go_wp2_with fail
        refine HRI.out.mono ?_
        rintro e w1 ⟨rfl, hb⟩
        clear x0 y0 x1 y1 x2 y2 x3 y3 u0 v0 u1 v1 u2 v2
        obtain ⟨x0, y0, x1, y1, x2, y2⟩ := blk3 (HLQ.out.below hb).1
        have HB := Lib.hid hb
        clear hb
        go_wp2_with fail
        refine (HSTP.out _ HB.out).mono ?_
        rintro e w2 ⟨rfl, hdev, hfr⟩
        have HDV := Lib.hid hdev
        have HFR := Lib.hid hfr
        clear x0 y0 x1 y1 x2 y2 hdev hfr
        obtain ⟨x0, y0, x1, y1, x2, y2⟩ := blk3 ((HLQ.out.below HB.out).keep HFR.out HQF.out).1
        by_cases h0 : R.1 = 0
        · have hb0 : (decide (R.1 = 0)) = true := decide_eq_true h0
          rw [hb0]
          go_wp2
          go_ret
          try rw [if_pos h0]
          exact rset_post HLQ.out HQF.out HB.out HDV.out HFR.out (by omega) (by rw [show ((last + 1 : Nat) : Int) = (last : Int) + 1 by omega]; rfl)
        · have hb0 : (decide (R.1 = 0)) = false := decide_eq_false h0
          rw [hb0]
          have h5 : R.1 = 5 := HCO.out.resolve_left h0
          go_wp2
          go_ret
          try rw [if_neg h0, h5]
          exact rset_post HLQ.out HQF.out HB.out HDV.out HFR.out HLQ.out.2 rfl
  · rw [← hsz, decide_eq_false hf, hsz] at HRI
    have e : commitL d last dead b = (1, d, last, dead) := by unfold commitL; rw [if_pos hf]
    rw [e]
    have HP := Lib.hid (fun W (hb : Below w.heap.size w W) => rcommitPost_same h hd hqF hb (c := 1))
    clear h hd hqF hA hAF hf e hst
    go_enter Try.func40, Try.ntmps40
    go_wp2_with fail
    refine HRI.out.mono ?_
    rintro e w1 ⟨rfl, hb⟩
    have HB := Lib.hid hb
    clear hb
    go_wp2
    go_ret
    exact HP.out _ HB.out
end Go.Proofs.Ytmdojgkgohmghaa.Wal
