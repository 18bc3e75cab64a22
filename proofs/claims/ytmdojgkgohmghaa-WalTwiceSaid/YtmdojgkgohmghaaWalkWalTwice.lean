/- Layer wal: the walk of WalTwice. -/
import Derived.Test.YtmdojgkgohmghaaWalO
import Derived.OpenShut
namespace Go.Proofs.Ytmdojgkgohmghaa.Wal
open Go.RowKit Go.Own Go.Blk Go.DevL Go.XdrL Go.WalL Go.OpsL Go.Sees Go.Proofs.Ytmdojgkgohmghaa.P04 Go.Proofs.Ytmdojgkgohmghaa.Xdr Go.Proofs.YtmdojgkgohmghaaW.PrintLast Go.Proofs.YtmdojgkgohmghaaW.PrintWords
open Go.Proofs.Ytmdojgkgohmghaa.Dev hiding stop_here execOp_build execOp_alloc execOp_store execOp_load execOp_buildSlice execOp_makeSlice execOp_box execOp_copy execOp_append wpList_val wpList_none Up
set_option linter.unusedVariables false
set_option linter.unusedSimpArgs false
set_option maxRecDepth 100000
theorem then_inv {P : Dv → Prop} {r : Int × Dv} {f : Dv → Int × Dv} (h : P r.2) (hf : ∀ d, P d → P (f d).2) : P (andThen r f).2 := by
  unfold andThen
  split
  · exact hf _ h
  · exact h
theorem wrs_inv {P : Dv → Prop} (hw : ∀ d i x, P d → P (d.write i x).2) : ∀ (l : List (Int × ByteArray)) (d : Dv), P d → P (WalL.wrs d l).2
  | [], d, h => h
  | x :: l, d, h => by
    simp only [WalL.wrs]
    split
    · exact wrs_inv hw l _ (hw _ _ _ h)
    · exact hw _ _ _ h
theorem commit_inv {P : Dv → Prop} (hw : ∀ d i x, P d → P (d.write i x).2) (hb : ∀ d, P d → P d.barrier.2) {d : Dv} (h : P d) (n : Nat) (b : List (Int × ByteArray)) : P (commitD d n b).2 := by
  unfold commitD
  exact then_inv (wrs_inv hw _ _ h) fun d h => then_inv (hb _ h) fun d h => then_inv (hw _ _ _ h) fun d h => then_inv (hb _ h) fun d h => then_inv (wrs_inv hw _ _ h) fun d h => hb _ h
def OkN (N : Nat) (d : Dv) : Prop := d.OK ∧ d.firm.length = N
theorem okn_write {N : Nat} (d : Dv) (i : Int) (x : ByteArray) (h : OkN N d) : OkN N (d.write i x).2 := by
  refine ⟨h.1.write i x, ?_⟩
  unfold Dv.write
  split
  · exact h.2
  · split
    · exact h.2
    · exact h.2
theorem okn_barrier {N : Nat} (d : Dv) (h : OkN N d) : OkN N d.barrier.2 := by
  refine ⟨h.1.barrier, ?_⟩
  unfold Dv.barrier
  split
  · exact h.2
  · exact h.1.now_length.trans h.2
theorem okn_crash {N : Nat} {d : Dv} (h : OkN N d) (keep : Int) : OkN N (d.crash keep) := ⟨h.1.crash keep, (kept_length keep _ _ _).trans h.2⟩
theorem crash_live {N : Nat} {d : Dv} (h : OkN N d) (keep : Int) : Live (d.crash keep) := ⟨h.1.crash keep, rfl, rfl⟩
theorem crash_same {d : Dv} (h : Live d) (hl : d.late = []) (keep : Int) : d.crash keep = d := by
  obtain ⟨firm, late, fuse, dead⟩ := d
  have h1 : dead = false := h.alive
  have h2 : fuse = -1 := h.nofuse
  have h3 : late = [] := hl
  subst h1 h2 h3
  rfl
theorem markOf_zero : markOf (rep8 0 256) = (0, 0, false) := by
  unfold markOf
  have e4 : (rep8 0 256).extract 0 4 = zeros 4 := by kernel_rfl
  rw [e4, if_neg (by decide)]
theorem commitL_dev {d : Dv} {last : Nat} {b : List (Int × ByteArray)} (hf : fit (sizeL d) b) (hl : last ≠ 4294967295) : ∃ e n dd, commitL d last false b = (e, (commitD d (last + 1) b).2, n, dd) := by
  unfold commitL
  rw [if_neg (not_not_intro hf), if_neg (by simp), if_neg hl]
  split
  · exact ⟨_, _, _, rfl⟩
  · exact ⟨_, _, _, rfl⟩
/-- All that WalTwice comes to. -/
theorem twice_chain {b1 b2 : List (Int × ByteArray)} (hf1 : fit 5 b1) (hf2 : fit 5 b2) (f keep : Int) (hf : f ≤ 1000) : ∃ e1 d1 l1 q1 d3 n d4 d5 d7 D, commitL ((fresh 46).light f) 0 false b1 = (e1, d1, l1, q1) ∧ d1.late.length ≤ 900000 ∧
    openD (d1.crash keep) = (0, n, d3) ∧ d3.dead = false ∧ d3.late = [] ∧ dataOf d3 = D ∧ openD d3 = (0, n, d4) ∧ d4.dead = false ∧ d4.late = [] ∧ dataOf d4 = D ∧ D.length = 5 ∧
    commitL d4 n false b2 = (0, d5, n + 1, false) ∧ d5.late = [] ∧ openD (d5.crash 0) = (0, n + 1, d7) ∧ d7.dead = false ∧ dataOf d7 = afterL D b2 := by
  have h0 : OkN 46 ((fresh 46).light f) := ⟨(fresh_ok 46).light (by omega), fresh46⟩
  obtain ⟨e1, l1, q1, hc⟩ := commitL_dev (d := (fresh 46).light f) (last := 0) (b := b1) (by rw [size46 h0.2]; exact hf1) (by decide)
  have h1 : OkN 46 (commitD ((fresh 46).light f) (0 + 1) b1).2 := commit_inv okn_write okn_barrier h0 _ _
  have hlate := commit_late ((fresh 46).light f) (0 + 1) b1
  have hz0 : Zero (fun x => x = rep8 0 256 ∨ x = WalL.mark 1 b1.length) ((fresh 46).light f) :=
    ⟨.inl (by show (List.replicate (clamp 46) (rep8 0 256)).getD 0 _ = _; rw [clamp46]; rfl), fun x hx => by simp [Dv.light, fresh] at hx, by show 0 < (fresh 46).firm.length; rw [fresh46]; omega⟩
  have hz1 := (hz0.commit (0 + 1) (fun x hx => (fit_mem hf1 hx).1) (.inr rfl)).crash keep
  obtain ⟨d1, hd1⟩ : ∃ d, (commitD ((fresh 46).light f) (0 + 1) b1).2 = d := ⟨_, rfl⟩
  rw [hd1] at hc h1 hlate hz1
  have hlv := crash_live h1 keep
  have hok2 := okn_crash h1 keep
  obtain ⟨n, d3, d4, o3, o4, v3, v4, t3, t4, n3, n4, hdd, hn⟩ := open_twice hlv (by rw [hok2.2]; omega) rfl
  have hb40 := hf1.2.1
  have hn1 : n ≤ 1 := by
    rw [hn]
    rcases hz1.now with e | e
    · rw [e, markOf_zero]; decide
    · rw [e, markOf_mark 1 b1.length (by decide) (by omega)]; exact Nat.le_refl _
  have hs4 : sizeL d4 = 5 := size46 (n4.trans hok2.2)
  obtain ⟨d5, e5, v5, n5, t5, hd5⟩ := v4.commit_data (n + 1) (b := b2) (by rw [hs4]; exact hf2)
  obtain ⟨d7, o7, v7, hd7⟩ := open_commit v4 (n + 1) (by omega) (by rw [hs4]; exact hf2) e5
  refine ⟨e1, d1, l1, q1, d3, n, d4, d5, d7, dataOf d3, hc, ?_, o3, v3.alive, t3, rfl, o4, v4.alive, t4, hdd, ?_, ?_, t5, ?_, v7.alive, ?_⟩
  · have : ((fresh 46).light f).late.length = 0 := rfl
    omega
  · rw [dataOf_len, n3, hok2.2]
  · unfold commitL
    rw [hs4, if_neg (not_not_intro hf2), if_neg (by simp), if_neg (by omega), e5, if_pos rfl]
  · rw [crash_same v5 t5]; exact o7
  · rw [hd7, hd5, hdd]
set_option maxHeartbeats 16000000 in
theorem twice_law {w : World} {A1 A2 : Option Addr} {c1 c2 : Nat} {b1 b2 : List (Int × ByteArray)} (hA1 : ArrAt w A1 ncells 2 b1) (hc1 : b1.length ≤ c1) (hm1 : b1.length ≤ 140737488355328) (hA2 : ArrAt w A2 ncells 2 b2) (hc2 : b2.length ≤ c2) (hm2 : b2.length ≤ 140737488355328)
    (fu keep : Int) (hfu0 : 0 ≤ fu) (hfu1 : fu < 256) (hk0 : 0 ≤ keep) (hk1 : keep < 18446744073709551616) :
    Calls Try.prog 6 #[.slice A1 b1.length c1, .slice A2 b2.length c2, .int .u8 fu, .int .u64 keep] w fun e w' => e = .returned (.bool true) ∧ Below w.heap.size w w' := by
  have HA1 := Lib.hid hA1
  have HA2 := Lib.hid hA2
  clear hA1 hA2
  go_enter Try.func6, Try.ntmps6
  go_wp2_with fail
  refine (alive_calls _).mono ?_
  rintro e w1 ⟨rfl, hb⟩
  have HB1 := Lib.hid hb
  clear hb
  go_wp2_with fail
  refine (right_law A1 c1 (HA1.out.below HB1.out) hc1 hm1).mono ?_
  rintro e w2 ⟨rfl, hb⟩
  have HB2 := Lib.hid (HB1.out.trans (hb.mono HB1.out.size))
  clear hb HB1
  by_cases hf0 : ¬ fit 5 b1
  · rw [decide_eq_false hf0]
    clear hf0
    go_wp2_with fail
    refine (alive_calls _).mono ?_
    rintro e w3 ⟨rfl, hb⟩
    have HB3 := Lib.hid (HB2.out.trans (hb.mono HB2.out.size))
    clear hb
    go_wp2
    go_ret
    exact ⟨rfl, HB3.out⟩
  have hf1 : fit 5 b1 := Decidable.not_not.1 hf0
  clear hf0
  rw [decide_eq_true hf1]
  have HF1 := Lib.hid hf1
  clear hf1
  go_wp2_with fail
  refine (right_law A2 c2 (HA2.out.below HB2.out) hc2 hm2).mono ?_
  rintro e w3 ⟨rfl, hb⟩
  have HB3 := Lib.hid (HB2.out.trans (hb.mono HB2.out.size))
  clear hb HB2
  by_cases hf0 : ¬ fit 5 b2
  · rw [decide_eq_false hf0]
    clear hf0
    go_wp2_with fail
    refine (alive_calls _).mono ?_
    rintro e w4 ⟨rfl, hb⟩
    have HB4 := Lib.hid (HB3.out.trans (hb.mono HB3.out.size))
    clear hb
    go_wp2
    go_ret
    exact ⟨rfl, HB4.out⟩
  have hf2 : fit 5 b2 := Decidable.not_not.1 hf0
  clear hf0
  rw [decide_eq_true hf2]
  have HF2 := Lib.hid hf2
  have hb40 := hf2.2.1
  have HFT := Lib.hid (show ∀ x ∈ b2, 0 ≤ x.1 ∧ x.1 < 5 ∧ x.2.size ≤ 248 from hf2.2.2.1)
  clear hf2
  have HT0 := Lib.hid (show (fresh 46).late.length ≤ 900000 by simp [fresh])
  have HO := Lib.hid open46
  have HCH := Lib.hid (fun f (h : f ≤ 1000) => twice_chain HF1.out HF2.out f keep h)
  have HN1 := Lib.hid (has_new 46 w w3 (X := []) HB3.out (fun k hk => by simp at hk))
  have HTL := Lib.hid (fun f => (show ((fresh 46).light f).late.length ≤ 900000 by simp [fresh, Dv.light]))
  obtain ⟨f0, hf0⟩ : ∃ f, fresh 46 = f := ⟨_, rfl⟩
  rw [hf0] at HT0 HO HCH HN1 HTL
  clear hf0
  go_wp2_with fail
  refine HN1.out.mono ?_
  rintro e w4 ⟨⟨p, rfl, h4⟩, _⟩
  have H4 := Lib.hid h4
  clear h4 HN1
  go_wp2_with fail
  refine (has_open H4.out HT0.out).mono ?_
  rw [HO.out]
  rintro e w5 ⟨_, _, _, ho⟩
  rw [if_pos rfl] at ho
  obtain ⟨q, rfl, hL5, hqs, h5⟩ := ho
  have hqw : w.heap.size ≤ q := by have := H4.out.bel.size; omega
  have HL5 := Lib.hid hL5
  have H5 := Lib.hid h5
  clear hL5 h5 hqs H4 HO
  obtain ⟨e1, d1, l1, q1, d3, n, d4, d5, d7, D, hcm1, hlt1, ho3, hal3, ht3, hD3, ho4, hal4, ht4, hD4, hlen, hcm2, ht5, ho7, hal7, hD7⟩ := HCH.out (fu % 20) (by omega)
  have hfu : fu % 20 ≤ 9223372036854775807 := by omega
  have HC1 := Lib.hid hcm1
  have HLT := Lib.hid hlt1
  have HO3 := Lib.hid ho3
  have HO4 := Lib.hid ho4
  have HC2 := Lib.hid hcm2
  have HO7 := Lib.hid ho7
  have HAL := Lib.hid (And.intro hal3 (And.intro hal4 hal7))
  have HTT := Lib.hid (And.intro ht3 (And.intro ht4 ht5))
  have HD := Lib.hid (And.intro hD3 (And.intro hD4 hD7))
  clear hcm1 hlt1 ho3 ho4 hcm2 ho7 hal3 hal4 hal7 ht3 ht4 ht5 hD3 hD4 hD7 HCH
  go_wp2_with fail
  refine (has_fuse H5.out (fu % 20) hfu).mono ?_
  rintro e w6 ⟨rfl, h6, hk6, _⟩
  have H6 := Lib.hid h6
  have HL6 := Lib.hid (HL5.out.kept hk6 (by simp))
  clear h6 hk6 H5 HL5
  go_wp2_with fail
  refine (has_commit (b := b1) H6.out HL6.out (by simp) hqw A1 c1 (HA1.out.below H6.out.bel) (fun h0 a ha => .inl (arr_old HA1.out h0 a ha)) hm1 (HTL.out _)).mono ?_
  rw [HC1.out]
  rintro e w7 ⟨rfl, h7, _, _, _⟩
  have H7 := Lib.hid h7
  clear h7 H6 HL6 HC1 HTL
  go_wp2_with fail
  refine (has_crash H7.out keep hk0 hk1 (by have := HLT.out; omega)).mono ?_
  rintro e w8 ⟨rfl, h8, _, _⟩
  have H8 := Lib.hid (h8.less (Y := []) (fun k hk => by simp at hk))
  clear h8 H7 HLT
  go_wp2_with fail
  refine (has_open H8.out (by show 0 ≤ 900000; omega)).mono ?_
  rw [HO3.out]
  rintro e w9 ⟨_, _, _, ho⟩
  rw [if_pos rfl] at ho
  obtain ⟨qa, rfl, hL9, hqs, h9⟩ := ho
  have HLa9 := Lib.hid hL9
  have H9 := Lib.hid h9
  clear hL9 h9 hqs H8 HO3
  go_wp2_with fail
  refine (datas_calls H9.out HLa9.out HAL.out.1).mono ?_
  rw [HD.out.1, hlen]
  rintro e w10 ⟨ax, cx, rfl, hr, ho, hb⟩
  obtain ⟨gx, rfl, -, hgl, hgo⟩ := row_block hr (by omega)
  have H10 := Lib.hid (H9.out.more hb (ho gx hgo) hgl)
  have HLa10 := Lib.hid (HLa9.out.below hb)
  have HX10 := Lib.hid hr
  clear hr ho hb hgl hgo H9 HLa9
  go_wp2_with fail
  refine (has_open H10.out (by rw [HTT.out.1]; decide)).mono ?_
  rw [HO4.out]
  rintro e w11 ⟨_, hk, _, ho⟩
  rw [if_pos rfl] at ho
  obtain ⟨qb, rfl, hL11, hqs, h11⟩ := ho
  have hqbw : w.heap.size ≤ qb := by have := H10.out.bel.size; omega
  have HNE := Lib.hid (show gx ≠ qb ∧ qa ≠ qb from ⟨by have := H10.out.lt (k := gx) (by simp); omega, by have := H10.out.lt (k := qa) (by simp); omega⟩)
  have HLb11 := Lib.hid hL11
  have HLa11 := Lib.hid (HLa10.out.kept hk (by simp))
  have HX11 := Lib.hid (part_kept HX10.out fun k hk' => by cases hk'; exact hk gx (by simp))
  have H11 := Lib.hid h11
  clear hL11 h11 hqs hk H10 HLa10 HX10 HO4
  go_wp2_with fail
  refine (datas_calls H11.out HLb11.out HAL.out.2.1).mono ?_
  rw [HD.out.2.1, hlen]
  rintro e w12 ⟨ay, cy, rfl, hr, ho, hb⟩
  obtain ⟨gy, rfl, -, hgl, hgo⟩ := row_block hr (by omega)
  have HNY := Lib.hid (show gy ≠ qb from fun e => by have := ho gy hgo; have := HLb11.out.lt; omega)
  have H12 := Lib.hid (H11.out.more hb (ho gy hgo) hgl)
  have HLa12 := Lib.hid (HLa11.out.below hb)
  have HLb12 := Lib.hid (HLb11.out.below hb)
  have HX12 := Lib.hid (part_below HX11.out hb)
  have HY12 := Lib.hid hr
  clear hr ho hb hgl hgo H11 HLa11 HLb11 HX11
  have hsm := same_law (A := some ⟨gx, 0, none⟩) (A' := some ⟨gy, 0, none⟩) (c := cx) (c' := cy) (w := w12) (l := D) (l' := D) (by rw [hlen]; exact HX12.out) (by rw [hlen]; exact HY12.out) (by omega) (by omega)
  rw [hlen, decide_eq_true (rfl : D = D)] at hsm
  have HSM := Lib.hid hsm
  clear hsm
  go_wp2_with fail
  refine HSM.out.mono ?_
  rintro e w13 ⟨rfl, hb⟩
  have H13 := Lib.hid (H12.out.below hb)
  have HLa13 := Lib.hid (HLa12.out.below hb)
  have HLb13 := Lib.hid (HLb12.out.below hb)
  have HY13 := Lib.hid (part_below HY12.out hb)
  clear hb H12 HLa12 HLb12 HX12 HY12 HSM
  go_wp2_with fail
  refine (last_calls HLa13.out).mono ?_
  rintro e w14 ⟨rfl, rfl⟩
  go_wp2_with fail
  refine (last_calls HLb13.out).mono ?_
  rintro e w14 ⟨rfl, rfl⟩
  go_wp2_with fail
  refine (has_commit (b := b2) H13.out HLb13.out (by simp) hqbw A2 c2 (HA2.out.below H13.out.bel) (fun h0 a ha => .inl (arr_old HA2.out h0 a ha)) hm2 (by rw [HTT.out.2.1]; decide)).mono ?_
  rw [HC2.out]
  rintro e w14 ⟨rfl, h14, _, hk14, _⟩
  have H14 := Lib.hid h14
  have HY14 := Lib.hid (part_kept HY13.out fun k hk' => by cases hk'; exact hk14 gy (by simp) HNY.out)
  clear h14 hk14 H13 HLa13 HLb13 HY13 HC2
  go_wp2_with fail
  refine (has_crash H14.out 0 (by decide) (by decide) (by rw [HTT.out.2.2]; decide)).mono ?_
  rintro e w15 ⟨rfl, h15, hk15, _⟩
  have H15 := Lib.hid h15
  have HY15 := Lib.hid (part_kept HY14.out fun k hk' => by cases hk'; exact hk15 gy (by simp))
  clear h15 hk15 H14 HY14
  go_wp2_with fail
  refine (has_open H15.out (by show 0 ≤ 900000; omega)).mono ?_
  rw [HO7.out]
  rintro e w16 ⟨_, hk, _, ho⟩
  rw [if_pos rfl] at ho
  obtain ⟨qc, rfl, hL16, hqs, h16⟩ := ho
  have HLc16 := Lib.hid hL16
  have HY16 := Lib.hid (part_kept HY15.out fun k hk' => by cases hk'; exact hk gy (by simp))
  have H16 := Lib.hid h16
  clear hL16 h16 hqs hk H15 HY15 HO7
  have hlz : (afterL D b2).length = 5 := by rw [after_len, hlen]
  go_wp2_with fail
  refine (datas_calls H16.out HLc16.out HAL.out.2.2).mono ?_
  rw [HD.out.2.2, hlz]
  rintro e w17 ⟨az, cz, rfl, hrz, _, hb⟩
  have HB17 := Lib.hid (H16.out.bel.trans (hb.mono H16.out.bel.size))
  have HY17 := Lib.hid (part_below HY16.out hb)
  have HZ17 := Lib.hid hrz
  clear hrz hb H16 HLc16 HY16
  go_wp2_with fail
  refine (alive_calls _).mono ?_
  rintro e w18 ⟨rfl, hb⟩
  have HB18 := Lib.hid (HB17.out.trans (hb.mono HB17.out.size))
  have HY18 := Lib.hid (part_below HY17.out hb)
  have HZ18 := Lib.hid (part_below HZ17.out hb)
  clear hb HB17 HY17 HZ17
  have haf := after_law (A := some ⟨gy, 0, none⟩) (c := cy) (c' := c2) (w := w18) (l := D) (by rw [hlen]; exact HY18.out) (HA2.out.below HB18.out) hc2 (by omega) hb40 (fun x hx => by rw [hlen]; exact HFT.out x hx)
  rw [hlen] at haf
  have HAFT := Lib.hid haf
  clear haf
  go_wp2_with fail
  refine HAFT.out.mono ?_
  rintro e w19 ⟨v, rfl, hv, _, hb⟩
  obtain ⟨av, cv, rfl, -⟩ := part_form hv
  have hsm := same_law (A := az) (A' := av) (c := cz) (c' := cv) (w := w19) (l := afterL D b2) (l' := afterL D b2) (by rw [hlz]; exact part_below HZ18.out hb) hv (by omega) (by omega)
  rw [hlz, decide_eq_true (rfl : afterL D b2 = afterL D b2)] at hsm
  have HSM := Lib.hid hsm
  have HB19 := Lib.hid (HB18.out.trans (hb.mono HB18.out.size))
  rw [hlz]
  clear hsm hv hb
  go_wp2_with fail
  refine HSM.out.mono ?_
  rintro e w20 ⟨rfl, hb⟩
  have HB20 := Lib.hid (HB19.out.trans (hb.mono HB19.out.size))
  clear hb
  go_wp2
  go_ret
  exact ⟨rfl, HB20.out⟩
end Go.Proofs.Ytmdojgkgohmghaa.Wal
namespace Go.Proofs.Ytmdojgkgohmghaa.walTwice
open Go.RowKit Go.Own Go.Sees Go.Proofs.Ytmdojgkgohmghaa.Wal
set_option maxRecDepth 100000
set_option linter.constructorNameAsVariable false
theorem walTwice_walk (a0 : Option Addr) (len0 cap0 : Nat) (a1 : Option Addr) (len1 cap1 : Nat) (a2 a3 : Int) (w : World) (w0 : Sees Try.prog w 140737488351232 5 22 [.slice a0 len0 cap0]) (w1 : Sees Try.prog w 140737488351232 5 22 [.slice a1 len1 cap1]) (w2 : (Lit.int .u8 a2).wf = true) (w3 : (Lit.int .u64 a3).wf = true) :
    Calls Try.prog 6 #[.slice a0 len0 cap0, .slice a1 len1 cap1, .int .u8 a2, .int .u64 a3] w fun e w' => e = .returned (.bool true) ∧ Below w.heap.size w w' := by
  obtain ⟨b1, rfl, l1, _, m1, hA1, _⟩ := sees_blocks (k := 2) w0
  obtain ⟨b2, rfl, l2, _, m2, hA2, _⟩ := sees_blocks (k := 2) w1
  have h2 := bounds_u8 w2
  have h3 := bounds_u64 w3
  exact twice_law hA1 l1 (by omega) hA2 l2 (by omega) a2 a3 (by omega) (by omega) (by omega) (by omega)
end Go.Proofs.Ytmdojgkgohmghaa.walTwice
