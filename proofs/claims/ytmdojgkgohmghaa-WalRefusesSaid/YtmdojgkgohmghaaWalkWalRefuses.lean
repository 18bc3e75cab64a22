/- Layer wal: the walk of WalRefuses. -/
import Derived.Test.YtmdojgkgohmghaaWalM3
namespace Go.Proofs.Ytmdojgkgohmghaa.Wal
open Go.RowKit Go.Own Go.Blk Go.DevL Go.XdrL Go.WalL Go.OpsL Go.Sees Go.Proofs.Ytmdojgkgohmghaa.P04 Go.Proofs.Ytmdojgkgohmghaa.Xdr Go.Proofs.YtmdojgkgohmghaaW.PrintLast Go.Proofs.YtmdojgkgohmghaaW.PrintWords
open Go.Proofs.Ytmdojgkgohmghaa.Dev hiding stop_here execOp_build execOp_alloc execOp_store execOp_load execOp_buildSlice execOp_makeSlice execOp_box execOp_copy execOp_append wpList_val wpList_none Up
set_option linter.unusedVariables false
set_option linter.unusedSimpArgs false
set_option maxRecDepth 100000
theorem clamp46 : clamp 46 = 46 := by decide
theorem fresh46 : (fresh 46).firm.length = 46 := by simp [fresh, clamp46]
theorem size46 {d : Dv} (h : d.firm.length = 46) : sizeL d = 5 := by unfold sizeL; rw [h]; rfl
theorem open46 : openD (fresh 46) = (0, 0, fresh 46) := open_fresh 46 (by rw [clamp46]; decide)
set_option maxHeartbeats 16000000 in
theorem refuses_law {w : World} {A1 A2 : Option Addr} {c1 c2 : Nat} {b1 b2 : List (Int × ByteArray)} (hA1 : ArrAt w A1 ncells 2 b1) (hc1 : b1.length ≤ c1) (hm1 : b1.length ≤ 140737488355328) (hA2 : ArrAt w A2 ncells 2 b2) (hc2 : b2.length ≤ c2) (hm2 : b2.length ≤ 140737488355328) :
    Calls Try.prog 3 #[.slice A1 b1.length c1, .slice A2 b2.length c2] w fun e w' => e = .returned (.bool true) ∧ Below w.heap.size w w' := by
  have HA1 := Lib.hid hA1
  have HA2 := Lib.hid hA2
  clear hA1 hA2
  go_enter Try.func3, Try.ntmps3
  go_wp2_with fail
  refine (alive_calls _).mono ?_
  rintro e w1 ⟨rfl, hb⟩
  have HB1 := Lib.hid hb
  clear hb
  by_cases h100 : 100 < b2.length
  · have t1 : ((100 : Int) < (b2.length : Int)) = True := eq_true (by omega)
    go_wp2_with fail
    refine (alive_calls _).mono ?_
    rintro e w2 ⟨rfl, hb⟩
    have HB2 := Lib.hid (HB1.out.trans (hb.mono HB1.out.size))
    clear hb
    go_wp2
    go_ret
    exact ⟨rfl, HB2.out⟩
  have t1 : ((100 : Int) < (b2.length : Int)) = False := eq_false (by omega)
  go_wp2_with fail
  refine (right_law A1 c1 (HA1.out.below HB1.out) hc1 hm1).mono ?_
  rintro e w2 ⟨rfl, hb⟩
  have HB2 := Lib.hid (HB1.out.trans (hb.mono HB1.out.size))
  clear hb HB1
  by_cases hf0 : ¬ fit 5 b1
  · rw [decide_eq_false hf0]
    clear hf0
    go_wp2_with fail
    refine (alive_calls _).mono ?_
    rintro e w3 ⟨rfl, hb⟩
    have HB3 := Lib.hid (HB2.out.trans (hb.mono HB2.out.size))
    clear hb
    go_wp2
    go_ret
    exact ⟨rfl, HB3.out⟩
  have hf1 : fit 5 b1 := Decidable.not_not.1 hf0
  clear hf0
  rw [decide_eq_true hf1]
  have HF1 := Lib.hid hf1
  clear hf1
  go_wp2_with fail
  go_loopw [5] (fun s5 wr => ∃ i : Nat, i ≤ b2.length ∧ s5 = .int .i64 (i : Int) ∧ Hid (wr = w2)) (fun s5 _ => b2.length - (intOf s5).toNat)
  case atStart => exact ⟨0, Nat.zero_le _, by simp, Lib.hid rfl⟩
  case round =>
    obtain ⟨i, hi, rfl, hw⟩ := hrel
    obtain rfl := hw.out
    clear hw
    by_cases hil : i < b2.length
    · have hil' : ((i : Int) < (b2.length : Int)) = True := eq_true (by omega)
      obtain ⟨blk, off, rfl, hbw, hcs0⟩ := (HA2.out.below HB2.out) i hil
      obtain ⟨x, hx⟩ : ∃ x, b2[i] = x := ⟨_, rfl⟩
      rw [hx] at hcs0
      have cc := hcs0 1 _ rfl
      clear hcs0 hx
      by_cases hbig : 1000 < x.2.size
      · have t2 : ((1000 : Int) < (x.2.size : Int)) = True := eq_true (by omega)
        go_wp2_with fail
        refine (alive_calls _).mono ?_
        rintro e w3 ⟨rfl, hb⟩
        have HB3 := Lib.hid (HB2.out.trans (hb.mono HB2.out.size))
        clear hb
        go_wp2
        go_ret
        exact ⟨rfl, HB3.out⟩
      · have t2 : ((1000 : Int) < (x.2.size : Int)) = False := eq_false (by omega)
        go_wp2
        go_roundw
        case rel => exact ⟨i + 1, by omega, by first | rfl | go_num, by first | exact Lib.hid rfl | exact Lib.hid trivial⟩
        case measure => simp [intOf]; omega
    · have hil' : ((i : Int) < (b2.length : Int)) = False := eq_false (by omega)
      obtain ⟨d1, hcm1, hl1, hn1, ht1, hda1⟩ := commitL_fit (last := 0) (b := b1) (fresh_live 46) (by rw [size46 fresh46]; exact HF1.out) (by decide)
      have hd46 : d1.firm.length = 46 := hn1.trans fresh46
      have hres : ∃ e2 d2 n2, commitL d1 1 false b2 = (e2, d2, n2, false) ∧ d2.dead = false ∧ d2.firm.length = 46 ∧ ((fit 5 b2 ∧ e2 = 0) ∨ (¬ fit 5 b2 ∧ e2 = 1 ∧ n2 = 1 ∧ dataOf d2 = dataOf d1)) := by
        by_cases hf : fit 5 b2
        · obtain ⟨d2, hcm2, hl2, hn2, _, _⟩ := commitL_fit (last := 1) (b := b2) hl1 (by rw [size46 hd46]; exact hf) (by decide)
          exact ⟨0, d2, 2, hcm2, hl2.alive, hn2.trans hd46, .inl ⟨hf, rfl⟩⟩
        · exact ⟨1, d1, 1, commitL_no (by rw [size46 hd46]; exact hf), hl1.alive, hd46, .inr ⟨hf, rfl, rfl, rfl⟩⟩
      obtain ⟨e2, d2, n2, hcm2, hal2, hn2, hor⟩ := hres
      have hlen1 : (dataOf d1).length = 5 := by rw [dataOf_len, hd46]
      have hlen2 : (dataOf d2).length = 5 := by rw [dataOf_len, hn2]
      have HC1 := Lib.hid hcm1
      have HC2 := Lib.hid hcm2
      have HL1 := Lib.hid hl1
      have HAL2 := Lib.hid hal2
      have HOR := Lib.hid hor
      have HT1 := Lib.hid ht1
      have HT0 := Lib.hid (show (fresh 46).late.length ≤ 900000 by simp [fresh])
      obtain ⟨D1, hD1⟩ : ∃ D, dataOf d1 = D := ⟨_, rfl⟩
      obtain ⟨D2, hD2⟩ : ∃ D, dataOf d2 = D := ⟨_, rfl⟩
      rw [hD1] at hlen1
      rw [hD2] at hlen2
      rw [hD1, hD2] at HOR
      have HD := Lib.hid (And.intro hD1 hD2)
      obtain ⟨f, hf⟩ : ∃ f, fresh 46 = f := ⟨_, rfl⟩
      have HO := Lib.hid open46
      have HN := Lib.hid (has_new 46 w wr (X := []) HB2.out (fun k hk => by simp at hk))
      rw [hf] at HO HN HC1 HT0
      clear hcm1 hcm2 hl1 hal2 hor ht1 hda1 hn1 hn2 hd46 hD1 hD2 hf
      go_wp2_with fail
      refine HN.out.mono ?_
      rintro e w3 ⟨⟨p, rfl, h3⟩, _⟩
      have H3 := Lib.hid h3
      clear h3 HN
      go_wp2_with fail
      refine (has_open H3.out HT0.out).mono ?_
      rw [HO.out]
      rintro e w4 ⟨_, _, _, ho⟩
      rw [if_pos rfl] at ho
      obtain ⟨q, rfl, hL4, hqs, h4⟩ := ho
      have hqw : w.heap.size ≤ q := by have := H3.out.bel.size; omega
      have HL4 := Lib.hid hL4
      have H4 := Lib.hid h4
      clear hL4 h4 hqs H3 HO
      go_wp2_with fail
      refine (has_commit (b := b1) H4.out HL4.out (by simp) hqw A1 c1 (HA1.out.below H4.out.bel) (fun h0 a ha => .inl (arr_old HA1.out h0 a ha)) hm1 HT0.out).mono ?_
      rw [HC1.out]
      rintro e w5 ⟨rfl, h5, hL5, _⟩
      have H5 := Lib.hid h5
      have HL5 := Lib.hid hL5
      clear h5 hL5 H4 HL4 HC1
      go_wp2_with fail
      refine (datas_calls H5.out HL5.out HL1.out.alive).mono ?_
      rw [HD.out.1]
      rintro e w6 ⟨a6, c6, rfl, hr6, ho6, hb6⟩
      obtain ⟨g6, rfl, hg6, hg6l, hg6o⟩ := row_block hr6 (by omega)
      have H6 := Lib.hid (H5.out.more hb6 (ho6 g6 hg6o) hg6l)
      have HL6 := Lib.hid (HL5.out.below hb6)
      have HR6 := Lib.hid hr6
      have HQ6 := Lib.hid (show g6 ≠ q from fun e => by have := ho6 g6 hg6o; have := HL5.out.lt; omega)
      clear hr6 ho6 hb6 hg6l H5 HL5
      go_wp2_with fail
      refine (has_commit (b := b2) H6.out HL6.out (by simp) hqw A2 c2 (HA2.out.below H6.out.bel) (fun h0 a ha => .inl (arr_old HA2.out h0 a ha)) hm2 (by rw [HT1.out]; decide)).mono ?_
      rw [HC2.out]
      rintro e w7 ⟨rfl, h7, hL7, hk7, _⟩
      have H7 := Lib.hid h7
      have HL7 := Lib.hid hL7
      have HR7 := Lib.hid (row_kept HR6.out hg6o (hk7 g6 (by simp) HQ6.out))
      clear h7 hL7 hk7 H6 HL6 HR6 HC2
      go_wp2_with fail
      refine (datas_calls H7.out HL7.out HAL2.out).mono ?_
      rw [HD.out.2]
      rintro e w8 ⟨a8, c8, rfl, hr8, ho8, hb8⟩
      have H8 := Lib.hid (H7.out.below hb8)
      have HL8 := Lib.hid (HL7.out.below hb8)
      have HR8 := Lib.hid hr8
      have HR8' := Lib.hid (part_below HR7.out hb8)
      clear hr8 ho8 hb8 H7 HL7 HR7
      have hsm := fun W (hb : Below w8.heap.size w8 W) => same_law (part_below HR8'.out hb) (part_below HR8.out hb) (by omega) (by omega)
      rw [hlen1, hlen2] at hsm
      have HSM := Lib.hid hsm
      have HRI := Lib.hid (right_law A2 c2 (HA2.out.below H8.out.bel) hc2 hm2)
      clear hsm
      rcases HOR.out with ⟨hf2, rfl⟩ | ⟨hf2, rfl, rfl, hdd⟩
      · rw [decide_eq_true hf2] at HRI
        clear hf2 HOR
        go_wp2_with fail
        refine HRI.out.mono ?_
        rintro e w9 ⟨rfl, hb⟩
        have HB9 := Lib.hid (H8.out.bel.trans (hb.mono H8.out.bel.size))
        clear hb
        go_wp2_with fail
        refine (nil_lread 0 _).mono ?_
        rintro e w10 ⟨rfl, rfl⟩
        go_wp2_with fail
        refine (open_nil _).mono ?_
        rintro e w10 ⟨rfl, rfl⟩
        go_wp2_with fail
        refine (alive_calls _).mono ?_
        rintro e w11 ⟨rfl, hb⟩
        have HB11 := Lib.hid (HB9.out.trans (hb.mono HB9.out.size))
        clear hb
        go_wp2_with fail
        refine (nil_commit _ _).mono ?_
        rintro e w12 ⟨rfl, rfl⟩
        go_wp2_with fail
        refine (nil_size _).mono ?_
        rintro e w12 ⟨rfl, rfl⟩
        go_wp2_with fail
        refine (nil_last _).mono ?_
        rintro e w12 ⟨rfl, rfl⟩
        go_wp2
        go_ret
        exact ⟨rfl, HB11.out⟩
      · rw [decide_eq_false hf2] at HRI
        rw [decide_eq_true hdd.symm] at HSM
        clear hf2 HOR hdd
        go_wp2_with fail
        refine HRI.out.mono ?_
        rintro e wa ⟨rfl, hb⟩
        have HBA := Lib.hid hb
        clear hb
        go_wp2_with fail
        refine (HSM.out _ HBA.out).mono ?_
        rintro e wb ⟨rfl, hb⟩
        have HBB := Lib.hid (HBA.out.trans (hb.mono HBA.out.size))
        clear hb
        go_wp2_with fail
        refine (last_calls (HL8.out.below HBB.out)).mono ?_
        rintro e wb ⟨rfl, rfl⟩
        have HB9 := Lib.hid (H8.out.bel.trans (HBB.out.mono H8.out.bel.size))
        go_wp2_with fail
        refine (nil_lread 0 _).mono ?_
        rintro e w10 ⟨rfl, rfl⟩
        go_wp2_with fail
        refine (open_nil _).mono ?_
        rintro e w10 ⟨rfl, rfl⟩
        go_wp2_with fail
        refine (alive_calls _).mono ?_
        rintro e w11 ⟨rfl, hb⟩
        have HB11 := Lib.hid (HB9.out.trans (hb.mono HB9.out.size))
        clear hb
        go_wp2_with fail
        refine (nil_commit _ _).mono ?_
        rintro e w12 ⟨rfl, rfl⟩
        go_wp2_with fail
        refine (nil_size _).mono ?_
        rintro e w12 ⟨rfl, rfl⟩
        go_wp2_with fail
        refine (nil_last _).mono ?_
        rintro e w12 ⟨rfl, rfl⟩
        go_wp2
        go_ret
        exact ⟨rfl, HB11.out⟩
end Go.Proofs.Ytmdojgkgohmghaa.Wal
namespace Go.Proofs.Ytmdojgkgohmghaa.walRefuses
open Go.RowKit Go.Own Go.Sees Go.Proofs.Ytmdojgkgohmghaa.Wal
set_option maxRecDepth 100000
set_option linter.constructorNameAsVariable false
theorem walRefuses_walk (a0 : Option Addr) (len0 cap0 : Nat) (a1 : Option Addr) (len1 cap1 : Nat) (w : World) (w0 : Sees Try.prog w 140737488351232 5 22 [.slice a0 len0 cap0]) (w1 : Sees Try.prog w 140737488351232 5 22 [.slice a1 len1 cap1]) :
    Calls Try.prog 3 #[.slice a0 len0 cap0, .slice a1 len1 cap1] w fun e w' => e = .returned (.bool true) ∧ Below w.heap.size w w' := by
  obtain ⟨b1, rfl, l1, _, m1, hA1, _⟩ := sees_blocks (k := 2) w0
  obtain ⟨b2, rfl, l2, _, m2, hA2, _⟩ := sees_blocks (k := 2) w1
  exact refuses_law hA1 l1 (by omega) hA2 l2 (by omega)
end Go.Proofs.Ytmdojgkgohmghaa.walRefuses
