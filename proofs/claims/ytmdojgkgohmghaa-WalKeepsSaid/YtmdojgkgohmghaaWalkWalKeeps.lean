/- Layer wal: the walk of WalKeeps. -/
import Derived.Test.YtmdojgkgohmghaaWalS
namespace Go.Proofs.Ytmdojgkgohmghaa.Wal
open Go.RowKit Go.Own Go.Blk Go.DevL Go.XdrL Go.WalL Go.OpsL Go.Sees Go.Proofs.Ytmdojgkgohmghaa.P04 Go.Proofs.Ytmdojgkgohmghaa.Xdr Go.Proofs.YtmdojgkgohmghaaW.PrintLast Go.Proofs.YtmdojgkgohmghaaW.PrintWords
open Go.Proofs.Ytmdojgkgohmghaa.Dev hiding stop_here execOp_build execOp_alloc execOp_store execOp_load execOp_buildSlice execOp_makeSlice execOp_box execOp_copy execOp_append wpList_val wpList_none Up
set_option linter.unusedVariables false
set_option linter.unusedSimpArgs false
set_option maxRecDepth 100000
set_option maxHeartbeats 32000000 in
theorem keeps_law {w : World} {A1 : Option Addr} {c1 : Nat} {b : List (Int × ByteArray)} (more : ByteArray) (hmo : more.size ≤ 140737488351232) (hA1 : ArrAt w A1 ncells 2 b) (hc1 : b.length ≤ c1) (hm1 : b.length ≤ 140737488355328) :
    Calls Try.prog 5 #[.slice A1 b.length c1, .string more] w fun e w' => e = .returned (.bool true) ∧ Below w.heap.size w w' := by
  have HA1 := Lib.hid hA1
  clear hA1
  go_enter Try.func5, Try.ntmps5
  go_wp2_with fail
  refine (alive_calls _).mono ?_
  rintro e w1 ⟨rfl, hb⟩
  have HB1 := Lib.hid hb
  clear hb
  go_wp2_with fail
  refine (right_law A1 c1 (HA1.out.below HB1.out) hc1 hm1).mono ?_
  rintro e w2 ⟨rfl, hb⟩
  have HB2 := Lib.hid (HB1.out.trans (hb.mono HB1.out.size))
  clear hb HB1
  by_cases hf0 : ¬ fit 5 b
  · rw [decide_eq_false hf0]
    clear hf0
    go_wp2_with fail
    refine (alive_calls _).mono ?_
    rintro e w3 ⟨rfl, hb⟩
    have HB3 := Lib.hid (HB2.out.trans (hb.mono HB2.out.size))
    clear hb
    go_wp2
    go_ret
    exact ⟨rfl, HB3.out⟩
  have hf1 : fit 5 b := Decidable.not_not.1 hf0
  clear hf0
  rw [decide_eq_true hf1]
  have HF1 := Lib.hid hf1
  clear hf1
  by_cases hbig : 200 < more.size
  · have t1 : ((200 : Int) < (more.size : Int)) = True := eq_true (by omega)
    go_wp2_with fail
    refine (alive_calls _).mono ?_
    rintro e w3 ⟨rfl, hb⟩
    have HB3 := Lib.hid (HB2.out.trans (hb.mono HB2.out.size))
    clear hb
    go_wp2
    go_ret
    exact ⟨rfl, HB3.out⟩
  have t1 : ((200 : Int) < (more.size : Int)) = False := eq_false (by omega)
  have hl1 := HF1.out.1
  have hb40 := HF1.out.2.1
  have HFT := Lib.hid (show ∀ x ∈ b, 0 ≤ x.1 ∧ x.1 < 5 ∧ x.2.size ≤ 248 from HF1.out.2.2.1)
  obtain ⟨d1, hcm1, hlv1, hn1, ht1, hda1⟩ := commitL_fit (last := 0) (b := b) (fresh_live 46) (by rw [size46 fresh46]; exact HF1.out) (by decide)
  have hlen1 : (dataOf d1).length = 5 := by rw [dataOf_len, hn1, fresh46]
  rw [data_fresh, clamp46] at hda1
  obtain ⟨D, hD⟩ : ∃ D, dataOf d1 = D := ⟨_, rfl⟩
  rw [hD] at hlen1 hda1
  have HZ := Lib.hid (show afterL [zeros 248, zeros 248, zeros 248, zeros 248, zeros 248] b = D from hda1.symm)
  have HDD := Lib.hid hD
  have HC1 := Lib.hid hcm1
  have HLV := Lib.hid hlv1.alive
  have HT0 := Lib.hid (show (fresh 46).late.length ≤ 900000 by simp [fresh])
  have HO := Lib.hid open46
  have HN1 := Lib.hid (has_new 46 w w2 (X := []) HB2.out (fun k hk => by simp at hk))
  obtain ⟨f, hf⟩ : ∃ f, fresh 46 = f := ⟨_, rfl⟩
  rw [hf] at HC1 HT0 HO HN1
  clear hcm1 hlv1 hn1 ht1 hda1 hD hf
  go_wp2_with fail
  refine HN1.out.mono ?_
  rintro e w3 ⟨⟨p, rfl, h3⟩, _⟩
  have H3 := Lib.hid h3
  clear h3 HN1
  go_wp2_with fail
  refine (has_open H3.out HT0.out).mono ?_
  rw [HO.out]
  rintro e w4 ⟨_, _, _, ho⟩
  rw [if_pos rfl] at ho
  obtain ⟨q, rfl, hL4, hqs, h4⟩ := ho
  have hqw : w.heap.size ≤ q := by have := H3.out.bel.size; omega
  have HL4 := Lib.hid hL4
  have H4 := Lib.hid h4
  clear hL4 h4 hqs H3 HO
  -- the two copies
  have mk : ∀ W : World, Below w.heap.size w W → ∃ g cp w', (Builtin.append_ #[22, 22] 22 #[.slice (some ⟨W.heap.size, 0, none⟩) 0 0, .slice A1 b.length c1]).run Try.prog (W.alloc (.cells #[] 26)) = .ok (.slice (some ⟨g, 0, none⟩) b.length cp) w' ∧ NR w' (.slice (some ⟨g, 0, none⟩) b.length cp) b ∧ Below W.heap.size W w' ∧ W.heap.size ≤ g ∧ g < w'.heap.size ∧ b.length ≤ cp := fun W hW => by
    have hb0 : Below W.heap.size W (W.alloc (.cells #[] 26)) := (Below.refl _ _).alloc (Nat.le_refl _) _
    obtain ⟨u, w', hr, hn, hf, ho⟩ := nappend (W.alloc (.cells #[] 26)) (u := .slice (some ⟨W.heap.size, 0, none⟩) 0 0) (l := []) (part_empty W 0 26 2 (Nat.zero_le _)) A1 c1 b (shows_all ((HA1.out.below hW).below hb0) (by omega)) (by simp) (by omega)
    rw [List.nil_append] at hn
    obtain ⟨g, cp, e, _⟩ := nrow_get hn 0 (by omega)
    subst e
    have hcp : b.length ≤ cp := by obtain ⟨_, _, e, h1, _⟩ := part_form hn; cases e; exact h1
    refine ⟨g, cp, w', hr, hn, hb0.trans (hf.below hb0.size (fun k hk => ?_)), ?_, (hn.lt g rfl).2, hcp⟩
    · simp only [Value.ownBlock, Option.some.injEq] at hk; omega
    · rcases ho g rfl with e | e
      · simp only [Value.ownBlock, Option.some.injEq] at e; omega
      · have := hb0.size; omega
  have MK := Lib.hid mk
  clear mk
  obtain ⟨gc, cpc, w5, hr5, hn5, hb5, hg5, hg5l, _⟩ := MK.out w4 H4.out.bel
  have H5 := Lib.hid (H4.out.more hb5 hg5 hg5l)
  obtain ⟨gw, cpw, w6, hr6, hn6, hb6, hg6, hg6l, hcpw⟩ := MK.out w5 H5.out.bel
  have H6 := Lib.hid (H5.out.more hb6 hg6 hg6l)
  have HL6 := Lib.hid ((HL4.out.below hb5).below hb6)
  have HR5 := Lib.hid hr5
  have HR6 := Lib.hid hr6
  have HCC6 := Lib.hid (part_below hn5 hb6)
  have HW6 := Lib.hid hn6
  have hgcw : w.heap.size ≤ gc := by have := H4.out.bel.size; omega
  have HNE := Lib.hid (show gc ≠ q ∧ gw ≠ q ∧ gw ≠ gc from ⟨by have := HL4.out.lt; omega, by have := HL4.out.lt; have := hb5.size; omega, by omega⟩)
  clear hr5 hn5 hb5 hg5 hg5l hr6 hn6 hb6 hg6 hg6l H4 H5 HL4 MK
  go_wp2_with ((with_reducible refine gate_dst (N := 30) rfl ?_); refine wpList_val rfl rfl (execOp_buildSlice (ps := #[]) rfl rfl (run_none_blk _)) ?_; refine stop_here ?_)
  refine Lib.hid ?_
  go_wp2_with ((with_reducible refine gate_dst (N := 32) rfl ?_); refine wpList_val rfl rfl (execOp_append rfl rfl rfl HR5.out) ?_; refine stop_here ?_)
  refine Lib.hid ?_
  go_wp2_with ((with_reducible refine gate_dst (N := 33) rfl ?_); refine wpList_val rfl rfl (execOp_buildSlice (ps := #[]) rfl rfl (run_none_blk _)) ?_; refine stop_here ?_)
  refine Lib.hid ?_
  go_wp2_with ((with_reducible refine gate_dst (N := 35) rfl ?_); refine wpList_val rfl rfl (execOp_append rfl rfl rfl HR6.out) ?_; refine stop_here ?_)
  refine Lib.hid ?_
  clear HR5 HR6
  go_wp2_with fail
  refine (has_commit (b := b) H6.out HL6.out (by simp) hqw (some ⟨gc, 0, none⟩) cpc (arr_of_row HCC6.out) (fun h0 a ha => by cases ha; exact .inr (by simp)) hm1 HT0.out).mono ?_
  rw [HC1.out]
  rintro e w7 ⟨rfl, h7, hL7, hk7, _⟩
  have H7 := Lib.hid h7
  have HL7 := Lib.hid hL7
  have HCC7 := Lib.hid (part_kept HCC6.out fun k hk' => by cases hk'; exact hk7 gc (by simp) HNE.out.1)
  have HW7 := Lib.hid (part_kept HW6.out fun k hk' => by cases hk'; exact hk7 gw (by simp) HNE.out.2.1)
  clear h7 hL7 hk7 H6 HL6 HCC6 HW6 HC1
  go_wp2_with fail
  go_loopw [10] (fun s10 wr => ∃ i : Nat, i ≤ b.length ∧ s10 = .int .i64 (i : Int) ∧ ∃ lc : List (Int × ByteArray), Hid (lc.length = b.length ∧ ∀ j, i ≤ j → lc[j]? = b[j]?) ∧ Hid (partRow wr 0 26 2 (.slice (some ⟨gc, 0, none⟩) b.length cpc) lc.length (nrow lc)) ∧ Hid (NR wr (.slice (some ⟨gw, 0, none⟩) b.length cpw) b) ∧ Hid (Has w wr p d1 [gw, gc, q]) ∧ Hid (LAt wr q p (0 + 1) false)) (fun s10 _ => b.length - (intOf s10).toNat)
  case atStart => exact ⟨0, Nat.zero_le _, by simp, b, Lib.hid ⟨rfl, fun j _ => rfl⟩, HCC7, HW7, H7, HL7⟩
  case round =>
    clear HCC7 HW7 H7 HL7
    obtain ⟨i, hi, rfl, lc, HLC, HCR, HWR, HH, HLL⟩ := hrel
    by_cases hil : i < b.length
    · have hil' : ((i : Int) < (b.length : Int)) = True := eq_true (by omega)
      have hil'' : ((i : Int) < (b.length : Int)) := by omega
      have hlci : i < lc.length := by rw [HLC.out.1]; exact hil
      obtain ⟨x, hx⟩ : ∃ x, b[i] = x := ⟨_, rfl⟩
      have hlx : lc[i] = x := by
        have := HLC.out.2 i (Nat.le_refl _)
        rw [List.getElem?_eq_getElem hlci, List.getElem?_eq_getElem hil, hx] at this
        exact Option.some.inj this
      obtain ⟨g1, cq1, e1, hrc⟩ := nrow_get HCR.out i hlci
      simp only [Value.slice.injEq, Option.some.injEq, Addr.mk.injEq, and_true, true_and] at e1
      obtain ⟨rfl, -, -⟩ := e1
      obtain ⟨g2, cq2, e2, hrw⟩ := nrow_get HWR.out i hil
      simp only [Value.slice.injEq, Option.some.injEq, Addr.mk.injEq, and_true, true_and] at e2
      obtain ⟨rfl, -⟩ := e2
      rw [hlx] at hrc
      rw [hx] at hrw
      have hxf := HFT.out x (hx ▸ List.getElem_mem hil)
      have cc0 := hrc 0 _ rfl
      have cc1 := hrc 1 _ rfl
      have cw0 := hrw 0 _ rfl
      have cw1 := hrw 1 _ rfl
      simp only [Nat.add_zero] at cc0 cw0
      obtain ⟨xa, xs⟩ := x
      have hneq : ∀ W, (binOp .neq 26 (.agg #[.int .i64 xa, .string xs]) (.agg #[.int .i64 xa, .string xs])).run Try.prog W = .ok (.bool false) W := fun W => run_neq W (xa, xs)
      go_wp2_with fail
      go_quiet (fail)
      have hbq : Below wr.heap.size wr (wr.drewN nq) := (Drawn0.mk ⟨nq, rfl⟩ : Drawn0 wr (wr.drewN nq)).below
      obtain ⟨w10, hrs, hns, hfs⟩ := nstore (part_below HCR.out hbq) hlci (4 - xa, more)
      have HRS := Lib.hid hrs
      have HNS := Lib.hid hns
      have HFS := Lib.hid hfs
      have HWQ := Lib.hid (hfs.part (part_below HWR.out hbq) (fun k hk => by cases hk; exact HNE.out.2.2))
      have HHQ := Lib.hid ((HH.out.below hbq).touch hfs (by simp) hgcw)
      have HLQ := Lib.hid ((HLL.out.below hbq).keep hfs (fun e => HNE.out.1 e.symm))
      have hw4 : IntKind.i64.wrap (4 - xa) = 4 - xa := by rw [IntKind.wrap_i64]; omega
      have hw5 : wrap64 (4 - xa) = 4 - xa := by unfold wrap64; omega
      clear hrs hns hfs hneq hbq
      go_wp2_with ((with_reducible refine gate_store (p := 65) rfl ?_); refine wpList_none rfl rfl (execOp_store rfl rfl rfl HRS.out) ?_; refine stop_here ?_)
      refine Lib.hid ?_
      clear cc0 cc1 cw0 cw1
      go_wp2
      go_roundw
      case rel =>
        exact ⟨i + 1, by omega, by first | rfl | go_num, lc.set i (4 - xa, more), Lib.hid ⟨by rw [List.length_set]; exact HLC.out.1, fun j hj => by rw [List.getElem?_set_ne (by omega)]; exact HLC.out.2 j (by omega)⟩, HNS, HWQ, HHQ, HLQ⟩
      case measure => simp [intOf]; omega
    · have hil' : ((i : Int) < (b.length : Int)) = False := eq_false (by omega)
      go_wp2_with fail
      refine (datas_calls HH.out HLL.out HLV.out).mono ?_
      rw [HDD.out]
      rintro e w8 ⟨ax, cx, rfl, hrx, _, hb⟩
      have HX8 := Lib.hid hrx
      have HB8' := Lib.hid (HH.out.bel.trans (hb.mono HH.out.bel.size))
      have HW8 := Lib.hid (part_below HWR.out hb)
      clear hrx hb
      go_wp2_with fail
      refine start_ (n := 22) (S := fun w' => Below w8.heap.size w8 w') (ds := []) #[false, false, false, false, false, false, false, false, false, false, false, false, false, false, false, false, false, false, false, false, false, false] (by kernel_rfl) rfl rfl ((Below.refl _ _).drew) (fun hHeld => ?_)
      have HB0 := Lib.hid ((Below.refl w8.heap.size w8).drew)
      generalize w8.drew = v0 at HB0 hHeld ⊢
      refine one_ (i := 0) (N := some 71) #[true, false, false, false, false, false, false, false, false, false, false, false, false, false, false, false, false, false, false, false, false, false] rfl rfl (by kernel_rfl) (by decide) (fun K hK => ?_)
      refine goes_ Try.func8 (by kernel_rfl) rfl #[] (by rfl) rfl rfl (by (try simp only [List.map_toArray, List.map_cons, List.map_nil]); first | done | rfl) ?_
      refine (alive_calls _).mono ?_
      rintro e v1 ⟨rfl, hb⟩
      refine ⟨_, rfl, ?_⟩
      have HB1 := Lib.hid (HB0.out.trans (hb.mono HB0.out.size))
      clear hb
      refine hK.out _ _ HB1.out (fun hHeld => ?_)
      clear hK K
      refine norm_ (a' := ?_) ?_ ?_
      rotate_left
      · show Act.put _ (some 71) _ = _
        simp only [Act.put, List.setIfInBounds_toArray, List.set_cons_zero, List.set_cons_succ, i64_w, i32_w]
        rfl
      refine pure_ (i := 1) (N := some 72) (v := ?_) (a' := ?_) #[true, true, false, false, false, false, false, false, false, false, false, false, false, false, false, false, false, false, false, false, false, false] rfl rfl (by kernel_rfl) (fun _ _ _ h => h) (Or.inl ⟨by rfl, ?_⟩) ?_ ?_
      rotate_left
      · intro w'
        go_simp
        with_reducible rfl
      rotate_left
      · simp only [Act.put, List.setIfInBounds_toArray, List.set_cons_zero, List.set_cons_succ, i64_w, i32_w]
        rfl
      refine pure_ (i := 2) (N := some 73) (v := ?_) (a' := ?_) #[true, true, true, false, false, false, false, false, false, false, false, false, false, false, false, false, false, false, false, false, false, false] rfl rfl (by kernel_rfl) (fun _ _ _ h => h) (Or.inl ⟨by rfl, ?_⟩) ?_ ?_
      rotate_left
      · intro w'
        go_simp
        with_reducible rfl
      rotate_left
      · simp only [Act.put, List.setIfInBounds_toArray, List.set_cons_zero, List.set_cons_succ, i64_w, i32_w]
        rfl
      refine pure_ (i := 3) (N := some 74) (v := ?_) (a' := ?_) #[true, true, true, true, false, false, false, false, false, false, false, false, false, false, false, false, false, false, false, false, false, false] rfl rfl (by kernel_rfl) (fun _ _ _ h => h) (Or.inl ⟨by rfl, ?_⟩) ?_ ?_
      rotate_left
      · intro w'
        go_simp
        with_reducible rfl
      rotate_left
      · simp only [Act.put, List.setIfInBounds_toArray, List.set_cons_zero, List.set_cons_succ, i64_w, i32_w]
        rfl
      refine pure_ (i := 4) (N := some 75) (v := ?_) (a' := ?_) #[true, true, true, true, true, false, false, false, false, false, false, false, false, false, false, false, false, false, false, false, false, false] rfl rfl (by kernel_rfl) (fun _ _ _ h => h) (Or.inl ⟨by rfl, ?_⟩) ?_ ?_
      rotate_left
      · intro w'
        go_simp
        with_reducible rfl
      rotate_left
      · simp only [Act.put, List.setIfInBounds_toArray, List.set_cons_zero, List.set_cons_succ, i64_w, i32_w]
        rfl
      refine pure_ (i := 5) (N := some 76) (v := ?_) (a' := ?_) #[true, true, true, true, true, true, false, false, false, false, false, false, false, false, false, false, false, false, false, false, false, false] rfl rfl (by kernel_rfl) (fun _ _ _ h => h) (Or.inl ⟨by rfl, ?_⟩) ?_ ?_
      rotate_left
      · intro w'
        go_simp
        with_reducible rfl
      rotate_left
      · simp only [Act.put, List.setIfInBounds_toArray, List.set_cons_zero, List.set_cons_succ, i64_w, i32_w]
        rfl
      refine pure_ (i := 17) (N := some 88) (v := ?_) (a' := ?_) #[true, true, true, true, true, true, false, false, false, false, false, false, false, false, false, false, false, true, false, false, false, false] rfl rfl (by kernel_rfl) (fun _ _ _ h => h) (Or.inl ⟨by rfl, ?_⟩) ?_ ?_
      rotate_left
      · intro w'
        go_simp
        with_reducible rfl
      rotate_left
      · simp only [Act.put, List.setIfInBounds_toArray, List.set_cons_zero, List.set_cons_succ, i64_w, i32_w]
        rfl
      refine one_ (i := 6) (N := some 77) #[true, true, true, true, true, true, true, false, false, false, false, false, false, false, false, false, false, true, false, false, false, false] rfl rfl (by kernel_rfl) (by decide) (fun K hK => ?_)
      refine goes_ Try.func19 (by kernel_rfl) rfl #[.string ⟨#[]⟩] (by rfl) rfl rfl (by (try simp only [List.map_toArray, List.map_cons, List.map_nil]); first | done | rfl) ?_
      refine (whole_zero _).mono ?_
      rintro e v2 ⟨rfl, hb⟩
      refine ⟨_, rfl, ?_⟩
      have HB2 := Lib.hid (HB1.out.trans (hb.mono HB1.out.size))
      clear hb
      refine hK.out _ _ HB2.out (fun hHeld => ?_)
      clear hK K
      refine norm_ (a' := ?_) ?_ ?_
      rotate_left
      · show Act.put _ (some 77) _ = _
        simp only [Act.put, List.setIfInBounds_toArray, List.set_cons_zero, List.set_cons_succ, i64_w, i32_w]
        rfl
      refine pure_ (i := 7) (N := some 78) (v := ?_) (a' := ?_) #[true, true, true, true, true, true, true, true, false, false, false, false, false, false, false, false, false, true, false, false, false, false] rfl rfl (by kernel_rfl) (fun _ _ _ h => h) (Or.inl ⟨by rfl, ?_⟩) ?_ ?_
      rotate_left
      · intro w'
        have hz2 : (248 : Int) ≤ ((zeros 256).size : Int) := by rw [zeros_size]; decide
        go_simp
        with_reducible rfl
      rotate_left
      · simp only [Act.put, List.setIfInBounds_toArray, List.set_cons_zero, List.set_cons_succ, i64_w, i32_w]
        rfl
      refine one_ (i := 8) (N := some 79) #[true, true, true, true, true, true, true, true, true, false, false, false, false, false, false, false, false, true, false, false, false, false] rfl rfl (by kernel_rfl) (by decide) (fun K hK => ?_)
      refine goes_ Try.func19 (by kernel_rfl) rfl #[.string ⟨#[]⟩] (by rfl) rfl rfl (by (try simp only [List.map_toArray, List.map_cons, List.map_nil]); first | done | rfl) ?_
      refine (whole_zero _).mono ?_
      rintro e v3 ⟨rfl, hb⟩
      refine ⟨_, rfl, ?_⟩
      have HB3 := Lib.hid (HB2.out.trans (hb.mono HB2.out.size))
      clear hb
      refine hK.out _ _ HB3.out (fun hHeld => ?_)
      clear hK K
      refine norm_ (a' := ?_) ?_ ?_
      rotate_left
      · show Act.put _ (some 79) _ = _
        simp only [Act.put, List.setIfInBounds_toArray, List.set_cons_zero, List.set_cons_succ, i64_w, i32_w]
        rfl
      refine pure_ (i := 9) (N := some 80) (v := ?_) (a' := ?_) #[true, true, true, true, true, true, true, true, true, true, false, false, false, false, false, false, false, true, false, false, false, false] rfl rfl (by kernel_rfl) (fun _ _ _ h => h) (Or.inl ⟨by rfl, ?_⟩) ?_ ?_
      rotate_left
      · intro w'
        have hz2 : (248 : Int) ≤ ((zeros 256).size : Int) := by rw [zeros_size]; decide
        go_simp
        with_reducible rfl
      rotate_left
      · simp only [Act.put, List.setIfInBounds_toArray, List.set_cons_zero, List.set_cons_succ, i64_w, i32_w]
        rfl
      refine one_ (i := 10) (N := some 81) #[true, true, true, true, true, true, true, true, true, true, true, false, false, false, false, false, false, true, false, false, false, false] rfl rfl (by kernel_rfl) (by decide) (fun K hK => ?_)
      refine goes_ Try.func19 (by kernel_rfl) rfl #[.string ⟨#[]⟩] (by rfl) rfl rfl (by (try simp only [List.map_toArray, List.map_cons, List.map_nil]); first | done | rfl) ?_
      refine (whole_zero _).mono ?_
      rintro e v4 ⟨rfl, hb⟩
      refine ⟨_, rfl, ?_⟩
      have HB4 := Lib.hid (HB3.out.trans (hb.mono HB3.out.size))
      clear hb
      refine hK.out _ _ HB4.out (fun hHeld => ?_)
      clear hK K
      refine norm_ (a' := ?_) ?_ ?_
      rotate_left
      · show Act.put _ (some 81) _ = _
        simp only [Act.put, List.setIfInBounds_toArray, List.set_cons_zero, List.set_cons_succ, i64_w, i32_w]
        rfl
      refine pure_ (i := 11) (N := some 82) (v := ?_) (a' := ?_) #[true, true, true, true, true, true, true, true, true, true, true, true, false, false, false, false, false, true, false, false, false, false] rfl rfl (by kernel_rfl) (fun _ _ _ h => h) (Or.inl ⟨by rfl, ?_⟩) ?_ ?_
      rotate_left
      · intro w'
        have hz2 : (248 : Int) ≤ ((zeros 256).size : Int) := by rw [zeros_size]; decide
        go_simp
        with_reducible rfl
      rotate_left
      · simp only [Act.put, List.setIfInBounds_toArray, List.set_cons_zero, List.set_cons_succ, i64_w, i32_w]
        rfl
      refine one_ (i := 12) (N := some 83) #[true, true, true, true, true, true, true, true, true, true, true, true, true, false, false, false, false, true, false, false, false, false] rfl rfl (by kernel_rfl) (by decide) (fun K hK => ?_)
      refine goes_ Try.func19 (by kernel_rfl) rfl #[.string ⟨#[]⟩] (by rfl) rfl rfl (by (try simp only [List.map_toArray, List.map_cons, List.map_nil]); first | done | rfl) ?_
      refine (whole_zero _).mono ?_
      rintro e v5 ⟨rfl, hb⟩
      refine ⟨_, rfl, ?_⟩
      have HB5 := Lib.hid (HB4.out.trans (hb.mono HB4.out.size))
      clear hb
      refine hK.out _ _ HB5.out (fun hHeld => ?_)
      clear hK K
      refine norm_ (a' := ?_) ?_ ?_
      rotate_left
      · show Act.put _ (some 83) _ = _
        simp only [Act.put, List.setIfInBounds_toArray, List.set_cons_zero, List.set_cons_succ, i64_w, i32_w]
        rfl
      refine pure_ (i := 13) (N := some 84) (v := ?_) (a' := ?_) #[true, true, true, true, true, true, true, true, true, true, true, true, true, true, false, false, false, true, false, false, false, false] rfl rfl (by kernel_rfl) (fun _ _ _ h => h) (Or.inl ⟨by rfl, ?_⟩) ?_ ?_
      rotate_left
      · intro w'
        have hz2 : (248 : Int) ≤ ((zeros 256).size : Int) := by rw [zeros_size]; decide
        go_simp
        with_reducible rfl
      rotate_left
      · simp only [Act.put, List.setIfInBounds_toArray, List.set_cons_zero, List.set_cons_succ, i64_w, i32_w]
        rfl
      refine one_ (i := 14) (N := some 85) #[true, true, true, true, true, true, true, true, true, true, true, true, true, true, true, false, false, true, false, false, false, false] rfl rfl (by kernel_rfl) (by decide) (fun K hK => ?_)
      refine goes_ Try.func19 (by kernel_rfl) rfl #[.string ⟨#[]⟩] (by rfl) rfl rfl (by (try simp only [List.map_toArray, List.map_cons, List.map_nil]); first | done | rfl) ?_
      refine (whole_zero _).mono ?_
      rintro e v6 ⟨rfl, hb⟩
      refine ⟨_, rfl, ?_⟩
      have HB6 := Lib.hid (HB5.out.trans (hb.mono HB5.out.size))
      clear hb
      refine hK.out _ _ HB6.out (fun hHeld => ?_)
      clear hK K
      refine norm_ (a' := ?_) ?_ ?_
      rotate_left
      · show Act.put _ (some 85) _ = _
        simp only [Act.put, List.setIfInBounds_toArray, List.set_cons_zero, List.set_cons_succ, i64_w, i32_w]
        rfl
      refine pure_ (i := 15) (N := some 86) (v := ?_) (a' := ?_) #[true, true, true, true, true, true, true, true, true, true, true, true, true, true, true, true, false, true, false, false, false, false] rfl rfl (by kernel_rfl) (fun _ _ _ h => h) (Or.inl ⟨by rfl, ?_⟩) ?_ ?_
      rotate_left
      · intro w'
        have hz2 : (248 : Int) ≤ ((zeros 256).size : Int) := by rw [zeros_size]; decide
        go_simp
        with_reducible rfl
      rotate_left
      · simp only [Act.put, List.setIfInBounds_toArray, List.set_cons_zero, List.set_cons_succ, i64_w, i32_w]
        rfl
      refine one_ (i := 16) (N := some 87) #[true, true, true, true, true, true, true, true, true, true, true, true, true, true, true, true, true, true, false, false, false, false] rfl rfl (by kernel_rfl) (by decide) (fun K hK => ?_)
      refine value_ (by rfl) rfl (execOp_buildSlice (ps := #[(0, .string ((zeros 256).extract 0 248)), (1, .string ((zeros 256).extract 0 248)), (2, .string ((zeros 256).extract 0 248)), (3, .string ((zeros 256).extract 0 248)), (4, .string ((zeros 256).extract 0 248))]) rfl rfl (run_five _ _ _ _ _ _)) ?_
      have hb7 : Below v6.heap.size v6 (v6.alloc (.cells #[.string ((zeros 256).extract 0 248), .string ((zeros 256).extract 0 248), .string ((zeros 256).extract 0 248), .string ((zeros 256).extract 0 248), .string ((zeros 256).extract 0 248)] 9)) := (Below.refl _ _).alloc (Nat.le_refl _) _
      have HF7 := Lib.hid (five_row v6 ((zeros 256).extract 0 248) ((zeros 256).extract 0 248) ((zeros 256).extract 0 248) ((zeros 256).extract 0 248) ((zeros 256).extract 0 248))
      have HB7 := Lib.hid (HB6.out.trans (hb7.mono HB6.out.size))
      clear hb7
      obtain ⟨N, hN⟩ : ∃ N, v6.heap.size = N := ⟨_, rfl⟩
      rw [hN] at HF7 ⊢
      clear hN
      generalize v6.alloc (.cells #[.string ((zeros 256).extract 0 248), .string ((zeros 256).extract 0 248), .string ((zeros 256).extract 0 248), .string ((zeros 256).extract 0 248), .string ((zeros 256).extract 0 248)] 9) = v7 at HF7 HB7 ⊢
      refine hK.out _ _ HB7.out (fun hHeld => ?_)
      clear hK K
      refine norm_ (a' := ?_) ?_ ?_
      rotate_left
      · show Act.put _ (some 87) _ = _
        simp only [Act.put, List.setIfInBounds_toArray, List.set_cons_zero, List.set_cons_succ, i64_w, i32_w]
        rfl
      have haf := after_law (A := some ⟨N, 0, none⟩) (c := 5) (c' := cpw) (w := v7) (l := [(zeros 256).extract 0 248, (zeros 256).extract 0 248, (zeros 256).extract 0 248, (zeros 256).extract 0 248, (zeros 256).extract 0 248]) (A' := some ⟨gw, 0, none⟩) (b := b) HF7.out (arr_of_row (part_below HW8.out HB7.out)) hcpw (by decide) hb40 (fun x hx => HFT.out x hx)
      rw [show ([(zeros 256).extract 0 248, (zeros 256).extract 0 248, (zeros 256).extract 0 248, (zeros 256).extract 0 248, (zeros 256).extract 0 248] : List ByteArray).length = 5 from rfl, zeros_cut, HZ.out] at haf
      have HAFT := Lib.hid haf
      clear haf
      refine one_ (i := 18) (N := some 89) #[true, true, true, true, true, true, true, true, true, true, true, true, true, true, true, true, true, true, true, false, false, false] rfl rfl (by kernel_rfl) (by decide) (fun K hK => ?_)
      refine goes_ Try.func18 (by kernel_rfl) rfl #[.slice (some ⟨N, 0, none⟩) 5 5, .slice (some ⟨gw, 0, none⟩) b.length cpw] (by rfl) rfl rfl (by (try simp only [List.map_toArray, List.map_cons, List.map_nil]); first | done | rfl) ?_
      refine (HAFT.out).mono ?_
      rintro e v8 ⟨v, rfl, hv, _, hb⟩
      obtain ⟨av, cv, e8, -⟩ := part_form hv
      rw [hlen1] at e8
      subst e8
      have HV := Lib.hid hv
      clear hv
      refine ⟨_, rfl, ?_⟩
      have HBL8 := Lib.hid hb
      have HB8 := Lib.hid (HB7.out.trans (hb.mono HB7.out.size))
      clear hb
      refine hK.out _ _ HB8.out (fun hHeld => ?_)
      clear hK K
      refine norm_ (a' := ?_) ?_ ?_
      rotate_left
      · show Act.put _ (some 89) _ = _
        simp only [Act.put, List.setIfInBounds_toArray, List.set_cons_zero, List.set_cons_succ, i64_w, i32_w]
        rfl
      have hsm := same_law (A := ax) (A' := av) (c := cx) (c' := cv) (w := v8) (l := D) (l' := D) (part_below HX8.out HB8.out) (by rw [hlen1]; exact HV.out) (by omega) (by omega)
      rw [hlen1, decide_eq_true (rfl : D = D)] at hsm
      have HSM := Lib.hid hsm
      clear hsm
      refine one_ (i := 19) (N := some 90) #[true, true, true, true, true, true, true, true, true, true, true, true, true, true, true, true, true, true, true, true, false, false] rfl rfl (by kernel_rfl) (by decide) (fun K hK => ?_)
      refine goes_ Try.func14 (by kernel_rfl) rfl #[.slice ax 5 cx, .slice av 5 cv] (by rfl) rfl rfl (by (try simp only [List.map_toArray, List.map_cons, List.map_nil]); first | done | rfl) ?_
      refine (HSM.out).mono ?_
      rintro e v9 ⟨rfl, hb⟩
      refine ⟨_, rfl, ?_⟩
      have HB9 := Lib.hid (HB8.out.trans (hb.mono HB8.out.size))
      clear hb
      refine hK.out _ _ HB9.out (fun hHeld => ?_)
      clear hK K
      refine norm_ (a' := ?_) ?_ ?_
      rotate_left
      · show Act.put _ (some 90) _ = _
        simp only [Act.put, List.setIfInBounds_toArray, List.set_cons_zero, List.set_cons_succ, i64_w, i32_w]
        rfl
      refine pure_ (i := 20) (N := some 91) (v := ?_) (a' := ?_) #[true, true, true, true, true, true, true, true, true, true, true, true, true, true, true, true, true, true, true, true, true, false] rfl rfl (by kernel_rfl) (fun _ _ _ h => h) (Or.inl ⟨by rfl, ?_⟩) ?_ ?_
      rotate_left
      · intro w'
        go_simp
        with_reducible rfl
      rotate_left
      · simp only [Act.put, List.setIfInBounds_toArray, List.set_cons_zero, List.set_cons_succ, i64_w, i32_w]
        rfl
      refine pure_ (i := 21) (N := some 4) (v := ?_) (a' := ?_) #[true, true, true, true, true, true, true, true, true, true, true, true, true, true, true, true, true, true, true, true, true, true] rfl rfl (by kernel_rfl) (fun _ _ _ h => h) (Or.inl ⟨by rfl, ?_⟩) ?_ ?_
      rotate_left
      · intro w'
        go_simp
        with_reducible rfl
      rotate_left
      · simp only [Act.put, List.setIfInBounds_toArray, List.set_cons_zero, List.set_cons_succ, i64_w, i32_w]
        rfl
      refine done_ (by kernel_rfl) ?_
      go_wp2
      go_ret
      exact ⟨rfl, HB8'.out.trans (HB9.out.mono HB8'.out.size)⟩
end Go.Proofs.Ytmdojgkgohmghaa.Wal
namespace Go.Proofs.Ytmdojgkgohmghaa.walKeeps
open Go.RowKit Go.Own Go.Sees Go.Proofs.Ytmdojgkgohmghaa.Wal
set_option maxRecDepth 100000
set_option linter.constructorNameAsVariable false
set_option linter.unusedVariables false
theorem walKeeps_walk (a0 : Option Addr) (len0 cap0 : Nat) (a1 : ByteArray) (w : World) (w0 : Sees Try.prog w 140737488351232 5 22 [.slice a0 len0 cap0]) (w1 : a1.size ≤ 140737488351232) :
    Calls Try.prog 5 #[.slice a0 len0 cap0, .string a1] w fun e w' => e = .returned (.bool true) ∧ Below w.heap.size w w' := by
  obtain ⟨b1, rfl, l1, _, m1, hA1, _⟩ := sees_blocks (k := 2) w0
  exact keeps_law a1 w1 hA1 l1 (by omega)
end Go.Proofs.Ytmdojgkgohmghaa.walKeeps
