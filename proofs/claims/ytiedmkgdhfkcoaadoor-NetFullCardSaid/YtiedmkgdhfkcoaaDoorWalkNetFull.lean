/- Layer net: the walk of NetFull. -/
import Derived.Test.YtiedmkgdhfkcoaaDoorNetQS
namespace Go.Proofs.YtiedmkgdhfkcoaaDoor.Net
open Go.RowKit Go.Sees Go.Own Go.Blk Go.OpsL Go.XdrL Go.PktL Go.Proofs.YtiedmkgdhfkcoaaDoor.Pkt Go.Proofs.YtiedmkgdhfkcoaaDoorW.PrintLast Go.Proofs.YtiedmkgdhfkcoaaDoorW.PrintWords
set_option linter.unusedVariables false
set_option linter.unusedSimpArgs false
set_option maxRecDepth 100000
theorem full_sends (l : List Pk) (s : Pk) (hr : right s = true) (hl : l.length < 200) : sendR l s = (0, l ++ [s]) := by
  rw [sendR, if_pos hr, if_neg (by omega)]
theorem full_full (l : List Pk) (s : Pk) (hr : right s = true) (hl : l.length = 200) : sendR l s = (6, l) := by
  rw [sendR, if_pos hr, if_pos hl]
theorem range_snoc (s : Pk) (i : Nat) : (List.range i).map (sq s) ++ [sq s i] = (List.range (i + 1)).map (sq s) := by
  rw [List.range_succ, List.map_append]; rfl
theorem range_facts (s : Pk) (n : Nat) : ((List.range n).map (sq s)).length = n ∧ ∀ k, k < n → ((List.range n).map (sq s)).getD k Pk.zero = sq s k := by
  refine ⟨by rw [List.length_map, List.length_range], fun k hk => ?_⟩
  rw [List.getD, List.getElem?_map, List.getElem?_range hk]
  rfl
def kOf (n : Int) : Nat := ((IntKind.u64.wrap n).tmod 200).toNat
theorem kOf_eq (n : Int) : ((kOf n : Nat) : Int) = wrap64 ((IntKind.u64.wrap n).tmod 200) ∧ kOf n < 200 ∧ ((kOf n : Nat) : Int) = (IntKind.u64.wrap n).tmod 200 := by
  have h0 : 0 ≤ IntKind.u64.wrap n := by rw [IntKind.wrap_u64]; omega
  unfold kOf
  rw [Int.tmod_eq_emod_of_nonneg h0]
  unfold wrap64
  omega
set_option maxHeartbeats 16000000 in
theorem full_pk (s : Pk) (n : Int) (h : s.OK) (w : World) : Calls Tryd.prog 8 #[.agg #[.int .i64 s.kind, .int .i64 s.fr, .int .i64 s.to, .int .u32 (s.life : Int), .int .u32 (s.seq : Int), .int .u32 (s.asked : Int), .int .u32 (s.boot : Int), .int .i64 s.code, .int .i64 s.err, .int .u32 (s.file : Int), .int .u32 (s.epoch : Int), .int .u32 (s.off : Int), .int .u32 (s.len : Int), .int .u32 (s.size : Int), .int .u32 (s.mode : Int), .int .u32 (s.deny : Int), .int .u32 (s.handle : Int), .string s.path, .string s.other, .string s.data], .int .i64 n] w fun e w' => e = .returned (.bool true) ∧ Below w.heap.size w w' := by
  have HO := Lib.hid h
  have hal : Below w.heap.size w (w.alloc (.cells #[.int .i64 s.kind, .int .i64 s.fr, .int .i64 s.to, .int .u32 (s.life : Int), .int .u32 (s.seq : Int), .int .u32 (s.asked : Int), .int .u32 (s.boot : Int), .int .i64 s.code, .int .i64 s.err, .int .u32 (s.file : Int), .int .u32 (s.epoch : Int), .int .u32 (s.off : Int), .int .u32 (s.len : Int), .int .u32 (s.size : Int), .int .u32 (s.mode : Int), .int .u32 (s.deny : Int), .int .u32 (s.handle : Int), .string s.path, .string s.other, .string s.data] 27)) := (Below.refl _ _).alloc (Nat.le_refl _) _
  have HAL := Lib.hid hal
  have HPA := Lib.hid (PAt.alloc w s)
  clear h hal
  go_enter Tryd.func8, Tryd.ntmps8
  go_wp2_with fail
  refine (nalive_calls _).mono ?_
  rintro e w2 ⟨rfl, hb⟩
  have HB2 := Lib.hid (HAL.out.trans (hb.mono HAL.out.size))
  have HP2 := Lib.hid (HPA.out.below hb)
  clear hb HPA HAL
  go_wp2_with (first | ((with_reducible refine gate_dst (N := 15) rfl ?_); refine wpList_val rfl rfl (execOp_load rfl rfl HP2.out.load) ?_))
  refine (long_calls s HO.out _).mono ?_
  rintro e w3 ⟨rfl, hb⟩
  have HB3 := Lib.hid (HB2.out.trans (hb.mono HB2.out.size))
  have HP3 := Lib.hid (HP2.out.below hb)
  clear hb HP2 HB2
  cases longP s
  case true =>
    go_wp2_with fail
    refine (nalive_calls _).mono ?_
    rintro e w4 ⟨rfl, hb⟩
    have HB4 := Lib.hid (HB3.out.trans (hb.mono HB3.out.size))
    clear hb
    go_wp2
    go_ret
    exact ⟨rfl, HB4.out⟩
  case false =>
    go_wp2_with (first | ((with_reducible refine gate_dst (N := 18) rfl ?_); (refine gate_guard (by first | rfl | kernel_rfl) ?_; dsimp only); refine wpList_val rfl rfl (execOp_load rfl rfl HP3.out.load) ?_))
    refine (dright_any s HO.out _).mono ?_
    rintro e w4 ⟨rfl, hb⟩
    have HB4 := Lib.hid (HB3.out.trans (hb.mono HB3.out.size))
    have HP4 := Lib.hid (HP3.out.below hb)
    clear hb HP3 HB3
    cases hr : right s
    case false =>
      clear hr
      go_wp2_with fail
      refine (nalive_calls _).mono ?_
      rintro e w5 ⟨rfl, hb⟩
      have HB5 := Lib.hid (HB4.out.trans (hb.mono HB4.out.size))
      clear hb
      go_wp2
      go_ret
      exact ⟨rfl, HB5.out⟩
    case true =>
      have HR := Lib.hid hr
      clear hr
      have hP := lt_of HP4.out
      have H5 := Lib.hid (one_newX HB4.out (X := [w.heap.size]) (by simpa using hP))
      have HP5 := Lib.hid (HP4.out.below ((Below.refl _ _).alloc (Nat.le_refl _) (.cells #[.slice none 0 0] 46)))
      go_wp2_with fail
      obtain ⟨N, hN⟩ : ∃ N, w4.heap.size = N := ⟨_, rfl⟩
      rw [hN] at H5 ⊢
      clear hN hP HB4
      generalize w4.alloc (.cells #[.slice none 0 0] 46) = w5 at H5 HP5 ⊢
      go_loopw [6] (fun s6 wr => ∃ (i q : Nat), i ≤ 200 ∧ s6 = .int .i64 i ∧ Hid (PAt wr w.heap.size (sq s q)) ∧ Hid (One w wr N ((List.range i).map (sq s)) [w.heap.size])) (fun s6 _ => 200 - (intOf s6).toNat)
      case atStart => exact ⟨0, s.seq, by omega, by simp, Lib.hid (by rw [sq_self]; exact HP5.out), H5⟩
      case round =>
        clear HP5 H5
        obtain ⟨i, q, hi, rfl, HP, H⟩ := hrel
        by_cases hlt : i < 200
        · have hP6 := pat_seq HP.out i
          obtain ⟨_, _, _, _, x4, _⟩ := HP.out.cells
          have f4 := HP.out.free 4
          have H6 := Lib.hid (H.out.set (Fr.setCell (F := (· ∈ [w.heap.size])) wr (p := ⟨w.heap.size, 4, none⟩) (by simp) (.int .u32 (i : Int))) (by simp))
          have HP6 := Lib.hid hP6
          have e1 : (i : Int) % 4294967296 = (i : Int) := by omega
          clear hP6
          go_wp2_with (first | ((with_reducible refine gate_dst (N := 33) rfl ?_); refine wpList_val rfl rfl (execOp_load rfl rfl HP6.out.load) ?_))
          refine (one_send H6.out (sq s i) (sq_ok HO.out (by omega))).mono ?_
          rintro e w7 ⟨c, l2, he, rfl, ho, hk⟩
          rw [full_sends _ _ (by rw [sq_right]; exact HR.out) (by simpa using hlt), range_snoc] at he
          obtain ⟨rfl, rfl⟩ : 0 = c ∧ (List.range (i + 1)).map (sq s) = l2 := by simpa using he
          have H7 := Lib.hid ho
          have HP7 := Lib.hid (hk.pk (by simp) HP6.out)
          clear he ho hk H6 HP6 H HP x4 f4
          go_wp2
          go_roundw
          case rel => exact ⟨i + 1, i, by omega, by go_num, HP7, H7⟩
          case measure => simp [intOf]; omega
        · obtain rfl : i = 200 := by omega
          obtain ⟨kk, hk1, hk2⟩ : ∃ kk : Nat, wrap64 ((IntKind.u64.wrap n).tmod 200) = (kk : Int) ∧ kk < 200 := ⟨kOf n, (kOf_eq n).1.symm, (kOf_eq n).2.1⟩
          have HK := Lib.hid hk2
          have hP6 := pat_seq HP.out kk
          obtain ⟨_, _, _, _, x4, _⟩ := HP.out.cells
          have f4 := HP.out.free 4
          have h6 := H.out.set (Fr.setCell (F := (· ∈ [w.heap.size])) wr (p := ⟨w.heap.size, 4, none⟩) (by simp) (.int .u32 (kk : Int))) (by simp)
          have HP6 := Lib.hid hP6
          have e1 : (kk : Int) % 4294967296 = (kk : Int) := by omega
          obtain ⟨L, hL⟩ : ∃ L, (List.range 200).map (sq s) = L := ⟨_, rfl⟩
          have hrf := range_facts s 200
          rw [hL] at hrf
          rw [hL] at h6
          have H6 := Lib.hid h6
          have HLEN := Lib.hid hrf.1
          have HGET := Lib.hid (hrf.2 kk hk2)
          clear h6 hP6 H HP hk2 hL hrf
          go_wp2_with (first | ((with_reducible refine gate_dst (N := 44) rfl ?_); refine wpList_val rfl rfl (execOp_load rfl rfl HP6.out.load) ?_))
          refine (one_send H6.out (sq s kk) (sq_ok HO.out (by have := HK.out; omega))).mono ?_
          rintro e w7 ⟨c, l2, he, rfl, ho, hk⟩
          rw [full_full _ _ (by rw [sq_right]; exact HR.out) HLEN.out] at he
          obtain ⟨rfl, rfl⟩ : 6 = c ∧ L = l2 := by simpa using he
          have H7 := Lib.hid ho
          have HP7 := Lib.hid (hk.pk (by simp) HP6.out)
          clear he ho hk H6 HP6 x4 f4
          go_wp2_with fail
          refine (one_double H7.out (kk : Int)).mono ?_
          rintro e w8 ⟨c, l2, he, rfl, ho, hk⟩
          obtain ⟨rfl, rfl⟩ : 6 = c ∧ L = l2 := by
            have h1 := HK.out
            have h2 := HLEN.out
            rw [doubleR, if_pos ⟨by omega, by omega⟩, if_pos h2] at he
            simpa using he
          have H8 := Lib.hid ho
          have HP8 := Lib.hid (hk.pk (by simp) HP7.out)
          clear he ho hk H7 HP7
          go_wp2_with fail
          refine (one_len H8.out).mono ?_
          rintro e wn ⟨rfl, rfl⟩
          rw [HLEN.out]
          go_wp2_with fail
          refine (one_take H8.out (kk : Int)).mono ?_
          rintro e w9 ⟨t, c, l2, he, rfl, ho, hk⟩
          obtain ⟨rfl, rfl, hl2⟩ : sq s kk = t ∧ 0 = c ∧ L.take kk ++ L.drop (kk + 1) = l2 := by
            have h1 := HK.out
            have h2 := HLEN.out
            rw [takeR, if_pos ⟨by omega, by omega⟩, Int.toNat_natCast, HGET.out] at he
            simpa using he
          have HL2 : Hid (l2.length = 199) := Lib.hid (by have h1 := HK.out; have h2 := HLEN.out; rw [← hl2]; simp; omega)
          obtain ⟨wa, hra, hpa, hba⟩ := fresh_pk w9 (sq s kk)
          have HPa := Lib.hid ((hk.pk (by simp) HP8.out).below hba)
          have Ha := Lib.hid (ho.add hba (Nat.le_refl _) (lt_of hpa))
          have HQa := Lib.hid hpa
          have HSTa := Lib.hid hra
          clear he ho hk hl2 H8 HP8 hra hpa hba
          go_wp2_with (first | ((with_reducible refine gate_store (p := 8) rfl ?_); refine wpList_none rfl rfl (execOp_store rfl rfl rfl HSTa.out) ?_))
          refine (take_nil n _).mono ?_
          rintro e wb ⟨rfl, hb⟩
          obtain ⟨wc, hrc, hpc, hbc⟩ := fresh_pk wb Pk.zero
          have HSTc := Lib.hid hrc
          have HPc := Lib.hid ((HPa.out.below hb).below hbc)
          have HQc := Lib.hid ((HQa.out.below hb).below hbc)
          have Hc := Lib.hid ((Ha.out.below hb).below hbc)
          clear hrc hpc hbc hb HPa Ha HQa
          go_wp2_with (first | ((with_reducible refine gate_store (p := 11) rfl ?_); refine wpList_none rfl rfl (execOp_store rfl rfl rfl HSTc.out) ?_))
          refine (nalive_calls _).mono ?_
          rintro e wd ⟨rfl, hb⟩
          have HPd := Lib.hid (HPc.out.below hb)
          have HQd := Lib.hid (HQc.out.below hb)
          have Hd := Lib.hid (Hc.out.below hb)
          clear hb HPc HQc Hc
          go_wp2_with (first | ((with_reducible refine gate_dst (N := 72) rfl ?_); (refine gate_guard (by first | rfl | kernel_rfl) ?_; dsimp only); refine wpList_val rfl rfl (execOp_load rfl rfl HQd.out.load) ?_) | ((with_reducible refine gate_dst (N := 73) rfl ?_); (refine gate_guard (by first | rfl | kernel_rfl) ?_; dsimp only); refine wpList_val rfl rfl (execOp_load rfl rfl HPd.out.load) ?_) | ((with_reducible refine gate_dst (N := 74) rfl ?_); (refine gate_guard (by first | rfl | kernel_rfl) ?_; dsimp only); refine wpList_val rfl rfl (execOp_eq (p := sq s kk) (q := sq s kk) rfl rfl rfl) ?_))
          refine (one_len Hd.out).mono ?_
          rintro e wn ⟨rfl, rfl⟩
          rw [HL2.out]
          go_wp2_with fail
          refine (len_nil _).mono ?_
          rintro e wn ⟨rfl, rfl⟩
          go_wp2_with fail
          refine (at_nil n _).mono ?_
          rintro e wn ⟨rfl, rfl⟩
          go_wp2_with fail
          refine (drop_nil n _).mono ?_
          rintro e wn ⟨rfl, rfl⟩
          go_wp2_with fail
          refine (double_nil n _).mono ?_
          rintro e wn ⟨rfl, rfl⟩
          go_wp2_with fail
          refine (move_nil n 0 _).mono ?_
          rintro e wn ⟨rfl, rfl⟩
          go_wp2_with (first | ((with_reducible refine gate_dst (N := 120) rfl ?_); (refine gate_guard (by first | rfl | kernel_rfl) ?_; dsimp only); refine wpList_val rfl rfl (execOp_load rfl rfl HPd.out.load) ?_))
          refine (send_nil_yes (sq s kk) (sq_ok HO.out (by have := HK.out; omega)) (by rw [sq_right]; exact HR.out)).mono ?_
          rintro e we ⟨rfl, hb⟩
          have HBe := Lib.hid (Hd.out.below hb).bel
          clear hb
          go_wp2
          go_ret
          exact ⟨rfl, HBe.out⟩
theorem netFull_walk (a0 : Array Value) (a1 : Int) (w : World) (w0 : Sees Tryd.prog w 140737488351232 5 27 a0.toList) (w1 : (Lit.int .i64 a1).wf = true) :
    Calls Tryd.prog 8 #[.agg a0, .int .i64 a1] w fun e w' => e = .returned (.bool true) ∧ Below w.heap.size w w' := by
  obtain ⟨p, hp, he⟩ := pk_of (k := 2) (Nat.le_refl _) w0
  obtain rfl : a0 = #[.int .i64 p.kind, .int .i64 p.fr, .int .i64 p.to, .int .u32 (p.life : Int), .int .u32 (p.seq : Int), .int .u32 (p.asked : Int), .int .u32 (p.boot : Int), .int .i64 p.code, .int .i64 p.err, .int .u32 (p.file : Int), .int .u32 (p.epoch : Int), .int .u32 (p.off : Int), .int .u32 (p.len : Int), .int .u32 (p.size : Int), .int .u32 (p.mode : Int), .int .u32 (p.deny : Int), .int .u32 (p.handle : Int), .string p.path, .string p.other, .string p.data] := by
    apply Array.toList_inj.1
    rw [he]; rfl
  exact full_pk p a1 hp w
end Go.Proofs.YtiedmkgdhfkcoaaDoor.Net
