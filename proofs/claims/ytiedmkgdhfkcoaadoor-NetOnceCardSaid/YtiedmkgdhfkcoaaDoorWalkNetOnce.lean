/- Layer net: the walk of NetOnce. -/
import Derived.Test.YtiedmkgdhfkcoaaDoorNetVX
namespace Go.Proofs.YtiedmkgdhfkcoaaDoor.Net
open Go.RowKit Go.Sees Go.Own Go.Blk Go.OpsL Go.XdrL Go.PktL Go.Proofs.YtiedmkgdhfkcoaaDoor.Pkt Go.Proofs.YtiedmkgdhfkcoaaDoorW.PrintLast Go.Proofs.YtiedmkgdhfkcoaaDoorW.PrintWords
set_option linter.unusedVariables false
set_option linter.unusedSimpArgs false
set_option maxRecDepth 100000
theorem more_len {had had' : List Pk} {cn cn' : List Int} {s : Pk} (h : MoreP had cn s had' cn') : had'.length ≤ had.length + 1 := by
  rcases h with ⟨_, _, rfl, _⟩ | ⟨_, rfl, _⟩
  · omega
  · simp
set_option maxHeartbeats 64000000 in
theorem once_law (A : Option Addr) (ca : Nat) (l : List SA) (w : World) (hA : ArrAt w A acells 23 l) (hl : ∀ x ∈ l, x.OK) (ll : l.length ≤ 9223372036854775807) :
    Calls Tryd.prog 9 #[.slice A l.length ca] w fun e w' => e = .returned (.bool true) ∧ Below w.heap.size w w' := by
  have HA := Lib.hid hA
  have HOl := Lib.hid hl
  clear hA hl
  go_enter Tryd.func9, Tryd.ntmps9
  go_wp2_with fail
  refine (nalive_calls _).mono ?_
  rintro e w1 ⟨rfl, hb⟩
  have HT1 := Lib.hid (acc_new hb)
  clear hb
  go_wp2_with fail
  obtain ⟨p, hp⟩ : ∃ p, w1.heap.size = p := ⟨_, rfl⟩
  rw [hp] at HT1 ⊢
  clear hp
  generalize w1.alloc (.cells #[.slice none 0 0] 46) = w2 at HT1 ⊢
  go_loopg [4, 5, 6] 200 (fun gg s4 s5 s6 wq => ∃ (j : Nat) (L had : List Pk) (cn : List Int), s6 = .int .i64 j ∧ j ≤ l.length ∧ j ≤ 200 ∧ 200 - j ≤ gg ∧ had.length ≤ j ∧ Hid (Inv L had cn) ∧ Hid (Acc w wq p L s4 s5 had cn []))
  case atStart => exact ⟨0, [], [], [], by simp, Nat.zero_le _, by omega, by omega, Nat.le_refl _, Lib.hid Inv.nil, HT1⟩
  case round =>
    clear HT1
    obtain ⟨wq, rfl⟩ : ∃ wq : World, wq = wr := ⟨_, rfl⟩
    obtain ⟨j, L, had, cn, rfl, hj1, hj2, hjg, hjh, HIN, HB⟩ := hrel
    have HFEW := Lib.hid HB.out.one.few
    obtain ⟨ah, ch, eh, _⟩ := part_form HB.out.hrow
    obtain ⟨ac, cc, ec, _⟩ := part_form HB.out.crow
    subst eh
    subst ec
    by_cases hc2 : j < l.length ∧ j < 200
    · obtain ⟨hd1, hd2⟩ := hc2
      obtain ⟨blk, off, rfl, hbw, hcs0⟩ := HA.out j hd1
      obtain ⟨x, hx⟩ : ∃ x, l[j] = x := ⟨_, rfl⟩
      rw [hx] at hcs0
      have HX := Lib.hid (HOl.out x (hx ▸ List.getElem_mem hd1))
      have HCS : Hid (wq.rangeAt blk (off + j * 23) (acells x)) := Lib.hid (fun i u hu => (HB.out.one.bel.cell (p := ⟨blk, _, none⟩) hbw).trans (hcs0 i u hu))
      clear hcs0 hx
      have HLD := Lib.hid (run_loadA wq blk (off + j * 23) x HCS.out)
      obtain ⟨w3, hr3, ha3, hb3⟩ := fresh_act wq x
      have HST3 := Lib.hid hr3
      have HAA := Lib.hid ha3
      have HB3 := Lib.hid (HB.out.add hb3 (Nat.le_refl _) (lt_of ha3))
      clear hr3 ha3 hb3 HCS
      obtain ⟨g, hg⟩ : ∃ g, wq.heap.size = g := ⟨_, rfl⟩
      rw [hg] at HAA HB3
      have HG := Lib.hid hg
      clear hg HB
      go_wp2_with (first | ((with_reducible refine gate_dst (N := 34) rfl ?_); refine wpList_val rfl rfl (execOp_load rfl rfl HLD.out) ?_) | ((with_reducible refine gate_store (p := 7) rfl ?_); refine wpList_none rfl rfl (execOp_store rfl rfl rfl HST3.out) ?_; refine stop_here ?_))
      refine Lib.hid ?_
      rw [HG.out]
      have HLP := Lib.hid (run_loadP w3 g 3 x.p HAA.out.pk)
      clear HLD HST3 HG
      go_wp2_with (first | ((with_reducible refine gate_dst (N := 36) rfl ?_); refine wpList_val rfl rfl (execOp_load rfl rfl HLP.out) ?_))
      refine (long_calls x.p HX.out.2.2 _).mono ?_
      rintro e w4 ⟨rfl, hb⟩
      have HB4 := Lib.hid (HB3.out.below hb)
      have HA4 := Lib.hid (HAA.out.below hb)
      clear hb HB3 HAA HLP
      cases longP x.p
      case true =>
        go_wp2
        go_roundg (200 - (j + 1))
        case rel => exact ⟨j + 1, L, had, cn, by go_num, by omega, by omega, by omega, by omega, HIN, Lib.hid (HB4.out.less (by simp))⟩
        case measure => omega
      case false =>
        go_wp2_with fail
        refine (acc_len HB4.out).mono ?_
        rintro e w4' ⟨rfl, rfl⟩
        obtain ⟨z0, z1, z2⟩ := HA4.out.head
        go_upto_block 2 with fail
        clear z0 z1 z2
        by_cases k0 : x.k.tmod 5 = 0
        · as_aux_lemma =>
            have y0 : (x.k.tmod 5 == 0) = true := by rw [beq_iff_eq]; omega
            have y0' : (x.k.tmod 5 = 0) = True := eq_true (by omega)
            obtain ⟨x0, x1, x2⟩ := HA4.out.head
            have HLP := Lib.hid (run_loadP _ g 3 x.p HA4.out.pk)
            have HIV := Lib.hid HIN.out
            clear k0
            have hsc := send_cases L x.p
            go_wp2_with (first | ((with_reducible refine gate_dst (N := 47) rfl ?_); refine wpList_val rfl rfl (execOp_load rfl rfl HLP.out) ?_))
            refine (acc_send HB4.out x.p HX.out.2.2).mono ?_
            rintro e w5 ⟨c, l1, he, rfl, hT, hKp⟩
            have H5 := Lib.hid hT
            have HA5 := Lib.hid (show AAt w5 g x from (hKp g (by simp)).trans HA4.out)
            clear hT hKp HB4 HA4 HLP x0 x1 x2
            rw [he] at hsc
            rcases hsc with ⟨h1, h2⟩ | h1
            · dsimp only at h1 h2
              subst h2
              have hz : (c == 0) = false := by rw [beq_eq_false_iff_ne]; exact h1
              have hz' : (c = 0) = False := eq_false h1
              go_wp2
              go_roundg (200 - (j + 1))
              case rel => exact ⟨j + 1, _, had, cn, by go_num, by omega, by omega, by omega, by omega, HIN, Lib.hid (H5.out.less (by simp))⟩
              case measure => omega
            · obtain ⟨rfl, rfl⟩ : c = 0 ∧ l1 = L ++ [x.p] := by simpa using h1
              clear h1 he
              have HLP := Lib.hid (run_loadP _ g 3 x.p HA5.out.pk)
              obtain ⟨x0, x1, x2⟩ := HA5.out.head
              go_wp2_with (first | ((with_reducible refine gate_dst (N := 54) rfl ?_); refine wpList_val rfl rfl (execOp_load rfl rfl HLP.out) ?_))
              clear x0 x1 x2
              refine (acc_more H5.out (by omega) (HIN.out.bound HFEW.out) x.p).mono ?_
              rintro e w6 ⟨hv', cv', had', cn', rfl, hm, hT, hKp⟩
              have H6 := Lib.hid hT
              have HI6 := Lib.hid (HIN.out.more hm)
              have hl6 := more_len hm
              clear hm hT hKp H5 HA5 HLP
              go_wp2
              go_roundg (200 - (j + 1))
              case rel => exact ⟨j + 1, _, had', cn', by go_num, by omega, by omega, by omega, by omega, HI6, Lib.hid (H6.out.less (by simp))⟩
              case measure => omega
        by_cases k1 : x.k.tmod 5 = 1
        · as_aux_lemma =>
            have n0 : (x.k.tmod 5 == 0) = false := by rw [beq_eq_false_iff_ne]; omega
            have n0' : (x.k.tmod 5 = 0) = False := eq_false (by omega)
            have y1 : (x.k.tmod 5 == 1) = true := by rw [beq_iff_eq]; omega
            have y1' : (x.k.tmod 5 = 1) = True := eq_true (by omega)
            obtain ⟨x0, x1, x2⟩ := HA4.out.head
            have HLP := Lib.hid (run_loadP _ g 3 x.p HA4.out.pk)
            have HIV := Lib.hid HIN.out
            clear k1
            have htc := take_cases L x.n
            go_wp2_with fail
            refine (acc_take HB4.out x.n).mono ?_
            rintro e w5 ⟨s, c, l1, he, rfl, hT, hKp⟩
            clear x0 x1 x2 HLP
            rw [he] at htc
            obtain ⟨w6, hr6, hp6, hb6⟩ := fresh_pk w5 s
            have HST6 := Lib.hid hr6
            have HP6 := Lib.hid hp6
            have H6 := Lib.hid (hT.below hb6)
            clear hT hr6 hp6 hb6
            rcases htc with h1 | ⟨k, hk, hkn, h1⟩
            · obtain ⟨rfl, rfl, rfl⟩ : s = Pk.zero ∧ c = 7 ∧ l1 = L := by simpa using h1
              clear h1 he
              go_wp2_with (first | ((with_reducible refine gate_store (p := 9) rfl ?_); refine wpList_none rfl rfl (execOp_store rfl rfl rfl HST6.out) ?_))
              go_roundg (200 - (j + 1))
              case rel => exact ⟨j + 1, l1, had, cn, by go_num, by omega, by omega, by omega, by omega, HIN, Lib.hid (H6.out.less (by simp))⟩
              case measure => omega
            · obtain ⟨rfl, rfl, rfl⟩ : s = L[k] ∧ c = 0 ∧ l1 = L.take k ++ L.drop (k + 1) := by simpa using h1
              have HK := Lib.hid hk
              clear h1 he
              generalize hs : L[k] = s at *
              have HS := Lib.hid hs
              clear hs
              go_wp2_with (first | ((with_reducible refine gate_store (p := 9) rfl ?_); refine wpList_none rfl rfl (execOp_store rfl rfl rfl HST6.out) ?_) | ((with_reducible refine gate_dst (N := 72) rfl ?_); (refine gate_guard (by first | rfl | kernel_rfl) ?_; dsimp only); refine wpList_val rfl rfl (execOp_load rfl rfl HP6.out.load) ?_))
              refine (acc_fewer H6.out (by omega) (HIN.out.bound HFEW.out) s (HS.out ▸ HIN.out.some HK.out)).mono ?_
              rintro e w7 ⟨cn', rfl, hm, hT, _⟩
              have H7 := Lib.hid hT
              have HI7 := Lib.hid (HIN.out.cut HK.out (HS.out.symm ▸ hm))
              clear hm hT H6 HP6 HST6
              go_wp2
              go_roundg (200 - (j + 1))
              case rel => exact ⟨j + 1, _, had, cn', by go_num, by omega, by omega, by omega, by omega, HI7, Lib.hid (H7.out.less (by simp))⟩
              case measure => omega
        by_cases k3 : x.k.tmod 5 = 3
        · as_aux_lemma =>
            have n0 : (x.k.tmod 5 == 0) = false := by rw [beq_eq_false_iff_ne]; omega
            have n0' : (x.k.tmod 5 = 0) = False := eq_false (by omega)
            have n1 : (x.k.tmod 5 == 1) = false := by rw [beq_eq_false_iff_ne]; omega
            have n1' : (x.k.tmod 5 = 1) = False := eq_false (by omega)
            have y3 : (x.k.tmod 5 == 3) = true := by rw [beq_iff_eq]; omega
            have y3' : (x.k.tmod 5 = 3) = True := eq_true (by omega)
            obtain ⟨x0, x1, x2⟩ := HA4.out.head
            have HLP := Lib.hid (run_loadP _ g 3 x.p HA4.out.pk)
            have HIV := Lib.hid HIN.out
            clear k3
            have hdc := double_cases L x.n
            go_wp2_with fail
            refine (acc_at HB4.out x.n).mono ?_
            rintro e w4' ⟨rfl, rfl⟩
            obtain ⟨b, hb⟩ : ∃ b, atR L x.n = b := ⟨_, rfl⟩
            rw [hb]
            go_wp2_with fail
            refine (acc_double HB4.out x.n).mono ?_
            rintro e w5 ⟨c, l1, he, rfl, hT, hKp⟩
            have H5 := Lib.hid hT
            have HA5 := Lib.hid (show AAt w5 g x from (hKp g (by simp)).trans HA4.out)
            clear hT hKp HLP x0 x1 x2
            rw [he] at hdc
            rcases hdc with ⟨h1, h2⟩ | ⟨k, hk, hkn, h1⟩
            · dsimp only at h1 h2
              subst h2
              have hz : (c == 0) = false := by rw [beq_eq_false_iff_ne]; exact h1
              have hz' : (c = 0) = False := eq_false h1
              clear hb
              go_wp2
              go_roundg (200 - (j + 1))
              case rel => exact ⟨j + 1, _, had, cn, by go_num, by omega, by omega, by omega, by omega, HIN, Lib.hid (H5.out.less (by simp))⟩
              case measure => omega
            · obtain ⟨rfl, rfl⟩ : c = 0 ∧ l1 = L ++ [L[k]] := by simpa using h1
              have hbb : L[k].bytes = b := by rw [← hb, hkn, atR, if_pos ⟨by omega, by omega⟩, Int.toNat_natCast, getD_get L k hk]
              have hok := HB4.out.one.ok L[k] (List.getElem_mem hk)
              clear h1 he hb hkn
              generalize hs : L[k] = s at *
              clear hs
              have HRD := Lib.hid (show ∀ W, Calls Tryd.prog 16 #[.string b] W fun e w' => e = .returned (.tuple #[.agg #[.int .i64 s.kind, .int .i64 s.fr, .int .i64 s.to, .int .u32 (s.life : Int), .int .u32 (s.seq : Int), .int .u32 (s.asked : Int), .int .u32 (s.boot : Int), .int .i64 s.code, .int .i64 s.err, .int .u32 (s.file : Int), .int .u32 (s.epoch : Int), .int .u32 (s.off : Int), .int .u32 (s.len : Int), .int .u32 (s.size : Int), .int .u32 (s.mode : Int), .int .u32 (s.deny : Int), .int .u32 (s.handle : Int), .string s.path, .string s.other, .string s.data], .int .i64 0]) ∧ Below W.heap.size W w' from fun W => hbb ▸ dread_back s hok.1 hok.2 W)
              clear hbb hok
              go_wp2_with fail
              refine (HRD.out _).mono ?_
              rintro e w6 ⟨rfl, hb6⟩
              obtain ⟨w7, hr7, hp7, hb7⟩ := fresh_pk w6 s
              have HST7 := Lib.hid hr7
              have HP7 := Lib.hid hp7
              have H7 := Lib.hid ((H5.out.below hb6).below hb7)
              clear hb6 hr7 hp7 hb7 H5 HA5 HB4 HA4
              go_wp2_with (first | ((with_reducible refine gate_store (p := 12) rfl ?_); refine wpList_none rfl rfl (execOp_store rfl rfl rfl HST7.out) ?_) | ((with_reducible refine gate_dst (N := 97) rfl ?_); refine wpList_val rfl rfl (execOp_load rfl rfl HP7.out.load) ?_))
              refine (acc_more H7.out (by omega) (HIN.out.bound HFEW.out) s).mono ?_
              rintro e w8 ⟨hv', cv', had', cn', rfl, hm, hT, _⟩
              have H8 := Lib.hid hT
              have HI8 := Lib.hid (HIN.out.more hm)
              have hl8 := more_len hm
              clear hm hT H7 HP7 HST7
              go_wp2
              go_roundg (200 - (j + 1))
              case rel => exact ⟨j + 1, _, had', cn', by go_num, by omega, by omega, by omega, by omega, HI8, Lib.hid (H8.out.less (by simp))⟩
              case measure => omega
        by_cases k4 : x.k.tmod 5 = 4
        · as_aux_lemma =>
            have n0 : (x.k.tmod 5 == 0) = false := by rw [beq_eq_false_iff_ne]; omega
            have n0' : (x.k.tmod 5 = 0) = False := eq_false (by omega)
            have n1 : (x.k.tmod 5 == 1) = false := by rw [beq_eq_false_iff_ne]; omega
            have n1' : (x.k.tmod 5 = 1) = False := eq_false (by omega)
            have n3 : (x.k.tmod 5 == 3) = false := by rw [beq_eq_false_iff_ne]; omega
            have n3' : (x.k.tmod 5 = 3) = False := eq_false (by omega)
            have y4 : (x.k.tmod 5 == 4) = true := by rw [beq_iff_eq]; omega
            have y4' : (x.k.tmod 5 = 4) = True := eq_true (by omega)
            obtain ⟨x0, x1, x2⟩ := HA4.out.head
            have HLP := Lib.hid (run_loadP _ g 3 x.p HA4.out.pk)
            have HIV := Lib.hid HIN.out
            clear k4
            have hmv := move_inv HIN.out x.n x.t
            go_wp2_with fail
            refine (acc_move HB4.out x.n x.t).mono ?_
            rintro e w5 ⟨c, l1, he, rfl, hT, hKp⟩
            rw [he] at hmv
            have H5 := Lib.hid hT
            have HI5 := Lib.hid hmv.1
            have hlen : l1.length = L.length := hmv.2
            clear hT hKp HLP x0 x1 x2 he hmv HB4 HA4
            go_wp2_with fail
            refine (acc_len H5.out).mono ?_
            rintro e w6 ⟨rfl, rfl⟩
            rw [hlen]
            clear hlen
            go_wp2
            go_roundg (200 - (j + 1))
            case rel => exact ⟨j + 1, _, had, cn, by go_num, by omega, by omega, by omega, by omega, HI5, Lib.hid (H5.out.less (by simp))⟩
            case measure => omega
        have n0 : (x.k.tmod 5 == 0) = false := by rw [beq_eq_false_iff_ne]; omega
        have n0' : (x.k.tmod 5 = 0) = False := eq_false (by omega)
        have n1 : (x.k.tmod 5 == 1) = false := by rw [beq_eq_false_iff_ne]; omega
        have n1' : (x.k.tmod 5 = 1) = False := eq_false (by omega)
        have n3 : (x.k.tmod 5 == 3) = false := by rw [beq_eq_false_iff_ne]; omega
        have n3' : (x.k.tmod 5 = 3) = False := eq_false (by omega)
        have n4 : (x.k.tmod 5 == 4) = false := by rw [beq_eq_false_iff_ne]; omega
        have n4' : (x.k.tmod 5 = 4) = False := eq_false (by omega)
        obtain ⟨x0, x1, x2⟩ := HA4.out.head
        go_wp2
        go_roundg (200 - (j + 1))
        case rel => exact ⟨j + 1, L, had, cn, by go_num, by omega, by omega, by omega, by omega, HIN, Lib.hid (HB4.out.less (by simp))⟩
        case measure => omega
    · have hcc : (¬ j < l.length) ∨ (j < l.length ∧ ¬ j < 200) := by omega
      rcases hcc with h1 | ⟨h1, h2⟩
      all_goals
        go_wp2_with fail
        go_loopg [14, 15] 200 (fun gg s14 s15 wr2 => ∃ (L2 : List Pk) (cn2 : List Int), L2.length ≤ gg ∧ Hid (Inv L2 had cn2) ∧ Hid (Acc w wr2 p L2 (.slice ah had.length ch) (.slice ac cn.length cc) had cn2 []))
        case atStart => exact ⟨L, cn, HFEW.out, HIN, HB⟩
        case round =>
          have HLC := Lib.hid HIN.out.len
          clear HB HIN HFEW
          obtain ⟨wz, rfl⟩ : ∃ wz : World, wz = wr := ⟨_, rfl⟩
          obtain ⟨L2, cn2, hg, HI, H⟩ := hrel
          have HFEW := Lib.hid H.out.one.few
          cases L2 with
          | cons s T =>
            go_wp2_with fail
            refine (acc_len H.out).mono ?_
            rintro e w4' ⟨rfl, rfl⟩
            have hpos : (0 : Int) < ((s :: T).length : Int) := by simp
            go_wp2_with fail
            refine (acc_take H.out 0).mono ?_
            rintro e w5 ⟨s1, c, l1, he, rfl, hT, _⟩
            obtain ⟨rfl, rfl, rfl⟩ : s1 = s ∧ c = 0 ∧ l1 = T := by
              have h1 : takeR (s :: T) 0 = (s, 0, T) := by
                rw [takeR, if_pos ⟨Int.le_refl _, by simp⟩]; rfl
              rw [h1] at he
              simpa [eq_comm] using he
            clear hpos
            obtain ⟨w6, hr6, hp6, hb6⟩ := fresh_pk w5 s1
            have HST6 := Lib.hid hr6
            have HP6 := Lib.hid hp6
            have H6 := Lib.hid (hT.below hb6)
            clear hT hr6 hp6 hb6 he H
            go_wp2_with (first | ((with_reducible refine gate_store (p := 14) rfl ?_); refine wpList_none rfl rfl (execOp_store rfl rfl rfl HST6.out) ?_) | ((with_reducible refine gate_dst (N := 126) rfl ?_); (refine gate_guard (by first | rfl | kernel_rfl) ?_; dsimp only); refine wpList_val rfl rfl (execOp_load rfl rfl HP6.out.load) ?_))
            refine (acc_fewer H6.out (by omega) (HI.out.bound HFEW.out) s1 (HI.out.some (k := 0) (by simp))).mono ?_
            rintro e w7 ⟨cn', rfl, hm, hT, _⟩
            have H7 := Lib.hid hT
            have HI7 := Lib.hid (show Inv l1 had cn' by have := HI.out.cut (k := 0) (by simp) hm; simpa using this)
            clear hm hT H6 HP6 HST6
            go_wp2
            go_roundg l1.length
            case rel => exact ⟨l1, cn', Nat.le_refl _, HI7, H7⟩
            case measure => simp at hg; omega
          | nil =>
            go_wp2_with fail
            refine (acc_len H.out).mono ?_
            rintro e w4' ⟨rfl, rfl⟩
            go_wp2_with fail
            go_loopw [16] (fun s16 wv => ∃ i : Nat, i ≤ cn2.length ∧ s16 = .int .i64 i ∧ Hid (wv = w4')) (fun s16 _ => cn2.length - (intOf s16).toNat)
            case atStart => exact ⟨0, Nat.zero_le _, by simp, Lib.hid rfl⟩
            case round =>
              obtain ⟨i, hi, rfl, hw⟩ := hrel
              obtain rfl := hw.out
              clear hw
              by_cases hlt : i < cn2.length
              · obtain ⟨gc, c', e1, hcell, _⟩ := crow_get H.out.crow i hlt
                injection e1 with e2 e3 e4
                subst e2
                rw [HI.out.zero i hlt] at hcell
                have i2 : ((i : Int) < (cn.length : Int)) := by omega
                clear e3 e4
                have hle1 : i ≤ 200 := by have := HI.out.len; have := HLC.out; omega
                go_wp2
                go_roundw
                case rel => exact ⟨i + 1, by omega, by go_num, by first | exact Lib.hid rfl | exact Lib.hid trivial⟩
                case measure => simp [intOf]; omega
              · have i2 : ¬ ((i : Int) < (cn.length : Int)) := by have := HI.out.len; have := HLC.out; omega
                have i3 : ((cn.length : Int) ≤ (i : Int)) := by omega
                go_wp2_with fail
                refine (nalive_calls _).mono ?_
                rintro e we ⟨rfl, hb⟩
                have HBE := Lib.hid (H.out.below hb).one.bel
                clear hb
                go_wp2
                go_ret
                exact ⟨rfl, HBE.out⟩
theorem netOnce_walk (a0 : Option Addr) (len0 cap0 : Nat) (w : World) (w0 : Sees Tryd.prog w 140737488351232 5 40 [.slice a0 len0 cap0]) :
    Calls Tryd.prog 9 #[.slice a0 len0 cap0] w fun e w' => e = .returned (.bool true) ∧ Below w.heap.size w w' := by
  obtain ⟨l, rfl, hm, hA, hO⟩ := sees_acts (k := 0) (Nat.le_refl _) w0
  exact once_law a0 cap0 l w hA hO (by unfold maxLen at hm; omega)
end Go.Proofs.YtiedmkgdhfkcoaaDoor.Net
