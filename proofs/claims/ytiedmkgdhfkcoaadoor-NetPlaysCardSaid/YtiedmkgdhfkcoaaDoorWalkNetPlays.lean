/- Layer net: the walk of NetPlays. -/
import Derived.Test.YtiedmkgdhfkcoaaDoorNetU
import Derived.Test.YtiedmkgdhfkcoaaDoorPktBytes
import Derived.Deep.QuietTactic
import Derived.BigQuiet
namespace Go.Proofs.YtiedmkgdhfkcoaaDoor.Net
open Go.RowKit Go.Sees Go.Own Go.Blk Go.OpsL Go.XdrL Go.PktL Go.Proofs.YtiedmkgdhfkcoaaDoor.Pkt Go.Proofs.YtiedmkgdhfkcoaaDoorW.PrintLast Go.Proofs.YtiedmkgdhfkcoaaDoorW.PrintWords
set_option linter.unusedVariables false
set_option linter.unusedSimpArgs false
set_option maxRecDepth 100000
theorem kind5 (x : Int) : (-5 < x.tmod 5 ∧ x.tmod 5 < 5) := ⟨Int.lt_tmod_of_pos x (by decide), Int.tmod_lt_of_pos x (by decide)⟩
theorem bytes_ne (s : Pk) : s.bytes.toList ≠ [] := by
  intro h
  have h1 := (bytes_size s).2
  rw [ByteArray.toList_eq] at h
  have h2 : s.bytes.size = s.bytes.data.toList.length := by rw [Array.length_toList]; rfl
  rw [h, List.length_nil] at h2
  omega
theorem Two.drewN {w0 w : World} {p m : Nat} {l e : List Pk} {X : List Nat} (h : Two w0 w p m l e X) (n : Nat) : Two w0 (w.drewN n) p m l e X := h.below ⟨rfl, rfl, rfl, Nat.le_refl _, fun _ _ => rfl⟩
set_option maxHeartbeats 64000000 in
theorem plays_law (A : Option Addr) (ca : Nat) (l : List SA) (w : World) (hA : ArrAt w A acells 23 l) (hl : ∀ x ∈ l, x.OK) (ll : l.length ≤ 9223372036854775807) :
    Calls Tryd.prog 7 #[.slice A l.length ca] w fun e w' => e = .returned (.bool true) ∧ Below w.heap.size w w' := by
  have HA := Lib.hid hA
  have HOl := Lib.hid hl
  clear hA hl
  go_enter Tryd.func7, Tryd.ntmps7
  go_wp2_with fail
  refine (nalive_calls _).mono ?_
  rintro e w1 ⟨rfl, hb⟩
  have HB1 := Lib.hid hb
  have HT1 := Lib.hid (two_new hb)
  clear hb
  go_wp2_with fail
  obtain ⟨p, hp⟩ : ∃ p, w1.heap.size = p := ⟨_, rfl⟩
  obtain ⟨m, hm⟩ : ∃ m, p + 1 = m := ⟨_, rfl⟩
  rw [hp] at HT1 ⊢
  rw [hm] at HT1 ⊢
  clear hp hm HB1
  generalize (w1.alloc (.cells #[.slice none 0 0] 46)).alloc (.cells #[.slice none 0 0] 50) = w2 at HT1 ⊢
  go_loopg [5] 300 (fun gg s5 wq => ∃ (j : Nat) (L : List Pk), s5 = .int .i64 j ∧ j ≤ l.length ∧ j ≤ 300 ∧ 300 - j ≤ gg ∧ Hid (Two w wq p m L L []))
  case atStart => exact ⟨0, [], by simp, Nat.zero_le _, by omega, by omega, HT1⟩
  case round =>
    clear HT1
    obtain ⟨wq, rfl⟩ : ∃ wq : World, wq = wr := ⟨_, rfl⟩
    obtain ⟨j, L, rfl, hj1, hj2, hjg, HB⟩ := hrel
    by_cases hc2 : j < l.length ∧ j < 300
    · obtain ⟨hd1, hd2⟩ := hc2
      obtain ⟨blk, off, rfl, hbw, hcs0⟩ := HA.out j hd1
      obtain ⟨x, hx⟩ : ∃ x, l[j] = x := ⟨_, rfl⟩
      rw [hx] at hcs0
      have HX := Lib.hid (HOl.out x (hx ▸ List.getElem_mem hd1))
      have HCS : Hid (wq.rangeAt blk (off + j * 23) (acells x)) := Lib.hid (fun i u hu => (HB.out.bel.cell (p := ⟨blk, _, none⟩) hbw).trans (hcs0 i u hu))
      clear hcs0 hx
      have HLD := Lib.hid (run_loadA wq blk (off + j * 23) x HCS.out)
      obtain ⟨w3, hr3, ha3, hb3⟩ := fresh_act wq x
      have HST3 := Lib.hid hr3
      have HAA := Lib.hid ha3
      have HB3 := Lib.hid (HB.out.add hb3 (Nat.le_refl _) (lt_of ha3))
      clear hr3 ha3 hb3 HCS
      obtain ⟨g, hg⟩ : ∃ g, wq.heap.size = g := ⟨_, rfl⟩
      rw [hg] at HAA HB3
      have HG := Lib.hid hg
      clear hg HB
      go_wp2_with (first | ((with_reducible refine gate_dst (N := 33) rfl ?_); refine wpList_val rfl rfl (execOp_load rfl rfl HLD.out) ?_) | ((with_reducible refine gate_store (p := 6) rfl ?_); refine wpList_none rfl rfl (execOp_store rfl rfl rfl HST3.out) ?_; refine stop_here ?_))
      refine Lib.hid ?_
      rw [HG.out]
      have HLP := Lib.hid (run_loadP w3 g 3 x.p HAA.out.pk)
      clear HLD HST3 HG
      go_wp2_with (first | ((with_reducible refine gate_dst (N := 35) rfl ?_); refine wpList_val rfl rfl (execOp_load rfl rfl HLP.out) ?_))
      refine (long_calls x.p HX.out.2.2 _).mono ?_
      rintro e w4 ⟨rfl, hb⟩
      have HB4 := Lib.hid (HB3.out.below hb)
      have HA4 := Lib.hid (HAA.out.below hb)
      clear hb HB3 HAA HLP
      cases longP x.p
      case true =>
        go_wp2
        go_roundg (300 - (j + 1))
        case rel => exact ⟨j + 1, L, by go_num, by omega, by omega, by omega, Lib.hid (HB4.out.less (by simp))⟩
        case measure => omega
      case false =>
        obtain ⟨z0, z1, z2⟩ := HA4.out.head
        go_upto_block 2 with fail
        clear z0 z1 z2
        go_cut [7] (fun s7 wc => ∃ (L2 : List Pk), s7 = .bool true ∧ Hid (Two w wc p m L2 L2 [g]) ∧ Hid (AAt wc g x))
        case first =>
          by_cases k0 : x.k.tmod 5 = 0
          · as_aux_lemma =>
              have y0 : (x.k.tmod 5 == 0) = true := by rw [beq_iff_eq]; omega
              have y0' : (x.k.tmod 5 = 0) = True := eq_true (by omega)
              obtain ⟨c, L2, hs⟩ : ∃ c L2, sendR L x.p = (c, L2) := ⟨_, _, rfl⟩
              have HS := Lib.hid hs
              clear hs
              obtain ⟨x0, x1, x2⟩ := HA4.out.head
              clear k0
              go_wp2
              refine start_ (n := 10) (S := fun w' => AAt w' g x) (ds := []) #[false, false, false, false, false, false, false, false, false, false] (by kernel_rfl) rfl rfl (HA4.out.below (Below.refl _ _).drew) (fun hHeld => ?_)
              have H2 := Lib.hid (HB4.out.below (Below.refl _ _).drew)
              have HA2 := Lib.hid (HA4.out.below (Below.refl _ _).drew)
              generalize w4.drew = w5 at H2 HA2 hHeld ⊢
              clear HB4 HA4
              refine pure_ (i := 0) (N := some 42) (v := ?_) (a' := ?_) #[true, false, false, false, false, false, false, false, false, false] rfl rfl (by kernel_rfl) (fun _ _ _ h => h) (Or.inl ⟨by rfl, ?_⟩) ?_ ?_
              rotate_left
              · intro w'
                go_simp
                with_reducible rfl
              rotate_left
              · simp only [Act.put, List.setIfInBounds_toArray, List.set_cons_zero, List.set_cons_succ, i64_w, i32_w]
                rfl
              refine pure_ (i := 1) (N := some 43) (v := ?_) (a' := ?_) #[true, true, false, false, false, false, false, false, false, false] rfl rfl (by kernel_rfl) (fun _ _ _ h => h) (Or.inl ⟨by rfl, ?_⟩) ?_ ?_
              rotate_left
              · intro w'
                go_simp
                with_reducible rfl
              rotate_left
              · simp only [Act.put, List.setIfInBounds_toArray, List.set_cons_zero, List.set_cons_succ, i64_w, i32_w]
                rfl
              refine take_ (i := 2) (N := some 44) (v := .agg #[.int .i64 x.p.kind, .int .i64 x.p.fr, .int .i64 x.p.to, .int .u32 (x.p.life : Int), .int .u32 (x.p.seq : Int), .int .u32 (x.p.asked : Int), .int .u32 (x.p.boot : Int), .int .i64 x.p.code, .int .i64 x.p.err, .int .u32 (x.p.file : Int), .int .u32 (x.p.epoch : Int), .int .u32 (x.p.off : Int), .int .u32 (x.p.len : Int), .int .u32 (x.p.size : Int), .int .u32 (x.p.mode : Int), .int .u32 (x.p.deny : Int), .int .u32 (x.p.handle : Int), .string x.p.path, .string x.p.other, .string x.p.data]) (a' := ?_) #[true, true, true, false, false, false, false, false, false, false] rfl rfl (by kernel_rfl) (fun _ _ _ h => h) (yieldsIf_load_mid (by rfl) 27 (.tmp 43) rfl g 3 rfl (pcells x.p) _ (fun w' hS => hS.pk) Tryd.underlying27 rfl pk_info) hHeld ?_ ?_
              rotate_left
              · simp only [Act.put, List.setIfInBounds_toArray, List.set_cons_zero, List.set_cons_succ, i64_w, i32_w]
                rfl
              refine pure_ (i := 4) (N := some 46) (v := ?_) (a' := ?_) #[true, true, true, false, true, false, false, false, false, false] rfl rfl (by kernel_rfl) (fun _ _ _ h => h) (Or.inl ⟨by rfl, ?_⟩) ?_ ?_
              rotate_left
              · intro w'
                go_simp
                with_reducible rfl
              rotate_left
              · simp only [Act.put, List.setIfInBounds_toArray, List.set_cons_zero, List.set_cons_succ, i64_w, i32_w]
                rfl
              refine pure_ (i := 5) (N := some 47) (v := ?_) (a' := ?_) #[true, true, true, false, true, true, false, false, false, false] rfl rfl (by kernel_rfl) (fun _ _ _ h => h) (Or.inl ⟨by rfl, ?_⟩) ?_ ?_
              rotate_left
              · intro w'
                go_simp
                with_reducible rfl
              rotate_left
              · simp only [Act.put, List.setIfInBounds_toArray, List.set_cons_zero, List.set_cons_succ, i64_w, i32_w]
                rfl
              refine take_ (i := 6) (N := some 48) (v := .agg #[.int .i64 x.p.kind, .int .i64 x.p.fr, .int .i64 x.p.to, .int .u32 (x.p.life : Int), .int .u32 (x.p.seq : Int), .int .u32 (x.p.asked : Int), .int .u32 (x.p.boot : Int), .int .i64 x.p.code, .int .i64 x.p.err, .int .u32 (x.p.file : Int), .int .u32 (x.p.epoch : Int), .int .u32 (x.p.off : Int), .int .u32 (x.p.len : Int), .int .u32 (x.p.size : Int), .int .u32 (x.p.mode : Int), .int .u32 (x.p.deny : Int), .int .u32 (x.p.handle : Int), .string x.p.path, .string x.p.other, .string x.p.data]) (a' := ?_) #[true, true, true, false, true, true, true, false, false, false] rfl rfl (by kernel_rfl) (fun _ _ _ h => h) (yieldsIf_load_mid (by rfl) 27 (.tmp 47) rfl g 3 rfl (pcells x.p) _ (fun w' hS => hS.pk) Tryd.underlying27 rfl pk_info) hHeld ?_ ?_
              rotate_left
              · simp only [Act.put, List.setIfInBounds_toArray, List.set_cons_zero, List.set_cons_succ, i64_w, i32_w]
                rfl
              refine one_ (i := 3) (N := some 45) #[true, true, true, true, true, true, true, false, false, false] rfl rfl (by kernel_rfl) (by decide) (fun K hK => ?_)
              refine goes_ Tryd.func19 (by kernel_rfl) rfl #[.pointer (some ⟨p, 0, none⟩), .agg #[.int .i64 x.p.kind, .int .i64 x.p.fr, .int .i64 x.p.to, .int .u32 (x.p.life : Int), .int .u32 (x.p.seq : Int), .int .u32 (x.p.asked : Int), .int .u32 (x.p.boot : Int), .int .i64 x.p.code, .int .i64 x.p.err, .int .u32 (x.p.file : Int), .int .u32 (x.p.epoch : Int), .int .u32 (x.p.off : Int), .int .u32 (x.p.len : Int), .int .u32 (x.p.size : Int), .int .u32 (x.p.mode : Int), .int .u32 (x.p.deny : Int), .int .u32 (x.p.handle : Int), .string x.p.path, .string x.p.other, .string x.p.data]] (by rfl) rfl rfl (by (try simp only [List.map_toArray, List.map_cons, List.map_nil]); first | done | rfl) ?_
              refine (two_send H2.out x.p HX.out.2.2).mono ?_
              rintro e wx ⟨c1, l1, he, rfl, hT, hKp⟩
              obtain ⟨rfl, rfl⟩ : c = c1 ∧ L2 = l1 := by
                have := HS.out.symm.trans he
                simpa using this
              refine ⟨_, rfl, ?_⟩
              have H3 := Lib.hid hT
              have HA3 := Lib.hid (show AAt wx g x from (hKp g (by simp)).trans HA2.out)
              clear hT hKp he H2 HA2
              refine hK.out _ _ HA3.out (fun hHeld => ?_)
              clear hK K
              refine norm_ (a' := ?_) ?_ ?_
              rotate_left
              · show Act.put _ (some 45) _ = _
                simp only [Act.put, List.setIfInBounds_toArray, List.set_cons_zero, List.set_cons_succ, i64_w, i32_w]
                rfl
              refine one_ (i := 7) (N := some 49) #[true, true, true, true, true, true, true, true, false, false] rfl rfl (by kernel_rfl) (by decide) (fun K hK => ?_)
              refine goes_ Tryd.func20 (by kernel_rfl) rfl #[.pointer (some ⟨m, 0, none⟩), .agg #[.int .i64 x.p.kind, .int .i64 x.p.fr, .int .i64 x.p.to, .int .u32 (x.p.life : Int), .int .u32 (x.p.seq : Int), .int .u32 (x.p.asked : Int), .int .u32 (x.p.boot : Int), .int .i64 x.p.code, .int .i64 x.p.err, .int .u32 (x.p.file : Int), .int .u32 (x.p.epoch : Int), .int .u32 (x.p.off : Int), .int .u32 (x.p.len : Int), .int .u32 (x.p.size : Int), .int .u32 (x.p.mode : Int), .int .u32 (x.p.deny : Int), .int .u32 (x.p.handle : Int), .string x.p.path, .string x.p.other, .string x.p.data]] (by rfl) rfl rfl (by (try simp only [List.map_toArray, List.map_cons, List.map_nil]); first | done | rfl) ?_
              refine (two_dsend H3.out x.p HX.out.2.2).mono ?_
              rintro e wy ⟨c1, l1, he, rfl, hT, hKp⟩
              obtain ⟨rfl, rfl⟩ : c = c1 ∧ L2 = l1 := by
                have := HS.out.symm.trans he
                simpa using this
              refine ⟨_, rfl, ?_⟩
              have H7 := Lib.hid hT
              have HA7 := Lib.hid (show AAt wy g x from (hKp g (by simp)).trans HA3.out)
              clear hT hKp he H3 HA3
              refine hK.out _ _ HA7.out (fun hHeld => ?_)
              clear hK K
              refine norm_ (a' := ?_) ?_ ?_
              rotate_left
              · show Act.put _ (some 49) _ = _
                simp only [Act.put, List.setIfInBounds_toArray, List.set_cons_zero, List.set_cons_succ, i64_w, i32_w]
                rfl
              refine pure_ (i := 8) (N := some 50) (v := ?_) (a' := ?_) #[true, true, true, true, true, true, true, true, true, false] rfl rfl (by kernel_rfl) (fun _ _ _ h => h) (Or.inl ⟨by rfl, ?_⟩) ?_ ?_
              rotate_left
              · intro w'
                go_simp
                with_reducible rfl
              rotate_left
              · simp only [Act.put, List.setIfInBounds_toArray, List.set_cons_zero, List.set_cons_succ, i64_w, i32_w]
                rfl
              refine pure_ (i := 9) (N := some 7) (v := ?_) (a' := ?_) #[true, true, true, true, true, true, true, true, true, true] rfl rfl (by kernel_rfl) (fun _ _ _ h => h) (Or.inl ⟨by rfl, ?_⟩) ?_ ?_
              rotate_left
              · intro w'
                go_simp
                with_reducible rfl
              rotate_left
              · simp only [Act.put, List.setIfInBounds_toArray, List.set_cons_zero, List.set_cons_succ, i64_w, i32_w]
                rfl
              refine done_ (by kernel_rfl) ?_
              go_wp2
              go_meet
              case rel => exact ⟨L2, rfl, H7, HA7⟩
          by_cases k1 : x.k.tmod 5 = 1
          · as_aux_lemma =>
              have n0 : (x.k.tmod 5 == 0) = false := by rw [beq_eq_false_iff_ne]; omega
              have n0' : (x.k.tmod 5 = 0) = False := eq_false (by omega)
              have y1 : (x.k.tmod 5 == 1) = true := by rw [beq_iff_eq]; omega
              have y1' : (x.k.tmod 5 = 1) = True := eq_true (by omega)
              obtain ⟨x0, x1, x2⟩ := HA4.out.head
              clear k1
              obtain ⟨s, c, L2, hs⟩ : ∃ s c L2, takeR L x.n = (s, c, L2) := ⟨_, _, _, rfl⟩
              have HS := Lib.hid hs
              clear hs
              go_wp2_with fail
              refine (two_take HB4.out x.n).mono ?_
              rintro e w5 ⟨s1, c1, l1, he, rfl, hT, hKp⟩
              obtain ⟨rfl, rfl, rfl⟩ : s = s1 ∧ c = c1 ∧ L2 = l1 := by
                have := HS.out.symm.trans he
                simpa using this
              obtain ⟨w6, hr6, hp6, hb6⟩ := fresh_pk w5 s
              have HA6 := Lib.hid ((show AAt w5 g x from (hKp g (by simp)).trans HA4.out).below hb6)
              have H6 := Lib.hid (hT.add hb6 (Nat.le_refl _) (lt_of hp6))
              have HP6 := Lib.hid hp6
              have HST6 := Lib.hid hr6
              clear he hT hKp hr6 hp6 hb6 HA4 HB4 x0 x1 x2
              obtain ⟨x0, x1, x2⟩ := HA6.out.head
              go_wp2_with (first | ((with_reducible refine gate_store (p := 8) rfl ?_); refine wpList_none rfl rfl (execOp_store rfl rfl rfl HST6.out) ?_))
              clear x0 x1 x2
              refine (two_dtake H6.out x.n).mono ?_
              rintro e w7 ⟨s1, c1, l1, he, rfl, hT, hKp⟩
              obtain ⟨rfl, rfl, rfl⟩ : s = s1 ∧ c = c1 ∧ L2 = l1 := by
                have := HS.out.symm.trans he
                simpa using this
              obtain ⟨w8, hr8, hp8, hb8⟩ := fresh_pk w7 s
              have HA8 := Lib.hid ((show AAt w7 g x from (hKp g (by simp)).trans HA6.out).below hb8)
              have HP8 := Lib.hid ((hKp.pk (by simp) HP6.out).below hb8)
              have H8 := Lib.hid ((hT.below hb8).less (Y := [g]) (by simp))
              have HQ8 := Lib.hid hp8
              have HST8 := Lib.hid hr8
              clear he hT hKp hr8 hp8 hb8 HA6 H6 HP6 HST6
              go_wp2_with (first | ((with_reducible refine gate_store (p := 10) rfl ?_); refine wpList_none rfl rfl (execOp_store rfl rfl rfl HST8.out) ?_) | ((with_reducible refine gate_dst (N := 67) rfl ?_); refine wpList_val rfl rfl (execOp_load rfl rfl HP8.out.load) ?_) | ((with_reducible refine gate_dst (N := 68) rfl ?_); refine wpList_val rfl rfl (execOp_load rfl rfl HQ8.out.load) ?_) | ((with_reducible refine gate_dst (N := 69) rfl ?_); refine wpList_val rfl rfl (execOp_eq (p := s) (q := s) rfl rfl rfl) ?_))
              go_meet
              case rel => exact ⟨L2, rfl, H8, HA8⟩
          by_cases k2 : x.k.tmod 5 = 2
          · as_aux_lemma =>
              have n0 : (x.k.tmod 5 == 0) = false := by rw [beq_eq_false_iff_ne]; omega
              have n0' : (x.k.tmod 5 = 0) = False := eq_false (by omega)
              have n1 : (x.k.tmod 5 == 1) = false := by rw [beq_eq_false_iff_ne]; omega
              have n1' : (x.k.tmod 5 = 1) = False := eq_false (by omega)
              have y2 : (x.k.tmod 5 == 2) = true := by rw [beq_iff_eq]; omega
              have y2' : (x.k.tmod 5 = 2) = True := eq_true (by omega)
              obtain ⟨x0, x1, x2⟩ := HA4.out.head
              clear k2
              obtain ⟨s, c, L2, hs⟩ : ∃ s c L2, takeR L x.n = (s, c, L2) := ⟨_, _, _, rfl⟩
              have HS := Lib.hid hs
              clear hs
              go_wp2_with fail
              refine (two_dtake HB4.out x.n).mono ?_
              rintro e w5 ⟨s1, c1, l1, he, rfl, hT, hKp⟩
              obtain ⟨rfl, rfl, rfl⟩ : s = s1 ∧ c = c1 ∧ L2 = l1 := by
                have := HS.out.symm.trans he
                simpa using this
              obtain ⟨w6, hr6, hp6, hb6⟩ := fresh_pk w5 s
              have HA6 := Lib.hid ((show AAt w5 g x from (hKp g (by simp)).trans HA4.out).below hb6)
              have H6 := Lib.hid (hT.below hb6)
              have HST6 := Lib.hid hr6
              clear he hT hKp hr6 hp6 hb6 HA4 HB4 x0 x1 x2
              obtain ⟨x0, x1, x2⟩ := HA6.out.head
              go_wp2_with (first | ((with_reducible refine gate_store (p := 12) rfl ?_); refine wpList_none rfl rfl (execOp_store rfl rfl rfl HST6.out) ?_))
              clear x0 x1 x2
              refine (two_drop H6.out x.n).mono ?_
              rintro e w7 ⟨c1, l1, he, rfl, hT, hKp⟩
              obtain ⟨rfl, rfl⟩ : c = c1 ∧ L2 = l1 := by
                have := HS.out
                unfold dropR at he
                rw [this] at he
                simpa using he
              have HA8 := Lib.hid (show AAt w7 g x from (hKp g (by simp)).trans HA6.out)
              have H8 := Lib.hid hT
              clear he hT hKp HA6 H6 HST6
              go_wp2
              go_meet
              case rel => exact ⟨L2, rfl, H8, HA8⟩
          by_cases k3 : x.k.tmod 5 = 3
          · as_aux_lemma =>
              have n0 : (x.k.tmod 5 == 0) = false := by rw [beq_eq_false_iff_ne]; omega
              have n0' : (x.k.tmod 5 = 0) = False := eq_false (by omega)
              have n1 : (x.k.tmod 5 == 1) = false := by rw [beq_eq_false_iff_ne]; omega
              have n1' : (x.k.tmod 5 = 1) = False := eq_false (by omega)
              have n2 : (x.k.tmod 5 == 2) = false := by rw [beq_eq_false_iff_ne]; omega
              have n2' : (x.k.tmod 5 = 2) = False := eq_false (by omega)
              have y3 : (x.k.tmod 5 == 3) = true := by rw [beq_iff_eq]; omega
              have y3' : (x.k.tmod 5 = 3) = True := eq_true (by omega)
              obtain ⟨c, L2, hs⟩ : ∃ c L2, doubleR L x.n = (c, L2) := ⟨_, _, rfl⟩
              have HS := Lib.hid hs
              clear hs
              obtain ⟨x0, x1, x2⟩ := HA4.out.head
              clear k3
              go_wp2
              refine start_ (n := 10) (S := fun w' => AAt w' g x) (ds := []) #[false, false, false, false, false, false, false, false, false, false] (by kernel_rfl) rfl rfl (HA4.out.below (Below.refl _ _).drew) (fun hHeld => ?_)
              have H2 := Lib.hid (HB4.out.below (Below.refl _ _).drew)
              have HA2 := Lib.hid (HA4.out.below (Below.refl _ _).drew)
              generalize w4.drew = w5 at H2 HA2 hHeld ⊢
              clear HB4 HA4
              refine pure_ (i := 0) (N := some 92) (v := ?_) (a' := ?_) #[true, false, false, false, false, false, false, false, false, false] rfl rfl (by kernel_rfl) (fun _ _ _ h => h) (Or.inl ⟨by rfl, ?_⟩) ?_ ?_
              rotate_left
              · intro w'
                go_simp
                with_reducible rfl
              rotate_left
              · simp only [Act.put, List.setIfInBounds_toArray, List.set_cons_zero, List.set_cons_succ, i64_w, i32_w]
                rfl
              refine pure_ (i := 1) (N := some 93) (v := ?_) (a' := ?_) #[true, true, false, false, false, false, false, false, false, false] rfl rfl (by kernel_rfl) (fun _ _ _ h => h) (Or.inl ⟨by rfl, ?_⟩) ?_ ?_
              rotate_left
              · intro w'
                go_simp
                with_reducible rfl
              rotate_left
              · simp only [Act.put, List.setIfInBounds_toArray, List.set_cons_zero, List.set_cons_succ, i64_w, i32_w]
                rfl
              refine take_ (i := 2) (N := some 94) (v := ?_) (a' := ?_) #[true, true, true, false, false, false, false, false, false, false] rfl rfl (by kernel_rfl) (fun _ _ _ h => h) (Or.inl ⟨by rfl, ?_⟩) hHeld ?_ ?_
              rotate_left
              · intro w' hS
                obtain ⟨x0, x1, x2⟩ := hS.head
                go_simp
                with_reducible rfl
              rotate_left
              · simp only [Act.put, List.setIfInBounds_toArray, List.set_cons_zero, List.set_cons_succ, i64_w, i32_w]
                rfl
              refine pure_ (i := 4) (N := some 96) (v := ?_) (a' := ?_) #[true, true, true, false, true, false, false, false, false, false] rfl rfl (by kernel_rfl) (fun _ _ _ h => h) (Or.inl ⟨by rfl, ?_⟩) ?_ ?_
              rotate_left
              · intro w'
                go_simp
                with_reducible rfl
              rotate_left
              · simp only [Act.put, List.setIfInBounds_toArray, List.set_cons_zero, List.set_cons_succ, i64_w, i32_w]
                rfl
              refine pure_ (i := 5) (N := some 97) (v := ?_) (a' := ?_) #[true, true, true, false, true, true, false, false, false, false] rfl rfl (by kernel_rfl) (fun _ _ _ h => h) (Or.inl ⟨by rfl, ?_⟩) ?_ ?_
              rotate_left
              · intro w'
                go_simp
                with_reducible rfl
              rotate_left
              · simp only [Act.put, List.setIfInBounds_toArray, List.set_cons_zero, List.set_cons_succ, i64_w, i32_w]
                rfl
              refine take_ (i := 6) (N := some 98) (v := ?_) (a' := ?_) #[true, true, true, false, true, true, true, false, false, false] rfl rfl (by kernel_rfl) (fun _ _ _ h => h) (Or.inl ⟨by rfl, ?_⟩) hHeld ?_ ?_
              rotate_left
              · intro w' hS
                obtain ⟨x0, x1, x2⟩ := hS.head
                go_simp
                with_reducible rfl
              rotate_left
              · simp only [Act.put, List.setIfInBounds_toArray, List.set_cons_zero, List.set_cons_succ, i64_w, i32_w]
                rfl
              refine one_ (i := 3) (N := some 95) #[true, true, true, true, true, true, true, false, false, false] rfl rfl (by kernel_rfl) (by decide) (fun K hK => ?_)
              refine goes_ Tryd.func24 (by kernel_rfl) rfl #[.pointer (some ⟨p, 0, none⟩), .int .i64 x.n] (by rfl) rfl rfl (by (try simp only [List.map_toArray, List.map_cons, List.map_nil]); first | done | rfl) ?_
              refine (two_double H2.out x.n).mono ?_
              rintro e wx ⟨c1, l1, he, rfl, hT, hKp⟩
              obtain ⟨rfl, rfl⟩ : c = c1 ∧ L2 = l1 := by
                have := HS.out.symm.trans he
                simpa using this
              refine ⟨_, rfl, ?_⟩
              have H3 := Lib.hid hT
              have HA3 := Lib.hid (show AAt wx g x from (hKp g (by simp)).trans HA2.out)
              clear hT hKp he H2 HA2
              refine hK.out _ _ HA3.out (fun hHeld => ?_)
              clear hK K
              refine norm_ (a' := ?_) ?_ ?_
              rotate_left
              · show Act.put _ (some 95) _ = _
                simp only [Act.put, List.setIfInBounds_toArray, List.set_cons_zero, List.set_cons_succ, i64_w, i32_w]
                rfl
              refine one_ (i := 7) (N := some 99) #[true, true, true, true, true, true, true, true, false, false] rfl rfl (by kernel_rfl) (by decide) (fun K hK => ?_)
              refine goes_ Tryd.func25 (by kernel_rfl) rfl #[.pointer (some ⟨m, 0, none⟩), .int .i64 x.n] (by rfl) rfl rfl (by (try simp only [List.map_toArray, List.map_cons, List.map_nil]); first | done | rfl) ?_
              refine (two_ddouble H3.out x.n).mono ?_
              rintro e wy ⟨c1, l1, he, rfl, hT, hKp⟩
              obtain ⟨rfl, rfl⟩ : c = c1 ∧ L2 = l1 := by
                have := HS.out.symm.trans he
                simpa using this
              refine ⟨_, rfl, ?_⟩
              have H7 := Lib.hid hT
              have HA7 := Lib.hid (show AAt wy g x from (hKp g (by simp)).trans HA3.out)
              clear hT hKp he H3 HA3
              refine hK.out _ _ HA7.out (fun hHeld => ?_)
              clear hK K
              refine norm_ (a' := ?_) ?_ ?_
              rotate_left
              · show Act.put _ (some 99) _ = _
                simp only [Act.put, List.setIfInBounds_toArray, List.set_cons_zero, List.set_cons_succ, i64_w, i32_w]
                rfl
              refine pure_ (i := 8) (N := some 100) (v := ?_) (a' := ?_) #[true, true, true, true, true, true, true, true, true, false] rfl rfl (by kernel_rfl) (fun _ _ _ h => h) (Or.inl ⟨by rfl, ?_⟩) ?_ ?_
              rotate_left
              · intro w'
                go_simp
                with_reducible rfl
              rotate_left
              · simp only [Act.put, List.setIfInBounds_toArray, List.set_cons_zero, List.set_cons_succ, i64_w, i32_w]
                rfl
              refine pure_ (i := 9) (N := some 7) (v := ?_) (a' := ?_) #[true, true, true, true, true, true, true, true, true, true] rfl rfl (by kernel_rfl) (fun _ _ _ h => h) (Or.inl ⟨by rfl, ?_⟩) ?_ ?_
              rotate_left
              · intro w'
                go_simp
                with_reducible rfl
              rotate_left
              · simp only [Act.put, List.setIfInBounds_toArray, List.set_cons_zero, List.set_cons_succ, i64_w, i32_w]
                rfl
              refine done_ (by kernel_rfl) ?_
              go_wp2
              go_meet
              case rel => exact ⟨L2, rfl, H7, HA7⟩
          by_cases k4 : x.k.tmod 5 = 4
          · as_aux_lemma =>
              have n0 : (x.k.tmod 5 == 0) = false := by rw [beq_eq_false_iff_ne]; omega
              have n0' : (x.k.tmod 5 = 0) = False := eq_false (by omega)
              have n1 : (x.k.tmod 5 == 1) = false := by rw [beq_eq_false_iff_ne]; omega
              have n1' : (x.k.tmod 5 = 1) = False := eq_false (by omega)
              have n2 : (x.k.tmod 5 == 2) = false := by rw [beq_eq_false_iff_ne]; omega
              have n2' : (x.k.tmod 5 = 2) = False := eq_false (by omega)
              have n3 : (x.k.tmod 5 == 3) = false := by rw [beq_eq_false_iff_ne]; omega
              have n3' : (x.k.tmod 5 = 3) = False := eq_false (by omega)
              have y4 : (x.k.tmod 5 == 4) = true := by rw [beq_iff_eq]; omega
              have y4' : (x.k.tmod 5 = 4) = True := eq_true (by omega)
              obtain ⟨c, L2, hs⟩ : ∃ c L2, moveR L x.n x.t = (c, L2) := ⟨_, _, rfl⟩
              have HS := Lib.hid hs
              clear hs
              obtain ⟨x0, x1, x2⟩ := HA4.out.head
              clear k4
              go_wp2
              refine start_ (n := 14) (S := fun w' => AAt w' g x) (ds := []) #[false, false, false, false, false, false, false, false, false, false, false, false, false, false] (by kernel_rfl) rfl rfl (HA4.out.below (Below.refl _ _).drew) (fun hHeld => ?_)
              have H2 := Lib.hid (HB4.out.below (Below.refl _ _).drew)
              have HA2 := Lib.hid (HA4.out.below (Below.refl _ _).drew)
              generalize w4.drew = w5 at H2 HA2 hHeld ⊢
              clear HB4 HA4
              refine pure_ (i := 0) (N := some 103) (v := ?_) (a' := ?_) #[true, false, false, false, false, false, false, false, false, false, false, false, false, false] rfl rfl (by kernel_rfl) (fun _ _ _ h => h) (Or.inl ⟨by rfl, ?_⟩) ?_ ?_
              rotate_left
              · intro w'
                go_simp
                with_reducible rfl
              rotate_left
              · simp only [Act.put, List.setIfInBounds_toArray, List.set_cons_zero, List.set_cons_succ, i64_w, i32_w]
                rfl
              refine pure_ (i := 1) (N := some 104) (v := ?_) (a' := ?_) #[true, true, false, false, false, false, false, false, false, false, false, false, false, false] rfl rfl (by kernel_rfl) (fun _ _ _ h => h) (Or.inl ⟨by rfl, ?_⟩) ?_ ?_
              rotate_left
              · intro w'
                go_simp
                with_reducible rfl
              rotate_left
              · simp only [Act.put, List.setIfInBounds_toArray, List.set_cons_zero, List.set_cons_succ, i64_w, i32_w]
                rfl
              refine take_ (i := 2) (N := some 105) (v := ?_) (a' := ?_) #[true, true, true, false, false, false, false, false, false, false, false, false, false, false] rfl rfl (by kernel_rfl) (fun _ _ _ h => h) (Or.inl ⟨by rfl, ?_⟩) hHeld ?_ ?_
              rotate_left
              · intro w' hS
                obtain ⟨x0, x1, x2⟩ := hS.head
                go_simp
                with_reducible rfl
              rotate_left
              · simp only [Act.put, List.setIfInBounds_toArray, List.set_cons_zero, List.set_cons_succ, i64_w, i32_w]
                rfl
              refine pure_ (i := 3) (N := some 106) (v := ?_) (a' := ?_) #[true, true, true, true, false, false, false, false, false, false, false, false, false, false] rfl rfl (by kernel_rfl) (fun _ _ _ h => h) (Or.inl ⟨by rfl, ?_⟩) ?_ ?_
              rotate_left
              · intro w'
                go_simp
                with_reducible rfl
              rotate_left
              · simp only [Act.put, List.setIfInBounds_toArray, List.set_cons_zero, List.set_cons_succ, i64_w, i32_w]
                rfl
              refine take_ (i := 4) (N := some 107) (v := ?_) (a' := ?_) #[true, true, true, true, true, false, false, false, false, false, false, false, false, false] rfl rfl (by kernel_rfl) (fun _ _ _ h => h) (Or.inl ⟨by rfl, ?_⟩) hHeld ?_ ?_
              rotate_left
              · intro w' hS
                obtain ⟨x0, x1, x2⟩ := hS.head
                go_simp
                with_reducible rfl
              rotate_left
              · simp only [Act.put, List.setIfInBounds_toArray, List.set_cons_zero, List.set_cons_succ, i64_w, i32_w]
                rfl
              refine pure_ (i := 6) (N := some 109) (v := ?_) (a' := ?_) #[true, true, true, true, true, false, true, false, false, false, false, false, false, false] rfl rfl (by kernel_rfl) (fun _ _ _ h => h) (Or.inl ⟨by rfl, ?_⟩) ?_ ?_
              rotate_left
              · intro w'
                go_simp
                with_reducible rfl
              rotate_left
              · simp only [Act.put, List.setIfInBounds_toArray, List.set_cons_zero, List.set_cons_succ, i64_w, i32_w]
                rfl
              refine pure_ (i := 7) (N := some 110) (v := ?_) (a' := ?_) #[true, true, true, true, true, false, true, true, false, false, false, false, false, false] rfl rfl (by kernel_rfl) (fun _ _ _ h => h) (Or.inl ⟨by rfl, ?_⟩) ?_ ?_
              rotate_left
              · intro w'
                go_simp
                with_reducible rfl
              rotate_left
              · simp only [Act.put, List.setIfInBounds_toArray, List.set_cons_zero, List.set_cons_succ, i64_w, i32_w]
                rfl
              refine take_ (i := 8) (N := some 111) (v := ?_) (a' := ?_) #[true, true, true, true, true, false, true, true, true, false, false, false, false, false] rfl rfl (by kernel_rfl) (fun _ _ _ h => h) (Or.inl ⟨by rfl, ?_⟩) hHeld ?_ ?_
              rotate_left
              · intro w' hS
                obtain ⟨x0, x1, x2⟩ := hS.head
                go_simp
                with_reducible rfl
              rotate_left
              · simp only [Act.put, List.setIfInBounds_toArray, List.set_cons_zero, List.set_cons_succ, i64_w, i32_w]
                rfl
              refine pure_ (i := 9) (N := some 112) (v := ?_) (a' := ?_) #[true, true, true, true, true, false, true, true, true, true, false, false, false, false] rfl rfl (by kernel_rfl) (fun _ _ _ h => h) (Or.inl ⟨by rfl, ?_⟩) ?_ ?_
              rotate_left
              · intro w'
                go_simp
                with_reducible rfl
              rotate_left
              · simp only [Act.put, List.setIfInBounds_toArray, List.set_cons_zero, List.set_cons_succ, i64_w, i32_w]
                rfl
              refine take_ (i := 10) (N := some 113) (v := ?_) (a' := ?_) #[true, true, true, true, true, false, true, true, true, true, true, false, false, false] rfl rfl (by kernel_rfl) (fun _ _ _ h => h) (Or.inl ⟨by rfl, ?_⟩) hHeld ?_ ?_
              rotate_left
              · intro w' hS
                obtain ⟨x0, x1, x2⟩ := hS.head
                go_simp
                with_reducible rfl
              rotate_left
              · simp only [Act.put, List.setIfInBounds_toArray, List.set_cons_zero, List.set_cons_succ, i64_w, i32_w]
                rfl
              refine one_ (i := 5) (N := some 108) #[true, true, true, true, true, true, true, true, true, true, true, false, false, false] rfl rfl (by kernel_rfl) (by decide) (fun K hK => ?_)
              refine goes_ Tryd.func26 (by kernel_rfl) rfl #[.pointer (some ⟨p, 0, none⟩), .int .i64 x.n, .int .i64 x.t] (by rfl) rfl rfl (by (try simp only [List.map_toArray, List.map_cons, List.map_nil]); first | done | rfl) ?_
              refine (two_move H2.out x.n x.t).mono ?_
              rintro e wx ⟨c1, l1, he, rfl, hT, hKp⟩
              obtain ⟨rfl, rfl⟩ : c = c1 ∧ L2 = l1 := by
                have := HS.out.symm.trans he
                simpa using this
              refine ⟨_, rfl, ?_⟩
              have H3 := Lib.hid hT
              have HA3 := Lib.hid (show AAt wx g x from (hKp g (by simp)).trans HA2.out)
              clear hT hKp he H2 HA2
              refine hK.out _ _ HA3.out (fun hHeld => ?_)
              clear hK K
              refine norm_ (a' := ?_) ?_ ?_
              rotate_left
              · show Act.put _ (some 108) _ = _
                simp only [Act.put, List.setIfInBounds_toArray, List.set_cons_zero, List.set_cons_succ, i64_w, i32_w]
                rfl
              refine one_ (i := 11) (N := some 114) #[true, true, true, true, true, true, true, true, true, true, true, true, false, false] rfl rfl (by kernel_rfl) (by decide) (fun K hK => ?_)
              refine goes_ Tryd.func27 (by kernel_rfl) rfl #[.pointer (some ⟨m, 0, none⟩), .int .i64 x.n, .int .i64 x.t] (by rfl) rfl rfl (by (try simp only [List.map_toArray, List.map_cons, List.map_nil]); first | done | rfl) ?_
              refine (two_dmove H3.out x.n x.t).mono ?_
              rintro e wy ⟨c1, l1, he, rfl, hT, hKp⟩
              obtain ⟨rfl, rfl⟩ : c = c1 ∧ L2 = l1 := by
                have := HS.out.symm.trans he
                simpa using this
              refine ⟨_, rfl, ?_⟩
              have H7 := Lib.hid hT
              have HA7 := Lib.hid (show AAt wy g x from (hKp g (by simp)).trans HA3.out)
              clear hT hKp he H3 HA3
              refine hK.out _ _ HA7.out (fun hHeld => ?_)
              clear hK K
              refine norm_ (a' := ?_) ?_ ?_
              rotate_left
              · show Act.put _ (some 114) _ = _
                simp only [Act.put, List.setIfInBounds_toArray, List.set_cons_zero, List.set_cons_succ, i64_w, i32_w]
                rfl
              refine pure_ (i := 12) (N := some 115) (v := ?_) (a' := ?_) #[true, true, true, true, true, true, true, true, true, true, true, true, true, false] rfl rfl (by kernel_rfl) (fun _ _ _ h => h) (Or.inl ⟨by rfl, ?_⟩) ?_ ?_
              rotate_left
              · intro w'
                go_simp
                with_reducible rfl
              rotate_left
              · simp only [Act.put, List.setIfInBounds_toArray, List.set_cons_zero, List.set_cons_succ, i64_w, i32_w]
                rfl
              refine pure_ (i := 13) (N := some 7) (v := ?_) (a' := ?_) #[true, true, true, true, true, true, true, true, true, true, true, true, true, true] rfl rfl (by kernel_rfl) (fun _ _ _ h => h) (Or.inl ⟨by rfl, ?_⟩) ?_ ?_
              rotate_left
              · intro w'
                go_simp
                with_reducible rfl
              rotate_left
              · simp only [Act.put, List.setIfInBounds_toArray, List.set_cons_zero, List.set_cons_succ, i64_w, i32_w]
                rfl
              refine done_ (by kernel_rfl) ?_
              go_wp2
              go_meet
              case rel => exact ⟨L2, rfl, H7, HA7⟩
          have n0 : (x.k.tmod 5 == 0) = false := by rw [beq_eq_false_iff_ne]; omega
          have n0' : (x.k.tmod 5 = 0) = False := eq_false (by omega)
          have n1 : (x.k.tmod 5 == 1) = false := by rw [beq_eq_false_iff_ne]; omega
          have n1' : (x.k.tmod 5 = 1) = False := eq_false (by omega)
          have n2 : (x.k.tmod 5 == 2) = false := by rw [beq_eq_false_iff_ne]; omega
          have n2' : (x.k.tmod 5 = 2) = False := eq_false (by omega)
          have n3 : (x.k.tmod 5 == 3) = false := by rw [beq_eq_false_iff_ne]; omega
          have n3' : (x.k.tmod 5 = 3) = False := eq_false (by omega)
          have n4 : (x.k.tmod 5 == 4) = false := by rw [beq_eq_false_iff_ne]; omega
          have n4' : (x.k.tmod 5 = 4) = False := eq_false (by omega)
          obtain ⟨x0, x1, x2⟩ := HA4.out.head
          go_wp2
          go_meet
          case rel => exact ⟨L, rfl, HB4, HA4⟩
        case rest =>
          obtain ⟨L2, rfl, H, HA2⟩ := hcut
          have hfew := H.out.few
          obtain ⟨x0, x1, x2⟩ := HA2.out.head
          by_cases hin : 0 ≤ x.n ∧ x.n < L2.length
          · as_aux_lemma =>
              obtain ⟨k, hk⟩ : ∃ k : Nat, x.n = (k : Int) := ⟨x.n.toNat, by omega⟩
              rw [hk] at hin x1
              have hkl : k < L2.length := by omega
              obtain ⟨s, hs⟩ : ∃ s, L2[k] = s := ⟨_, rfl⟩
              have hat : atR L2 (k : Int) = s.bytes := by rw [atR, if_pos hin, Int.toNat_natCast, getD_get L2 k hkl, hs]
              have hsok := H.out.ok s (hs ▸ List.getElem_mem hkl)
              obtain ⟨b, hb⟩ : ∃ b, s.bytes = b := ⟨_, rfl⟩
              have hne : b.toList ≠ [] := hb ▸ bytes_ne s
              have HATC := Lib.hid (show ∀ W, Two w W p m L2 L2 [g] → Calls Tryd.prog 29 #[.pointer (some ⟨p, 0, none⟩), .int .i64 (k : Int)] W fun r w' => r = .returned (.string b) ∧ w' = W from fun W h => by
                have := two_at h (k : Int)
                rw [hat, hb] at this
                exact this)
              have HBYC := Lib.hid (show ∀ W, Calls Tryd.prog 14 #[.agg #[.int .i64 s.kind, .int .i64 s.fr, .int .i64 s.to, .int .u32 (s.life : Int), .int .u32 (s.seq : Int), .int .u32 (s.asked : Int), .int .u32 (s.boot : Int), .int .i64 s.code, .int .i64 s.err, .int .u32 (s.file : Int), .int .u32 (s.epoch : Int), .int .u32 (s.off : Int), .int .u32 (s.len : Int), .int .u32 (s.size : Int), .int .u32 (s.mode : Int), .int .u32 (s.deny : Int), .int .u32 (s.handle : Int), .string s.path, .string s.other, .string s.data]] W fun r w' => r = .returned (.string b) ∧ Below W.heap.size W w' from fun W => hb ▸ dbytes s hsok.1 hsok.2 W)
              obtain ⟨a, c, hm, hrow⟩ := H.out.struct
              obtain ⟨G, rfl, hr⟩ := hrow k hkl
              rw [hs] at hr
              have HM := Lib.hid hm
              have HR := Lib.hid hr
              have HN := Lib.hid x1
              have HI1 := Lib.hid (show ¬ ((k : Int) < 0) by omega)
              have HI2 := Lib.hid (show ((k : Int) < (L2.length : Int)) by omega)
              have HI3 := Lib.hid (show (0 : Int) ≤ (k : Int) by omega)
              clear hm hr hrow hb hat hs hkl hk hsok
              have e1 : (b.toList == ([] : List UInt8)) = false := by rw [beq_eq_false_iff_ne]; exact hne
              have e2 : b.toList.isEmpty = false := by rw [List.isEmpty_eq_false_iff]; exact hne
              have e5 : (b.toList = []) = False := eq_false hne
              have e6 : (!b.toList.isEmpty) = true := by rw [e2]; rfl
              have e7 : (!(b.toList == ([] : List UInt8))) = true := by rw [e1]; rfl
              clear hne
              obtain ⟨hin1, hin2⟩ := hin
              obtain ⟨y0, f0⟩ := blk1 HM.out
              go_wp2_with fail
              go_quiet ((first | (go_at_call 28; exact Calls.quiet_of_same (two_len (H.out.drewN _))) | (go_at_call 29; exact Calls.quiet_of_same (HATC.out _ (H.out.drewN _)))))
              go_wp2_with fail
              clear x0 x1 x2 y0 f0 e1 e2 e5 e6 e7 hin1 hin2
              refine start_ (n := 29) (S := fun w' => w'.cell? ⟨g, 1, none⟩ = some (.int .i64 (k : Int)) ∧ w'.heap[m]? = some (.cells #[.slice (some ⟨G, 0, none⟩) L2.length c] 50 (0, 0)) ∧ w'.rangeAt G (k * 20) (pcells s)) (ds := []) #[false, false, false, false, false, false, false, false, false, false, false, false, false, false, false, false, false, false, false, false, false, false, false, false, false, false, false, false, false] (by kernel_rfl) rfl rfl (⟨HN.out, HM.out, HR.out⟩) (fun hHeld => ?_)
              have H26 := Lib.hid (H.out.drewN (nq + 1))
              have HS26 := hHeld
              have HM26 := Lib.hid (show (wc.drewN nq).drew.heap[m]? = _ from HM.out)
              have HR26 := Lib.hid (show (wc.drewN nq).drew.rangeAt G (k * 20) (pcells s) from HR.out)
              have HN26 := Lib.hid (show (wc.drewN nq).drew.cell? ⟨g, 1, none⟩ = _ from HN.out)
              have HBD := Lib.hid (show Below wc.heap.size wc (wc.drewN nq).drew from ⟨rfl, rfl, rfl, Nat.le_refl _, fun _ _ => rfl⟩)
              have hTW : Hid (Two w (wc.drewN nq).drew p m L2 L2 [g]) := Lib.hid (H.out.below HBD.out)
              generalize (wc.drewN nq).drew = wd at hTW HM26 HR26 HN26 HBD HS26 hHeld ⊢
              refine pure_ (i := 0) (N := some 150) (v := ?_) (a' := ?_) #[true, false, false, false, false, false, false, false, false, false, false, false, false, false, false, false, false, false, false, false, false, false, false, false, false, false, false, false, false] rfl rfl (by kernel_rfl) (fun _ _ _ h => h) (Or.inl ⟨by rfl, ?_⟩) ?_ ?_
              rotate_left
              · intro w'
                go_simp
                with_reducible rfl
              rotate_left
              · simp only [Act.put, List.setIfInBounds_toArray, List.set_cons_zero, List.set_cons_succ, i64_w, i32_w]
                rfl
              refine take_ (i := 1) (N := some 151) (v := ?_) (a' := ?_) #[true, true, false, false, false, false, false, false, false, false, false, false, false, false, false, false, false, false, false, false, false, false, false, false, false, false, false, false, false] rfl rfl (by kernel_rfl) (fun _ _ _ h => h) (Or.inl ⟨by rfl, ?_⟩) hHeld ?_ ?_
              rotate_left
              · intro w' hS
                obtain ⟨x1, _, _⟩ := hS
                go_simp
                with_reducible rfl
              rotate_left
              · simp only [Act.put, List.setIfInBounds_toArray, List.set_cons_zero, List.set_cons_succ, i64_w, i32_w]
                rfl
              refine pure_ (i := 2) (N := some 152) (v := ?_) (a' := ?_) #[true, true, true, false, false, false, false, false, false, false, false, false, false, false, false, false, false, false, false, false, false, false, false, false, false, false, false, false, false] rfl rfl (by kernel_rfl) (fun _ _ _ h => h) (Or.inl ⟨by rfl, ?_⟩) ?_ ?_
              rotate_left
              · intro w'
                have i1 := HI1.out
                have i2 := HI2.out
                have i3 := HI3.out
                go_simp
                with_reducible rfl
              rotate_left
              · simp only [Act.put, List.setIfInBounds_toArray, List.set_cons_zero, List.set_cons_succ, i64_w, i32_w]
                rfl
              refine pure_ (i := 3) (N := some 153) (v := ?_) (a' := ?_) #[true, true, true, true, false, false, false, false, false, false, false, false, false, false, false, false, false, false, false, false, false, false, false, false, false, false, false, false, false] rfl rfl (by kernel_rfl) (fun _ _ _ h => h) (Or.inl ⟨by rfl, ?_⟩) ?_ ?_
              rotate_left
              · intro w'
                go_simp
                with_reducible rfl
              rotate_left
              · simp only [Act.put, List.setIfInBounds_toArray, List.set_cons_zero, List.set_cons_succ, i64_w, i32_w]
                rfl
              refine pure_ (i := 4) (N := some 154) (v := ?_) (a' := ?_) #[true, true, true, true, true, false, false, false, false, false, false, false, false, false, false, false, false, false, false, false, false, false, false, false, false, false, false, false, false] rfl rfl (by kernel_rfl) (fun _ _ _ h => h) (Or.inl ⟨by rfl, ?_⟩) ?_ ?_
              rotate_left
              · intro w'
                go_simp
                with_reducible rfl
              rotate_left
              · simp only [Act.put, List.setIfInBounds_toArray, List.set_cons_zero, List.set_cons_succ, i64_w, i32_w]
                rfl
              refine take_ (i := 5) (N := some 155) (v := ?_) (a' := ?_) #[true, true, true, true, true, true, false, false, false, false, false, false, false, false, false, false, false, false, false, false, false, false, false, false, false, false, false, false, false] rfl rfl (by kernel_rfl) (fun _ _ _ h => h) (Or.inl ⟨by rfl, ?_⟩) hHeld ?_ ?_
              rotate_left
              · intro w' hS
                obtain ⟨x1, _, _⟩ := hS
                go_simp
                with_reducible rfl
              rotate_left
              · simp only [Act.put, List.setIfInBounds_toArray, List.set_cons_zero, List.set_cons_succ, i64_w, i32_w]
                rfl
              refine pure_ (i := 6) (N := some 156) (v := ?_) (a' := ?_) #[true, true, true, true, true, true, true, false, false, false, false, false, false, false, false, false, false, false, false, false, false, false, false, false, false, false, false, false, false] rfl rfl (by kernel_rfl) (fun _ _ _ h => h) (Or.inl ⟨by rfl, ?_⟩) ?_ ?_
              rotate_left
              · intro w'
                go_simp
                with_reducible rfl
              rotate_left
              · simp only [Act.put, List.setIfInBounds_toArray, List.set_cons_zero, List.set_cons_succ, i64_w, i32_w]
                rfl
              refine pure_ (i := 7) (N := some 157) (v := ?_) (a' := ?_) #[true, true, true, true, true, true, true, true, false, false, false, false, false, false, false, false, false, false, false, false, false, false, false, false, false, false, false, false, false] rfl rfl (by kernel_rfl) (fun _ _ _ h => h) (Or.inl ⟨by rfl, ?_⟩) ?_ ?_
              rotate_left
              · intro w'
                go_simp
                with_reducible rfl
              rotate_left
              · simp only [Act.put, List.setIfInBounds_toArray, List.set_cons_zero, List.set_cons_succ, i64_w, i32_w]
                rfl
              refine pure_ (i := 8) (N := some 158) (v := ?_) (a' := ?_) #[true, true, true, true, true, true, true, true, true, false, false, false, false, false, false, false, false, false, false, false, false, false, false, false, false, false, false, false, false] rfl rfl (by kernel_rfl) (fun _ _ _ h => h) (Or.inl ⟨by rfl, ?_⟩) ?_ ?_
              rotate_left
              · intro w'
                go_simp
                with_reducible rfl
              rotate_left
              · simp only [Act.put, List.setIfInBounds_toArray, List.set_cons_zero, List.set_cons_succ, i64_w, i32_w]
                rfl
              refine take_ (i := 9) (N := some 159) (v := ?_) (a' := ?_) #[true, true, true, true, true, true, true, true, true, true, false, false, false, false, false, false, false, false, false, false, false, false, false, false, false, false, false, false, false] rfl rfl (by kernel_rfl) (fun _ _ _ h => h) (Or.inl ⟨by rfl, ?_⟩) hHeld ?_ ?_
              rotate_left
              · intro w' hS
                obtain ⟨_, hm, _⟩ := hS
                obtain ⟨y0, f0⟩ := blk1 hm
                go_simp
                with_reducible rfl
              rotate_left
              · simp only [Act.put, List.setIfInBounds_toArray, List.set_cons_zero, List.set_cons_succ, i64_w, i32_w]
                rfl
              refine pure_ (i := 10) (N := some 160) (v := ?_) (a' := ?_) #[true, true, true, true, true, true, true, true, true, true, true, false, false, false, false, false, false, false, false, false, false, false, false, false, false, false, false, false, false] rfl rfl (by kernel_rfl) (fun _ _ _ h => h) (Or.inl ⟨by rfl, ?_⟩) ?_ ?_
              rotate_left
              · intro w'
                have i1 := HI1.out
                have i2 := HI2.out
                have i3 := HI3.out
                go_simp
                with_reducible rfl
              rotate_left
              · simp only [Act.put, List.setIfInBounds_toArray, List.set_cons_zero, List.set_cons_succ, i64_w, i32_w]
                rfl
              refine pure_ (i := 11) (N := some 161) (v := ?_) (a' := ?_) #[true, true, true, true, true, true, true, true, true, true, true, true, false, false, false, false, false, false, false, false, false, false, false, false, false, false, false, false, false] rfl rfl (by kernel_rfl) (fun _ _ _ h => h) (Or.inl ⟨by rfl, ?_⟩) ?_ ?_
              rotate_left
              · intro w'
                have i1 := HI1.out
                have i2 := HI2.out
                have i3 := HI3.out
                go_simp
                with_reducible rfl
              rotate_left
              · simp only [Act.put, List.setIfInBounds_toArray, List.set_cons_zero, List.set_cons_succ, i64_w, i32_w]
                rfl
              refine pure_ (i := 12) (N := some 162) (v := ?_) (a' := ?_) #[true, true, true, true, true, true, true, true, true, true, true, true, true, false, false, false, false, false, false, false, false, false, false, false, false, false, false, false, false] rfl rfl (by kernel_rfl) (fun _ _ _ h => h) (Or.inl ⟨by rfl, ?_⟩) ?_ ?_
              rotate_left
              · intro w'
                go_simp
                with_reducible rfl
              rotate_left
              · simp only [Act.put, List.setIfInBounds_toArray, List.set_cons_zero, List.set_cons_succ, i64_w, i32_w]
                rfl
              refine pure_ (i := 13) (N := some 163) (v := ?_) (a' := ?_) #[true, true, true, true, true, true, true, true, true, true, true, true, true, true, false, false, false, false, false, false, false, false, false, false, false, false, false, false, false] rfl rfl (by kernel_rfl) (fun _ _ _ h => h) (Or.inl ⟨by rfl, ?_⟩) ?_ ?_
              rotate_left
              · intro w'
                go_simp
                with_reducible rfl
              rotate_left
              · simp only [Act.put, List.setIfInBounds_toArray, List.set_cons_zero, List.set_cons_succ, i64_w, i32_w]
                rfl
              refine pure_ (i := 14) (N := some 164) (v := ?_) (a' := ?_) #[true, true, true, true, true, true, true, true, true, true, true, true, true, true, true, false, false, false, false, false, false, false, false, false, false, false, false, false, false] rfl rfl (by kernel_rfl) (fun _ _ _ h => h) (Or.inl ⟨by rfl, ?_⟩) ?_ ?_
              rotate_left
              · intro w'
                go_simp
                with_reducible rfl
              rotate_left
              · simp only [Act.put, List.setIfInBounds_toArray, List.set_cons_zero, List.set_cons_succ, i64_w, i32_w]
                rfl
              refine pure_ (i := 15) (N := some 165) (v := ?_) (a' := ?_) #[true, true, true, true, true, true, true, true, true, true, true, true, true, true, true, true, false, false, false, false, false, false, false, false, false, false, false, false, false] rfl rfl (by kernel_rfl) (fun _ _ _ h => h) (Or.inl ⟨by rfl, ?_⟩) ?_ ?_
              rotate_left
              · intro w'
                go_simp
                with_reducible rfl
              rotate_left
              · simp only [Act.put, List.setIfInBounds_toArray, List.set_cons_zero, List.set_cons_succ, i64_w, i32_w]
                rfl
              refine take_ (i := 16) (N := some 166) (v := ?_) (a' := ?_) #[true, true, true, true, true, true, true, true, true, true, true, true, true, true, true, true, true, false, false, false, false, false, false, false, false, false, false, false, false] rfl rfl (by kernel_rfl) (fun _ _ _ h => h) (Or.inl ⟨by rfl, ?_⟩) hHeld ?_ ?_
              rotate_left
              · intro w' hS
                obtain ⟨x1, _, _⟩ := hS
                go_simp
                with_reducible rfl
              rotate_left
              · simp only [Act.put, List.setIfInBounds_toArray, List.set_cons_zero, List.set_cons_succ, i64_w, i32_w]
                rfl
              refine pure_ (i := 18) (N := some 168) (v := ?_) (a' := ?_) #[true, true, true, true, true, true, true, true, true, true, true, true, true, true, true, true, true, false, true, false, false, false, false, false, false, false, false, false, false] rfl rfl (by kernel_rfl) (fun _ _ _ h => h) (Or.inl ⟨by rfl, ?_⟩) ?_ ?_
              rotate_left
              · intro w'
                go_simp
                with_reducible rfl
              rotate_left
              · simp only [Act.put, List.setIfInBounds_toArray, List.set_cons_zero, List.set_cons_succ, i64_w, i32_w]
                rfl
              refine pure_ (i := 19) (N := some 169) (v := ?_) (a' := ?_) #[true, true, true, true, true, true, true, true, true, true, true, true, true, true, true, true, true, false, true, true, false, false, false, false, false, false, false, false, false] rfl rfl (by kernel_rfl) (fun _ _ _ h => h) (Or.inl ⟨by rfl, ?_⟩) ?_ ?_
              rotate_left
              · intro w'
                go_simp
                with_reducible rfl
              rotate_left
              · simp only [Act.put, List.setIfInBounds_toArray, List.set_cons_zero, List.set_cons_succ, i64_w, i32_w]
                rfl
              refine pure_ (i := 20) (N := some 170) (v := ?_) (a' := ?_) #[true, true, true, true, true, true, true, true, true, true, true, true, true, true, true, true, true, false, true, true, true, false, false, false, false, false, false, false, false] rfl rfl (by kernel_rfl) (fun _ _ _ h => h) (Or.inl ⟨by rfl, ?_⟩) ?_ ?_
              rotate_left
              · intro w'
                go_simp
                with_reducible rfl
              rotate_left
              · simp only [Act.put, List.setIfInBounds_toArray, List.set_cons_zero, List.set_cons_succ, i64_w, i32_w]
                rfl
              refine take_ (i := 21) (N := some 171) (v := ?_) (a' := ?_) #[true, true, true, true, true, true, true, true, true, true, true, true, true, true, true, true, true, false, true, true, true, true, false, false, false, false, false, false, false] rfl rfl (by kernel_rfl) (fun _ _ _ h => h) (Or.inl ⟨by rfl, ?_⟩) hHeld ?_ ?_
              rotate_left
              · intro w' hS
                obtain ⟨_, hm, _⟩ := hS
                obtain ⟨y0, f0⟩ := blk1 hm
                go_simp
                with_reducible rfl
              rotate_left
              · simp only [Act.put, List.setIfInBounds_toArray, List.set_cons_zero, List.set_cons_succ, i64_w, i32_w]
                rfl
              refine pure_ (i := 22) (N := some 172) (v := ?_) (a' := ?_) #[true, true, true, true, true, true, true, true, true, true, true, true, true, true, true, true, true, false, true, true, true, true, true, false, false, false, false, false, false] rfl rfl (by kernel_rfl) (fun _ _ _ h => h) (Or.inl ⟨by rfl, ?_⟩) ?_ ?_
              rotate_left
              · intro w'
                go_simp
                with_reducible rfl
              rotate_left
              · simp only [Act.put, List.setIfInBounds_toArray, List.set_cons_zero, List.set_cons_succ, i64_w, i32_w]
                rfl
              refine take_ (i := 23) (N := some 173) (v := ?_) (a' := ?_) #[true, true, true, true, true, true, true, true, true, true, true, true, true, true, true, true, true, false, true, true, true, true, true, true, false, false, false, false, false] rfl rfl (by kernel_rfl) (fun _ _ _ h => h) (Or.inl ⟨by rfl, ?_⟩) hHeld ?_ ?_
              rotate_left
              · intro w' hS
                obtain ⟨x1, _, _⟩ := hS
                go_simp
                with_reducible rfl
              rotate_left
              · simp only [Act.put, List.setIfInBounds_toArray, List.set_cons_zero, List.set_cons_succ, i64_w, i32_w]
                rfl
              refine pure_ (i := 24) (N := some 174) (v := ?_) (a' := ?_) #[true, true, true, true, true, true, true, true, true, true, true, true, true, true, true, true, true, false, true, true, true, true, true, true, true, false, false, false, false] rfl rfl (by kernel_rfl) (fun _ _ _ h => h) (Or.inl ⟨by rfl, ?_⟩) ?_ ?_
              rotate_left
              · intro w'
                have i1 := HI1.out
                have i2 := HI2.out
                have i3 := HI3.out
                go_simp
                with_reducible rfl
              rotate_left
              · simp only [Act.put, List.setIfInBounds_toArray, List.set_cons_zero, List.set_cons_succ, i64_w, i32_w]
                rfl
              refine take_ (i := 25) (N := some 175) (v := .agg #[.int .i64 s.kind, .int .i64 s.fr, .int .i64 s.to, .int .u32 (s.life : Int), .int .u32 (s.seq : Int), .int .u32 (s.asked : Int), .int .u32 (s.boot : Int), .int .i64 s.code, .int .i64 s.err, .int .u32 (s.file : Int), .int .u32 (s.epoch : Int), .int .u32 (s.off : Int), .int .u32 (s.len : Int), .int .u32 (s.size : Int), .int .u32 (s.mode : Int), .int .u32 (s.deny : Int), .int .u32 (s.handle : Int), .string s.path, .string s.other, .string s.data]) (a' := ?_) #[true, true, true, true, true, true, true, true, true, true, true, true, true, true, true, true, true, false, true, true, true, true, true, true, true, true, false, false, false] rfl rfl (by kernel_rfl) (fun _ _ _ h => h) (yieldsIf_load_mid (by rfl) 27 (.tmp 174) rfl G (k * 20) rfl (pcells s) _ (fun w' hS => hS.2.2) Tryd.underlying27 rfl pk_info) hHeld ?_ ?_
              rotate_left
              · simp only [Act.put, List.setIfInBounds_toArray, List.set_cons_zero, List.set_cons_succ, i64_w, i32_w]
                rfl
              refine one_ (i := 17) (N := some 167) #[true, true, true, true, true, true, true, true, true, true, true, true, true, true, true, true, true, true, true, true, true, true, true, true, true, true, false, false, false] rfl rfl (by kernel_rfl) (by decide) (fun K hK => ?_)
              refine goes_ Tryd.func29 (by kernel_rfl) rfl #[.pointer (some ⟨p, 0, none⟩), .int .i64 (k : Int)] (by rfl) rfl rfl (by (try simp only [List.map_toArray, List.map_cons, List.map_nil]); first | done | rfl) ?_
              refine (HATC.out _ hTW.out).mono ?_
              rintro e wx ⟨rfl, rfl⟩
              refine ⟨_, rfl, ?_⟩
              refine hK.out _ _ ⟨HN26.out, HM26.out, HR26.out⟩ (fun hHeld => ?_)
              clear hK K
              refine norm_ (a' := ?_) ?_ ?_
              rotate_left
              · show Act.put _ (some 167) _ = _
                simp only [Act.put, List.setIfInBounds_toArray, List.set_cons_zero, List.set_cons_succ, i64_w, i32_w]
                rfl
              refine one_ (i := 26) (N := some 176) #[true, true, true, true, true, true, true, true, true, true, true, true, true, true, true, true, true, true, true, true, true, true, true, true, true, true, true, false, false] rfl rfl (by kernel_rfl) (by decide) (fun K hK => ?_)
              refine goes_ Tryd.func14 (by kernel_rfl) rfl #[.agg #[.int .i64 s.kind, .int .i64 s.fr, .int .i64 s.to, .int .u32 (s.life : Int), .int .u32 (s.seq : Int), .int .u32 (s.asked : Int), .int .u32 (s.boot : Int), .int .i64 s.code, .int .i64 s.err, .int .u32 (s.file : Int), .int .u32 (s.epoch : Int), .int .u32 (s.off : Int), .int .u32 (s.len : Int), .int .u32 (s.size : Int), .int .u32 (s.mode : Int), .int .u32 (s.deny : Int), .int .u32 (s.handle : Int), .string s.path, .string s.other, .string s.data]] (by rfl) rfl rfl (by (try simp only [List.map_toArray, List.map_cons, List.map_nil]); first | done | rfl) ?_
              refine (HBYC.out _).mono ?_
              rintro e wy ⟨rfl, hby⟩
              refine ⟨_, rfl, ?_⟩
              have HF := Lib.hid (hTW.out.below hby)
              have hn27 := (hby.cell (p := ⟨g, 1, none⟩) (hTW.out.xs g (by simp))).trans HN26.out
              have hm27 := below_old HM26.out hby
              have hr27 : wy.rangeAt G (k * 20) (pcells s) := fun j v hv => (hby.cell (p := ⟨G, _, none⟩) (World.block_lt_of_cell? _ _ (HR26.out j v hv))).trans (HR26.out j v hv)
              refine hK.out _ _ ⟨hn27, hm27, hr27⟩ (fun hHeld => ?_)
              clear hK K
              refine norm_ (a' := ?_) ?_ ?_
              rotate_left
              · show Act.put _ (some 176) _ = _
                simp only [Act.put, List.setIfInBounds_toArray, List.set_cons_zero, List.set_cons_succ, i64_w, i32_w]
                rfl
              refine pure_ (i := 27) (N := some 177) (v := ?_) (a' := ?_) #[true, true, true, true, true, true, true, true, true, true, true, true, true, true, true, true, true, true, true, true, true, true, true, true, true, true, true, true, false] rfl rfl (by kernel_rfl) (fun _ _ _ h => h) (Or.inl ⟨by rfl, ?_⟩) ?_ ?_
              rotate_left
              · intro w'
                go_simp
                with_reducible rfl
              rotate_left
              · simp only [Act.put, List.setIfInBounds_toArray, List.set_cons_zero, List.set_cons_succ, i64_w, i32_w]
                rfl
              refine pure_ (i := 28) (N := some 178) (v := ?_) (a' := ?_) #[true, true, true, true, true, true, true, true, true, true, true, true, true, true, true, true, true, true, true, true, true, true, true, true, true, true, true, true, true] rfl rfl (by kernel_rfl) (fun _ _ _ h => h) (Or.inl ⟨by rfl, ?_⟩) ?_ ?_
              rotate_left
              · intro w'
                go_simp
                with_reducible rfl
              rotate_left
              · simp only [Act.put, List.setIfInBounds_toArray, List.set_cons_zero, List.set_cons_succ, i64_w, i32_w]
                rfl
              refine done_ (by kernel_rfl) ?_
              clear hn27 hm27 hr27
              go_wp2
              go_roundg (300 - (j + 1))
              case rel => exact ⟨j + 1, L2, by go_num, by omega, by omega, by omega, Lib.hid (HF.out.less (by simp))⟩
              case measure => omega
          · as_aux_lemma =>
              have hat : atR L2 x.n = ⟨#[]⟩ := by rw [atR, if_neg hin]
              have HATC := Lib.hid (show ∀ W, Two w W p m L2 L2 [g] → Calls Tryd.prog 29 #[.pointer (some ⟨p, 0, none⟩), .int .i64 x.n] W fun r w' => r = .returned (.string ⟨#[]⟩) ∧ w' = W from fun W h => by
                have := two_at h x.n
                rw [hat] at this
                exact this)
              clear hat
              have e1 : (⟨#[]⟩ : ByteArray).toList = [] := by rw [ByteArray.toList_eq]
              obtain ⟨a, c, hm, _⟩ := H.out.struct
              obtain ⟨y0, f0⟩ := blk1 hm
              clear hm
              have hcase : x.n < 0 ∨ (¬ x.n < 0 ∧ (L2.length : Int) ≤ x.n) := by omega
              have h7 : decide ((0 : Int) ≤ x.n) = false ∨ decide ((0 : Int) ≤ x.n) = true := by cases decide ((0 : Int) ≤ x.n) <;> simp
              go_wp2_with fail
              go_quiet ((first | (go_at_call 28; exact Calls.quiet_of_same (two_len (H.out.drewN _))) | (go_at_call 29; exact Calls.quiet_of_same (HATC.out _ (H.out.drewN _)))))
              go_wp2_with fail
              have H2 := Lib.hid (H.out.drewN nq)
              rcases hcase with hc | ⟨hc, hc'⟩
              · have d1 : decide ((0 : Int) ≤ x.n) = false := decide_eq_false (by omega)
                go_quiet (fail)
                go_wp2
                go_roundg (300 - (j + 1))
                case rel => exact ⟨j + 1, L2, by go_num, by omega, by omega, by omega, Lib.hid ((H.out.drewN _).less (by simp))⟩
                case measure => omega
              · have d1 : decide ((0 : Int) ≤ x.n) = true := decide_eq_true (by omega)
                have d2 : decide (x.n < (L2.length : Int)) = false := decide_eq_false (by omega)
                go_quiet (fail)
                go_wp2
                go_roundg (300 - (j + 1))
                case rel => exact ⟨j + 1, L2, by go_num, by omega, by omega, by omega, Lib.hid ((H.out.drewN _).less (by simp))⟩
                case measure => omega
    · have hcc : (¬ j < l.length) ∨ (j < l.length ∧ ¬ j < 300) := by omega
      rcases hcc with h1 | ⟨h1, h2⟩
      all_goals
        go_wp2_with fail
        refine (nalive_calls _).mono ?_
        rintro e we ⟨rfl, hb⟩
        have HBE := Lib.hid (HB.out.below hb).bel
        clear hb
        go_wp2
        go_ret
        exact ⟨rfl, HBE.out⟩
theorem netPlays_walk (a0 : Option Addr) (len0 cap0 : Nat) (w : World) (w0 : Sees Tryd.prog w 140737488351232 5 40 [.slice a0 len0 cap0]) :
    Calls Tryd.prog 7 #[.slice a0 len0 cap0] w fun e w' => e = .returned (.bool true) ∧ Below w.heap.size w w' := by
  obtain ⟨l, rfl, hm, hA, hO⟩ := sees_acts (k := 0) (Nat.le_refl _) w0
  exact plays_law a0 cap0 l w hA hO (by unfold maxLen at hm; omega)
end Go.Proofs.YtiedmkgdhfkcoaaDoor.Net
