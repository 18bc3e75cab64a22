/- Layer lane: the walk of LaneOnce. -/
import Derived.Test.YtfacdadbebjebaaOnceE
namespace Go.Proofs.Ytfacdadbebjebaa.Once
open Go.RowKit Go.Own Go.Blk Go.OpsL Go.Sees Go.Proofs.Ytfacdadbebjebaa.PLaneOnce Go.Proofs.YtfacdadbebjebaaW.PrintWords
set_option linter.unusedVariables false
set_option linter.unusedSimpArgs false
set_option maxRecDepth 100000
theorem form_add {w : World} {v : Value} {l : List (Int × ByteArray)} {x : Int × ByteArray} (h : NR w v (l ++ [x])) : ∃ a c, v = .slice a (l.length + 1) c := by
  obtain ⟨a, c, e, _⟩ := part_form h
  exact ⟨a, c, by rw [e]; simp⟩
theorem form_addU {w : World} {v : Value} {l : List Int} {x : Int} (h : UR w v (l ++ [x])) : ∃ a c, v = .slice a (l.length + 1) c := by
  obtain ⟨a, c, e, _⟩ := part_form h
  exact ⟨a, c, by rw [e]; simp⟩
theorem run_two (w : World) (a b : Int) : (Instr.buildSlice 47 2 #[(0, .int .u8 a), (1, .int .u8 b)]).run Try.prog w = .ok (.slice (some ⟨w.heap.size, 0, none⟩) 2 2) (w.alloc (.cells #[.int .u8 a, .int .u8 b] 5)) := by kernel_rfl
theorem rep_cells (n : Int) (h : 0 ≤ n) : bcells (rep n) = [.int .u8 (n % 256), .int .u8 (n / 256 % 256)] := by
  have e1 : ((UInt8.ofNat n.toNat).toNat : Int) = n % 256 := by rw [UInt8.toNat_ofNat']; omega
  have e2 : ((UInt8.ofNat (n.toNat / 256)).toNat : Int) = n / 256 % 256 := by rw [UInt8.toNat_ofNat']; omega
  show [Value.int .u8 ((UInt8.ofNat n.toNat).toNat : Int), Value.int .u8 ((UInt8.ofNat (n.toNat / 256)).toNat : Int)] = _
  rw [e1, e2]
theorem conv_rep (w : World) (g : Nat) (n : Int) (h0 : 0 ≤ n) (h : w.heap[g]? = some (.cells #[.int .u8 (n % 256), .int .u8 (n / 256 % 256)] 5 (0, 0))) : (convert 47 9 (.slice (some ⟨g, 0, none⟩) 2 2)).run Try.prog w = .ok (.string (rep n)) w := by
  have := run_convert_row (P := Try.prog) w 47 5 9 Try.underlying47 Try.underlying5 Try.underlying9 g 5 [rep n] 2 (by intro b hb; rw [List.mem_singleton.1 hb]; rfl) (by simpa [rep_cells n h0] using h) 0 (by simp) 2
  simpa using this
theorem idx_of (n : Int) (m : Nat) (h0 : 0 < m) (h1 : m ≤ 1000) : ∃ k : Nat, k < m ∧ wrap64 ((IntKind.u64.wrap n).tmod (m : Int)) = (k : Int) := by
  have h2 : 0 ≤ IntKind.u64.wrap n := by rw [IntKind.wrap_u64]; omega
  have h3 : 0 ≤ IntKind.u64.wrap n % (m : Int) := Int.emod_nonneg _ (by omega)
  have h4 : IntKind.u64.wrap n % (m : Int) < m := Int.emod_lt_of_pos _ (by omega)
  refine ⟨(IntKind.u64.wrap n % (m : Int)).toNat, by omega, ?_⟩
  rw [Int.tmod_eq_emod_of_nonneg h2]
  unfold wrap64
  omega
set_option maxHeartbeats 64000000 in
theorem once_law (life0 : Int) (hl0 : 0 ≤ life0) (hl1 : life0 < 4294967296) (A : Option Addr) (ca : Nat) (l : List (Int × Int)) (w : World) (hA : ArrAt w A (fun x : Int × Int => [Value.int .i64 x.1, Value.int .i64 x.2]) 2 l) (ll : l.length ≤ 9223372036854775807) :
    Calls Try.prog 5 #[.int .u32 life0, .slice A l.length ca] w fun e w' => e = .returned (.bool true) ∧ Below w.heap.size w w' := by
  have HA := Lib.hid hA
  clear hA
  go_enter Try.func5, Try.ntmps5
  go_wp2_with fail
  refine (alive_calls _).mono ?_
  rintro e w1 ⟨rfl, hb⟩
  have HB1 := Lib.hid hb
  clear hb
  go_upto_if 27 with fail
  go_cut [0] (fun s0 wc => ∃ life : Int, s0 = .int .u32 life ∧ 1 ≤ life ∧ life < 4294967296 ∧ Hid (Below w.heap.size w wc))
  case first =>
    by_cases hz : life0 = 0
    · subst hz
      go_wp2
      go_meet
      case rel => exact ⟨1, rfl, by omega, by omega, HB1⟩
    · go_wp2
      go_meet
      case rel => exact ⟨life0, rfl, by omega, by omega, HB1⟩
  case rest =>
    obtain ⟨life, rfl, hf1, hf2, HB2⟩ := hcut
    clear HB1 hl0 hl1
    obtain ⟨w3, hr3, hp3, hb3⟩ := fresh_ln wc ⟨life, 3, 0, false, ⟨#[]⟩, 0, 0⟩
    obtain ⟨w4, hr4, hp4, hb4⟩ := fresh_se w3 ⟨0, 0, ⟨#[]⟩⟩
    have HST3 := Lib.hid hr3
    have HST4 := Lib.hid hr4
    have hlt3 := lt_of hp3
    have hs2 := HB2.out.size
    have hs3 := hb3.size
    have HS0 : Hid (St w w4 wc.heap.size w3.heap.size (.slice none 0 0) (.slice none 0 0) (.slice none 0 0) ⟨life, 3, 0, false, ⟨#[]⟩, 0, 0⟩ ⟨0, 0, ⟨#[]⟩⟩ [] [] [] []) := Lib.hid
      ⟨hp3.below hb4, hp4, part_of_own (World.ownsRow_nil ..), part_of_own (World.ownsRow_nil ..), part_of_own (World.ownsRow_nil ..), ⟨fun k => if k = wc.heap.size then 5 else 6, by simp, if_neg (by omega), fun k hk => by simp [Value.ownBlock] at hk, fun k hk => by simp [Value.ownBlock] at hk, fun k hk => by simp [Value.ownBlock] at hk, fun y hy => by simp at hy⟩, ⟨by omega, by omega, fun k hk => by simp [Value.ownBlock] at hk, fun k hk => by simp [Value.ownBlock] at hk, fun k hk => by simp [Value.ownBlock] at hk⟩, fun y hy => by simp at hy, (HB2.out.trans (hb3.mono hs2)).trans (hb4.mono (by omega))⟩
    clear hr3 hp3 hb3 hr4 hp4 hb4 hlt3 hs2 hs3
    obtain ⟨p5, hp5⟩ : ∃ p, wc.heap.size = p := ⟨_, rfl⟩
    obtain ⟨p6, hp6⟩ : ∃ p, w3.heap.size = p := ⟨_, rfl⟩
    have HP5 := Lib.hid hp5
    have HP6 := Lib.hid hp6
    rw [hp5, hp6] at HS0
    clear hp5 hp6
    go_wp2_with (first | ((with_reducible refine gate_store (p := 5) rfl ?_); refine wpList_none rfl rfl (execOp_store rfl rfl rfl HST3.out) ?_) | ((with_reducible refine gate_store (p := 6) rfl ?_); refine wpList_none rfl rfl (execOp_store rfl rfl rfl HST4.out) ?_))
    rw [HP5.out, HP6.out]
    clear HST3 HST4 HP5 HP6 HB2
    go_loopg [7, 8, 9, 10, 11] 200 (fun gg s7 s8 s9 s10 s11 wr => ∃ (j : Nat) (x : Ln) (se : Se) (asks ans : List (Int × ByteArray)) (dn : List Int) (heard : Int), s10 = .int .i64 heard ∧ s11 = .int .i64 j ∧ j ≤ l.length ∧ j ≤ 200 ∧ 200 - j ≤ gg ∧ asks.length ≤ j ∧ ans.length ≤ j ∧ dn.length ≤ j ∧ Hid (Inv life x se asks ans dn heard) ∧ Hid (St w wr p5 p6 s7 s8 s9 x se asks ans dn []))
    case atStart => exact ⟨0, _, _, [], [], [], 0, rfl, by simp, Nat.zero_le _, by omega, by omega, Nat.le_refl _, Nat.le_refl _, Nat.le_refl _, Lib.hid (Inv.begin life), HS0⟩
    case round =>
      clear HS0
      obtain ⟨wq, rfl⟩ : ∃ wq : World, wq = wr := ⟨_, rfl⟩
      obtain ⟨j, x, se, asks, ans, dn, heard, rfl, rfl, hj1, hj2, hjg, hn7, hn8, hn9, HI, HS⟩ := hrel
      obtain ⟨a7, c7, e7, _⟩ := part_form HS.out.r7
      obtain ⟨a8, c8, e8, _⟩ := part_form HS.out.r8
      obtain ⟨a9, c9, e9, _⟩ := part_form HS.out.r9
      subst e7
      subst e8
      subst e9
      by_cases hc2 : j < l.length ∧ j < 200
      · obtain ⟨hd1, hd2⟩ := hc2
        obtain ⟨blk, off, rfl, hbw, hcs0⟩ := HA.out j hd1
        obtain ⟨⟨kd, nn⟩, hx⟩ : ∃ x, l[j] = x := ⟨_, rfl⟩
        rw [hx] at hcs0
        have cc0 := (HS.out.bel.cell (p := ⟨blk, _, none⟩) hbw).trans (hcs0 0 _ rfl)
        have cc1 := (HS.out.bel.cell (p := ⟨blk, _, none⟩) hbw).trans (hcs0 1 _ rfl)
        simp only [Nat.add_zero] at cc0
        have hkd := (⟨Int.lt_tmod_of_pos kd (by decide), Int.tmod_lt_of_pos kd (by decide)⟩ : -4 < kd.tmod 4 ∧ kd.tmod 4 < 4)
        clear hcs0 hx
        by_cases k0 : kd.tmod 4 = 0
        · as_aux_lemma =>
            have y0 : (kd.tmod 4 == 0) = true := by rw [beq_iff_eq]; omega
            have y0' : (kd.tmod 4 = 0) = True := eq_true (by omega)
            clear k0
            have hbd : (x.q) ≤ 1000 := by have := HI.out.q_le; omega
            by_cases hx : x.out = true
            · skip
              have HK := Lib.hid (fun W => lane_Ask.calls x.life x.boot x.q x.out x.body x.left x.gap ⟨#[98, 111, 100, 121]⟩ 0 0 0 false ⟨#[]⟩ 0 0 21 W (ask_no x hx))
              have HX := Lib.hid hx
              clear hx
              go_wp2_with (first | ((with_reducible refine gate_dst (N := 50) rfl ?_); refine wpList_val rfl rfl (execOp_load rfl rfl HS.out.h5.load) ?_))
              refine (HK.out _).mono ?_
              rintro e w5 ⟨rfl, hb⟩
              obtain ⟨w6, hr6, hp6, hb6⟩ := fresh_ln w5 ⟨0, 0, 0, false, ⟨#[]⟩, 0, 0⟩
              have HST6 := Lib.hid hr6
              have HP6 := Lib.hid hp6
              have H6 := Lib.hid ((HS.out.below hb).below hb6)
              have hq := H6.out.h5.cells
              rw [HX.out] at hq
              obtain ⟨_, c3⟩ := hq
              clear hb hr6 hp6 hb6 HS
              go_wp2_with (first | ((with_reducible refine gate_store (p := 12) rfl ?_); refine wpList_none rfl rfl (execOp_store rfl rfl rfl HST6.out) ?_))
              go_roundg (200 - (j + 1))
              case rel => exact ⟨j + 1, x, se, asks, ans, dn, heard, by first | rfl | go_num, by go_num, by omega, by omega, by omega, by first | omega | (simp; omega), by first | omega | (simp; omega), by first | omega | (simp; omega), HI, Lib.hid H6.out.less⟩
              case measure => omega
            · replace hx : x.out = false := by simpa using hx
              have HK := Lib.hid (fun W => lane_Ask.calls x.life x.boot x.q x.out x.body x.left x.gap ⟨#[98, 111, 100, 121]⟩ x.life x.boot (x.q + 1) true ⟨#[98, 111, 100, 121]⟩ 1 1 0 W (ask_yes x hx HI.out.q0 hbd))
              have HIA := Lib.hid (HI.out.ask hx)
              have HX := Lib.hid hx
              clear hx
              go_wp2_with (first | ((with_reducible refine gate_dst (N := 50) rfl ?_); refine wpList_val rfl rfl (execOp_load rfl rfl HS.out.h5.load) ?_))
              refine (HK.out _).mono ?_
              rintro e w5 ⟨rfl, hb⟩
              obtain ⟨w6, hr6, hp6, hb6⟩ := fresh_ln w5 ⟨x.life, x.boot, x.q + 1, true, ⟨#[98, 111, 100, 121]⟩, 1, 1⟩
              have HST6 := Lib.hid hr6
              have HP6 := Lib.hid hp6
              have h6 := (HS.out.below hb).below hb6
              have hq := h6.h5.cells
              rw [HX.out] at hq
              obtain ⟨_, c3⟩ := hq
              obtain ⟨w7, hr7, hp7, hf7⟩ := h6.h5.store ⟨x.life, x.boot, x.q + 1, true, ⟨#[98, 111, 100, 121]⟩, 1, 1⟩
              have h7 := (h6.set5 hf7 hp7).1
              have HST7 := Lib.hid hr7
              obtain ⟨hbs, u8, w8, hr8, ho8, hf8, hw8⟩ := nadds w7 h7.r7 (x.q + 1, ⟨#[]⟩) (by omega)
              have H8 := Lib.hid (h7.set7 hf8 ho8 hw8).1
              have HBS := Lib.hid hbs
              have HR8 := Lib.hid hr8
              obtain ⟨cq, _⟩ := h7.h5.cells
              obtain ⟨aa, kk, e8⟩ := form_add ho8
              subst e8
              clear hb hr6 hp6 hb6 HS h6 h7 hr7 hp7 hf7 hbs hr8 ho8 hf8 hw8
              go_wp2_with (first | ((with_reducible refine gate_store (p := 12) rfl ?_); refine wpList_none rfl rfl (execOp_store rfl rfl rfl HST6.out) ?_) | ((with_reducible refine gate_dst (N := 61) rfl ?_); refine wpList_val rfl rfl (execOp_load rfl rfl HP6.out.load) ?_) | ((with_reducible refine gate_store (p := 5) rfl ?_); refine wpList_none rfl rfl (execOp_store rfl rfl rfl HST7.out) ?_) | ((with_reducible refine gate_dst (N := 66) rfl ?_); refine wpList_val rfl rfl (execOp_buildSlice (ps := #[(0, .agg #[.int .u32 (x.q + 1), .string ⟨#[]⟩])]) rfl rfl HBS.out) ?_; refine stop_here ?_))
              refine Lib.hid ?_
              go_wp2_with ((with_reducible refine gate_dst (N := 67) rfl ?_); refine wpList_val rfl rfl (execOp_append rfl rfl rfl HR8.out) ?_; refine stop_here ?_)
              refine Lib.hid ?_
              clear c3 cq
              go_wp2
              go_roundg (200 - (j + 1))
              case rel => exact ⟨j + 1, _, se, _, ans, dn, heard, by first | rfl | go_num, by go_num, by omega, by omega, by omega, by first | omega | (simp; omega), by first | omega | (simp; omega), by first | omega | (simp; omega), HIA, Lib.hid H8.out.less⟩
              case measure => omega
        by_cases k1 : kd.tmod 4 = 1
        · as_aux_lemma =>
            have n0 : (kd.tmod 4 == 0) = false := by rw [beq_eq_false_iff_ne]; omega
            have n0' : (kd.tmod 4 = 0) = False := eq_false (by omega)
            have y1 : (kd.tmod 4 == 1) = true := by rw [beq_iff_eq]; omega
            have y1' : (kd.tmod 4 = 1) = True := eq_true (by omega)
            clear k1
            obtain ⟨a, b, c, ht, hc⟩ := tick_all x
            have HK := Lib.hid (fun W => lane_Tick.calls x.life x.boot x.q x.out x.body x.left x.gap x.life x.boot x.q x.out x.body a b c W ht)
            have HC := Lib.hid hc
            clear ht hc
            go_wp2_with (first | ((with_reducible refine gate_dst (N := 71) rfl ?_); refine wpList_val rfl rfl (execOp_load rfl rfl HS.out.h5.load) ?_))
            refine (HK.out _).mono ?_
            rintro e w5 ⟨rfl, hb⟩
            obtain ⟨w6, hr6, hp6, hb6⟩ := fresh_ln w5 ⟨x.life, x.boot, x.q, x.out, x.body, a, b⟩
            have HST6 := Lib.hid hr6
            have HP6 := Lib.hid hp6
            have h6 := (HS.out.below hb).below hb6
            obtain ⟨w7, hr7, hp7, hf7⟩ := h6.h5.store ⟨x.life, x.boot, x.q, x.out, x.body, a, b⟩
            have H7 := Lib.hid (h6.set5 hf7 hp7).1
            have HST7 := Lib.hid hr7
            have HIT := Lib.hid (HI.out.tick a b)
            clear hb hr6 hp6 hb6 HS h6 hr7 hp7 hf7
            cases c with
            | false =>
              go_wp2_with (first | ((with_reducible refine gate_store (p := 14) rfl ?_); refine wpList_none rfl rfl (execOp_store rfl rfl rfl HST6.out) ?_) | ((with_reducible refine gate_dst (N := 75) rfl ?_); refine wpList_val rfl rfl (execOp_load rfl rfl HP6.out.load) ?_) | ((with_reducible refine gate_store (p := 5) rfl ?_); refine wpList_none rfl rfl (execOp_store rfl rfl rfl HST7.out) ?_))
              go_roundg (200 - (j + 1))
              case rel => exact ⟨j + 1, _, se, asks, ans, dn, heard, by first | rfl | go_num, by go_num, by omega, by omega, by omega, by first | omega | (simp; omega), by first | omega | (simp; omega), by first | omega | (simp; omega), HIT, Lib.hid H7.out.less⟩
              case measure => omega
            | true =>
              have HIA := Lib.hid (HIT.out.again (HC.out rfl))
              obtain ⟨hbs, u8, w8, hr8, ho8, hf8, hw8⟩ := nadds w7 H7.out.r7 (x.q, ⟨#[]⟩) (by omega)
              have H8 := Lib.hid (H7.out.set7 hf8 ho8 hw8).1
              have HBS := Lib.hid hbs
              have HR8 := Lib.hid hr8
              obtain ⟨cq, _⟩ := H7.out.h5.cells
              obtain ⟨aa, kk, e8⟩ := form_add ho8
              subst e8
              clear hbs hr8 ho8 hf8 hw8 H7
              go_wp2_with (first | ((with_reducible refine gate_store (p := 14) rfl ?_); refine wpList_none rfl rfl (execOp_store rfl rfl rfl HST6.out) ?_) | ((with_reducible refine gate_dst (N := 75) rfl ?_); refine wpList_val rfl rfl (execOp_load rfl rfl HP6.out.load) ?_) | ((with_reducible refine gate_store (p := 5) rfl ?_); refine wpList_none rfl rfl (execOp_store rfl rfl rfl HST7.out) ?_) | ((with_reducible refine gate_dst (N := 81) rfl ?_); refine wpList_val rfl rfl (execOp_buildSlice (ps := #[(0, .agg #[.int .u32 x.q, .string ⟨#[]⟩])]) rfl rfl HBS.out) ?_; refine stop_here ?_))
              refine Lib.hid ?_
              go_wp2_with ((with_reducible refine gate_dst (N := 82) rfl ?_); refine wpList_val rfl rfl (execOp_append rfl rfl rfl HR8.out) ?_; refine stop_here ?_)
              refine Lib.hid ?_
              clear cq
              go_wp2
              go_roundg (200 - (j + 1))
              case rel => exact ⟨j + 1, _, se, _, ans, dn, heard, by first | rfl | go_num, by go_num, by omega, by omega, by omega, by first | omega | (simp; omega), by first | omega | (simp; omega), by first | omega | (simp; omega), HIA, Lib.hid H8.out.less⟩
              case measure => omega
        by_cases k2 : kd.tmod 4 = 2
        · as_aux_lemma =>
            have n0 : (kd.tmod 4 == 0) = false := by rw [beq_eq_false_iff_ne]; omega
            have n0' : (kd.tmod 4 = 0) = False := eq_false (by omega)
            have n1 : (kd.tmod 4 == 1) = false := by rw [beq_eq_false_iff_ne]; omega
            have n1' : (kd.tmod 4 = 1) = False := eq_false (by omega)
            have y2 : (kd.tmod 4 == 2) = true := by rw [beq_iff_eq]; omega
            have y2' : (kd.tmod 4 = 2) = True := eq_true (by omega)
            clear k2
            by_cases he : asks.length = 0
            · obtain rfl := List.eq_nil_of_length_eq_zero he
              go_wp2
              go_roundg (200 - (j + 1))
              case rel => exact ⟨j + 1, x, se, [], ans, dn, heard, by first | rfl | go_num, by go_num, by omega, by omega, by omega, by first | omega | (simp; omega), by first | omega | (simp; omega), by first | omega | (simp; omega), HI, Lib.hid HS.out.less⟩
              case measure => omega
            · skip
              have he0 : ¬ (asks.length : Int) = 0 := by omega
              have he1 : IntKind.u64.wrap (asks.length : Int) = (asks.length : Int) := by rw [IntKind.wrap_u64]; omega
              obtain ⟨k, hk, hidx⟩ := idx_of nn asks.length (by omega) (by omega)
              have i1 : (k : Int) < (asks.length : Int) := by omega
              obtain ⟨G, cG, eG, hrG⟩ := nrow_get HS.out.r7 k hk
              cases eG
              obtain ⟨y, hy⟩ : ∃ y, asks[k] = y := ⟨_, rfl⟩
              rw [hy] at hrG
              have HY := Lib.hid (show y ∈ asks from hy ▸ List.getElem_mem hk)
              have HLN := Lib.hid (run_loadN wq G (k * 2) y hrG)
              clear hy hrG
              obtain ⟨w6, hr6, hp6, hb6⟩ := fresh_sn wq y
              have HST6 := Lib.hid hr6
              have HP6 := Lib.hid hp6
              have H6 := Lib.hid (HS.out.add hb6 (Nat.le_refl _) (lt_of hp6))
              obtain ⟨g, hg⟩ : ∃ g, wq.heap.size = g := ⟨_, rfl⟩
              rw [hg] at H6 HP6
              have HG := Lib.hid hg
              obtain ⟨c0, c1⟩ := HP6.out.cells
              clear hg hr6 hp6 hb6
              go_wp2_with (first | ((with_reducible refine gate_dst (N := 101) rfl ?_); refine wpList_val rfl rfl (execOp_load rfl rfl HLN.out) ?_) | ((with_reducible refine gate_store (p := 16) rfl ?_); refine wpList_none rfl rfl (execOp_store rfl rfl rfl HST6.out) ?_; refine stop_here ?_))
              refine Lib.hid ?_
              rw [HG.out]
              go_wp2_with ((with_reducible refine gate_dst (N := 109) rfl ?_); refine stop_here ?_)
              refine Lib.hid ?_
              refine wpList_val rfl rfl (execOp_buildSlice (ps := #[(0, .int .u8 (y.1 % 256)), (1, .int .u8 (y.1 / 256 % 256))]) rfl rfl (run_two _ _ _)) ?_
              have hb7 : Below w6.heap.size w6 (w6.alloc (.cells #[.int .u8 (y.1 % 256), .int .u8 (y.1 / 256 % 256)] 5)) := (Below.refl _ _).alloc (Nat.le_refl _) _
              have HAT := Lib.hid (alloc_at w6 (.cells #[.int .u8 (y.1 % 256), .int .u8 (y.1 / 256 % 256)] 5))
              have H7 := Lib.hid (H6.out.below hb7)
              have HP7 := Lib.hid (HP6.out.below hb7)
              obtain ⟨N7, hN7⟩ : ∃ N, w6.heap.size = N := ⟨_, rfl⟩
              rw [hN7] at HAT ⊢
              clear hN7 hb7
              generalize w6.alloc (.cells #[.int .u8 (y.1 % 256), .int .u8 (y.1 / 256 % 256)] 5) = w7 at HAT H7 HP7 ⊢
              have hy1 := HI.out.asks y HY.out
              have hq1 := HI.out.q_le
              have HCV := Lib.hid (conv_rep w7 N7 y.1 (by omega) HAT.out)
              clear H6 HP6 c0 c1 HLN HST6 HG HAT
              obtain ⟨c0, c1⟩ := HP7.out.cells
              go_wp2_with ((with_reducible refine gate_dst (N := 110) rfl ?_); refine wpList_val rfl rfl (execOp_convert rfl rfl HCV.out) ?_; refine stop_here ?_)
              refine Lib.hid ?_
              go_wp2_with (first | ((with_reducible refine gate_dst (N := 111) rfl ?_); refine wpList_val rfl rfl (execOp_load rfl rfl H7.out.h6.load) ?_))
              have hcase : y.1 = dn.length + 1 ∨ y.1 = dn.length ∨ y.1 < dn.length := by omega
              rcases hcase with hc | hc | hc
              · have HJ := Lib.hid (fun W => lane_Judge.calls 3 se.life se.seq se.reply life y.1 1 W (judge_new HI.out hf1 hc (by omega)))
                have HDO := Lib.hid (fun W => lane_Done.calls 3 se.life se.seq se.reply life y.1 (rep y.1) life y.1 (rep y.1) W (done_new HI.out hf1 hc (by omega) _))
                have HIN := Lib.hid (HI.out.new hc hy1.2)
                clear hc
                refine (HJ.out _).mono ?_
                rintro e w8 ⟨rfl, hb8⟩
                have h8 := H7.out.below hb8
                have hp8 := HP7.out.below hb8
                obtain ⟨hbs, u9, w9, hr9, ho9, hf9, hw9⟩ := uadds w8 h8.r9 y.1 (by omega)
                have h9 := h8.set9 hf9 ho9 hw9
                have H9 := Lib.hid h9.1
                have HP9 := Lib.hid (show NAt w9 g y from (h9.2 g (by simp)).trans hp8)
                have HBS := Lib.hid hbs
                have HR9 := Lib.hid hr9
                obtain ⟨aa, kk, e8⟩ := form_addU ho9
                subst e8
                clear c0 c1
                obtain ⟨c0, c1⟩ := hp8.cells
                clear hb8 h8 hp8 hbs hr9 ho9 hf9 hw9 h9 H7 HP7
                go_wp2_with ((with_reducible refine gate_dst (N := 121) rfl ?_); refine wpList_val rfl rfl (execOp_buildSlice (ps := #[(0, .int .u32 y.1)]) rfl rfl HBS.out) ?_; refine stop_here ?_)
                refine Lib.hid ?_
                go_wp2_with ((with_reducible refine gate_dst (N := 122) rfl ?_); refine wpList_val rfl rfl (execOp_append rfl rfl rfl HR9.out) ?_; refine stop_here ?_)
                refine Lib.hid ?_
                clear c0 c1 HBS HR9
                obtain ⟨c0, c1⟩ := HP9.out.cells
                go_wp2_with (first | ((with_reducible refine gate_dst (N := 123) rfl ?_); refine wpList_val rfl rfl (execOp_load rfl rfl H9.out.h6.load) ?_))
                refine (HDO.out _).mono ?_
                rintro e w10 ⟨rfl, hb10⟩
                have h10 := H9.out.below hb10
                have hp10 := HP9.out.below hb10
                obtain ⟨w11, hr11, hp11, hf11⟩ := h10.h6.store ⟨life, y.1, rep y.1⟩
                have h11 := h10.set6 hf11 hp11
                have hq11 : NAt w11 g y := (h11.2 g (by simp)).trans hp10
                have HST11 := Lib.hid hr11
                obtain ⟨hbs, u12, w12, hr12, ho12, hf12, hw12⟩ := nadds w11 h11.1.r8 (y.1, rep y.1) (by omega)
                have H12 := Lib.hid (h11.1.set8 hf12 ho12 hw12).1
                have HBS := Lib.hid hbs
                have HR12 := Lib.hid hr12
                obtain ⟨ab, kb, e8⟩ := form_add ho12
                subst e8
                clear c0 c1
                obtain ⟨c0, c1⟩ := hq11.cells
                have c2 := h11.1.h6.cells
                clear hb10 h10 hp10 hr11 hp11 hf11 h11 hq11 hbs hr12 ho12 hf12 hw12 H9 HP9
                go_wp2_with (first | ((with_reducible refine gate_store (p := 6) rfl ?_); refine wpList_none rfl rfl (execOp_store rfl rfl rfl HST11.out) ?_) | ((with_reducible refine gate_dst (N := 141) rfl ?_); refine wpList_val rfl rfl (execOp_buildSlice (ps := #[(0, .agg #[.int .u32 y.1, .string (rep y.1)])]) rfl rfl HBS.out) ?_; refine stop_here ?_))
                refine Lib.hid ?_
                go_wp2_with ((with_reducible refine gate_dst (N := 142) rfl ?_); refine wpList_val rfl rfl (execOp_append rfl rfl rfl HR12.out) ?_; refine stop_here ?_)
                refine Lib.hid ?_
                go_wp2
                go_roundg (200 - (j + 1))
                case rel => exact ⟨j + 1, x, _, asks, _, _, heard, by first | rfl | go_num, by go_num, by omega, by omega, by omega, by first | omega | (simp; omega), by first | omega | (simp; omega), by first | omega | (simp; omega), HIN, Lib.hid H12.out.less⟩
                case measure => omega
              · have HJ := Lib.hid (fun W => lane_Judge.calls 3 se.life se.seq se.reply life y.1 2 W (judge_again HI.out hf1 hc hy1.1))
                have HIN := Lib.hid (HI.out.same (by omega))
                have HCD := Lib.hid hc
                clear hc
                refine (HJ.out _).mono ?_
                rintro e w8 ⟨rfl, hb8⟩
                have h8 := H7.out.below hb8
                have hp8 := HP7.out.below hb8
                obtain ⟨hbs, u9, w9, hr9, ho9, hf9, hw9⟩ := nadds w8 h8.r8 (y.1, se.reply) (by omega)
                have H9 := Lib.hid (h8.set8 hf9 ho9 hw9).1
                have HBS := Lib.hid hbs
                have HR9 := Lib.hid hr9
                obtain ⟨aa, kk, e8⟩ := form_add ho9
                subst e8
                clear c0 c1
                obtain ⟨c0, c1⟩ := hp8.cells
                have c2 := h8.h6.cells
                clear hb8 h8 hp8 hbs hr9 ho9 hf9 hw9 H7 HP7
                go_wp2_with ((with_reducible refine gate_dst (N := 141) rfl ?_); refine wpList_val rfl rfl (execOp_buildSlice (ps := #[(0, .agg #[.int .u32 y.1, .string se.reply])]) rfl rfl HBS.out) ?_; refine stop_here ?_)
                refine Lib.hid ?_
                go_wp2_with ((with_reducible refine gate_dst (N := 142) rfl ?_); refine wpList_val rfl rfl (execOp_append rfl rfl rfl HR9.out) ?_; refine stop_here ?_)
                refine Lib.hid ?_
                go_wp2
                go_roundg (200 - (j + 1))
                case rel => exact ⟨j + 1, x, se, asks, _, dn, heard, by first | rfl | go_num, by go_num, by omega, by omega, by omega, by first | omega | (simp; omega), by first | omega | (simp; omega), by first | omega | (simp; omega), (by rw [HCD.out]; exact HIN), Lib.hid H9.out.less⟩
                case measure => omega
              · have HJ := Lib.hid (fun W => lane_Judge.calls 3 se.life se.seq se.reply life y.1 3 W (judge_old HI.out hf1 hc hy1.1))
                clear hc
                refine (HJ.out _).mono ?_
                rintro e w8 ⟨rfl, hb8⟩
                have H8 := Lib.hid (H7.out.below hb8)
                clear hb8
                go_wp2
                go_roundg (200 - (j + 1))
                case rel => exact ⟨j + 1, x, se, asks, ans, dn, heard, by first | rfl | go_num, by go_num, by omega, by omega, by omega, by first | omega | (simp; omega), by first | omega | (simp; omega), by first | omega | (simp; omega), HI, Lib.hid H8.out.less⟩
                case measure => omega
        by_cases k3 : kd.tmod 4 = 3
        · as_aux_lemma =>
            have n0 : (kd.tmod 4 == 0) = false := by rw [beq_eq_false_iff_ne]; omega
            have n0' : (kd.tmod 4 = 0) = False := eq_false (by omega)
            have n1 : (kd.tmod 4 == 1) = false := by rw [beq_eq_false_iff_ne]; omega
            have n1' : (kd.tmod 4 = 1) = False := eq_false (by omega)
            have n2 : (kd.tmod 4 == 2) = false := by rw [beq_eq_false_iff_ne]; omega
            have n2' : (kd.tmod 4 = 2) = False := eq_false (by omega)
            have y3 : (kd.tmod 4 == 3) = true := by rw [beq_iff_eq]; omega
            have y3' : (kd.tmod 4 = 3) = True := eq_true (by omega)
            clear k3
            by_cases he : ans.length = 0
            · obtain rfl := List.eq_nil_of_length_eq_zero he
              go_wp2
              go_roundg (200 - (j + 1))
              case rel => exact ⟨j + 1, x, se, asks, [], dn, heard, by first | rfl | go_num, by go_num, by omega, by omega, by omega, by first | omega | (simp; omega), by first | omega | (simp; omega), by first | omega | (simp; omega), HI, Lib.hid HS.out.less⟩
              case measure => omega
            · skip
              have he0 : ¬ (ans.length : Int) = 0 := by omega
              have he1 : IntKind.u64.wrap (ans.length : Int) = (ans.length : Int) := by rw [IntKind.wrap_u64]; omega
              obtain ⟨k, hk, hidx⟩ := idx_of nn ans.length (by omega) (by omega)
              have i1 : (k : Int) < (ans.length : Int) := by omega
              obtain ⟨G, cG, eG, hrG⟩ := nrow_get HS.out.r8 k hk
              cases eG
              obtain ⟨y, hy⟩ : ∃ y, ans[k] = y := ⟨_, rfl⟩
              rw [hy] at hrG
              have HY := Lib.hid (show y ∈ ans from hy ▸ List.getElem_mem hk)
              have HLN := Lib.hid (run_loadN wq G (k * 2) y hrG)
              clear hy hrG
              obtain ⟨w6, hr6, hp6, hb6⟩ := fresh_sn wq y
              have HST6 := Lib.hid hr6
              have HP6 := Lib.hid hp6
              have h6 := HS.out.add hb6 (Nat.le_refl _) (lt_of hp6)
              obtain ⟨w7, hr7, hp7, hb7⟩ := fresh_ln w6 x
              have H8 := Lib.hid (h6.add hb7 (Nat.le_refl _) (lt_of hp7))
              have HP8 := Lib.hid (hp6.below hb7)
              have HX8 := Lib.hid hp7
              have HST7 := Lib.hid hr7
              have HL6 := Lib.hid h6.h5.load
              obtain ⟨g, hg⟩ : ∃ g, wq.heap.size = g := ⟨_, rfl⟩
              obtain ⟨gx, hgx⟩ : ∃ g, w6.heap.size = g := ⟨_, rfl⟩
              rw [hg, hgx] at H8
              rw [hg] at HP8
              rw [hgx] at HX8
              have HG := Lib.hid hg
              have HGX := Lib.hid hgx
              clear hg hgx hr6 hp6 hb6 h6 hr7 hp7 hb7
              go_wp2_with (first | ((with_reducible refine gate_dst (N := 163) rfl ?_); refine wpList_val rfl rfl (execOp_load rfl rfl HLN.out) ?_) | ((with_reducible refine gate_store (p := 19) rfl ?_); refine wpList_none rfl rfl (execOp_store rfl rfl rfl HST6.out) ?_) | ((with_reducible refine gate_dst (N := 164) rfl ?_); refine wpList_val rfl rfl (execOp_load rfl rfl HL6.out) ?_) | ((with_reducible refine gate_store (p := 20) rfl ?_); refine wpList_none rfl rfl (execOp_store rfl rfl rfl HST7.out) ?_; refine stop_here ?_))
              refine Lib.hid ?_
              rw [HG.out, HGX.out]
              clear HLN HST6 HL6 HST7 HG HGX
              obtain ⟨c0, c1⟩ := HP8.out.cells
              go_wp2_with (first | ((with_reducible refine gate_dst (N := 166) rfl ?_); refine wpList_val rfl rfl (execOp_load rfl rfl H8.out.h5.load) ?_))
              clear c0 c1
              have hya := HI.out.ans y HY.out
              by_cases hh : x.out = true ∧ y.1 = x.q
              · obtain ⟨hx, hq⟩ := hh
                have hkq : x.q ≤ dn.length := by have := hya.2.1; omega
                have HIH := Lib.hid (HI.out.hear hx hkq)
                have hyr : y.2 = rep x.q := by rw [hya.2.2, hq]
                have HK := Lib.hid (fun W => lane_Hear.calls 3 x.life x.boot x.q x.out x.body x.left x.gap life 3 3 y.1 x.life x.boot x.q false ⟨#[]⟩ 0 0 1 W (by rw [hq]; have h0 := hear_yes x HI.out.bf hx; rw [HI.out.lf] at h0; rw [HI.out.lf]; exact h0))
                have hql : x.q ≤ 1000 := by have := HI.out.q_le; omega
                have hq0 := HI.out.q0
                refine (HK.out _).mono ?_
                rintro e w9 ⟨rfl, hb9⟩
                obtain ⟨w10, hr10, hp10, hb10⟩ := fresh_ln w9 ⟨x.life, x.boot, x.q, false, ⟨#[]⟩, 0, 0⟩
                have HST10 := Lib.hid hr10
                have HP10 := Lib.hid hp10
                have h10 := (H8.out.below hb9).below hb10
                have hp10y := (HP8.out.below hb9).below hb10
                have hx10 := (HX8.out.below hb9).below hb10
                obtain ⟨w11, hr11, hp11, hf11⟩ := h10.h5.store ⟨x.life, x.boot, x.q, false, ⟨#[]⟩, 0, 0⟩
                have h11 := h10.set5 hf11 hp11
                have H11 := Lib.hid h11.1
                have HY11 := Lib.hid (show NAt w11 g y from (h11.2 g (by simp)).trans hp10y)
                have HX11 := Lib.hid (show LAt w11 gx x from (h11.2 gx (by simp)).trans hx10)
                have HST11 := Lib.hid hr11
                clear hb9 hr10 hp10 hb10 h10 hp10y hx10 hr11 hp11 hf11 h11 H8 HP8 HX8
                obtain ⟨c0, c1⟩ := HY11.out.cells
                obtain ⟨d2, d3⟩ := HX11.out.cells
                obtain ⟨f2, f3⟩ := H11.out.h5.cells
                rw [hq] at c0
                rw [hyr] at c1
                rw [hx] at d3
                have hw1 : wrap64 (heard + 1) = heard + 1 := by have := HI.out.h0; have := HI.out.h1; unfold wrap64; omega
                have HQ0 := Lib.hid hq0
                clear hx hq hkq hyr hya hql hq0
                go_wp2_with (first | ((with_reducible refine gate_store (p := 21) rfl ?_); refine wpList_none rfl rfl (execOp_store rfl rfl rfl HST10.out) ?_) | ((with_reducible refine gate_dst (N := 173) rfl ?_); refine wpList_val rfl rfl (execOp_load rfl rfl HP10.out.load) ?_) | ((with_reducible refine gate_store (p := 5) rfl ?_); refine wpList_none rfl rfl (execOp_store rfl rfl rfl HST11.out) ?_) | ((with_reducible refine gate_dst (N := 193) rfl ?_); (refine gate_guard (by first | rfl | kernel_rfl) ?_; dsimp only); refine stop_here ?_))
                refine Lib.hid ?_
                refine wpList_val rfl rfl (execOp_buildSlice (ps := #[(0, .int .u8 (x.q % 256)), (1, .int .u8 (x.q / 256 % 256))]) rfl rfl (run_two _ _ _)) ?_
                have hb12 : Below w11.heap.size w11 (w11.alloc (.cells #[.int .u8 (x.q % 256), .int .u8 (x.q / 256 % 256)] 5)) := (Below.refl _ _).alloc (Nat.le_refl _) _
                have HAT := Lib.hid (alloc_at w11 (.cells #[.int .u8 (x.q % 256), .int .u8 (x.q / 256 % 256)] 5))
                have H12 := Lib.hid (H11.out.below hb12)
                have d3' := (hb12.cell (p := ⟨gx, 3, none⟩) (lt_of HX11.out)).trans d3
                obtain ⟨N7, hN7⟩ : ∃ N, w11.heap.size = N := ⟨_, rfl⟩
                rw [hN7] at HAT ⊢
                clear hN7 hb12 c0 c1 d2 d3 f2 f3
                generalize w11.alloc (.cells #[.int .u8 (x.q % 256), .int .u8 (x.q / 256 % 256)] 5) = w12 at HAT H12 d3' ⊢
                have HCV := Lib.hid (conv_rep w12 N7 x.q HQ0.out HAT.out)
                obtain ⟨f2, f3⟩ := H12.out.h5.cells
                go_wp2_with ((with_reducible refine gate_dst (N := 194) rfl ?_); (refine gate_guard (by first | rfl | kernel_rfl) ?_; dsimp only); refine wpList_val rfl rfl (execOp_convert rfl rfl HCV.out) ?_; refine stop_here ?_)
                refine Lib.hid ?_
                go_wp2
                go_roundg (200 - (j + 1))
                case rel => exact ⟨j + 1, _, se, asks, ans, dn, _, by first | rfl | go_num, by go_num, by omega, by omega, by omega, by first | omega | (simp; omega), by first | omega | (simp; omega), by first | omega | (simp; omega), HIH, Lib.hid H12.out.less⟩
                case measure => omega
              · skip
                have HK := Lib.hid (fun W => lane_Hear.calls 3 x.life x.boot x.q x.out x.body x.left x.gap life 3 3 y.1 x.life x.boot x.q x.out x.body x.left x.gap 0 W (by have h0 := (hear_no x HI.out.bf y.1 (by by_cases h : x.out = true; exact .inr (fun e => hh ⟨h, e⟩); exact .inl (by simpa using h))); rw [HI.out.lf] at h0; rw [HI.out.lf]; exact h0))
                clear hh
                refine (HK.out _).mono ?_
                rintro e w9 ⟨rfl, hb9⟩
                obtain ⟨w10, hr10, hp10, hb10⟩ := fresh_ln w9 x
                have HST10 := Lib.hid hr10
                have HP10 := Lib.hid hp10
                have h10 := (H8.out.below hb9).below hb10
                have hp10y := (HP8.out.below hb9).below hb10
                have hx10 := (HX8.out.below hb9).below hb10
                obtain ⟨w11, hr11, hp11, hf11⟩ := h10.h5.store x
                have h11 := h10.set5 hf11 hp11
                have H11 := Lib.hid h11.1
                have HY11 := Lib.hid (show NAt w11 g y from (h11.2 g (by simp)).trans hp10y)
                have HX11 := Lib.hid (show LAt w11 gx x from (h11.2 gx (by simp)).trans hx10)
                have HST11 := Lib.hid hr11
                clear hb9 hr10 hp10 hb10 h10 hp10y hx10 hr11 hp11 hf11 h11 H8 HP8 HX8
                obtain ⟨c0, c1⟩ := HY11.out.cells
                obtain ⟨d2, d3⟩ := HX11.out.cells
                obtain ⟨f2, f3⟩ := H11.out.h5.cells
                go_wp2_with (first | ((with_reducible refine gate_store (p := 21) rfl ?_); refine wpList_none rfl rfl (execOp_store rfl rfl rfl HST10.out) ?_) | ((with_reducible refine gate_dst (N := 173) rfl ?_); refine wpList_val rfl rfl (execOp_load rfl rfl HP10.out.load) ?_) | ((with_reducible refine gate_store (p := 5) rfl ?_); refine wpList_none rfl rfl (execOp_store rfl rfl rfl HST11.out) ?_) | ((with_reducible refine gate_dst (N := 209) rfl ?_); (refine gate_guard (by first | rfl | kernel_rfl) ?_; dsimp only); refine wpList_val rfl rfl (execOp_load rfl rfl H11.out.h5.load) ?_) | ((with_reducible refine gate_dst (N := 210) rfl ?_); (refine gate_guard (by first | rfl | kernel_rfl) ?_; dsimp only); refine wpList_val rfl rfl (execOp_load rfl rfl HX11.out.load) ?_) | ((with_reducible refine gate_dst (N := 211) rfl ?_); (refine gate_guard (by first | rfl | kernel_rfl) ?_; dsimp only); refine wpList_val rfl rfl (execOp_neq (x := x) rfl rfl rfl) ?_))
                go_roundg (200 - (j + 1))
                case rel => exact ⟨j + 1, x, se, asks, ans, dn, heard, by first | rfl | go_num, by go_num, by omega, by omega, by omega, by first | omega | (simp; omega), by first | omega | (simp; omega), by first | omega | (simp; omega), HI, Lib.hid H11.out.less⟩
                case measure => omega
        have n0 : (kd.tmod 4 == 0) = false := by rw [beq_eq_false_iff_ne]; omega
        have n0' : (kd.tmod 4 = 0) = False := eq_false (by omega)
        have n1 : (kd.tmod 4 == 1) = false := by rw [beq_eq_false_iff_ne]; omega
        have n1' : (kd.tmod 4 = 1) = False := eq_false (by omega)
        have n2 : (kd.tmod 4 == 2) = false := by rw [beq_eq_false_iff_ne]; omega
        have n2' : (kd.tmod 4 = 2) = False := eq_false (by omega)
        have n3 : (kd.tmod 4 == 3) = false := by rw [beq_eq_false_iff_ne]; omega
        have n3' : (kd.tmod 4 = 3) = False := eq_false (by omega)
        go_wp2
        go_roundg (200 - (j + 1))
        case rel => exact ⟨j + 1, x, se, asks, ans, dn, heard, by first | rfl | go_num, by go_num, by omega, by omega, by omega, by first | omega | (simp; omega), by first | omega | (simp; omega), by first | omega | (simp; omega), HI, Lib.hid HS.out.less⟩
        case measure => omega
      · have hcc : (¬ j < l.length) ∨ (j < l.length ∧ ¬ j < 200) := by omega
        rcases hcc with h1 | ⟨h1, h2⟩
        all_goals
          go_wp2_with fail
          go_loopw [23] (fun s23 wz => ∃ i : Nat, i ≤ dn.length ∧ s23 = .int .i64 i ∧ Hid (wz = wq)) (fun s23 _ => dn.length - (intOf s23).toNat)
          case atStart => exact ⟨0, Nat.zero_le _, by simp, Lib.hid rfl⟩
          case round =>
            obtain ⟨i, hi, rfl, hw⟩ := hrel
            obtain rfl := hw.out
            clear hw
            by_cases hlt : i < dn.length
            · obtain ⟨G, c', e1, hcell⟩ := urow_get HS.out.r9 i hlt
              cases e1
              rw [HI.out.dn i hlt] at hcell
              have i2 : ((i : Int) < (dn.length : Int)) := by omega
              have i3 : ((i : Int) + 1) % 4294967296 = (i : Int) + 1 := by omega
              have i4 : i ≤ 200 := by omega
              go_wp2
              go_roundw
              case rel => exact ⟨i + 1, by omega, by go_num, by first | exact Lib.hid rfl | exact Lib.hid trivial⟩
              case measure => simp [intOf]; omega
            · have i2 : ¬ ((i : Int) < (dn.length : Int)) := by omega
              have i3 : ((dn.length : Int) ≤ (i : Int)) := by omega
              go_wp2_with fail
              refine (alive_calls _).mono ?_
              rintro e we ⟨rfl, hb⟩
              have HE := Lib.hid (HS.out.below hb)
              obtain ⟨f2, f3⟩ := HE.out.h5.cells
              have k1 : heard ≤ (dn.length : Int) := by
                cases hx : x.out with
                | true => have := HI.out.h2 hx; have := HI.out.on hx; omega
                | false => have := HI.out.h1; have := HI.out.off hx; omega
              have k2 : (dn.length : Int) ≤ x.q := HI.out.k_le
              have k3 : (dn.length : Int) % 4294967296 = (dn.length : Int) := by omega
              clear hb
              go_wp2
              go_ret
              exact ⟨rfl, HE.out.bel⟩
end Go.Proofs.Ytfacdadbebjebaa.Once
namespace Go.Proofs.Ytfacdadbebjebaa.laneOnce
open Go.RowKit Go.Own Go.Blk Go.OpsL Go.Sees Go.Proofs.Ytfacdadbebjebaa.Once Go.Proofs.Ytfacdadbebjebaa.PLaneOnce Go.Proofs.YtfacdadbebjebaaW.PrintWords
theorem laneOnce_walk (a0 : Int) (a1 : Option Addr) (len1 cap1 : Nat) (w : World) (w0 : (Lit.int .u32 a0).wf = true) (w1 : Sees Try.prog w 140737488351232 5 34 [.slice a1 len1 cap1]) :
    Calls Try.prog 5 #[.int .u32 a0, .slice a1 len1 cap1] w fun e w' => e = .returned (.bool true) ∧ Below w.heap.size w w' := by
  obtain ⟨l, rfl, hm, hA, _⟩ := sees_acts (k := 2) (Nat.le_refl _) w1
  have hb := bounds_u32 w0
  exact once_law a0 hb.1 (by have := hb.2; omega) a1 cap1 l w hA (by unfold maxLen at hm; omega)
end Go.Proofs.Ytfacdadbebjebaa.laneOnce
