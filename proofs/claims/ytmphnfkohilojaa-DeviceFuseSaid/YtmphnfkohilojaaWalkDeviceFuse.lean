/- Layer device: a fuse lets just so many writes and barriers be done, and then nothing is, till a crash. -/
import Derived.Test.YtmphnfkohilojaaWalkDeviceLast
namespace Go.Proofs.Ytmphnfkohilojaa.Dev
open Go.RowKit Go.Own Go.DevL Go.Blk Go.Sees Go.Proofs.YtmphnfkohilojaaW.PrintLast Go.Proofs.YtmphnfkohilojaaW.PrintWords
set_option linter.unusedVariables false
set_option linter.unusedSimpArgs false
set_option maxRecDepth 100000
/-- A device of four blocks behind i steps of a fuse of n. -/
structure Fused (n i : Nat) (d : Dv) : Prop where
  len : d.firm.length = 4
  lit : i ≤ n → d.fuse = (n : Int) - i ∧ d.dead = false
  out : n < i → d.fuse = 0 ∧ d.dead = true
def ans (n i : Nat) : Int := if i < n then 0 else 5
theorem Fused.write {n i : Nat} {d : Dv} (h : Fused n i d) (k : Nat) (hk : k < 4) (b : ByteArray) (hb : b.size = 256) : (d.write k b).1 = ans n i ∧ Fused n (i + 1) (d.write k b).2 := by
  unfold Dv.write ans
  have hg : d.bad (k : Int) = false := by
    unfold Dv.bad
    rw [h.len, Bool.or_eq_false_iff, decide_eq_false_iff_not, decide_eq_false_iff_not]; omega
  rw [if_neg (by rw [hg, hb]; simp)]
  by_cases hi : i < n
  · obtain ⟨h1, h2⟩ := h.lit (by omega)
    rw [if_pos hi, if_neg (by unfold Dv.burns; rw [h1, h2, Bool.false_or, beq_iff_eq]; omega)]
    refine ⟨rfl, ⟨h.len, fun _ => ⟨?_, h2⟩, fun _ => by omega⟩⟩
    show less d.fuse = _
    unfold less
    rw [h1, if_pos (by omega)]; omega
  · have hbu : d.burns = true := by
      unfold Dv.burns
      by_cases he : i = n
      · obtain ⟨h1, h2⟩ := h.lit (by omega)
        rw [h1, Bool.or_eq_true, beq_iff_eq]; right; omega
      · rw [(h.out (by omega)).2]; rfl
    rw [if_neg hi, if_pos hbu]
    refine ⟨rfl, ⟨h.len, fun _ => by omega, fun _ => ⟨?_, rfl⟩⟩⟩
    show d.fuse = 0
    by_cases he : i = n
    · rw [(h.lit (by omega)).1]; omega
    · exact (h.out (by omega)).1
theorem Fused.barrier {n i : Nat} {d : Dv} (h : Fused n i d) : d.barrier.1 = ans n i ∧ Fused n (i + 1) d.barrier.2 := by
  unfold Dv.barrier ans
  by_cases hi : i < n
  · obtain ⟨h1, h2⟩ := h.lit (by omega)
    rw [if_pos hi, if_neg (by unfold Dv.burns; rw [h1, h2, Bool.false_or, beq_iff_eq]; omega)]
    refine ⟨rfl, ⟨(length_puts _ _).trans h.len, fun _ => ⟨?_, h2⟩, fun _ => by omega⟩⟩
    show less d.fuse = _
    unfold less
    rw [h1, if_pos (by omega)]; omega
  · have hbu : d.burns = true := by
      unfold Dv.burns
      by_cases he : i = n
      · obtain ⟨h1, h2⟩ := h.lit (by omega)
        rw [h1, Bool.or_eq_true, beq_iff_eq]; right; omega
      · rw [(h.out (by omega)).2]; rfl
    rw [if_neg hi, if_pos hbu]
    refine ⟨rfl, ⟨h.len, fun _ => by omega, fun _ => ⟨?_, rfl⟩⟩⟩
    show d.fuse = 0
    by_cases he : i = n
    · rw [(h.lit (by omega)).1]; omega
    · exact (h.out (by omega)).1
theorem fresh_fused (n : Nat) : Fused n 0 ((fresh 4).light n) where
  len := rfl
  lit _ := by
    refine ⟨?_, rfl⟩
    show (if (n : Int) < -1 then (-1 : Int) else n) = (n : Int) - (0 : Nat)
    rw [if_neg (by omega)]; omega
  out h := by omega
theorem Fused.dead {n i : Nat} {d : Dv} (h : Fused n (i + 1) d) : d.dead = decide (n ≤ i) := by
  by_cases hi : n ≤ i
  · rw [(h.out (by omega)).2, decide_eq_true hi]
  · rw [(h.lit (by omega)).2, decide_eq_false hi]
set_option maxHeartbeats 8000000 in
theorem fuse_law (A : Option Addr) (ca : Nat) (n : UInt8) (l : List SAct) (keep : Int) (hk0 : 0 ≤ keep) (hk1 : keep < 18446744073709551616) (w : World) (hA : ArrAt w A acells 4 l) (hl : ∀ x ∈ l, x.OK) (ll : l.length ≤ 9223372036854775807) :
    Calls Try.prog 5 #[.int .u8 (n.toNat : Int), .slice A l.length ca, .int .u64 keep] w fun e w' => e = .returned (.bool true) ∧ Below w.heap.size w w' := by
  have HA := Lib.hid hA
  have HOl := Lib.hid hl
  have HBL := Lib.hid (show ∀ (b : UInt8) W, Calls Try.prog 11 #[.int .u8 (b.toNat : Int), .int .i64 256] W fun e w' => e = .returned (.string (rep8 b 256)) ∧ Below W.heap.size W w' from fun b W => block_any b 256 (by decide) W)
  clear hA hl
  have hn256 : (n.toNat : Int) < 256 := by have := n.toNat_lt; omega
  go_enter Try.func5, Try.ntmps5
  go_wp2_with fail
  refine (alive_calls w).mono ?_
  rintro e w1 ⟨rfl, hb⟩
  have HB1 := Lib.hid hb
  clear hb
  go_wp2_with fail
  refine (has_new 4 w w1 (X := []) HB1.out (fun k hk => by simp at hk)).mono ?_
  rintro e w2 ⟨⟨p, rfl, h2⟩, _⟩
  have H2 := Lib.hid h2
  clear h2 HB1
  go_wp2_with fail
  refine (has_fuse H2.out (n.toNat : Int) (by omega)).mono ?_
  rintro e w3 ⟨rfl, h3, _⟩
  have H3 := Lib.hid h3
  clear h3 H2
  go_wp2_with fail
  go_loopg [8, 9] 200 (fun gg s8 s9 wq => ∃ (j : Nat) (dn : Nat) (d : Dv), s9 = .int .i64 j ∧ s8 = .int .i64 dn ∧ j ≤ l.length ∧ j ≤ 200 ∧ 200 - j ≤ gg ∧ dn ≤ j ∧ dn ≤ n.toNat ∧ (j ≤ n.toNat → dn = j) ∧ Hid (Has w wq p d []) ∧ Hid (Fused n.toNat j d) ∧ Hid (d.late.length ≤ j))
  case atStart => exact ⟨0, 0, _, by simp, by simp, Nat.zero_le _, by omega, by omega, by omega, by omega, fun _ => rfl, H3, Lib.hid (fresh_fused _), Lib.hid (Nat.zero_le _)⟩
  case round =>
    clear H3
    obtain ⟨wq, rfl⟩ : ∃ wq : World, wq = wr := ⟨_, rfl⟩
    obtain ⟨j, dn, d, rfl, rfl, hj1, hj2, hjg, hdn, hdn2, hdn3, H7, HFU, HLA⟩ := hrel
    by_cases hc2 : j < l.length ∧ j < 200
    · obtain ⟨hd1, hd2⟩ := hc2
      obtain ⟨blk, off, rfl, hbw, hcs0⟩ := HA.out j hd1
      obtain ⟨x, hx⟩ : ∃ x, l[j] = x := ⟨_, rfl⟩
      rw [hx] at hcs0
      have HX := Lib.hid (HOl.out x (hx ▸ List.getElem_mem hd1))
      have HCS : Hid (∀ W, Below w.heap.size w W → ∀ i u, (acells x)[i]? = some u → W.cell? ⟨blk, off + j * 4 + i, none⟩ = some u) := fun W hb i u hu => (hb.cell (p := ⟨blk, _, none⟩) hbw).trans (hcs0 i u hu)
      clear hcs0 hx
      have c0 := HCS.out _ H7.out.bel 0 _ rfl
      have c1 := HCS.out _ H7.out.bel 1 _ rfl
      have c2 := HCS.out _ H7.out.bel 2 _ rfl
      simp only [Nat.add_zero] at c0
      obtain ⟨k1, k2⟩ := HX.out.1
      have HD3 := Lib.hid hdn3
      clear hdn3
      by_cases hz : x.k.tmod 5 = 1
      · go_wp2_with fail
        refine (has_barrier H7.out).mono ?_
        rw [HFU.out.barrier.1]
        rintro e w9 ⟨rfl, h9, _⟩
        have H9 := Lib.hid h9
        have HF9 := Lib.hid HFU.out.barrier.2
        have HL9 := Lib.hid (show d.barrier.2.late.length ≤ j + 1 by have := barrier_late d; have := HLA.out; omega)
        clear h9 H7 c0 c1 c2
        obtain ⟨d9, hd9⟩ : ∃ d9, d.barrier.2 = d9 := ⟨_, rfl⟩
        rw [hd9] at H9 HF9 HL9
        clear hd9
        have hlt : n.toNat < j ∨ n.toNat = j ∨ j < n.toNat := by omega
        have HDD := Lib.hid HF9.out.dead
        by_cases hjn : j < n.toNat
        · rw [show ans n.toNat j = 0 from if_pos hjn]
          rw [decide_eq_false (by omega)] at HDD
          clear hlt
          go_wp2_with (go_at_call 18; refine (has_dead H9.out).mono ?_; rw [HDD.out]; rintro e w9 ⟨rfl, rfl⟩)
          go_roundg (200 - (j + 1))
          case measure => omega
          case rel => exact ⟨j + 1, dn + 1, d9, by go_num, by go_num, by omega, by omega, by omega, by omega, by have := HD3.out; omega, by have := HD3.out; omega, H9, HF9, HL9⟩
        · rw [show ans n.toNat j = 5 from if_neg hjn]
          rw [decide_eq_true (by omega)] at HDD
          clear hlt
          have hjn' : n.toNat ≤ j := by omega
          clear hjn
          go_wp2_with (go_at_call 18; refine (has_dead H9.out).mono ?_; rw [HDD.out]; rintro e w9 ⟨rfl, rfl⟩)
          go_roundg (200 - (j + 1))
          case measure => omega
          case rel => exact ⟨j + 1, dn, d9, by go_num, by first | rfl | go_num, by omega, by omega, by omega, by omega, by omega, by omega, H9, HF9, HL9⟩
      · have n1 : (x.k.tmod 5 == 1) = false := by rw [beq_eq_false_iff_ne]; exact hz
        clear hz
        rcases turn4 x.at_ with hq | hq | hq | hq
        · have HQ := Lib.hid hq
          clear hq
          go_wp2
          refine start_ (n := 17) (S := fun w' => w'.cell? ⟨blk, off + j * 4 + 1, none⟩ = some (.int .i64 x.at_) ∧ w'.cell? ⟨blk, off + j * 4 + 2, none⟩ = some (.int .u8 (x.b.toNat : Int))) (ds := [15]) #[false, false, false, false, false, false, false, false, false, false, false, false, false, false, false, false, false] (by kernel_rfl) rfl rfl (⟨c1, c2⟩) (fun hHeld => ?_)
          have H7' := Lib.hid H7.out.drew
          generalize wq.drew = w7 at H7' hHeld ⊢
          clear H7
          have H7 := H7'
          clear H7' c0 c1 c2
          refine pure_ (i := 0) (N := some 37) (v := ?_) (a' := ?_) #[true, false, false, false, false, false, false, false, false, false, false, false, false, false, false, false, false] rfl rfl (by kernel_rfl) (fun _ _ _ h => h) (Or.inl ⟨by rfl, ?_⟩) ?_ ?_
          rotate_left
          · intro w'
            go_simp
            with_reducible rfl
          rotate_left
          · simp only [Act.put, List.setIfInBounds_toArray, List.set_cons_zero, List.set_cons_succ, i64_w, i32_w]
            rfl
          refine pure_ (i := 1) (N := some 38) (v := ?_) (a' := ?_) #[true, true, false, false, false, false, false, false, false, false, false, false, false, false, false, false, false] rfl rfl (by kernel_rfl) (fun _ _ _ h => h) (Or.inl ⟨by rfl, ?_⟩) ?_ ?_
          rotate_left
          · intro w'
            go_simp
            with_reducible rfl
          rotate_left
          · simp only [Act.put, List.setIfInBounds_toArray, List.set_cons_zero, List.set_cons_succ, i64_w, i32_w]
            rfl
          refine pure_ (i := 2) (N := some 39) (v := ?_) (a' := ?_) #[true, true, true, false, false, false, false, false, false, false, false, false, false, false, false, false, false] rfl rfl (by kernel_rfl) (fun _ _ _ h => h) (Or.inl ⟨by rfl, ?_⟩) ?_ ?_
          rotate_left
          · intro w'
            go_simp
            with_reducible rfl
          rotate_left
          · simp only [Act.put, List.setIfInBounds_toArray, List.set_cons_zero, List.set_cons_succ, i64_w, i32_w]
            rfl
          refine pure_ (i := 3) (N := some 40) (v := ?_) (a' := ?_) #[true, true, true, true, false, false, false, false, false, false, false, false, false, false, false, false, false] rfl rfl (by kernel_rfl) (fun _ _ _ h => h) (Or.inl ⟨by rfl, ?_⟩) ?_ ?_
          rotate_left
          · intro w'
            go_simp
            with_reducible rfl
          rotate_left
          · simp only [Act.put, List.setIfInBounds_toArray, List.set_cons_zero, List.set_cons_succ, i64_w, i32_w]
            rfl
          refine pure_ (i := 4) (N := some 41) (v := ?_) (a' := ?_) #[true, true, true, true, true, false, false, false, false, false, false, false, false, false, false, false, false] rfl rfl (by kernel_rfl) (fun _ _ _ h => h) (Or.inl ⟨by rfl, ?_⟩) ?_ ?_
          rotate_left
          · intro w'
            go_simp
            with_reducible rfl
          rotate_left
          · simp only [Act.put, List.setIfInBounds_toArray, List.set_cons_zero, List.set_cons_succ, i64_w, i32_w]
            rfl
          refine take_ (i := 5) (N := some 42) (v := ?_) (a' := ?_) #[true, true, true, true, true, true, false, false, false, false, false, false, false, false, false, false, false] rfl rfl (by kernel_rfl) (fun _ _ _ h => h) (Or.inl ⟨by rfl, ?_⟩) hHeld ?_ ?_
          rotate_left
          · intro w' hS
            obtain ⟨s1, s2⟩ := hS
            go_simp
            with_reducible rfl
          rotate_left
          · simp only [Act.put, List.setIfInBounds_toArray, List.set_cons_zero, List.set_cons_succ, i64_w, i32_w]
            rfl
          refine pure_ (i := 6) (N := some 43) (v := ?_) (a' := ?_) #[true, true, true, true, true, true, true, false, false, false, false, false, false, false, false, false, false] rfl rfl (by kernel_rfl) (fun _ _ _ h => h) (Or.inl ⟨by rfl, ?_⟩) ?_ ?_
          rotate_left
          · intro w'
            go_simp
            with_reducible rfl
          rotate_left
          · simp only [Act.put, List.setIfInBounds_toArray, List.set_cons_zero, List.set_cons_succ, i64_w, i32_w]
            rfl
          refine pure_ (i := 7) (N := some 44) (v := ?_) (a' := ?_) #[true, true, true, true, true, true, true, true, false, false, false, false, false, false, false, false, false] rfl rfl (by kernel_rfl) (fun _ _ _ h => h) (Or.inl ⟨by rfl, ?_⟩) ?_ ?_
          rotate_left
          · intro w'
            go_simp
            with_reducible rfl
          rotate_left
          · simp only [Act.put, List.setIfInBounds_toArray, List.set_cons_zero, List.set_cons_succ, i64_w, i32_w]
            rfl
          refine pure_ (i := 8) (N := some 45) (v := ?_) (a' := ?_) #[true, true, true, true, true, true, true, true, true, false, false, false, false, false, false, false, false] rfl rfl (by kernel_rfl) (fun _ _ _ h => h) (Or.inl ⟨by rfl, ?_⟩) ?_ ?_
          rotate_left
          · intro w'
            go_simp
            with_reducible rfl
          rotate_left
          · simp only [Act.put, List.setIfInBounds_toArray, List.set_cons_zero, List.set_cons_succ, i64_w, i32_w]
            rfl
          rw [HQ.out]
          refine pure_ (i := 9) (N := some 46) (v := ?_) (a' := ?_) #[true, true, true, true, true, true, true, true, true, true, false, false, false, false, false, false, false] rfl rfl (by kernel_rfl) (fun _ _ _ h => h) (Or.inl ⟨by rfl, ?_⟩) ?_ ?_
          rotate_left
          · intro w'
            go_simp
            with_reducible rfl
          rotate_left
          · simp only [Act.put, List.setIfInBounds_toArray, List.set_cons_zero, List.set_cons_succ, i64_w, i32_w]
            rfl
          refine pure_ (i := 10) (N := some 47) (v := ?_) (a' := ?_) #[true, true, true, true, true, true, true, true, true, true, true, false, false, false, false, false, false] rfl rfl (by kernel_rfl) (fun _ _ _ h => h) (Or.inl ⟨by rfl, ?_⟩) ?_ ?_
          rotate_left
          · intro w'
            go_simp
            with_reducible rfl
          rotate_left
          · simp only [Act.put, List.setIfInBounds_toArray, List.set_cons_zero, List.set_cons_succ, i64_w, i32_w]
            rfl
          refine pure_ (i := 11) (N := some 48) (v := ?_) (a' := ?_) #[true, true, true, true, true, true, true, true, true, true, true, true, false, false, false, false, false] rfl rfl (by kernel_rfl) (fun _ _ _ h => h) (Or.inl ⟨by rfl, ?_⟩) ?_ ?_
          rotate_left
          · intro w'
            go_simp
            with_reducible rfl
          rotate_left
          · simp only [Act.put, List.setIfInBounds_toArray, List.set_cons_zero, List.set_cons_succ, i64_w, i32_w]
            rfl
          refine pure_ (i := 12) (N := some 49) (v := ?_) (a' := ?_) #[true, true, true, true, true, true, true, true, true, true, true, true, true, false, false, false, false] rfl rfl (by kernel_rfl) (fun _ _ _ h => h) (Or.inl ⟨by rfl, ?_⟩) ?_ ?_
          rotate_left
          · intro w'
            go_simp
            with_reducible rfl
          rotate_left
          · simp only [Act.put, List.setIfInBounds_toArray, List.set_cons_zero, List.set_cons_succ, i64_w, i32_w]
            rfl
          refine take_ (i := 13) (N := some 50) (v := ?_) (a' := ?_) #[true, true, true, true, true, true, true, true, true, true, true, true, true, true, false, false, false] rfl rfl (by kernel_rfl) (fun _ _ _ h => h) (Or.inl ⟨by rfl, ?_⟩) hHeld ?_ ?_
          rotate_left
          · intro w' hS
            obtain ⟨s1, s2⟩ := hS
            go_simp
            with_reducible rfl
          rotate_left
          · simp only [Act.put, List.setIfInBounds_toArray, List.set_cons_zero, List.set_cons_succ, i64_w, i32_w]
            rfl
          refine one_ (i := 14) (N := some 51) #[true, true, true, true, true, true, true, true, true, true, true, true, true, true, true, false, false] rfl rfl (by kernel_rfl) (by decide) (fun K hK => ?_)
          refine goes_ Try.func11 (by kernel_rfl) rfl #[.int .u8 (x.b.toNat : Int), .int .i64 256] (by rfl) rfl rfl (by (try simp only [List.map_toArray, List.map_cons, List.map_nil]); first | done | rfl) ?_
          refine (HBL.out x.b w7).mono ?_
          rintro e w8 ⟨rfl, hb⟩
          refine ⟨_, rfl, ?_⟩
          have H8 := Lib.hid (H7.out.below hb)
          have HS8 := Lib.hid (And.intro (HCS.out _ H8.out.bel 1 _ rfl) (HCS.out _ H8.out.bel 2 _ rfl))
          clear hb
          refine hK.out _ _ HS8.out (fun hHeld => ?_)
          clear hK K
          refine norm_ (a' := ?_) ?_ ?_
          rotate_left
          · show Act.put _ (some 51) _ = _
            simp only [Act.put, List.setIfInBounds_toArray, List.set_cons_zero, List.set_cons_succ, i64_w, i32_w]
            rfl
          refine last_ (i := 15) (N := some 52) #[true, true, true, true, true, true, true, true, true, true, true, true, true, true, true, true, false] rfl rfl (by kernel_rfl) (by decide) (fun K hK => ?_)
          refine goes_ Try.func13 (by kernel_rfl) rfl #[.pointer (some ⟨p, 0, none⟩), .int .i64 0, .string (rep8 x.b 256)] (by rfl) rfl rfl (by (try simp only [List.map_toArray, List.map_cons, List.map_nil]); first | done | rfl) ?_
          refine (has_write H8.out 0 (rep8 x.b 256) (by have := HLA.out; omega)).mono ?_
          rw [show (d.write 0 (rep8 x.b 256)).1 = _ from (HFU.out.write 0 (by omega) (rep8 x.b 256) (rep8_size _ _)).1]
          rintro e w9 ⟨rfl, h9, _⟩
          refine ⟨_, rfl, ?_⟩
          have H9 := Lib.hid h9
          clear h9
          refine hK.out _ _ ?_
          clear hK K
          refine norm_ (a' := ?_) ?_ ?_
          rotate_left
          · show Act.put _ (some 52) _ = _
            simp only [Act.put, List.setIfInBounds_toArray, List.set_cons_zero, List.set_cons_succ, i64_w, i32_w]
            rfl
          refine pure_ (i := 16) (N := some 10) (v := ?_) (a' := ?_) #[true, true, true, true, true, true, true, true, true, true, true, true, true, true, true, true, true] rfl rfl (by kernel_rfl) (fun _ _ _ h => h) (Or.inl ⟨by rfl, ?_⟩) ?_ ?_
          rotate_left
          · intro w'
            go_simp
            with_reducible rfl
          rotate_left
          · simp only [Act.put, List.setIfInBounds_toArray, List.set_cons_zero, List.set_cons_succ, i64_w, i32_w]
            rfl
          refine done_ (by kernel_rfl) ?_
          have HF9 := Lib.hid (HFU.out.write 0 (by omega) (rep8 x.b 256) (rep8_size _ _)).2
          have HL9 := Lib.hid (show (d.write (0 : Nat) (rep8 x.b 256)).2.late.length ≤ j + 1 by have h := write_late d (0 : Nat) (rep8 x.b 256); have := HLA.out; omega)
          obtain ⟨d9, hd9⟩ : ∃ d9, (d.write 0 (rep8 x.b 256)).2 = d9 := ⟨_, rfl⟩
          have H9' := H9.out
          rw [hd9] at H9'
          have HF9' : Hid (Fused n.toNat (j + 1) d9) := by have h := HF9.out; rw [show (d.write (0 : Nat) (rep8 x.b 256)).2 = d9 from hd9] at h; exact h
          have HL9' : Hid (d9.late.length ≤ j + 1) := by have h := HL9.out; rw [show (d.write (0 : Nat) (rep8 x.b 256)).2 = d9 from hd9] at h; exact h
          clear H9 HF9 HL9 hd9
          have H9 := Lib.hid H9'
          have HF9 := HF9'
          have HL9 := HL9'
          clear H9' HF9' HL9'
          have hlt : n.toNat < j ∨ n.toNat = j ∨ j < n.toNat := by omega
          have HDD := Lib.hid HF9.out.dead
          by_cases hjn : j < n.toNat
          · rw [show ans n.toNat j = 0 from if_pos hjn]
            rw [decide_eq_false (by omega)] at HDD
            clear hlt
            go_wp2_with (go_at_call 18; refine (has_dead H9.out).mono ?_; rw [HDD.out]; rintro e w9 ⟨rfl, rfl⟩)
            go_roundg (200 - (j + 1))
            case measure => omega
            case rel => exact ⟨j + 1, dn + 1, d9, by go_num, by go_num, by omega, by omega, by omega, by omega, by have := HD3.out; omega, by have := HD3.out; omega, H9, HF9, HL9⟩
          · rw [show ans n.toNat j = 5 from if_neg hjn]
            rw [decide_eq_true (by omega)] at HDD
            clear hlt
            have hjn' : n.toNat ≤ j := by omega
            clear hjn
            go_wp2_with (go_at_call 18; refine (has_dead H9.out).mono ?_; rw [HDD.out]; rintro e w9 ⟨rfl, rfl⟩)
            go_roundg (200 - (j + 1))
            case measure => omega
            case rel => exact ⟨j + 1, dn, d9, by go_num, by first | rfl | go_num, by omega, by omega, by omega, by omega, by omega, by omega, H9, HF9, HL9⟩
        · have HQ := Lib.hid hq
          clear hq
          go_wp2
          refine start_ (n := 17) (S := fun w' => w'.cell? ⟨blk, off + j * 4 + 1, none⟩ = some (.int .i64 x.at_) ∧ w'.cell? ⟨blk, off + j * 4 + 2, none⟩ = some (.int .u8 (x.b.toNat : Int))) (ds := [15]) #[false, false, false, false, false, false, false, false, false, false, false, false, false, false, false, false, false] (by kernel_rfl) rfl rfl (⟨c1, c2⟩) (fun hHeld => ?_)
          have H7' := Lib.hid H7.out.drew
          generalize wq.drew = w7 at H7' hHeld ⊢
          clear H7
          have H7 := H7'
          clear H7' c0 c1 c2
          refine pure_ (i := 0) (N := some 37) (v := ?_) (a' := ?_) #[true, false, false, false, false, false, false, false, false, false, false, false, false, false, false, false, false] rfl rfl (by kernel_rfl) (fun _ _ _ h => h) (Or.inl ⟨by rfl, ?_⟩) ?_ ?_
          rotate_left
          · intro w'
            go_simp
            with_reducible rfl
          rotate_left
          · simp only [Act.put, List.setIfInBounds_toArray, List.set_cons_zero, List.set_cons_succ, i64_w, i32_w]
            rfl
          refine pure_ (i := 1) (N := some 38) (v := ?_) (a' := ?_) #[true, true, false, false, false, false, false, false, false, false, false, false, false, false, false, false, false] rfl rfl (by kernel_rfl) (fun _ _ _ h => h) (Or.inl ⟨by rfl, ?_⟩) ?_ ?_
          rotate_left
          · intro w'
            go_simp
            with_reducible rfl
          rotate_left
          · simp only [Act.put, List.setIfInBounds_toArray, List.set_cons_zero, List.set_cons_succ, i64_w, i32_w]
            rfl
          refine pure_ (i := 2) (N := some 39) (v := ?_) (a' := ?_) #[true, true, true, false, false, false, false, false, false, false, false, false, false, false, false, false, false] rfl rfl (by kernel_rfl) (fun _ _ _ h => h) (Or.inl ⟨by rfl, ?_⟩) ?_ ?_
          rotate_left
          · intro w'
            go_simp
            with_reducible rfl
          rotate_left
          · simp only [Act.put, List.setIfInBounds_toArray, List.set_cons_zero, List.set_cons_succ, i64_w, i32_w]
            rfl
          refine pure_ (i := 3) (N := some 40) (v := ?_) (a' := ?_) #[true, true, true, true, false, false, false, false, false, false, false, false, false, false, false, false, false] rfl rfl (by kernel_rfl) (fun _ _ _ h => h) (Or.inl ⟨by rfl, ?_⟩) ?_ ?_
          rotate_left
          · intro w'
            go_simp
            with_reducible rfl
          rotate_left
          · simp only [Act.put, List.setIfInBounds_toArray, List.set_cons_zero, List.set_cons_succ, i64_w, i32_w]
            rfl
          refine pure_ (i := 4) (N := some 41) (v := ?_) (a' := ?_) #[true, true, true, true, true, false, false, false, false, false, false, false, false, false, false, false, false] rfl rfl (by kernel_rfl) (fun _ _ _ h => h) (Or.inl ⟨by rfl, ?_⟩) ?_ ?_
          rotate_left
          · intro w'
            go_simp
            with_reducible rfl
          rotate_left
          · simp only [Act.put, List.setIfInBounds_toArray, List.set_cons_zero, List.set_cons_succ, i64_w, i32_w]
            rfl
          refine take_ (i := 5) (N := some 42) (v := ?_) (a' := ?_) #[true, true, true, true, true, true, false, false, false, false, false, false, false, false, false, false, false] rfl rfl (by kernel_rfl) (fun _ _ _ h => h) (Or.inl ⟨by rfl, ?_⟩) hHeld ?_ ?_
          rotate_left
          · intro w' hS
            obtain ⟨s1, s2⟩ := hS
            go_simp
            with_reducible rfl
          rotate_left
          · simp only [Act.put, List.setIfInBounds_toArray, List.set_cons_zero, List.set_cons_succ, i64_w, i32_w]
            rfl
          refine pure_ (i := 6) (N := some 43) (v := ?_) (a' := ?_) #[true, true, true, true, true, true, true, false, false, false, false, false, false, false, false, false, false] rfl rfl (by kernel_rfl) (fun _ _ _ h => h) (Or.inl ⟨by rfl, ?_⟩) ?_ ?_
          rotate_left
          · intro w'
            go_simp
            with_reducible rfl
          rotate_left
          · simp only [Act.put, List.setIfInBounds_toArray, List.set_cons_zero, List.set_cons_succ, i64_w, i32_w]
            rfl
          refine pure_ (i := 7) (N := some 44) (v := ?_) (a' := ?_) #[true, true, true, true, true, true, true, true, false, false, false, false, false, false, false, false, false] rfl rfl (by kernel_rfl) (fun _ _ _ h => h) (Or.inl ⟨by rfl, ?_⟩) ?_ ?_
          rotate_left
          · intro w'
            go_simp
            with_reducible rfl
          rotate_left
          · simp only [Act.put, List.setIfInBounds_toArray, List.set_cons_zero, List.set_cons_succ, i64_w, i32_w]
            rfl
          refine pure_ (i := 8) (N := some 45) (v := ?_) (a' := ?_) #[true, true, true, true, true, true, true, true, true, false, false, false, false, false, false, false, false] rfl rfl (by kernel_rfl) (fun _ _ _ h => h) (Or.inl ⟨by rfl, ?_⟩) ?_ ?_
          rotate_left
          · intro w'
            go_simp
            with_reducible rfl
          rotate_left
          · simp only [Act.put, List.setIfInBounds_toArray, List.set_cons_zero, List.set_cons_succ, i64_w, i32_w]
            rfl
          rw [HQ.out]
          refine pure_ (i := 9) (N := some 46) (v := ?_) (a' := ?_) #[true, true, true, true, true, true, true, true, true, true, false, false, false, false, false, false, false] rfl rfl (by kernel_rfl) (fun _ _ _ h => h) (Or.inl ⟨by rfl, ?_⟩) ?_ ?_
          rotate_left
          · intro w'
            go_simp
            with_reducible rfl
          rotate_left
          · simp only [Act.put, List.setIfInBounds_toArray, List.set_cons_zero, List.set_cons_succ, i64_w, i32_w]
            rfl
          refine pure_ (i := 10) (N := some 47) (v := ?_) (a' := ?_) #[true, true, true, true, true, true, true, true, true, true, true, false, false, false, false, false, false] rfl rfl (by kernel_rfl) (fun _ _ _ h => h) (Or.inl ⟨by rfl, ?_⟩) ?_ ?_
          rotate_left
          · intro w'
            go_simp
            with_reducible rfl
          rotate_left
          · simp only [Act.put, List.setIfInBounds_toArray, List.set_cons_zero, List.set_cons_succ, i64_w, i32_w]
            rfl
          refine pure_ (i := 11) (N := some 48) (v := ?_) (a' := ?_) #[true, true, true, true, true, true, true, true, true, true, true, true, false, false, false, false, false] rfl rfl (by kernel_rfl) (fun _ _ _ h => h) (Or.inl ⟨by rfl, ?_⟩) ?_ ?_
          rotate_left
          · intro w'
            go_simp
            with_reducible rfl
          rotate_left
          · simp only [Act.put, List.setIfInBounds_toArray, List.set_cons_zero, List.set_cons_succ, i64_w, i32_w]
            rfl
          refine pure_ (i := 12) (N := some 49) (v := ?_) (a' := ?_) #[true, true, true, true, true, true, true, true, true, true, true, true, true, false, false, false, false] rfl rfl (by kernel_rfl) (fun _ _ _ h => h) (Or.inl ⟨by rfl, ?_⟩) ?_ ?_
          rotate_left
          · intro w'
            go_simp
            with_reducible rfl
          rotate_left
          · simp only [Act.put, List.setIfInBounds_toArray, List.set_cons_zero, List.set_cons_succ, i64_w, i32_w]
            rfl
          refine take_ (i := 13) (N := some 50) (v := ?_) (a' := ?_) #[true, true, true, true, true, true, true, true, true, true, true, true, true, true, false, false, false] rfl rfl (by kernel_rfl) (fun _ _ _ h => h) (Or.inl ⟨by rfl, ?_⟩) hHeld ?_ ?_
          rotate_left
          · intro w' hS
            obtain ⟨s1, s2⟩ := hS
            go_simp
            with_reducible rfl
          rotate_left
          · simp only [Act.put, List.setIfInBounds_toArray, List.set_cons_zero, List.set_cons_succ, i64_w, i32_w]
            rfl
          refine one_ (i := 14) (N := some 51) #[true, true, true, true, true, true, true, true, true, true, true, true, true, true, true, false, false] rfl rfl (by kernel_rfl) (by decide) (fun K hK => ?_)
          refine goes_ Try.func11 (by kernel_rfl) rfl #[.int .u8 (x.b.toNat : Int), .int .i64 256] (by rfl) rfl rfl (by (try simp only [List.map_toArray, List.map_cons, List.map_nil]); first | done | rfl) ?_
          refine (HBL.out x.b w7).mono ?_
          rintro e w8 ⟨rfl, hb⟩
          refine ⟨_, rfl, ?_⟩
          have H8 := Lib.hid (H7.out.below hb)
          have HS8 := Lib.hid (And.intro (HCS.out _ H8.out.bel 1 _ rfl) (HCS.out _ H8.out.bel 2 _ rfl))
          clear hb
          refine hK.out _ _ HS8.out (fun hHeld => ?_)
          clear hK K
          refine norm_ (a' := ?_) ?_ ?_
          rotate_left
          · show Act.put _ (some 51) _ = _
            simp only [Act.put, List.setIfInBounds_toArray, List.set_cons_zero, List.set_cons_succ, i64_w, i32_w]
            rfl
          refine last_ (i := 15) (N := some 52) #[true, true, true, true, true, true, true, true, true, true, true, true, true, true, true, true, false] rfl rfl (by kernel_rfl) (by decide) (fun K hK => ?_)
          refine goes_ Try.func13 (by kernel_rfl) rfl #[.pointer (some ⟨p, 0, none⟩), .int .i64 1, .string (rep8 x.b 256)] (by rfl) rfl rfl (by (try simp only [List.map_toArray, List.map_cons, List.map_nil]); first | done | rfl) ?_
          refine (has_write H8.out 1 (rep8 x.b 256) (by have := HLA.out; omega)).mono ?_
          rw [show (d.write 1 (rep8 x.b 256)).1 = _ from (HFU.out.write 1 (by omega) (rep8 x.b 256) (rep8_size _ _)).1]
          rintro e w9 ⟨rfl, h9, _⟩
          refine ⟨_, rfl, ?_⟩
          have H9 := Lib.hid h9
          clear h9
          refine hK.out _ _ ?_
          clear hK K
          refine norm_ (a' := ?_) ?_ ?_
          rotate_left
          · show Act.put _ (some 52) _ = _
            simp only [Act.put, List.setIfInBounds_toArray, List.set_cons_zero, List.set_cons_succ, i64_w, i32_w]
            rfl
          refine pure_ (i := 16) (N := some 10) (v := ?_) (a' := ?_) #[true, true, true, true, true, true, true, true, true, true, true, true, true, true, true, true, true] rfl rfl (by kernel_rfl) (fun _ _ _ h => h) (Or.inl ⟨by rfl, ?_⟩) ?_ ?_
          rotate_left
          · intro w'
            go_simp
            with_reducible rfl
          rotate_left
          · simp only [Act.put, List.setIfInBounds_toArray, List.set_cons_zero, List.set_cons_succ, i64_w, i32_w]
            rfl
          refine done_ (by kernel_rfl) ?_
          have HF9 := Lib.hid (HFU.out.write 1 (by omega) (rep8 x.b 256) (rep8_size _ _)).2
          have HL9 := Lib.hid (show (d.write (1 : Nat) (rep8 x.b 256)).2.late.length ≤ j + 1 by have h := write_late d (1 : Nat) (rep8 x.b 256); have := HLA.out; omega)
          obtain ⟨d9, hd9⟩ : ∃ d9, (d.write 1 (rep8 x.b 256)).2 = d9 := ⟨_, rfl⟩
          have H9' := H9.out
          rw [hd9] at H9'
          have HF9' : Hid (Fused n.toNat (j + 1) d9) := by have h := HF9.out; rw [show (d.write (1 : Nat) (rep8 x.b 256)).2 = d9 from hd9] at h; exact h
          have HL9' : Hid (d9.late.length ≤ j + 1) := by have h := HL9.out; rw [show (d.write (1 : Nat) (rep8 x.b 256)).2 = d9 from hd9] at h; exact h
          clear H9 HF9 HL9 hd9
          have H9 := Lib.hid H9'
          have HF9 := HF9'
          have HL9 := HL9'
          clear H9' HF9' HL9'
          have hlt : n.toNat < j ∨ n.toNat = j ∨ j < n.toNat := by omega
          have HDD := Lib.hid HF9.out.dead
          by_cases hjn : j < n.toNat
          · rw [show ans n.toNat j = 0 from if_pos hjn]
            rw [decide_eq_false (by omega)] at HDD
            clear hlt
            go_wp2_with (go_at_call 18; refine (has_dead H9.out).mono ?_; rw [HDD.out]; rintro e w9 ⟨rfl, rfl⟩)
            go_roundg (200 - (j + 1))
            case measure => omega
            case rel => exact ⟨j + 1, dn + 1, d9, by go_num, by go_num, by omega, by omega, by omega, by omega, by have := HD3.out; omega, by have := HD3.out; omega, H9, HF9, HL9⟩
          · rw [show ans n.toNat j = 5 from if_neg hjn]
            rw [decide_eq_true (by omega)] at HDD
            clear hlt
            have hjn' : n.toNat ≤ j := by omega
            clear hjn
            go_wp2_with (go_at_call 18; refine (has_dead H9.out).mono ?_; rw [HDD.out]; rintro e w9 ⟨rfl, rfl⟩)
            go_roundg (200 - (j + 1))
            case measure => omega
            case rel => exact ⟨j + 1, dn, d9, by go_num, by first | rfl | go_num, by omega, by omega, by omega, by omega, by omega, by omega, H9, HF9, HL9⟩
        · have HQ := Lib.hid hq
          clear hq
          go_wp2
          refine start_ (n := 17) (S := fun w' => w'.cell? ⟨blk, off + j * 4 + 1, none⟩ = some (.int .i64 x.at_) ∧ w'.cell? ⟨blk, off + j * 4 + 2, none⟩ = some (.int .u8 (x.b.toNat : Int))) (ds := [15]) #[false, false, false, false, false, false, false, false, false, false, false, false, false, false, false, false, false] (by kernel_rfl) rfl rfl (⟨c1, c2⟩) (fun hHeld => ?_)
          have H7' := Lib.hid H7.out.drew
          generalize wq.drew = w7 at H7' hHeld ⊢
          clear H7
          have H7 := H7'
          clear H7' c0 c1 c2
          refine pure_ (i := 0) (N := some 37) (v := ?_) (a' := ?_) #[true, false, false, false, false, false, false, false, false, false, false, false, false, false, false, false, false] rfl rfl (by kernel_rfl) (fun _ _ _ h => h) (Or.inl ⟨by rfl, ?_⟩) ?_ ?_
          rotate_left
          · intro w'
            go_simp
            with_reducible rfl
          rotate_left
          · simp only [Act.put, List.setIfInBounds_toArray, List.set_cons_zero, List.set_cons_succ, i64_w, i32_w]
            rfl
          refine pure_ (i := 1) (N := some 38) (v := ?_) (a' := ?_) #[true, true, false, false, false, false, false, false, false, false, false, false, false, false, false, false, false] rfl rfl (by kernel_rfl) (fun _ _ _ h => h) (Or.inl ⟨by rfl, ?_⟩) ?_ ?_
          rotate_left
          · intro w'
            go_simp
            with_reducible rfl
          rotate_left
          · simp only [Act.put, List.setIfInBounds_toArray, List.set_cons_zero, List.set_cons_succ, i64_w, i32_w]
            rfl
          refine pure_ (i := 2) (N := some 39) (v := ?_) (a' := ?_) #[true, true, true, false, false, false, false, false, false, false, false, false, false, false, false, false, false] rfl rfl (by kernel_rfl) (fun _ _ _ h => h) (Or.inl ⟨by rfl, ?_⟩) ?_ ?_
          rotate_left
          · intro w'
            go_simp
            with_reducible rfl
          rotate_left
          · simp only [Act.put, List.setIfInBounds_toArray, List.set_cons_zero, List.set_cons_succ, i64_w, i32_w]
            rfl
          refine pure_ (i := 3) (N := some 40) (v := ?_) (a' := ?_) #[true, true, true, true, false, false, false, false, false, false, false, false, false, false, false, false, false] rfl rfl (by kernel_rfl) (fun _ _ _ h => h) (Or.inl ⟨by rfl, ?_⟩) ?_ ?_
          rotate_left
          · intro w'
            go_simp
            with_reducible rfl
          rotate_left
          · simp only [Act.put, List.setIfInBounds_toArray, List.set_cons_zero, List.set_cons_succ, i64_w, i32_w]
            rfl
          refine pure_ (i := 4) (N := some 41) (v := ?_) (a' := ?_) #[true, true, true, true, true, false, false, false, false, false, false, false, false, false, false, false, false] rfl rfl (by kernel_rfl) (fun _ _ _ h => h) (Or.inl ⟨by rfl, ?_⟩) ?_ ?_
          rotate_left
          · intro w'
            go_simp
            with_reducible rfl
          rotate_left
          · simp only [Act.put, List.setIfInBounds_toArray, List.set_cons_zero, List.set_cons_succ, i64_w, i32_w]
            rfl
          refine take_ (i := 5) (N := some 42) (v := ?_) (a' := ?_) #[true, true, true, true, true, true, false, false, false, false, false, false, false, false, false, false, false] rfl rfl (by kernel_rfl) (fun _ _ _ h => h) (Or.inl ⟨by rfl, ?_⟩) hHeld ?_ ?_
          rotate_left
          · intro w' hS
            obtain ⟨s1, s2⟩ := hS
            go_simp
            with_reducible rfl
          rotate_left
          · simp only [Act.put, List.setIfInBounds_toArray, List.set_cons_zero, List.set_cons_succ, i64_w, i32_w]
            rfl
          refine pure_ (i := 6) (N := some 43) (v := ?_) (a' := ?_) #[true, true, true, true, true, true, true, false, false, false, false, false, false, false, false, false, false] rfl rfl (by kernel_rfl) (fun _ _ _ h => h) (Or.inl ⟨by rfl, ?_⟩) ?_ ?_
          rotate_left
          · intro w'
            go_simp
            with_reducible rfl
          rotate_left
          · simp only [Act.put, List.setIfInBounds_toArray, List.set_cons_zero, List.set_cons_succ, i64_w, i32_w]
            rfl
          refine pure_ (i := 7) (N := some 44) (v := ?_) (a' := ?_) #[true, true, true, true, true, true, true, true, false, false, false, false, false, false, false, false, false] rfl rfl (by kernel_rfl) (fun _ _ _ h => h) (Or.inl ⟨by rfl, ?_⟩) ?_ ?_
          rotate_left
          · intro w'
            go_simp
            with_reducible rfl
          rotate_left
          · simp only [Act.put, List.setIfInBounds_toArray, List.set_cons_zero, List.set_cons_succ, i64_w, i32_w]
            rfl
          refine pure_ (i := 8) (N := some 45) (v := ?_) (a' := ?_) #[true, true, true, true, true, true, true, true, true, false, false, false, false, false, false, false, false] rfl rfl (by kernel_rfl) (fun _ _ _ h => h) (Or.inl ⟨by rfl, ?_⟩) ?_ ?_
          rotate_left
          · intro w'
            go_simp
            with_reducible rfl
          rotate_left
          · simp only [Act.put, List.setIfInBounds_toArray, List.set_cons_zero, List.set_cons_succ, i64_w, i32_w]
            rfl
          rw [HQ.out]
          refine pure_ (i := 9) (N := some 46) (v := ?_) (a' := ?_) #[true, true, true, true, true, true, true, true, true, true, false, false, false, false, false, false, false] rfl rfl (by kernel_rfl) (fun _ _ _ h => h) (Or.inl ⟨by rfl, ?_⟩) ?_ ?_
          rotate_left
          · intro w'
            go_simp
            with_reducible rfl
          rotate_left
          · simp only [Act.put, List.setIfInBounds_toArray, List.set_cons_zero, List.set_cons_succ, i64_w, i32_w]
            rfl
          refine pure_ (i := 10) (N := some 47) (v := ?_) (a' := ?_) #[true, true, true, true, true, true, true, true, true, true, true, false, false, false, false, false, false] rfl rfl (by kernel_rfl) (fun _ _ _ h => h) (Or.inl ⟨by rfl, ?_⟩) ?_ ?_
          rotate_left
          · intro w'
            go_simp
            with_reducible rfl
          rotate_left
          · simp only [Act.put, List.setIfInBounds_toArray, List.set_cons_zero, List.set_cons_succ, i64_w, i32_w]
            rfl
          refine pure_ (i := 11) (N := some 48) (v := ?_) (a' := ?_) #[true, true, true, true, true, true, true, true, true, true, true, true, false, false, false, false, false] rfl rfl (by kernel_rfl) (fun _ _ _ h => h) (Or.inl ⟨by rfl, ?_⟩) ?_ ?_
          rotate_left
          · intro w'
            go_simp
            with_reducible rfl
          rotate_left
          · simp only [Act.put, List.setIfInBounds_toArray, List.set_cons_zero, List.set_cons_succ, i64_w, i32_w]
            rfl
          refine pure_ (i := 12) (N := some 49) (v := ?_) (a' := ?_) #[true, true, true, true, true, true, true, true, true, true, true, true, true, false, false, false, false] rfl rfl (by kernel_rfl) (fun _ _ _ h => h) (Or.inl ⟨by rfl, ?_⟩) ?_ ?_
          rotate_left
          · intro w'
            go_simp
            with_reducible rfl
          rotate_left
          · simp only [Act.put, List.setIfInBounds_toArray, List.set_cons_zero, List.set_cons_succ, i64_w, i32_w]
            rfl
          refine take_ (i := 13) (N := some 50) (v := ?_) (a' := ?_) #[true, true, true, true, true, true, true, true, true, true, true, true, true, true, false, false, false] rfl rfl (by kernel_rfl) (fun _ _ _ h => h) (Or.inl ⟨by rfl, ?_⟩) hHeld ?_ ?_
          rotate_left
          · intro w' hS
            obtain ⟨s1, s2⟩ := hS
            go_simp
            with_reducible rfl
          rotate_left
          · simp only [Act.put, List.setIfInBounds_toArray, List.set_cons_zero, List.set_cons_succ, i64_w, i32_w]
            rfl
          refine one_ (i := 14) (N := some 51) #[true, true, true, true, true, true, true, true, true, true, true, true, true, true, true, false, false] rfl rfl (by kernel_rfl) (by decide) (fun K hK => ?_)
          refine goes_ Try.func11 (by kernel_rfl) rfl #[.int .u8 (x.b.toNat : Int), .int .i64 256] (by rfl) rfl rfl (by (try simp only [List.map_toArray, List.map_cons, List.map_nil]); first | done | rfl) ?_
          refine (HBL.out x.b w7).mono ?_
          rintro e w8 ⟨rfl, hb⟩
          refine ⟨_, rfl, ?_⟩
          have H8 := Lib.hid (H7.out.below hb)
          have HS8 := Lib.hid (And.intro (HCS.out _ H8.out.bel 1 _ rfl) (HCS.out _ H8.out.bel 2 _ rfl))
          clear hb
          refine hK.out _ _ HS8.out (fun hHeld => ?_)
          clear hK K
          refine norm_ (a' := ?_) ?_ ?_
          rotate_left
          · show Act.put _ (some 51) _ = _
            simp only [Act.put, List.setIfInBounds_toArray, List.set_cons_zero, List.set_cons_succ, i64_w, i32_w]
            rfl
          refine last_ (i := 15) (N := some 52) #[true, true, true, true, true, true, true, true, true, true, true, true, true, true, true, true, false] rfl rfl (by kernel_rfl) (by decide) (fun K hK => ?_)
          refine goes_ Try.func13 (by kernel_rfl) rfl #[.pointer (some ⟨p, 0, none⟩), .int .i64 2, .string (rep8 x.b 256)] (by rfl) rfl rfl (by (try simp only [List.map_toArray, List.map_cons, List.map_nil]); first | done | rfl) ?_
          refine (has_write H8.out 2 (rep8 x.b 256) (by have := HLA.out; omega)).mono ?_
          rw [show (d.write 2 (rep8 x.b 256)).1 = _ from (HFU.out.write 2 (by omega) (rep8 x.b 256) (rep8_size _ _)).1]
          rintro e w9 ⟨rfl, h9, _⟩
          refine ⟨_, rfl, ?_⟩
          have H9 := Lib.hid h9
          clear h9
          refine hK.out _ _ ?_
          clear hK K
          refine norm_ (a' := ?_) ?_ ?_
          rotate_left
          · show Act.put _ (some 52) _ = _
            simp only [Act.put, List.setIfInBounds_toArray, List.set_cons_zero, List.set_cons_succ, i64_w, i32_w]
            rfl
          refine pure_ (i := 16) (N := some 10) (v := ?_) (a' := ?_) #[true, true, true, true, true, true, true, true, true, true, true, true, true, true, true, true, true] rfl rfl (by kernel_rfl) (fun _ _ _ h => h) (Or.inl ⟨by rfl, ?_⟩) ?_ ?_
          rotate_left
          · intro w'
            go_simp
            with_reducible rfl
          rotate_left
          · simp only [Act.put, List.setIfInBounds_toArray, List.set_cons_zero, List.set_cons_succ, i64_w, i32_w]
            rfl
          refine done_ (by kernel_rfl) ?_
          have HF9 := Lib.hid (HFU.out.write 2 (by omega) (rep8 x.b 256) (rep8_size _ _)).2
          have HL9 := Lib.hid (show (d.write (2 : Nat) (rep8 x.b 256)).2.late.length ≤ j + 1 by have h := write_late d (2 : Nat) (rep8 x.b 256); have := HLA.out; omega)
          obtain ⟨d9, hd9⟩ : ∃ d9, (d.write 2 (rep8 x.b 256)).2 = d9 := ⟨_, rfl⟩
          have H9' := H9.out
          rw [hd9] at H9'
          have HF9' : Hid (Fused n.toNat (j + 1) d9) := by have h := HF9.out; rw [show (d.write (2 : Nat) (rep8 x.b 256)).2 = d9 from hd9] at h; exact h
          have HL9' : Hid (d9.late.length ≤ j + 1) := by have h := HL9.out; rw [show (d.write (2 : Nat) (rep8 x.b 256)).2 = d9 from hd9] at h; exact h
          clear H9 HF9 HL9 hd9
          have H9 := Lib.hid H9'
          have HF9 := HF9'
          have HL9 := HL9'
          clear H9' HF9' HL9'
          have hlt : n.toNat < j ∨ n.toNat = j ∨ j < n.toNat := by omega
          have HDD := Lib.hid HF9.out.dead
          by_cases hjn : j < n.toNat
          · rw [show ans n.toNat j = 0 from if_pos hjn]
            rw [decide_eq_false (by omega)] at HDD
            clear hlt
            go_wp2_with (go_at_call 18; refine (has_dead H9.out).mono ?_; rw [HDD.out]; rintro e w9 ⟨rfl, rfl⟩)
            go_roundg (200 - (j + 1))
            case measure => omega
            case rel => exact ⟨j + 1, dn + 1, d9, by go_num, by go_num, by omega, by omega, by omega, by omega, by have := HD3.out; omega, by have := HD3.out; omega, H9, HF9, HL9⟩
          · rw [show ans n.toNat j = 5 from if_neg hjn]
            rw [decide_eq_true (by omega)] at HDD
            clear hlt
            have hjn' : n.toNat ≤ j := by omega
            clear hjn
            go_wp2_with (go_at_call 18; refine (has_dead H9.out).mono ?_; rw [HDD.out]; rintro e w9 ⟨rfl, rfl⟩)
            go_roundg (200 - (j + 1))
            case measure => omega
            case rel => exact ⟨j + 1, dn, d9, by go_num, by first | rfl | go_num, by omega, by omega, by omega, by omega, by omega, by omega, H9, HF9, HL9⟩
        · have HQ := Lib.hid hq
          clear hq
          go_wp2
          refine start_ (n := 17) (S := fun w' => w'.cell? ⟨blk, off + j * 4 + 1, none⟩ = some (.int .i64 x.at_) ∧ w'.cell? ⟨blk, off + j * 4 + 2, none⟩ = some (.int .u8 (x.b.toNat : Int))) (ds := [15]) #[false, false, false, false, false, false, false, false, false, false, false, false, false, false, false, false, false] (by kernel_rfl) rfl rfl (⟨c1, c2⟩) (fun hHeld => ?_)
          have H7' := Lib.hid H7.out.drew
          generalize wq.drew = w7 at H7' hHeld ⊢
          clear H7
          have H7 := H7'
          clear H7' c0 c1 c2
          refine pure_ (i := 0) (N := some 37) (v := ?_) (a' := ?_) #[true, false, false, false, false, false, false, false, false, false, false, false, false, false, false, false, false] rfl rfl (by kernel_rfl) (fun _ _ _ h => h) (Or.inl ⟨by rfl, ?_⟩) ?_ ?_
          rotate_left
          · intro w'
            go_simp
            with_reducible rfl
          rotate_left
          · simp only [Act.put, List.setIfInBounds_toArray, List.set_cons_zero, List.set_cons_succ, i64_w, i32_w]
            rfl
          refine pure_ (i := 1) (N := some 38) (v := ?_) (a' := ?_) #[true, true, false, false, false, false, false, false, false, false, false, false, false, false, false, false, false] rfl rfl (by kernel_rfl) (fun _ _ _ h => h) (Or.inl ⟨by rfl, ?_⟩) ?_ ?_
          rotate_left
          · intro w'
            go_simp
            with_reducible rfl
          rotate_left
          · simp only [Act.put, List.setIfInBounds_toArray, List.set_cons_zero, List.set_cons_succ, i64_w, i32_w]
            rfl
          refine pure_ (i := 2) (N := some 39) (v := ?_) (a' := ?_) #[true, true, true, false, false, false, false, false, false, false, false, false, false, false, false, false, false] rfl rfl (by kernel_rfl) (fun _ _ _ h => h) (Or.inl ⟨by rfl, ?_⟩) ?_ ?_
          rotate_left
          · intro w'
            go_simp
            with_reducible rfl
          rotate_left
          · simp only [Act.put, List.setIfInBounds_toArray, List.set_cons_zero, List.set_cons_succ, i64_w, i32_w]
            rfl
          refine pure_ (i := 3) (N := some 40) (v := ?_) (a' := ?_) #[true, true, true, true, false, false, false, false, false, false, false, false, false, false, false, false, false] rfl rfl (by kernel_rfl) (fun _ _ _ h => h) (Or.inl ⟨by rfl, ?_⟩) ?_ ?_
          rotate_left
          · intro w'
            go_simp
            with_reducible rfl
          rotate_left
          · simp only [Act.put, List.setIfInBounds_toArray, List.set_cons_zero, List.set_cons_succ, i64_w, i32_w]
            rfl
          refine pure_ (i := 4) (N := some 41) (v := ?_) (a' := ?_) #[true, true, true, true, true, false, false, false, false, false, false, false, false, false, false, false, false] rfl rfl (by kernel_rfl) (fun _ _ _ h => h) (Or.inl ⟨by rfl, ?_⟩) ?_ ?_
          rotate_left
          · intro w'
            go_simp
            with_reducible rfl
          rotate_left
          · simp only [Act.put, List.setIfInBounds_toArray, List.set_cons_zero, List.set_cons_succ, i64_w, i32_w]
            rfl
          refine take_ (i := 5) (N := some 42) (v := ?_) (a' := ?_) #[true, true, true, true, true, true, false, false, false, false, false, false, false, false, false, false, false] rfl rfl (by kernel_rfl) (fun _ _ _ h => h) (Or.inl ⟨by rfl, ?_⟩) hHeld ?_ ?_
          rotate_left
          · intro w' hS
            obtain ⟨s1, s2⟩ := hS
            go_simp
            with_reducible rfl
          rotate_left
          · simp only [Act.put, List.setIfInBounds_toArray, List.set_cons_zero, List.set_cons_succ, i64_w, i32_w]
            rfl
          refine pure_ (i := 6) (N := some 43) (v := ?_) (a' := ?_) #[true, true, true, true, true, true, true, false, false, false, false, false, false, false, false, false, false] rfl rfl (by kernel_rfl) (fun _ _ _ h => h) (Or.inl ⟨by rfl, ?_⟩) ?_ ?_
          rotate_left
          · intro w'
            go_simp
            with_reducible rfl
          rotate_left
          · simp only [Act.put, List.setIfInBounds_toArray, List.set_cons_zero, List.set_cons_succ, i64_w, i32_w]
            rfl
          refine pure_ (i := 7) (N := some 44) (v := ?_) (a' := ?_) #[true, true, true, true, true, true, true, true, false, false, false, false, false, false, false, false, false] rfl rfl (by kernel_rfl) (fun _ _ _ h => h) (Or.inl ⟨by rfl, ?_⟩) ?_ ?_
          rotate_left
          · intro w'
            go_simp
            with_reducible rfl
          rotate_left
          · simp only [Act.put, List.setIfInBounds_toArray, List.set_cons_zero, List.set_cons_succ, i64_w, i32_w]
            rfl
          refine pure_ (i := 8) (N := some 45) (v := ?_) (a' := ?_) #[true, true, true, true, true, true, true, true, true, false, false, false, false, false, false, false, false] rfl rfl (by kernel_rfl) (fun _ _ _ h => h) (Or.inl ⟨by rfl, ?_⟩) ?_ ?_
          rotate_left
          · intro w'
            go_simp
            with_reducible rfl
          rotate_left
          · simp only [Act.put, List.setIfInBounds_toArray, List.set_cons_zero, List.set_cons_succ, i64_w, i32_w]
            rfl
          rw [HQ.out]
          refine pure_ (i := 9) (N := some 46) (v := ?_) (a' := ?_) #[true, true, true, true, true, true, true, true, true, true, false, false, false, false, false, false, false] rfl rfl (by kernel_rfl) (fun _ _ _ h => h) (Or.inl ⟨by rfl, ?_⟩) ?_ ?_
          rotate_left
          · intro w'
            go_simp
            with_reducible rfl
          rotate_left
          · simp only [Act.put, List.setIfInBounds_toArray, List.set_cons_zero, List.set_cons_succ, i64_w, i32_w]
            rfl
          refine pure_ (i := 10) (N := some 47) (v := ?_) (a' := ?_) #[true, true, true, true, true, true, true, true, true, true, true, false, false, false, false, false, false] rfl rfl (by kernel_rfl) (fun _ _ _ h => h) (Or.inl ⟨by rfl, ?_⟩) ?_ ?_
          rotate_left
          · intro w'
            go_simp
            with_reducible rfl
          rotate_left
          · simp only [Act.put, List.setIfInBounds_toArray, List.set_cons_zero, List.set_cons_succ, i64_w, i32_w]
            rfl
          refine pure_ (i := 11) (N := some 48) (v := ?_) (a' := ?_) #[true, true, true, true, true, true, true, true, true, true, true, true, false, false, false, false, false] rfl rfl (by kernel_rfl) (fun _ _ _ h => h) (Or.inl ⟨by rfl, ?_⟩) ?_ ?_
          rotate_left
          · intro w'
            go_simp
            with_reducible rfl
          rotate_left
          · simp only [Act.put, List.setIfInBounds_toArray, List.set_cons_zero, List.set_cons_succ, i64_w, i32_w]
            rfl
          refine pure_ (i := 12) (N := some 49) (v := ?_) (a' := ?_) #[true, true, true, true, true, true, true, true, true, true, true, true, true, false, false, false, false] rfl rfl (by kernel_rfl) (fun _ _ _ h => h) (Or.inl ⟨by rfl, ?_⟩) ?_ ?_
          rotate_left
          · intro w'
            go_simp
            with_reducible rfl
          rotate_left
          · simp only [Act.put, List.setIfInBounds_toArray, List.set_cons_zero, List.set_cons_succ, i64_w, i32_w]
            rfl
          refine take_ (i := 13) (N := some 50) (v := ?_) (a' := ?_) #[true, true, true, true, true, true, true, true, true, true, true, true, true, true, false, false, false] rfl rfl (by kernel_rfl) (fun _ _ _ h => h) (Or.inl ⟨by rfl, ?_⟩) hHeld ?_ ?_
          rotate_left
          · intro w' hS
            obtain ⟨s1, s2⟩ := hS
            go_simp
            with_reducible rfl
          rotate_left
          · simp only [Act.put, List.setIfInBounds_toArray, List.set_cons_zero, List.set_cons_succ, i64_w, i32_w]
            rfl
          refine one_ (i := 14) (N := some 51) #[true, true, true, true, true, true, true, true, true, true, true, true, true, true, true, false, false] rfl rfl (by kernel_rfl) (by decide) (fun K hK => ?_)
          refine goes_ Try.func11 (by kernel_rfl) rfl #[.int .u8 (x.b.toNat : Int), .int .i64 256] (by rfl) rfl rfl (by (try simp only [List.map_toArray, List.map_cons, List.map_nil]); first | done | rfl) ?_
          refine (HBL.out x.b w7).mono ?_
          rintro e w8 ⟨rfl, hb⟩
          refine ⟨_, rfl, ?_⟩
          have H8 := Lib.hid (H7.out.below hb)
          have HS8 := Lib.hid (And.intro (HCS.out _ H8.out.bel 1 _ rfl) (HCS.out _ H8.out.bel 2 _ rfl))
          clear hb
          refine hK.out _ _ HS8.out (fun hHeld => ?_)
          clear hK K
          refine norm_ (a' := ?_) ?_ ?_
          rotate_left
          · show Act.put _ (some 51) _ = _
            simp only [Act.put, List.setIfInBounds_toArray, List.set_cons_zero, List.set_cons_succ, i64_w, i32_w]
            rfl
          refine last_ (i := 15) (N := some 52) #[true, true, true, true, true, true, true, true, true, true, true, true, true, true, true, true, false] rfl rfl (by kernel_rfl) (by decide) (fun K hK => ?_)
          refine goes_ Try.func13 (by kernel_rfl) rfl #[.pointer (some ⟨p, 0, none⟩), .int .i64 3, .string (rep8 x.b 256)] (by rfl) rfl rfl (by (try simp only [List.map_toArray, List.map_cons, List.map_nil]); first | done | rfl) ?_
          refine (has_write H8.out 3 (rep8 x.b 256) (by have := HLA.out; omega)).mono ?_
          rw [show (d.write 3 (rep8 x.b 256)).1 = _ from (HFU.out.write 3 (by omega) (rep8 x.b 256) (rep8_size _ _)).1]
          rintro e w9 ⟨rfl, h9, _⟩
          refine ⟨_, rfl, ?_⟩
          have H9 := Lib.hid h9
          clear h9
          refine hK.out _ _ ?_
          clear hK K
          refine norm_ (a' := ?_) ?_ ?_
          rotate_left
          · show Act.put _ (some 52) _ = _
            simp only [Act.put, List.setIfInBounds_toArray, List.set_cons_zero, List.set_cons_succ, i64_w, i32_w]
            rfl
          refine pure_ (i := 16) (N := some 10) (v := ?_) (a' := ?_) #[true, true, true, true, true, true, true, true, true, true, true, true, true, true, true, true, true] rfl rfl (by kernel_rfl) (fun _ _ _ h => h) (Or.inl ⟨by rfl, ?_⟩) ?_ ?_
          rotate_left
          · intro w'
            go_simp
            with_reducible rfl
          rotate_left
          · simp only [Act.put, List.setIfInBounds_toArray, List.set_cons_zero, List.set_cons_succ, i64_w, i32_w]
            rfl
          refine done_ (by kernel_rfl) ?_
          have HF9 := Lib.hid (HFU.out.write 3 (by omega) (rep8 x.b 256) (rep8_size _ _)).2
          have HL9 := Lib.hid (show (d.write (3 : Nat) (rep8 x.b 256)).2.late.length ≤ j + 1 by have h := write_late d (3 : Nat) (rep8 x.b 256); have := HLA.out; omega)
          obtain ⟨d9, hd9⟩ : ∃ d9, (d.write 3 (rep8 x.b 256)).2 = d9 := ⟨_, rfl⟩
          have H9' := H9.out
          rw [hd9] at H9'
          have HF9' : Hid (Fused n.toNat (j + 1) d9) := by have h := HF9.out; rw [show (d.write (3 : Nat) (rep8 x.b 256)).2 = d9 from hd9] at h; exact h
          have HL9' : Hid (d9.late.length ≤ j + 1) := by have h := HL9.out; rw [show (d.write (3 : Nat) (rep8 x.b 256)).2 = d9 from hd9] at h; exact h
          clear H9 HF9 HL9 hd9
          have H9 := Lib.hid H9'
          have HF9 := HF9'
          have HL9 := HL9'
          clear H9' HF9' HL9'
          have hlt : n.toNat < j ∨ n.toNat = j ∨ j < n.toNat := by omega
          have HDD := Lib.hid HF9.out.dead
          by_cases hjn : j < n.toNat
          · rw [show ans n.toNat j = 0 from if_pos hjn]
            rw [decide_eq_false (by omega)] at HDD
            clear hlt
            go_wp2_with (go_at_call 18; refine (has_dead H9.out).mono ?_; rw [HDD.out]; rintro e w9 ⟨rfl, rfl⟩)
            go_roundg (200 - (j + 1))
            case measure => omega
            case rel => exact ⟨j + 1, dn + 1, d9, by go_num, by go_num, by omega, by omega, by omega, by omega, by have := HD3.out; omega, by have := HD3.out; omega, H9, HF9, HL9⟩
          · rw [show ans n.toNat j = 5 from if_neg hjn]
            rw [decide_eq_true (by omega)] at HDD
            clear hlt
            have hjn' : n.toNat ≤ j := by omega
            clear hjn
            go_wp2_with (go_at_call 18; refine (has_dead H9.out).mono ?_; rw [HDD.out]; rintro e w9 ⟨rfl, rfl⟩)
            go_roundg (200 - (j + 1))
            case measure => omega
            case rel => exact ⟨j + 1, dn, d9, by go_num, by first | rfl | go_num, by omega, by omega, by omega, by omega, by omega, by omega, H9, HF9, HL9⟩
    · obtain ⟨dz, hdz⟩ : ∃ dz : Nat, dz = j := ⟨_, rfl⟩
      have HLN := Lib.hid (show d.late.length ≤ 1000000 by have := HLA.out; omega)
      have hc' : ¬ j < l.length ∨ (j < l.length ∧ ¬ j < 200) := by omega
      clear hc2
      rcases hc' with he | ⟨he, he2⟩
      all_goals
        go_wp2_with fail
        refine (has_crash H7.out keep hk0 hk1 HLN.out).mono ?_
        rintro e w8 ⟨rfl, h8, _⟩
        have H8 := Lib.hid h8
        clear h8 H7
        go_wp2_with fail
        refine (alive_calls w8).mono ?_
        rintro e w9 ⟨rfl, hb⟩
        have H9 := Lib.hid (H8.out.below hb)
        clear hb H8
        go_wp2_with fail
        refine (has_dead H9.out).mono ?_
        rw [show (d.crash keep).dead = false from rfl]
        rintro e w9 ⟨rfl, rfl⟩
        go_wp2_with fail
        refine (has_barrier H9.out).mono ?_
        rw [crash_barrier]
        rintro e w10 ⟨rfl, h10, _⟩
        go_wp2
        go_ret
        exact ⟨rfl, h10.bel⟩
end Go.Proofs.Ytmphnfkohilojaa.Dev
namespace Go.Proofs.Ytmphnfkohilojaa.deviceFuse
open Go.RowKit Go.Sees
set_option linter.unusedVariables false
theorem deviceFuse_walk (a0 : Int) (a1 : Option Addr) (len1 cap1 : Nat) (a2 : Int) (w : World) (w0 : (Lit.int .u8 a0).wf = true) (w1 : Sees Try.prog w 140737488351232 5 22 [.slice a1 len1 cap1]) (w2 : (Lit.int .u64 a2).wf = true) :
    Calls Try.prog 5 #[.int .u8 a0, .slice a1 len1 cap1, .int .u64 a2] w fun e w' => e = .returned (.bool true) ∧ Below w.heap.size w w' := by
  obtain ⟨l, rfl, _, h1, _, hA, hO⟩ := Dev.sees_acts (k := 2) w1
  have b0 := bounds_u8 w0
  have b2 := bounds_u64 w2
  have e : (((UInt8.ofNat a0.toNat).toNat : Nat) : Int) = a0 := by rw [UInt8.toNat_ofNat']; omega
  have h := Dev.fuse_law a1 cap1 (UInt8.ofNat a0.toNat) l a2 b2.1 (by omega) w hA hO h1
  rwa [e] at h
end Go.Proofs.Ytmphnfkohilojaa.deviceFuse
