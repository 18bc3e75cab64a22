/- Layer device: an act of the laws upon the document's device, walked. -/
import Derived.Test.YtmphnfkohilojaaDevRef4
namespace Go.Proofs.Ytmphnfkohilojaa.Dev
open Go.RowKit Go.Own Go.DevL Go.Blk Go.Proofs.YtmphnfkohilojaaW.PrintLast Go.Proofs.YtmphnfkohilojaaW.PrintWords
set_option linter.unusedVariables false
set_option linter.unusedSimpArgs false
variable {F : Nat → Prop} {w w' : World} {p : Nat} {d : Dv}
set_option maxHeartbeats 4000000 in
theorem model_calls (h : RDev F w p d) (x : SAct) (hx : x.OK) (hl : d.late.length ≤ 1000000) :
    Calls Try.prog 23 #[.pointer (some ⟨p, 0, none⟩), .agg #[.int .i64 x.k, .int .i64 x.at_, .int .u8 (x.b.toNat : Int), .int .u64 x.keep]] w fun e w' => e = .returned (.int .i64 (d.act x).1) ∧ RDev (Up F w w') w' p (d.act x).2 ∧ Fr F w w' := by
  have HD := Lib.hid h
  have HL := Lib.hid hl
  have HX := Lib.hid hx
  have HFL := Lib.hid h.lt
  have HD1 := Lib.hid (h.below ((Below.refl w.heap.size w).alloc (Nat.le_refl _) (.cells #[.int .i64 x.k, .int .i64 x.at_, .int .u8 (x.b.toNat : Int), .int .u64 x.keep] 30)))
  have HR1 := Lib.hid (Fr.alloc F w (.cells #[.int .i64 x.k, .int .i64 x.at_, .int .u8 (x.b.toNat : Int), .int .u64 x.keep] 30))
  have HB1 := Lib.hid (alloc_at w (.cells #[.int .i64 x.k, .int .i64 x.at_, .int .u8 (x.b.toNat : Int), .int .u64 x.keep] 30))
  obtain ⟨k1, k2⟩ := HX.out.1
  clear h hl hx
  go_enter Try.func23, Try.ntmps23
  have h5 := Int.tmod_lt_of_pos x.k (show (0 : Int) < 5 by decide)
  have h6 := Int.lt_tmod_of_pos x.k (show (0 : Int) < 5 by decide)
  have hc : x.k.tmod 5 = 0 ∨ x.k.tmod 5 = 1 ∨ x.k.tmod 5 = 2 ∨ x.k.tmod 5 = 3 ∨ x.k.tmod 5 = 4 ∨ (x.k.tmod 5 < 0) := by omega
  rcases hc with hc | hc | hc | hc | hc | hc
  · rw [show d.act x = d.write x.at_ (rep8 x.b 256) by unfold Dv.act; rw [if_pos hc]]
    clear h5 h6
    go_wp2
    obtain ⟨B, hB⟩ : ∃ B, w.heap.size = B := ⟨_, rfl⟩
    rw [hB] at HB1 ⊢
    clear hB
    generalize w.alloc (.cells #[.int .i64 x.k, .int .i64 x.at_, .int .u8 (x.b.toNat : Int), .int .u64 x.keep] 30) = w1 at HD1 HR1 HB1 ⊢
    refine start_ (n := 8) (S := fun w' => w'.heap[B]? = some (.cells #[.int .i64 x.k, .int .i64 x.at_, .int .u8 (x.b.toNat : Int), .int .u64 x.keep] 30 (0, 0))) (ds := [6]) #[false, false, false, false, false, false, false, false] (by kernel_rfl) rfl rfl (HB1.out) (fun hHeld => ?_)
    have HD2 := Lib.hid HD1.out.drew
    have HR2 := Lib.hid (HR1.out.trans (Fr.drew F w1) (fun _ _ h => h))
    have HB2 := Lib.hid (show w1.drew.heap[B]? = _ from HB1.out)
    generalize w1.drew = w2 at HD2 HR2 HB2 hHeld ⊢
    clear HD1 HR1 HB1
    refine pure_ (i := 0) (N := some 10) (v := ?_) (a' := ?_) #[true, false, false, false, false, false, false, false] rfl rfl (by kernel_rfl) (fun _ _ _ h => h) (Or.inl ⟨by rfl, ?_⟩) ?_ ?_
    rotate_left
    · intro w'
      go_simp
      with_reducible rfl
    rotate_left
    · simp only [Act.put, List.setIfInBounds_toArray, List.set_cons_zero, List.set_cons_succ, i64_w, i32_w]
      rfl
    refine pure_ (i := 1) (N := some 11) (v := ?_) (a' := ?_) #[true, true, false, false, false, false, false, false] rfl rfl (by kernel_rfl) (fun _ _ _ h => h) (Or.inl ⟨by rfl, ?_⟩) ?_ ?_
    rotate_left
    · intro w'
      go_simp
      with_reducible rfl
    rotate_left
    · simp only [Act.put, List.setIfInBounds_toArray, List.set_cons_zero, List.set_cons_succ, i64_w, i32_w]
      rfl
    refine take_ (i := 2) (N := some 12) (v := ?_) (a' := ?_) #[true, true, true, false, false, false, false, false] rfl rfl (by kernel_rfl) (fun _ _ _ h => h) (Or.inl ⟨by rfl, ?_⟩) hHeld ?_ ?_
    rotate_left
    · intro w' hS
      have s5 := blk4 hS
      obtain ⟨z0, _, z1, _, z2, _, z3, _⟩ := s5
      go_simp
      with_reducible rfl
    rotate_left
    · simp only [Act.put, List.setIfInBounds_toArray, List.set_cons_zero, List.set_cons_succ, i64_w, i32_w]
      rfl
    refine pure_ (i := 3) (N := some 13) (v := ?_) (a' := ?_) #[true, true, true, true, false, false, false, false] rfl rfl (by kernel_rfl) (fun _ _ _ h => h) (Or.inl ⟨by rfl, ?_⟩) ?_ ?_
    rotate_left
    · intro w'
      go_simp
      with_reducible rfl
    rotate_left
    · simp only [Act.put, List.setIfInBounds_toArray, List.set_cons_zero, List.set_cons_succ, i64_w, i32_w]
      rfl
    refine take_ (i := 4) (N := some 14) (v := ?_) (a' := ?_) #[true, true, true, true, true, false, false, false] rfl rfl (by kernel_rfl) (fun _ _ _ h => h) (Or.inl ⟨by rfl, ?_⟩) hHeld ?_ ?_
    rotate_left
    · intro w' hS
      have s5 := blk4 hS
      obtain ⟨z0, _, z1, _, z2, _, z3, _⟩ := s5
      go_simp
      with_reducible rfl
    rotate_left
    · simp only [Act.put, List.setIfInBounds_toArray, List.set_cons_zero, List.set_cons_succ, i64_w, i32_w]
      rfl
    refine one_ (i := 5) (N := some 15) #[true, true, true, true, true, true, false, false] rfl rfl (by kernel_rfl) (by decide) (fun K hK => ?_)
    refine goes_ Try.func11 (by kernel_rfl) rfl #[.int .u8 (x.b.toNat : Int), .int .i64 ((256 : Nat) : Int)] (by rfl) rfl rfl (by (try simp only [List.map_toArray, List.map_cons, List.map_nil]); first | done | rfl) ?_
    refine (block_any x.b (256) (by first | omega | decide) w2).mono ?_
    rintro e w3 ⟨rfl, hb⟩
    refine ⟨_, rfl, ?_⟩
    have HD3 := Lib.hid (HD2.out.below hb)
    have HR3 := Lib.hid (HR2.out.trans (Fr.of_below (F := F) hb) (fun _ _ h => h))
    have HB3 := Lib.hid (below_old HB2.out hb)
    clear hb
    refine hK.out _ _ HB3.out (fun hHeld => ?_)
    clear hK K
    refine norm_ (a' := ?_) ?_ ?_
    rotate_left
    · show Act.put _ (some 15) _ = _
      simp only [Act.put, List.setIfInBounds_toArray, List.set_cons_zero, List.set_cons_succ, i64_w, i32_w]
      rfl
    refine last_ (i := 6) (N := some 16) #[true, true, true, true, true, true, true, false] rfl rfl (by kernel_rfl) (by decide) (fun K hK => ?_)
    refine goes_ Try.func28 (by kernel_rfl) rfl #[.pointer (some ⟨p, 0, none⟩), .int .i64 x.at_, .string (rep8 x.b (256))] (by rfl) rfl rfl (by (try simp only [List.map_toArray, List.map_cons, List.map_nil]); first | done | rfl) ?_
    refine (rwrite_any HD3.out x.at_ (rep8 x.b (256)) HL.out).mono ?_
    rintro e w4 ⟨rfl, hd, hr⟩
    refine ⟨_, rfl, ?_⟩
    have HD4 := Lib.hid hd
    have HR4 := Lib.hid (HR3.out.trans hr (fun _ _ h => h))
    have HUP := Lib.hid (up_up HR3.out.size hd.lt)
    clear hd hr
    refine hK.out _ _ ?_
    clear hK K
    refine norm_ (a' := ?_) ?_ ?_
    rotate_left
    · show Act.put _ (some 16) _ = _
      simp only [Act.put, List.setIfInBounds_toArray, List.set_cons_zero, List.set_cons_succ, i64_w, i32_w]
      rfl
    refine pure_ (i := 7) (N := some 4) (v := ?_) (a' := ?_) #[true, true, true, true, true, true, true, true] rfl rfl (by kernel_rfl) (fun _ _ _ h => h) (Or.inl ⟨by rfl, ?_⟩) ?_ ?_
    rotate_left
    · intro w'
      go_simp
      with_reducible rfl
    rotate_left
    · simp only [Act.put, List.setIfInBounds_toArray, List.set_cons_zero, List.set_cons_succ, i64_w, i32_w]
      rfl
    refine done_ (by kernel_rfl) ?_
    go_wp2
    go_ret
    exact ⟨rfl, HD4.out.mono HUP.out (up_lt HFL.out HR4.out.size), HR4.out⟩
  · rw [show d.act x = d.barrier by unfold Dv.act; rw [if_neg (by omega), if_pos hc]]
    clear h5 h6
    go_wp2_with (go_at_call 29; refine (rbarrier_any HD1.out HL.out).mono ?_; rintro e w2 ⟨rfl, hd, hr⟩; have HD2 := Lib.hid hd; have HR2 := Lib.hid (HR1.out.trans hr (fun _ _ h => h)); have HUP := Lib.hid (up_up HR1.out.size hd.lt); clear hd hr)
    go_ret
    exact ⟨rfl, HD2.out.mono HUP.out (up_lt HFL.out HR2.out.size), HR2.out⟩
  · rw [show d.act x = (0, d.light x.at_) by unfold Dv.act; rw [if_neg (by omega), if_neg (by omega), if_pos hc]]
    clear h5 h6
    go_wp2_with (go_at_call 30; refine (rlight_any HD1.out x.at_ HX.out.2.1.1 HX.out.2.1.2).mono ?_; rintro e w2 ⟨rfl, hd, hr⟩; have HD2 := Lib.hid hd; have HR2 := Lib.hid (HR1.out.trans hr (fun _ _ h => h)); have HUP := Lib.hid (up_up HR1.out.size hd.lt); clear hd hr)
    go_ret
    exact ⟨rfl, HD2.out.mono HUP.out (up_lt HFL.out HR2.out.size), HR2.out⟩
  · rw [show d.act x = (0, d.crash x.keep) by unfold Dv.act; rw [if_neg (by omega), if_neg (by omega), if_neg (by omega), if_pos hc]]
    clear h5 h6
    go_wp2_with (go_at_call 31; refine (rcrash_any HD1.out x.keep HX.out.2.2.1 HX.out.2.2.2 HL.out).mono ?_; rintro e w2 ⟨rfl, hd, hr⟩; have HD2 := Lib.hid hd; have HR2 := Lib.hid (HR1.out.trans hr (fun _ _ h => h)); have HUP := Lib.hid (up_up HR1.out.size hd.lt); clear hd hr)
    go_ret
    exact ⟨rfl, HD2.out.mono HUP.out (up_lt HFL.out HR2.out.size), HR2.out⟩
  · rw [show d.act x = d.write x.at_ (rep8 x.b (x.b.toNat % 128)) by unfold Dv.act; rw [if_neg (by omega), if_neg (by omega), if_neg (by omega), if_neg (by omega), if_pos hc]]
    clear h5 h6
    go_wp2
    obtain ⟨B, hB⟩ : ∃ B, w.heap.size = B := ⟨_, rfl⟩
    rw [hB] at HB1 ⊢
    clear hB
    generalize w.alloc (.cells #[.int .i64 x.k, .int .i64 x.at_, .int .u8 (x.b.toNat : Int), .int .u64 x.keep] 30) = w1 at HD1 HR1 HB1 ⊢
    have hb1 : (x.b.toNat : Int) < 256 := by have := x.b.toNat_lt; omega
    have HI8 := Lib.hid (show IntKind.i64.wrap (x.b.toNat : Int) = x.b.toNat by rw [IntKind.wrap_i64]; omega)
    have HI9 := Lib.hid (show (x.b.toNat : Int) % 128 = ((x.b.toNat % 128 : Nat) : Int) by omega)
    refine start_ (n := 12) (S := fun w' => w'.heap[B]? = some (.cells #[.int .i64 x.k, .int .i64 x.at_, .int .u8 (x.b.toNat : Int), .int .u64 x.keep] 30 (0, 0))) (ds := [10]) #[false, false, false, false, false, false, false, false, false, false, false, false] (by kernel_rfl) rfl rfl (HB1.out) (fun hHeld => ?_)
    have HD2 := Lib.hid HD1.out.drew
    have HR2 := Lib.hid (HR1.out.trans (Fr.drew F w1) (fun _ _ h => h))
    have HB2 := Lib.hid (show w1.drew.heap[B]? = _ from HB1.out)
    generalize w1.drew = w2 at HD2 HR2 HB2 hHeld ⊢
    clear HD1 HR1 HB1
    refine pure_ (i := 0) (N := some 35) (v := ?_) (a' := ?_) #[true, false, false, false, false, false, false, false, false, false, false, false] rfl rfl (by kernel_rfl) (fun _ _ _ h => h) (Or.inl ⟨by rfl, ?_⟩) ?_ ?_
    rotate_left
    · intro w'
      go_simp
      with_reducible rfl
    rotate_left
    · simp only [Act.put, List.setIfInBounds_toArray, List.set_cons_zero, List.set_cons_succ, i64_w, i32_w]
      rfl
    refine pure_ (i := 1) (N := some 36) (v := ?_) (a' := ?_) #[true, true, false, false, false, false, false, false, false, false, false, false] rfl rfl (by kernel_rfl) (fun _ _ _ h => h) (Or.inl ⟨by rfl, ?_⟩) ?_ ?_
    rotate_left
    · intro w'
      go_simp
      with_reducible rfl
    rotate_left
    · simp only [Act.put, List.setIfInBounds_toArray, List.set_cons_zero, List.set_cons_succ, i64_w, i32_w]
      rfl
    refine take_ (i := 2) (N := some 37) (v := ?_) (a' := ?_) #[true, true, true, false, false, false, false, false, false, false, false, false] rfl rfl (by kernel_rfl) (fun _ _ _ h => h) (Or.inl ⟨by rfl, ?_⟩) hHeld ?_ ?_
    rotate_left
    · intro w' hS
      have s5 := blk4 hS
      obtain ⟨z0, _, z1, _, z2, _, z3, _⟩ := s5
      go_simp
      with_reducible rfl
    rotate_left
    · simp only [Act.put, List.setIfInBounds_toArray, List.set_cons_zero, List.set_cons_succ, i64_w, i32_w]
      rfl
    refine pure_ (i := 3) (N := some 38) (v := ?_) (a' := ?_) #[true, true, true, true, false, false, false, false, false, false, false, false] rfl rfl (by kernel_rfl) (fun _ _ _ h => h) (Or.inl ⟨by rfl, ?_⟩) ?_ ?_
    rotate_left
    · intro w'
      go_simp
      with_reducible rfl
    rotate_left
    · simp only [Act.put, List.setIfInBounds_toArray, List.set_cons_zero, List.set_cons_succ, i64_w, i32_w]
      rfl
    refine take_ (i := 4) (N := some 39) (v := ?_) (a' := ?_) #[true, true, true, true, true, false, false, false, false, false, false, false] rfl rfl (by kernel_rfl) (fun _ _ _ h => h) (Or.inl ⟨by rfl, ?_⟩) hHeld ?_ ?_
    rotate_left
    · intro w' hS
      have s5 := blk4 hS
      obtain ⟨z0, _, z1, _, z2, _, z3, _⟩ := s5
      go_simp
      with_reducible rfl
    rotate_left
    · simp only [Act.put, List.setIfInBounds_toArray, List.set_cons_zero, List.set_cons_succ, i64_w, i32_w]
      rfl
    refine pure_ (i := 5) (N := some 40) (v := ?_) (a' := ?_) #[true, true, true, true, true, true, false, false, false, false, false, false] rfl rfl (by kernel_rfl) (fun _ _ _ h => h) (Or.inl ⟨by rfl, ?_⟩) ?_ ?_
    rotate_left
    · intro w'
      go_simp
      with_reducible rfl
    rotate_left
    · simp only [Act.put, List.setIfInBounds_toArray, List.set_cons_zero, List.set_cons_succ, i64_w, i32_w]
      rfl
    refine take_ (i := 6) (N := some 41) (v := ?_) (a' := ?_) #[true, true, true, true, true, true, true, false, false, false, false, false] rfl rfl (by kernel_rfl) (fun _ _ _ h => h) (Or.inl ⟨by rfl, ?_⟩) hHeld ?_ ?_
    rotate_left
    · intro w' hS
      have s5 := blk4 hS
      obtain ⟨z0, _, z1, _, z2, _, z3, _⟩ := s5
      go_simp
      with_reducible rfl
    rotate_left
    · simp only [Act.put, List.setIfInBounds_toArray, List.set_cons_zero, List.set_cons_succ, i64_w, i32_w]
      rfl
    refine pure_ (i := 7) (N := some 42) (v := ?_) (a' := ?_) #[true, true, true, true, true, true, true, true, false, false, false, false] rfl rfl (by kernel_rfl) (fun _ _ _ h => h) (Or.inl ⟨by rfl, ?_⟩) ?_ ?_
    rotate_left
    · intro w'
      have i8 := HI8.out
      go_simp
      with_reducible rfl
    rotate_left
    · simp only [Act.put, List.setIfInBounds_toArray, List.set_cons_zero, List.set_cons_succ, i64_w, i32_w]
      rfl
    refine pure_ (i := 8) (N := some 43) (v := ?_) (a' := ?_) #[true, true, true, true, true, true, true, true, true, false, false, false] rfl rfl (by kernel_rfl) (fun _ _ _ h => h) (Or.inl ⟨by rfl, ?_⟩) ?_ ?_
    rotate_left
    · intro w'
      have i9 := HI9.out
      go_simp
      with_reducible rfl
    rotate_left
    · simp only [Act.put, List.setIfInBounds_toArray, List.set_cons_zero, List.set_cons_succ, i64_w, i32_w]
      rfl
    refine one_ (i := 9) (N := some 44) #[true, true, true, true, true, true, true, true, true, true, false, false] rfl rfl (by kernel_rfl) (by decide) (fun K hK => ?_)
    refine goes_ Try.func11 (by kernel_rfl) rfl #[.int .u8 (x.b.toNat : Int), .int .i64 ((x.b.toNat % 128 : Nat) : Int)] (by rfl) rfl rfl (by (try simp only [List.map_toArray, List.map_cons, List.map_nil]); first | done | rfl) ?_
    refine (block_any x.b (x.b.toNat % 128) (by first | omega | decide) w2).mono ?_
    rintro e w3 ⟨rfl, hb⟩
    refine ⟨_, rfl, ?_⟩
    have HD3 := Lib.hid (HD2.out.below hb)
    have HR3 := Lib.hid (HR2.out.trans (Fr.of_below (F := F) hb) (fun _ _ h => h))
    have HB3 := Lib.hid (below_old HB2.out hb)
    clear hb
    refine hK.out _ _ HB3.out (fun hHeld => ?_)
    clear hK K
    refine norm_ (a' := ?_) ?_ ?_
    rotate_left
    · show Act.put _ (some 44) _ = _
      simp only [Act.put, List.setIfInBounds_toArray, List.set_cons_zero, List.set_cons_succ, i64_w, i32_w]
      rfl
    refine last_ (i := 10) (N := some 45) #[true, true, true, true, true, true, true, true, true, true, true, false] rfl rfl (by kernel_rfl) (by decide) (fun K hK => ?_)
    refine goes_ Try.func28 (by kernel_rfl) rfl #[.pointer (some ⟨p, 0, none⟩), .int .i64 x.at_, .string (rep8 x.b (x.b.toNat % 128))] (by rfl) rfl rfl (by (try simp only [List.map_toArray, List.map_cons, List.map_nil]); first | done | rfl) ?_
    refine (rwrite_any HD3.out x.at_ (rep8 x.b (x.b.toNat % 128)) HL.out).mono ?_
    rintro e w4 ⟨rfl, hd, hr⟩
    refine ⟨_, rfl, ?_⟩
    have HD4 := Lib.hid hd
    have HR4 := Lib.hid (HR3.out.trans hr (fun _ _ h => h))
    have HUP := Lib.hid (up_up HR3.out.size hd.lt)
    clear hd hr
    refine hK.out _ _ ?_
    clear hK K
    refine norm_ (a' := ?_) ?_ ?_
    rotate_left
    · show Act.put _ (some 45) _ = _
      simp only [Act.put, List.setIfInBounds_toArray, List.set_cons_zero, List.set_cons_succ, i64_w, i32_w]
      rfl
    refine pure_ (i := 11) (N := some 4) (v := ?_) (a' := ?_) #[true, true, true, true, true, true, true, true, true, true, true, true] rfl rfl (by kernel_rfl) (fun _ _ _ h => h) (Or.inl ⟨by rfl, ?_⟩) ?_ ?_
    rotate_left
    · intro w'
      go_simp
      with_reducible rfl
    rotate_left
    · simp only [Act.put, List.setIfInBounds_toArray, List.set_cons_zero, List.set_cons_succ, i64_w, i32_w]
      rfl
    refine done_ (by kernel_rfl) ?_
    go_wp2
    go_ret
    exact ⟨rfl, HD4.out.mono HUP.out (up_lt HFL.out HR4.out.size), HR4.out⟩
  · rw [show d.act x = (0, d) by unfold Dv.act; rw [if_neg (by omega), if_neg (by omega), if_neg (by omega), if_neg (by omega), if_neg (by omega)]]
    have n0 : (x.k.tmod 5 == 0) = false := by rw [beq_eq_false_iff_ne]; omega
    have n1 : (x.k.tmod 5 == 1) = false := by rw [beq_eq_false_iff_ne]; omega
    have n2 : (x.k.tmod 5 == 2) = false := by rw [beq_eq_false_iff_ne]; omega
    have n3 : (x.k.tmod 5 == 3) = false := by rw [beq_eq_false_iff_ne]; omega
    have n4 : (x.k.tmod 5 == 4) = false := by rw [beq_eq_false_iff_ne]; omega
    clear h5 h6 hc
    go_wp2
    go_ret
    exact ⟨rfl, HD1.out.mono (fun _ => .inl) (up_lt HFL.out HR1.out.size), HR1.out⟩
end Go.Proofs.Ytmphnfkohilojaa.Dev
