/- Layer device: writing. -/
import Derived.Test.YtmphnfkohilojaaDevOps
namespace Go.Proofs.Ytmphnfkohilojaa.Dev
open Go.RowKit Go.Own Go.DevL Go.Blk Go.Proofs.YtmphnfkohilojaaW.PrintLast Go.Proofs.YtmphnfkohilojaaW.PrintWords
set_option linter.unusedVariables false
set_option linter.unusedSimpArgs false
variable {F : Nat → Prop} {w w' : World} {p gf gn : Nat} {vl : Value} {d : Dv}
set_option maxHeartbeats 1000000 in
theorem write_bad (h : At F w p gf gn vl d) (i : Int) (b : ByteArray) (hb : (d.bad i || b.size != 256) = true) : Calls Try.prog 13 #[.pointer (some ⟨p, 0, none⟩), .int .i64 i, .string b] w fun e w' => e = .returned (.int .i64 1) ∧ w = w' := by
  have hx := blk5 h.hp
  have H := Lib.hid h
  have hn2 := H.out.ok.n2
  clear h
  obtain ⟨x0, y0, x1, y1, x2, y2, x3, y3, x4, y4⟩ := hx
  have HB := Lib.hid hb
  clear hb
  go_enter Try.func13, Try.ntmps13
  by_cases h0 : i < 0
  · go_wp2
    go_ret
    exact ⟨rfl, rfl⟩
  · by_cases h1 : (d.firm.length : Int) ≤ i
    · go_wp2
      go_ret
      exact ⟨rfl, rfl⟩
    · have h2 : b.size ≠ 256 := by
        have := HB.out
        simp only [Dv.bad, Bool.or_eq_true, decide_eq_true_eq, bne_iff_ne, ne_eq] at this
        omega
      go_wp2
      go_ret
      exact ⟨rfl, rfl⟩
set_option maxHeartbeats 1000000 in
theorem write_dies (h : At F w p gf gn vl d) (i : Nat) (hi : i < d.firm.length) (b : ByteArray) (hs : b.size = 256) (hb : d.burns = true) : Calls Try.prog 13 #[.pointer (some ⟨p, 0, none⟩), .int .i64 i, .string b] w fun e w' => e = .returned (.int .i64 5) ∧ At F w' p gf gn vl d.die ∧ Fr F w w' := by
  have hx := blk5 h.hp
  have hn2 := h.ok.n2
  have HBU := Lib.hid (burn_yes h hb)
  clear h hb
  obtain ⟨x0, y0, x1, y1, x2, y2, x3, y3, x4, y4⟩ := hx
  go_enter Try.func13, Try.ntmps13
  go_wp2_with (go_at_call 26; refine HBU.out.mono ?_; rintro e w1 ⟨rfl, h1, h2⟩; have H1 := Lib.hid h1; have H2 := Lib.hid h2; clear h1 h2 x0 y0 x1 y1 x2 y2 x3 y3 x4 y4)
  go_ret
  exact ⟨rfl, H1.out, H2.out⟩
set_option maxHeartbeats 4000000 in
theorem write_goes (h : At F w p gf gn vl d) (i : Nat) (hi : i < d.firm.length) (b : ByteArray) (hs : b.size = 256) (hb : d.burns = false) (hl : d.late.length ≤ 1000000) :
    Calls Try.prog 13 #[.pointer (some ⟨p, 0, none⟩), .int .i64 i, .string b] w fun e w' => e = .returned (.int .i64 0) ∧ (∃ vl', At (fun k => F k ∨ (w.heap.size ≤ k ∧ k < w'.heap.size)) w' p gf gn vl' { d with late := d.late ++ [(i, b)], fuse := less d.fuse }) ∧ Fr F w w' := by
  have hx := blk5 h.hp
  have hn2 := h.ok.n2
  have HBU := Lib.hid (burn_no h hb)
  have HL := Lib.hid hl
  have HS := Lib.hid hs
  have HI := Lib.hid hi
  clear h hb hl
  obtain ⟨x0, y0, x1, y1, x2, y2, x3, y3, x4, y4⟩ := hx
  go_enter Try.func13, Try.ntmps13
  go_wp2_with (first | (go_at_call 26; refine HBU.out.mono ?_; rintro e w1 ⟨rfl, h1, h2⟩; have H1 := Lib.hid h1; have H2 := Lib.hid h2; clear h1 h2 x0 y0 x1 y1 x2 y2 x3 y3 x4 y4) | ((with_reducible refine gate_dst (N := 33) rfl ?_); refine wpList_val rfl rfl (execOp_build (ps := #[(0, .int .i64 (i : Int))]) rfl rfl (run_build_w _ _)) ?_) | ((with_reducible refine gate_dst (N := 8) rfl ?_); refine wpList_val rfl rfl (execOp_alloc rfl (run_alloc_w _)) ?_; refine stop_here ?_))
  refine Lib.hid ?_
  have HZ := run_storeAt_row (P := Try.prog) (w1.alloc (.cells (zw 0).toArray 68)) w1.heap.size 0 68 (zw 0) 68 (zw i).toArray (alloc_at w1 _) (by rw [List.size_toArray, zw_length, zw_length]; omega) (by rw [List.size_toArray, zw_length]; exact (info_parts info_w).elim fun i h => by rw [h.1]; exact congrArg some h.2.2.1) (zw_one _)
  refine wpList_none rfl rfl (execOp_store rfl rfl rfl HZ) ?_
  clear HZ
  rw [List.toList_toArray, over_all (by rw [zw_length, zw_length]; omega)]
  obtain ⟨G, hG⟩ : ∃ G, w1.heap.size = G := ⟨_, rfl⟩
  rw [hG]
  have HB2 : Hid (Below w1.heap.size w1 ((w1.alloc (.cells (zw 0).toArray 68)).setRow G (zw i).toArray)) := below_setRow ((Below.refl _ _).alloc (Nat.le_refl _) _) (by omega) _
  have BG2 : Hid (((w1.alloc (.cells (zw 0).toArray 68)).setRow G (zw i).toArray).heap[G]? = some (.cells (zw i).toArray 68 (0, 0))) := setRow_heap _ G _ _ _ _ (by rw [← hG]; exact alloc_at w1 _)
  generalize (w1.alloc (.cells (zw 0).toArray 68)).setRow G (zw i).toArray = w2 at HB2 BG2 ⊢
  have HFG : Hid (¬ F G) := fun hf => by have := H1.out.lt _ hf; omega
  have HWG : Hid (w.heap.size ≤ G) := by have := H2.out.size; rw [← hG]; exact this
  have HA2 := Lib.hid (H1.out.below HB2.out)
  have HF2 := Lib.hid (H2.out.trans (Fr.of_below (F := F) HB2.out) (fun _ _ h => h))
  clear H1 H2 HB2 hG
  have HCP := Lib.run_copy_row_string (P := Try.prog) w2 64 9 3 5 G 1 256 256 b (zw i).toArray 68 Try.underlying64 info_u8 BG2.out (by omega) (by rw [List.size_toArray, zw_length]; omega)
  rw [over_zw i b hs] at HCP
  have HCPH := Lib.hid HCP
  clear HCP
  go_wp2_with ((with_reducible refine gate_dst (N := 37) rfl ?_); refine wpList_val rfl rfl (execOp_copy rfl rfl rfl HCPH.out) ?_; refine stop_here ?_)
  refine Lib.hid ?_
  have HA3 := Lib.hid (HA2.out.keep (Fr.setRow (F := fun k => k = G) w2 (g := G) rfl (wcells (i, b)).toArray) (fun k hk e => HFG.out (e ▸ hk)))
  have HF3 := Lib.hid (HF2.out.trans (Fr.setRow (F := fun k => k = G) w2 (g := G) rfl (wcells (i, b)).toArray) (fun k hk e => by have := HWG.out; omega))
  have BG3 := Lib.hid (setRow_heap w2 G _ (wcells (i, b)).toArray _ _ BG2.out)
  generalize w2.setRow G (wcells (i, b)).toArray = w3 at HA3 HF3 BG3 ⊢
  clear HCPH HA2 HF2 BG2
  have hxa := blk5 HA3.out.hp
  clear hs
  go_wp2
  have HV := Lib.hid (row_form HA3.out.hl)
  have HB3 := Lib.hid HA3.out.hl
  have HW := Lib.hid (wcells_length (x := (i, b)) HS.out)
  clear hxa
  refine start_ (n := 11) (S := fun w' => w'.heap[p]? = some (.cells #[.slice (some ⟨gf, 0, none⟩) d.firm.length d.firm.length, .slice (some ⟨gn, 0, none⟩) d.firm.length d.firm.length, vl, .int .i64 (less d.fuse), .bool d.dead] 63 (0, 0)) ∧ w'.heap[G]? = some (.cells (wcells (i, b)).toArray 68 (0, 0))) (ds := [10]) #[false, false, false, false, false, false, false, false, false, false, false] (by kernel_rfl) rfl rfl (⟨HA3.out.hp, BG3.out⟩) (fun hHeld => ?_)
  have HA4 := Lib.hid HA3.out.drew
  have HF4 := Lib.hid (HF3.out.trans (Fr.drew F w3) (fun _ _ h => h))
  have BG4 := Lib.hid (show w3.drew.heap[G]? = _ from BG3.out)
  generalize w3.drew = w4 at HA4 HF4 BG4 hHeld ⊢
  clear HA3 HF3 BG3 HB3
  refine pure_ (i := 0) (N := some 38) (v := ?_) (a' := ?_) #[true, false, false, false, false, false, false, false, false, false, false] rfl rfl (by kernel_rfl) (fun _ _ _ h => h) (Or.inl ⟨by rfl, ?_⟩) ?_ ?_
  rotate_left
  · intro w'
    go_simp
    with_reducible rfl
  rotate_left
  · simp only [Act.put, List.setIfInBounds_toArray, List.set_cons_zero, List.set_cons_succ, i64_w, i32_w]
    rfl
  refine pure_ (i := 1) (N := some 39) (v := ?_) (a' := ?_) #[true, true, false, false, false, false, false, false, false, false, false] rfl rfl (by kernel_rfl) (fun _ _ _ h => h) (Or.inl ⟨by rfl, ?_⟩) ?_ ?_
  rotate_left
  · intro w'
    go_simp
    with_reducible rfl
  rotate_left
  · simp only [Act.put, List.setIfInBounds_toArray, List.set_cons_zero, List.set_cons_succ, i64_w, i32_w]
    rfl
  refine pure_ (i := 2) (N := some 40) (v := ?_) (a' := ?_) #[true, true, true, false, false, false, false, false, false, false, false] rfl rfl (by kernel_rfl) (fun _ _ _ h => h) (Or.inl ⟨by rfl, ?_⟩) ?_ ?_
  rotate_left
  · intro w'
    go_simp
    with_reducible rfl
  rotate_left
  · simp only [Act.put, List.setIfInBounds_toArray, List.set_cons_zero, List.set_cons_succ, i64_w, i32_w]
    rfl
  refine pure_ (i := 3) (N := some 41) (v := ?_) (a' := ?_) #[true, true, true, true, false, false, false, false, false, false, false] rfl rfl (by kernel_rfl) (fun _ _ _ h => h) (Or.inl ⟨by rfl, ?_⟩) ?_ ?_
  rotate_left
  · intro w'
    go_simp
    with_reducible rfl
  rotate_left
  · simp only [Act.put, List.setIfInBounds_toArray, List.set_cons_zero, List.set_cons_succ, i64_w, i32_w]
    rfl
  refine take_ (i := 4) (N := some 42) (v := ?_) (a' := ?_) #[true, true, true, true, true, false, false, false, false, false, false] rfl rfl (by kernel_rfl) (fun _ _ _ h => h) (Or.inl ⟨by rfl, ?_⟩) hHeld ?_ ?_
  rotate_left
  · intro w' hS
    have s5 := blk5 hS.1
    obtain ⟨z0, _, z1, _, z2, _, z3, _, z4, _⟩ := s5
    go_simp
    with_reducible rfl
  rotate_left
  · simp only [Act.put, List.setIfInBounds_toArray, List.set_cons_zero, List.set_cons_succ, i64_w, i32_w]
    rfl
  refine take_ (i := 5) (N := some 43) (v := .agg (wcells (i, b)).toArray) (a' := ?_) #[true, true, true, true, true, true, false, false, false, false, false] rfl rfl (by kernel_rfl) (fun _ _ _ h => h) (yieldsIf_load_mid (by rfl) 68 (.tmp 8) rfl G 0 rfl (wcells (i, b)) _ (fun w' hS j v hv => by rw [cell_of_row w' G _ _ _ _ hS.2]; simpa using hv) Try.underlying68 rfl (by rw [HW.out]; exact (info_parts info_w).elim fun i h => by rw [h.1]; exact congrArg some h.2.2.1)) hHeld ?_ ?_
  rotate_left
  · simp only [Act.put, List.setIfInBounds_toArray, List.set_cons_zero, List.set_cons_succ, i64_w, i32_w]
    rfl
  refine one_ (i := 6) (N := some 44) #[true, true, true, true, true, true, true, false, false, false, false] rfl rfl (by kernel_rfl) (by decide) (fun K hK => ?_)
  have RBS := run_buildSlice_one (P := Try.prog) w4 61 68 (info_parts info_w).choose _ (wcells (i, b)).toArray Try.underlying61 (info_parts info_w).choose_spec.1 (info_parts info_w).choose_spec.2.1 (by rw [List.size_toArray, HW.out]; exact (info_parts info_w).choose_spec.2.2.1) (by rw [List.size_toArray, HW.out]; omega) (by rw [List.size_toArray, HW.out]; omega) (by show (zw 0).toArray.size = _; rw [List.size_toArray, List.size_toArray, HW.out]; exact zw_length 0)
  refine value_ (by rfl) rfl (execOp_buildSlice (ps := #[(0, .agg (wcells (i, b)).toArray)]) rfl rfl RBS) ?_
  clear RBS
  have HA5 := Lib.hid (HA4.out.keep (Fr.alloc (fun _ => False) w4 (.cells (wcells (i, b)).toArray 68)) (fun _ _ h => h))
  have HF5 := Lib.hid (HF4.out.trans (Fr.alloc F w4 (.cells (wcells (i, b)).toArray 68)) (fun _ _ h => h))
  have BG5 := Lib.hid (alloc_old BG4.out (.cells (wcells (i, b)).toArray 68))
  have BN5 := Lib.hid (alloc_at w4 (.cells (wcells (i, b)).toArray 68))
  have hGN : Hid (w4.heap.size ≠ G ∧ w.heap.size ≤ w4.heap.size) := ⟨by have := lt_of BG4.out; omega, HF4.out.size⟩
  obtain ⟨N, hN⟩ : ∃ N, w4.heap.size = N := ⟨_, rfl⟩
  rw [hN] at BN5 hGN ⊢
  clear hN
  generalize w4.alloc (.cells (wcells (i, b)).toArray 68) = w5 at HA5 HF5 BG5 BN5 ⊢
  clear HA4 HF4 BG4 hHeld
  refine hK.out _ _ ⟨HA5.out.hp, BG5.out⟩ (fun hHeld => ?_)
  clear hK K
  refine norm_ (a' := ?_) ?_ ?_
  rotate_left
  · show Act.put _ (some 44) _ = _
    simp only [Act.put, List.setIfInBounds_toArray, List.set_cons_zero, List.set_cons_succ, i64_w, i32_w]
    rfl
  refine one_ (i := 7) (N := some 45) #[true, true, true, true, true, true, true, true, false, false, false] rfl rfl (by kernel_rfl) (by decide) (fun K hK => ?_)
  obtain ⟨v', w6, hr, hown', hg', _, hat'⟩ := run_append_own_at (P := Try.prog) w5 0 61 61 68 (info_parts info_w).choose _ 257 264 Try.underlying61 (info_parts info_w).choose_spec.1 (info_parts info_w).choose_spec.2.1 (info_parts info_w).choose_spec.2.2.1 (info_parts info_w).choose_spec.2.2.2 (by show (zw 0).toArray.size = _; rw [List.size_toArray]; exact zw_length 0) (by omega) vl d.late.length _ HA5.out.hl ⟨N, 0, none⟩ 1 1 (wcells (i, b)) (by rw [HW.out]) (fun j u hu => by rw [Addr.add_mid, cell_of_row w5 N _ _ _ _ BN5.out]; simpa using hu) (wcells_one _) (by have := HL.out; unfold maxLen; omega) (by have := HL.out; omega) (Nat.zero_le _)
  refine value_ (by rfl) rfl (execOp_append rfl rfl rfl hr) ?_
  clear hr
  have HO6 := Lib.hid hown'
  have HG6 := Lib.hid hg'
  clear hown' hg'
  have hpl : ∀ k, vl.ownBlock = some k → k ≠ p ∧ k ≠ gf ∧ k ≠ gn := HA5.out.n2
  have HP6 := Lib.hid ((HG6.out.block p (HA5.out.lt _ HA5.out.fp) (fun e => (hpl p e.symm).1 rfl)).trans HA5.out.hp)
  have HFF6 := Lib.hid ((HG6.out.block gf (HA5.out.lt _ HA5.out.ff) (fun e => (hpl gf e.symm).2.1 rfl)).trans HA5.out.hf)
  have HN6 := Lib.hid ((HG6.out.block gn (HA5.out.lt _ HA5.out.fn) (fun e => (hpl gn e.symm).2.2 rfl)).trans HA5.out.hn)
  have HBG6 := Lib.hid ((HG6.out.block G (lt_of BG5.out) (fun e => HFG.out (HA5.out.fl G e.symm))).trans BG5.out)
  have HNB : Hid (∀ k, v'.ownBlock = some k → (F k ∨ w.heap.size ≤ k) ∧ k ≠ p ∧ k ≠ gf ∧ k ≠ gn ∧ k ≠ G) := fun k hk => by
    rcases hat' with e | e
    · rw [e] at hk
      exact ⟨.inl (HA5.out.fl k hk), (hpl k hk).1, (hpl k hk).2.1, (hpl k hk).2.2, fun e => HFG.out (e ▸ HA5.out.fl k hk)⟩
    · rw [e] at hk
      simp only [Option.some.injEq] at hk
      have h1 := HA5.out.lt _ HA5.out.fp
      have h2 := HA5.out.lt _ HA5.out.ff
      have h3 := HA5.out.lt _ HA5.out.fn
      have h4 := lt_of BG5.out
      have h5 := HF5.out.size
      exact ⟨.inr (by omega), by omega, by omega, by omega, by omega⟩
  clear hat'
  have HF6 := Lib.hid (HF5.out.trans (Fr.grown (F := F) HG6.out (fun k hk => HA5.out.fl k hk)) (fun _ _ h => h))
  clear hpl
  obtain ⟨av, cv, rfl, _⟩ := row_form HO6.out
  refine hK.out _ _ ⟨HP6.out, HBG6.out⟩ (fun hHeld => ?_)
  clear hK K
  refine norm_ (a' := ?_) ?_ ?_
  rotate_left
  · show Act.put _ (some 45) _ = _
    simp only [Act.put, List.setIfInBounds_toArray, List.set_cons_zero, List.set_cons_succ, i64_w, i32_w]
    rfl
  refine pure_ (i := 8) (N := some 46) (v := ?_) (a' := ?_) #[true, true, true, true, true, true, true, true, true, false, false] rfl rfl (by kernel_rfl) (fun _ _ _ h => h) (Or.inl ⟨by rfl, ?_⟩) ?_ ?_
  rotate_left
  · intro w'
    go_simp
    with_reducible rfl
  rotate_left
  · simp only [Act.put, List.setIfInBounds_toArray, List.set_cons_zero, List.set_cons_succ, i64_w, i32_w]
    rfl
  refine pure_ (i := 9) (N := some 47) (v := ?_) (a' := ?_) #[true, true, true, true, true, true, true, true, true, true, false] rfl rfl (by kernel_rfl) (fun _ _ _ h => h) (Or.inl ⟨by rfl, ?_⟩) ?_ ?_
  rotate_left
  · intro w'
    go_simp
    with_reducible rfl
  rotate_left
  · simp only [Act.put, List.setIfInBounds_toArray, List.set_cons_zero, List.set_cons_succ, i64_w, i32_w]
    rfl
  refine last_ (i := 10) (N := none) #[true, true, true, true, true, true, true, true, true, true, true] rfl rfl (by kernel_rfl) (by decide) (fun K hK => ?_)
  have s5 := blk5 HP6.out
  obtain ⟨z0, f0, z1, f1, z2, f2, z3, f3, z4, f4⟩ := s5
  refine skip_ (w1 := ?_) (by rfl) rfl ?_ ?_
  rotate_left
  · go_simp
    rfl
  clear z0 f0 z1 f1 z2 f2 z3 f3 z4 f4
  refine hK.out _ _ ?_
  clear hK K
  refine done_ (by kernel_rfl) ?_
  have HP7 := Lib.hid (set_at HP6.out 2 (.slice av (d.late.length + 1) cv))
  have HNE := Lib.hid HA5.out.n1
  have HFFF := Lib.hid (And.intro HA5.out.fp (And.intro HA5.out.ff HA5.out.fn))
  have HOK := Lib.hid HA5.out.ok
  have HNS := Lib.hid (show ∀ b ∈ d.now, b.size = 256 from HOK.out.now_size)
  have HNL := Lib.hid (show d.now.length = d.firm.length from HOK.out.now_length)
  have HFF7 := Lib.hid (set_far HFF6.out (p := ⟨p, 2, none⟩) (fun e => HNE.out.1 e.symm) (.slice av (d.late.length + 1) cv))
  have HN7 := Lib.hid (set_far HN6.out (p := ⟨p, 2, none⟩) (fun e => HNE.out.2.1 e.symm) (.slice av (d.late.length + 1) cv))
  have HBG7 := Lib.hid (set_far HBG6.out (p := ⟨p, 2, none⟩) (fun e => HFG.out (e ▸ HFFF.out.1)) (.slice av (d.late.length + 1) cv))
  have HO7 := Lib.hid ((Fr.setCell (F := fun k => k = p) w6 (p := ⟨p, 2, none⟩) rfl (.slice av (d.late.length + 1) cv)).row HO6.out (fun k hk e => (HNB.out k hk).2.1 e))
  have HF7 := Lib.hid (HF6.out.trans (Fr.setCell (F := F) w6 (p := ⟨p, 2, none⟩) HFFF.out.1 (.slice av (d.late.length + 1) cv)) (fun _ _ h => h))
  have HLT7 : Hid (∀ k, (F k ∨ (w.heap.size ≤ k ∧ k < (w6.setCell ⟨p, 2, none⟩ (.slice av (d.late.length + 1) cv)).heap.size)) → k < (w6.setCell ⟨p, 2, none⟩ (.slice av (d.late.length + 1) cv)).heap.size) := by
    rintro k (hk | hk)
    · have h1 := HA5.out.lt k hk
      have h2 := HG6.out.size
      simp only [World.setCell, Array.size_modify]; omega
    · exact hk.2
  have e7 : (#[.slice (some ⟨gf, 0, none⟩) d.firm.length d.firm.length, .slice (some ⟨gn, 0, none⟩) d.firm.length d.firm.length, vl, .int .i64 (less d.fuse), .bool d.dead] : Array Value).setIfInBounds 2 (.slice av (d.late.length + 1) cv) = #[.slice (some ⟨gf, 0, none⟩) d.firm.length d.firm.length, .slice (some ⟨gn, 0, none⟩) d.firm.length d.firm.length, .slice av (d.late.length + 1) cv, .int .i64 (less d.fuse), .bool d.dead] := rfl
  rw [e7] at HP7
  clear e7
  generalize w6.setCell ⟨p, 2, none⟩ (.slice av (d.late.length + 1) cv) = w7 at HP7 HFF7 HN7 HBG7 HO7 HF7 HLT7 ⊢
  clear HP6 HFF6 HN6 HBG6 HO6 HF6 HA5 HF5 BG5 BN5 HG6 hHeld
  go_wp2
  refine start_ (n := 9) (S := fun w' => w'.heap[p]? = some (.cells #[.slice (some ⟨gf, 0, none⟩) d.firm.length d.firm.length, .slice (some ⟨gn, 0, none⟩) d.firm.length d.firm.length, .slice av (d.late.length + 1) cv, .int .i64 (less d.fuse), .bool d.dead] 63 (0, 0)) ∧ w'.heap[G]? = some (.cells (wcells (i, b)).toArray 68 (0, 0))) (ds := [8]) #[false, false, false, false, false, false, false, false, false] (by kernel_rfl) rfl rfl (⟨HP7.out, HBG7.out⟩) (fun hHeld => ?_)
  have HP8 := Lib.hid (show w7.drew.heap[p]? = _ from HP7.out)
  have HFF8 := Lib.hid (show w7.drew.heap[gf]? = _ from HFF7.out)
  have HN8 := Lib.hid (show w7.drew.heap[gn]? = _ from HN7.out)
  have HO8 := Lib.hid ((Fr.drew (fun _ => False) w7).row HO7.out (fun _ _ h => h))
  have HF8 := Lib.hid (HF7.out.trans (Fr.drew F w7) (fun _ _ h => h))
  have HLT8 := Lib.hid (show ∀ k, (F k ∨ (w.heap.size ≤ k ∧ k < w7.drew.heap.size)) → k < w7.drew.heap.size from HLT7.out)
  generalize w7.drew = w8 at HP8 HFF8 HN8 HO8 HF8 HLT8 hHeld ⊢
  clear HP7 HFF7 HN7 HO7 HF7 HBG7 HLT7
  refine pure_ (i := 0) (N := some 48) (v := ?_) (a' := ?_) #[true, false, false, false, false, false, false, false, false] rfl rfl (by kernel_rfl) (fun _ _ _ h => h) (Or.inl ⟨by rfl, ?_⟩) ?_ ?_
  rotate_left
  · intro w'
    go_simp
    with_reducible rfl
  rotate_left
  · simp only [Act.put, List.setIfInBounds_toArray, List.set_cons_zero, List.set_cons_succ, i64_w, i32_w]
    rfl
  refine pure_ (i := 1) (N := some 49) (v := ?_) (a' := ?_) #[true, true, false, false, false, false, false, false, false] rfl rfl (by kernel_rfl) (fun _ _ _ h => h) (Or.inl ⟨by rfl, ?_⟩) ?_ ?_
  rotate_left
  · intro w'
    go_simp
    with_reducible rfl
  rotate_left
  · simp only [Act.put, List.setIfInBounds_toArray, List.set_cons_zero, List.set_cons_succ, i64_w, i32_w]
    rfl
  refine pure_ (i := 2) (N := some 50) (v := ?_) (a' := ?_) #[true, true, true, false, false, false, false, false, false] rfl rfl (by kernel_rfl) (fun _ _ _ h => h) (Or.inl ⟨by rfl, ?_⟩) ?_ ?_
  rotate_left
  · intro w'
    go_simp
    with_reducible rfl
  rotate_left
  · simp only [Act.put, List.setIfInBounds_toArray, List.set_cons_zero, List.set_cons_succ, i64_w, i32_w]
    rfl
  refine take_ (i := 3) (N := some 51) (v := ?_) (a' := ?_) #[true, true, true, true, false, false, false, false, false] rfl rfl (by kernel_rfl) (fun _ _ _ h => h) (Or.inl ⟨by rfl, ?_⟩) hHeld ?_ ?_
  rotate_left
  · intro w' hS
    have s5 := blk5 hS.1
    obtain ⟨z0, _, z1, _, z2, _, z3, _, z4, _⟩ := s5
    go_simp
    with_reducible rfl
  rotate_left
  · simp only [Act.put, List.setIfInBounds_toArray, List.set_cons_zero, List.set_cons_succ, i64_w, i32_w]
    rfl
  refine pure_ (i := 4) (N := some 52) (v := ?_) (a' := ?_) #[true, true, true, true, true, false, false, false, false] rfl rfl (by kernel_rfl) (fun _ _ _ h => h) (Or.inl ⟨by rfl, ?_⟩) ?_ ?_
  rotate_left
  · intro w'
    go_simp
    with_reducible rfl
  rotate_left
  · simp only [Act.put, List.setIfInBounds_toArray, List.set_cons_zero, List.set_cons_succ, i64_w, i32_w]
    rfl
  refine pure_ (i := 5) (N := some 53) (v := ?_) (a' := ?_) #[true, true, true, true, true, true, false, false, false] rfl rfl (by kernel_rfl) (fun _ _ _ h => h) (Or.inl ⟨by rfl, ?_⟩) ?_ ?_
  rotate_left
  · intro w'
    go_simp
    with_reducible rfl
  rotate_left
  · simp only [Act.put, List.setIfInBounds_toArray, List.set_cons_zero, List.set_cons_succ, i64_w, i32_w]
    rfl
  refine take_ (i := 6) (N := some 54) (v := .agg (bcells b).toArray) (a' := ?_) #[true, true, true, true, true, true, true, false, false] rfl rfl (by kernel_rfl) (fun _ _ _ h => h) (yieldsIf_load_mid (by rfl) 66 (.tmp 53) rfl G 1 rfl (bcells b) _ (fun w' hS j v hv => by rw [cell_of_row w' G _ _ _ _ hS.2, List.getElem?_toArray, wcells, Nat.add_comm 1 j, List.getElem?_cons_succ]; exact hv) Try.underlying66 rfl (by rw [bcells_length, HS.out]; exact info_b)) hHeld ?_ ?_
  rotate_left
  · simp only [Act.put, List.setIfInBounds_toArray, List.set_cons_zero, List.set_cons_succ, i64_w, i32_w]
    rfl
  refine pure_ (i := 7) (N := some 55) (v := ?_) (a' := ?_) #[true, true, true, true, true, true, true, true, false] rfl rfl (by kernel_rfl) (fun _ _ _ h => h) (Or.inl ⟨by rfl, ?_⟩) ?_ ?_
  rotate_left
  · intro w'
    go_simp
    with_reducible rfl
  rotate_left
  · simp only [Act.put, List.setIfInBounds_toArray, List.set_cons_zero, List.set_cons_succ, i64_w, i32_w]
    rfl
  refine last_ (i := 8) (N := none) #[true, true, true, true, true, true, true, true, true] rfl rfl (by kernel_rfl) (by decide) (fun K hK => ?_)
  have HST := run_storeAt_row (P := Try.prog) w8 gn (i * 256) 66 (d.now.flatMap bcells) 66 (bcells b).toArray HN8.out (by rw [List.size_toArray, bcells_length, HS.out, flat_length (lens HNS.out), HNL.out]; have := HI.out; omega) (by rw [List.size_toArray, bcells_length, HS.out]; exact info_b) (by rw [List.toList_toArray]; exact bcells_one b)
  refine skip_ (by rfl) rfl (execOp_store rfl rfl rfl HST) ?_
  clear HST
  refine hK.out _ _ ?_
  clear hK K
  refine done_ (by kernel_rfl) ?_
  go_wp2
  go_ret
  refine ⟨rfl, ⟨.slice av (d.late.length + 1) cv, ?_⟩, HF8.out.trans (Fr.setRow w8 (g := gn) HFFF.out.2.2 _) (fun _ _ h => h)⟩
  have hsz : (w8.setRow gn (over (d.now.flatMap bcells) (i * 256) (bcells b)).toArray).heap.size = w8.heap.size := size_setRow ..
  have hov : over (d.now.flatMap bcells) (i * 256) (bcells b) = (d.now.set i b).flatMap bcells := by
    rw [flat_set (lens HNS.out) i (by rw [HNL.out]; exact HI.out) b]
    unfold over
    rw [bcells_length, HS.out]
  rw [hsz, hov]
  exact {
    ok := ⟨HOK.out.n1, HOK.out.n2, HOK.out.sz, fun x hx => by
      rcases List.mem_append.1 hx with hx | hx
      · exact HOK.out.la x hx
      · simp only [List.mem_singleton] at hx
        subst hx
        exact ⟨HI.out, HS.out⟩, HOK.out.f1, HOK.out.f2⟩
    fp := .inl HFFF.out.1
    ff := .inl HFFF.out.2.1
    fn := .inl HFFF.out.2.2
    fl := fun k hk => (HNB.out k hk).1.imp id (fun h => ⟨h, (HO8.out.lt k hk).2⟩)
    n1 := HNE.out
    n2 := fun k hk => ⟨(HNB.out k hk).2.1, (HNB.out k hk).2.2.1, (HNB.out k hk).2.2.2.1⟩
    hp := by rw [setRow_other _ _ _ _ HNE.out.2.1]; exact HP8.out
    hf := (setRow_other _ _ _ _ HNE.out.2.2).trans HFF8.out
    hn := by
      have e : Dv.now { d with late := d.late ++ [(i, b)], fuse := less d.fuse } = d.now.set i b := by unfold Dv.now; rw [List.foldl_append]; rfl
      rw [e]
      exact setRow_heap _ _ _ _ _ _ HN8.out
    hl := by
      have h := row_kept HO8.out (w' := w8.setRow gn ((d.now.set i b).flatMap bcells).toArray) (fun k hk => setRow_other _ _ _ _ (HNB.out k hk).2.2.2.1)
      rw [List.length_append, List.flatMap_append]
      simpa using h
    lt := fun k hk => by rw [size_setRow]; exact HLT8.out k hk }
end Go.Proofs.Ytmphnfkohilojaa.Dev
