/- Layer device: a new one. -/
import Derived.Test.YtmphnfkohilojaaDevOps
namespace Go.Proofs.Ytmphnfkohilojaa.Dev
open Go.RowKit Go.Own Go.DevL Go.Blk Go.Proofs.YtmphnfkohilojaaW.PrintLast Go.Proofs.YtmphnfkohilojaaW.PrintWords Go.Proofs.YtmphnfkohilojaaW.PrintMore
attribute [local go_sem] max2_int min2_int max_two min_two
set_option linter.unusedVariables false
set_option linter.unusedSimpArgs false
theorem size_alloc1 (w : World) (o : Obj) : (w.alloc o).heap.size = w.heap.size + 1 := by simp
theorem bcells_zero : bcells (rep8 0 256) = List.replicate 256 (.int .u8 0) := by
  unfold bcells rep8
  rw [List.toList_toArray, List.map_replicate]
  rfl
theorem made_b (c : Nat) : madeCells (List.replicate 256 (Value.int .u8 0)).toArray (c * 256) = ((List.replicate c (rep8 0 256)).flatMap bcells).toArray := by
  have e : (List.replicate c (rep8 0 256)).flatMap bcells = List.replicate (c * 256) (.int .u8 0) := by
    rw [List.flatMap_replicate, bcells_zero, List.flatten_replicate_replicate]
  rw [e]
  unfold madeCells
  apply Array.ext
  · simp only [Array.size_map, Array.size_range, List.size_toArray, List.length_replicate]
  · intro i h1 h2
    simp only [Array.getElem_map, Array.getElem_range, List.getElem_toArray, List.getElem_replicate]
    have hs : (List.replicate 256 (Value.int .u8 0)).toArray.size = 256 := by rw [List.size_toArray, List.length_replicate]
    have hi : i % (List.replicate 256 (Value.int .u8 0)).toArray.size < (List.replicate 256 (Value.int .u8 0)).toArray.size := by rw [hs]; exact Nat.mod_lt _ (by decide)
    rw [getElem!_pos (List.replicate 256 (Value.int .u8 0)).toArray _ hi, List.getElem_toArray, List.getElem_replicate]
theorem run_make_b (c : Nat) (hc : c ≤ 1024) (w : World) : (Instr.makeSlice 60 (.int .i64 c) (.int .i64 c)).run Try.prog w = .ok (.slice (some ⟨w.heap.size, 0, none⟩) c c) (w.alloc (.cells ((List.replicate c (rep8 0 256)).flatMap bcells).toArray 66)) := by
  obtain ⟨i, hi, hz, hs, hb⟩ := info_parts info_b3
  have h := run_make (P := Try.prog) w 60 66 i _ Try.underlying60 hi hz .i64 .i64 c c (by omega) (Int.le_refl _) (by rw [hb]; omega) (by omega)
  rw [h, hs, Int.toNat_natCast]
  rw [show (Value.agg (List.replicate 256 (Value.int .u8 0)).toArray).cells = (List.replicate 256 (Value.int .u8 0)).toArray from rfl, made_b]
set_option maxHeartbeats 4000000 in
theorem new_calls (n : Int) (w : World) : Calls Try.prog 10 #[.int .i64 n] w fun e w' => (∃ p gf gn, e = .returned (.pointer (some ⟨p, 0, none⟩)) ∧ At (fun k => w.heap.size ≤ k ∧ k < w'.heap.size) w' p gf gn (.slice none 0 0) (fresh n)) ∧ Below w.heap.size w w' := by
  by_cases h1 : n < 1
  · have hcl : clamp n = 1 := by unfold clamp; omega
    have hc : 1 ≤ 1024 := by decide
    have h2 : n ≤ 1024 := by omega
    go_enter Try.func10, Try.ntmps10
    go_wp2
    refine start_ (n := 7) (S := fun _ => True) (ds := []) #[false, false, false, false, false, false, false] (by kernel_rfl) rfl rfl trivial (fun hHeld => ?_)
    have HB1 : Hid (Below w.heap.size w w.drew) := (Below.refl _ w).drew
    generalize w.drew = w1 at HB1 hHeld ⊢
    refine pure_ (i := 0) (N := some 7) (v := ?_) (a' := ?_) #[true, false, false, false, false, false, false] rfl rfl (by kernel_rfl) (fun _ _ _ h => h) (Or.inl ⟨by rfl, ?_⟩) ?_ ?_
    rotate_left
    · intro w'
      go_simp
      with_reducible rfl
    rotate_left
    · simp only [Act.put, List.setIfInBounds_toArray, List.set_cons_zero, List.set_cons_succ, i64_w, i32_w]
      rfl
    refine pure_ (i := 2) (N := some 9) (v := ?_) (a' := ?_) #[true, false, true, false, false, false, false] rfl rfl (by kernel_rfl) (fun _ _ _ h => h) (Or.inl ⟨by rfl, ?_⟩) ?_ ?_
    rotate_left
    · intro w'
      go_simp
      with_reducible rfl
    rotate_left
    · simp only [Act.put, List.setIfInBounds_toArray, List.set_cons_zero, List.set_cons_succ, i64_w, i32_w]
      rfl
    refine two_ (i := 1) (j := 3) (Ni := some 8) (Nj := some 10) #[true, true, true, false, false, false, false] #[true, false, true, true, false, false, false] rfl rfl rfl rfl (by kernel_rfl) (by decide) (by decide) (fun K hK => ?_) (fun K hK => ?_)
    · refine value_ (v := .slice (some ⟨w1.heap.size, 0, none⟩) (1) (1)) (by rfl) rfl (execOp_makeSlice rfl rfl rfl (run_make_b (1) hc w1)) ?_
      refine hK.out _ _ trivial (fun hHeld => ?_)
      clear hK K
      refine norm_ (a' := ?_) ?_ ?_
      rotate_left
      · show Act.put _ (some 8) _ = _
        simp only [Act.put, List.setIfInBounds_toArray, List.set_cons_zero, List.set_cons_succ, i64_w, i32_w]
        rfl
      have HA2 := Lib.hid (alloc_at w1 (.cells ((List.replicate (1) (rep8 0 256)).flatMap bcells).toArray 66))
      have HB2 : Hid (Below w.heap.size w (w1.alloc (.cells ((List.replicate (1) (rep8 0 256)).flatMap bcells).toArray 66))) := HB1.out.alloc HB1.out.size _
      have HS2 : Hid ((w1.alloc (.cells ((List.replicate (1) (rep8 0 256)).flatMap bcells).toArray 66)).heap.size = w1.heap.size + 1) := size_alloc1 _ _
      have HG1 := Lib.hid HB1.out.size
      obtain ⟨H1, hH1⟩ : ∃ H1, w1.heap.size = H1 := ⟨_, rfl⟩
      rw [hH1] at HA2 HS2 HG1 ⊢
      clear hH1
      generalize w1.alloc (.cells ((List.replicate (1) (rep8 0 256)).flatMap bcells).toArray 66) = w2 at HA2 HB2 HS2 ⊢
      refine one_ (i := 3) (N := some 10) #[true, true, true, true, false, false, false] rfl rfl (by kernel_rfl) (by decide) (fun K hK => ?_)
      refine value_ (v := .slice (some ⟨w2.heap.size, 0, none⟩) (1) (1)) (by rfl) rfl (execOp_makeSlice rfl rfl rfl (run_make_b (1) hc w2)) ?_
      refine hK.out _ _ trivial (fun hHeld => ?_)
      clear hK K
      refine norm_ (a' := ?_) ?_ ?_
      rotate_left
      · show Act.put _ (some 10) _ = _
        simp only [Act.put, List.setIfInBounds_toArray, List.set_cons_zero, List.set_cons_succ, i64_w, i32_w]
        rfl
      have HA3 := Lib.hid (alloc_old HA2.out (.cells ((List.replicate (1) (rep8 0 256)).flatMap bcells).toArray 66))
      have HC3 := Lib.hid (alloc_at w2 (.cells ((List.replicate (1) (rep8 0 256)).flatMap bcells).toArray 66))
      have HB3 : Hid (Below w.heap.size w (w2.alloc (.cells ((List.replicate (1) (rep8 0 256)).flatMap bcells).toArray 66))) := HB2.out.alloc HB2.out.size _
      have HS3 : Hid ((w2.alloc (.cells ((List.replicate (1) (rep8 0 256)).flatMap bcells).toArray 66)).heap.size = w2.heap.size + 1) := size_alloc1 _ _
      obtain ⟨H2, hH2⟩ : ∃ H2, w2.heap.size = H2 := ⟨_, rfl⟩
      rw [hH2] at HC3 HS2 HS3 ⊢
      clear hH2
      generalize w2.alloc (.cells ((List.replicate (1) (rep8 0 256)).flatMap bcells).toArray 66) = w3 at HA3 HC3 HB3 HS3 ⊢
      refine pure_ (i := 4) (N := some 11) (v := ?_) (a' := ?_) #[true, true, true, true, true, false, false] rfl rfl (by kernel_rfl) (fun _ _ _ h => h) (Or.inl ⟨by rfl, ?_⟩) ?_ ?_
      rotate_left
      · intro w'
        go_simp
        with_reducible rfl
      rotate_left
      · simp only [Act.put, List.setIfInBounds_toArray, List.set_cons_zero, List.set_cons_succ, i64_w, i32_w]
        rfl
      refine one_ (i := 5) (N := some 12) #[true, true, true, true, true, true, false] rfl rfl (by kernel_rfl) (by decide) (fun K hK => ?_)
      refine value_ (v := .pointer (some ⟨w3.heap.size, 0, none⟩)) (w1 := w3.alloc (.cells #[.slice (some ⟨H1, 0, none⟩) (1) (1), .slice (some ⟨H2, 0, none⟩) (1) (1), .slice none 0 0, .int .i64 (-1), .bool false] 63)) (by rfl) rfl (execOp_box rfl rfl (by kernel_rfl)) ?_
      refine hK.out _ _ trivial (fun hHeld => ?_)
      clear hK K
      refine norm_ (a' := ?_) ?_ ?_
      rotate_left
      · show Act.put _ (some 12) _ = _
        simp only [Act.put, List.setIfInBounds_toArray, List.set_cons_zero, List.set_cons_succ, i64_w, i32_w]
        rfl
      refine pure_ (i := 6) (N := some 2) (v := ?_) (a' := ?_) #[true, true, true, true, true, true, true] rfl rfl (by kernel_rfl) (fun _ _ _ h => h) (Or.inl ⟨by rfl, ?_⟩) ?_ ?_
      rotate_left
      · intro w'
        go_simp
        with_reducible rfl
      rotate_left
      · simp only [Act.put, List.setIfInBounds_toArray, List.set_cons_zero, List.set_cons_succ, i64_w, i32_w]
        rfl
      refine done_ (by kernel_rfl) ?_
      go_wp2
      go_ret
      have hs1 := HS2.out
      have hs2 := HS3.out
      have hg1 := HG1.out
      refine ⟨⟨w3.heap.size, H1, H2, rfl, ?_⟩, HB3.out.alloc HB3.out.size _⟩
      have hfr : (fresh n).firm = List.replicate (1) (rep8 0 256) := by unfold fresh; rw [hcl]
      exact {
        ok := fresh_ok n
        fp := ⟨by omega, by simp⟩
        ff := ⟨by omega, by simp; omega⟩
        fn := ⟨by omega, by simp; omega⟩
        fl := fun k hk => by simp [Value.ownBlock] at hk
        n1 := ⟨by omega, by omega, by omega⟩
        n2 := fun k hk => by simp [Value.ownBlock] at hk
        hp := by rw [hfr, List.length_replicate]; exact alloc_at w3 _
        hf := by rw [hfr]; exact alloc_old HA3.out _
        hn := by rw [show (fresh n).now = (fresh n).firm from rfl, hfr]; exact alloc_old HC3.out _
        hl := World.ownsRow_nil _ _ _ _
        lt := fun k hk => hk.2 }
    · refine value_ (v := .slice (some ⟨w1.heap.size, 0, none⟩) (1) (1)) (by rfl) rfl (execOp_makeSlice rfl rfl rfl (run_make_b (1) hc w1)) ?_
      refine hK.out _ _ trivial (fun hHeld => ?_)
      clear hK K
      refine norm_ (a' := ?_) ?_ ?_
      rotate_left
      · show Act.put _ (some 10) _ = _
        simp only [Act.put, List.setIfInBounds_toArray, List.set_cons_zero, List.set_cons_succ, i64_w, i32_w]
        rfl
      have HA2 := Lib.hid (alloc_at w1 (.cells ((List.replicate (1) (rep8 0 256)).flatMap bcells).toArray 66))
      have HB2 : Hid (Below w.heap.size w (w1.alloc (.cells ((List.replicate (1) (rep8 0 256)).flatMap bcells).toArray 66))) := HB1.out.alloc HB1.out.size _
      have HS2 : Hid ((w1.alloc (.cells ((List.replicate (1) (rep8 0 256)).flatMap bcells).toArray 66)).heap.size = w1.heap.size + 1) := size_alloc1 _ _
      have HG1 := Lib.hid HB1.out.size
      obtain ⟨H1, hH1⟩ : ∃ H1, w1.heap.size = H1 := ⟨_, rfl⟩
      rw [hH1] at HA2 HS2 HG1 ⊢
      clear hH1
      generalize w1.alloc (.cells ((List.replicate (1) (rep8 0 256)).flatMap bcells).toArray 66) = w2 at HA2 HB2 HS2 ⊢
      refine one_ (i := 1) (N := some 8) #[true, true, true, true, false, false, false] rfl rfl (by kernel_rfl) (by decide) (fun K hK => ?_)
      refine value_ (v := .slice (some ⟨w2.heap.size, 0, none⟩) (1) (1)) (by rfl) rfl (execOp_makeSlice rfl rfl rfl (run_make_b (1) hc w2)) ?_
      refine hK.out _ _ trivial (fun hHeld => ?_)
      clear hK K
      refine norm_ (a' := ?_) ?_ ?_
      rotate_left
      · show Act.put _ (some 8) _ = _
        simp only [Act.put, List.setIfInBounds_toArray, List.set_cons_zero, List.set_cons_succ, i64_w, i32_w]
        rfl
      have HA3 := Lib.hid (alloc_old HA2.out (.cells ((List.replicate (1) (rep8 0 256)).flatMap bcells).toArray 66))
      have HC3 := Lib.hid (alloc_at w2 (.cells ((List.replicate (1) (rep8 0 256)).flatMap bcells).toArray 66))
      have HB3 : Hid (Below w.heap.size w (w2.alloc (.cells ((List.replicate (1) (rep8 0 256)).flatMap bcells).toArray 66))) := HB2.out.alloc HB2.out.size _
      have HS3 : Hid ((w2.alloc (.cells ((List.replicate (1) (rep8 0 256)).flatMap bcells).toArray 66)).heap.size = w2.heap.size + 1) := size_alloc1 _ _
      obtain ⟨H2, hH2⟩ : ∃ H2, w2.heap.size = H2 := ⟨_, rfl⟩
      rw [hH2] at HC3 HS2 HS3 ⊢
      clear hH2
      generalize w2.alloc (.cells ((List.replicate (1) (rep8 0 256)).flatMap bcells).toArray 66) = w3 at HA3 HC3 HB3 HS3 ⊢
      refine pure_ (i := 4) (N := some 11) (v := ?_) (a' := ?_) #[true, true, true, true, true, false, false] rfl rfl (by kernel_rfl) (fun _ _ _ h => h) (Or.inl ⟨by rfl, ?_⟩) ?_ ?_
      rotate_left
      · intro w'
        go_simp
        with_reducible rfl
      rotate_left
      · simp only [Act.put, List.setIfInBounds_toArray, List.set_cons_zero, List.set_cons_succ, i64_w, i32_w]
        rfl
      refine one_ (i := 5) (N := some 12) #[true, true, true, true, true, true, false] rfl rfl (by kernel_rfl) (by decide) (fun K hK => ?_)
      refine value_ (v := .pointer (some ⟨w3.heap.size, 0, none⟩)) (w1 := w3.alloc (.cells #[.slice (some ⟨H2, 0, none⟩) (1) (1), .slice (some ⟨H1, 0, none⟩) (1) (1), .slice none 0 0, .int .i64 (-1), .bool false] 63)) (by rfl) rfl (execOp_box rfl rfl (by kernel_rfl)) ?_
      refine hK.out _ _ trivial (fun hHeld => ?_)
      clear hK K
      refine norm_ (a' := ?_) ?_ ?_
      rotate_left
      · show Act.put _ (some 12) _ = _
        simp only [Act.put, List.setIfInBounds_toArray, List.set_cons_zero, List.set_cons_succ, i64_w, i32_w]
        rfl
      refine pure_ (i := 6) (N := some 2) (v := ?_) (a' := ?_) #[true, true, true, true, true, true, true] rfl rfl (by kernel_rfl) (fun _ _ _ h => h) (Or.inl ⟨by rfl, ?_⟩) ?_ ?_
      rotate_left
      · intro w'
        go_simp
        with_reducible rfl
      rotate_left
      · simp only [Act.put, List.setIfInBounds_toArray, List.set_cons_zero, List.set_cons_succ, i64_w, i32_w]
        rfl
      refine done_ (by kernel_rfl) ?_
      go_wp2
      go_ret
      have hs1 := HS2.out
      have hs2 := HS3.out
      have hg1 := HG1.out
      refine ⟨⟨w3.heap.size, H2, H1, rfl, ?_⟩, HB3.out.alloc HB3.out.size _⟩
      have hfr : (fresh n).firm = List.replicate (1) (rep8 0 256) := by unfold fresh; rw [hcl]
      exact {
        ok := fresh_ok n
        fp := ⟨by omega, by simp⟩
        ff := ⟨by omega, by simp; omega⟩
        fn := ⟨by omega, by simp; omega⟩
        fl := fun k hk => by simp [Value.ownBlock] at hk
        n1 := ⟨by omega, by omega, by omega⟩
        n2 := fun k hk => by simp [Value.ownBlock] at hk
        hp := by rw [hfr, List.length_replicate]; exact alloc_at w3 _
        hf := by rw [hfr]; exact alloc_old HC3.out _
        hn := by rw [show (fresh n).now = (fresh n).firm from rfl, hfr]; exact alloc_old HA3.out _
        hl := World.ownsRow_nil _ _ _ _
        lt := fun k hk => hk.2 }
  · by_cases h2 : 1024 < n
    · have hcl : clamp n = 1024 := by unfold clamp; omega
      have hc : 1024 ≤ 1024 := by decide
      have h3 : 1 < n := by omega
      go_enter Try.func10, Try.ntmps10
      go_wp2
      refine start_ (n := 7) (S := fun _ => True) (ds := []) #[false, false, false, false, false, false, false] (by kernel_rfl) rfl rfl trivial (fun hHeld => ?_)
      have HB1 : Hid (Below w.heap.size w w.drew) := (Below.refl _ w).drew
      generalize w.drew = w1 at HB1 hHeld ⊢
      refine pure_ (i := 0) (N := some 7) (v := ?_) (a' := ?_) #[true, false, false, false, false, false, false] rfl rfl (by kernel_rfl) (fun _ _ _ h => h) (Or.inl ⟨by rfl, ?_⟩) ?_ ?_
      rotate_left
      · intro w'
        go_simp
        with_reducible rfl
      rotate_left
      · simp only [Act.put, List.setIfInBounds_toArray, List.set_cons_zero, List.set_cons_succ, i64_w, i32_w]
        rfl
      refine pure_ (i := 2) (N := some 9) (v := ?_) (a' := ?_) #[true, false, true, false, false, false, false] rfl rfl (by kernel_rfl) (fun _ _ _ h => h) (Or.inl ⟨by rfl, ?_⟩) ?_ ?_
      rotate_left
      · intro w'
        go_simp
        with_reducible rfl
      rotate_left
      · simp only [Act.put, List.setIfInBounds_toArray, List.set_cons_zero, List.set_cons_succ, i64_w, i32_w]
        rfl
      refine two_ (i := 1) (j := 3) (Ni := some 8) (Nj := some 10) #[true, true, true, false, false, false, false] #[true, false, true, true, false, false, false] rfl rfl rfl rfl (by kernel_rfl) (by decide) (by decide) (fun K hK => ?_) (fun K hK => ?_)
      · refine value_ (v := .slice (some ⟨w1.heap.size, 0, none⟩) (1024) (1024)) (by rfl) rfl (execOp_makeSlice rfl rfl rfl (run_make_b (1024) hc w1)) ?_
        refine hK.out _ _ trivial (fun hHeld => ?_)
        clear hK K
        refine norm_ (a' := ?_) ?_ ?_
        rotate_left
        · show Act.put _ (some 8) _ = _
          simp only [Act.put, List.setIfInBounds_toArray, List.set_cons_zero, List.set_cons_succ, i64_w, i32_w]
          rfl
        have HA2 := Lib.hid (alloc_at w1 (.cells ((List.replicate (1024) (rep8 0 256)).flatMap bcells).toArray 66))
        have HB2 : Hid (Below w.heap.size w (w1.alloc (.cells ((List.replicate (1024) (rep8 0 256)).flatMap bcells).toArray 66))) := HB1.out.alloc HB1.out.size _
        have HS2 : Hid ((w1.alloc (.cells ((List.replicate (1024) (rep8 0 256)).flatMap bcells).toArray 66)).heap.size = w1.heap.size + 1) := size_alloc1 _ _
        have HG1 := Lib.hid HB1.out.size
        obtain ⟨H1, hH1⟩ : ∃ H1, w1.heap.size = H1 := ⟨_, rfl⟩
        rw [hH1] at HA2 HS2 HG1 ⊢
        clear hH1
        generalize w1.alloc (.cells ((List.replicate (1024) (rep8 0 256)).flatMap bcells).toArray 66) = w2 at HA2 HB2 HS2 ⊢
        refine one_ (i := 3) (N := some 10) #[true, true, true, true, false, false, false] rfl rfl (by kernel_rfl) (by decide) (fun K hK => ?_)
        refine value_ (v := .slice (some ⟨w2.heap.size, 0, none⟩) (1024) (1024)) (by rfl) rfl (execOp_makeSlice rfl rfl rfl (run_make_b (1024) hc w2)) ?_
        refine hK.out _ _ trivial (fun hHeld => ?_)
        clear hK K
        refine norm_ (a' := ?_) ?_ ?_
        rotate_left
        · show Act.put _ (some 10) _ = _
          simp only [Act.put, List.setIfInBounds_toArray, List.set_cons_zero, List.set_cons_succ, i64_w, i32_w]
          rfl
        have HA3 := Lib.hid (alloc_old HA2.out (.cells ((List.replicate (1024) (rep8 0 256)).flatMap bcells).toArray 66))
        have HC3 := Lib.hid (alloc_at w2 (.cells ((List.replicate (1024) (rep8 0 256)).flatMap bcells).toArray 66))
        have HB3 : Hid (Below w.heap.size w (w2.alloc (.cells ((List.replicate (1024) (rep8 0 256)).flatMap bcells).toArray 66))) := HB2.out.alloc HB2.out.size _
        have HS3 : Hid ((w2.alloc (.cells ((List.replicate (1024) (rep8 0 256)).flatMap bcells).toArray 66)).heap.size = w2.heap.size + 1) := size_alloc1 _ _
        obtain ⟨H2, hH2⟩ : ∃ H2, w2.heap.size = H2 := ⟨_, rfl⟩
        rw [hH2] at HC3 HS2 HS3 ⊢
        clear hH2
        generalize w2.alloc (.cells ((List.replicate (1024) (rep8 0 256)).flatMap bcells).toArray 66) = w3 at HA3 HC3 HB3 HS3 ⊢
        refine pure_ (i := 4) (N := some 11) (v := ?_) (a' := ?_) #[true, true, true, true, true, false, false] rfl rfl (by kernel_rfl) (fun _ _ _ h => h) (Or.inl ⟨by rfl, ?_⟩) ?_ ?_
        rotate_left
        · intro w'
          go_simp
          with_reducible rfl
        rotate_left
        · simp only [Act.put, List.setIfInBounds_toArray, List.set_cons_zero, List.set_cons_succ, i64_w, i32_w]
          rfl
        refine one_ (i := 5) (N := some 12) #[true, true, true, true, true, true, false] rfl rfl (by kernel_rfl) (by decide) (fun K hK => ?_)
        refine value_ (v := .pointer (some ⟨w3.heap.size, 0, none⟩)) (w1 := w3.alloc (.cells #[.slice (some ⟨H1, 0, none⟩) (1024) (1024), .slice (some ⟨H2, 0, none⟩) (1024) (1024), .slice none 0 0, .int .i64 (-1), .bool false] 63)) (by rfl) rfl (execOp_box rfl rfl (by kernel_rfl)) ?_
        refine hK.out _ _ trivial (fun hHeld => ?_)
        clear hK K
        refine norm_ (a' := ?_) ?_ ?_
        rotate_left
        · show Act.put _ (some 12) _ = _
          simp only [Act.put, List.setIfInBounds_toArray, List.set_cons_zero, List.set_cons_succ, i64_w, i32_w]
          rfl
        refine pure_ (i := 6) (N := some 2) (v := ?_) (a' := ?_) #[true, true, true, true, true, true, true] rfl rfl (by kernel_rfl) (fun _ _ _ h => h) (Or.inl ⟨by rfl, ?_⟩) ?_ ?_
        rotate_left
        · intro w'
          go_simp
          with_reducible rfl
        rotate_left
        · simp only [Act.put, List.setIfInBounds_toArray, List.set_cons_zero, List.set_cons_succ, i64_w, i32_w]
          rfl
        refine done_ (by kernel_rfl) ?_
        go_wp2
        go_ret
        have hs1 := HS2.out
        have hs2 := HS3.out
        have hg1 := HG1.out
        refine ⟨⟨w3.heap.size, H1, H2, rfl, ?_⟩, HB3.out.alloc HB3.out.size _⟩
        have hfr : (fresh n).firm = List.replicate (1024) (rep8 0 256) := by unfold fresh; rw [hcl]
        exact {
          ok := fresh_ok n
          fp := ⟨by omega, by simp⟩
          ff := ⟨by omega, by simp; omega⟩
          fn := ⟨by omega, by simp; omega⟩
          fl := fun k hk => by simp [Value.ownBlock] at hk
          n1 := ⟨by omega, by omega, by omega⟩
          n2 := fun k hk => by simp [Value.ownBlock] at hk
          hp := by rw [hfr, List.length_replicate]; exact alloc_at w3 _
          hf := by rw [hfr]; exact alloc_old HA3.out _
          hn := by rw [show (fresh n).now = (fresh n).firm from rfl, hfr]; exact alloc_old HC3.out _
          hl := World.ownsRow_nil _ _ _ _
          lt := fun k hk => hk.2 }
      · refine value_ (v := .slice (some ⟨w1.heap.size, 0, none⟩) (1024) (1024)) (by rfl) rfl (execOp_makeSlice rfl rfl rfl (run_make_b (1024) hc w1)) ?_
        refine hK.out _ _ trivial (fun hHeld => ?_)
        clear hK K
        refine norm_ (a' := ?_) ?_ ?_
        rotate_left
        · show Act.put _ (some 10) _ = _
          simp only [Act.put, List.setIfInBounds_toArray, List.set_cons_zero, List.set_cons_succ, i64_w, i32_w]
          rfl
        have HA2 := Lib.hid (alloc_at w1 (.cells ((List.replicate (1024) (rep8 0 256)).flatMap bcells).toArray 66))
        have HB2 : Hid (Below w.heap.size w (w1.alloc (.cells ((List.replicate (1024) (rep8 0 256)).flatMap bcells).toArray 66))) := HB1.out.alloc HB1.out.size _
        have HS2 : Hid ((w1.alloc (.cells ((List.replicate (1024) (rep8 0 256)).flatMap bcells).toArray 66)).heap.size = w1.heap.size + 1) := size_alloc1 _ _
        have HG1 := Lib.hid HB1.out.size
        obtain ⟨H1, hH1⟩ : ∃ H1, w1.heap.size = H1 := ⟨_, rfl⟩
        rw [hH1] at HA2 HS2 HG1 ⊢
        clear hH1
        generalize w1.alloc (.cells ((List.replicate (1024) (rep8 0 256)).flatMap bcells).toArray 66) = w2 at HA2 HB2 HS2 ⊢
        refine one_ (i := 1) (N := some 8) #[true, true, true, true, false, false, false] rfl rfl (by kernel_rfl) (by decide) (fun K hK => ?_)
        refine value_ (v := .slice (some ⟨w2.heap.size, 0, none⟩) (1024) (1024)) (by rfl) rfl (execOp_makeSlice rfl rfl rfl (run_make_b (1024) hc w2)) ?_
        refine hK.out _ _ trivial (fun hHeld => ?_)
        clear hK K
        refine norm_ (a' := ?_) ?_ ?_
        rotate_left
        · show Act.put _ (some 8) _ = _
          simp only [Act.put, List.setIfInBounds_toArray, List.set_cons_zero, List.set_cons_succ, i64_w, i32_w]
          rfl
        have HA3 := Lib.hid (alloc_old HA2.out (.cells ((List.replicate (1024) (rep8 0 256)).flatMap bcells).toArray 66))
        have HC3 := Lib.hid (alloc_at w2 (.cells ((List.replicate (1024) (rep8 0 256)).flatMap bcells).toArray 66))
        have HB3 : Hid (Below w.heap.size w (w2.alloc (.cells ((List.replicate (1024) (rep8 0 256)).flatMap bcells).toArray 66))) := HB2.out.alloc HB2.out.size _
        have HS3 : Hid ((w2.alloc (.cells ((List.replicate (1024) (rep8 0 256)).flatMap bcells).toArray 66)).heap.size = w2.heap.size + 1) := size_alloc1 _ _
        obtain ⟨H2, hH2⟩ : ∃ H2, w2.heap.size = H2 := ⟨_, rfl⟩
        rw [hH2] at HC3 HS2 HS3 ⊢
        clear hH2
        generalize w2.alloc (.cells ((List.replicate (1024) (rep8 0 256)).flatMap bcells).toArray 66) = w3 at HA3 HC3 HB3 HS3 ⊢
        refine pure_ (i := 4) (N := some 11) (v := ?_) (a' := ?_) #[true, true, true, true, true, false, false] rfl rfl (by kernel_rfl) (fun _ _ _ h => h) (Or.inl ⟨by rfl, ?_⟩) ?_ ?_
        rotate_left
        · intro w'
          go_simp
          with_reducible rfl
        rotate_left
        · simp only [Act.put, List.setIfInBounds_toArray, List.set_cons_zero, List.set_cons_succ, i64_w, i32_w]
          rfl
        refine one_ (i := 5) (N := some 12) #[true, true, true, true, true, true, false] rfl rfl (by kernel_rfl) (by decide) (fun K hK => ?_)
        refine value_ (v := .pointer (some ⟨w3.heap.size, 0, none⟩)) (w1 := w3.alloc (.cells #[.slice (some ⟨H2, 0, none⟩) (1024) (1024), .slice (some ⟨H1, 0, none⟩) (1024) (1024), .slice none 0 0, .int .i64 (-1), .bool false] 63)) (by rfl) rfl (execOp_box rfl rfl (by kernel_rfl)) ?_
        refine hK.out _ _ trivial (fun hHeld => ?_)
        clear hK K
        refine norm_ (a' := ?_) ?_ ?_
        rotate_left
        · show Act.put _ (some 12) _ = _
          simp only [Act.put, List.setIfInBounds_toArray, List.set_cons_zero, List.set_cons_succ, i64_w, i32_w]
          rfl
        refine pure_ (i := 6) (N := some 2) (v := ?_) (a' := ?_) #[true, true, true, true, true, true, true] rfl rfl (by kernel_rfl) (fun _ _ _ h => h) (Or.inl ⟨by rfl, ?_⟩) ?_ ?_
        rotate_left
        · intro w'
          go_simp
          with_reducible rfl
        rotate_left
        · simp only [Act.put, List.setIfInBounds_toArray, List.set_cons_zero, List.set_cons_succ, i64_w, i32_w]
          rfl
        refine done_ (by kernel_rfl) ?_
        go_wp2
        go_ret
        have hs1 := HS2.out
        have hs2 := HS3.out
        have hg1 := HG1.out
        refine ⟨⟨w3.heap.size, H2, H1, rfl, ?_⟩, HB3.out.alloc HB3.out.size _⟩
        have hfr : (fresh n).firm = List.replicate (1024) (rep8 0 256) := by unfold fresh; rw [hcl]
        exact {
          ok := fresh_ok n
          fp := ⟨by omega, by simp⟩
          ff := ⟨by omega, by simp; omega⟩
          fn := ⟨by omega, by simp; omega⟩
          fl := fun k hk => by simp [Value.ownBlock] at hk
          n1 := ⟨by omega, by omega, by omega⟩
          n2 := fun k hk => by simp [Value.ownBlock] at hk
          hp := by rw [hfr, List.length_replicate]; exact alloc_at w3 _
          hf := by rw [hfr]; exact alloc_old HC3.out _
          hn := by rw [show (fresh n).now = (fresh n).firm from rfl, hfr]; exact alloc_old HA3.out _
          hl := World.ownsRow_nil _ _ _ _
          lt := fun k hk => hk.2 }
    · obtain ⟨m, rfl⟩ := Int.eq_ofNat_of_zero_le (show 0 ≤ n by omega)
      have hcl : clamp m = m := by unfold clamp; omega
      have hc : m ≤ 1024 := by omega
      go_enter Try.func10, Try.ntmps10
      go_wp2
      refine start_ (n := 7) (S := fun _ => True) (ds := []) #[false, false, false, false, false, false, false] (by kernel_rfl) rfl rfl trivial (fun hHeld => ?_)
      have HB1 : Hid (Below w.heap.size w w.drew) := (Below.refl _ w).drew
      generalize w.drew = w1 at HB1 hHeld ⊢
      refine pure_ (i := 0) (N := some 7) (v := ?_) (a' := ?_) #[true, false, false, false, false, false, false] rfl rfl (by kernel_rfl) (fun _ _ _ h => h) (Or.inl ⟨by rfl, ?_⟩) ?_ ?_
      rotate_left
      · intro w'
        go_simp
        with_reducible rfl
      rotate_left
      · simp only [Act.put, List.setIfInBounds_toArray, List.set_cons_zero, List.set_cons_succ, i64_w, i32_w]
        rfl
      refine pure_ (i := 2) (N := some 9) (v := ?_) (a' := ?_) #[true, false, true, false, false, false, false] rfl rfl (by kernel_rfl) (fun _ _ _ h => h) (Or.inl ⟨by rfl, ?_⟩) ?_ ?_
      rotate_left
      · intro w'
        go_simp
        with_reducible rfl
      rotate_left
      · simp only [Act.put, List.setIfInBounds_toArray, List.set_cons_zero, List.set_cons_succ, i64_w, i32_w]
        rfl
      refine two_ (i := 1) (j := 3) (Ni := some 8) (Nj := some 10) #[true, true, true, false, false, false, false] #[true, false, true, true, false, false, false] rfl rfl rfl rfl (by kernel_rfl) (by decide) (by decide) (fun K hK => ?_) (fun K hK => ?_)
      · refine value_ (v := .slice (some ⟨w1.heap.size, 0, none⟩) (m) (m)) (by rfl) rfl (execOp_makeSlice rfl rfl rfl (run_make_b (m) hc w1)) ?_
        refine hK.out _ _ trivial (fun hHeld => ?_)
        clear hK K
        refine norm_ (a' := ?_) ?_ ?_
        rotate_left
        · show Act.put _ (some 8) _ = _
          simp only [Act.put, List.setIfInBounds_toArray, List.set_cons_zero, List.set_cons_succ, i64_w, i32_w]
          rfl
        have HA2 := Lib.hid (alloc_at w1 (.cells ((List.replicate (m) (rep8 0 256)).flatMap bcells).toArray 66))
        have HB2 : Hid (Below w.heap.size w (w1.alloc (.cells ((List.replicate (m) (rep8 0 256)).flatMap bcells).toArray 66))) := HB1.out.alloc HB1.out.size _
        have HS2 : Hid ((w1.alloc (.cells ((List.replicate (m) (rep8 0 256)).flatMap bcells).toArray 66)).heap.size = w1.heap.size + 1) := size_alloc1 _ _
        have HG1 := Lib.hid HB1.out.size
        obtain ⟨H1, hH1⟩ : ∃ H1, w1.heap.size = H1 := ⟨_, rfl⟩
        rw [hH1] at HA2 HS2 HG1 ⊢
        clear hH1
        generalize w1.alloc (.cells ((List.replicate (m) (rep8 0 256)).flatMap bcells).toArray 66) = w2 at HA2 HB2 HS2 ⊢
        refine one_ (i := 3) (N := some 10) #[true, true, true, true, false, false, false] rfl rfl (by kernel_rfl) (by decide) (fun K hK => ?_)
        refine value_ (v := .slice (some ⟨w2.heap.size, 0, none⟩) (m) (m)) (by rfl) rfl (execOp_makeSlice rfl rfl rfl (run_make_b (m) hc w2)) ?_
        refine hK.out _ _ trivial (fun hHeld => ?_)
        clear hK K
        refine norm_ (a' := ?_) ?_ ?_
        rotate_left
        · show Act.put _ (some 10) _ = _
          simp only [Act.put, List.setIfInBounds_toArray, List.set_cons_zero, List.set_cons_succ, i64_w, i32_w]
          rfl
        have HA3 := Lib.hid (alloc_old HA2.out (.cells ((List.replicate (m) (rep8 0 256)).flatMap bcells).toArray 66))
        have HC3 := Lib.hid (alloc_at w2 (.cells ((List.replicate (m) (rep8 0 256)).flatMap bcells).toArray 66))
        have HB3 : Hid (Below w.heap.size w (w2.alloc (.cells ((List.replicate (m) (rep8 0 256)).flatMap bcells).toArray 66))) := HB2.out.alloc HB2.out.size _
        have HS3 : Hid ((w2.alloc (.cells ((List.replicate (m) (rep8 0 256)).flatMap bcells).toArray 66)).heap.size = w2.heap.size + 1) := size_alloc1 _ _
        obtain ⟨H2, hH2⟩ : ∃ H2, w2.heap.size = H2 := ⟨_, rfl⟩
        rw [hH2] at HC3 HS2 HS3 ⊢
        clear hH2
        generalize w2.alloc (.cells ((List.replicate (m) (rep8 0 256)).flatMap bcells).toArray 66) = w3 at HA3 HC3 HB3 HS3 ⊢
        refine pure_ (i := 4) (N := some 11) (v := ?_) (a' := ?_) #[true, true, true, true, true, false, false] rfl rfl (by kernel_rfl) (fun _ _ _ h => h) (Or.inl ⟨by rfl, ?_⟩) ?_ ?_
        rotate_left
        · intro w'
          go_simp
          with_reducible rfl
        rotate_left
        · simp only [Act.put, List.setIfInBounds_toArray, List.set_cons_zero, List.set_cons_succ, i64_w, i32_w]
          rfl
        refine one_ (i := 5) (N := some 12) #[true, true, true, true, true, true, false] rfl rfl (by kernel_rfl) (by decide) (fun K hK => ?_)
        refine value_ (v := .pointer (some ⟨w3.heap.size, 0, none⟩)) (w1 := w3.alloc (.cells #[.slice (some ⟨H1, 0, none⟩) (m) (m), .slice (some ⟨H2, 0, none⟩) (m) (m), .slice none 0 0, .int .i64 (-1), .bool false] 63)) (by rfl) rfl (execOp_box rfl rfl (by kernel_rfl)) ?_
        refine hK.out _ _ trivial (fun hHeld => ?_)
        clear hK K
        refine norm_ (a' := ?_) ?_ ?_
        rotate_left
        · show Act.put _ (some 12) _ = _
          simp only [Act.put, List.setIfInBounds_toArray, List.set_cons_zero, List.set_cons_succ, i64_w, i32_w]
          rfl
        refine pure_ (i := 6) (N := some 2) (v := ?_) (a' := ?_) #[true, true, true, true, true, true, true] rfl rfl (by kernel_rfl) (fun _ _ _ h => h) (Or.inl ⟨by rfl, ?_⟩) ?_ ?_
        rotate_left
        · intro w'
          go_simp
          with_reducible rfl
        rotate_left
        · simp only [Act.put, List.setIfInBounds_toArray, List.set_cons_zero, List.set_cons_succ, i64_w, i32_w]
          rfl
        refine done_ (by kernel_rfl) ?_
        go_wp2
        go_ret
        have hs1 := HS2.out
        have hs2 := HS3.out
        have hg1 := HG1.out
        refine ⟨⟨w3.heap.size, H1, H2, rfl, ?_⟩, HB3.out.alloc HB3.out.size _⟩
        have hfr : (fresh (m : Int)).firm = List.replicate (m) (rep8 0 256) := by unfold fresh; rw [hcl]
        exact {
          ok := fresh_ok (m : Int)
          fp := ⟨by omega, by simp⟩
          ff := ⟨by omega, by simp; omega⟩
          fn := ⟨by omega, by simp; omega⟩
          fl := fun k hk => by simp [Value.ownBlock] at hk
          n1 := ⟨by omega, by omega, by omega⟩
          n2 := fun k hk => by simp [Value.ownBlock] at hk
          hp := by rw [hfr, List.length_replicate]; exact alloc_at w3 _
          hf := by rw [hfr]; exact alloc_old HA3.out _
          hn := by rw [show (fresh (m : Int)).now = (fresh (m : Int)).firm from rfl, hfr]; exact alloc_old HC3.out _
          hl := World.ownsRow_nil _ _ _ _
          lt := fun k hk => hk.2 }
      · refine value_ (v := .slice (some ⟨w1.heap.size, 0, none⟩) (m) (m)) (by rfl) rfl (execOp_makeSlice rfl rfl rfl (run_make_b (m) hc w1)) ?_
        refine hK.out _ _ trivial (fun hHeld => ?_)
        clear hK K
        refine norm_ (a' := ?_) ?_ ?_
        rotate_left
        · show Act.put _ (some 10) _ = _
          simp only [Act.put, List.setIfInBounds_toArray, List.set_cons_zero, List.set_cons_succ, i64_w, i32_w]
          rfl
        have HA2 := Lib.hid (alloc_at w1 (.cells ((List.replicate (m) (rep8 0 256)).flatMap bcells).toArray 66))
        have HB2 : Hid (Below w.heap.size w (w1.alloc (.cells ((List.replicate (m) (rep8 0 256)).flatMap bcells).toArray 66))) := HB1.out.alloc HB1.out.size _
        have HS2 : Hid ((w1.alloc (.cells ((List.replicate (m) (rep8 0 256)).flatMap bcells).toArray 66)).heap.size = w1.heap.size + 1) := size_alloc1 _ _
        have HG1 := Lib.hid HB1.out.size
        obtain ⟨H1, hH1⟩ : ∃ H1, w1.heap.size = H1 := ⟨_, rfl⟩
        rw [hH1] at HA2 HS2 HG1 ⊢
        clear hH1
        generalize w1.alloc (.cells ((List.replicate (m) (rep8 0 256)).flatMap bcells).toArray 66) = w2 at HA2 HB2 HS2 ⊢
        refine one_ (i := 1) (N := some 8) #[true, true, true, true, false, false, false] rfl rfl (by kernel_rfl) (by decide) (fun K hK => ?_)
        refine value_ (v := .slice (some ⟨w2.heap.size, 0, none⟩) (m) (m)) (by rfl) rfl (execOp_makeSlice rfl rfl rfl (run_make_b (m) hc w2)) ?_
        refine hK.out _ _ trivial (fun hHeld => ?_)
        clear hK K
        refine norm_ (a' := ?_) ?_ ?_
        rotate_left
        · show Act.put _ (some 8) _ = _
          simp only [Act.put, List.setIfInBounds_toArray, List.set_cons_zero, List.set_cons_succ, i64_w, i32_w]
          rfl
        have HA3 := Lib.hid (alloc_old HA2.out (.cells ((List.replicate (m) (rep8 0 256)).flatMap bcells).toArray 66))
        have HC3 := Lib.hid (alloc_at w2 (.cells ((List.replicate (m) (rep8 0 256)).flatMap bcells).toArray 66))
        have HB3 : Hid (Below w.heap.size w (w2.alloc (.cells ((List.replicate (m) (rep8 0 256)).flatMap bcells).toArray 66))) := HB2.out.alloc HB2.out.size _
        have HS3 : Hid ((w2.alloc (.cells ((List.replicate (m) (rep8 0 256)).flatMap bcells).toArray 66)).heap.size = w2.heap.size + 1) := size_alloc1 _ _
        obtain ⟨H2, hH2⟩ : ∃ H2, w2.heap.size = H2 := ⟨_, rfl⟩
        rw [hH2] at HC3 HS2 HS3 ⊢
        clear hH2
        generalize w2.alloc (.cells ((List.replicate (m) (rep8 0 256)).flatMap bcells).toArray 66) = w3 at HA3 HC3 HB3 HS3 ⊢
        refine pure_ (i := 4) (N := some 11) (v := ?_) (a' := ?_) #[true, true, true, true, true, false, false] rfl rfl (by kernel_rfl) (fun _ _ _ h => h) (Or.inl ⟨by rfl, ?_⟩) ?_ ?_
        rotate_left
        · intro w'
          go_simp
          with_reducible rfl
        rotate_left
        · simp only [Act.put, List.setIfInBounds_toArray, List.set_cons_zero, List.set_cons_succ, i64_w, i32_w]
          rfl
        refine one_ (i := 5) (N := some 12) #[true, true, true, true, true, true, false] rfl rfl (by kernel_rfl) (by decide) (fun K hK => ?_)
        refine value_ (v := .pointer (some ⟨w3.heap.size, 0, none⟩)) (w1 := w3.alloc (.cells #[.slice (some ⟨H2, 0, none⟩) (m) (m), .slice (some ⟨H1, 0, none⟩) (m) (m), .slice none 0 0, .int .i64 (-1), .bool false] 63)) (by rfl) rfl (execOp_box rfl rfl (by kernel_rfl)) ?_
        refine hK.out _ _ trivial (fun hHeld => ?_)
        clear hK K
        refine norm_ (a' := ?_) ?_ ?_
        rotate_left
        · show Act.put _ (some 12) _ = _
          simp only [Act.put, List.setIfInBounds_toArray, List.set_cons_zero, List.set_cons_succ, i64_w, i32_w]
          rfl
        refine pure_ (i := 6) (N := some 2) (v := ?_) (a' := ?_) #[true, true, true, true, true, true, true] rfl rfl (by kernel_rfl) (fun _ _ _ h => h) (Or.inl ⟨by rfl, ?_⟩) ?_ ?_
        rotate_left
        · intro w'
          go_simp
          with_reducible rfl
        rotate_left
        · simp only [Act.put, List.setIfInBounds_toArray, List.set_cons_zero, List.set_cons_succ, i64_w, i32_w]
          rfl
        refine done_ (by kernel_rfl) ?_
        go_wp2
        go_ret
        have hs1 := HS2.out
        have hs2 := HS3.out
        have hg1 := HG1.out
        refine ⟨⟨w3.heap.size, H2, H1, rfl, ?_⟩, HB3.out.alloc HB3.out.size _⟩
        have hfr : (fresh (m : Int)).firm = List.replicate (m) (rep8 0 256) := by unfold fresh; rw [hcl]
        exact {
          ok := fresh_ok (m : Int)
          fp := ⟨by omega, by simp⟩
          ff := ⟨by omega, by simp; omega⟩
          fn := ⟨by omega, by simp; omega⟩
          fl := fun k hk => by simp [Value.ownBlock] at hk
          n1 := ⟨by omega, by omega, by omega⟩
          n2 := fun k hk => by simp [Value.ownBlock] at hk
          hp := by rw [hfr, List.length_replicate]; exact alloc_at w3 _
          hf := by rw [hfr]; exact alloc_old HC3.out _
          hn := by rw [show (fresh (m : Int)).now = (fresh (m : Int)).firm from rfl, hfr]; exact alloc_old HA3.out _
          hl := World.ownsRow_nil _ _ _ _
          lt := fun k hk => hk.2 }
end Go.Proofs.Ytmphnfkohilojaa.Dev
