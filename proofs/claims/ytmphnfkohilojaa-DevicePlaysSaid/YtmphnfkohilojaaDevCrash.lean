/- Layer device: a crash. -/
import Derived.Test.YtmphnfkohilojaaDevOps
namespace Go.Proofs.Ytmphnfkohilojaa.Dev
open Go.RowKit Go.Own Go.DevL Go.Blk Go.Proofs.YtmphnfkohilojaaW.PrintLast Go.Proofs.YtmphnfkohilojaaW.PrintWords
set_option linter.unusedVariables false
set_option linter.unusedSimpArgs false
variable {F : Nat → Prop} {w w' : World} {p gf gn : Nat} {vl : Value} {d : Dv}
set_option maxHeartbeats 2000000 in
theorem crash_calls (h : At F w p gf gn vl d) (keep : Int) (hk0 : 0 ≤ keep) (hk1 : keep < 18446744073709551616) (hl : d.late.length ≤ 1000000) :
    Calls Try.prog 16 #[.pointer (some ⟨p, 0, none⟩), .int .u64 keep] w fun e w' => e = .returned (.tuple #[]) ∧ At F w' p gf gn (.slice none 0 0) (d.crash keep) ∧ Fr F w w' := by
  have hx := blk5 h.hp
  have H := Lib.hid h
  have HL := Lib.hid hl
  clear h
  rcases row_some H.out.hl with ⟨rfl, h0⟩ | ⟨gl, cap, rfl, _⟩
  · go_enter Try.func16, Try.ntmps16
    go_wp2
    go_loopw [4, 5, 13] (fun s4 s5 s13 wr => s13 = .int .i64 0 ∧ Hid (wr = w)) (fun _ _ s13 _ => 0)
    case atStart => exact ⟨rfl, Lib.hid rfl⟩
    case round =>
      obtain ⟨rfl, hw⟩ := hrel
      obtain rfl := hw.out
      go_wp2
      have HP := Lib.hid H.out.hp
      obtain ⟨X, hXX⟩ : ∃ X, d.firm = X := ⟨_, rfl⟩
      have HX := Lib.hid (show X.length = d.firm.length ∧ ∀ b ∈ X, b.size = 256 by rw [← hXX]; exact ⟨rfl, H.out.ok.sz⟩)
      have HRF := Lib.hid (show wr.heap[gf]? = some (.cells (X.flatMap bcells).toArray 66 (0, 0)) by rw [← hXX]; exact H.out.hf)
      have HRN := Lib.hid (show wr.heap[gn]? = wr.heap[gn]? from rfl)
      have HRR := Lib.hid (Fr.refl F wr)
      have HK := Lib.hid (show X = kept keep 0 d.late d.firm by rw [← hXX, List.length_eq_zero_iff.1 h0]; rfl)
      clear hXX
      have HP2 := Lib.hid (set_at HP.out 2 (.slice none 0 0))
      have HFF2 := Lib.hid (set_far HRF.out (p := ⟨p, 2, none⟩) (fun e => H.out.n1.1 e.symm) (.slice none 0 0))
      have HN2 := Lib.hid (set_far (HRN.out.trans H.out.hn) (p := ⟨p, 2, none⟩) (fun e => H.out.n1.2.1 e.symm) (.slice none 0 0))
      have HF2 := Lib.hid (HRR.out.trans (Fr.setCell (F := F) wr (p := ⟨p, 2, none⟩) H.out.fp (.slice none 0 0)) (fun _ _ h => h))
      have e7 : (#[.slice (some ⟨gf, 0, none⟩) d.firm.length d.firm.length, .slice (some ⟨gn, 0, none⟩) d.firm.length d.firm.length, .slice none 0 0, .int .i64 d.fuse, .bool d.dead] : Array Value).setIfInBounds 2 (.slice none 0 0) = #[.slice (some ⟨gf, 0, none⟩) d.firm.length d.firm.length, .slice (some ⟨gn, 0, none⟩) d.firm.length d.firm.length, .slice none 0 0, .int .i64 d.fuse, .bool d.dead] := rfl
      rw [e7] at HP2
      clear e7 hx
      generalize wr.setCell ⟨p, 2, none⟩ (.slice none 0 0) = w2 at HP2 HFF2 HN2 HF2 ⊢
      refine start_ (n := 9) (S := fun w' => w'.heap[p]? = some (.cells #[.slice (some ⟨gf, 0, none⟩) d.firm.length d.firm.length, .slice (some ⟨gn, 0, none⟩) d.firm.length d.firm.length, .slice none 0 0, .int .i64 d.fuse, .bool d.dead] 63 (0, 0))) (ds := [8]) #[false, false, false, false, false, false, false, false, false] (by kernel_rfl) rfl rfl (HP2.out) (fun hHeld => ?_)
      have HP3 := Lib.hid (show w2.drew.heap[p]? = _ from HP2.out)
      have HFF3 := Lib.hid (show w2.drew.heap[gf]? = _ from HFF2.out)
      have HN3 := Lib.hid (show w2.drew.heap[gn]? = _ from HN2.out)
      have HF3 := Lib.hid (HF2.out.trans (Fr.drew F w2) (fun _ _ h => h))
      generalize w2.drew = w3 at HP3 HFF3 HN3 HF3 hHeld ⊢
      clear HP2 HFF2 HN2 HF2
      refine pure_ (i := 0) (N := some 37) (v := ?_) (a' := ?_) #[true, false, false, false, false, false, false, false, false] rfl rfl (by kernel_rfl) (fun _ _ _ h => h) (Or.inl ⟨by rfl, ?_⟩) ?_ ?_
      rotate_left
      · intro w'
        go_simp
        with_reducible rfl
      rotate_left
      · simp only [Act.put, List.setIfInBounds_toArray, List.set_cons_zero, List.set_cons_succ, i64_w, i32_w]
        rfl
      refine pure_ (i := 1) (N := some 38) (v := ?_) (a' := ?_) #[true, true, false, false, false, false, false, false, false] rfl rfl (by kernel_rfl) (fun _ _ _ h => h) (Or.inl ⟨by rfl, ?_⟩) ?_ ?_
      rotate_left
      · intro w'
        go_simp
        with_reducible rfl
      rotate_left
      · simp only [Act.put, List.setIfInBounds_toArray, List.set_cons_zero, List.set_cons_succ, i64_w, i32_w]
        rfl
      refine pure_ (i := 2) (N := some 39) (v := ?_) (a' := ?_) #[true, true, true, false, false, false, false, false, false] rfl rfl (by kernel_rfl) (fun _ _ _ h => h) (Or.inl ⟨by rfl, ?_⟩) ?_ ?_
      rotate_left
      · intro w'
        go_simp
        with_reducible rfl
      rotate_left
      · simp only [Act.put, List.setIfInBounds_toArray, List.set_cons_zero, List.set_cons_succ, i64_w, i32_w]
        rfl
      refine take_ (i := 3) (N := some 40) (v := ?_) (a' := ?_) #[true, true, true, true, false, false, false, false, false] rfl rfl (by kernel_rfl) (fun _ _ _ h => h) (Or.inl ⟨by rfl, ?_⟩) hHeld ?_ ?_
      rotate_left
      · intro w' hS
        have s5 := blk5 hS
        obtain ⟨z0, _, z1, _, z2, _, z3, _, z4, _⟩ := s5
        go_simp
        with_reducible rfl
      rotate_left
      · simp only [Act.put, List.setIfInBounds_toArray, List.set_cons_zero, List.set_cons_succ, i64_w, i32_w]
        rfl
      refine pure_ (i := 4) (N := some 41) (v := ?_) (a' := ?_) #[true, true, true, true, true, false, false, false, false] rfl rfl (by kernel_rfl) (fun _ _ _ h => h) (Or.inl ⟨by rfl, ?_⟩) ?_ ?_
      rotate_left
      · intro w'
        go_simp
        with_reducible rfl
      rotate_left
      · simp only [Act.put, List.setIfInBounds_toArray, List.set_cons_zero, List.set_cons_succ, i64_w, i32_w]
        rfl
      refine pure_ (i := 5) (N := some 42) (v := ?_) (a' := ?_) #[true, true, true, true, true, true, false, false, false] rfl rfl (by kernel_rfl) (fun _ _ _ h => h) (Or.inl ⟨by rfl, ?_⟩) ?_ ?_
      rotate_left
      · intro w'
        go_simp
        with_reducible rfl
      rotate_left
      · simp only [Act.put, List.setIfInBounds_toArray, List.set_cons_zero, List.set_cons_succ, i64_w, i32_w]
        rfl
      refine pure_ (i := 6) (N := some 43) (v := ?_) (a' := ?_) #[true, true, true, true, true, true, true, false, false] rfl rfl (by kernel_rfl) (fun _ _ _ h => h) (Or.inl ⟨by rfl, ?_⟩) ?_ ?_
      rotate_left
      · intro w'
        go_simp
        with_reducible rfl
      rotate_left
      · simp only [Act.put, List.setIfInBounds_toArray, List.set_cons_zero, List.set_cons_succ, i64_w, i32_w]
        rfl
      refine take_ (i := 7) (N := some 44) (v := ?_) (a' := ?_) #[true, true, true, true, true, true, true, true, false] rfl rfl (by kernel_rfl) (fun _ _ _ h => h) (Or.inl ⟨by rfl, ?_⟩) hHeld ?_ ?_
      rotate_left
      · intro w' hS
        have s5 := blk5 hS
        obtain ⟨z0, _, z1, _, z2, _, z3, _, z4, _⟩ := s5
        go_simp
        with_reducible rfl
      rotate_left
      · simp only [Act.put, List.setIfInBounds_toArray, List.set_cons_zero, List.set_cons_succ, i64_w, i32_w]
        rfl
      refine last_ (i := 8) (N := some 45) #[true, true, true, true, true, true, true, true, true] rfl rfl (by kernel_rfl) (by decide) (fun K hK => ?_)
      have HCP := run_copy_all (P := Try.prog) w3 60 60 3 66 256 gn d.firm.length d.firm.length gf d.firm.length (d.now.flatMap bcells) (X.flatMap bcells) 66 66 Try.underlying60 info_b HN3.out HFF3.out (by rw [flat_length (lens HX.out.2), HX.out.1]) (by rw [flat_length H.out.lensn, H.out.ok.now_length]) (fun v hv => by obtain ⟨x, _, hx⟩ := List.mem_flatMap.1 hv; exact bcells_one x v hx)
      refine value_ (by rfl) rfl (execOp_copy rfl rfl rfl HCP) ?_
      clear HCP
      refine hK.out _ _ ?_
      clear hK K
      refine norm_ (a' := ?_) ?_ ?_
      rotate_left
      · show Act.put _ (some 45) _ = _
        simp only [Act.put, List.setIfInBounds_toArray, List.set_cons_zero, List.set_cons_succ, i64_w, i32_w]
        rfl
      refine done_ (by kernel_rfl) ?_
      have HP4 := Lib.hid ((setRow_other w3 gn p (X.flatMap bcells).toArray H.out.n1.2.1).trans HP3.out)
      have HFF4 := Lib.hid ((setRow_other w3 gn gf (X.flatMap bcells).toArray H.out.n1.2.2).trans HFF3.out)
      have HN4 := Lib.hid (setRow_heap w3 gn _ (X.flatMap bcells).toArray _ _ HN3.out)
      have HF4 := Lib.hid (HF3.out.trans (Fr.setRow w3 (g := gn) H.out.fn (X.flatMap bcells).toArray) (fun _ _ h => h))
      generalize w3.setRow gn (X.flatMap bcells).toArray = w4 at HP4 HFF4 HN4 HF4 ⊢
      clear HP3 HFF3 HN3 HF3 hHeld
      have hx := blk5 HP4.out
      go_wp2
      go_end0
      have HK2 : X = kept keep 0 d.late d.firm := by
        have h := HK.out
        simpa [kept] using h
      refine ⟨rfl, ?_, (HF4.out.trans (Fr.setCell (F := F) w4 (p := ⟨p, 3, none⟩) H.out.fp (.int .i64 (-1))) (fun _ _ h => h)).trans (Fr.setCell (F := F) _ (p := ⟨p, 4, none⟩) H.out.fp (.bool false)) (fun _ _ h => h)⟩
      have hp := set_at (set_at HP4.out 3 (.int .i64 (-1))) 4 (.bool false)
      have hff := set_far (set_far HFF4.out (p := ⟨p, 3, none⟩) (fun e => H.out.n1.1 e.symm) (.int .i64 (-1))) (p := ⟨p, 4, none⟩) (fun e => H.out.n1.1 e.symm) (.bool false)
      have hnn := set_far (set_far HN4.out (p := ⟨p, 3, none⟩) (fun e => H.out.n1.2.1 e.symm) (.int .i64 (-1))) (p := ⟨p, 4, none⟩) (fun e => H.out.n1.2.1 e.symm) (.bool false)
      have hlen : (kept keep 0 d.late d.firm).length = d.firm.length := kept_length ..
      exact {
        ok := H.out.ok.crash keep
        fp := H.out.fp
        ff := H.out.ff
        fn := H.out.fn
        fl := fun k hk => by simp [Value.ownBlock] at hk
        n1 := H.out.n1
        n2 := fun k hk => by simp [Value.ownBlock] at hk
        hp := by
          show _ = some (Obj.cells #[.slice (some ⟨gf, 0, none⟩) (kept keep 0 d.late d.firm).length (kept keep 0 d.late d.firm).length, .slice (some ⟨gn, 0, none⟩) (kept keep 0 d.late d.firm).length (kept keep 0 d.late d.firm).length, .slice none 0 0, .int .i64 (-1), .bool false] 63 (0, 0))
          rw [hlen]; exact hp
        hf := by rw [HK2] at hff; exact hff
        hn := by rw [HK2] at hnn; exact hnn
        hl := World.ownsRow_nil _ _ _ _
        lt := fun k hk => by
          have h1 := H.out.lt k hk
          have h2 := HF4.out.size
          simp only [World.setCell, Array.size_modify]; omega }
  · go_enter Try.func16, Try.ntmps16
    go_wp2
    go_loopw [4, 5, 13] (fun s4 s5 s13 wr => ∃ (k : Nat) (X : List ByteArray), s13 = .int .i64 k ∧ k ≤ d.late.length ∧ Hid (kept keep k (d.late.drop k) X = kept keep 0 d.late d.firm) ∧ Hid (X.length = d.firm.length ∧ ∀ b ∈ X, b.size = 256)
      ∧ Hid (wr.heap[p]? = w.heap[p]?) ∧ Hid (wr.heap[gf]? = some (.cells (X.flatMap bcells).toArray 66 (0, 0))) ∧ Hid (wr.heap[gn]? = w.heap[gn]?) ∧ Hid (wr.heap[gl]? = w.heap[gl]?) ∧ Hid (Fr F w wr)) (fun _ _ s13 _ => d.late.length - (intOf s13).toNat)
    case atStart => exact ⟨0, d.firm, rfl, Nat.zero_le _, Lib.hid (by rw [List.drop_zero]), Lib.hid ⟨rfl, H.out.ok.sz⟩, Lib.hid rfl, Lib.hid H.out.hf, Lib.hid rfl, Lib.hid rfl, Lib.hid (Fr.refl _ _)⟩
    case round =>
      obtain ⟨k, X, rfl, hkl, HK, HX, HRP, HRF, HRN, HRL, HRR⟩ := hrel
      clear hx
      have HP := Lib.hid (HRP.out.trans H.out.hp)
      have hx := blk5 HP.out
      by_cases hlt : k < d.late.length
      · have HO := Lib.hid (row_kept H.out.hl (w' := wr) (fun k hk => by simp only [Value.ownBlock, Option.some.injEq] at hk; rw [← hk]; exact HRL.out))
        obtain ⟨g', cap', e, _, hr⟩ := row_range HO.out H.out.lensl k hlt
        simp only [Value.slice.injEq, Option.some.injEq, Addr.mk.injEq, and_true, true_and] at e
        obtain ⟨rfl, rfl⟩ := e
        have HR := Lib.hid hr
        clear hr
        obtain ⟨x, hx⟩ : ∃ x, d.late[k] = x := ⟨_, rfl⟩
        rw [hx] at HR
        have HXL := Lib.hid (H.out.ok.la x (hx ▸ List.getElem_mem hlt))
        have HXE := Lib.hid hx
        clear hx
        have HW := Lib.hid (wcells_length (x := x) HXL.out.2)
        have hx := blk5 HP.out
        go_wp2_with (first | ((with_reducible refine gate_dst (N := 17) rfl ?_); refine wpList_val rfl rfl (execOp_load rfl rfl (run_loadAt_mid wr gl (k * 257) 68 (wcells x) _ HR.out Try.underlying68 rfl (by rw [HW.out]; exact (info_parts info_w).elim fun i h => by rw [h.1]; exact congrArg some h.2.2.1))) ?_) | ((with_reducible refine gate_dst (N := 5) rfl ?_); refine wpList_val rfl rfl (execOp_alloc rfl (run_alloc_w _)) ?_) | ((with_reducible refine gate_store (p := 5) rfl ?_); refine stop_here ?_))
        refine Lib.hid ?_
        have HZ := run_storeAt_row (P := Try.prog) (wr.alloc (.cells (zw 0).toArray 68)) wr.heap.size 0 68 (zw 0) 68 (wcells x).toArray (alloc_at wr _) (by rw [List.size_toArray, zw_length, HW.out]; omega) (by rw [List.size_toArray, HW.out]; exact (info_parts info_w).elim fun i h => by rw [h.1]; exact congrArg some h.2.2.1) (by rw [List.toList_toArray]; exact wcells_one x)
        refine wpList_none rfl rfl (execOp_store rfl rfl rfl HZ) ?_
        clear HZ hx
        rw [List.toList_toArray, over_all (by rw [zw_length, HW.out]; omega)]
        obtain ⟨G, hG⟩ : ∃ G, wr.heap.size = G := ⟨_, rfl⟩
        rw [hG]
        have HB2 : Hid (Below wr.heap.size wr ((wr.alloc (.cells (zw 0).toArray 68)).setRow G (wcells x).toArray)) := below_setRow ((Below.refl _ _).alloc (Nat.le_refl _) _) (by omega) _
        have BG2 : Hid (((wr.alloc (.cells (zw 0).toArray 68)).setRow G (wcells x).toArray).heap[G]? = some (.cells (wcells x).toArray 68 (0, 0))) := setRow_heap _ G _ _ _ _ (by rw [← hG]; exact alloc_at wr _)
        generalize (wr.alloc (.cells (zw 0).toArray 68)).setRow G (wcells x).toArray = w2 at HB2 BG2 ⊢
        have HLP := Lib.hid (lt_of HP.out)
        have HP2 := Lib.hid ((HB2.out.block p HLP.out).trans HP.out)
        have HRF2 := Lib.hid (below_old HRF.out HB2.out)
        have HFR2 := Lib.hid (HRR.out.trans (Fr.of_below (F := F) HB2.out) (fun _ _ h => h))
        have HRP2 := Lib.hid ((HB2.out.block p HLP.out).trans HRP.out)
        have HRN2 := Lib.hid ((HB2.out.block gn (lt_of (HRN.out.trans H.out.hn))).trans HRN.out)
        have HRL2 := Lib.hid ((HB2.out.block gl (HO.out.lt gl rfl).2).trans HRL.out)
        have HFG : Hid (G ≠ p ∧ G ≠ gf ∧ G ≠ gn ∧ G ≠ gl) := by
          have h1 := HLP.out
          have h2 := lt_of HRF.out
          have h3 := lt_of (HRN.out.trans H.out.hn)
          have h4 := (HO.out.lt gl rfl).2
          exact ⟨by omega, by omega, by omega, by omega⟩
        clear HB2 HP HRF HRR HRP HRN HRL HR HO HLP hG
        have hx := blk5 HP2.out
        go_wp2
        · have HBT := Lib.hid ((bit_go keep k hk0 hk1).symm.trans (by assumption))
          clear hx
          have hxi := HXL.out.1
          refine start_ (n := 10) (S := fun w' => w'.heap[p]? = some (.cells #[.slice (some ⟨gf, 0, none⟩) d.firm.length d.firm.length, .slice (some ⟨gn, 0, none⟩) d.firm.length d.firm.length, .slice (some ⟨gl, 0, none⟩) d.late.length cap, .int .i64 d.fuse, .bool d.dead] 63 (0, 0)) ∧ w'.heap[G]? = some (.cells (wcells x).toArray 68 (0, 0))) (ds := [9]) #[false, false, false, false, false, false, false, false, false, false] (by kernel_rfl) rfl rfl (⟨HP2.out, BG2.out⟩) (fun hHeld => ?_)
          have HP3 := Lib.hid (show w2.drew.heap[p]? = _ from HP2.out)
          have HRP3 := Lib.hid (show w2.drew.heap[p]? = _ from HRP2.out)
          have HRF3 := Lib.hid (show w2.drew.heap[gf]? = _ from HRF2.out)
          have HRN3 := Lib.hid (show w2.drew.heap[gn]? = _ from HRN2.out)
          have HRL3 := Lib.hid (show w2.drew.heap[gl]? = _ from HRL2.out)
          have HFR3 := Lib.hid (HFR2.out.trans (Fr.drew F w2) (fun _ _ h => h))
          generalize w2.drew = w3 at HP3 HRP3 HRF3 HRN3 HRL3 HFR3 hHeld ⊢
          clear HP2 HRP2 HRF2 HRN2 HRL2 HFR2
          refine pure_ (i := 0) (N := some 24) (v := ?_) (a' := ?_) #[true, false, false, false, false, false, false, false, false, false] rfl rfl (by kernel_rfl) (fun _ _ _ h => h) (Or.inl ⟨by rfl, ?_⟩) ?_ ?_
          rotate_left
          · intro w'
            go_simp
            with_reducible rfl
          rotate_left
          · simp only [Act.put, List.setIfInBounds_toArray, List.set_cons_zero, List.set_cons_succ, i64_w, i32_w]
            rfl
          refine pure_ (i := 1) (N := some 25) (v := ?_) (a' := ?_) #[true, true, false, false, false, false, false, false, false, false] rfl rfl (by kernel_rfl) (fun _ _ _ h => h) (Or.inl ⟨by rfl, ?_⟩) ?_ ?_
          rotate_left
          · intro w'
            go_simp
            with_reducible rfl
          rotate_left
          · simp only [Act.put, List.setIfInBounds_toArray, List.set_cons_zero, List.set_cons_succ, i64_w, i32_w]
            rfl
          refine pure_ (i := 2) (N := some 26) (v := ?_) (a' := ?_) #[true, true, true, false, false, false, false, false, false, false] rfl rfl (by kernel_rfl) (fun _ _ _ h => h) (Or.inl ⟨by rfl, ?_⟩) ?_ ?_
          rotate_left
          · intro w'
            go_simp
            with_reducible rfl
          rotate_left
          · simp only [Act.put, List.setIfInBounds_toArray, List.set_cons_zero, List.set_cons_succ, i64_w, i32_w]
            rfl
          refine take_ (i := 3) (N := some 27) (v := ?_) (a' := ?_) #[true, true, true, true, false, false, false, false, false, false] rfl rfl (by kernel_rfl) (fun _ _ _ h => h) (Or.inl ⟨by rfl, ?_⟩) hHeld ?_ ?_
          rotate_left
          · intro w' hS
            have s5 := blk5 hS.1
            obtain ⟨z0, _, z1, _, z2, _, z3, _, z4, _⟩ := s5
            go_simp
            with_reducible rfl
          rotate_left
          · simp only [Act.put, List.setIfInBounds_toArray, List.set_cons_zero, List.set_cons_succ, i64_w, i32_w]
            rfl
          refine pure_ (i := 4) (N := some 28) (v := ?_) (a' := ?_) #[true, true, true, true, true, false, false, false, false, false] rfl rfl (by kernel_rfl) (fun _ _ _ h => h) (Or.inl ⟨by rfl, ?_⟩) ?_ ?_
          rotate_left
          · intro w'
            go_simp
            with_reducible rfl
          rotate_left
          · simp only [Act.put, List.setIfInBounds_toArray, List.set_cons_zero, List.set_cons_succ, i64_w, i32_w]
            rfl
          refine take_ (i := 5) (N := some 29) (v := ?_) (a' := ?_) #[true, true, true, true, true, true, false, false, false, false] rfl rfl (by kernel_rfl) (fun _ _ _ h => h) (Or.inl ⟨by rfl, ?_⟩) hHeld ?_ ?_
          rotate_left
          · intro w' hS
            have s6 : w'.cell? ⟨G, 0, none⟩ = some (.int .i64 (x.1 : Int)) := (cell_at hS.2 0).trans rfl
            go_simp
            with_reducible rfl
          rotate_left
          · simp only [Act.put, List.setIfInBounds_toArray, List.set_cons_zero, List.set_cons_succ, i64_w, i32_w]
            rfl
          refine pure_ (i := 6) (N := some 30) (v := ?_) (a' := ?_) #[true, true, true, true, true, true, true, false, false, false] rfl rfl (by kernel_rfl) (fun _ _ _ h => h) (Or.inl ⟨by rfl, ?_⟩) ?_ ?_
          rotate_left
          · intro w'
            go_simp
            with_reducible rfl
          rotate_left
          · simp only [Act.put, List.setIfInBounds_toArray, List.set_cons_zero, List.set_cons_succ, i64_w, i32_w]
            rfl
          refine take_ (i := 7) (N := some 31) (v := .agg (bcells x.2).toArray) (a' := ?_) #[true, true, true, true, true, true, true, true, false, false] rfl rfl (by kernel_rfl) (fun _ _ _ h => h) (yieldsIf_load_mid (by rfl) 66 (.tmp 30) rfl G 1 rfl (bcells x.2) _ (fun w' hS j v hv => by rw [cell_of_row w' G _ _ _ _ hS.2, List.getElem?_toArray, wcells, Nat.add_comm 1 j, List.getElem?_cons_succ]; exact hv) Try.underlying66 rfl (by rw [bcells_length, HXL.out.2]; exact info_b)) hHeld ?_ ?_
          rotate_left
          · simp only [Act.put, List.setIfInBounds_toArray, List.set_cons_zero, List.set_cons_succ, i64_w, i32_w]
            rfl
          refine pure_ (i := 8) (N := some 32) (v := ?_) (a' := ?_) #[true, true, true, true, true, true, true, true, true, false] rfl rfl (by kernel_rfl) (fun _ _ _ h => h) (Or.inl ⟨by rfl, ?_⟩) ?_ ?_
          rotate_left
          · intro w'
            go_simp
            with_reducible rfl
          rotate_left
          · simp only [Act.put, List.setIfInBounds_toArray, List.set_cons_zero, List.set_cons_succ, i64_w, i32_w]
            rfl
          refine last_ (i := 9) (N := none) #[true, true, true, true, true, true, true, true, true, true] rfl rfl (by kernel_rfl) (by decide) (fun K hK => ?_)
          have HST := run_storeAt_row (P := Try.prog) w3 gf (x.1 * 256) 66 (X.flatMap bcells) 66 (bcells x.2).toArray HRF3.out (by rw [List.size_toArray, bcells_length, HXL.out.2, flat_length (lens HX.out.2), HX.out.1]; have := HXL.out.1; omega) (by rw [List.size_toArray, bcells_length, HXL.out.2]; exact info_b) (by rw [List.toList_toArray]; exact bcells_one _)
          rw [List.toList_toArray] at HST
          refine skip_ (by rfl) rfl (execOp_store rfl rfl rfl HST) ?_
          clear HST
          refine hK.out _ _ ?_
          clear hK K
          refine done_ (by kernel_rfl) ?_
          have HCT := Lib.hid (show kept keep (k + 1) (d.late.drop (k + 1)) (put X x) = kept keep 0 d.late d.firm by
            rw [← HK.out, List.drop_eq_getElem_cons hlt, HXE.out, kept, if_pos HBT.out])
          have HR4 : Hid ((w3.setRow gf (over (X.flatMap bcells) (x.1 * 256) (bcells x.2)).toArray).heap[gf]? = some (.cells ((put X x).flatMap bcells).toArray 66 (0, 0))) := by
            have h := setRow_heap w3 gf (X.flatMap bcells).toArray (over (X.flatMap bcells) (x.1 * 256) (bcells x.2)).toArray _ _ HRF3.out
            have e : over (X.flatMap bcells) (x.1 * 256) (bcells x.2) = (put X x).flatMap bcells := by
              unfold put
              rw [flat_set (lens HX.out.2) x.1 (by rw [HX.out.1]; exact HXL.out.1) x.2]
              unfold over
              rw [bcells_length, HXL.out.2]
            rw [e] at h ⊢
            exact h
          have HX4 := Lib.hid (show (put X x).length = d.firm.length ∧ ∀ b ∈ put X x, b.size = 256 from ⟨(length_put X x).trans HX.out.1, size_put HX.out.2 HXL.out.2⟩)
          have hgl : gl ≠ gf := fun e => (H.out.n2 gl rfl).2.1 e
          have HP4 := Lib.hid ((setRow_other w3 gf p (over (X.flatMap bcells) (x.1 * 256) (bcells x.2)).toArray H.out.n1.1).trans HRP3.out)
          have HN4 := Lib.hid ((setRow_other w3 gf gn (over (X.flatMap bcells) (x.1 * 256) (bcells x.2)).toArray (fun e => H.out.n1.2.2 e.symm)).trans HRN3.out)
          have HL4 := Lib.hid ((setRow_other w3 gf gl (over (X.flatMap bcells) (x.1 * 256) (bcells x.2)).toArray hgl).trans HRL3.out)
          have HF4 := Lib.hid (HFR3.out.trans (Fr.setRow w3 (g := gf) H.out.ff (over (X.flatMap bcells) (x.1 * 256) (bcells x.2)).toArray) (fun _ _ h => h))
          generalize w3.setRow gf (over (X.flatMap bcells) (x.1 * 256) (bcells x.2)).toArray = w4 at HR4 HP4 HN4 HL4 HF4 ⊢
          clear hgl
          go_wp2
          go_roundw
          case rel => exact ⟨k + 1, put X x, by go_num, by omega, HCT, HX4, HP4, HR4, HN4, HL4, HF4⟩
          case measure => simp [intOf]; omega
        · have HBT := Lib.hid ((bit_go keep k hk0 hk1).symm.trans (by assumption))
          have HCT := Lib.hid (show kept keep (k + 1) (d.late.drop (k + 1)) X = kept keep 0 d.late d.firm by
            rw [← HK.out, List.drop_eq_getElem_cons hlt, kept, if_neg (by rw [HBT.out]; simp)])
          go_roundw
          case rel => exact ⟨k + 1, X, by go_num, by omega, HCT, HX, HRP2, HRF2, HRN2, HRL2, HFR2⟩
          case measure => simp [intOf]; omega
      · obtain rfl : k = d.late.length := by omega
        rw [List.drop_length] at HK
        have hx0 := hx
        go_wp2
        have HP2 := Lib.hid (set_at HP.out 2 (.slice none 0 0))
        have HFF2 := Lib.hid (set_far HRF.out (p := ⟨p, 2, none⟩) (fun e => H.out.n1.1 e.symm) (.slice none 0 0))
        have HN2 := Lib.hid (set_far (HRN.out.trans H.out.hn) (p := ⟨p, 2, none⟩) (fun e => H.out.n1.2.1 e.symm) (.slice none 0 0))
        have HF2 := Lib.hid (HRR.out.trans (Fr.setCell (F := F) wr (p := ⟨p, 2, none⟩) H.out.fp (.slice none 0 0)) (fun _ _ h => h))
        have e7 : (#[.slice (some ⟨gf, 0, none⟩) d.firm.length d.firm.length, .slice (some ⟨gn, 0, none⟩) d.firm.length d.firm.length, .slice (some ⟨gl, 0, none⟩) d.late.length cap, .int .i64 d.fuse, .bool d.dead] : Array Value).setIfInBounds 2 (.slice none 0 0) = #[.slice (some ⟨gf, 0, none⟩) d.firm.length d.firm.length, .slice (some ⟨gn, 0, none⟩) d.firm.length d.firm.length, .slice none 0 0, .int .i64 d.fuse, .bool d.dead] := rfl
        rw [e7] at HP2
        clear e7 hx
        generalize wr.setCell ⟨p, 2, none⟩ (.slice none 0 0) = w2 at HP2 HFF2 HN2 HF2 ⊢
        refine start_ (n := 9) (S := fun w' => w'.heap[p]? = some (.cells #[.slice (some ⟨gf, 0, none⟩) d.firm.length d.firm.length, .slice (some ⟨gn, 0, none⟩) d.firm.length d.firm.length, .slice none 0 0, .int .i64 d.fuse, .bool d.dead] 63 (0, 0))) (ds := [8]) #[false, false, false, false, false, false, false, false, false] (by kernel_rfl) rfl rfl (HP2.out) (fun hHeld => ?_)
        have HP3 := Lib.hid (show w2.drew.heap[p]? = _ from HP2.out)
        have HFF3 := Lib.hid (show w2.drew.heap[gf]? = _ from HFF2.out)
        have HN3 := Lib.hid (show w2.drew.heap[gn]? = _ from HN2.out)
        have HF3 := Lib.hid (HF2.out.trans (Fr.drew F w2) (fun _ _ h => h))
        generalize w2.drew = w3 at HP3 HFF3 HN3 HF3 hHeld ⊢
        clear HP2 HFF2 HN2 HF2
        refine pure_ (i := 0) (N := some 37) (v := ?_) (a' := ?_) #[true, false, false, false, false, false, false, false, false] rfl rfl (by kernel_rfl) (fun _ _ _ h => h) (Or.inl ⟨by rfl, ?_⟩) ?_ ?_
        rotate_left
        · intro w'
          go_simp
          with_reducible rfl
        rotate_left
        · simp only [Act.put, List.setIfInBounds_toArray, List.set_cons_zero, List.set_cons_succ, i64_w, i32_w]
          rfl
        refine pure_ (i := 1) (N := some 38) (v := ?_) (a' := ?_) #[true, true, false, false, false, false, false, false, false] rfl rfl (by kernel_rfl) (fun _ _ _ h => h) (Or.inl ⟨by rfl, ?_⟩) ?_ ?_
        rotate_left
        · intro w'
          go_simp
          with_reducible rfl
        rotate_left
        · simp only [Act.put, List.setIfInBounds_toArray, List.set_cons_zero, List.set_cons_succ, i64_w, i32_w]
          rfl
        refine pure_ (i := 2) (N := some 39) (v := ?_) (a' := ?_) #[true, true, true, false, false, false, false, false, false] rfl rfl (by kernel_rfl) (fun _ _ _ h => h) (Or.inl ⟨by rfl, ?_⟩) ?_ ?_
        rotate_left
        · intro w'
          go_simp
          with_reducible rfl
        rotate_left
        · simp only [Act.put, List.setIfInBounds_toArray, List.set_cons_zero, List.set_cons_succ, i64_w, i32_w]
          rfl
        refine take_ (i := 3) (N := some 40) (v := ?_) (a' := ?_) #[true, true, true, true, false, false, false, false, false] rfl rfl (by kernel_rfl) (fun _ _ _ h => h) (Or.inl ⟨by rfl, ?_⟩) hHeld ?_ ?_
        rotate_left
        · intro w' hS
          have s5 := blk5 hS
          obtain ⟨z0, _, z1, _, z2, _, z3, _, z4, _⟩ := s5
          go_simp
          with_reducible rfl
        rotate_left
        · simp only [Act.put, List.setIfInBounds_toArray, List.set_cons_zero, List.set_cons_succ, i64_w, i32_w]
          rfl
        refine pure_ (i := 4) (N := some 41) (v := ?_) (a' := ?_) #[true, true, true, true, true, false, false, false, false] rfl rfl (by kernel_rfl) (fun _ _ _ h => h) (Or.inl ⟨by rfl, ?_⟩) ?_ ?_
        rotate_left
        · intro w'
          go_simp
          with_reducible rfl
        rotate_left
        · simp only [Act.put, List.setIfInBounds_toArray, List.set_cons_zero, List.set_cons_succ, i64_w, i32_w]
          rfl
        refine pure_ (i := 5) (N := some 42) (v := ?_) (a' := ?_) #[true, true, true, true, true, true, false, false, false] rfl rfl (by kernel_rfl) (fun _ _ _ h => h) (Or.inl ⟨by rfl, ?_⟩) ?_ ?_
        rotate_left
        · intro w'
          go_simp
          with_reducible rfl
        rotate_left
        · simp only [Act.put, List.setIfInBounds_toArray, List.set_cons_zero, List.set_cons_succ, i64_w, i32_w]
          rfl
        refine pure_ (i := 6) (N := some 43) (v := ?_) (a' := ?_) #[true, true, true, true, true, true, true, false, false] rfl rfl (by kernel_rfl) (fun _ _ _ h => h) (Or.inl ⟨by rfl, ?_⟩) ?_ ?_
        rotate_left
        · intro w'
          go_simp
          with_reducible rfl
        rotate_left
        · simp only [Act.put, List.setIfInBounds_toArray, List.set_cons_zero, List.set_cons_succ, i64_w, i32_w]
          rfl
        refine take_ (i := 7) (N := some 44) (v := ?_) (a' := ?_) #[true, true, true, true, true, true, true, true, false] rfl rfl (by kernel_rfl) (fun _ _ _ h => h) (Or.inl ⟨by rfl, ?_⟩) hHeld ?_ ?_
        rotate_left
        · intro w' hS
          have s5 := blk5 hS
          obtain ⟨z0, _, z1, _, z2, _, z3, _, z4, _⟩ := s5
          go_simp
          with_reducible rfl
        rotate_left
        · simp only [Act.put, List.setIfInBounds_toArray, List.set_cons_zero, List.set_cons_succ, i64_w, i32_w]
          rfl
        refine last_ (i := 8) (N := some 45) #[true, true, true, true, true, true, true, true, true] rfl rfl (by kernel_rfl) (by decide) (fun K hK => ?_)
        have HCP := run_copy_all (P := Try.prog) w3 60 60 3 66 256 gn d.firm.length d.firm.length gf d.firm.length (d.now.flatMap bcells) (X.flatMap bcells) 66 66 Try.underlying60 info_b HN3.out HFF3.out (by rw [flat_length (lens HX.out.2), HX.out.1]) (by rw [flat_length H.out.lensn, H.out.ok.now_length]) (fun v hv => by obtain ⟨x, _, hx⟩ := List.mem_flatMap.1 hv; exact bcells_one x v hx)
        refine value_ (by rfl) rfl (execOp_copy rfl rfl rfl HCP) ?_
        clear HCP
        refine hK.out _ _ ?_
        clear hK K
        refine norm_ (a' := ?_) ?_ ?_
        rotate_left
        · show Act.put _ (some 45) _ = _
          simp only [Act.put, List.setIfInBounds_toArray, List.set_cons_zero, List.set_cons_succ, i64_w, i32_w]
          rfl
        refine done_ (by kernel_rfl) ?_
        have HP4 := Lib.hid ((setRow_other w3 gn p (X.flatMap bcells).toArray H.out.n1.2.1).trans HP3.out)
        have HFF4 := Lib.hid ((setRow_other w3 gn gf (X.flatMap bcells).toArray H.out.n1.2.2).trans HFF3.out)
        have HN4 := Lib.hid (setRow_heap w3 gn _ (X.flatMap bcells).toArray _ _ HN3.out)
        have HF4 := Lib.hid (HF3.out.trans (Fr.setRow w3 (g := gn) H.out.fn (X.flatMap bcells).toArray) (fun _ _ h => h))
        generalize w3.setRow gn (X.flatMap bcells).toArray = w4 at HP4 HFF4 HN4 HF4 ⊢
        clear HP3 HFF3 HN3 HF3 hHeld
        have hx := blk5 HP4.out
        go_wp2
        go_end0
        have HK2 : X = kept keep 0 d.late d.firm := by
          have h := HK.out
          simpa [kept] using h
        refine ⟨rfl, ?_, (HF4.out.trans (Fr.setCell (F := F) w4 (p := ⟨p, 3, none⟩) H.out.fp (.int .i64 (-1))) (fun _ _ h => h)).trans (Fr.setCell (F := F) _ (p := ⟨p, 4, none⟩) H.out.fp (.bool false)) (fun _ _ h => h)⟩
        have hp := set_at (set_at HP4.out 3 (.int .i64 (-1))) 4 (.bool false)
        have hff := set_far (set_far HFF4.out (p := ⟨p, 3, none⟩) (fun e => H.out.n1.1 e.symm) (.int .i64 (-1))) (p := ⟨p, 4, none⟩) (fun e => H.out.n1.1 e.symm) (.bool false)
        have hnn := set_far (set_far HN4.out (p := ⟨p, 3, none⟩) (fun e => H.out.n1.2.1 e.symm) (.int .i64 (-1))) (p := ⟨p, 4, none⟩) (fun e => H.out.n1.2.1 e.symm) (.bool false)
        have hlen : (kept keep 0 d.late d.firm).length = d.firm.length := kept_length ..
        exact {
          ok := H.out.ok.crash keep
          fp := H.out.fp
          ff := H.out.ff
          fn := H.out.fn
          fl := fun k hk => by simp [Value.ownBlock] at hk
          n1 := H.out.n1
          n2 := fun k hk => by simp [Value.ownBlock] at hk
          hp := by
            show _ = some (Obj.cells #[.slice (some ⟨gf, 0, none⟩) (kept keep 0 d.late d.firm).length (kept keep 0 d.late d.firm).length, .slice (some ⟨gn, 0, none⟩) (kept keep 0 d.late d.firm).length (kept keep 0 d.late d.firm).length, .slice none 0 0, .int .i64 (-1), .bool false] 63 (0, 0))
            rw [hlen]; exact hp
          hf := by rw [HK2] at hff; exact hff
          hn := by rw [HK2] at hnn; exact hnn
          hl := World.ownsRow_nil _ _ _ _
          lt := fun k hk => by
            have h1 := H.out.lt k hk
            have h2 := HF4.out.size
            simp only [World.setCell, Array.size_modify]; omega }
end Go.Proofs.Ytmphnfkohilojaa.Dev
