/- Layer device: the document's device: New; each of its functions in one contract; an act of the laws upon it. -/
import Derived.Test.YtmphnfkohilojaaDevRef3
namespace Go.Proofs.Ytmphnfkohilojaa.Dev
open Go.RowKit Go.Own Go.DevL Go.Blk Go.Proofs.YtmphnfkohilojaaW.PrintLast Go.Proofs.YtmphnfkohilojaaW.PrintWords
set_option linter.unusedVariables false
set_option linter.unusedSimpArgs false
variable {F : Nat → Prop} {w w' : World} {q : Nat} {vf vl : Value} {d : Dv}
/-- The document's device lies at q. -/
def RDev (F : Nat → Prop) (w : World) (q : Nat) (d : Dv) : Prop := ∃ vf vl, RAt F w q vf vl d
set_option maxHeartbeats 4000000 in
theorem rnew_any (n : Int) (w : World) : Calls Try.prog 22 #[.int .i64 n] w fun e w' => (∃ q, e = .returned (.pointer (some ⟨q, 0, none⟩)) ∧ RDev (fun k => w.heap.size ≤ k ∧ k < w'.heap.size) w' q (fresh n)) ∧ Below w.heap.size w w' := by
  by_cases h1 : n < 1
  · have hcl : clamp n = 1 := by unfold clamp; omega
    go_enter Try.func22, Try.ntmps22
    go_wp2
    have HQ0 := Lib.hid (alloc_at w (.cells #[.slice none 0 0, .slice none 0 0, .int .i64 (-1), .bool false] 55))
    have HB0 := Lib.hid (show Below w.heap.size w (w.alloc (.cells #[.slice none 0 0, .slice none 0 0, .int .i64 (-1), .bool false] 55)) from (Below.refl _ _).alloc (Nat.le_refl _) _)
    obtain ⟨q, hq⟩ : ∃ q, w.heap.size = q := ⟨_, rfl⟩
    have HWQ := Lib.hid (show w.heap.size ≤ q by omega)
    conv at HQ0 => rw [hq]
    change Code.wp _ _ _ _ (w.alloc (.cells #[.slice none 0 0, .slice none 0 0, .int .i64 (-1), .bool false] 55))
    generalize w.alloc (.cells #[.slice none 0 0, .slice none 0 0, .int .i64 (-1), .bool false] 55) = w1 at HQ0 HB0 ⊢
    rw [show (⟨w.heap.size, 0, none⟩ : Addr) = ⟨q, 0, none⟩ by rw [hq]]
    clear hq
    go_loopw [5] (fun s5 wr => ∃ (i : Nat) (vf : Value), s5 = .int .i64 i ∧ i ≤ 1 ∧ Hid (wr.heap[q]? = some (.cells #[vf, .slice none 0 0, .int .i64 (-1), .bool false] 55 (0, 0))) ∧ Hid (wr.ownsRow w.heap.size 9 1 vf i ((List.replicate i Z).flatMap scell)) ∧ Hid (vf.ownBlock ≠ some q) ∧ Hid (Below w.heap.size w wr)) (fun s5 _ => 1 - (intOf s5).toNat)
    case atStart => exact ⟨0, .slice none 0 0, by simp, Nat.zero_le _, HQ0, Lib.hid (World.ownsRow_nil _ _ _ _), Lib.hid (by simp [Value.ownBlock]), HB0⟩
    case round =>
      clear HQ0 HB0
      obtain ⟨i, vf, rfl, hi, HQ, HO, HVQ, HB⟩ := hrel
      have hx := blk4 HQ.out
      by_cases hlt : i < 1
      · have hlt2 : (i : Int) < 1 := by omega
        go_wp2
        clear hx
        refine start_ (n := 11) (S := fun w' => w'.heap[q]? = some (.cells #[vf, .slice none 0 0, .int .i64 (-1), .bool false] 55 (0, 0))) (ds := [10]) #[false, false, false, false, false, false, false, false, false, false, false] (by kernel_rfl) rfl rfl (HQ.out) (fun hHeld => ?_)
        have HQ2 := Lib.hid (show wr.drew.heap[q]? = _ from HQ.out)
        have HO2 := Lib.hid ((Fr.drew (fun _ => False) wr).row HO.out (fun _ _ h => h))
        have HB2 := Lib.hid HB.out.drew
        generalize wr.drew = w2 at HQ2 HO2 HB2 hHeld ⊢
        clear HQ HO HB
        refine pure_ (i := 0) (N := some 18) (v := ?_) (a' := ?_) #[true, false, false, false, false, false, false, false, false, false, false] rfl rfl (by kernel_rfl) (fun _ _ _ h => h) (Or.inl ⟨by rfl, ?_⟩) ?_ ?_
        rotate_left
        · intro w'
          go_simp
          with_reducible rfl
        rotate_left
        · simp only [Act.put, List.setIfInBounds_toArray, List.set_cons_zero, List.set_cons_succ, i64_w, i32_w]
          rfl
        refine pure_ (i := 1) (N := some 19) (v := ?_) (a' := ?_) #[true, true, false, false, false, false, false, false, false, false, false] rfl rfl (by kernel_rfl) (fun _ _ _ h => h) (Or.inl ⟨by rfl, ?_⟩) ?_ ?_
        rotate_left
        · intro w'
          go_simp
          with_reducible rfl
        rotate_left
        · simp only [Act.put, List.setIfInBounds_toArray, List.set_cons_zero, List.set_cons_succ, i64_w, i32_w]
          rfl
        refine pure_ (i := 2) (N := some 20) (v := ?_) (a' := ?_) #[true, true, true, false, false, false, false, false, false, false, false] rfl rfl (by kernel_rfl) (fun _ _ _ h => h) (Or.inl ⟨by rfl, ?_⟩) ?_ ?_
        rotate_left
        · intro w'
          go_simp
          with_reducible rfl
        rotate_left
        · simp only [Act.put, List.setIfInBounds_toArray, List.set_cons_zero, List.set_cons_succ, i64_w, i32_w]
          rfl
        refine pure_ (i := 3) (N := some 21) (v := ?_) (a' := ?_) #[true, true, true, true, false, false, false, false, false, false, false] rfl rfl (by kernel_rfl) (fun _ _ _ h => h) (Or.inl ⟨by rfl, ?_⟩) ?_ ?_
        rotate_left
        · intro w'
          go_simp
          with_reducible rfl
        rotate_left
        · simp only [Act.put, List.setIfInBounds_toArray, List.set_cons_zero, List.set_cons_succ, i64_w, i32_w]
          rfl
        refine take_ (i := 4) (N := some 22) (v := ?_) (a' := ?_) #[true, true, true, true, true, false, false, false, false, false, false] rfl rfl (by kernel_rfl) (fun _ _ _ h => h) (Or.inl ⟨by rfl, ?_⟩) hHeld ?_ ?_
        rotate_left
        · intro w' hS
          have s5 := blk4 hS
          obtain ⟨z0, _, z1, _, z2, _, z3, _⟩ := s5
          go_simp
          with_reducible rfl
        rotate_left
        · simp only [Act.put, List.setIfInBounds_toArray, List.set_cons_zero, List.set_cons_succ, i64_w, i32_w]
          rfl
        refine one_ (i := 5) (N := some 23) #[true, true, true, true, true, true, false, false, false, false, false] rfl rfl (by kernel_rfl) (by decide) (fun K hK => ?_)
        refine goes_ Try.func27 (by kernel_rfl) rfl #[] (by rfl) rfl rfl (by (try simp only [List.map_toArray, List.map_cons, List.map_nil]); first | done | rfl) ?_
        refine (noughts_calls w2).mono ?_
        rintro e w3 ⟨rfl, hb⟩
        refine ⟨_, rfl, ?_⟩
        have HQ3 := Lib.hid (below_old HQ2.out hb)
        have HO3 := Lib.hid ((Fr.of_below (F := fun _ => False) hb).row HO2.out (fun _ _ h => h))
        have HB3 := Lib.hid (HB2.out.trans (hb.mono HB2.out.size))
        clear hb HQ2 HO2 HB2
        refine hK.out _ _ HQ3.out (fun hHeld => ?_)
        clear hK K
        refine norm_ (a' := ?_) ?_ ?_
        rotate_left
        · show Act.put _ (some 23) _ = _
          simp only [Act.put, List.setIfInBounds_toArray, List.set_cons_zero, List.set_cons_succ, i64_w, i32_w]
          rfl
        refine one_ (i := 6) (N := some 24) #[true, true, true, true, true, true, true, false, false, false, false] rfl rfl (by kernel_rfl) (by decide) (fun K hK => ?_)
        refine value_ (by rfl) rfl (execOp_buildSlice (ps := #[(0, .string Z)]) rfl rfl (run_bs w3 Z)) ?_
        have HQ4 := Lib.hid (alloc_old HQ3.out (.cells #[.string Z] 9))
        have HO4 := Lib.hid (HO3.out.alloc (.cells #[.string Z] 9))
        have HB4 := Lib.hid (HB3.out.alloc HB3.out.size (.cells #[.string Z] 9))
        have HN4 := Lib.hid (alloc_at w3 (.cells #[.string Z] 9))
        obtain ⟨N, hN⟩ : ∃ N, w3.heap.size = N := ⟨_, rfl⟩
        rw [hN] at HN4 ⊢
        clear hN
        generalize w3.alloc (.cells #[.string Z] 9) = w4 at HQ4 HO4 HB4 HN4 ⊢
        clear HQ3 HO3 HB3 hHeld
        refine hK.out _ _ HQ4.out (fun hHeld => ?_)
        clear hK K
        refine norm_ (a' := ?_) ?_ ?_
        rotate_left
        · show Act.put _ (some 24) _ = _
          simp only [Act.put, List.setIfInBounds_toArray, List.set_cons_zero, List.set_cons_succ, i64_w, i32_w]
          rfl
        refine one_ (i := 7) (N := some 25) #[true, true, true, true, true, true, true, true, false, false, false] rfl rfl (by kernel_rfl) (by decide) (fun K hK => ?_)
        obtain ⟨ti, hti, hz, hsz, hbz⟩ := info_parts info_s
        obtain ⟨v', w5, hr, hown, hg, _, hat⟩ := run_append_own_at (P := Try.prog) w4 w.heap.size 44 44 9 ti _ 1 16 Try.underlying44 hti hz hsz hbz rfl (by decide) vf i _ HO4.out ⟨N, 0, none⟩ 1 1 [.string Z] rfl (fun j u hu => by rw [Addr.add_mid, cell_of_row w4 N _ _ _ _ HN4.out]; simpa using hu) (by simp [Value.oneCell']) (by unfold maxLen; omega) (by omega) HB4.out.size
        refine value_ (by rfl) rfl (execOp_append rfl rfl rfl hr) ?_
        have HQ5 := Lib.hid ((hg.block q (lt_of HQ4.out) (fun e => HVQ.out e.symm)).trans HQ4.out)
        have HO5 := Lib.hid hown
        have HB5 := Lib.hid (HB4.out.grown hg HB4.out.size (fun k hk => (HO4.out.lt k hk).1))
        have HV5 : Hid (v'.ownBlock ≠ some q) := fun e => by
          rcases hat with h | h
          · exact HVQ.out (h ▸ e)
          · rw [h] at e; simp only [Option.some.injEq] at e; have := lt_of HQ4.out; omega
        obtain ⟨av, cv, rfl, _⟩ := row_form hown
        clear hr hown hg hat hti hz hsz hbz HQ4 HO4 HB4 HN4
        refine hK.out _ _ (show _ from ?_) (fun hHeld => ?_)
        · exact HQ5.out
        clear hK K
        refine norm_ (a' := ?_) ?_ ?_
        rotate_left
        · show Act.put _ (some 25) _ = _
          simp only [Act.put, List.setIfInBounds_toArray, List.set_cons_zero, List.set_cons_succ, i64_w, i32_w]
          rfl
        refine pure_ (i := 8) (N := some 26) (v := ?_) (a' := ?_) #[true, true, true, true, true, true, true, true, true, false, false] rfl rfl (by kernel_rfl) (fun _ _ _ h => h) (Or.inl ⟨by rfl, ?_⟩) ?_ ?_
        rotate_left
        · intro w'
          go_simp
          with_reducible rfl
        rotate_left
        · simp only [Act.put, List.setIfInBounds_toArray, List.set_cons_zero, List.set_cons_succ, i64_w, i32_w]
          rfl
        refine pure_ (i := 9) (N := some 27) (v := ?_) (a' := ?_) #[true, true, true, true, true, true, true, true, true, true, false] rfl rfl (by kernel_rfl) (fun _ _ _ h => h) (Or.inl ⟨by rfl, ?_⟩) ?_ ?_
        rotate_left
        · intro w'
          go_simp
          with_reducible rfl
        rotate_left
        · simp only [Act.put, List.setIfInBounds_toArray, List.set_cons_zero, List.set_cons_succ, i64_w, i32_w]
          rfl
        refine last_ (i := 10) (N := none) #[true, true, true, true, true, true, true, true, true, true, true] rfl rfl (by kernel_rfl) (by decide) (fun K hK => ?_)
        have s5 := blk4 HQ5.out
        obtain ⟨z0, f0, z1, f1, z2, f2, z3, f3⟩ := s5
        refine skip_ (w1 := ?_) (by rfl) rfl ?_ ?_
        rotate_left
        · go_simp
          rfl
        clear z0 f0 z1 f1 z2 f2 z3 f3
        refine hK.out _ _ ?_
        clear hK K
        refine done_ (by kernel_rfl) ?_
        have HO6 := Lib.hid ((Fr.setCell (F := fun k => k = q) w5 (p := ⟨q, 0, none⟩) rfl (.slice av (i + 1) cv)).row HO5.out (fun k hk e => HV5.out (e ▸ hk)))
        have HQ6 := Lib.hid (set_at HQ5.out 0 (.slice av (i + 1) cv))
        have HB6 := Lib.hid (HB5.out.setCell (p := ⟨q, 0, none⟩) HWQ.out (.slice av (i + 1) cv))
        go_wp2
        go_roundw
        case rel => exact ⟨i + 1, .slice av (i + 1) cv, by go_num, by omega, HQ6, Lib.hid (by rw [List.replicate_succ', List.flatMap_append]; exact HO6.out), HV5, HB6⟩
        case measure => simp [intOf]; omega
      · obtain rfl : i = 1 := by omega
        go_wp2
        go_ret
        refine ⟨⟨q, rfl, vf, .slice none 0 0, ?_⟩, HB.out⟩
        have hfr : (fresh n).firm = List.replicate _ (rep8 0 256) := rfl
        rw [hcl] at hfr
        exact {
          ok := fresh_ok n
          fq := ⟨HWQ.out, lt_of HQ.out⟩
          ff := fun k hk => ⟨HO.out.lt k hk, fun e => HVQ.out (e ▸ hk)⟩
          fl := fun k hk => by simp [Value.ownBlock] at hk
          hq := HQ.out
          hf := by rw [hfr, List.length_replicate]; exact row_base HO.out (Nat.zero_le _)
          hl := World.ownsRow_nil _ _ _ _
          lt := fun k hk => hk.2 }
  · by_cases h2 : 1024 < n
    · have hcl : clamp n = 1024 := by unfold clamp; omega
      go_enter Try.func22, Try.ntmps22
      go_wp2
      have HQ0 := Lib.hid (alloc_at w (.cells #[.slice none 0 0, .slice none 0 0, .int .i64 (-1), .bool false] 55))
      have HB0 := Lib.hid (show Below w.heap.size w (w.alloc (.cells #[.slice none 0 0, .slice none 0 0, .int .i64 (-1), .bool false] 55)) from (Below.refl _ _).alloc (Nat.le_refl _) _)
      obtain ⟨q, hq⟩ : ∃ q, w.heap.size = q := ⟨_, rfl⟩
      have HWQ := Lib.hid (show w.heap.size ≤ q by omega)
      conv at HQ0 => rw [hq]
      change Code.wp _ _ _ _ (w.alloc (.cells #[.slice none 0 0, .slice none 0 0, .int .i64 (-1), .bool false] 55))
      generalize w.alloc (.cells #[.slice none 0 0, .slice none 0 0, .int .i64 (-1), .bool false] 55) = w1 at HQ0 HB0 ⊢
      rw [show (⟨w.heap.size, 0, none⟩ : Addr) = ⟨q, 0, none⟩ by rw [hq]]
      clear hq
      go_loopw [5] (fun s5 wr => ∃ (i : Nat) (vf : Value), s5 = .int .i64 i ∧ i ≤ 1024 ∧ Hid (wr.heap[q]? = some (.cells #[vf, .slice none 0 0, .int .i64 (-1), .bool false] 55 (0, 0))) ∧ Hid (wr.ownsRow w.heap.size 9 1 vf i ((List.replicate i Z).flatMap scell)) ∧ Hid (vf.ownBlock ≠ some q) ∧ Hid (Below w.heap.size w wr)) (fun s5 _ => 1024 - (intOf s5).toNat)
      case atStart => exact ⟨0, .slice none 0 0, by simp, Nat.zero_le _, HQ0, Lib.hid (World.ownsRow_nil _ _ _ _), Lib.hid (by simp [Value.ownBlock]), HB0⟩
      case round =>
        clear HQ0 HB0
        obtain ⟨i, vf, rfl, hi, HQ, HO, HVQ, HB⟩ := hrel
        have hx := blk4 HQ.out
        by_cases hlt : i < 1024
        · have hlt2 : (i : Int) < 1024 := by omega
          go_wp2
          clear hx
          refine start_ (n := 11) (S := fun w' => w'.heap[q]? = some (.cells #[vf, .slice none 0 0, .int .i64 (-1), .bool false] 55 (0, 0))) (ds := [10]) #[false, false, false, false, false, false, false, false, false, false, false] (by kernel_rfl) rfl rfl (HQ.out) (fun hHeld => ?_)
          have HQ2 := Lib.hid (show wr.drew.heap[q]? = _ from HQ.out)
          have HO2 := Lib.hid ((Fr.drew (fun _ => False) wr).row HO.out (fun _ _ h => h))
          have HB2 := Lib.hid HB.out.drew
          generalize wr.drew = w2 at HQ2 HO2 HB2 hHeld ⊢
          clear HQ HO HB
          refine pure_ (i := 0) (N := some 18) (v := ?_) (a' := ?_) #[true, false, false, false, false, false, false, false, false, false, false] rfl rfl (by kernel_rfl) (fun _ _ _ h => h) (Or.inl ⟨by rfl, ?_⟩) ?_ ?_
          rotate_left
          · intro w'
            go_simp
            with_reducible rfl
          rotate_left
          · simp only [Act.put, List.setIfInBounds_toArray, List.set_cons_zero, List.set_cons_succ, i64_w, i32_w]
            rfl
          refine pure_ (i := 1) (N := some 19) (v := ?_) (a' := ?_) #[true, true, false, false, false, false, false, false, false, false, false] rfl rfl (by kernel_rfl) (fun _ _ _ h => h) (Or.inl ⟨by rfl, ?_⟩) ?_ ?_
          rotate_left
          · intro w'
            go_simp
            with_reducible rfl
          rotate_left
          · simp only [Act.put, List.setIfInBounds_toArray, List.set_cons_zero, List.set_cons_succ, i64_w, i32_w]
            rfl
          refine pure_ (i := 2) (N := some 20) (v := ?_) (a' := ?_) #[true, true, true, false, false, false, false, false, false, false, false] rfl rfl (by kernel_rfl) (fun _ _ _ h => h) (Or.inl ⟨by rfl, ?_⟩) ?_ ?_
          rotate_left
          · intro w'
            go_simp
            with_reducible rfl
          rotate_left
          · simp only [Act.put, List.setIfInBounds_toArray, List.set_cons_zero, List.set_cons_succ, i64_w, i32_w]
            rfl
          refine pure_ (i := 3) (N := some 21) (v := ?_) (a' := ?_) #[true, true, true, true, false, false, false, false, false, false, false] rfl rfl (by kernel_rfl) (fun _ _ _ h => h) (Or.inl ⟨by rfl, ?_⟩) ?_ ?_
          rotate_left
          · intro w'
            go_simp
            with_reducible rfl
          rotate_left
          · simp only [Act.put, List.setIfInBounds_toArray, List.set_cons_zero, List.set_cons_succ, i64_w, i32_w]
            rfl
          refine take_ (i := 4) (N := some 22) (v := ?_) (a' := ?_) #[true, true, true, true, true, false, false, false, false, false, false] rfl rfl (by kernel_rfl) (fun _ _ _ h => h) (Or.inl ⟨by rfl, ?_⟩) hHeld ?_ ?_
          rotate_left
          · intro w' hS
            have s5 := blk4 hS
            obtain ⟨z0, _, z1, _, z2, _, z3, _⟩ := s5
            go_simp
            with_reducible rfl
          rotate_left
          · simp only [Act.put, List.setIfInBounds_toArray, List.set_cons_zero, List.set_cons_succ, i64_w, i32_w]
            rfl
          refine one_ (i := 5) (N := some 23) #[true, true, true, true, true, true, false, false, false, false, false] rfl rfl (by kernel_rfl) (by decide) (fun K hK => ?_)
          refine goes_ Try.func27 (by kernel_rfl) rfl #[] (by rfl) rfl rfl (by (try simp only [List.map_toArray, List.map_cons, List.map_nil]); first | done | rfl) ?_
          refine (noughts_calls w2).mono ?_
          rintro e w3 ⟨rfl, hb⟩
          refine ⟨_, rfl, ?_⟩
          have HQ3 := Lib.hid (below_old HQ2.out hb)
          have HO3 := Lib.hid ((Fr.of_below (F := fun _ => False) hb).row HO2.out (fun _ _ h => h))
          have HB3 := Lib.hid (HB2.out.trans (hb.mono HB2.out.size))
          clear hb HQ2 HO2 HB2
          refine hK.out _ _ HQ3.out (fun hHeld => ?_)
          clear hK K
          refine norm_ (a' := ?_) ?_ ?_
          rotate_left
          · show Act.put _ (some 23) _ = _
            simp only [Act.put, List.setIfInBounds_toArray, List.set_cons_zero, List.set_cons_succ, i64_w, i32_w]
            rfl
          refine one_ (i := 6) (N := some 24) #[true, true, true, true, true, true, true, false, false, false, false] rfl rfl (by kernel_rfl) (by decide) (fun K hK => ?_)
          refine value_ (by rfl) rfl (execOp_buildSlice (ps := #[(0, .string Z)]) rfl rfl (run_bs w3 Z)) ?_
          have HQ4 := Lib.hid (alloc_old HQ3.out (.cells #[.string Z] 9))
          have HO4 := Lib.hid (HO3.out.alloc (.cells #[.string Z] 9))
          have HB4 := Lib.hid (HB3.out.alloc HB3.out.size (.cells #[.string Z] 9))
          have HN4 := Lib.hid (alloc_at w3 (.cells #[.string Z] 9))
          obtain ⟨N, hN⟩ : ∃ N, w3.heap.size = N := ⟨_, rfl⟩
          rw [hN] at HN4 ⊢
          clear hN
          generalize w3.alloc (.cells #[.string Z] 9) = w4 at HQ4 HO4 HB4 HN4 ⊢
          clear HQ3 HO3 HB3 hHeld
          refine hK.out _ _ HQ4.out (fun hHeld => ?_)
          clear hK K
          refine norm_ (a' := ?_) ?_ ?_
          rotate_left
          · show Act.put _ (some 24) _ = _
            simp only [Act.put, List.setIfInBounds_toArray, List.set_cons_zero, List.set_cons_succ, i64_w, i32_w]
            rfl
          refine one_ (i := 7) (N := some 25) #[true, true, true, true, true, true, true, true, false, false, false] rfl rfl (by kernel_rfl) (by decide) (fun K hK => ?_)
          obtain ⟨ti, hti, hz, hsz, hbz⟩ := info_parts info_s
          obtain ⟨v', w5, hr, hown, hg, _, hat⟩ := run_append_own_at (P := Try.prog) w4 w.heap.size 44 44 9 ti _ 1 16 Try.underlying44 hti hz hsz hbz rfl (by decide) vf i _ HO4.out ⟨N, 0, none⟩ 1 1 [.string Z] rfl (fun j u hu => by rw [Addr.add_mid, cell_of_row w4 N _ _ _ _ HN4.out]; simpa using hu) (by simp [Value.oneCell']) (by unfold maxLen; omega) (by omega) HB4.out.size
          refine value_ (by rfl) rfl (execOp_append rfl rfl rfl hr) ?_
          have HQ5 := Lib.hid ((hg.block q (lt_of HQ4.out) (fun e => HVQ.out e.symm)).trans HQ4.out)
          have HO5 := Lib.hid hown
          have HB5 := Lib.hid (HB4.out.grown hg HB4.out.size (fun k hk => (HO4.out.lt k hk).1))
          have HV5 : Hid (v'.ownBlock ≠ some q) := fun e => by
            rcases hat with h | h
            · exact HVQ.out (h ▸ e)
            · rw [h] at e; simp only [Option.some.injEq] at e; have := lt_of HQ4.out; omega
          obtain ⟨av, cv, rfl, _⟩ := row_form hown
          clear hr hown hg hat hti hz hsz hbz HQ4 HO4 HB4 HN4
          refine hK.out _ _ (show _ from ?_) (fun hHeld => ?_)
          · exact HQ5.out
          clear hK K
          refine norm_ (a' := ?_) ?_ ?_
          rotate_left
          · show Act.put _ (some 25) _ = _
            simp only [Act.put, List.setIfInBounds_toArray, List.set_cons_zero, List.set_cons_succ, i64_w, i32_w]
            rfl
          refine pure_ (i := 8) (N := some 26) (v := ?_) (a' := ?_) #[true, true, true, true, true, true, true, true, true, false, false] rfl rfl (by kernel_rfl) (fun _ _ _ h => h) (Or.inl ⟨by rfl, ?_⟩) ?_ ?_
          rotate_left
          · intro w'
            go_simp
            with_reducible rfl
          rotate_left
          · simp only [Act.put, List.setIfInBounds_toArray, List.set_cons_zero, List.set_cons_succ, i64_w, i32_w]
            rfl
          refine pure_ (i := 9) (N := some 27) (v := ?_) (a' := ?_) #[true, true, true, true, true, true, true, true, true, true, false] rfl rfl (by kernel_rfl) (fun _ _ _ h => h) (Or.inl ⟨by rfl, ?_⟩) ?_ ?_
          rotate_left
          · intro w'
            go_simp
            with_reducible rfl
          rotate_left
          · simp only [Act.put, List.setIfInBounds_toArray, List.set_cons_zero, List.set_cons_succ, i64_w, i32_w]
            rfl
          refine last_ (i := 10) (N := none) #[true, true, true, true, true, true, true, true, true, true, true] rfl rfl (by kernel_rfl) (by decide) (fun K hK => ?_)
          have s5 := blk4 HQ5.out
          obtain ⟨z0, f0, z1, f1, z2, f2, z3, f3⟩ := s5
          refine skip_ (w1 := ?_) (by rfl) rfl ?_ ?_
          rotate_left
          · go_simp
            rfl
          clear z0 f0 z1 f1 z2 f2 z3 f3
          refine hK.out _ _ ?_
          clear hK K
          refine done_ (by kernel_rfl) ?_
          have HO6 := Lib.hid ((Fr.setCell (F := fun k => k = q) w5 (p := ⟨q, 0, none⟩) rfl (.slice av (i + 1) cv)).row HO5.out (fun k hk e => HV5.out (e ▸ hk)))
          have HQ6 := Lib.hid (set_at HQ5.out 0 (.slice av (i + 1) cv))
          have HB6 := Lib.hid (HB5.out.setCell (p := ⟨q, 0, none⟩) HWQ.out (.slice av (i + 1) cv))
          go_wp2
          go_roundw
          case rel => exact ⟨i + 1, .slice av (i + 1) cv, by go_num, by omega, HQ6, Lib.hid (by rw [List.replicate_succ', List.flatMap_append]; exact HO6.out), HV5, HB6⟩
          case measure => simp [intOf]; omega
        · obtain rfl : i = 1024 := by omega
          go_wp2
          go_ret
          refine ⟨⟨q, rfl, vf, .slice none 0 0, ?_⟩, HB.out⟩
          have hfr : (fresh n).firm = List.replicate _ (rep8 0 256) := rfl
          rw [hcl] at hfr
          exact {
            ok := fresh_ok n
            fq := ⟨HWQ.out, lt_of HQ.out⟩
            ff := fun k hk => ⟨HO.out.lt k hk, fun e => HVQ.out (e ▸ hk)⟩
            fl := fun k hk => by simp [Value.ownBlock] at hk
            hq := HQ.out
            hf := by rw [hfr, List.length_replicate]; exact row_base HO.out (Nat.zero_le _)
            hl := World.ownsRow_nil _ _ _ _
            lt := fun k hk => hk.2 }
    · obtain ⟨m, rfl⟩ := Int.eq_ofNat_of_zero_le (show 0 ≤ n by omega)
      have hcl : clamp m = m := by unfold clamp; omega
      have hc : m ≤ 1024 := by omega
      go_enter Try.func22, Try.ntmps22
      go_wp2
      have HQ0 := Lib.hid (alloc_at w (.cells #[.slice none 0 0, .slice none 0 0, .int .i64 (-1), .bool false] 55))
      have HB0 := Lib.hid (show Below w.heap.size w (w.alloc (.cells #[.slice none 0 0, .slice none 0 0, .int .i64 (-1), .bool false] 55)) from (Below.refl _ _).alloc (Nat.le_refl _) _)
      obtain ⟨q, hq⟩ : ∃ q, w.heap.size = q := ⟨_, rfl⟩
      have HWQ := Lib.hid (show w.heap.size ≤ q by omega)
      conv at HQ0 => rw [hq]
      change Code.wp _ _ _ _ (w.alloc (.cells #[.slice none 0 0, .slice none 0 0, .int .i64 (-1), .bool false] 55))
      generalize w.alloc (.cells #[.slice none 0 0, .slice none 0 0, .int .i64 (-1), .bool false] 55) = w1 at HQ0 HB0 ⊢
      rw [show (⟨w.heap.size, 0, none⟩ : Addr) = ⟨q, 0, none⟩ by rw [hq]]
      clear hq
      go_loopw [5] (fun s5 wr => ∃ (i : Nat) (vf : Value), s5 = .int .i64 i ∧ i ≤ m ∧ Hid (wr.heap[q]? = some (.cells #[vf, .slice none 0 0, .int .i64 (-1), .bool false] 55 (0, 0))) ∧ Hid (wr.ownsRow w.heap.size 9 1 vf i ((List.replicate i Z).flatMap scell)) ∧ Hid (vf.ownBlock ≠ some q) ∧ Hid (Below w.heap.size w wr)) (fun s5 _ => m - (intOf s5).toNat)
      case atStart => exact ⟨0, .slice none 0 0, by simp, Nat.zero_le _, HQ0, Lib.hid (World.ownsRow_nil _ _ _ _), Lib.hid (by simp [Value.ownBlock]), HB0⟩
      case round =>
        clear HQ0 HB0
        obtain ⟨i, vf, rfl, hi, HQ, HO, HVQ, HB⟩ := hrel
        have hx := blk4 HQ.out
        by_cases hlt : i < m
        · have hlt2 : (i : Int) < (m : Int) := by omega
          go_wp2
          clear hx
          refine start_ (n := 11) (S := fun w' => w'.heap[q]? = some (.cells #[vf, .slice none 0 0, .int .i64 (-1), .bool false] 55 (0, 0))) (ds := [10]) #[false, false, false, false, false, false, false, false, false, false, false] (by kernel_rfl) rfl rfl (HQ.out) (fun hHeld => ?_)
          have HQ2 := Lib.hid (show wr.drew.heap[q]? = _ from HQ.out)
          have HO2 := Lib.hid ((Fr.drew (fun _ => False) wr).row HO.out (fun _ _ h => h))
          have HB2 := Lib.hid HB.out.drew
          generalize wr.drew = w2 at HQ2 HO2 HB2 hHeld ⊢
          clear HQ HO HB
          refine pure_ (i := 0) (N := some 18) (v := ?_) (a' := ?_) #[true, false, false, false, false, false, false, false, false, false, false] rfl rfl (by kernel_rfl) (fun _ _ _ h => h) (Or.inl ⟨by rfl, ?_⟩) ?_ ?_
          rotate_left
          · intro w'
            go_simp
            with_reducible rfl
          rotate_left
          · simp only [Act.put, List.setIfInBounds_toArray, List.set_cons_zero, List.set_cons_succ, i64_w, i32_w]
            rfl
          refine pure_ (i := 1) (N := some 19) (v := ?_) (a' := ?_) #[true, true, false, false, false, false, false, false, false, false, false] rfl rfl (by kernel_rfl) (fun _ _ _ h => h) (Or.inl ⟨by rfl, ?_⟩) ?_ ?_
          rotate_left
          · intro w'
            go_simp
            with_reducible rfl
          rotate_left
          · simp only [Act.put, List.setIfInBounds_toArray, List.set_cons_zero, List.set_cons_succ, i64_w, i32_w]
            rfl
          refine pure_ (i := 2) (N := some 20) (v := ?_) (a' := ?_) #[true, true, true, false, false, false, false, false, false, false, false] rfl rfl (by kernel_rfl) (fun _ _ _ h => h) (Or.inl ⟨by rfl, ?_⟩) ?_ ?_
          rotate_left
          · intro w'
            go_simp
            with_reducible rfl
          rotate_left
          · simp only [Act.put, List.setIfInBounds_toArray, List.set_cons_zero, List.set_cons_succ, i64_w, i32_w]
            rfl
          refine pure_ (i := 3) (N := some 21) (v := ?_) (a' := ?_) #[true, true, true, true, false, false, false, false, false, false, false] rfl rfl (by kernel_rfl) (fun _ _ _ h => h) (Or.inl ⟨by rfl, ?_⟩) ?_ ?_
          rotate_left
          · intro w'
            go_simp
            with_reducible rfl
          rotate_left
          · simp only [Act.put, List.setIfInBounds_toArray, List.set_cons_zero, List.set_cons_succ, i64_w, i32_w]
            rfl
          refine take_ (i := 4) (N := some 22) (v := ?_) (a' := ?_) #[true, true, true, true, true, false, false, false, false, false, false] rfl rfl (by kernel_rfl) (fun _ _ _ h => h) (Or.inl ⟨by rfl, ?_⟩) hHeld ?_ ?_
          rotate_left
          · intro w' hS
            have s5 := blk4 hS
            obtain ⟨z0, _, z1, _, z2, _, z3, _⟩ := s5
            go_simp
            with_reducible rfl
          rotate_left
          · simp only [Act.put, List.setIfInBounds_toArray, List.set_cons_zero, List.set_cons_succ, i64_w, i32_w]
            rfl
          refine one_ (i := 5) (N := some 23) #[true, true, true, true, true, true, false, false, false, false, false] rfl rfl (by kernel_rfl) (by decide) (fun K hK => ?_)
          refine goes_ Try.func27 (by kernel_rfl) rfl #[] (by rfl) rfl rfl (by (try simp only [List.map_toArray, List.map_cons, List.map_nil]); first | done | rfl) ?_
          refine (noughts_calls w2).mono ?_
          rintro e w3 ⟨rfl, hb⟩
          refine ⟨_, rfl, ?_⟩
          have HQ3 := Lib.hid (below_old HQ2.out hb)
          have HO3 := Lib.hid ((Fr.of_below (F := fun _ => False) hb).row HO2.out (fun _ _ h => h))
          have HB3 := Lib.hid (HB2.out.trans (hb.mono HB2.out.size))
          clear hb HQ2 HO2 HB2
          refine hK.out _ _ HQ3.out (fun hHeld => ?_)
          clear hK K
          refine norm_ (a' := ?_) ?_ ?_
          rotate_left
          · show Act.put _ (some 23) _ = _
            simp only [Act.put, List.setIfInBounds_toArray, List.set_cons_zero, List.set_cons_succ, i64_w, i32_w]
            rfl
          refine one_ (i := 6) (N := some 24) #[true, true, true, true, true, true, true, false, false, false, false] rfl rfl (by kernel_rfl) (by decide) (fun K hK => ?_)
          refine value_ (by rfl) rfl (execOp_buildSlice (ps := #[(0, .string Z)]) rfl rfl (run_bs w3 Z)) ?_
          have HQ4 := Lib.hid (alloc_old HQ3.out (.cells #[.string Z] 9))
          have HO4 := Lib.hid (HO3.out.alloc (.cells #[.string Z] 9))
          have HB4 := Lib.hid (HB3.out.alloc HB3.out.size (.cells #[.string Z] 9))
          have HN4 := Lib.hid (alloc_at w3 (.cells #[.string Z] 9))
          obtain ⟨N, hN⟩ : ∃ N, w3.heap.size = N := ⟨_, rfl⟩
          rw [hN] at HN4 ⊢
          clear hN
          generalize w3.alloc (.cells #[.string Z] 9) = w4 at HQ4 HO4 HB4 HN4 ⊢
          clear HQ3 HO3 HB3 hHeld
          refine hK.out _ _ HQ4.out (fun hHeld => ?_)
          clear hK K
          refine norm_ (a' := ?_) ?_ ?_
          rotate_left
          · show Act.put _ (some 24) _ = _
            simp only [Act.put, List.setIfInBounds_toArray, List.set_cons_zero, List.set_cons_succ, i64_w, i32_w]
            rfl
          refine one_ (i := 7) (N := some 25) #[true, true, true, true, true, true, true, true, false, false, false] rfl rfl (by kernel_rfl) (by decide) (fun K hK => ?_)
          obtain ⟨ti, hti, hz, hsz, hbz⟩ := info_parts info_s
          obtain ⟨v', w5, hr, hown, hg, _, hat⟩ := run_append_own_at (P := Try.prog) w4 w.heap.size 44 44 9 ti _ 1 16 Try.underlying44 hti hz hsz hbz rfl (by decide) vf i _ HO4.out ⟨N, 0, none⟩ 1 1 [.string Z] rfl (fun j u hu => by rw [Addr.add_mid, cell_of_row w4 N _ _ _ _ HN4.out]; simpa using hu) (by simp [Value.oneCell']) (by unfold maxLen; omega) (by omega) HB4.out.size
          refine value_ (by rfl) rfl (execOp_append rfl rfl rfl hr) ?_
          have HQ5 := Lib.hid ((hg.block q (lt_of HQ4.out) (fun e => HVQ.out e.symm)).trans HQ4.out)
          have HO5 := Lib.hid hown
          have HB5 := Lib.hid (HB4.out.grown hg HB4.out.size (fun k hk => (HO4.out.lt k hk).1))
          have HV5 : Hid (v'.ownBlock ≠ some q) := fun e => by
            rcases hat with h | h
            · exact HVQ.out (h ▸ e)
            · rw [h] at e; simp only [Option.some.injEq] at e; have := lt_of HQ4.out; omega
          obtain ⟨av, cv, rfl, _⟩ := row_form hown
          clear hr hown hg hat hti hz hsz hbz HQ4 HO4 HB4 HN4
          refine hK.out _ _ (show _ from ?_) (fun hHeld => ?_)
          · exact HQ5.out
          clear hK K
          refine norm_ (a' := ?_) ?_ ?_
          rotate_left
          · show Act.put _ (some 25) _ = _
            simp only [Act.put, List.setIfInBounds_toArray, List.set_cons_zero, List.set_cons_succ, i64_w, i32_w]
            rfl
          refine pure_ (i := 8) (N := some 26) (v := ?_) (a' := ?_) #[true, true, true, true, true, true, true, true, true, false, false] rfl rfl (by kernel_rfl) (fun _ _ _ h => h) (Or.inl ⟨by rfl, ?_⟩) ?_ ?_
          rotate_left
          · intro w'
            go_simp
            with_reducible rfl
          rotate_left
          · simp only [Act.put, List.setIfInBounds_toArray, List.set_cons_zero, List.set_cons_succ, i64_w, i32_w]
            rfl
          refine pure_ (i := 9) (N := some 27) (v := ?_) (a' := ?_) #[true, true, true, true, true, true, true, true, true, true, false] rfl rfl (by kernel_rfl) (fun _ _ _ h => h) (Or.inl ⟨by rfl, ?_⟩) ?_ ?_
          rotate_left
          · intro w'
            go_simp
            with_reducible rfl
          rotate_left
          · simp only [Act.put, List.setIfInBounds_toArray, List.set_cons_zero, List.set_cons_succ, i64_w, i32_w]
            rfl
          refine last_ (i := 10) (N := none) #[true, true, true, true, true, true, true, true, true, true, true] rfl rfl (by kernel_rfl) (by decide) (fun K hK => ?_)
          have s5 := blk4 HQ5.out
          obtain ⟨z0, f0, z1, f1, z2, f2, z3, f3⟩ := s5
          refine skip_ (w1 := ?_) (by rfl) rfl ?_ ?_
          rotate_left
          · go_simp
            rfl
          clear z0 f0 z1 f1 z2 f2 z3 f3
          refine hK.out _ _ ?_
          clear hK K
          refine done_ (by kernel_rfl) ?_
          have HO6 := Lib.hid ((Fr.setCell (F := fun k => k = q) w5 (p := ⟨q, 0, none⟩) rfl (.slice av (i + 1) cv)).row HO5.out (fun k hk e => HV5.out (e ▸ hk)))
          have HQ6 := Lib.hid (set_at HQ5.out 0 (.slice av (i + 1) cv))
          have HB6 := Lib.hid (HB5.out.setCell (p := ⟨q, 0, none⟩) HWQ.out (.slice av (i + 1) cv))
          go_wp2
          go_roundw
          case rel => exact ⟨i + 1, .slice av (i + 1) cv, by go_num, by omega, HQ6, Lib.hid (by rw [List.replicate_succ', List.flatMap_append]; exact HO6.out), HV5, HB6⟩
          case measure => simp [intOf]; omega
        · obtain rfl : i = m := by omega
          go_wp2
          go_ret
          refine ⟨⟨q, rfl, vf, .slice none 0 0, ?_⟩, HB.out⟩
          have hfr : (fresh (i : Int)).firm = List.replicate _ (rep8 0 256) := rfl
          rw [hcl] at hfr
          exact {
            ok := fresh_ok (i : Int)
            fq := ⟨HWQ.out, lt_of HQ.out⟩
            ff := fun k hk => ⟨HO.out.lt k hk, fun e => HVQ.out (e ▸ hk)⟩
            fl := fun k hk => by simp [Value.ownBlock] at hk
            hq := HQ.out
            hf := by rw [hfr, List.length_replicate]; exact row_base HO.out (Nat.zero_le _)
            hl := World.ownsRow_nil _ _ _ _
            lt := fun k hk => hk.2 }
theorem RDev.ok (h : RDev F w q d) : d.OK := by obtain ⟨_, _, h⟩ := h; exact h.ok
theorem RDev.lt (h : RDev F w q d) : ∀ k, F k → k < w.heap.size := by obtain ⟨_, _, h⟩ := h; exact h.lt
theorem RDev.keep {G : Nat → Prop} (h : RDev F w q d) (hF : Fr G w w') (hG : ∀ k, F k → ¬ G k) : RDev F w' q d := by obtain ⟨_, _, h⟩ := h; exact ⟨_, _, h.keep hF hG⟩
theorem RDev.below (h : RDev F w q d) (hb : Below w.heap.size w w') : RDev F w' q d := by obtain ⟨_, _, h⟩ := h; exact ⟨_, _, h.below hb⟩
theorem RDev.drew (h : RDev F w q d) : RDev F w.drew q d := h.below (Below.refl _ _).drew
theorem RDev.mono {G : Nat → Prop} (h : RDev F w q d) (hG : ∀ k, F k → G k) (hlt : ∀ k, G k → k < w.heap.size) : RDev G w q d := by obtain ⟨_, _, h⟩ := h; exact ⟨_, _, h.mono hG hlt⟩
theorem rup_of (hl : ∀ k, F k → k < w.heap.size) (hF : Fr F w w') (h : RAt F w' q vf vl d) : RDev (Up F w w') w' q d :=
  ⟨_, _, h.mono (fun _ => .inl) (fun k hk => by rcases hk with hk | hk; exact h.lt k hk; exact hk.2)⟩
theorem rread_any (h : RDev F w q d) (i : Int) (hl : d.late.length ≤ 1000000) : Calls Try.prog 24 #[.pointer (some ⟨q, 0, none⟩), .int .i64 i] w fun e w' => e = readE d i ∧ w = w' := by obtain ⟨_, _, h⟩ := h; exact rread_calls h i hl
theorem rlight_any (h : RDev F w q d) (n : Int) (hn0 : -9223372036854775808 ≤ n) (hn : n ≤ 9223372036854775807) : Calls Try.prog 30 #[.pointer (some ⟨q, 0, none⟩), .int .i64 n] w fun e w' => e = .returned (.tuple #[]) ∧ RDev (Up F w w') w' q (d.light n) ∧ Fr F w w' := by
  obtain ⟨_, _, h⟩ := h
  exact (rlight_calls h n hn0 hn).mono fun e w' ⟨he, h1, h2⟩ => ⟨he, rup_of h.lt h2 h1, h2⟩
theorem rcrash_any (h : RDev F w q d) (keep : Int) (hk0 : 0 ≤ keep) (hk1 : keep < 18446744073709551616) (hl : d.late.length ≤ 1000000) : Calls Try.prog 31 #[.pointer (some ⟨q, 0, none⟩), .int .u64 keep] w fun e w' => e = .returned (.tuple #[]) ∧ RDev (Up F w w') w' q (d.crash keep) ∧ Fr F w w' := by
  obtain ⟨_, _, h⟩ := h
  exact (rcrash_calls h keep hk0 hk1 hl).mono fun e w' ⟨he, ⟨_, _, h1⟩, h2⟩ => ⟨he, rup_of h.lt h2 h1, h2⟩
theorem rbarrier_any (h : RDev F w q d) (hl : d.late.length ≤ 1000000) : Calls Try.prog 29 #[.pointer (some ⟨q, 0, none⟩)] w fun e w' => e = .returned (.int .i64 d.barrier.1) ∧ RDev (Up F w w') w' q d.barrier.2 ∧ Fr F w w' := by
  obtain ⟨_, _, h⟩ := h
  by_cases hb : d.burns = true
  · rw [show d.barrier = (5, d.die) by unfold Dv.barrier; rw [if_pos hb]]
    exact (rbarrier_dies h hb).mono fun e w' ⟨he, h1, h2⟩ => ⟨he, rup_of h.lt h2 h1, h2⟩
  · rw [show d.barrier = (0, { d with firm := d.now, late := [], fuse := less d.fuse }) by unfold Dv.barrier; rw [if_neg hb]]
    exact (rbarrier_goes h (by simpa using hb) hl).mono fun e w' ⟨he, ⟨_, _, h1⟩, h2⟩ => ⟨he, rup_of h.lt h2 h1, h2⟩
theorem rwrite_any (h : RDev F w q d) (i : Int) (b : ByteArray) (hl : d.late.length ≤ 1000000) : Calls Try.prog 28 #[.pointer (some ⟨q, 0, none⟩), .int .i64 i, .string b] w fun e w' => e = .returned (.int .i64 (d.write i b).1) ∧ RDev (Up F w w') w' q (d.write i b).2 ∧ Fr F w w' := by
  obtain ⟨_, _, h⟩ := h
  by_cases hc : (d.bad i || b.size != 256) = true
  · rw [show d.write i b = (1, d) by unfold Dv.write; rw [if_pos hc]]
    refine (rwrite_bad h i b hc).mono fun e w' ⟨he, h1⟩ => ⟨he, ?_⟩
    subst h1
    exact ⟨rup_of h.lt (Fr.refl F w) h, Fr.refl F w⟩
  · have hc' := hc
    simp only [Bool.not_eq_true, Bool.or_eq_false_iff, bne_eq_false_iff_eq] at hc'
    obtain ⟨h0, h1⟩ := Dv.bad_false hc'.1
    obtain ⟨k, rfl⟩ := Int.eq_ofNat_of_zero_le h0
    by_cases hb : d.burns = true
    · rw [show d.write k b = (5, d.die) by unfold Dv.write; rw [if_neg hc, if_pos hb]]
      exact (rwrite_dies h k (by omega) b hc'.2 hb).mono fun e w' ⟨he, h1, h2⟩ => ⟨he, rup_of h.lt h2 h1, h2⟩
    · rw [show d.write k b = (0, { d with late := d.late ++ [(k, b)], fuse := less d.fuse }) by unfold Dv.write; rw [if_neg hc, if_neg hb, Int.toNat_natCast]]
      exact (rwrite_goes h k (by omega) b hc'.2 (by simpa using hb) hl).mono fun e w' ⟨he, ⟨v, h1⟩, h2⟩ => ⟨he, ⟨_, _, h1⟩, h2⟩
end Go.Proofs.Ytmphnfkohilojaa.Dev
