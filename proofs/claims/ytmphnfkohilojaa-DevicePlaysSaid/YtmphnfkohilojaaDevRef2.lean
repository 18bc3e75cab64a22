/- Layer device: the document's device: New, Write, Barrier, Crash. -/
import Derived.Test.YtmphnfkohilojaaDevRef
namespace Go.Proofs.Ytmphnfkohilojaa.Dev
open Go.RowKit Go.Own Go.DevL Go.Blk Go.Proofs.YtmphnfkohilojaaW.PrintLast Go.Proofs.YtmphnfkohilojaaW.PrintWords
set_option linter.unusedVariables false
set_option linter.unusedSimpArgs false
variable {F : Nat → Prop} {w w' : World} {q : Nat} {vf vl : Value} {d : Dv}
theorem info_rw : (Try.prog.info? 72).map (fun i => (i.zero, i.size, i.bytes)) = some (some (.agg #[.int .i64 0, .string ByteArray.empty]), 2, 24) := by kernel_rfl
theorem info_u83 : (Try.prog.info? 5).map (fun i => (i.zero, i.size, i.bytes)) = some (some (.int .u8 0), 1, 1) := by kernel_rfl
theorem run_mk256 (w : World) : (Instr.makeSlice 64 (.int .i64 256) (.int .i64 256)).run Try.prog w = .ok (.slice (some ⟨w.heap.size, 0, none⟩) 256 256) (w.alloc (.cells (bcells Z).toArray 5)) := by
  obtain ⟨i, hi, hz, hs, hb⟩ := info_parts info_u83
  have h := run_make (P := Try.prog) w 64 5 i _ Try.underlying64 hi hz .i64 .i64 256 256 (by decide) (by decide) (by rw [hb]; decide) (by decide)
  rw [h, hs]
  have e : madeCells (Value.int .u8 0).cells (Int.toNat 256 * 1) = (bcells Z).toArray := by
    have hz : bcells Z = List.replicate 256 (.int .u8 0) := bcells_zero
    rw [hz]
    unfold madeCells
    apply Array.ext
    · simp only [Array.size_map, Array.size_range, List.size_toArray, List.length_replicate]; rfl
    · intro j h1 h2
      simp only [Array.getElem_map, Array.getElem_range, List.getElem_toArray, List.getElem_replicate]
      have : j % (Value.int .u8 0).cells.size = 0 := Nat.mod_one _
      rw [this]; rfl
  rw [e]; rfl
set_option maxHeartbeats 1000000 in
theorem noughts_calls (w : World) : Calls Try.prog 27 #[] w fun e w' => e = .returned (.string Z) ∧ Below w.heap.size w w' := by
  have HB := Lib.hid (show Below w.heap.size w (w.alloc (.cells (bcells Z).toArray 5)) from (Below.refl _ _).alloc (Nat.le_refl _) _)
  have HA := Lib.hid (alloc_at w (.cells (bcells Z).toArray 5))
  go_enter Try.func27, Try.ntmps27
  go_wp2_with ((with_reducible refine gate_dst (N := 1) rfl ?_); refine wpList_val rfl rfl (execOp_makeSlice rfl rfl rfl (run_mk256 _)) ?_; refine stop_here ?_)
  refine Lib.hid ?_
  obtain ⟨g, hg⟩ : ∃ g, w.heap.size = g := ⟨_, rfl⟩
  rw [hg] at HA ⊢
  generalize w.alloc (.cells (bcells Z).toArray 5) = w1 at HB HA ⊢
  have HC : (convert 64 9 (.slice (some ⟨g, 0, none⟩) 256 256)).run Try.prog w1 = .ok (.string Z) w1 := by
    have h := run_convert_row (P := Try.prog) w1 64 5 9 Try.underlying64 Try.underlying5 Try.underlying9 g 5 [Z] 256 (by intro b hb; simp only [List.mem_singleton] at hb; subst hb; exact rep8_size _ _) (by simpa using HA.out) 0 (by decide) 256
    simpa using h
  have HGE := Lib.hid hg
  clear hg
  go_wp2
  go_ret
  exact ⟨rfl, by first | exact HB.out | (rw [← HGE.out]; exact HB.out)⟩
theorem row_set {g n cap : Nat} {e : TypeId} {L : List ByteArray} (h : w.ownsRow 0 e 1 (.slice (some ⟨g, 0, none⟩) n cap) n (L.flatMap scell)) (i : Nat) (hi : i < L.length) (s : ByteArray) : (w.setCell ⟨g, i, none⟩ (.string s)).ownsRow 0 e 1 (.slice (some ⟨g, 0, none⟩) n cap) n ((L.set i s).flatMap scell) := by
  have hfl : (L.flatMap scell).length = L.length := by rw [flat_length (s := 1) (fun _ _ => rfl)]; omega
  have hn : L.length = n := by have := h.1; omega
  refine ⟨by rw [flat_length (s := 1) (fun _ _ => rfl), List.length_set, hn], ?_⟩
  rcases h.2 with ⟨e0, _⟩ | ⟨g', cap', cur, e1, hb, hg, h1, h2, h3, h4⟩
  · simp at e0
  · simp only [Value.slice.injEq, Option.some.injEq, Addr.mk.injEq, and_true, true_and] at e1
    obtain ⟨rfl, rfl⟩ := e1
    refine .inr ⟨g, cap, cur.setIfInBounds i (.string s), rfl, hb, set_at hg i _, h1, h2, by rw [Array.size_setIfInBounds]; exact h3, ?_⟩
    rw [Array.toList_setIfInBounds, List.take_set, h4, flat_set (s := 1) (fun _ _ => rfl) i hi s]
    have e2 : ∀ l : List ByteArray, l.flatMap scell = l.map .string := fun l => by induction l with
      | nil => rfl
      | cons x l ih => rw [List.flatMap_cons, ih]; rfl
    rw [e2, Nat.mul_one]
    rw [List.set_eq_take_append_cons_drop, if_pos (by rw [List.length_map]; exact hi)]
    simp [scell]
/-! ### Write -/
set_option maxHeartbeats 1000000 in
theorem rwrite_bad (h : RAt F w q vf vl d) (i : Int) (b : ByteArray) (hb : (d.bad i || b.size != 256) = true) : Calls Try.prog 28 #[.pointer (some ⟨q, 0, none⟩), .int .i64 i, .string b] w fun e w' => e = .returned (.int .i64 1) ∧ w = w' := by
  have hx := blk4 h.hq
  obtain ⟨af, cf, rfl, _⟩ := row_form h.hf
  have H := Lib.hid h
  have hn2 := H.out.ok.n2
  clear h
  have HB := Lib.hid hb
  clear hb
  go_enter Try.func28, Try.ntmps28
  by_cases h0 : i < 0
  · go_wp2
    go_ret
    exact ⟨rfl, rfl⟩
  · by_cases h1 : (d.firm.length : Int) ≤ i
    · go_wp2
      go_ret
      exact ⟨rfl, rfl⟩
    · have h2 : b.size ≠ 256 := by
        have := HB.out
        simp only [Dv.bad, Bool.or_eq_true, decide_eq_true_eq, bne_iff_ne, ne_eq] at this
        omega
      go_wp2
      go_ret
      exact ⟨rfl, rfl⟩
set_option maxHeartbeats 1000000 in
theorem rwrite_dies (h : RAt F w q vf vl d) (i : Nat) (hi : i < d.firm.length) (b : ByteArray) (hs : b.size = 256) (hb : d.burns = true) : Calls Try.prog 28 #[.pointer (some ⟨q, 0, none⟩), .int .i64 i, .string b] w fun e w' => e = .returned (.int .i64 5) ∧ RAt F w' q vf vl d.die ∧ Fr F w w' := by
  have hx := blk4 h.hq
  obtain ⟨af, cf, rfl, _⟩ := row_form h.hf
  have hn2 := h.ok.n2
  have HBU := Lib.hid (rburn_yes h hb)
  clear h hb
  go_enter Try.func28, Try.ntmps28
  go_wp2_with (go_at_call 33; refine HBU.out.mono ?_; rintro e w1 ⟨rfl, h1, h2⟩; have H1 := Lib.hid h1; have H2 := Lib.hid h2; clear h1 h2 hx)
  go_ret
  exact ⟨rfl, H1.out, H2.out⟩
set_option maxHeartbeats 2000000 in
theorem rwrite_goes (h : RAt F w q vf vl d) (i : Nat) (hi : i < d.firm.length) (b : ByteArray) (hs : b.size = 256) (hb : d.burns = false) (hl : d.late.length ≤ 1000000) :
    Calls Try.prog 28 #[.pointer (some ⟨q, 0, none⟩), .int .i64 i, .string b] w fun e w' => e = .returned (.int .i64 0) ∧ (∃ vl', RAt (Up F w w') w' q vf vl' { d with late := d.late ++ [(i, b)], fuse := less d.fuse }) ∧ Fr F w w' := by
  have hx := blk4 h.hq
  obtain ⟨af, cf, rfl, _⟩ := row_form h.hf
  obtain ⟨al, cl, rfl, _⟩ := row_form h.hl
  have hn2 := h.ok.n2
  have HBU := Lib.hid (rburn_no h hb)
  have HL := Lib.hid hl
  have HS := Lib.hid hs
  have HI := Lib.hid hi
  clear h hb hl
  go_enter Try.func28, Try.ntmps28
  go_wp2_with (first | (go_at_call 33; refine HBU.out.mono ?_; rintro e w1 ⟨rfl, h1, h2⟩; have H1 := Lib.hid h1; have H2 := Lib.hid h2; clear h1 h2 hx; have hx := blk4 H1.out.hq) | ((with_reducible refine gate_dst (N := 35) rfl ?_); refine stop_here ?_))
  refine Lib.hid ?_
  clear hx
  have HA2 := Lib.hid (H1.out.below ((Below.refl _ _).alloc (Nat.le_refl _) (.cells #[.int .i64 (i : Int), .string b] 72)))
  have HF2 := Lib.hid (H2.out.trans (Fr.alloc F w1 (.cells #[.int .i64 (i : Int), .string b] 72)) (fun _ _ h => h))
  have HN2 := Lib.hid (alloc_at w1 (.cells #[.int .i64 (i : Int), .string b] 72))
  obtain ⟨N, hN⟩ : ∃ N, w1.heap.size = N := ⟨_, rfl⟩
  rw [hN] at HN2 ⊢
  clear hN
  generalize w1.alloc (.cells #[.int .i64 (i : Int), .string b] 72) = w2 at HA2 HF2 HN2 ⊢
  obtain ⟨ti, hti, hz, hsz, hbz⟩ := info_parts info_rw
  obtain ⟨v', w3, hr, hown, hg, _, hat⟩ := run_append_own_at (P := Try.prog) w2 0 53 53 72 ti _ 2 24 Try.underlying53 hti hz hsz hbz rfl (by decide) (.slice al d.late.length cl) d.late.length _ HA2.out.hl ⟨N, 0, none⟩ 1 1 (lcells (i, b)) rfl
    (fun j u hu => by
      have e : (⟨N, 0, none⟩ : Addr).add j = ⟨N, j, none⟩ := by unfold Addr.add; split <;> simp_all
      rw [e, cell_of_row w2 N j _ _ _ HN2.out]; simpa [lcells] using hu) (by simp [lcells, Value.oneCell']) (by have := HL.out; unfold maxLen; omega) (by have := HL.out; omega) (Nat.zero_le _)
  have HFL := Lib.hid HA2.out.fl
  have HQ3 := Lib.hid ((hg.block q (HA2.out.lt _ HA2.out.fq) (fun e => (HFL.out q e.symm).2.1 rfl)).trans HA2.out.hq)
  have HF3 := Lib.hid (HF2.out.trans (Fr.grown (F := F) hg (fun k hk => (HFL.out k hk).1)) (fun _ _ h => h))
  have HFF3 := Lib.hid (row_kept HA2.out.hf (w' := w3) (fun k hk => hg.block k (HA2.out.hf.lt k hk).2 (fun e => (HFL.out k e.symm).2.2 hk)))
  have HNB : Hid (∀ k, v'.ownBlock = some k → (F k ∨ (w.heap.size ≤ k ∧ k < w3.heap.size)) ∧ k ≠ q ∧ (Value.slice af d.firm.length cf).ownBlock ≠ some k) := fun k hk => by
    have h3 := (hown.lt k hk).2
    rcases hat with e | e
    · rw [e] at hk
      exact ⟨.inl (HFL.out k hk).1, (HFL.out k hk).2⟩
    · rw [e] at hk
      simp only [Option.some.injEq] at hk
      have h1 := HA2.out.lt _ HA2.out.fq
      have h2 := HF2.out.size
      refine ⟨.inr ⟨by omega, h3⟩, by omega, fun e2 => ?_⟩
      have := (HA2.out.hf.lt k e2).2
      omega
  have HO3 := Lib.hid hown
  obtain ⟨av, cv, rfl, _⟩ := row_form hown
  refine wpList_val rfl rfl (execOp_append rfl rfl rfl hr) ?_
  have HOK := Lib.hid HA2.out.ok
  have HFQ := Lib.hid (And.intro HA2.out.fq HA2.out.ff)
  have HLT := Lib.hid HA2.out.lt
  have HSZ := Lib.hid hg.size
  clear hr hown hg hat hti hz hsz hbz HA2 HF2 HN2 H1 H2
  have hx := blk4 HQ3.out
  go_wp2
  go_ret
  refine ⟨rfl, ⟨.slice av (d.late.length + 1) cv, ?_⟩, HF3.out.trans (Fr.setCell (F := F) w3 (p := ⟨q, 1, none⟩) HFQ.out.1 _) (fun _ _ h => h)⟩
  have hss : (w3.setCell ⟨q, 1, none⟩ (.slice av (d.late.length + 1) cv)).heap.size = w3.heap.size := by simp only [World.setCell, Array.size_modify]
  exact {
    ok := ⟨HOK.out.n1, HOK.out.n2, HOK.out.sz, fun x hx => by
      rcases List.mem_append.1 hx with hx | hx
      · exact HOK.out.la x hx
      · simp only [List.mem_singleton] at hx
        subst hx
        exact ⟨HI.out, HS.out⟩, HOK.out.f1, HOK.out.f2⟩
    fq := .inl HFQ.out.1
    ff := fun k hk => ⟨.inl (HFQ.out.2 k hk).1, (HFQ.out.2 k hk).2⟩
    fl := fun k hk => ⟨by
      rcases (HNB.out k hk).1 with h | h
      · exact .inl h
      · exact .inr ⟨h.1, by rw [hss]; exact h.2⟩, (HNB.out k hk).2⟩
    hq := set_at HQ3.out 1 (.slice av (d.late.length + 1) cv)
    hf := row_kept HFF3.out fun k hk => Below.heap_setCell _ _ _ _ (HFQ.out.2 k hk).2
    hl := by
      have h := row_kept HO3.out (w' := w3.setCell ⟨q, 1, none⟩ (.slice av (d.late.length + 1) cv)) fun k hk => Below.heap_setCell _ _ _ _ (HNB.out k hk).2.1
      rw [List.length_append, List.flatMap_append]
      simpa using h
    lt := fun k hk => by
      rw [hss]
      rcases hk with hk | hk
      · have h1 := HLT.out k hk; have h2 := HSZ.out; omega
      · rw [hss] at hk; exact hk.2 }
end Go.Proofs.Ytmphnfkohilojaa.Dev
