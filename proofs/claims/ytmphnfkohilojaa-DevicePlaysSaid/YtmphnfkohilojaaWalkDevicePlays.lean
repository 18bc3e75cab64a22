/- Layer device: whatever is done to a device, all its blocks, settled or not, and all errors, are the document's. -/
import Derived.Test.YtmphnfkohilojaaDevModel
import Derived.Test.YtmphnfkohilojaaDevLaws
namespace Go.Proofs.Ytmphnfkohilojaa.Dev
open Go.RowKit Go.Own Go.DevL Go.Blk Go.Sees Go.Proofs.YtmphnfkohilojaaW.PrintLast Go.Proofs.YtmphnfkohilojaaW.PrintWords
set_option linter.unusedVariables false
set_option linter.unusedSimpArgs false
set_option maxRecDepth 100000
section
variable {P : Program} {ops : Array Oper} {Q : Exit → Act → World → Prop} {md : Region.Mode} {S1 S2 : World → Prop}
/-- More is known from here on. -/
theorem switch_ (h : ∀ w, S2 w → S1 w) : ∀ {fuel : Nat} {l : Array Bool} {a : Act} {w : World}, S2 w → wpAnyLast P md ops Q S2 [] fuel l a w → wpAnyLast P md ops Q S1 [] fuel l a w
  | 0, _, _, _, _, H => H
  | fuel + 1, l, a, w, hS, H => ⟨H.1, fun i hi => wpOp_mono (fun a' w' h' => ⟨fun _ _ => h _ (h'.1 (by simp) hS), switch_ h (h'.1 (by simp) hS) h'.2⟩) (H.2 i hi)⟩
end
/-- The program's device at p and the document's at q, each with its own state. -/
structure Both (w0 w : World) (p q : Nat) (d e : Dv) : Prop where
  sets : ∃ F G, Dev F w p d ∧ RDev G w q e ∧ (∀ k, F k → w0.heap.size ≤ k ∧ ¬ G k) ∧ ∀ k, G k → w0.heap.size ≤ k
  bel : Below w0.heap.size w0 w
variable {w0 w w' : World} {p q : Nat} {d e : Dv}
theorem Both.below (h : Both w0 w p q d e) (hb : Below w.heap.size w w') : Both w0 w' p q d e := by
  obtain ⟨F, G, h1, h2, h3, h4⟩ := h.sets
  exact ⟨⟨F, G, h1.below hb, h2.below hb, h3, h4⟩, h.bel.trans (hb.mono h.bel.size)⟩
theorem Both.drew (h : Both w0 w p q d e) : Both w0 w.drew p q d e := h.below (Below.refl _ _).drew
theorem both_do (h : Both w0 w p q d e) (x : SAct) (hx : x.OK) (hl : d.late.length ≤ 1000000) : Calls Try.prog 15 #[.pointer (some ⟨p, 0, none⟩), .agg #[.int .i64 x.k, .int .i64 x.at_, .int .u8 (x.b.toNat : Int), .int .u64 x.keep]] w fun r w' => r = .returned (.int .i64 (d.act x).1) ∧ Both w0 w' p q (d.act x).2 e := by
  obtain ⟨F, G, h1, h2, h3, h4⟩ := h.sets
  refine (do_calls h1 x hx hl).mono fun r w' ⟨hr, hd, hf⟩ => ⟨hr, ⟨⟨_, G, hd, h2.keep hf (fun k hg hk => (h3 k hk).2 hg), fun k hk => ?_, h4⟩, h.bel.trans (hf.below h.bel.size (fun k hk => (h3 k hk).1))⟩⟩
  rcases hk with hk | hk
  · exact h3 k hk
  · exact ⟨by have := h.bel.size; omega, fun hg => by have := h2.lt k hg; omega⟩
theorem both_model (h : Both w0 w p q d e) (x : SAct) (hx : x.OK) (hl : e.late.length ≤ 1000000) : Calls Try.prog 23 #[.pointer (some ⟨q, 0, none⟩), .agg #[.int .i64 x.k, .int .i64 x.at_, .int .u8 (x.b.toNat : Int), .int .u64 x.keep]] w fun r w' => r = .returned (.int .i64 (e.act x).1) ∧ Both w0 w' p q d (e.act x).2 := by
  obtain ⟨F, G, h1, h2, h3, h4⟩ := h.sets
  refine (model_calls h2 x hx hl).mono fun r w' ⟨hr, hd, hf⟩ => ⟨hr, ⟨⟨F, _, h1.keep hf (fun k hk hg => (h3 k hk).2 hg), hd, fun k hk => ⟨(h3 k hk).1, fun hu => ?_⟩, fun k hk => ?_⟩, h.bel.trans (hf.below h.bel.size h4)⟩⟩
  · rcases hu with hu | hu
    · exact (h3 k hk).2 hu
    · have := h1.lt k hk; omega
  · rcases hk with hk | hk
    · exact h4 k hk
    · have := h.bel.size; omega
theorem both_read (h : Both w0 w p q d e) (i : Int) : Calls Try.prog 14 #[.pointer (some ⟨p, 0, none⟩), .int .i64 i] w fun r w' => r = readE d i ∧ w = w' := by obtain ⟨F, G, h, _⟩ := h.sets; exact read_any h i
theorem both_rread (h : Both w0 w p q d e) (i : Int) (hl : e.late.length ≤ 1000000) : Calls Try.prog 24 #[.pointer (some ⟨q, 0, none⟩), .int .i64 i] w fun r w' => r = readE e i ∧ w = w' := by obtain ⟨F, G, _, h, _⟩ := h.sets; exact rread_any h i hl
theorem both_settled (h : Both w0 w p q d e) (i : Int) : Calls Try.prog 19 #[.pointer (some ⟨p, 0, none⟩), .int .i64 i] w fun r w' => r = .returned (.string (d.settled i)) ∧ w = w' := by obtain ⟨F, G, h, _⟩ := h.sets; exact settled_any h i
theorem both_dead (h : Both w0 w p q d e) : Calls Try.prog 18 #[.pointer (some ⟨p, 0, none⟩)] w fun r w' => r = .returned (.bool d.dead) ∧ w = w' := by obtain ⟨F, G, h, _⟩ := h.sets; exact dead_any h
theorem both_unsettled (h : Both w0 w p q d e) : Calls Try.prog 20 #[.pointer (some ⟨p, 0, none⟩)] w fun r w' => r = .returned (.int .i64 d.late.length) ∧ w = w' := by obtain ⟨F, G, h, _⟩ := h.sets; exact unsettled_any h
theorem Both.struct (h : Both w0 w p q d e) : ∃ vf vl, w.heap[q]? = some (.cells #[vf, vl, .int .i64 e.fuse, .bool e.dead] 55 (0, 0)) ∧ ∃ a c, vl = .slice a e.late.length c := by
  obtain ⟨F, G, _, ⟨vf, vl, h⟩, _⟩ := h.sets
  obtain ⟨a, c, e1, _⟩ := row_form h.hl
  exact ⟨vf, vl, h.hq, a, c, e1⟩
theorem Both.firm (h : Both w0 w p q d e) (i : Nat) (hi : i < e.firm.length) : ∃ g c vl, w.heap[q]? = some (.cells #[.slice (some ⟨g, 0, none⟩) e.firm.length c, vl, .int .i64 e.fuse, .bool e.dead] 55 (0, 0)) ∧ w.cell? ⟨g, i, none⟩ = some (.string e.firm[i]) := by
  obtain ⟨F, G, _, ⟨vf, vl, h⟩, _⟩ := h.sets
  obtain ⟨g, c, e1, hc, _⟩ := cell_firm h.hf i hi
  subst e1
  exact ⟨g, c, vl, h.hq, hc⟩
def smallN (n : Int) : Nat := (1 + (IntKind.u64.wrap n).tmod 6).toNat
theorem small_calls (n : Int) (w : World) : Calls Try.prog 21 #[.int .i64 n] w fun r w' => r = .returned (.int .i64 (smallN n : Int)) ∧ w = w' := by
  have h0 : 0 ≤ IntKind.u64.wrap n := by rw [IntKind.wrap_u64]; omega
  have e : ((smallN n : Nat) : Int) = wrap64 (1 + wrap64 ((IntKind.u64.wrap n).tmod 6)) := by
    unfold smallN
    rw [Int.tmod_eq_emod_of_nonneg h0]
    unfold wrap64
    omega
  rw [e]
  clear e h0
  go_enter Try.func21, Try.ntmps21
  go_wp2
  go_ret
  exact ⟨rfl, rfl⟩
theorem smallN_le (n : Int) : 1 ≤ smallN n ∧ smallN n ≤ 6 := by
  have h0 : 0 ≤ IntKind.u64.wrap n := by rw [IntKind.wrap_u64]; omega
  unfold smallN
  rw [Int.tmod_eq_emod_of_nonneg h0]
  omega
set_option maxHeartbeats 16000000 in
theorem plays_law (n : Int) (A : Option Addr) (ca : Nat) (l : List SAct) (w : World) (hA : ArrAt w A acells 4 l) (hl : ∀ x ∈ l, x.OK) (ll : l.length ≤ 9223372036854775807) :
    Calls Try.prog 7 #[.int .i64 n, .slice A l.length ca] w fun e w' => e = .returned (.bool true) ∧ Below w.heap.size w w' := by
  have HA := Lib.hid hA
  have HOl := Lib.hid hl
  obtain ⟨c, hc⟩ : ∃ c, smallN n = c := ⟨_, rfl⟩
  have HSM := Lib.hid (show ∀ W, Calls Try.prog 21 #[.int .i64 n] W fun r w' => r = .returned (.int .i64 (c : Int)) ∧ W = w' from fun W => hc ▸ small_calls n W)
  have HC6 := Lib.hid (show 1 ≤ c ∧ c ≤ 6 from hc ▸ smallN_le n)
  obtain ⟨hc1, hc6⟩ := HC6.out
  clear hA hl hc
  go_enter Try.func7, Try.ntmps7
  go_wp2_with fail
  refine (alive_calls w).mono ?_
  rintro e w1 ⟨rfl, hb⟩
  have HB1 := Lib.hid hb
  clear hb
  go_wp2_with fail
  refine (HSM.out w1).mono ?_
  rintro e w1 ⟨rfl, rfl⟩
  go_wp2_with fail
  refine (new_any (c : Int) w1).mono ?_
  rintro e w2 ⟨⟨p, rfl, h2⟩, hb2⟩
  have H2 := Lib.hid h2
  have HB2 := Lib.hid hb2
  clear h2 hb2
  go_wp2_with fail
  refine (HSM.out w2).mono ?_
  rintro e w2 ⟨rfl, rfl⟩
  go_wp2_with fail
  refine (rnew_any (c : Int) w2).mono ?_
  rintro e w3 ⟨⟨q, rfl, h3⟩, hb3⟩
  have HB3 : Hid (Both w w3 p q (fresh c) (fresh c)) := by
    have s1 := HB1.out.size
    have s2 := HB2.out.size
    refine ⟨⟨_, _, H2.out.below hb3, h3, fun k hk => ⟨by omega, fun hg => by omega⟩, fun k hk => by omega⟩, (HB1.out.trans (HB2.out.mono s1)).trans (hb3.mono (by omega))⟩
  clear h3 hb3 H2 HB1 HB2
  have HF0 := Lib.hid (show (fresh (c : Int)).firm.length = c by rw [fresh_len]; unfold clamp; omega)
  go_wp2_with fail
  go_loopg [7] 200 (fun gg s7 wq => ∃ (j : Nat) (d : Dv), s7 = .int .i64 j ∧ j ≤ l.length ∧ j ≤ 200 ∧ 200 - j ≤ gg ∧ Hid (Both w wq p q d d) ∧ Hid (d.late.length ≤ j ∧ d.firm.length = c))
  case atStart => exact ⟨0, fresh c, by simp, Nat.zero_le _, by omega, by omega, HB3, Lib.hid ⟨Nat.le_refl _, HF0.out⟩⟩
  case round =>
    clear HB3 HF0
    obtain ⟨wq, rfl⟩ : ∃ wq : World, wq = wr := ⟨_, rfl⟩
    obtain ⟨j, d, rfl, hj1, hj2, hjg, HB, HLA⟩ := hrel
    by_cases hc2 : j < l.length ∧ j < 200
    · obtain ⟨hd1, hd2⟩ := hc2
      obtain ⟨blk, off, rfl, hbw, hcs0⟩ := HA.out j hd1
      obtain ⟨x, hx⟩ : ∃ x, l[j] = x := ⟨_, rfl⟩
      rw [hx] at hcs0
      have HX := Lib.hid (HOl.out x (hx ▸ List.getElem_mem hd1))
      have HCS : Hid (∀ W, Below w.heap.size w W → ∀ i u, (acells x)[i]? = some u → W.cell? ⟨blk, off + j * 4 + i, none⟩ = some u) := fun W hb i u hu => (hb.cell (p := ⟨blk, _, none⟩) hbw).trans (hcs0 i u hu)
      clear hcs0 hx
      have c0 := HCS.out _ HB.out.bel 0 _ rfl
      have c1 := HCS.out _ HB.out.bel 1 _ rfl
      have c2 := HCS.out _ HB.out.bel 2 _ rfl
      have c3 := HCS.out _ HB.out.bel 3 _ rfl
      simp only [Nat.add_zero] at c0
      have HLT := Lib.hid (show d.late.length ≤ 1000000 by have := HLA.out.1; omega)
      have HL1 : (d.act x).2.late.length ≤ j + 1 ∧ (d.act x).2.firm.length = c := ⟨by have := act_late d x; have := HLA.out.1; omega, by rw [act_len]; exact HLA.out.2⟩
      go_wp2
      refine start_ (n := 32) (S := fun w' => w'.cell? ⟨blk, off + j * 4, none⟩ = some (.int .i64 x.k) ∧ w'.cell? ⟨blk, off + j * 4 + 1, none⟩ = some (.int .i64 x.at_) ∧ w'.cell? ⟨blk, off + j * 4 + 2, none⟩ = some (.int .u8 (x.b.toNat : Int)) ∧ w'.cell? ⟨blk, off + j * 4 + 3, none⟩ = some (.int .u64 x.keep)) (ds := []) #[false, false, false, false, false, false, false, false, false, false, false, false, false, false, false, false, false, false, false, false, false, false, false, false, false, false, false, false, false, false, false, false] (by kernel_rfl) rfl rfl (⟨c0, c1, c2, c3⟩) (fun hHeld => ?_)
      have HB2 := Lib.hid HB.out.drew
      generalize wq.drew = w2 at HB2 hHeld ⊢
      clear HB c0 c1 c2 c3
      refine pure_ (i := 0) (N := some 32) (v := ?_) (a' := ?_) #[true, false, false, false, false, false, false, false, false, false, false, false, false, false, false, false, false, false, false, false, false, false, false, false, false, false, false, false, false, false, false, false] rfl rfl (by kernel_rfl) (fun _ _ _ h => h) (Or.inl ⟨by rfl, ?_⟩) ?_ ?_
      rotate_left
      · intro w'
        go_simp
        with_reducible rfl
      rotate_left
      · simp only [Act.put, List.setIfInBounds_toArray, List.set_cons_zero, List.set_cons_succ, i64_w, i32_w]
        rfl
      refine pure_ (i := 1) (N := some 33) (v := ?_) (a' := ?_) #[true, true, false, false, false, false, false, false, false, false, false, false, false, false, false, false, false, false, false, false, false, false, false, false, false, false, false, false, false, false, false, false] rfl rfl (by kernel_rfl) (fun _ _ _ h => h) (Or.inl ⟨by rfl, ?_⟩) ?_ ?_
      rotate_left
      · intro w'
        go_simp
        with_reducible rfl
      rotate_left
      · simp only [Act.put, List.setIfInBounds_toArray, List.set_cons_zero, List.set_cons_succ, i64_w, i32_w]
        rfl
      refine pure_ (i := 2) (N := some 34) (v := ?_) (a' := ?_) #[true, true, true, false, false, false, false, false, false, false, false, false, false, false, false, false, false, false, false, false, false, false, false, false, false, false, false, false, false, false, false, false] rfl rfl (by kernel_rfl) (fun _ _ _ h => h) (Or.inl ⟨by rfl, ?_⟩) ?_ ?_
      rotate_left
      · intro w'
        go_simp
        with_reducible rfl
      rotate_left
      · simp only [Act.put, List.setIfInBounds_toArray, List.set_cons_zero, List.set_cons_succ, i64_w, i32_w]
        rfl
      refine pure_ (i := 3) (N := some 35) (v := ?_) (a' := ?_) #[true, true, true, true, false, false, false, false, false, false, false, false, false, false, false, false, false, false, false, false, false, false, false, false, false, false, false, false, false, false, false, false] rfl rfl (by kernel_rfl) (fun _ _ _ h => h) (Or.inl ⟨by rfl, ?_⟩) ?_ ?_
      rotate_left
      · intro w'
        go_simp
        with_reducible rfl
      rotate_left
      · simp only [Act.put, List.setIfInBounds_toArray, List.set_cons_zero, List.set_cons_succ, i64_w, i32_w]
        rfl
      refine take_ (i := 4) (N := some 36) (v := ?_) (a' := ?_) #[true, true, true, true, true, false, false, false, false, false, false, false, false, false, false, false, false, false, false, false, false, false, false, false, false, false, false, false, false, false, false, false] rfl rfl (by kernel_rfl) (fun _ _ _ h => h) (Or.inl ⟨by rfl, ?_⟩) hHeld ?_ ?_
      rotate_left
      · intro w' hS
        obtain ⟨s0, s1, s2, s3⟩ := hS
        go_simp
        with_reducible rfl
      rotate_left
      · simp only [Act.put, List.setIfInBounds_toArray, List.set_cons_zero, List.set_cons_succ, i64_w, i32_w]
        rfl
      refine pure_ (i := 6) (N := some 38) (v := ?_) (a' := ?_) #[true, true, true, true, true, false, true, false, false, false, false, false, false, false, false, false, false, false, false, false, false, false, false, false, false, false, false, false, false, false, false, false] rfl rfl (by kernel_rfl) (fun _ _ _ h => h) (Or.inl ⟨by rfl, ?_⟩) ?_ ?_
      rotate_left
      · intro w'
        go_simp
        with_reducible rfl
      rotate_left
      · simp only [Act.put, List.setIfInBounds_toArray, List.set_cons_zero, List.set_cons_succ, i64_w, i32_w]
        rfl
      refine pure_ (i := 7) (N := some 39) (v := ?_) (a' := ?_) #[true, true, true, true, true, false, true, true, false, false, false, false, false, false, false, false, false, false, false, false, false, false, false, false, false, false, false, false, false, false, false, false] rfl rfl (by kernel_rfl) (fun _ _ _ h => h) (Or.inl ⟨by rfl, ?_⟩) ?_ ?_
      rotate_left
      · intro w'
        go_simp
        with_reducible rfl
      rotate_left
      · simp only [Act.put, List.setIfInBounds_toArray, List.set_cons_zero, List.set_cons_succ, i64_w, i32_w]
        rfl
      refine pure_ (i := 8) (N := some 40) (v := ?_) (a' := ?_) #[true, true, true, true, true, false, true, true, true, false, false, false, false, false, false, false, false, false, false, false, false, false, false, false, false, false, false, false, false, false, false, false] rfl rfl (by kernel_rfl) (fun _ _ _ h => h) (Or.inl ⟨by rfl, ?_⟩) ?_ ?_
      rotate_left
      · intro w'
        go_simp
        with_reducible rfl
      rotate_left
      · simp only [Act.put, List.setIfInBounds_toArray, List.set_cons_zero, List.set_cons_succ, i64_w, i32_w]
        rfl
      refine pure_ (i := 9) (N := some 41) (v := ?_) (a' := ?_) #[true, true, true, true, true, false, true, true, true, true, false, false, false, false, false, false, false, false, false, false, false, false, false, false, false, false, false, false, false, false, false, false] rfl rfl (by kernel_rfl) (fun _ _ _ h => h) (Or.inl ⟨by rfl, ?_⟩) ?_ ?_
      rotate_left
      · intro w'
        go_simp
        with_reducible rfl
      rotate_left
      · simp only [Act.put, List.setIfInBounds_toArray, List.set_cons_zero, List.set_cons_succ, i64_w, i32_w]
        rfl
      refine take_ (i := 10) (N := some 42) (v := ?_) (a' := ?_) #[true, true, true, true, true, false, true, true, true, true, true, false, false, false, false, false, false, false, false, false, false, false, false, false, false, false, false, false, false, false, false, false] rfl rfl (by kernel_rfl) (fun _ _ _ h => h) (Or.inl ⟨by rfl, ?_⟩) hHeld ?_ ?_
      rotate_left
      · intro w' hS
        obtain ⟨s0, s1, s2, s3⟩ := hS
        go_simp
        with_reducible rfl
      rotate_left
      · simp only [Act.put, List.setIfInBounds_toArray, List.set_cons_zero, List.set_cons_succ, i64_w, i32_w]
        rfl
      refine one_ (i := 5) (N := some 37) #[true, true, true, true, true, true, true, true, true, true, true, false, false, false, false, false, false, false, false, false, false, false, false, false, false, false, false, false, false, false, false, false] rfl rfl (by kernel_rfl) (by decide) (fun K hK => ?_)
      refine goes_ Try.func15 (by kernel_rfl) rfl #[.pointer (some ⟨p, 0, none⟩), .agg #[.int .i64 x.k, .int .i64 x.at_, .int .u8 (x.b.toNat : Int), .int .u64 x.keep]] (by rfl) rfl rfl (by (try simp only [List.map_toArray, List.map_cons, List.map_nil]); first | done | rfl) ?_
      refine (both_do HB2.out x HX.out HLT.out).mono ?_
      rintro e w3 ⟨rfl, h3⟩
      refine ⟨_, rfl, ?_⟩
      have HB3 := Lib.hid h3
      clear h3 HB2
      refine hK.out _ _ ⟨by have h := HCS.out _ HB3.out.bel 0 _ rfl; simpa using h, HCS.out _ HB3.out.bel 1 _ rfl, HCS.out _ HB3.out.bel 2 _ rfl, HCS.out _ HB3.out.bel 3 _ rfl⟩ (fun hHeld => ?_)
      clear hK K
      refine norm_ (a' := ?_) ?_ ?_
      rotate_left
      · show Act.put _ (some 37) _ = _
        simp only [Act.put, List.setIfInBounds_toArray, List.set_cons_zero, List.set_cons_succ, i64_w, i32_w]
        rfl
      refine one_ (i := 11) (N := some 43) #[true, true, true, true, true, true, true, true, true, true, true, true, false, false, false, false, false, false, false, false, false, false, false, false, false, false, false, false, false, false, false, false] rfl rfl (by kernel_rfl) (by decide) (fun K hK => ?_)
      refine goes_ Try.func23 (by kernel_rfl) rfl #[.pointer (some ⟨q, 0, none⟩), .agg #[.int .i64 x.k, .int .i64 x.at_, .int .u8 (x.b.toNat : Int), .int .u64 x.keep]] (by rfl) rfl rfl (by (try simp only [List.map_toArray, List.map_cons, List.map_nil]); first | done | rfl) ?_
      refine (both_model HB3.out x HX.out HLT.out).mono ?_
      rintro e w4 ⟨rfl, h4⟩
      refine ⟨_, rfl, ?_⟩
      have HB4 := Lib.hid h4
      clear h4 HB3
      refine hK.out _ _ ⟨by have h := HCS.out _ HB4.out.bel 0 _ rfl; simpa using h, HCS.out _ HB4.out.bel 1 _ rfl, HCS.out _ HB4.out.bel 2 _ rfl, HCS.out _ HB4.out.bel 3 _ rfl⟩ (fun hHeld => ?_)
      clear hK K
      refine norm_ (a' := ?_) ?_ ?_
      rotate_left
      · show Act.put _ (some 43) _ = _
        simp only [Act.put, List.setIfInBounds_toArray, List.set_cons_zero, List.set_cons_succ, i64_w, i32_w]
        rfl
      refine pure_ (i := 12) (N := some 44) (v := ?_) (a' := ?_) #[true, true, true, true, true, true, true, true, true, true, true, true, true, false, false, false, false, false, false, false, false, false, false, false, false, false, false, false, false, false, false, false] rfl rfl (by kernel_rfl) (fun _ _ _ h => h) (Or.inl ⟨by rfl, ?_⟩) ?_ ?_
      rotate_left
      · intro w'
        go_simp
        with_reducible rfl
      rotate_left
      · simp only [Act.put, List.setIfInBounds_toArray, List.set_cons_zero, List.set_cons_succ, i64_w, i32_w]
        rfl
      refine pure_ (i := 13) (N := some 45) (v := ?_) (a' := ?_) #[true, true, true, true, true, true, true, true, true, true, true, true, true, true, false, false, false, false, false, false, false, false, false, false, false, false, false, false, false, false, false, false] rfl rfl (by kernel_rfl) (fun _ _ _ h => h) (Or.inl ⟨by rfl, ?_⟩) ?_ ?_
      rotate_left
      · intro w'
        go_simp
        with_reducible rfl
      rotate_left
      · simp only [Act.put, List.setIfInBounds_toArray, List.set_cons_zero, List.set_cons_succ, i64_w, i32_w]
        rfl
      obtain ⟨d', hd'⟩ : ∃ d', (d.act x).2 = d' := ⟨_, rfl⟩
      have HB4' := HB4.out
      rw [hd'] at HB4' HL1
      have HB4 := Lib.hid HB4'
      clear hd' HB4'
      obtain ⟨vf, vl, hqq⟩ := HB4.out.struct
      have HQQ := Lib.hid hqq.1
      obtain ⟨lav, lcv, rfl⟩ := hqq.2
      clear hqq
      refine switch_ (S2 := fun w' => (w'.cell? ⟨blk, off + j * 4, none⟩ = some (.int .i64 x.k) ∧ w'.cell? ⟨blk, off + j * 4 + 1, none⟩ = some (.int .i64 x.at_) ∧ w'.cell? ⟨blk, off + j * 4 + 2, none⟩ = some (.int .u8 (x.b.toNat : Int)) ∧ w'.cell? ⟨blk, off + j * 4 + 3, none⟩ = some (.int .u64 x.keep)) ∧ w'.heap[q]? = some (.cells #[vf, .slice lav d'.late.length lcv, .int .i64 d'.fuse, .bool d'.dead] 55 (0, 0))) (fun _ h => h.1) ⟨hHeld, HQQ.out⟩ ?_
      have hHeld2 : (fun w' => (w'.cell? ⟨blk, off + j * 4, none⟩ = some (.int .i64 x.k) ∧ w'.cell? ⟨blk, off + j * 4 + 1, none⟩ = some (.int .i64 x.at_) ∧ w'.cell? ⟨blk, off + j * 4 + 2, none⟩ = some (.int .u8 (x.b.toNat : Int)) ∧ w'.cell? ⟨blk, off + j * 4 + 3, none⟩ = some (.int .u64 x.keep)) ∧ w'.heap[q]? = some (.cells #[vf, .slice lav d'.late.length lcv, .int .i64 d'.fuse, .bool d'.dead] 55 (0, 0))) w4 := ⟨hHeld, HQQ.out⟩
      clear hHeld
      have hHeld := hHeld2
      clear hHeld2
      refine pure_ (i := 14) (N := some 46) (v := ?_) (a' := ?_) #[true, true, true, true, true, true, true, true, true, true, true, true, true, true, true, false, false, false, false, false, false, false, false, false, false, false, false, false, false, false, false, false] rfl rfl (by kernel_rfl) (fun _ _ _ h => h) (Or.inl ⟨by rfl, ?_⟩) ?_ ?_
      rotate_left
      · intro w'
        go_simp
        with_reducible rfl
      rotate_left
      · simp only [Act.put, List.setIfInBounds_toArray, List.set_cons_zero, List.set_cons_succ, i64_w, i32_w]
        rfl
      refine pure_ (i := 16) (N := some 48) (v := ?_) (a' := ?_) #[true, true, true, true, true, true, true, true, true, true, true, true, true, true, true, false, true, false, false, false, false, false, false, false, false, false, false, false, false, false, false, false] rfl rfl (by kernel_rfl) (fun _ _ _ h => h) (Or.inl ⟨by rfl, ?_⟩) ?_ ?_
      rotate_left
      · intro w'
        go_simp
        with_reducible rfl
      rotate_left
      · simp only [Act.put, List.setIfInBounds_toArray, List.set_cons_zero, List.set_cons_succ, i64_w, i32_w]
        rfl
      refine pure_ (i := 17) (N := some 49) (v := ?_) (a' := ?_) #[true, true, true, true, true, true, true, true, true, true, true, true, true, true, true, false, true, true, false, false, false, false, false, false, false, false, false, false, false, false, false, false] rfl rfl (by kernel_rfl) (fun _ _ _ h => h) (Or.inl ⟨by rfl, ?_⟩) ?_ ?_
      rotate_left
      · intro w'
        go_simp
        with_reducible rfl
      rotate_left
      · simp only [Act.put, List.setIfInBounds_toArray, List.set_cons_zero, List.set_cons_succ, i64_w, i32_w]
        rfl
      refine pure_ (i := 18) (N := some 50) (v := ?_) (a' := ?_) #[true, true, true, true, true, true, true, true, true, true, true, true, true, true, true, false, true, true, true, false, false, false, false, false, false, false, false, false, false, false, false, false] rfl rfl (by kernel_rfl) (fun _ _ _ h => h) (Or.inl ⟨by rfl, ?_⟩) ?_ ?_
      rotate_left
      · intro w'
        go_simp
        with_reducible rfl
      rotate_left
      · simp only [Act.put, List.setIfInBounds_toArray, List.set_cons_zero, List.set_cons_succ, i64_w, i32_w]
        rfl
      refine take_ (i := 19) (N := some 51) (v := ?_) (a' := ?_) #[true, true, true, true, true, true, true, true, true, true, true, true, true, true, true, false, true, true, true, true, false, false, false, false, false, false, false, false, false, false, false, false] rfl rfl (by kernel_rfl) (fun _ _ _ h => h) (Or.inl ⟨by rfl, ?_⟩) hHeld ?_ ?_
      rotate_left
      · intro w' hS
        have s5 := blk4 hS.2
        obtain ⟨z0, _, z1, _, z2, _, z3, _⟩ := s5
        go_simp
        with_reducible rfl
      rotate_left
      · simp only [Act.put, List.setIfInBounds_toArray, List.set_cons_zero, List.set_cons_succ, i64_w, i32_w]
        rfl
      refine one_ (i := 15) (N := some 47) #[true, true, true, true, true, true, true, true, true, true, true, true, true, true, true, true, true, true, true, true, false, false, false, false, false, false, false, false, false, false, false, false] rfl rfl (by kernel_rfl) (by decide) (fun K hK => ?_)
      refine goes_ Try.func18 (by kernel_rfl) rfl #[.pointer (some ⟨p, 0, none⟩)] (by rfl) rfl rfl (by (try simp only [List.map_toArray, List.map_cons, List.map_nil]); first | done | rfl) ?_
      refine (both_dead HB4.out).mono ?_
      rintro e w5 ⟨rfl, rfl⟩
      refine ⟨_, rfl, ?_⟩
      refine hK.out _ _ hHeld (fun hHeld => ?_)
      clear hK K
      refine norm_ (a' := ?_) ?_ ?_
      rotate_left
      · show Act.put _ (some 47) _ = _
        simp only [Act.put, List.setIfInBounds_toArray, List.set_cons_zero, List.set_cons_succ, i64_w, i32_w]
        rfl
      refine pure_ (i := 20) (N := some 52) (v := ?_) (a' := ?_) #[true, true, true, true, true, true, true, true, true, true, true, true, true, true, true, true, true, true, true, true, true, false, false, false, false, false, false, false, false, false, false, false] rfl rfl (by kernel_rfl) (fun _ _ _ h => h) (Or.inl ⟨by rfl, ?_⟩) ?_ ?_
      rotate_left
      · intro w'
        go_simp
        with_reducible rfl
      rotate_left
      · simp only [Act.put, List.setIfInBounds_toArray, List.set_cons_zero, List.set_cons_succ, i64_w, i32_w]
        rfl
      refine pure_ (i := 21) (N := some 53) (v := ?_) (a' := ?_) #[true, true, true, true, true, true, true, true, true, true, true, true, true, true, true, true, true, true, true, true, true, true, false, false, false, false, false, false, false, false, false, false] rfl rfl (by kernel_rfl) (fun _ _ _ h => h) (Or.inl ⟨by rfl, ?_⟩) ?_ ?_
      rotate_left
      · intro w'
        go_simp
        with_reducible rfl
      rotate_left
      · simp only [Act.put, List.setIfInBounds_toArray, List.set_cons_zero, List.set_cons_succ, i64_w, i32_w]
        rfl
      refine pure_ (i := 22) (N := some 54) (v := ?_) (a' := ?_) #[true, true, true, true, true, true, true, true, true, true, true, true, true, true, true, true, true, true, true, true, true, true, true, false, false, false, false, false, false, false, false, false] rfl rfl (by kernel_rfl) (fun _ _ _ h => h) (Or.inl ⟨by rfl, ?_⟩) ?_ ?_
      rotate_left
      · intro w'
        go_simp
        with_reducible rfl
      rotate_left
      · simp only [Act.put, List.setIfInBounds_toArray, List.set_cons_zero, List.set_cons_succ, i64_w, i32_w]
        rfl
      refine pure_ (i := 23) (N := some 55) (v := ?_) (a' := ?_) #[true, true, true, true, true, true, true, true, true, true, true, true, true, true, true, true, true, true, true, true, true, true, true, true, false, false, false, false, false, false, false, false] rfl rfl (by kernel_rfl) (fun _ _ _ h => h) (Or.inl ⟨by rfl, ?_⟩) ?_ ?_
      rotate_left
      · intro w'
        go_simp
        with_reducible rfl
      rotate_left
      · simp only [Act.put, List.setIfInBounds_toArray, List.set_cons_zero, List.set_cons_succ, i64_w, i32_w]
        rfl
      refine pure_ (i := 25) (N := some 57) (v := ?_) (a' := ?_) #[true, true, true, true, true, true, true, true, true, true, true, true, true, true, true, true, true, true, true, true, true, true, true, true, false, true, false, false, false, false, false, false] rfl rfl (by kernel_rfl) (fun _ _ _ h => h) (Or.inl ⟨by rfl, ?_⟩) ?_ ?_
      rotate_left
      · intro w'
        go_simp
        with_reducible rfl
      rotate_left
      · simp only [Act.put, List.setIfInBounds_toArray, List.set_cons_zero, List.set_cons_succ, i64_w, i32_w]
        rfl
      refine pure_ (i := 26) (N := some 58) (v := ?_) (a' := ?_) #[true, true, true, true, true, true, true, true, true, true, true, true, true, true, true, true, true, true, true, true, true, true, true, true, false, true, true, false, false, false, false, false] rfl rfl (by kernel_rfl) (fun _ _ _ h => h) (Or.inl ⟨by rfl, ?_⟩) ?_ ?_
      rotate_left
      · intro w'
        go_simp
        with_reducible rfl
      rotate_left
      · simp only [Act.put, List.setIfInBounds_toArray, List.set_cons_zero, List.set_cons_succ, i64_w, i32_w]
        rfl
      refine pure_ (i := 27) (N := some 59) (v := ?_) (a' := ?_) #[true, true, true, true, true, true, true, true, true, true, true, true, true, true, true, true, true, true, true, true, true, true, true, true, false, true, true, true, false, false, false, false] rfl rfl (by kernel_rfl) (fun _ _ _ h => h) (Or.inl ⟨by rfl, ?_⟩) ?_ ?_
      rotate_left
      · intro w'
        go_simp
        with_reducible rfl
      rotate_left
      · simp only [Act.put, List.setIfInBounds_toArray, List.set_cons_zero, List.set_cons_succ, i64_w, i32_w]
        rfl
      refine take_ (i := 28) (N := some 60) (v := ?_) (a' := ?_) #[true, true, true, true, true, true, true, true, true, true, true, true, true, true, true, true, true, true, true, true, true, true, true, true, false, true, true, true, true, false, false, false] rfl rfl (by kernel_rfl) (fun _ _ _ h => h) (Or.inl ⟨by rfl, ?_⟩) hHeld ?_ ?_
      rotate_left
      · intro w' hS
        have s5 := blk4 hS.2
        obtain ⟨z0, _, z1, _, z2, _, z3, _⟩ := s5
        go_simp
        with_reducible rfl
      rotate_left
      · simp only [Act.put, List.setIfInBounds_toArray, List.set_cons_zero, List.set_cons_succ, i64_w, i32_w]
        rfl
      refine pure_ (i := 29) (N := some 61) (v := ?_) (a' := ?_) #[true, true, true, true, true, true, true, true, true, true, true, true, true, true, true, true, true, true, true, true, true, true, true, true, false, true, true, true, true, true, false, false] rfl rfl (by kernel_rfl) (fun _ _ _ h => h) (Or.inl ⟨by rfl, ?_⟩) ?_ ?_
      rotate_left
      · intro w'
        go_simp
        with_reducible rfl
      rotate_left
      · simp only [Act.put, List.setIfInBounds_toArray, List.set_cons_zero, List.set_cons_succ, i64_w, i32_w]
        rfl
      refine one_ (i := 24) (N := some 56) #[true, true, true, true, true, true, true, true, true, true, true, true, true, true, true, true, true, true, true, true, true, true, true, true, true, true, true, true, true, true, false, false] rfl rfl (by kernel_rfl) (by decide) (fun K hK => ?_)
      refine goes_ Try.func20 (by kernel_rfl) rfl #[.pointer (some ⟨p, 0, none⟩)] (by rfl) rfl rfl (by (try simp only [List.map_toArray, List.map_cons, List.map_nil]); first | done | rfl) ?_
      refine (both_unsettled HB4.out).mono ?_
      rintro e w5 ⟨rfl, rfl⟩
      refine ⟨_, rfl, ?_⟩
      refine hK.out _ _ hHeld (fun hHeld => ?_)
      clear hK K
      refine norm_ (a' := ?_) ?_ ?_
      rotate_left
      · show Act.put _ (some 56) _ = _
        simp only [Act.put, List.setIfInBounds_toArray, List.set_cons_zero, List.set_cons_succ, i64_w, i32_w]
        rfl
      refine pure_ (i := 30) (N := some 62) (v := ?_) (a' := ?_) #[true, true, true, true, true, true, true, true, true, true, true, true, true, true, true, true, true, true, true, true, true, true, true, true, true, true, true, true, true, true, true, false] rfl rfl (by kernel_rfl) (fun _ _ _ h => h) (Or.inl ⟨by rfl, ?_⟩) ?_ ?_
      rotate_left
      · intro w'
        go_simp
        with_reducible rfl
      rotate_left
      · simp only [Act.put, List.setIfInBounds_toArray, List.set_cons_zero, List.set_cons_succ, i64_w, i32_w]
        rfl
      refine pure_ (i := 31) (N := some 63) (v := ?_) (a' := ?_) #[true, true, true, true, true, true, true, true, true, true, true, true, true, true, true, true, true, true, true, true, true, true, true, true, true, true, true, true, true, true, true, true] rfl rfl (by kernel_rfl) (fun _ _ _ h => h) (Or.inl ⟨by rfl, ?_⟩) ?_ ?_
      rotate_left
      · intro w'
        go_simp
        with_reducible rfl
      rotate_left
      · simp only [Act.put, List.setIfInBounds_toArray, List.set_cons_zero, List.set_cons_succ, i64_w, i32_w]
        rfl
      refine done_ (by kernel_rfl) ?_
      have HL2 := Lib.hid HL1
      have HLT2 := Lib.hid (show d'.late.length ≤ 1000000 by have := HL1.1; omega)
      clear HL1 hHeld
      go_wp2_with fail
      go_loopw [8] (fun s8 wz => ∃ k : Int, s8 = .int .i64 k ∧ -1 ≤ k ∧ k ≤ (c : Int) + 1 ∧ Hid (wz = w4)) (fun s8 _ => ((c : Int) + 1 - intOf s8).toNat)
      case atStart => exact ⟨-1, rfl, by omega, by omega, Lib.hid rfl⟩
      case round =>
        obtain ⟨k, rfl, hk1, hk2, hw⟩ := hrel
        obtain rfl := hw.out
        clear hw
        by_cases hkc : k ≤ (c : Int)
        · by_cases hin : 0 ≤ k ∧ k < (c : Int)
          · obtain ⟨hin1, hin2⟩ := hin
            obtain ⟨i, rfl⟩ := Int.eq_ofNat_of_zero_le hin1
            have hic : i < d'.firm.length := by have := HL2.out.2; omega
            obtain ⟨g, cg, vl2, hq2, hcell⟩ := HB4.out.firm i hic
            have hx := blk4 hq2
            have HSE := Lib.hid (show d'.settled (i : Int) = d'.firm[i] from settled_at (List.getElem?_eq_getElem hic))
            have hdl : (d'.firm.length : Int) = c := by have := HL2.out.2; omega
            clear hq2 hdl
            go_wp2_with (first | (go_at_call 21; refine (HSM.out _).mono ?_; rintro e w5 ⟨rfl, rfl⟩) | (go_at_call 14; refine (both_read HB4.out _).mono ?_; unfold readE; rintro e w5 ⟨rfl, rfl⟩) | (go_at_call 24; refine (both_rread HB4.out _ HLT2.out).mono ?_; unfold readE; rintro e w5 ⟨rfl, rfl⟩) | (go_at_call 19; refine (both_settled HB4.out _).mono ?_; rw [HSE.out]; rintro e w5 ⟨rfl, rfl⟩))
            go_roundw
            case rel => exact ⟨(i : Int) + 1, by first | rfl | go_num, by omega, by omega, by first | exact Lib.hid rfl | exact Lib.hid trivial⟩
            case measure => simp [intOf]; omega
          · have hb : d'.bad k = true := by
              unfold Dv.bad
              rw [HL2.out.2, Bool.or_eq_true, decide_eq_true_eq, decide_eq_true_eq]; omega
            have HSE := Lib.hid (show d'.settled k = ByteArray.empty by unfold Dv.settled; rw [if_pos hb])
            have hin' : k < 0 ∨ ¬ k < 0 ∧ (c : Int) ≤ k := by omega
            clear hb hin
            rcases hin' with hn | ⟨hn, hn2⟩
            all_goals
              go_wp2_with (first | (go_at_call 21; refine (HSM.out _).mono ?_; rintro e w5 ⟨rfl, rfl⟩) | (go_at_call 14; refine (both_read HB4.out _).mono ?_; unfold readE; rintro e w5 ⟨rfl, rfl⟩) | (go_at_call 24; refine (both_rread HB4.out _ HLT2.out).mono ?_; unfold readE; rintro e w5 ⟨rfl, rfl⟩) | (go_at_call 19; refine (both_settled HB4.out _).mono ?_; rw [HSE.out]; rintro e w5 ⟨rfl, rfl⟩))
              go_roundw
              case rel => exact ⟨k + 1, by first | rfl | go_num, by omega, by omega, by first | exact Lib.hid rfl | exact Lib.hid trivial⟩
              case measure => simp [intOf]; omega
        · have hkc' : (c : Int) < k := by omega
          clear hkc
          go_wp2_with (go_at_call 21; refine (HSM.out _).mono ?_; rintro e w5 ⟨rfl, rfl⟩)
          go_roundg (200 - (j + 1))
          case measure => omega
          case rel => exact ⟨j + 1, d', by go_num, by omega, by omega, by omega, HB4, HL2⟩
    · have hc' : ¬ j < l.length ∨ (j < l.length ∧ ¬ j < 200) := by omega
      clear hc2
      rcases hc' with he | ⟨he, he2⟩
      all_goals
        go_wp2_with fail
        refine (alive_calls wq).mono ?_
        rintro e w9 ⟨rfl, hb⟩
        have HB9 := Lib.hid (HB.out.bel.trans (hb.mono HB.out.bel.size))
        clear hb
        go_wp2
        go_ret
        exact ⟨rfl, HB9.out⟩
end Go.Proofs.Ytmphnfkohilojaa.Dev
namespace Go.Proofs.Ytmphnfkohilojaa.devicePlays
open Go.RowKit Go.Sees
set_option linter.unusedVariables false
theorem devicePlays_walk (a0 : Int) (a1 : Option Addr) (len1 cap1 : Nat) (w : World) (w0 : (Lit.int .i64 a0).wf = true) (w1 : Sees Try.prog w 140737488351232 5 22 [.slice a1 len1 cap1]) :
    Calls Try.prog 7 #[.int .i64 a0, .slice a1 len1 cap1] w fun e w' => e = .returned (.bool true) ∧ Below w.heap.size w w' := by
  obtain ⟨l, rfl, _, h1, _, hA, hO⟩ := Dev.sees_acts (k := 2) w1
  exact Dev.plays_law a0 a1 cap1 l w hA hO h1
end Go.Proofs.Ytmphnfkohilojaa.devicePlays
