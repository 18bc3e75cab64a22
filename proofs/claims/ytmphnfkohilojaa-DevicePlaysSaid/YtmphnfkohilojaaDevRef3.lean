/- Layer device: the document's device: Barrier, Crash, New. -/
import Derived.Test.YtmphnfkohilojaaDevRef2
namespace Go.Proofs.Ytmphnfkohilojaa.Dev
open Go.RowKit Go.Own Go.DevL Go.Blk Go.Proofs.YtmphnfkohilojaaW.PrintLast Go.Proofs.YtmphnfkohilojaaW.PrintWords
set_option linter.unusedVariables false
set_option linter.unusedSimpArgs false
variable {F : Nat → Prop} {w w' : World} {q : Nat} {vf vl : Value} {d : Dv}
theorem cell_firm' {w : World} {v : Value} {n : Nat} {l : List ByteArray} (h : w.ownsRow 0 9 1 v n (l.flatMap scell)) (i : Nat) (hi : i < l.length) :
    ∃ g cap, v = .slice (some ⟨g, 0, none⟩) n cap ∧ w.cell? ⟨g, i, none⟩ = some (.string l[i]) ∧ w.frozen? ⟨g, i, none⟩ = false := by
  have hn : l.length = n := by
    have := h.1
    rw [flat_length (s := 1) (fun _ _ => rfl)] at this; omega
  subst hn
  exact cell_firm h i hi
theorem fl_ne {gf gl n m c e : Nat} (h : (Value.slice (some ⟨gf, 0, none⟩) n c).ownBlock ≠ some gl) : gl ≠ gf := fun e => h (by rw [e]; rfl)
set_option maxHeartbeats 1000000 in
theorem rbarrier_dies (h : RAt F w q vf vl d) (hb : d.burns = true) : Calls Try.prog 29 #[.pointer (some ⟨q, 0, none⟩)] w fun e w' => e = .returned (.int .i64 5) ∧ RAt F w' q vf vl d.die ∧ Fr F w w' := by
  have HBU := Lib.hid (rburn_yes h hb)
  clear h hb
  go_enter Try.func29, Try.ntmps29
  go_wp2_with (go_at_call 33; refine HBU.out.mono ?_; rintro e w1 ⟨rfl, h1, h2⟩; have H1 := Lib.hid h1; have H2 := Lib.hid h2; clear h1 h2)
  go_ret
  exact ⟨rfl, H1.out, H2.out⟩
theorem bit_ref (keep : Int) (k : Nat) (h0 : 0 ≤ keep) : ((keep / 2 ^ (k % 64)).tmod 2 == 1) = bit keep k := by
  obtain ⟨n, rfl⟩ := Int.eq_ofNat_of_zero_le h0
  have e : ((n : Int) / 2 ^ (k % 64)) = ((n / 2 ^ (k % 64) : Nat) : Int) := by rw [Int.natCast_ediv, Int.natCast_pow]; rfl
  rw [e]
  unfold bit
  rw [Int.toNat_natCast, Bool.eq_iff_iff]
  simp only [beq_iff_eq]
  rw [Int.tmod_eq_emod_of_nonneg (Int.natCast_nonneg _)]
  omega
/-- Nothing unsettled, the fields as told. -/
theorem rat_end {gf cf : Nat} {L : List ByteArray} {f : Int} {dd : Bool} (hok : (⟨L, [], f, dd⟩ : Dv).OK) (hq : F q) (hgf : F gf ∧ gf ≠ q)
    (h1 : w.heap[q]? = some (.cells #[.slice (some ⟨gf, 0, none⟩) L.length cf, .slice none 0 0, .int .i64 f, .bool dd] 55 (0, 0))) (h2 : w.ownsRow 0 9 1 (.slice (some ⟨gf, 0, none⟩) L.length cf) L.length (L.flatMap scell)) (hlt : ∀ k, F k → k < w.heap.size) :
    RAt F w q (.slice (some ⟨gf, 0, none⟩) L.length cf) (.slice none 0 0) ⟨L, [], f, dd⟩ where
  ok := hok
  fq := hq
  ff := fun k hk => by simp only [Value.ownBlock, Option.some.injEq] at hk; subst hk; exact hgf
  fl := fun k hk => by simp [Value.ownBlock] at hk
  hq := h1
  hf := h2
  hl := World.ownsRow_nil _ _ _ _
  lt := hlt
set_option maxHeartbeats 4000000 in
theorem rbarrier_goes (h : RAt F w q vf vl d) (hb : d.burns = false) (hl : d.late.length ≤ 1000000) :
    Calls Try.prog 29 #[.pointer (some ⟨q, 0, none⟩)] w fun e w' => e = .returned (.int .i64 0) ∧ (∃ vf' vl', RAt F w' q vf' vl' { d with firm := d.now, late := [], fuse := less d.fuse }) ∧ Fr F w w' := by
  have HBU := Lib.hid (rburn_no h hb)
  have HOK := Lib.hid (h.ok)
  have HBO := Lib.hid (show ({ d with firm := d.now, late := [], fuse := less d.fuse } : Dv).OK by have hh := h.ok.barrier; unfold Dv.barrier at hh; rw [if_neg (by rw [hb]; simp)] at hh; exact hh)
  have hn2 := h.ok.n2
  obtain ⟨gf, cf, hvf, hz1⟩ := cell_firm h.hf 0 (by have := h.ok.n1; omega)
  clear hz1
  subst hvf
  rcases row_some h.hl with ⟨rfl, hl0⟩ | ⟨gl, cl, rfl, _⟩
  · have HEM := Lib.hid (List.length_eq_zero_iff.1 hl0)
    rw [hl0] at hl
    clear h hb
    go_enter Try.func29, Try.ntmps29
    go_wp2_with (go_at_call 33; refine HBU.out.mono ?_; rintro e w1 ⟨rfl, h1, h2⟩; have H1 := Lib.hid h1; have H2 := Lib.hid h2; clear h1 h2; have hx := blk4 H1.out.hq)
    go_loopw [3] (fun s3 wr => s3 = .int .i64 0 ∧ Hid (wr = w1)) (fun _ _ => 0)
    case atStart => exact ⟨rfl, Lib.hid rfl⟩
    case round =>
      obtain ⟨rfl, hw⟩ := hrel
      obtain rfl := hw.out
      clear hw
      have hx := blk4 H1.out.hq
      go_wp2
      go_ret
      have hnow : d.now = d.firm := by unfold Dv.now; rw [HEM.out]; rfl
      refine ⟨rfl, ⟨.slice (some ⟨gf, 0, none⟩) d.firm.length cf, .slice none 0 0, ?_⟩, H2.out.trans (H1.out.frq _ _) (fun _ _ h => h)⟩
      rw [hnow]
      exact H1.out.set 1 _ (by have := HBO.out; rw [hnow] at this; exact this) (fun k hk => by simp [Value.ownBlock] at hk) rfl rfl (World.ownsRow_nil _ _ _ _)
  · have HNE := Lib.hid (show q ≠ gf ∧ gl ≠ gf from ⟨fun e => (h.ff gf rfl).2 e.symm, fun e => (h.fl gl rfl).2.2 (by rw [e]; rfl)⟩)
    have HNE1 := Lib.hid (h.ff gf rfl).1
    have HFQ := Lib.hid h.fq
    have HQL := Lib.hid (show gl ≠ q from (h.fl gl rfl).2.1)
    have HLTT := Lib.hid h.lt
    clear h hb
    go_enter Try.func29, Try.ntmps29
    go_wp2_with (go_at_call 33; refine HBU.out.mono ?_; rintro e w1 ⟨rfl, h1, h2⟩; have H1 := Lib.hid h1; have H2 := Lib.hid h2; clear h1 h2; have hx := blk4 H1.out.hq)
    go_loopw [3] (fun s3 wr => ∃ (k : Nat) (X : List ByteArray), s3 = .int .i64 k ∧ k ≤ d.late.length ∧ Hid (X = (d.late.take k).foldl put d.firm) ∧ Hid (X.length = d.firm.length) ∧ Hid (wr.heap[q]? = some (.cells #[.slice (some ⟨gf, 0, none⟩) d.firm.length cf, .slice (some ⟨gl, 0, none⟩) d.late.length cl, .int .i64 (less d.fuse), .bool d.dead] 55 (0, 0))) ∧ Hid (wr.ownsRow 0 9 1 (.slice (some ⟨gf, 0, none⟩) d.firm.length cf) d.firm.length (X.flatMap scell)) ∧ Hid (wr.ownsRow 0 72 2 (.slice (some ⟨gl, 0, none⟩) d.late.length cl) d.late.length (d.late.flatMap lcells)) ∧ Hid (Fr F w wr)) (fun s3 _ => d.late.length - (intOf s3).toNat)
    case atStart => exact ⟨0, d.firm, by simp, Nat.zero_le _, Lib.hid (by simp), Lib.hid rfl, Lib.hid H1.out.hq, Lib.hid H1.out.hf, Lib.hid H1.out.hl, H2⟩
    case round =>
      clear H1 H2 hx
      obtain ⟨k, X, rfl, hk, HK, HX1, HQ, HRF, HRL, HRR⟩ := hrel
      have HX := Lib.hid (And.intro HX1.out True.intro)
      have hx := blk4 HQ.out
      by_cases hlt : k < d.late.length
      · obtain ⟨g', cap', e, c0, c1⟩ := cell_late HRL.out k hlt
        simp only [Value.slice.injEq, Option.some.injEq, Addr.mk.injEq, and_true, true_and] at e
        obtain ⟨rfl, rfl⟩ := e
        obtain ⟨x, hx2⟩ : ∃ x, d.late[k] = x := ⟨_, rfl⟩
        have hxi : x.1 < d.firm.length := (HOK.out.la x (hx2 ▸ List.getElem_mem hlt)).1
        rw [hx2] at c0 c1
        have HXE := Lib.hid hx2
        clear hx2
        go_wp2
        refine start_ (n := 22) (S := fun w' => w'.heap[q]? = some (.cells #[.slice (some ⟨gf, 0, none⟩) d.firm.length cf, .slice (some ⟨gl, 0, none⟩) d.late.length cl, .int .i64 (less d.fuse), .bool d.dead] 55 (0, 0)) ∧ w'.cell? ⟨gl, k * 2, none⟩ = some (.int .i64 (x.1 : Int)) ∧ w'.cell? ⟨gl, k * 2 + 1, none⟩ = some (.string x.2)) (ds := [21]) #[false, false, false, false, false, false, false, false, false, false, false, false, false, false, false, false, false, false, false, false, false, false] (by kernel_rfl) rfl rfl (⟨HQ.out, c0, c1⟩) (fun hHeld => ?_)
        have HQ2 := Lib.hid (show wr.drew.heap[q]? = _ from HQ.out)
        have HF2 := Lib.hid ((Fr.drew (fun _ => False) wr).row HRF.out (fun _ _ h => h))
        have HL2 := Lib.hid ((Fr.drew (fun _ => False) wr).row HRL.out (fun _ _ h => h))
        have HR2 := Lib.hid (HRR.out.trans (Fr.drew F wr) (fun _ _ h => h))
        generalize wr.drew = w2 at HQ2 HF2 HL2 HR2 hHeld ⊢
        clear HQ HRF HRL HRR hx c0 c1
        refine pure_ (i := 0) (N := some 16) (v := ?_) (a' := ?_) #[true, false, false, false, false, false, false, false, false, false, false, false, false, false, false, false, false, false, false, false, false, false] rfl rfl (by kernel_rfl) (fun _ _ _ h => h) (Or.inl ⟨by rfl, ?_⟩) ?_ ?_
        rotate_left
        · intro w'
          go_simp
          with_reducible rfl
        rotate_left
        · simp only [Act.put, List.setIfInBounds_toArray, List.set_cons_zero, List.set_cons_succ, i64_w, i32_w]
          rfl
        refine pure_ (i := 1) (N := some 17) (v := ?_) (a' := ?_) #[true, true, false, false, false, false, false, false, false, false, false, false, false, false, false, false, false, false, false, false, false, false] rfl rfl (by kernel_rfl) (fun _ _ _ h => h) (Or.inl ⟨by rfl, ?_⟩) ?_ ?_
        rotate_left
        · intro w'
          go_simp
          with_reducible rfl
        rotate_left
        · simp only [Act.put, List.setIfInBounds_toArray, List.set_cons_zero, List.set_cons_succ, i64_w, i32_w]
          rfl
        refine pure_ (i := 2) (N := some 18) (v := ?_) (a' := ?_) #[true, true, true, false, false, false, false, false, false, false, false, false, false, false, false, false, false, false, false, false, false, false] rfl rfl (by kernel_rfl) (fun _ _ _ h => h) (Or.inl ⟨by rfl, ?_⟩) ?_ ?_
        rotate_left
        · intro w'
          go_simp
          with_reducible rfl
        rotate_left
        · simp only [Act.put, List.setIfInBounds_toArray, List.set_cons_zero, List.set_cons_succ, i64_w, i32_w]
          rfl
        refine take_ (i := 3) (N := some 19) (v := ?_) (a' := ?_) #[true, true, true, true, false, false, false, false, false, false, false, false, false, false, false, false, false, false, false, false, false, false] rfl rfl (by kernel_rfl) (fun _ _ _ h => h) (Or.inl ⟨by rfl, ?_⟩) hHeld ?_ ?_
        rotate_left
        · intro w' hS
          have s5 := blk4 hS.1
          obtain ⟨z0, _, z1, _, z2, _, z3, _⟩ := s5
          go_simp
          with_reducible rfl
        rotate_left
        · simp only [Act.put, List.setIfInBounds_toArray, List.set_cons_zero, List.set_cons_succ, i64_w, i32_w]
          rfl
        refine pure_ (i := 4) (N := some 20) (v := ?_) (a' := ?_) #[true, true, true, true, true, false, false, false, false, false, false, false, false, false, false, false, false, false, false, false, false, false] rfl rfl (by kernel_rfl) (fun _ _ _ h => h) (Or.inl ⟨by rfl, ?_⟩) ?_ ?_
        rotate_left
        · intro w'
          go_simp
          with_reducible rfl
        rotate_left
        · simp only [Act.put, List.setIfInBounds_toArray, List.set_cons_zero, List.set_cons_succ, i64_w, i32_w]
          rfl
        refine pure_ (i := 5) (N := some 21) (v := ?_) (a' := ?_) #[true, true, true, true, true, true, false, false, false, false, false, false, false, false, false, false, false, false, false, false, false, false] rfl rfl (by kernel_rfl) (fun _ _ _ h => h) (Or.inl ⟨by rfl, ?_⟩) ?_ ?_
        rotate_left
        · intro w'
          go_simp
          with_reducible rfl
        rotate_left
        · simp only [Act.put, List.setIfInBounds_toArray, List.set_cons_zero, List.set_cons_succ, i64_w, i32_w]
          rfl
        refine pure_ (i := 6) (N := some 22) (v := ?_) (a' := ?_) #[true, true, true, true, true, true, true, false, false, false, false, false, false, false, false, false, false, false, false, false, false, false] rfl rfl (by kernel_rfl) (fun _ _ _ h => h) (Or.inl ⟨by rfl, ?_⟩) ?_ ?_
        rotate_left
        · intro w'
          go_simp
          with_reducible rfl
        rotate_left
        · simp only [Act.put, List.setIfInBounds_toArray, List.set_cons_zero, List.set_cons_succ, i64_w, i32_w]
          rfl
        refine take_ (i := 7) (N := some 23) (v := ?_) (a' := ?_) #[true, true, true, true, true, true, true, true, false, false, false, false, false, false, false, false, false, false, false, false, false, false] rfl rfl (by kernel_rfl) (fun _ _ _ h => h) (Or.inl ⟨by rfl, ?_⟩) hHeld ?_ ?_
        rotate_left
        · intro w' hS
          have s5 := blk4 hS.1
          obtain ⟨z0, _, z1, _, z2, _, z3, _⟩ := s5
          go_simp
          with_reducible rfl
        rotate_left
        · simp only [Act.put, List.setIfInBounds_toArray, List.set_cons_zero, List.set_cons_succ, i64_w, i32_w]
          rfl
        refine pure_ (i := 8) (N := some 24) (v := ?_) (a' := ?_) #[true, true, true, true, true, true, true, true, true, false, false, false, false, false, false, false, false, false, false, false, false, false] rfl rfl (by kernel_rfl) (fun _ _ _ h => h) (Or.inl ⟨by rfl, ?_⟩) ?_ ?_
        rotate_left
        · intro w'
          go_simp
          with_reducible rfl
        rotate_left
        · simp only [Act.put, List.setIfInBounds_toArray, List.set_cons_zero, List.set_cons_succ, i64_w, i32_w]
          rfl
        refine pure_ (i := 9) (N := some 25) (v := ?_) (a' := ?_) #[true, true, true, true, true, true, true, true, true, true, false, false, false, false, false, false, false, false, false, false, false, false] rfl rfl (by kernel_rfl) (fun _ _ _ h => h) (Or.inl ⟨by rfl, ?_⟩) ?_ ?_
        rotate_left
        · intro w'
          go_simp
          with_reducible rfl
        rotate_left
        · simp only [Act.put, List.setIfInBounds_toArray, List.set_cons_zero, List.set_cons_succ, i64_w, i32_w]
          rfl
        refine pure_ (i := 10) (N := some 26) (v := ?_) (a' := ?_) #[true, true, true, true, true, true, true, true, true, true, true, false, false, false, false, false, false, false, false, false, false, false] rfl rfl (by kernel_rfl) (fun _ _ _ h => h) (Or.inl ⟨by rfl, ?_⟩) ?_ ?_
        rotate_left
        · intro w'
          go_simp
          with_reducible rfl
        rotate_left
        · simp only [Act.put, List.setIfInBounds_toArray, List.set_cons_zero, List.set_cons_succ, i64_w, i32_w]
          rfl
        refine take_ (i := 11) (N := some 27) (v := ?_) (a' := ?_) #[true, true, true, true, true, true, true, true, true, true, true, true, false, false, false, false, false, false, false, false, false, false] rfl rfl (by kernel_rfl) (fun _ _ _ h => h) (Or.inl ⟨by rfl, ?_⟩) hHeld ?_ ?_
        rotate_left
        · intro w' hS
          have s6 := hS.2.1
          go_simp
          with_reducible rfl
        rotate_left
        · simp only [Act.put, List.setIfInBounds_toArray, List.set_cons_zero, List.set_cons_succ, i64_w, i32_w]
          rfl
        refine pure_ (i := 12) (N := some 28) (v := ?_) (a' := ?_) #[true, true, true, true, true, true, true, true, true, true, true, true, true, false, false, false, false, false, false, false, false, false] rfl rfl (by kernel_rfl) (fun _ _ _ h => h) (Or.inl ⟨by rfl, ?_⟩) ?_ ?_
        rotate_left
        · intro w'
          go_simp
          with_reducible rfl
        rotate_left
        · simp only [Act.put, List.setIfInBounds_toArray, List.set_cons_zero, List.set_cons_succ, i64_w, i32_w]
          rfl
        refine pure_ (i := 13) (N := some 29) (v := ?_) (a' := ?_) #[true, true, true, true, true, true, true, true, true, true, true, true, true, true, false, false, false, false, false, false, false, false] rfl rfl (by kernel_rfl) (fun _ _ _ h => h) (Or.inl ⟨by rfl, ?_⟩) ?_ ?_
        rotate_left
        · intro w'
          go_simp
          with_reducible rfl
        rotate_left
        · simp only [Act.put, List.setIfInBounds_toArray, List.set_cons_zero, List.set_cons_succ, i64_w, i32_w]
          rfl
        refine pure_ (i := 14) (N := some 30) (v := ?_) (a' := ?_) #[true, true, true, true, true, true, true, true, true, true, true, true, true, true, true, false, false, false, false, false, false, false] rfl rfl (by kernel_rfl) (fun _ _ _ h => h) (Or.inl ⟨by rfl, ?_⟩) ?_ ?_
        rotate_left
        · intro w'
          go_simp
          with_reducible rfl
        rotate_left
        · simp only [Act.put, List.setIfInBounds_toArray, List.set_cons_zero, List.set_cons_succ, i64_w, i32_w]
          rfl
        refine take_ (i := 15) (N := some 31) (v := ?_) (a' := ?_) #[true, true, true, true, true, true, true, true, true, true, true, true, true, true, true, true, false, false, false, false, false, false] rfl rfl (by kernel_rfl) (fun _ _ _ h => h) (Or.inl ⟨by rfl, ?_⟩) hHeld ?_ ?_
        rotate_left
        · intro w' hS
          have s5 := blk4 hS.1
          obtain ⟨z0, _, z1, _, z2, _, z3, _⟩ := s5
          go_simp
          with_reducible rfl
        rotate_left
        · simp only [Act.put, List.setIfInBounds_toArray, List.set_cons_zero, List.set_cons_succ, i64_w, i32_w]
          rfl
        refine pure_ (i := 16) (N := some 32) (v := ?_) (a' := ?_) #[true, true, true, true, true, true, true, true, true, true, true, true, true, true, true, true, true, false, false, false, false, false] rfl rfl (by kernel_rfl) (fun _ _ _ h => h) (Or.inl ⟨by rfl, ?_⟩) ?_ ?_
        rotate_left
        · intro w'
          go_simp
          with_reducible rfl
        rotate_left
        · simp only [Act.put, List.setIfInBounds_toArray, List.set_cons_zero, List.set_cons_succ, i64_w, i32_w]
          rfl
        refine pure_ (i := 17) (N := some 33) (v := ?_) (a' := ?_) #[true, true, true, true, true, true, true, true, true, true, true, true, true, true, true, true, true, true, false, false, false, false] rfl rfl (by kernel_rfl) (fun _ _ _ h => h) (Or.inl ⟨by rfl, ?_⟩) ?_ ?_
        rotate_left
        · intro w'
          go_simp
          with_reducible rfl
        rotate_left
        · simp only [Act.put, List.setIfInBounds_toArray, List.set_cons_zero, List.set_cons_succ, i64_w, i32_w]
          rfl
        refine pure_ (i := 18) (N := some 34) (v := ?_) (a' := ?_) #[true, true, true, true, true, true, true, true, true, true, true, true, true, true, true, true, true, true, true, false, false, false] rfl rfl (by kernel_rfl) (fun _ _ _ h => h) (Or.inl ⟨by rfl, ?_⟩) ?_ ?_
        rotate_left
        · intro w'
          go_simp
          with_reducible rfl
        rotate_left
        · simp only [Act.put, List.setIfInBounds_toArray, List.set_cons_zero, List.set_cons_succ, i64_w, i32_w]
          rfl
        refine take_ (i := 19) (N := some 35) (v := ?_) (a' := ?_) #[true, true, true, true, true, true, true, true, true, true, true, true, true, true, true, true, true, true, true, true, false, false] rfl rfl (by kernel_rfl) (fun _ _ _ h => h) (Or.inl ⟨by rfl, ?_⟩) hHeld ?_ ?_
        rotate_left
        · intro w' hS
          have s6 := hS.2.2
          go_simp
          with_reducible rfl
        rotate_left
        · simp only [Act.put, List.setIfInBounds_toArray, List.set_cons_zero, List.set_cons_succ, i64_w, i32_w]
          rfl
        refine pure_ (i := 20) (N := some 36) (v := ?_) (a' := ?_) #[true, true, true, true, true, true, true, true, true, true, true, true, true, true, true, true, true, true, true, true, true, false] rfl rfl (by kernel_rfl) (fun _ _ _ h => h) (Or.inl ⟨by rfl, ?_⟩) ?_ ?_
        rotate_left
        · intro w'
          go_simp
          with_reducible rfl
        rotate_left
        · simp only [Act.put, List.setIfInBounds_toArray, List.set_cons_zero, List.set_cons_succ, i64_w, i32_w]
          rfl
        refine last_ (i := 21) (N := none) #[true, true, true, true, true, true, true, true, true, true, true, true, true, true, true, true, true, true, true, true, true, true] rfl rfl (by kernel_rfl) (by decide) (fun K hK => ?_)
        obtain ⟨gx, cx, ex, hcx, hfx⟩ := cell_firm' HF2.out x.1 (by rw [HX.out.1]; exact hxi)
        simp only [Value.slice.injEq, Option.some.injEq, Addr.mk.injEq, and_true, true_and] at ex
        obtain ⟨rfl, rfl⟩ := ex
        refine skip_ (w1 := ?_) (by rfl) rfl ?_ ?_
        rotate_left
        · go_simp
          rfl
        clear hcx hfx
        refine hK.out _ _ ?_
        clear hK K
        refine done_ (by kernel_rfl) ?_
        have HR4 := Lib.hid (row_set HF2.out x.1 (by rw [HX.out.1]; exact hxi) x.2)
        have HQ4 := Lib.hid (set_far HQ2.out (p := ⟨gf, x.1, none⟩) (fun e => HNE.out.1 e) (.string x.2))
        have HL4 := Lib.hid (row_kept HL2.out (w' := w2.setCell ⟨gf, x.1, none⟩ (.string x.2)) (fun k hk => Below.heap_setCell _ _ _ _ (fun e => by simp only [Value.ownBlock, Option.some.injEq] at hk; exact HNE.out.2 (hk.trans e))))
        have HR5 := Lib.hid (HR2.out.trans (Fr.setCell (F := F) w2 (p := ⟨gf, x.1, none⟩) HNE1.out (.string x.2)) (fun _ _ h => h))
        generalize w2.setCell ⟨gf, x.1, none⟩ (.string x.2) = w4 at HR4 HQ4 HL4 HR5 ⊢
        go_wp2
        go_roundw
        case rel => exact ⟨k + 1, X.set x.1 x.2, by go_num, by omega, Lib.hid (by rw [HK.out, List.take_succ_eq_append_getElem hlt, HXE.out, List.foldl_append]; rfl), Lib.hid (by rw [List.length_set]; exact HX1.out), HQ4, HR4, HL4, HR5⟩
        case measure => simp [intOf]; omega
      · obtain rfl : k = d.late.length := by omega
        go_wp2
        go_ret
        have hX : X = d.now := by rw [HK.out, List.take_length]; rfl
        subst hX
        refine ⟨rfl, ⟨.slice (some ⟨gf, 0, none⟩) d.now.length cf, .slice none 0 0, ?_⟩, HRR.out.trans (Fr.setCell (F := F) wr (p := ⟨q, 1, none⟩) HFQ.out _) (fun _ _ h => h)⟩
        have hq2 := set_at HQ.out 1 (.slice none 0 0)
        have hf2 := row_kept HRF.out (w' := wr.setCell ⟨q, 1, none⟩ (.slice none 0 0)) (fun k hk => Below.heap_setCell _ _ _ _ (fun e => by simp only [Value.ownBlock, Option.some.injEq] at hk; exact HNE.out.1 (by rw [hk]; exact e.symm)))
        rw [← HX1.out] at hq2 hf2
        exact rat_end HBO.out HFQ.out ⟨HNE1.out, fun e => HNE.out.1 e.symm⟩ hq2 hf2 (fun k hk => by have h1 := HLTT.out k hk; have h2 := HRR.out.size; simp only [World.setCell, Array.size_modify]; omega)
set_option maxHeartbeats 4000000 in
theorem rcrash_calls (h : RAt F w q vf vl d) (keep : Int) (hk0 : 0 ≤ keep) (hk1 : keep < 18446744073709551616) (hl : d.late.length ≤ 1000000) :
    Calls Try.prog 31 #[.pointer (some ⟨q, 0, none⟩), .int .u64 keep] w fun e w' => e = .returned (.tuple #[]) ∧ (∃ vf' vl', RAt F w' q vf' vl' (d.crash keep)) ∧ Fr F w w' := by
  have HOK := Lib.hid (h.ok)
  have HBO := Lib.hid (h.ok.crash keep)
  have hn2 := h.ok.n2
  obtain ⟨gf, cf, hvf, hz1⟩ := cell_firm h.hf 0 (by have := h.ok.n1; omega)
  clear hz1
  subst hvf
  rcases row_some h.hl with ⟨rfl, hl0⟩ | ⟨gl, cl, rfl, _⟩
  · have HEM := Lib.hid (List.length_eq_zero_iff.1 hl0)
    rw [hl0] at hl
    have H1 := Lib.hid h
    clear h
    have hx := blk4 H1.out.hq
    go_enter Try.func31, Try.ntmps31
    go_wp2
    go_loopw [4] (fun s4 wr => s4 = .int .i64 0 ∧ Hid (wr = w)) (fun _ _ => 0)
    case atStart => exact ⟨rfl, Lib.hid rfl⟩
    case round =>
      obtain ⟨rfl, hw⟩ := hrel
      obtain rfl := hw.out
      clear hw
      have hx := blk4 H1.out.hq
      have hx2 := blk4 (set_at H1.out.hq 1 (.slice none 0 0))
      have hx3 := blk4 (set_at (set_at H1.out.hq 1 (.slice none 0 0)) 2 (.int .i64 (-1)))
      go_wp2
      go_end0
      have hcr : d.crash keep = ⟨d.firm, [], -1, false⟩ := by unfold Dv.crash; rw [HEM.out]; rfl
      have hfr : Fr F wr (((wr.setCell ⟨q, 1, none⟩ (.slice none 0 0)).setCell ⟨q, 2, none⟩ (.int .i64 (-1))).setCell ⟨q, 3, none⟩ (.bool false)) := ((H1.out.frq _ _).trans (Fr.setCell _ H1.out.fq _) (fun _ _ h => h)).trans (Fr.setCell _ H1.out.fq _) (fun _ _ h => h)
      refine ⟨rfl, ⟨.slice (some ⟨gf, 0, none⟩) d.firm.length cf, .slice none 0 0, ?_⟩, hfr⟩
      have hbo := HBO.out
      rw [hcr] at hbo ⊢
      refine rat_end hbo H1.out.fq (H1.out.ff gf rfl) (set_at (set_at (set_at H1.out.hq 1 (.slice none 0 0)) 2 (.int .i64 (-1))) 3 (.bool false)) ?_ (fun k hk => by have h1 := H1.out.lt k hk; have h2 := hfr.size; omega)
      have hgq := (H1.out.ff gf rfl).2
      exact row_kept H1.out.hf fun k hk => by
        simp only [Value.ownBlock, Option.some.injEq] at hk
        subst hk
        rw [Below.heap_setCell _ _ _ _ hgq, Below.heap_setCell _ _ _ _ hgq, Below.heap_setCell _ _ _ _ hgq]
  · have HNE := Lib.hid (show q ≠ gf ∧ gl ≠ gf from ⟨fun e => (h.ff gf rfl).2 e.symm, fun e => (h.fl gl rfl).2.2 (by rw [e]; rfl)⟩)
    have HNE1 := Lib.hid (h.ff gf rfl).1
    have HFQ := Lib.hid h.fq
    have HLTT := Lib.hid h.lt
    have H1 := Lib.hid h
    clear h
    have hx := blk4 H1.out.hq
    go_enter Try.func31, Try.ntmps31
    go_wp2
    go_loopw [4] (fun s4 wr => ∃ (k : Nat) (X : List ByteArray), s4 = .int .i64 k ∧ k ≤ d.late.length ∧ Hid (kept keep k (d.late.drop k) X = kept keep 0 d.late d.firm) ∧ Hid (X.length = d.firm.length) ∧ Hid (wr.heap[q]? = some (.cells #[.slice (some ⟨gf, 0, none⟩) d.firm.length cf, .slice (some ⟨gl, 0, none⟩) d.late.length cl, .int .i64 d.fuse, .bool d.dead] 55 (0, 0))) ∧ Hid (wr.ownsRow 0 9 1 (.slice (some ⟨gf, 0, none⟩) d.firm.length cf) d.firm.length (X.flatMap scell)) ∧ Hid (wr.ownsRow 0 72 2 (.slice (some ⟨gl, 0, none⟩) d.late.length cl) d.late.length (d.late.flatMap lcells)) ∧ Hid (Fr F w wr)) (fun s4 _ => d.late.length - (intOf s4).toNat)
    case atStart => exact ⟨0, d.firm, by simp, Nat.zero_le _, Lib.hid (by rw [List.drop_zero]), Lib.hid rfl, Lib.hid H1.out.hq, Lib.hid H1.out.hf, Lib.hid H1.out.hl, Lib.hid (Fr.refl _ _)⟩
    case round =>
      clear H1 hx
      obtain ⟨k, X, rfl, hk, HK, HX1, HQ, HRF, HRL, HRR⟩ := hrel
      have HX := Lib.hid (And.intro HX1.out True.intro)
      have hx := blk4 HQ.out
      by_cases hlt : k < d.late.length
      · obtain ⟨g', cap', e, c0, c1⟩ := cell_late HRL.out k hlt
        simp only [Value.slice.injEq, Option.some.injEq, Addr.mk.injEq, and_true, true_and] at e
        obtain ⟨rfl, rfl⟩ := e
        obtain ⟨x, hx2⟩ : ∃ x, d.late[k] = x := ⟨_, rfl⟩
        have hxi : x.1 < d.firm.length := (HOK.out.la x (hx2 ▸ List.getElem_mem hlt)).1
        rw [hx2] at c0 c1
        have HXE := Lib.hid hx2
        clear hx2
        go_wp2
        · have HBT := Lib.hid ((bit_ref keep k hk0).symm.trans (by assumption))
          refine start_ (n := 22) (S := fun w' => w'.heap[q]? = some (.cells #[.slice (some ⟨gf, 0, none⟩) d.firm.length cf, .slice (some ⟨gl, 0, none⟩) d.late.length cl, .int .i64 d.fuse, .bool d.dead] 55 (0, 0)) ∧ w'.cell? ⟨gl, k * 2, none⟩ = some (.int .i64 (x.1 : Int)) ∧ w'.cell? ⟨gl, k * 2 + 1, none⟩ = some (.string x.2)) (ds := [21]) #[false, false, false, false, false, false, false, false, false, false, false, false, false, false, false, false, false, false, false, false, false, false] (by kernel_rfl) rfl rfl (⟨HQ.out, c0, c1⟩) (fun hHeld => ?_)
          have HQ2 := Lib.hid (show wr.drew.heap[q]? = _ from HQ.out)
          have HF2 := Lib.hid ((Fr.drew (fun _ => False) wr).row HRF.out (fun _ _ h => h))
          have HL2 := Lib.hid ((Fr.drew (fun _ => False) wr).row HRL.out (fun _ _ h => h))
          have HR2 := Lib.hid (HRR.out.trans (Fr.drew F wr) (fun _ _ h => h))
          generalize wr.drew = w2 at HQ2 HF2 HL2 HR2 hHeld ⊢
          clear HQ HRF HRL HRR hx c0 c1
          refine pure_ (i := 0) (N := some 21) (v := ?_) (a' := ?_) #[true, false, false, false, false, false, false, false, false, false, false, false, false, false, false, false, false, false, false, false, false, false] rfl rfl (by kernel_rfl) (fun _ _ _ h => h) (Or.inl ⟨by rfl, ?_⟩) ?_ ?_
          rotate_left
          · intro w'
            go_simp
            with_reducible rfl
          rotate_left
          · simp only [Act.put, List.setIfInBounds_toArray, List.set_cons_zero, List.set_cons_succ, i64_w, i32_w]
            rfl
          refine pure_ (i := 1) (N := some 22) (v := ?_) (a' := ?_) #[true, true, false, false, false, false, false, false, false, false, false, false, false, false, false, false, false, false, false, false, false, false] rfl rfl (by kernel_rfl) (fun _ _ _ h => h) (Or.inl ⟨by rfl, ?_⟩) ?_ ?_
          rotate_left
          · intro w'
            go_simp
            with_reducible rfl
          rotate_left
          · simp only [Act.put, List.setIfInBounds_toArray, List.set_cons_zero, List.set_cons_succ, i64_w, i32_w]
            rfl
          refine pure_ (i := 2) (N := some 23) (v := ?_) (a' := ?_) #[true, true, true, false, false, false, false, false, false, false, false, false, false, false, false, false, false, false, false, false, false, false] rfl rfl (by kernel_rfl) (fun _ _ _ h => h) (Or.inl ⟨by rfl, ?_⟩) ?_ ?_
          rotate_left
          · intro w'
            go_simp
            with_reducible rfl
          rotate_left
          · simp only [Act.put, List.setIfInBounds_toArray, List.set_cons_zero, List.set_cons_succ, i64_w, i32_w]
            rfl
          refine take_ (i := 3) (N := some 24) (v := ?_) (a' := ?_) #[true, true, true, true, false, false, false, false, false, false, false, false, false, false, false, false, false, false, false, false, false, false] rfl rfl (by kernel_rfl) (fun _ _ _ h => h) (Or.inl ⟨by rfl, ?_⟩) hHeld ?_ ?_
          rotate_left
          · intro w' hS
            have s5 := blk4 hS.1
            obtain ⟨z0, _, z1, _, z2, _, z3, _⟩ := s5
            go_simp
            with_reducible rfl
          rotate_left
          · simp only [Act.put, List.setIfInBounds_toArray, List.set_cons_zero, List.set_cons_succ, i64_w, i32_w]
            rfl
          refine pure_ (i := 4) (N := some 25) (v := ?_) (a' := ?_) #[true, true, true, true, true, false, false, false, false, false, false, false, false, false, false, false, false, false, false, false, false, false] rfl rfl (by kernel_rfl) (fun _ _ _ h => h) (Or.inl ⟨by rfl, ?_⟩) ?_ ?_
          rotate_left
          · intro w'
            go_simp
            with_reducible rfl
          rotate_left
          · simp only [Act.put, List.setIfInBounds_toArray, List.set_cons_zero, List.set_cons_succ, i64_w, i32_w]
            rfl
          refine pure_ (i := 5) (N := some 26) (v := ?_) (a' := ?_) #[true, true, true, true, true, true, false, false, false, false, false, false, false, false, false, false, false, false, false, false, false, false] rfl rfl (by kernel_rfl) (fun _ _ _ h => h) (Or.inl ⟨by rfl, ?_⟩) ?_ ?_
          rotate_left
          · intro w'
            go_simp
            with_reducible rfl
          rotate_left
          · simp only [Act.put, List.setIfInBounds_toArray, List.set_cons_zero, List.set_cons_succ, i64_w, i32_w]
            rfl
          refine pure_ (i := 6) (N := some 27) (v := ?_) (a' := ?_) #[true, true, true, true, true, true, true, false, false, false, false, false, false, false, false, false, false, false, false, false, false, false] rfl rfl (by kernel_rfl) (fun _ _ _ h => h) (Or.inl ⟨by rfl, ?_⟩) ?_ ?_
          rotate_left
          · intro w'
            go_simp
            with_reducible rfl
          rotate_left
          · simp only [Act.put, List.setIfInBounds_toArray, List.set_cons_zero, List.set_cons_succ, i64_w, i32_w]
            rfl
          refine take_ (i := 7) (N := some 28) (v := ?_) (a' := ?_) #[true, true, true, true, true, true, true, true, false, false, false, false, false, false, false, false, false, false, false, false, false, false] rfl rfl (by kernel_rfl) (fun _ _ _ h => h) (Or.inl ⟨by rfl, ?_⟩) hHeld ?_ ?_
          rotate_left
          · intro w' hS
            have s5 := blk4 hS.1
            obtain ⟨z0, _, z1, _, z2, _, z3, _⟩ := s5
            go_simp
            with_reducible rfl
          rotate_left
          · simp only [Act.put, List.setIfInBounds_toArray, List.set_cons_zero, List.set_cons_succ, i64_w, i32_w]
            rfl
          refine pure_ (i := 8) (N := some 29) (v := ?_) (a' := ?_) #[true, true, true, true, true, true, true, true, true, false, false, false, false, false, false, false, false, false, false, false, false, false] rfl rfl (by kernel_rfl) (fun _ _ _ h => h) (Or.inl ⟨by rfl, ?_⟩) ?_ ?_
          rotate_left
          · intro w'
            go_simp
            with_reducible rfl
          rotate_left
          · simp only [Act.put, List.setIfInBounds_toArray, List.set_cons_zero, List.set_cons_succ, i64_w, i32_w]
            rfl
          refine pure_ (i := 9) (N := some 30) (v := ?_) (a' := ?_) #[true, true, true, true, true, true, true, true, true, true, false, false, false, false, false, false, false, false, false, false, false, false] rfl rfl (by kernel_rfl) (fun _ _ _ h => h) (Or.inl ⟨by rfl, ?_⟩) ?_ ?_
          rotate_left
          · intro w'
            go_simp
            with_reducible rfl
          rotate_left
          · simp only [Act.put, List.setIfInBounds_toArray, List.set_cons_zero, List.set_cons_succ, i64_w, i32_w]
            rfl
          refine pure_ (i := 10) (N := some 31) (v := ?_) (a' := ?_) #[true, true, true, true, true, true, true, true, true, true, true, false, false, false, false, false, false, false, false, false, false, false] rfl rfl (by kernel_rfl) (fun _ _ _ h => h) (Or.inl ⟨by rfl, ?_⟩) ?_ ?_
          rotate_left
          · intro w'
            go_simp
            with_reducible rfl
          rotate_left
          · simp only [Act.put, List.setIfInBounds_toArray, List.set_cons_zero, List.set_cons_succ, i64_w, i32_w]
            rfl
          refine take_ (i := 11) (N := some 32) (v := ?_) (a' := ?_) #[true, true, true, true, true, true, true, true, true, true, true, true, false, false, false, false, false, false, false, false, false, false] rfl rfl (by kernel_rfl) (fun _ _ _ h => h) (Or.inl ⟨by rfl, ?_⟩) hHeld ?_ ?_
          rotate_left
          · intro w' hS
            have s6 := hS.2.1
            go_simp
            with_reducible rfl
          rotate_left
          · simp only [Act.put, List.setIfInBounds_toArray, List.set_cons_zero, List.set_cons_succ, i64_w, i32_w]
            rfl
          refine pure_ (i := 12) (N := some 33) (v := ?_) (a' := ?_) #[true, true, true, true, true, true, true, true, true, true, true, true, true, false, false, false, false, false, false, false, false, false] rfl rfl (by kernel_rfl) (fun _ _ _ h => h) (Or.inl ⟨by rfl, ?_⟩) ?_ ?_
          rotate_left
          · intro w'
            go_simp
            with_reducible rfl
          rotate_left
          · simp only [Act.put, List.setIfInBounds_toArray, List.set_cons_zero, List.set_cons_succ, i64_w, i32_w]
            rfl
          refine pure_ (i := 13) (N := some 34) (v := ?_) (a' := ?_) #[true, true, true, true, true, true, true, true, true, true, true, true, true, true, false, false, false, false, false, false, false, false] rfl rfl (by kernel_rfl) (fun _ _ _ h => h) (Or.inl ⟨by rfl, ?_⟩) ?_ ?_
          rotate_left
          · intro w'
            go_simp
            with_reducible rfl
          rotate_left
          · simp only [Act.put, List.setIfInBounds_toArray, List.set_cons_zero, List.set_cons_succ, i64_w, i32_w]
            rfl
          refine pure_ (i := 14) (N := some 35) (v := ?_) (a' := ?_) #[true, true, true, true, true, true, true, true, true, true, true, true, true, true, true, false, false, false, false, false, false, false] rfl rfl (by kernel_rfl) (fun _ _ _ h => h) (Or.inl ⟨by rfl, ?_⟩) ?_ ?_
          rotate_left
          · intro w'
            go_simp
            with_reducible rfl
          rotate_left
          · simp only [Act.put, List.setIfInBounds_toArray, List.set_cons_zero, List.set_cons_succ, i64_w, i32_w]
            rfl
          refine take_ (i := 15) (N := some 36) (v := ?_) (a' := ?_) #[true, true, true, true, true, true, true, true, true, true, true, true, true, true, true, true, false, false, false, false, false, false] rfl rfl (by kernel_rfl) (fun _ _ _ h => h) (Or.inl ⟨by rfl, ?_⟩) hHeld ?_ ?_
          rotate_left
          · intro w' hS
            have s5 := blk4 hS.1
            obtain ⟨z0, _, z1, _, z2, _, z3, _⟩ := s5
            go_simp
            with_reducible rfl
          rotate_left
          · simp only [Act.put, List.setIfInBounds_toArray, List.set_cons_zero, List.set_cons_succ, i64_w, i32_w]
            rfl
          refine pure_ (i := 16) (N := some 37) (v := ?_) (a' := ?_) #[true, true, true, true, true, true, true, true, true, true, true, true, true, true, true, true, true, false, false, false, false, false] rfl rfl (by kernel_rfl) (fun _ _ _ h => h) (Or.inl ⟨by rfl, ?_⟩) ?_ ?_
          rotate_left
          · intro w'
            go_simp
            with_reducible rfl
          rotate_left
          · simp only [Act.put, List.setIfInBounds_toArray, List.set_cons_zero, List.set_cons_succ, i64_w, i32_w]
            rfl
          refine pure_ (i := 17) (N := some 38) (v := ?_) (a' := ?_) #[true, true, true, true, true, true, true, true, true, true, true, true, true, true, true, true, true, true, false, false, false, false] rfl rfl (by kernel_rfl) (fun _ _ _ h => h) (Or.inl ⟨by rfl, ?_⟩) ?_ ?_
          rotate_left
          · intro w'
            go_simp
            with_reducible rfl
          rotate_left
          · simp only [Act.put, List.setIfInBounds_toArray, List.set_cons_zero, List.set_cons_succ, i64_w, i32_w]
            rfl
          refine pure_ (i := 18) (N := some 39) (v := ?_) (a' := ?_) #[true, true, true, true, true, true, true, true, true, true, true, true, true, true, true, true, true, true, true, false, false, false] rfl rfl (by kernel_rfl) (fun _ _ _ h => h) (Or.inl ⟨by rfl, ?_⟩) ?_ ?_
          rotate_left
          · intro w'
            go_simp
            with_reducible rfl
          rotate_left
          · simp only [Act.put, List.setIfInBounds_toArray, List.set_cons_zero, List.set_cons_succ, i64_w, i32_w]
            rfl
          refine take_ (i := 19) (N := some 40) (v := ?_) (a' := ?_) #[true, true, true, true, true, true, true, true, true, true, true, true, true, true, true, true, true, true, true, true, false, false] rfl rfl (by kernel_rfl) (fun _ _ _ h => h) (Or.inl ⟨by rfl, ?_⟩) hHeld ?_ ?_
          rotate_left
          · intro w' hS
            have s6 := hS.2.2
            go_simp
            with_reducible rfl
          rotate_left
          · simp only [Act.put, List.setIfInBounds_toArray, List.set_cons_zero, List.set_cons_succ, i64_w, i32_w]
            rfl
          refine pure_ (i := 20) (N := some 41) (v := ?_) (a' := ?_) #[true, true, true, true, true, true, true, true, true, true, true, true, true, true, true, true, true, true, true, true, true, false] rfl rfl (by kernel_rfl) (fun _ _ _ h => h) (Or.inl ⟨by rfl, ?_⟩) ?_ ?_
          rotate_left
          · intro w'
            go_simp
            with_reducible rfl
          rotate_left
          · simp only [Act.put, List.setIfInBounds_toArray, List.set_cons_zero, List.set_cons_succ, i64_w, i32_w]
            rfl
          refine last_ (i := 21) (N := none) #[true, true, true, true, true, true, true, true, true, true, true, true, true, true, true, true, true, true, true, true, true, true] rfl rfl (by kernel_rfl) (by decide) (fun K hK => ?_)
          obtain ⟨gx, cx, ex, hcx, hfx⟩ := cell_firm' HF2.out x.1 (by rw [HX.out.1]; exact hxi)
          simp only [Value.slice.injEq, Option.some.injEq, Addr.mk.injEq, and_true, true_and] at ex
          obtain ⟨rfl, rfl⟩ := ex
          refine skip_ (w1 := ?_) (by rfl) rfl ?_ ?_
          rotate_left
          · go_simp
            rfl
          clear hcx hfx
          refine hK.out _ _ ?_
          clear hK K
          refine done_ (by kernel_rfl) ?_
          have HR4 := Lib.hid (row_set HF2.out x.1 (by rw [HX.out.1]; exact hxi) x.2)
          have HQ4 := Lib.hid (set_far HQ2.out (p := ⟨gf, x.1, none⟩) (fun e => HNE.out.1 e) (.string x.2))
          have HL4 := Lib.hid (row_kept HL2.out (w' := w2.setCell ⟨gf, x.1, none⟩ (.string x.2)) (fun k hk => Below.heap_setCell _ _ _ _ (fun e => by simp only [Value.ownBlock, Option.some.injEq] at hk; exact HNE.out.2 (hk.trans e))))
          have HR5 := Lib.hid (HR2.out.trans (Fr.setCell (F := F) w2 (p := ⟨gf, x.1, none⟩) HNE1.out (.string x.2)) (fun _ _ h => h))
          generalize w2.setCell ⟨gf, x.1, none⟩ (.string x.2) = w4 at HR4 HQ4 HL4 HR5 ⊢
          go_wp2
          go_roundw
          case rel => exact ⟨k + 1, X.set x.1 x.2, by go_num, by omega, Lib.hid (by rw [← HK.out, List.drop_eq_getElem_cons hlt, HXE.out, kept, if_pos HBT.out]; rfl), Lib.hid (by rw [List.length_set]; exact HX1.out), HQ4, HR4, HL4, HR5⟩
          case measure => simp [intOf]; omega
        · have HBT := Lib.hid ((bit_ref keep k hk0).symm.trans (by assumption))
          go_roundw
          case rel => exact ⟨k + 1, X, by go_num, by omega, Lib.hid (by rw [← HK.out, List.drop_eq_getElem_cons hlt, kept, if_neg (by rw [HBT.out]; simp)]), HX1, HQ, HRF, HRL, HRR⟩
          case measure => simp [intOf]; omega
      · obtain rfl : k = d.late.length := by omega
        have hx2 := blk4 (set_at HQ.out 1 (.slice none 0 0))
        have hx3 := blk4 (set_at (set_at HQ.out 1 (.slice none 0 0)) 2 (.int .i64 (-1)))
        go_wp2
        go_end0
        have hX : X = kept keep 0 d.late d.firm := by
          have h := HK.out
          rw [List.drop_length] at h
          exact h
        have hfr : Fr F w (((wr.setCell ⟨q, 1, none⟩ (.slice none 0 0)).setCell ⟨q, 2, none⟩ (.int .i64 (-1))).setCell ⟨q, 3, none⟩ (.bool false)) := ((HRR.out.trans (Fr.setCell (F := F) wr (p := ⟨q, 1, none⟩) HFQ.out _) (fun _ _ h => h)).trans (Fr.setCell _ HFQ.out _) (fun _ _ h => h)).trans (Fr.setCell _ HFQ.out _) (fun _ _ h => h)
        have hcr : d.crash keep = ⟨X, [], -1, false⟩ := by unfold Dv.crash; rw [hX]
        have hbo := HBO.out
        rw [hcr] at hbo ⊢
        refine ⟨rfl, ⟨.slice (some ⟨gf, 0, none⟩) X.length cf, .slice none 0 0, ?_⟩, hfr⟩
        have hq2 := set_at (set_at (set_at HQ.out 1 (.slice none 0 0)) 2 (.int .i64 (-1))) 3 (.bool false)
        have hf2 := row_kept HRF.out (w' := ((wr.setCell ⟨q, 1, none⟩ (.slice none 0 0)).setCell ⟨q, 2, none⟩ (.int .i64 (-1))).setCell ⟨q, 3, none⟩ (.bool false)) (fun k hk => by
          have hkq : k ≠ q := fun e => by simp only [Value.ownBlock, Option.some.injEq] at hk; exact HNE.out.1 (by rw [hk]; exact e.symm)
          rw [Below.heap_setCell _ _ _ _ hkq, Below.heap_setCell _ _ _ _ hkq, Below.heap_setCell _ _ _ _ hkq])
        rw [← HX1.out] at hq2 hf2
        exact rat_end hbo HFQ.out ⟨HNE1.out, fun e => HNE.out.1 e.symm⟩ hq2 hf2 (fun k hk => by have h1 := HLTT.out k hk; have h2 := hfr.size; have h3 := HRR.out.size; simp only [World.setCell, Array.size_modify]; omega)
end Go.Proofs.Ytmphnfkohilojaa.Dev
