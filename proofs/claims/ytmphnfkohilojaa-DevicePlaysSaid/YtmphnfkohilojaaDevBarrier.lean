/- Layer device: a barrier. -/
import Derived.Test.YtmphnfkohilojaaDevOps
namespace Go.Proofs.Ytmphnfkohilojaa.Dev
open Go.RowKit Go.Own Go.DevL Go.Blk Go.Proofs.YtmphnfkohilojaaW.PrintLast Go.Proofs.YtmphnfkohilojaaW.PrintWords
set_option linter.unusedVariables false
set_option linter.unusedSimpArgs false
variable {F : Nat → Prop} {w w' : World} {p gf gn : Nat} {vl : Value} {d : Dv}
set_option maxHeartbeats 1000000 in
theorem barrier_dies (h : At F w p gf gn vl d) (hb : d.burns = true) : Calls Try.prog 12 #[.pointer (some ⟨p, 0, none⟩)] w fun e w' => e = .returned (.int .i64 5) ∧ At F w' p gf gn vl d.die ∧ Fr F w w' := by
  have HBU := Lib.hid (burn_yes h hb)
  clear h hb
  go_enter Try.func12, Try.ntmps12
  go_wp2_with (go_at_call 26; refine HBU.out.mono ?_; rintro e w1 ⟨rfl, h1, h2⟩; have H1 := Lib.hid h1; have H2 := Lib.hid h2; clear h1 h2)
  go_ret
  exact ⟨rfl, H1.out, H2.out⟩
set_option maxHeartbeats 2000000 in
theorem barrier_goes (h : At F w p gf gn vl d) (hb : d.burns = false) :
    Calls Try.prog 12 #[.pointer (some ⟨p, 0, none⟩)] w fun e w' => e = .returned (.int .i64 0) ∧ At F w' p gf gn (.slice none 0 0) { d with firm := d.now, late := [], fuse := less d.fuse } ∧ Fr F w w' := by
  have HBU := Lib.hid (burn_no h hb)
  clear h hb
  go_enter Try.func12, Try.ntmps12
  go_wp2_with (first | (go_at_call 26; refine HBU.out.mono ?_; rintro e w1 ⟨rfl, h1, h2⟩; have H1 := Lib.hid h1; have H2 := Lib.hid h2; clear h1 h2; have hx := blk5 H1.out.hp))
  have HNE := Lib.hid H1.out.n1
  have HFFF := Lib.hid (And.intro H1.out.fp (And.intro H1.out.ff H1.out.fn))
  have HOK := Lib.hid H1.out.ok
  have HNS := Lib.hid (show ∀ b ∈ d.now, b.size = 256 from HOK.out.now_size)
  have HNL := Lib.hid (show d.now.length = d.firm.length from HOK.out.now_length)
  have HFS := Lib.hid (show ∀ b ∈ d.firm, b.size = 256 from HOK.out.sz)
  have HP2 := Lib.hid (set_at H1.out.hp 2 (.slice none 0 0))
  have HFF2 := Lib.hid (set_far H1.out.hf (p := ⟨p, 2, none⟩) (fun e => HNE.out.1 e.symm) (.slice none 0 0))
  have HN2 := Lib.hid (set_far H1.out.hn (p := ⟨p, 2, none⟩) (fun e => HNE.out.2.1 e.symm) (.slice none 0 0))
  have HF2 := Lib.hid (H2.out.trans (Fr.setCell (F := F) w1 (p := ⟨p, 2, none⟩) HFFF.out.1 (.slice none 0 0)) (fun _ _ h => h))
  have HLT2 : Hid (∀ k, F k → k < (w1.setCell ⟨p, 2, none⟩ (.slice none 0 0)).heap.size) := fun k hk => by
    have h1 := H1.out.lt k hk
    simp only [World.setCell, Array.size_modify]; omega
  have e7 : (#[.slice (some ⟨gf, 0, none⟩) d.firm.length d.firm.length, .slice (some ⟨gn, 0, none⟩) d.firm.length d.firm.length, vl, .int .i64 (less d.fuse), .bool d.dead] : Array Value).setIfInBounds 2 (.slice none 0 0) = #[.slice (some ⟨gf, 0, none⟩) d.firm.length d.firm.length, .slice (some ⟨gn, 0, none⟩) d.firm.length d.firm.length, .slice none 0 0, .int .i64 (less d.fuse), .bool d.dead] := rfl
  rw [e7] at HP2
  clear e7 hx H1 H2
  generalize w1.setCell ⟨p, 2, none⟩ (.slice none 0 0) = w2 at HP2 HFF2 HN2 HF2 HLT2 ⊢
  refine start_ (n := 9) (S := fun w' => w'.heap[p]? = some (.cells #[.slice (some ⟨gf, 0, none⟩) d.firm.length d.firm.length, .slice (some ⟨gn, 0, none⟩) d.firm.length d.firm.length, .slice none 0 0, .int .i64 (less d.fuse), .bool d.dead] 63 (0, 0))) (ds := [8]) #[false, false, false, false, false, false, false, false, false] (by kernel_rfl) rfl rfl (HP2.out) (fun hHeld => ?_)
  have HP3 := Lib.hid (show w2.drew.heap[p]? = _ from HP2.out)
  have HFF3 := Lib.hid (show w2.drew.heap[gf]? = _ from HFF2.out)
  have HN3 := Lib.hid (show w2.drew.heap[gn]? = _ from HN2.out)
  have HF3 := Lib.hid (HF2.out.trans (Fr.drew F w2) (fun _ _ h => h))
  have HLT3 := Lib.hid (show ∀ k, F k → k < w2.drew.heap.size from HLT2.out)
  generalize w2.drew = w3 at HP3 HFF3 HN3 HF3 HLT3 hHeld ⊢
  clear HP2 HFF2 HN2 HF2 HLT2
  refine pure_ (i := 0) (N := some 14) (v := ?_) (a' := ?_) #[true, false, false, false, false, false, false, false, false] rfl rfl (by kernel_rfl) (fun _ _ _ h => h) (Or.inl ⟨by rfl, ?_⟩) ?_ ?_
  rotate_left
  · intro w'
    go_simp
    with_reducible rfl
  rotate_left
  · simp only [Act.put, List.setIfInBounds_toArray, List.set_cons_zero, List.set_cons_succ, i64_w, i32_w]
    rfl
  refine pure_ (i := 1) (N := some 15) (v := ?_) (a' := ?_) #[true, true, false, false, false, false, false, false, false] rfl rfl (by kernel_rfl) (fun _ _ _ h => h) (Or.inl ⟨by rfl, ?_⟩) ?_ ?_
  rotate_left
  · intro w'
    go_simp
    with_reducible rfl
  rotate_left
  · simp only [Act.put, List.setIfInBounds_toArray, List.set_cons_zero, List.set_cons_succ, i64_w, i32_w]
    rfl
  refine pure_ (i := 2) (N := some 16) (v := ?_) (a' := ?_) #[true, true, true, false, false, false, false, false, false] rfl rfl (by kernel_rfl) (fun _ _ _ h => h) (Or.inl ⟨by rfl, ?_⟩) ?_ ?_
  rotate_left
  · intro w'
    go_simp
    with_reducible rfl
  rotate_left
  · simp only [Act.put, List.setIfInBounds_toArray, List.set_cons_zero, List.set_cons_succ, i64_w, i32_w]
    rfl
  refine take_ (i := 3) (N := some 17) (v := ?_) (a' := ?_) #[true, true, true, true, false, false, false, false, false] rfl rfl (by kernel_rfl) (fun _ _ _ h => h) (Or.inl ⟨by rfl, ?_⟩) hHeld ?_ ?_
  rotate_left
  · intro w' hS
    have s5 := blk5 hS
    obtain ⟨z0, _, z1, _, z2, _, z3, _, z4, _⟩ := s5
    go_simp
    with_reducible rfl
  rotate_left
  · simp only [Act.put, List.setIfInBounds_toArray, List.set_cons_zero, List.set_cons_succ, i64_w, i32_w]
    rfl
  refine pure_ (i := 4) (N := some 18) (v := ?_) (a' := ?_) #[true, true, true, true, true, false, false, false, false] rfl rfl (by kernel_rfl) (fun _ _ _ h => h) (Or.inl ⟨by rfl, ?_⟩) ?_ ?_
  rotate_left
  · intro w'
    go_simp
    with_reducible rfl
  rotate_left
  · simp only [Act.put, List.setIfInBounds_toArray, List.set_cons_zero, List.set_cons_succ, i64_w, i32_w]
    rfl
  refine pure_ (i := 5) (N := some 19) (v := ?_) (a' := ?_) #[true, true, true, true, true, true, false, false, false] rfl rfl (by kernel_rfl) (fun _ _ _ h => h) (Or.inl ⟨by rfl, ?_⟩) ?_ ?_
  rotate_left
  · intro w'
    go_simp
    with_reducible rfl
  rotate_left
  · simp only [Act.put, List.setIfInBounds_toArray, List.set_cons_zero, List.set_cons_succ, i64_w, i32_w]
    rfl
  refine pure_ (i := 6) (N := some 20) (v := ?_) (a' := ?_) #[true, true, true, true, true, true, true, false, false] rfl rfl (by kernel_rfl) (fun _ _ _ h => h) (Or.inl ⟨by rfl, ?_⟩) ?_ ?_
  rotate_left
  · intro w'
    go_simp
    with_reducible rfl
  rotate_left
  · simp only [Act.put, List.setIfInBounds_toArray, List.set_cons_zero, List.set_cons_succ, i64_w, i32_w]
    rfl
  refine take_ (i := 7) (N := some 21) (v := ?_) (a' := ?_) #[true, true, true, true, true, true, true, true, false] rfl rfl (by kernel_rfl) (fun _ _ _ h => h) (Or.inl ⟨by rfl, ?_⟩) hHeld ?_ ?_
  rotate_left
  · intro w' hS
    have s5 := blk5 hS
    obtain ⟨z0, _, z1, _, z2, _, z3, _, z4, _⟩ := s5
    go_simp
    with_reducible rfl
  rotate_left
  · simp only [Act.put, List.setIfInBounds_toArray, List.set_cons_zero, List.set_cons_succ, i64_w, i32_w]
    rfl
  refine last_ (i := 8) (N := some 22) #[true, true, true, true, true, true, true, true, true] rfl rfl (by kernel_rfl) (by decide) (fun K hK => ?_)
  have HCP := run_copy_all (P := Try.prog) w3 60 60 3 66 256 gf d.firm.length d.firm.length gn d.firm.length (d.firm.flatMap bcells) (d.now.flatMap bcells) 66 66 Try.underlying60 info_b HFF3.out HN3.out (by rw [flat_length (lens HNS.out), HNL.out]) (flat_length (lens HFS.out)) (fun v hv => by obtain ⟨x, _, hx⟩ := List.mem_flatMap.1 hv; exact bcells_one x v hx)
  refine value_ (by rfl) rfl (execOp_copy rfl rfl rfl HCP) ?_
  clear HCP
  refine hK.out _ _ ?_
  clear hK K
  refine norm_ (a' := ?_) ?_ ?_
  rotate_left
  · show Act.put _ (some 22) _ = _
    simp only [Act.put, List.setIfInBounds_toArray, List.set_cons_zero, List.set_cons_succ, i64_w, i32_w]
    rfl
  refine done_ (by kernel_rfl) ?_
  go_wp2
  go_ret
  refine ⟨rfl, ?_, HF3.out.trans (Fr.setRow w3 (g := gf) HFFF.out.2.1 _) (fun _ _ h => h)⟩
  exact {
    ok := ⟨by show 1 ≤ d.now.length; rw [HNL.out]; exact HOK.out.n1, by show d.now.length ≤ 1024; rw [HNL.out]; exact HOK.out.n2, HNS.out, fun x hx => by simp at hx, HOK.out.f1, HOK.out.f2⟩
    fp := HFFF.out.1
    ff := HFFF.out.2.1
    fn := HFFF.out.2.2
    fl := fun k hk => by simp [Value.ownBlock] at hk
    n1 := HNE.out
    n2 := fun k hk => by simp [Value.ownBlock] at hk
    hp := by
      show (w3.setRow gf _).heap[p]? = some (.cells #[.slice (some ⟨gf, 0, none⟩) d.now.length d.now.length, .slice (some ⟨gn, 0, none⟩) d.now.length d.now.length, .slice none 0 0, .int .i64 (less d.fuse), .bool d.dead] 63 (0, 0))
      rw [setRow_other _ _ _ _ HNE.out.1, HNL.out]; exact HP3.out
    hf := setRow_heap _ _ _ _ _ _ HFF3.out
    hn := (setRow_other _ _ _ _ (fun e => HNE.out.2.2 e.symm)).trans HN3.out
    hl := World.ownsRow_nil _ _ _ _
    lt := fun k hk => by rw [size_setRow]; exact HLT3.out k hk }
end Go.Proofs.Ytmphnfkohilojaa.Dev
