/- Layer xdr: the reader's texts. -/
import Derived.Test.YtiedmkgdhfkcoaaDoorXdrTrim
import Derived.Deep.QuietTactic
import Derived.BigQuiet
namespace Go.Proofs.YtiedmkgdhfkcoaaDoor.Xdr
open Go.RowKit Go.Own Go.XdrL Go.Blk Go.OpsL Go.Proofs.YtiedmkgdhfkcoaaDoorW.PrintLast Go.Proofs.YtiedmkgdhfkcoaaDoorW.PrintWords
set_option linter.unusedVariables false
set_option linter.unusedSimpArgs false
variable {w w' : World} {p : Nat} {r : Rd}
set_option maxRecDepth 100000 in
set_option maxHeartbeats 8000000 in
theorem text_bad (h : RAt w p r) (most : Int) (he : r.e = 0) (hs : ¬ r.s.size < 4) (hg1 : ¬ most < (get4 r.s : Int)) (hg2 : ¬ r.s.size < 4 + get4 r.s + padOf (get4 r.s)) (hz : (r.s.extract (4 + get4 r.s) (4 + get4 r.s + padOf (get4 r.s))).data.toList.any (· != 0) = true) : Calls Tryd.prog 41 #[.pointer (some ⟨p, 0, none⟩), .int .i64 most] w fun e w' => e = .returned (.string (r.text most).1) ∧ Left p (r.text most).2 w w' := by
  have H := Lib.hid h
  have hm := h.2
  have hg := get4_lt r.s
  have hpd : ((4 - (get4 r.s : Int) % 4) % 4) = (padOf (get4 r.s) : Int) := by unfold padOf; omega
  have hpl := padOf_lt (get4 r.s)
  have HGE := Lib.hid (show 4 ≤ r.s.size by omega)
  have HPK := Lib.hid (peek_ok H.out HGE.out)
  have HT := Lib.hid (trimOf_empty (r.s.extract (4 + get4 r.s) (4 + get4 r.s + padOf (get4 r.s))))
  have HTR := Lib.hid (fun w => trim_calls (r.s.extract (4 + get4 r.s) (4 + get4 r.s + padOf (get4 r.s))) w (by simp only [ByteArray.size_extract]; omega))
  have e : r.text most = (ByteArray.empty, r.fail 3) := by simp only [Rd.text, he, hs, hg1, hg2, hz, if_true, if_false, ne_eq, not_true, not_false_eq_true, gt_iff_lt]
  rw [e]
  clear h e
  generalize hn : get4 r.s = n at hg hg1 hg2 hz hpd hpl HPK HT HTR ⊢
  generalize hpn : padOf n = m at hg2 hz hpd hpl HT HTR ⊢
  have HZ := Lib.hid hz
  have h4n : wrap64 (4 + (n : Int)) = 4 + (n : Int) := by unfold wrap64; omega
  have h6n : (wrap64 (4 - (n : Int).tmod 4)).tmod 4 = (m : Int) := by
    rw [Int.tmod_eq_emod_of_nonneg (by omega : (0 : Int) ≤ n), show wrap64 (4 - (n : Int) % 4) = 4 - (n : Int) % 4 by unfold wrap64; omega, Int.tmod_eq_emod_of_nonneg (by omega)]
    exact hpd
  have h5n : wrap64 (4 + (n : Int) + (m : Int)) = 4 + (n : Int) + (m : Int) := by unfold wrap64; omega
  clear hz
  go_enter Tryd.func41, Tryd.ntmps41
  go_wp2
  refine wp_scope_once 0 rfl ?_
  go_wp2_with (first | (go_at_call 48; refine (err_ok H.out he).mono ?_; rintro e w1 ⟨rfl, rfl⟩) | (go_at_call 49; refine HPK.out.mono ?_; rintro e w2 ⟨rfl, hb⟩; have H2 := Lib.hid (H.out.below hb); have HB := Lib.hid hb; clear hb; obtain ⟨x0, y0, x1, y1⟩ := H2.out.blk) | (go_at_call 50; refine stop_here ?_))
  clear x0 y0 x1 y1
  refine start_ (n := 23) (S := fun w' => w'.heap[p]? = some (.cells #[.string r.s, .int .i64 (r.e : Int)] 103 (0, 0))) (ds := []) #[false, false, false, false, false, false, false, false, false, false, false, false, false, false, false, false, false, false, false, false, false, false, false] (by kernel_rfl) rfl rfl (H2.out.1) (fun hHeld => ?_)
  have H2 := Lib.hid (H2.out.below (Below.refl _ _).drew)
  have HB := Lib.hid (HB.out.drew)
  refine pure_ (i := 0) (N := some 36) (v := ?_) (a' := ?_) #[true, false, false, false, false, false, false, false, false, false, false, false, false, false, false, false, false, false, false, false, false, false, false] rfl rfl (by kernel_rfl) (fun _ _ _ h => h) (Or.inl ⟨by rfl, ?_⟩) ?_ ?_
  rotate_left
  · intro w'
    go_simp
    with_reducible rfl
  rotate_left
  · simp only [Act.put, List.setIfInBounds_toArray, List.set_cons_zero, List.set_cons_succ, i64_w, i32_w]
    rfl
  refine pure_ (i := 1) (N := some 37) (v := ?_) (a' := ?_) #[true, true, false, false, false, false, false, false, false, false, false, false, false, false, false, false, false, false, false, false, false, false, false] rfl rfl (by kernel_rfl) (fun _ _ _ h => h) (Or.inl ⟨by rfl, ?_⟩) ?_ ?_
  rotate_left
  · intro w'
    go_simp
    with_reducible rfl
  rotate_left
  · simp only [Act.put, List.setIfInBounds_toArray, List.set_cons_zero, List.set_cons_succ, i64_w, i32_w]
    rfl
  refine pure_ (i := 2) (N := some 38) (v := ?_) (a' := ?_) #[true, true, true, false, false, false, false, false, false, false, false, false, false, false, false, false, false, false, false, false, false, false, false] rfl rfl (by kernel_rfl) (fun _ _ _ h => h) (Or.inl ⟨by rfl, ?_⟩) ?_ ?_
  rotate_left
  · intro w'
    go_simp
    with_reducible rfl
  rotate_left
  · simp only [Act.put, List.setIfInBounds_toArray, List.set_cons_zero, List.set_cons_succ, i64_w, i32_w]
    rfl
  refine take_ (i := 3) (N := some 39) (v := ?_) (a' := ?_) #[true, true, true, true, false, false, false, false, false, false, false, false, false, false, false, false, false, false, false, false, false, false, false] rfl rfl (by kernel_rfl) (fun _ _ _ h => h) (Or.inl ⟨by rfl, ?_⟩) hHeld ?_ ?_
  rotate_left
  · intro w' hS
    have s5 := blk2 hS
    obtain ⟨z0, _, z1, _⟩ := s5
    go_simp
    with_reducible rfl
  rotate_left
  · simp only [Act.put, List.setIfInBounds_toArray, List.set_cons_zero, List.set_cons_succ, i64_w, i32_w]
    rfl
  refine pure_ (i := 4) (N := some 40) (v := ?_) (a' := ?_) #[true, true, true, true, true, false, false, false, false, false, false, false, false, false, false, false, false, false, false, false, false, false, false] rfl rfl (by kernel_rfl) (fun _ _ _ h => h) (Or.inl ⟨by rfl, ?_⟩) ?_ ?_
  rotate_left
  · intro w'
    go_simp
    with_reducible rfl
  rotate_left
  · simp only [Act.put, List.setIfInBounds_toArray, List.set_cons_zero, List.set_cons_succ, i64_w, i32_w]
    rfl
  refine pure_ (i := 5) (N := some 41) (v := .int .i64 (4 + (n : Int))) (a' := ?_) #[true, true, true, true, true, true, false, false, false, false, false, false, false, false, false, false, false, false, false, false, false, false, false] rfl rfl (by kernel_rfl) (fun _ _ _ h => h) (Or.inl ⟨by rfl, ?_⟩) ?_ ?_
  · intro w'
    go_simp
    first | rfl | (rw [h4n]; done) | (rw [IntKind.wrap_i64]; omega)
  rotate_left
  · simp only [Act.put, List.setIfInBounds_toArray, List.set_cons_zero, List.set_cons_succ, i64_w, i32_w]
    rfl
  refine pure_ (i := 6) (N := some 42) (v := .string (r.s.extract 4 (4 + n))) (a' := ?_) #[true, true, true, true, true, true, true, false, false, false, false, false, false, false, false, false, false, false, false, false, false, false, false] rfl rfl (by kernel_rfl) (fun _ _ _ h => h) (Or.inl ⟨by rfl, ?_⟩) ?_ ?_
  · intro w'
    have hsl := run_slice_string (P := Tryd.prog) w' 9 r.s .i64 .i64 4 (4 + (n : Int)) Tryd.underlying9 (by omega) (by omega) (by omega)
    simp only [show (4 : Int).toNat = 4 from rfl, show (4 + (n : Int)).toNat = 4 + n by omega] at hsl
    go_simp
    try rw [hsl]
    try rfl
  rotate_left
  · simp only [Act.put, List.setIfInBounds_toArray, List.set_cons_zero, List.set_cons_succ, i64_w, i32_w]
    rfl
  refine pure_ (i := 7) (N := some 43) (v := ?_) (a' := ?_) #[true, true, true, true, true, true, true, true, false, false, false, false, false, false, false, false, false, false, false, false, false, false, false] rfl rfl (by kernel_rfl) (fun _ _ _ h => h) (Or.inl ⟨by rfl, ?_⟩) ?_ ?_
  rotate_left
  · intro w'
    go_simp
    with_reducible rfl
  rotate_left
  · simp only [Act.put, List.setIfInBounds_toArray, List.set_cons_zero, List.set_cons_succ, i64_w, i32_w]
    rfl
  refine pure_ (i := 8) (N := some 44) (v := ?_) (a' := ?_) #[true, true, true, true, true, true, true, true, true, false, false, false, false, false, false, false, false, false, false, false, false, false, false] rfl rfl (by kernel_rfl) (fun _ _ _ h => h) (Or.inl ⟨by rfl, ?_⟩) ?_ ?_
  rotate_left
  · intro w'
    go_simp
    with_reducible rfl
  rotate_left
  · simp only [Act.put, List.setIfInBounds_toArray, List.set_cons_zero, List.set_cons_succ, i64_w, i32_w]
    rfl
  refine pure_ (i := 9) (N := some 45) (v := ?_) (a' := ?_) #[true, true, true, true, true, true, true, true, true, true, false, false, false, false, false, false, false, false, false, false, false, false, false] rfl rfl (by kernel_rfl) (fun _ _ _ h => h) (Or.inl ⟨by rfl, ?_⟩) ?_ ?_
  rotate_left
  · intro w'
    go_simp
    with_reducible rfl
  rotate_left
  · simp only [Act.put, List.setIfInBounds_toArray, List.set_cons_zero, List.set_cons_succ, i64_w, i32_w]
    rfl
  refine take_ (i := 10) (N := some 46) (v := ?_) (a' := ?_) #[true, true, true, true, true, true, true, true, true, true, true, false, false, false, false, false, false, false, false, false, false, false, false] rfl rfl (by kernel_rfl) (fun _ _ _ h => h) (Or.inl ⟨by rfl, ?_⟩) hHeld ?_ ?_
  rotate_left
  · intro w' hS
    have s5 := blk2 hS
    obtain ⟨z0, _, z1, _⟩ := s5
    go_simp
    with_reducible rfl
  rotate_left
  · simp only [Act.put, List.setIfInBounds_toArray, List.set_cons_zero, List.set_cons_succ, i64_w, i32_w]
    rfl
  refine pure_ (i := 11) (N := some 47) (v := ?_) (a' := ?_) #[true, true, true, true, true, true, true, true, true, true, true, true, false, false, false, false, false, false, false, false, false, false, false] rfl rfl (by kernel_rfl) (fun _ _ _ h => h) (Or.inl ⟨by rfl, ?_⟩) ?_ ?_
  rotate_left
  · intro w'
    go_simp
    with_reducible rfl
  rotate_left
  · simp only [Act.put, List.setIfInBounds_toArray, List.set_cons_zero, List.set_cons_succ, i64_w, i32_w]
    rfl
  refine pure_ (i := 12) (N := some 48) (v := .int .i64 (4 + (n : Int))) (a' := ?_) #[true, true, true, true, true, true, true, true, true, true, true, true, true, false, false, false, false, false, false, false, false, false, false] rfl rfl (by kernel_rfl) (fun _ _ _ h => h) (Or.inl ⟨by rfl, ?_⟩) ?_ ?_
  · intro w'
    go_simp
    first | rfl | (rw [h4n]; done) | (rw [IntKind.wrap_i64]; omega)
  rotate_left
  · simp only [Act.put, List.setIfInBounds_toArray, List.set_cons_zero, List.set_cons_succ, i64_w, i32_w]
    rfl
  refine pure_ (i := 13) (N := some 49) (v := ?_) (a' := ?_) #[true, true, true, true, true, true, true, true, true, true, true, true, true, true, false, false, false, false, false, false, false, false, false] rfl rfl (by kernel_rfl) (fun _ _ _ h => h) (Or.inl ⟨by rfl, ?_⟩) ?_ ?_
  rotate_left
  · intro w'
    go_simp
    with_reducible rfl
  rotate_left
  · simp only [Act.put, List.setIfInBounds_toArray, List.set_cons_zero, List.set_cons_succ, i64_w, i32_w]
    rfl
  refine pure_ (i := 14) (N := some 50) (v := .int .i64 (4 + (n : Int))) (a' := ?_) #[true, true, true, true, true, true, true, true, true, true, true, true, true, true, true, false, false, false, false, false, false, false, false] rfl rfl (by kernel_rfl) (fun _ _ _ h => h) (Or.inl ⟨by rfl, ?_⟩) ?_ ?_
  · intro w'
    go_simp
    first | rfl | (rw [h4n]; done) | (rw [IntKind.wrap_i64]; omega)
  rotate_left
  · simp only [Act.put, List.setIfInBounds_toArray, List.set_cons_zero, List.set_cons_succ, i64_w, i32_w]
    rfl
  refine pure_ (i := 15) (N := some 51) (v := ?_) (a' := ?_) #[true, true, true, true, true, true, true, true, true, true, true, true, true, true, true, true, false, false, false, false, false, false, false] rfl rfl (by kernel_rfl) (fun _ _ _ h => h) (Or.inl ⟨by rfl, ?_⟩) ?_ ?_
  rotate_left
  · intro w'
    go_simp
    with_reducible rfl
  rotate_left
  · simp only [Act.put, List.setIfInBounds_toArray, List.set_cons_zero, List.set_cons_succ, i64_w, i32_w]
    rfl
  refine pure_ (i := 16) (N := some 52) (v := ?_) (a' := ?_) #[true, true, true, true, true, true, true, true, true, true, true, true, true, true, true, true, true, false, false, false, false, false, false] rfl rfl (by kernel_rfl) (fun _ _ _ h => h) (Or.inl ⟨by rfl, ?_⟩) ?_ ?_
  rotate_left
  · intro w'
    go_simp
    with_reducible rfl
  rotate_left
  · simp only [Act.put, List.setIfInBounds_toArray, List.set_cons_zero, List.set_cons_succ, i64_w, i32_w]
    rfl
  refine pure_ (i := 17) (N := some 53) (v := ?_) (a' := ?_) #[true, true, true, true, true, true, true, true, true, true, true, true, true, true, true, true, true, true, false, false, false, false, false] rfl rfl (by kernel_rfl) (fun _ _ _ h => h) (Or.inl ⟨by rfl, ?_⟩) ?_ ?_
  rotate_left
  · intro w'
    go_simp
    with_reducible rfl
  rotate_left
  · simp only [Act.put, List.setIfInBounds_toArray, List.set_cons_zero, List.set_cons_succ, i64_w, i32_w]
    rfl
  refine pure_ (i := 18) (N := some 54) (v := .int .i64 (m : Int)) (a' := ?_) #[true, true, true, true, true, true, true, true, true, true, true, true, true, true, true, true, true, true, true, false, false, false, false] rfl rfl (by kernel_rfl) (fun _ _ _ h => h) (Or.inl ⟨by rfl, ?_⟩) ?_ ?_
  · intro w'
    go_simp
    try exact h6n
  rotate_left
  · simp only [Act.put, List.setIfInBounds_toArray, List.set_cons_zero, List.set_cons_succ, i64_w, i32_w]
    rfl
  refine pure_ (i := 19) (N := some 55) (v := .int .i64 (4 + (n : Int) + (m : Int))) (a' := ?_) #[true, true, true, true, true, true, true, true, true, true, true, true, true, true, true, true, true, true, true, true, false, false, false] rfl rfl (by kernel_rfl) (fun _ _ _ h => h) (Or.inl ⟨by rfl, ?_⟩) ?_ ?_
  · intro w'
    go_simp
    first | rfl | (rw [h5n]; done) | (rw [IntKind.wrap_i64]; omega)
  rotate_left
  · simp only [Act.put, List.setIfInBounds_toArray, List.set_cons_zero, List.set_cons_succ, i64_w, i32_w]
    rfl
  refine pure_ (i := 20) (N := some 56) (v := .string (r.s.extract (4 + n) (4 + n + m))) (a' := ?_) #[true, true, true, true, true, true, true, true, true, true, true, true, true, true, true, true, true, true, true, true, true, false, false] rfl rfl (by kernel_rfl) (fun _ _ _ h => h) (Or.inl ⟨by rfl, ?_⟩) ?_ ?_
  · intro w'
    have hsl := run_slice_string (P := Tryd.prog) w' 9 r.s .i64 .i64 (4 + (n : Int)) (4 + (n : Int) + (m : Int)) Tryd.underlying9 (by omega) (by omega) (by omega)
    simp only [show (4 + (n : Int)).toNat = 4 + n by omega, show (4 + (n : Int) + (m : Int)).toNat = 4 + n + m by omega] at hsl
    go_simp
    try rw [hsl]
    try rfl
  rotate_left
  · simp only [Act.put, List.setIfInBounds_toArray, List.set_cons_zero, List.set_cons_succ, i64_w, i32_w]
    rfl
  refine pure_ (i := 21) (N := some 5) (v := ?_) (a' := ?_) #[true, true, true, true, true, true, true, true, true, true, true, true, true, true, true, true, true, true, true, true, true, true, false] rfl rfl (by kernel_rfl) (fun _ _ _ h => h) (Or.inl ⟨by rfl, ?_⟩) ?_ ?_
  rotate_left
  · intro w'
    go_simp
    with_reducible rfl
  rotate_left
  · simp only [Act.put, List.setIfInBounds_toArray, List.set_cons_zero, List.set_cons_succ, i64_w, i32_w]
    rfl
  refine pure_ (i := 22) (N := some 6) (v := ?_) (a' := ?_) #[true, true, true, true, true, true, true, true, true, true, true, true, true, true, true, true, true, true, true, true, true, true, true] rfl rfl (by kernel_rfl) (fun _ _ _ h => h) (Or.inl ⟨by rfl, ?_⟩) ?_ ?_
  rotate_left
  · intro w'
    go_simp
    with_reducible rfl
  rotate_left
  · simp only [Act.put, List.setIfInBounds_toArray, List.set_cons_zero, List.set_cons_succ, i64_w, i32_w]
    rfl
  refine done_ (by kernel_rfl) ?_
  have HTRH := HTR
  clear HTR
  generalize w2.drew = w3 at H2 HB hHeld ⊢
  clear hHeld
  obtain ⟨T, hT⟩ : ∃ T, trimOf (r.s.extract (4 + n) (4 + n + m)) = T := ⟨_, rfl⟩
  have htn : ¬ T = ByteArray.empty := by rw [← hT, HT.out, HZ.out]; simp
  have hti : (!T.toList.isEmpty) = true := by
    cases he : T.toList with
    | nil => exact absurd (by rw [ByteArray.toList_eq] at he; exact ByteArray.ext (Array.toList_inj.1 (by rw [he]; rfl))) htn
    | cons a l => rfl
  have HTC := Lib.hid (HTRH.out w3)
  rw [hT] at HTC
  clear hT HTRH HT
  go_wp2_with (go_at_call 50; refine HTC.out.mono ?_; rintro e w4 ⟨rfl, hb⟩; have H4 := Lib.hid (H2.out.below hb); have HB4 := Lib.hid hb; clear hb; obtain ⟨x0, y0, x1, y1⟩ := H4.out.blk)
  go_step3
  refine And.intro rfl ?_
  show Code.wp _ _ _ _ _
  go_wp2
  try rw [Exit.noGoto_ret]
  go_ret
  have h3 := H4.out.fail 3
  exact ⟨rfl, h3.1, ((Fr.of_below HB.out).trans (Fr.of_below HB4.out) (fun _ _ h => h)).trans h3.2 (fun _ _ h => h)⟩
set_option maxRecDepth 100000 in
set_option maxHeartbeats 8000000 in
theorem text_good (h : RAt w p r) (most : Int) (he : r.e = 0) (hs : ¬ r.s.size < 4) (hg1 : ¬ most < (get4 r.s : Int)) (hg2 : ¬ r.s.size < 4 + get4 r.s + padOf (get4 r.s)) (hz : (r.s.extract (4 + get4 r.s) (4 + get4 r.s + padOf (get4 r.s))).data.toList.any (· != 0) = false) : Calls Tryd.prog 41 #[.pointer (some ⟨p, 0, none⟩), .int .i64 most] w fun e w' => e = .returned (.string (r.text most).1) ∧ Left p (r.text most).2 w w' := by
  have H := Lib.hid h
  have hm := h.2
  have hg := get4_lt r.s
  have hpd : ((4 - (get4 r.s : Int) % 4) % 4) = (padOf (get4 r.s) : Int) := by unfold padOf; omega
  have hpl := padOf_lt (get4 r.s)
  have HGE := Lib.hid (show 4 ≤ r.s.size by omega)
  have HPK := Lib.hid (peek_ok H.out HGE.out)
  have HT := Lib.hid (trimOf_empty (r.s.extract (4 + get4 r.s) (4 + get4 r.s + padOf (get4 r.s))))
  have HTR := Lib.hid (fun w => trim_calls (r.s.extract (4 + get4 r.s) (4 + get4 r.s + padOf (get4 r.s))) w (by simp only [ByteArray.size_extract]; omega))
  have e : r.text most = (r.s.extract 4 (4 + get4 r.s), r.skip (4 + get4 r.s + padOf (get4 r.s))) := by simp only [Rd.text, he, hs, hg1, hg2, hz, Bool.false_eq_true, if_true, if_false, ne_eq, not_true, not_false_eq_true, gt_iff_lt]
  rw [e]
  clear h e
  generalize hn : get4 r.s = n at hg hg1 hg2 hz hpd hpl HPK HT HTR ⊢
  generalize hpn : padOf n = m at hg2 hz hpd hpl HT HTR ⊢
  have HZ := Lib.hid hz
  have h4n : wrap64 (4 + (n : Int)) = 4 + (n : Int) := by unfold wrap64; omega
  have h6n : (wrap64 (4 - (n : Int).tmod 4)).tmod 4 = (m : Int) := by
    rw [Int.tmod_eq_emod_of_nonneg (by omega : (0 : Int) ≤ n), show wrap64 (4 - (n : Int) % 4) = 4 - (n : Int) % 4 by unfold wrap64; omega, Int.tmod_eq_emod_of_nonneg (by omega)]
    exact hpd
  have h5n : wrap64 (4 + (n : Int) + (m : Int)) = 4 + (n : Int) + (m : Int) := by unfold wrap64; omega
  clear hz
  go_enter Tryd.func41, Tryd.ntmps41
  go_wp2
  go_step3
  go_wp2_with (first | (go_at_call 48; refine (err_ok H.out he).mono ?_; rintro e w1 ⟨rfl, rfl⟩) | (go_at_call 49; refine HPK.out.mono ?_; rintro e w2 ⟨rfl, hb⟩; have H2 := Lib.hid (H.out.below hb); have HB := Lib.hid hb; clear hb; obtain ⟨x0, y0, x1, y1⟩ := H2.out.blk) | (go_at_call 50; refine stop_here ?_))
  clear x0 y0 x1 y1
  refine start_ (n := 23) (S := fun w' => w'.heap[p]? = some (.cells #[.string r.s, .int .i64 (r.e : Int)] 103 (0, 0))) (ds := []) #[false, false, false, false, false, false, false, false, false, false, false, false, false, false, false, false, false, false, false, false, false, false, false] (by kernel_rfl) rfl rfl (H2.out.1) (fun hHeld => ?_)
  have H2 := Lib.hid (H2.out.below (Below.refl _ _).drew)
  have HB := Lib.hid (HB.out.drew)
  refine pure_ (i := 0) (N := some 36) (v := ?_) (a' := ?_) #[true, false, false, false, false, false, false, false, false, false, false, false, false, false, false, false, false, false, false, false, false, false, false] rfl rfl (by kernel_rfl) (fun _ _ _ h => h) (Or.inl ⟨by rfl, ?_⟩) ?_ ?_
  rotate_left
  · intro w'
    go_simp
    with_reducible rfl
  rotate_left
  · simp only [Act.put, List.setIfInBounds_toArray, List.set_cons_zero, List.set_cons_succ, i64_w, i32_w]
    rfl
  refine pure_ (i := 1) (N := some 37) (v := ?_) (a' := ?_) #[true, true, false, false, false, false, false, false, false, false, false, false, false, false, false, false, false, false, false, false, false, false, false] rfl rfl (by kernel_rfl) (fun _ _ _ h => h) (Or.inl ⟨by rfl, ?_⟩) ?_ ?_
  rotate_left
  · intro w'
    go_simp
    with_reducible rfl
  rotate_left
  · simp only [Act.put, List.setIfInBounds_toArray, List.set_cons_zero, List.set_cons_succ, i64_w, i32_w]
    rfl
  refine pure_ (i := 2) (N := some 38) (v := ?_) (a' := ?_) #[true, true, true, false, false, false, false, false, false, false, false, false, false, false, false, false, false, false, false, false, false, false, false] rfl rfl (by kernel_rfl) (fun _ _ _ h => h) (Or.inl ⟨by rfl, ?_⟩) ?_ ?_
  rotate_left
  · intro w'
    go_simp
    with_reducible rfl
  rotate_left
  · simp only [Act.put, List.setIfInBounds_toArray, List.set_cons_zero, List.set_cons_succ, i64_w, i32_w]
    rfl
  refine take_ (i := 3) (N := some 39) (v := ?_) (a' := ?_) #[true, true, true, true, false, false, false, false, false, false, false, false, false, false, false, false, false, false, false, false, false, false, false] rfl rfl (by kernel_rfl) (fun _ _ _ h => h) (Or.inl ⟨by rfl, ?_⟩) hHeld ?_ ?_
  rotate_left
  · intro w' hS
    have s5 := blk2 hS
    obtain ⟨z0, _, z1, _⟩ := s5
    go_simp
    with_reducible rfl
  rotate_left
  · simp only [Act.put, List.setIfInBounds_toArray, List.set_cons_zero, List.set_cons_succ, i64_w, i32_w]
    rfl
  refine pure_ (i := 4) (N := some 40) (v := ?_) (a' := ?_) #[true, true, true, true, true, false, false, false, false, false, false, false, false, false, false, false, false, false, false, false, false, false, false] rfl rfl (by kernel_rfl) (fun _ _ _ h => h) (Or.inl ⟨by rfl, ?_⟩) ?_ ?_
  rotate_left
  · intro w'
    go_simp
    with_reducible rfl
  rotate_left
  · simp only [Act.put, List.setIfInBounds_toArray, List.set_cons_zero, List.set_cons_succ, i64_w, i32_w]
    rfl
  refine pure_ (i := 5) (N := some 41) (v := .int .i64 (4 + (n : Int))) (a' := ?_) #[true, true, true, true, true, true, false, false, false, false, false, false, false, false, false, false, false, false, false, false, false, false, false] rfl rfl (by kernel_rfl) (fun _ _ _ h => h) (Or.inl ⟨by rfl, ?_⟩) ?_ ?_
  · intro w'
    go_simp
    first | rfl | (rw [h4n]; done) | (rw [IntKind.wrap_i64]; omega)
  rotate_left
  · simp only [Act.put, List.setIfInBounds_toArray, List.set_cons_zero, List.set_cons_succ, i64_w, i32_w]
    rfl
  refine pure_ (i := 6) (N := some 42) (v := .string (r.s.extract 4 (4 + n))) (a' := ?_) #[true, true, true, true, true, true, true, false, false, false, false, false, false, false, false, false, false, false, false, false, false, false, false] rfl rfl (by kernel_rfl) (fun _ _ _ h => h) (Or.inl ⟨by rfl, ?_⟩) ?_ ?_
  · intro w'
    have hsl := run_slice_string (P := Tryd.prog) w' 9 r.s .i64 .i64 4 (4 + (n : Int)) Tryd.underlying9 (by omega) (by omega) (by omega)
    simp only [show (4 : Int).toNat = 4 from rfl, show (4 + (n : Int)).toNat = 4 + n by omega] at hsl
    go_simp
    try rw [hsl]
    try rfl
  rotate_left
  · simp only [Act.put, List.setIfInBounds_toArray, List.set_cons_zero, List.set_cons_succ, i64_w, i32_w]
    rfl
  refine pure_ (i := 7) (N := some 43) (v := ?_) (a' := ?_) #[true, true, true, true, true, true, true, true, false, false, false, false, false, false, false, false, false, false, false, false, false, false, false] rfl rfl (by kernel_rfl) (fun _ _ _ h => h) (Or.inl ⟨by rfl, ?_⟩) ?_ ?_
  rotate_left
  · intro w'
    go_simp
    with_reducible rfl
  rotate_left
  · simp only [Act.put, List.setIfInBounds_toArray, List.set_cons_zero, List.set_cons_succ, i64_w, i32_w]
    rfl
  refine pure_ (i := 8) (N := some 44) (v := ?_) (a' := ?_) #[true, true, true, true, true, true, true, true, true, false, false, false, false, false, false, false, false, false, false, false, false, false, false] rfl rfl (by kernel_rfl) (fun _ _ _ h => h) (Or.inl ⟨by rfl, ?_⟩) ?_ ?_
  rotate_left
  · intro w'
    go_simp
    with_reducible rfl
  rotate_left
  · simp only [Act.put, List.setIfInBounds_toArray, List.set_cons_zero, List.set_cons_succ, i64_w, i32_w]
    rfl
  refine pure_ (i := 9) (N := some 45) (v := ?_) (a' := ?_) #[true, true, true, true, true, true, true, true, true, true, false, false, false, false, false, false, false, false, false, false, false, false, false] rfl rfl (by kernel_rfl) (fun _ _ _ h => h) (Or.inl ⟨by rfl, ?_⟩) ?_ ?_
  rotate_left
  · intro w'
    go_simp
    with_reducible rfl
  rotate_left
  · simp only [Act.put, List.setIfInBounds_toArray, List.set_cons_zero, List.set_cons_succ, i64_w, i32_w]
    rfl
  refine take_ (i := 10) (N := some 46) (v := ?_) (a' := ?_) #[true, true, true, true, true, true, true, true, true, true, true, false, false, false, false, false, false, false, false, false, false, false, false] rfl rfl (by kernel_rfl) (fun _ _ _ h => h) (Or.inl ⟨by rfl, ?_⟩) hHeld ?_ ?_
  rotate_left
  · intro w' hS
    have s5 := blk2 hS
    obtain ⟨z0, _, z1, _⟩ := s5
    go_simp
    with_reducible rfl
  rotate_left
  · simp only [Act.put, List.setIfInBounds_toArray, List.set_cons_zero, List.set_cons_succ, i64_w, i32_w]
    rfl
  refine pure_ (i := 11) (N := some 47) (v := ?_) (a' := ?_) #[true, true, true, true, true, true, true, true, true, true, true, true, false, false, false, false, false, false, false, false, false, false, false] rfl rfl (by kernel_rfl) (fun _ _ _ h => h) (Or.inl ⟨by rfl, ?_⟩) ?_ ?_
  rotate_left
  · intro w'
    go_simp
    with_reducible rfl
  rotate_left
  · simp only [Act.put, List.setIfInBounds_toArray, List.set_cons_zero, List.set_cons_succ, i64_w, i32_w]
    rfl
  refine pure_ (i := 12) (N := some 48) (v := .int .i64 (4 + (n : Int))) (a' := ?_) #[true, true, true, true, true, true, true, true, true, true, true, true, true, false, false, false, false, false, false, false, false, false, false] rfl rfl (by kernel_rfl) (fun _ _ _ h => h) (Or.inl ⟨by rfl, ?_⟩) ?_ ?_
  · intro w'
    go_simp
    first | rfl | (rw [h4n]; done) | (rw [IntKind.wrap_i64]; omega)
  rotate_left
  · simp only [Act.put, List.setIfInBounds_toArray, List.set_cons_zero, List.set_cons_succ, i64_w, i32_w]
    rfl
  refine pure_ (i := 13) (N := some 49) (v := ?_) (a' := ?_) #[true, true, true, true, true, true, true, true, true, true, true, true, true, true, false, false, false, false, false, false, false, false, false] rfl rfl (by kernel_rfl) (fun _ _ _ h => h) (Or.inl ⟨by rfl, ?_⟩) ?_ ?_
  rotate_left
  · intro w'
    go_simp
    with_reducible rfl
  rotate_left
  · simp only [Act.put, List.setIfInBounds_toArray, List.set_cons_zero, List.set_cons_succ, i64_w, i32_w]
    rfl
  refine pure_ (i := 14) (N := some 50) (v := .int .i64 (4 + (n : Int))) (a' := ?_) #[true, true, true, true, true, true, true, true, true, true, true, true, true, true, true, false, false, false, false, false, false, false, false] rfl rfl (by kernel_rfl) (fun _ _ _ h => h) (Or.inl ⟨by rfl, ?_⟩) ?_ ?_
  · intro w'
    go_simp
    first | rfl | (rw [h4n]; done) | (rw [IntKind.wrap_i64]; omega)
  rotate_left
  · simp only [Act.put, List.setIfInBounds_toArray, List.set_cons_zero, List.set_cons_succ, i64_w, i32_w]
    rfl
  refine pure_ (i := 15) (N := some 51) (v := ?_) (a' := ?_) #[true, true, true, true, true, true, true, true, true, true, true, true, true, true, true, true, false, false, false, false, false, false, false] rfl rfl (by kernel_rfl) (fun _ _ _ h => h) (Or.inl ⟨by rfl, ?_⟩) ?_ ?_
  rotate_left
  · intro w'
    go_simp
    with_reducible rfl
  rotate_left
  · simp only [Act.put, List.setIfInBounds_toArray, List.set_cons_zero, List.set_cons_succ, i64_w, i32_w]
    rfl
  refine pure_ (i := 16) (N := some 52) (v := ?_) (a' := ?_) #[true, true, true, true, true, true, true, true, true, true, true, true, true, true, true, true, true, false, false, false, false, false, false] rfl rfl (by kernel_rfl) (fun _ _ _ h => h) (Or.inl ⟨by rfl, ?_⟩) ?_ ?_
  rotate_left
  · intro w'
    go_simp
    with_reducible rfl
  rotate_left
  · simp only [Act.put, List.setIfInBounds_toArray, List.set_cons_zero, List.set_cons_succ, i64_w, i32_w]
    rfl
  refine pure_ (i := 17) (N := some 53) (v := ?_) (a' := ?_) #[true, true, true, true, true, true, true, true, true, true, true, true, true, true, true, true, true, true, false, false, false, false, false] rfl rfl (by kernel_rfl) (fun _ _ _ h => h) (Or.inl ⟨by rfl, ?_⟩) ?_ ?_
  rotate_left
  · intro w'
    go_simp
    with_reducible rfl
  rotate_left
  · simp only [Act.put, List.setIfInBounds_toArray, List.set_cons_zero, List.set_cons_succ, i64_w, i32_w]
    rfl
  refine pure_ (i := 18) (N := some 54) (v := .int .i64 (m : Int)) (a' := ?_) #[true, true, true, true, true, true, true, true, true, true, true, true, true, true, true, true, true, true, true, false, false, false, false] rfl rfl (by kernel_rfl) (fun _ _ _ h => h) (Or.inl ⟨by rfl, ?_⟩) ?_ ?_
  · intro w'
    go_simp
    try exact h6n
  rotate_left
  · simp only [Act.put, List.setIfInBounds_toArray, List.set_cons_zero, List.set_cons_succ, i64_w, i32_w]
    rfl
  refine pure_ (i := 19) (N := some 55) (v := .int .i64 (4 + (n : Int) + (m : Int))) (a' := ?_) #[true, true, true, true, true, true, true, true, true, true, true, true, true, true, true, true, true, true, true, true, false, false, false] rfl rfl (by kernel_rfl) (fun _ _ _ h => h) (Or.inl ⟨by rfl, ?_⟩) ?_ ?_
  · intro w'
    go_simp
    first | rfl | (rw [h5n]; done) | (rw [IntKind.wrap_i64]; omega)
  rotate_left
  · simp only [Act.put, List.setIfInBounds_toArray, List.set_cons_zero, List.set_cons_succ, i64_w, i32_w]
    rfl
  refine pure_ (i := 20) (N := some 56) (v := .string (r.s.extract (4 + n) (4 + n + m))) (a' := ?_) #[true, true, true, true, true, true, true, true, true, true, true, true, true, true, true, true, true, true, true, true, true, false, false] rfl rfl (by kernel_rfl) (fun _ _ _ h => h) (Or.inl ⟨by rfl, ?_⟩) ?_ ?_
  · intro w'
    have hsl := run_slice_string (P := Tryd.prog) w' 9 r.s .i64 .i64 (4 + (n : Int)) (4 + (n : Int) + (m : Int)) Tryd.underlying9 (by omega) (by omega) (by omega)
    simp only [show (4 + (n : Int)).toNat = 4 + n by omega, show (4 + (n : Int) + (m : Int)).toNat = 4 + n + m by omega] at hsl
    go_simp
    try rw [hsl]
    try rfl
  rotate_left
  · simp only [Act.put, List.setIfInBounds_toArray, List.set_cons_zero, List.set_cons_succ, i64_w, i32_w]
    rfl
  refine pure_ (i := 21) (N := some 5) (v := ?_) (a' := ?_) #[true, true, true, true, true, true, true, true, true, true, true, true, true, true, true, true, true, true, true, true, true, true, false] rfl rfl (by kernel_rfl) (fun _ _ _ h => h) (Or.inl ⟨by rfl, ?_⟩) ?_ ?_
  rotate_left
  · intro w'
    go_simp
    with_reducible rfl
  rotate_left
  · simp only [Act.put, List.setIfInBounds_toArray, List.set_cons_zero, List.set_cons_succ, i64_w, i32_w]
    rfl
  refine pure_ (i := 22) (N := some 6) (v := ?_) (a' := ?_) #[true, true, true, true, true, true, true, true, true, true, true, true, true, true, true, true, true, true, true, true, true, true, true] rfl rfl (by kernel_rfl) (fun _ _ _ h => h) (Or.inl ⟨by rfl, ?_⟩) ?_ ?_
  rotate_left
  · intro w'
    go_simp
    with_reducible rfl
  rotate_left
  · simp only [Act.put, List.setIfInBounds_toArray, List.set_cons_zero, List.set_cons_succ, i64_w, i32_w]
    rfl
  refine done_ (by kernel_rfl) ?_
  have HTRH := HTR
  clear HTR
  generalize w2.drew = w3 at H2 HB hHeld ⊢
  clear hHeld
  obtain ⟨T, hT⟩ : ∃ T, trimOf (r.s.extract (4 + n) (4 + n + m)) = T := ⟨_, rfl⟩
  have htn : T = ByteArray.empty := by rw [← hT, HT.out, HZ.out]
  have hti : (!T.toList.isEmpty) = false := by rw [htn, ByteArray.toList_eq]; rfl
  have HTC := Lib.hid (HTRH.out w3)
  rw [hT] at HTC
  clear hT HTRH HT
  go_wp2_with (go_at_call 50; refine HTC.out.mono ?_; rintro e w4 ⟨rfl, hb⟩; have H4 := Lib.hid (H2.out.below hb); have HB4 := Lib.hid hb; clear hb; obtain ⟨x0, y0, x1, y1⟩ := H4.out.blk)
  try rw [Exit.noGoto_ret]
  go_ret
  have h3 := H4.out.skip (4 + n + m)
  rw [show 4 + n + (min (4 + n + m) r.s.size - (4 + n)) = 4 + n + m by omega]
  exact ⟨rfl, h3.1, ((Fr.of_below HB.out).trans (Fr.of_below HB4.out) (fun _ _ h => h)).trans h3.2 (fun _ _ h => h)⟩
set_option maxRecDepth 100000 in
set_option maxHeartbeats 4000000 in
theorem text_reads (h : RAt w p r) (most : Int) : Calls Tryd.prog 41 #[.pointer (some ⟨p, 0, none⟩), .int .i64 most] w fun e w' => e = .returned (.string (r.text most).1) ∧ Left p (r.text most).2 w w' := by
  have H := Lib.hid h
  by_cases he : r.e = 0
  · by_cases hs : r.s.size < 4
    · have e : r.text most = (ByteArray.empty, r.fail 2) := by simp [Rd.text, he, hs]
      rw [e]
      clear h
      go_enter Tryd.func41, Tryd.ntmps41
      go_wp2
      refine wp_scope_once 0 rfl ?_
      go_wp2_with (first | (go_at_call 48; refine (err_ok H.out he).mono ?_; rintro e w1 ⟨rfl, rfl⟩) | (go_at_call 49; refine (peek_short H.out hs).mono ?_; rintro e w2 ⟨rfl, hb⟩; have H2 := Lib.hid (H.out.below hb); have HB := Lib.hid hb; clear hb; obtain ⟨x0, y0, x1, y1⟩ := H2.out.blk))
      go_step3
      refine And.intro rfl ?_
      show Code.wp _ _ _ _ _
      go_wp2
      try rw [Exit.noGoto_ret]
      go_ret
      have h3 := H2.out.fail 2
      exact ⟨rfl, h3.1, (Fr.of_below HB.out).trans h3.2 (fun _ _ h => h)⟩
    · have hm := h.2
      have hg := get4_lt r.s
      have hpd : ((4 - (get4 r.s : Int) % 4) % 4) = (padOf (get4 r.s) : Int) := by unfold padOf; omega
      have hpl := padOf_lt (get4 r.s)
      have HGE := Lib.hid (show 4 ≤ r.s.size by omega)
      by_cases hg1 : most < (get4 r.s : Int)
      · have e : r.text most = (ByteArray.empty, r.fail 4) := by simp [Rd.text, he, hs, hg1]
        rw [e]
        clear h
        go_enter Tryd.func41, Tryd.ntmps41
        go_wp2
        refine wp_scope_once 0 rfl ?_
        go_wp2_with (first | (go_at_call 48; refine (err_ok H.out he).mono ?_; rintro e w1 ⟨rfl, rfl⟩) | (go_at_call 49; refine (peek_ok H.out HGE.out).mono ?_; rintro e w2 ⟨rfl, hb⟩; have H2 := Lib.hid (H.out.below hb); have HB := Lib.hid hb; clear hb; obtain ⟨x0, y0, x1, y1⟩ := H2.out.blk))
        go_step3
        refine And.intro rfl ?_
        show Code.wp _ _ _ _ _
        go_wp2
        try rw [Exit.noGoto_ret]
        go_ret
        have h3 := H2.out.fail 4
        exact ⟨rfl, h3.1, (Fr.of_below HB.out).trans h3.2 (fun _ _ h => h)⟩
      · by_cases hg2 : r.s.size < 4 + get4 r.s + padOf (get4 r.s)
        · have e : r.text most = (ByteArray.empty, r.fail 2) := by simp [Rd.text, he, hs, hg1, hg2]
          rw [e]
          clear h
          go_enter Tryd.func41, Tryd.ntmps41
          go_wp2
          refine wp_scope_once 0 rfl ?_
          go_wp2_with (first | (go_at_call 48; refine (err_ok H.out he).mono ?_; rintro e w1 ⟨rfl, rfl⟩) | (go_at_call 49; refine (peek_ok H.out HGE.out).mono ?_; rintro e w2 ⟨rfl, hb⟩; have H2 := Lib.hid (H.out.below hb); have HB := Lib.hid hb; clear hb; obtain ⟨x0, y0, x1, y1⟩ := H2.out.blk))
          go_step3
          refine And.intro rfl ?_
          show Code.wp _ _ _ _ _
          go_wp2
          try rw [Exit.noGoto_ret]
          go_ret
          have h3 := H2.out.fail 2
          exact ⟨rfl, h3.1, (Fr.of_below HB.out).trans h3.2 (fun _ _ h => h)⟩
        · by_cases hz : (r.s.extract (4 + get4 r.s) (4 + get4 r.s + padOf (get4 r.s))).data.toList.any (· != 0) = true
          · exact text_bad h most he hs hg1 hg2 hz
          · exact text_good h most he hs hg1 hg2 (by simpa using hz)
  · have e : r.text most = (ByteArray.empty, r) := by simp [Rd.text, he]
    rw [e]
    clear h
    have hi : ¬ (r.e : Int) = 0 := by omega
    go_enter Tryd.func41, Tryd.ntmps41
    go_wp2
    go_step3
    go_wp2_with (go_at_call 48; refine (err_calls H.out).mono ?_; rintro e w1 ⟨rfl, rfl⟩)
    try rw [Exit.noGoto_ret]
    go_ret
    exact ⟨rfl, H.out, Fr.refl _ _⟩
end Go.Proofs.YtiedmkgdhfkcoaaDoor.Xdr
