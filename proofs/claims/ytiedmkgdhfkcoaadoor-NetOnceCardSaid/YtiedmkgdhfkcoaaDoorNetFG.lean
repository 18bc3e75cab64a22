/- Layer net: Double. Layer net: Double refused; Send. -/
import Derived.Test.YtiedmkgdhfkcoaaDoorNetCE
import Derived.Test.YtiedmkgdhfkcoaaDoorPktAlive
namespace Go.Proofs.YtiedmkgdhfkcoaaDoor.Net
open Go.RowKit Go.Own Go.Blk Go.OpsL Go.XdrL Go.Proofs.YtiedmkgdhfkcoaaDoorW.PrintLast Go.Proofs.YtiedmkgdhfkcoaaDoorW.PrintWords
set_option linter.unusedVariables false
set_option linter.unusedSimpArgs false
set_option maxRecDepth 100000
variable {w w' : World} {p : Nat} {v : Value} {l : List ByteArray}
set_option maxHeartbeats 8000000 in
theorem double_in (h : NAt w p v l) (k : Nat) (hk : k < l.length) (hf : l.length < 200) : Calls Tryd.prog 24 #[.pointer (some ⟨p, 0, none⟩), .int .i64 (k : Int)] w fun e w' => e = .returned (.int .i64 0) ∧
    ∃ v', NAt w' p v' (l ++ [l[k]]) ∧ Fr (foot p v) w w' ∧ (∀ j, v'.ownBlock = some j → v.ownBlock = some j ∨ w.heap.size ≤ j) := by
  have H := Lib.hid h
  have HFEW := Lib.hid hf
  have HK := Lib.hid hk
  have h1 : ¬ ((k : Int) < 0) := by omega
  have h2 : ¬ ((l.length : Int) ≤ (k : Int)) := by omega
  have h3 : ((k : Int) < (l.length : Int)) := by omega
  have h4 : ¬ ((l.length : Int) = 200) := by omega
  have h5 : ¬ (l.length = 200) := by omega
  obtain ⟨g, c, rfl, hc⟩ := h.cell k hk
  clear h hc
  go_enter Tryd.func24, Tryd.ntmps24
  go_wp2_with (first | (go_at_call 28; refine (len_calls H.out).mono ?_; rintro e w1 ⟨rfl, rfl⟩))
  have H1 := H
  clear H
  refine start_ (n := 15) (S := fun w' => NAt w' p (.slice (some ⟨g, 0, none⟩) l.length c) l) (ds := [14]) #[false, false, false, false, false, false, false, false, false, false, false, false, false, false, false] (by kernel_rfl) rfl rfl (H1.out.below (Below.refl _ _).drew) (fun hHeld => ?_)
  have H2 := Lib.hid (show NAt w1.drew p (.slice (some ⟨g, 0, none⟩) l.length c) l from H1.out.below (Below.refl _ _).drew)
  have HB2 := Lib.hid ((Below.refl w1.heap.size w1).drew)
  generalize w1.drew = w2 at H2 HB2 hHeld ⊢
  refine pure_ (i := 0) (N := some 18) (v := ?_) (a' := ?_) #[true, false, false, false, false, false, false, false, false, false, false, false, false, false, false] rfl rfl (by kernel_rfl) (fun _ _ _ h => h) (Or.inl ⟨by rfl, ?_⟩) ?_ ?_
  rotate_left
  · intro w'
    go_simp
    with_reducible rfl
  rotate_left
  · simp only [Act.put, List.setIfInBounds_toArray, List.set_cons_zero, List.set_cons_succ, i64_w, i32_w]
    rfl
  refine pure_ (i := 1) (N := some 19) (v := ?_) (a' := ?_) #[true, true, false, false, false, false, false, false, false, false, false, false, false, false, false] rfl rfl (by kernel_rfl) (fun _ _ _ h => h) (Or.inl ⟨by rfl, ?_⟩) ?_ ?_
  rotate_left
  · intro w'
    go_simp
    with_reducible rfl
  rotate_left
  · simp only [Act.put, List.setIfInBounds_toArray, List.set_cons_zero, List.set_cons_succ, i64_w, i32_w]
    rfl
  refine pure_ (i := 2) (N := some 20) (v := ?_) (a' := ?_) #[true, true, true, false, false, false, false, false, false, false, false, false, false, false, false] rfl rfl (by kernel_rfl) (fun _ _ _ h => h) (Or.inl ⟨by rfl, ?_⟩) ?_ ?_
  rotate_left
  · intro w'
    go_simp
    with_reducible rfl
  rotate_left
  · simp only [Act.put, List.setIfInBounds_toArray, List.set_cons_zero, List.set_cons_succ, i64_w, i32_w]
    rfl
  refine pure_ (i := 3) (N := some 21) (v := ?_) (a' := ?_) #[true, true, true, true, false, false, false, false, false, false, false, false, false, false, false] rfl rfl (by kernel_rfl) (fun _ _ _ h => h) (Or.inl ⟨by rfl, ?_⟩) ?_ ?_
  rotate_left
  · intro w'
    go_simp
    with_reducible rfl
  rotate_left
  · simp only [Act.put, List.setIfInBounds_toArray, List.set_cons_zero, List.set_cons_succ, i64_w, i32_w]
    rfl
  refine pure_ (i := 5) (N := some 23) (v := ?_) (a' := ?_) #[true, true, true, true, false, true, false, false, false, false, false, false, false, false, false] rfl rfl (by kernel_rfl) (fun _ _ _ h => h) (Or.inl ⟨by rfl, ?_⟩) ?_ ?_
  rotate_left
  · intro w'
    go_simp
    with_reducible rfl
  rotate_left
  · simp only [Act.put, List.setIfInBounds_toArray, List.set_cons_zero, List.set_cons_succ, i64_w, i32_w]
    rfl
  refine pure_ (i := 6) (N := some 24) (v := ?_) (a' := ?_) #[true, true, true, true, false, true, true, false, false, false, false, false, false, false, false] rfl rfl (by kernel_rfl) (fun _ _ _ h => h) (Or.inl ⟨by rfl, ?_⟩) ?_ ?_
  rotate_left
  · intro w'
    go_simp
    with_reducible rfl
  rotate_left
  · simp only [Act.put, List.setIfInBounds_toArray, List.set_cons_zero, List.set_cons_succ, i64_w, i32_w]
    rfl
  refine pure_ (i := 7) (N := some 25) (v := ?_) (a' := ?_) #[true, true, true, true, false, true, true, true, false, false, false, false, false, false, false] rfl rfl (by kernel_rfl) (fun _ _ _ h => h) (Or.inl ⟨by rfl, ?_⟩) ?_ ?_
  rotate_left
  · intro w'
    go_simp
    with_reducible rfl
  rotate_left
  · simp only [Act.put, List.setIfInBounds_toArray, List.set_cons_zero, List.set_cons_succ, i64_w, i32_w]
    rfl
  refine pure_ (i := 8) (N := some 26) (v := ?_) (a' := ?_) #[true, true, true, true, false, true, true, true, true, false, false, false, false, false, false] rfl rfl (by kernel_rfl) (fun _ _ _ h => h) (Or.inl ⟨by rfl, ?_⟩) ?_ ?_
  rotate_left
  · intro w'
    go_simp
    with_reducible rfl
  rotate_left
  · simp only [Act.put, List.setIfInBounds_toArray, List.set_cons_zero, List.set_cons_succ, i64_w, i32_w]
    rfl
  refine take_ (i := 9) (N := some 27) (v := ?_) (a' := ?_) #[true, true, true, true, false, true, true, true, true, true, false, false, false, false, false] rfl rfl (by kernel_rfl) (fun _ _ _ h => h) (Or.inl ⟨by rfl, ?_⟩) hHeld ?_ ?_
  rotate_left
  · intro w' hS
    obtain ⟨x0, y0⟩ := blk1 hS.blk
    go_simp
    with_reducible rfl
  rotate_left
  · simp only [Act.put, List.setIfInBounds_toArray, List.set_cons_zero, List.set_cons_succ, i64_w, i32_w]
    rfl
  refine pure_ (i := 10) (N := some 28) (v := ?_) (a' := ?_) #[true, true, true, true, false, true, true, true, true, true, true, false, false, false, false] rfl rfl (by kernel_rfl) (fun _ _ _ h => h) (Or.inl ⟨by rfl, ?_⟩) ?_ ?_
  rotate_left
  · intro w'
    go_simp
    with_reducible rfl
  rotate_left
  · simp only [Act.put, List.setIfInBounds_toArray, List.set_cons_zero, List.set_cons_succ, i64_w, i32_w]
    rfl
  refine pure_ (i := 11) (N := some 29) (v := ?_) (a' := ?_) #[true, true, true, true, false, true, true, true, true, true, true, true, false, false, false] rfl rfl (by kernel_rfl) (fun _ _ _ h => h) (Or.inl ⟨by rfl, ?_⟩) ?_ ?_
  rotate_left
  · intro w'
    go_simp
    with_reducible rfl
  rotate_left
  · simp only [Act.put, List.setIfInBounds_toArray, List.set_cons_zero, List.set_cons_succ, i64_w, i32_w]
    rfl
  refine take_ (i := 12) (N := some 30) (v := ?_) (a' := ?_) #[true, true, true, true, false, true, true, true, true, true, true, true, true, false, false] rfl rfl (by kernel_rfl) (fun _ _ _ h => h) (Or.inl ⟨by rfl, ?_⟩) hHeld ?_ ?_
  rotate_left
  · intro w' hS
    obtain ⟨g', c', he, hcell⟩ := hS.cell k HK.out
    cases he
    go_simp
    with_reducible rfl
  rotate_left
  · simp only [Act.put, List.setIfInBounds_toArray, List.set_cons_zero, List.set_cons_succ, i64_w, i32_w]
    rfl
  refine join_ (σ := Nat) 1 #[true, true, true, true, true, true, true, true, true, true, true, true, true, true, false] (fun N => [(22, .int .i64 l.length), (31, .slice (some ⟨N, 0, none⟩) 1 1)]) (fun N w' => Hid (NAt w' p (.slice (some ⟨g, 0, none⟩) l.length c) l ∧ Shows w' (some ⟨N, 0, none⟩) (scells [l[k]]) ∧ Below w1.heap.size w1 w')) ?_ (fun HC0 => ?_)
  · intro N w5 H5
    simp only [putAll]
    refine norm_ (a' := ?_) ?_ ?_
    rotate_left
    · show Act.put _ (some 31) _ = _
      simp only [Act.put, List.setIfInBounds_toArray, List.set_cons_zero, List.set_cons_succ, i64_w, i32_w]
      rfl
    have HSP := Lib.hid (splice_calls H5.out.1 l.length 0 (by omega) _ 1 [l[k]] H5.out.2.1 (by have := HFEW.out; simp; omega))
    refine last_ (i := 14) (N := some 32) #[true, true, true, true, true, true, true, true, true, true, true, true, true, true, true] rfl rfl (by kernel_rfl) (by decide) (fun K hK => ?_)
    refine goes_ Tryd.func46 (by kernel_rfl) rfl #[.pointer (some ⟨p, 0, none⟩), .int .i64 l.length, .int .i64 0, .slice (some ⟨N, 0, none⟩) 1 1] (by rfl) rfl rfl (by (try simp only [List.map_toArray, List.map_cons, List.map_nil]); first | done | rfl) ?_
    refine (HSP.out).mono ?_
    rintro e w6 ⟨rfl, h6⟩
    refine ⟨_, rfl, ?_⟩
    have H6 := Lib.hid h6
    clear h6
    refine hK.out _ _ ?_
    clear hK K
    refine norm_ (a' := ?_) ?_ ?_
    rotate_left
    · show Act.put _ (some 32) _ = _
      simp only [Act.put, List.setIfInBounds_toArray, List.set_cons_zero, List.set_cons_succ, i64_w, i32_w]
      rfl
    refine done_ (by kernel_rfl) ?_
    go_wp2
    try rw [Exit.noGoto_ret]
    go_ret
    obtain ⟨v6, hn6, hF6, hO6⟩ := H6.out
    refine ⟨rfl, v6, (congrArg (NAt _ p v6) (by simp; rfl)).mp hn6, (Fr.of_below (F := foot p (.slice (some ⟨g, 0, none⟩) l.length c)) H5.out.2.2).trans hF6 (fun _ _ h => h), fun j hj => ?_⟩
    rcases hO6 j hj with h | h
    · exact .inl h
    · have := H5.out.2.2.size; exact .inr (by omega)
  refine two_ (i := 4) (j := 13) (Ni := some 22) (Nj := some 31) #[true, true, true, true, true, true, true, true, true, true, true, true, true, false, false] #[true, true, true, true, false, true, true, true, true, true, true, true, true, true, false] rfl rfl rfl rfl (by kernel_rfl) (by decide) (by decide) (fun K hK => ?_) (fun K hK => ?_)
  · refine goes_ Tryd.func28 (by kernel_rfl) rfl #[.pointer (some ⟨p, 0, none⟩)] (by rfl) rfl rfl (by (try simp only [List.map_toArray, List.map_cons, List.map_nil]); first | done | rfl) ?_
    refine (len_calls H2.out).mono ?_
    rintro e wx ⟨rfl, rfl⟩
    refine ⟨_, rfl, ?_⟩
    refine hK.out _ _ H2.out (fun hHeld => ?_)
    clear hK K
    refine one_ (i := 13) (N := some 31) #[true, true, true, true, true, true, true, true, true, true, true, true, true, true, false] rfl rfl (by kernel_rfl) (by decide) (fun K hK => ?_)
    refine value_ (by rfl) rfl (execOp_buildSlice (ps := #[(0, .string (l[k]))]) rfl rfl (run_one _ (l[k]))) ?_
    have hb3 : Below wx.heap.size wx (wx.alloc (.cells #[.string (l[k])] 9)) := (Below.refl wx.heap.size wx).alloc (Nat.le_refl _) _
    have H3 := Lib.hid (H2.out.below hb3)
    have HS3 := Lib.hid (shows_one wx (l[k]) 9)
    have HB3 := Lib.hid (HB2.out.trans (hb3.mono HB2.out.size))
    clear hb3
    obtain ⟨N, hN⟩ : ∃ N, wx.heap.size = N := ⟨_, rfl⟩
    rw [hN] at HS3 ⊢
    clear hN
    generalize wx.alloc (.cells #[.string (l[k])] 9) = w3 at H3 HS3 HB3 ⊢
    refine hK.out _ _ H3.out (fun hHeld => ?_)
    have hc := HC0 N _ (Lib.hid ⟨H3.out, HS3.out, HB3.out⟩)
    simp only [putAll, Act.put, List.setIfInBounds_toArray, List.set_cons_zero, List.set_cons_succ, i64_w, i32_w] at hc ⊢
    exact hc
  · refine value_ (by rfl) rfl (execOp_buildSlice (ps := #[(0, .string (l[k]))]) rfl rfl (run_one _ (l[k]))) ?_
    have hb3 : Below w2.heap.size w2 (w2.alloc (.cells #[.string (l[k])] 9)) := (Below.refl w2.heap.size w2).alloc (Nat.le_refl _) _
    have H3 := Lib.hid (H2.out.below hb3)
    have HS3 := Lib.hid (shows_one w2 (l[k]) 9)
    have HB3 := Lib.hid (HB2.out.trans (hb3.mono HB2.out.size))
    clear hb3
    obtain ⟨N, hN⟩ : ∃ N, w2.heap.size = N := ⟨_, rfl⟩
    rw [hN] at HS3 ⊢
    clear hN
    generalize w2.alloc (.cells #[.string (l[k])] 9) = w3 at H3 HS3 HB3 ⊢
    refine hK.out _ _ H3.out (fun hHeld => ?_)
    clear hK K
    refine one_ (i := 4) (N := some 22) #[true, true, true, true, true, true, true, true, true, true, true, true, true, true, false] rfl rfl (by kernel_rfl) (by decide) (fun K hK => ?_)
    refine goes_ Tryd.func28 (by kernel_rfl) rfl #[.pointer (some ⟨p, 0, none⟩)] (by rfl) rfl rfl (by (try simp only [List.map_toArray, List.map_cons, List.map_nil]); first | done | rfl) ?_
    refine (len_calls H3.out).mono ?_
    rintro e wx ⟨rfl, rfl⟩
    refine ⟨_, rfl, ?_⟩
    refine hK.out _ _ H3.out (fun hHeld => ?_)
    have hc := HC0 N _ (Lib.hid ⟨H3.out, HS3.out, HB3.out⟩)
    simp only [putAll, Act.put, List.setIfInBounds_toArray, List.set_cons_zero, List.set_cons_succ, i64_w, i32_w] at hc ⊢
    exact hc
end Go.Proofs.YtiedmkgdhfkcoaaDoor.Net
namespace Go.Proofs.YtiedmkgdhfkcoaaDoor.Net
open Go.RowKit Go.Own Go.Blk Go.OpsL Go.XdrL Go.PktL Go.Proofs.YtiedmkgdhfkcoaaDoor.Pkt Go.Proofs.YtiedmkgdhfkcoaaDoorW.PrintLast Go.Proofs.YtiedmkgdhfkcoaaDoorW.PrintWords
set_option linter.unusedVariables false
set_option linter.unusedSimpArgs false
set_option maxRecDepth 100000
variable {w w' : World} {p : Nat} {v : Value} {l : List ByteArray}
set_option maxHeartbeats 4000000 in
theorem double_out (h : NAt w p v l) (i : Int) (hi : i < 0 ∨ (l.length : Int) ≤ i) : Calls Tryd.prog 24 #[.pointer (some ⟨p, 0, none⟩), .int .i64 i] w fun e w' => e = .returned (.int .i64 7) ∧ w' = w := by
  have H := Lib.hid h
  clear h
  by_cases h1 : i < 0
  · go_enter Tryd.func24, Tryd.ntmps24
    go_wp2_with (go_at_call 28; refine (len_calls H.out).mono ?_; rintro e w1 ⟨rfl, rfl⟩)
    try rw [Exit.noGoto_ret]
    go_ret
    exact ⟨rfl, rfl⟩
  · have h2 : (l.length : Int) ≤ i := by omega
    go_enter Tryd.func24, Tryd.ntmps24
    go_wp2_with (go_at_call 28; refine (len_calls H.out).mono ?_; rintro e w1 ⟨rfl, rfl⟩)
    try rw [Exit.noGoto_ret]
    go_ret
    exact ⟨rfl, rfl⟩
set_option maxHeartbeats 4000000 in
theorem double_full (h : NAt w p v l) (k : Nat) (hk : k < l.length) (hf : l.length = 200) : Calls Tryd.prog 24 #[.pointer (some ⟨p, 0, none⟩), .int .i64 (k : Int)] w fun e w' => e = .returned (.int .i64 6) ∧ w' = w := by
  have H := Lib.hid h
  have h1 : ¬ ((k : Int) < 0) := by omega
  have h2 : ¬ ((l.length : Int) ≤ (k : Int)) := by omega
  have h4 : ((l.length : Int) = 200) := by omega
  clear h
  go_enter Tryd.func24, Tryd.ntmps24
  go_wp2_with (go_at_call 28; refine (len_calls H.out).mono ?_; rintro e w1 ⟨rfl, rfl⟩)
  try rw [Exit.noGoto_ret]
  go_ret
  exact ⟨rfl, rfl⟩
set_option maxHeartbeats 16000000 in
theorem send_bad (h : NAt w p v l) (s : Pk) (hs : s.OK) (hr : right s = false) : Calls Tryd.prog 19 #[.pointer (some ⟨p, 0, none⟩), .agg #[.int .i64 s.kind, .int .i64 s.fr, .int .i64 s.to, .int .u32 (s.life : Int), .int .u32 (s.seq : Int), .int .u32 (s.asked : Int), .int .u32 (s.boot : Int), .int .i64 s.code, .int .i64 s.err, .int .u32 (s.file : Int), .int .u32 (s.epoch : Int), .int .u32 (s.off : Int), .int .u32 (s.len : Int), .int .u32 (s.size : Int), .int .u32 (s.mode : Int), .int .u32 (s.deny : Int), .int .u32 (s.handle : Int), .string s.path, .string s.other, .string s.data]] w fun e w' => e = .returned (.int .i64 1) ∧ Below w.heap.size w w' := by
  have hal : Below w.heap.size w (w.alloc (.cells #[.int .i64 s.kind, .int .i64 s.fr, .int .i64 s.to, .int .u32 (s.life : Int), .int .u32 (s.seq : Int), .int .u32 (s.asked : Int), .int .u32 (s.boot : Int), .int .i64 s.code, .int .i64 s.err, .int .u32 (s.file : Int), .int .u32 (s.epoch : Int), .int .u32 (s.off : Int), .int .u32 (s.len : Int), .int .u32 (s.size : Int), .int .u32 (s.mode : Int), .int .u32 (s.deny : Int), .int .u32 (s.handle : Int), .string s.path, .string s.other, .string s.data] 27)) := (Below.refl _ _).alloc (Nat.le_refl _) _
  have HAL := Lib.hid hal
  have HPA := Lib.hid (PAt.alloc w s)
  have HSO := Lib.hid hs
  have HN := Lib.hid h
  have HR := Lib.hid hr
  clear hr
  clear hs hal h
  go_enter Tryd.func19, Tryd.ntmps19
  go_wp2_with (first | ((with_reducible refine gate_dst (N := 8) rfl ?_); refine wpList_val rfl rfl (execOp_load rfl rfl HPA.out.load) ?_))
  refine (write_no s HSO.out HR.out _).mono ?_
  rintro e w2 ⟨rfl, hb⟩
  have HB2 := Lib.hid (HAL.out.trans (hb.mono HAL.out.size))
  clear hb
  have H := Lib.hid (HN.out.below HB2.out)
  go_wp2_with (go_at_call 28; refine (len_calls H.out).mono ?_; rintro e w1 ⟨rfl, rfl⟩)
  try rw [Exit.noGoto_ret]
  go_ret
  exact ⟨rfl, HB2.out⟩
set_option maxHeartbeats 16000000 in
theorem send_full (h : NAt w p v l) (s : Pk) (hs : s.OK) (hr : right s = true) (hf : l.length = 200) : Calls Tryd.prog 19 #[.pointer (some ⟨p, 0, none⟩), .agg #[.int .i64 s.kind, .int .i64 s.fr, .int .i64 s.to, .int .u32 (s.life : Int), .int .u32 (s.seq : Int), .int .u32 (s.asked : Int), .int .u32 (s.boot : Int), .int .i64 s.code, .int .i64 s.err, .int .u32 (s.file : Int), .int .u32 (s.epoch : Int), .int .u32 (s.off : Int), .int .u32 (s.len : Int), .int .u32 (s.size : Int), .int .u32 (s.mode : Int), .int .u32 (s.deny : Int), .int .u32 (s.handle : Int), .string s.path, .string s.other, .string s.data]] w fun e w' => e = .returned (.int .i64 6) ∧ Below w.heap.size w w' := by
  have hal : Below w.heap.size w (w.alloc (.cells #[.int .i64 s.kind, .int .i64 s.fr, .int .i64 s.to, .int .u32 (s.life : Int), .int .u32 (s.seq : Int), .int .u32 (s.asked : Int), .int .u32 (s.boot : Int), .int .i64 s.code, .int .i64 s.err, .int .u32 (s.file : Int), .int .u32 (s.epoch : Int), .int .u32 (s.off : Int), .int .u32 (s.len : Int), .int .u32 (s.size : Int), .int .u32 (s.mode : Int), .int .u32 (s.deny : Int), .int .u32 (s.handle : Int), .string s.path, .string s.other, .string s.data] 27)) := (Below.refl _ _).alloc (Nat.le_refl _) _
  have HAL := Lib.hid hal
  have HPA := Lib.hid (PAt.alloc w s)
  have HSO := Lib.hid hs
  have HN := Lib.hid h
  have HR := Lib.hid hr
  clear hr
  have h4 : ((l.length : Int) = 200) := by omega
  clear hs hal h
  go_enter Tryd.func19, Tryd.ntmps19
  go_wp2_with (first | ((with_reducible refine gate_dst (N := 8) rfl ?_); refine wpList_val rfl rfl (execOp_load rfl rfl HPA.out.load) ?_))
  refine (write_yes s HSO.out HR.out _).mono ?_
  rintro e w2 ⟨rfl, hb⟩
  have HB2 := Lib.hid (HAL.out.trans (hb.mono HAL.out.size))
  clear hb
  have H := Lib.hid (HN.out.below HB2.out)
  go_wp2_with (go_at_call 28; refine (len_calls H.out).mono ?_; rintro e w1 ⟨rfl, rfl⟩)
  try rw [Exit.noGoto_ret]
  go_ret
  exact ⟨rfl, HB2.out⟩
set_option maxHeartbeats 16000000 in
theorem send_nil_yes (s : Pk) (hs : s.OK) (hr : right s = true) : Calls Tryd.prog 19 #[.pointer none, .agg #[.int .i64 s.kind, .int .i64 s.fr, .int .i64 s.to, .int .u32 (s.life : Int), .int .u32 (s.seq : Int), .int .u32 (s.asked : Int), .int .u32 (s.boot : Int), .int .i64 s.code, .int .i64 s.err, .int .u32 (s.file : Int), .int .u32 (s.epoch : Int), .int .u32 (s.off : Int), .int .u32 (s.len : Int), .int .u32 (s.size : Int), .int .u32 (s.mode : Int), .int .u32 (s.deny : Int), .int .u32 (s.handle : Int), .string s.path, .string s.other, .string s.data]] w fun e w' => e = .returned (.int .i64 6) ∧ Below w.heap.size w w' := by
  have hal : Below w.heap.size w (w.alloc (.cells #[.int .i64 s.kind, .int .i64 s.fr, .int .i64 s.to, .int .u32 (s.life : Int), .int .u32 (s.seq : Int), .int .u32 (s.asked : Int), .int .u32 (s.boot : Int), .int .i64 s.code, .int .i64 s.err, .int .u32 (s.file : Int), .int .u32 (s.epoch : Int), .int .u32 (s.off : Int), .int .u32 (s.len : Int), .int .u32 (s.size : Int), .int .u32 (s.mode : Int), .int .u32 (s.deny : Int), .int .u32 (s.handle : Int), .string s.path, .string s.other, .string s.data] 27)) := (Below.refl _ _).alloc (Nat.le_refl _) _
  have HAL := Lib.hid hal
  have HPA := Lib.hid (PAt.alloc w s)
  have HSO := Lib.hid hs
  have HR := Lib.hid hr
  clear hr
  clear hs hal
  go_enter Tryd.func19, Tryd.ntmps19
  go_wp2_with (first | ((with_reducible refine gate_dst (N := 8) rfl ?_); refine wpList_val rfl rfl (execOp_load rfl rfl HPA.out.load) ?_))
  refine (write_yes s HSO.out HR.out _).mono ?_
  rintro e w2 ⟨rfl, hb⟩
  have HB2 := Lib.hid (HAL.out.trans (hb.mono HAL.out.size))
  clear hb
  go_wp2
  try rw [Exit.noGoto_ret]
  go_ret
  exact ⟨rfl, HB2.out⟩
set_option maxHeartbeats 16000000 in
theorem send_in (h : NAt w p v l) (s : Pk) (hs : s.OK) (hr : right s = true) (hf : l.length < 200) : Calls Tryd.prog 19 #[.pointer (some ⟨p, 0, none⟩), .agg #[.int .i64 s.kind, .int .i64 s.fr, .int .i64 s.to, .int .u32 (s.life : Int), .int .u32 (s.seq : Int), .int .u32 (s.asked : Int), .int .u32 (s.boot : Int), .int .i64 s.code, .int .i64 s.err, .int .u32 (s.file : Int), .int .u32 (s.epoch : Int), .int .u32 (s.off : Int), .int .u32 (s.len : Int), .int .u32 (s.size : Int), .int .u32 (s.mode : Int), .int .u32 (s.deny : Int), .int .u32 (s.handle : Int), .string s.path, .string s.other, .string s.data]] w fun e w' => e = .returned (.int .i64 0) ∧
    ∃ v', NAt w' p v' (l ++ [s.bytes]) ∧ Fr (foot p v) w w' ∧ (∀ j, v'.ownBlock = some j → v.ownBlock = some j ∨ w.heap.size ≤ j) := by
  have hal : Below w.heap.size w (w.alloc (.cells #[.int .i64 s.kind, .int .i64 s.fr, .int .i64 s.to, .int .u32 (s.life : Int), .int .u32 (s.seq : Int), .int .u32 (s.asked : Int), .int .u32 (s.boot : Int), .int .i64 s.code, .int .i64 s.err, .int .u32 (s.file : Int), .int .u32 (s.epoch : Int), .int .u32 (s.off : Int), .int .u32 (s.len : Int), .int .u32 (s.size : Int), .int .u32 (s.mode : Int), .int .u32 (s.deny : Int), .int .u32 (s.handle : Int), .string s.path, .string s.other, .string s.data] 27)) := (Below.refl _ _).alloc (Nat.le_refl _) _
  have HAL := Lib.hid hal
  have HPA := Lib.hid (PAt.alloc w s)
  have HSO := Lib.hid hs
  have HN := Lib.hid h
  have HR := Lib.hid hr
  clear hr
  have HFEW := Lib.hid hf
  have h4 : ¬ ((l.length : Int) = 200) := by omega
  have h5 : ¬ (l.length = 200) := by omega
  clear hs hal h
  go_enter Tryd.func19, Tryd.ntmps19
  go_wp2_with (first | ((with_reducible refine gate_dst (N := 8) rfl ?_); refine wpList_val rfl rfl (execOp_load rfl rfl HPA.out.load) ?_))
  refine (write_yes s HSO.out HR.out _).mono ?_
  rintro e w2 ⟨rfl, hb⟩
  have HB2 := Lib.hid (HAL.out.trans (hb.mono HAL.out.size))
  clear hb
  have H := Lib.hid (HN.out.below HB2.out)
  go_wp2_with (go_at_call 28; refine (len_calls H.out).mono ?_; rintro e w1 ⟨rfl, rfl⟩)
  have H1 := H
  have HB1 := HB2
  clear H HB2 HPA HAL HN
  refine start_ (n := 8) (S := fun w' => NAt w' p v l) (ds := [7]) #[false, false, false, false, false, false, false, false] (by kernel_rfl) rfl rfl (H1.out.below (Below.refl _ _).drew) (fun hHeld => ?_)
  have H2 := Lib.hid (show NAt w1.drew p v l from H1.out.below (Below.refl _ _).drew)
  have HB2 := Lib.hid ((Below.refl w1.heap.size w1).drew)
  generalize w1.drew = w2 at H2 HB2 hHeld ⊢
  refine pure_ (i := 0) (N := some 23) (v := ?_) (a' := ?_) #[true, false, false, false, false, false, false, false] rfl rfl (by kernel_rfl) (fun _ _ _ h => h) (Or.inl ⟨by rfl, ?_⟩) ?_ ?_
  rotate_left
  · intro w'
    go_simp
    with_reducible rfl
  rotate_left
  · simp only [Act.put, List.setIfInBounds_toArray, List.set_cons_zero, List.set_cons_succ, i64_w, i32_w]
    rfl
  refine pure_ (i := 1) (N := some 24) (v := ?_) (a' := ?_) #[true, true, false, false, false, false, false, false] rfl rfl (by kernel_rfl) (fun _ _ _ h => h) (Or.inl ⟨by rfl, ?_⟩) ?_ ?_
  rotate_left
  · intro w'
    go_simp
    with_reducible rfl
  rotate_left
  · simp only [Act.put, List.setIfInBounds_toArray, List.set_cons_zero, List.set_cons_succ, i64_w, i32_w]
    rfl
  refine pure_ (i := 2) (N := some 25) (v := ?_) (a' := ?_) #[true, true, true, false, false, false, false, false] rfl rfl (by kernel_rfl) (fun _ _ _ h => h) (Or.inl ⟨by rfl, ?_⟩) ?_ ?_
  rotate_left
  · intro w'
    go_simp
    with_reducible rfl
  rotate_left
  · simp only [Act.put, List.setIfInBounds_toArray, List.set_cons_zero, List.set_cons_succ, i64_w, i32_w]
    rfl
  refine pure_ (i := 3) (N := some 26) (v := ?_) (a' := ?_) #[true, true, true, true, false, false, false, false] rfl rfl (by kernel_rfl) (fun _ _ _ h => h) (Or.inl ⟨by rfl, ?_⟩) ?_ ?_
  rotate_left
  · intro w'
    go_simp
    with_reducible rfl
  rotate_left
  · simp only [Act.put, List.setIfInBounds_toArray, List.set_cons_zero, List.set_cons_succ, i64_w, i32_w]
    rfl
  refine pure_ (i := 5) (N := some 28) (v := ?_) (a' := ?_) #[true, true, true, true, false, true, false, false] rfl rfl (by kernel_rfl) (fun _ _ _ h => h) (Or.inl ⟨by rfl, ?_⟩) ?_ ?_
  rotate_left
  · intro w'
    go_simp
    with_reducible rfl
  rotate_left
  · simp only [Act.put, List.setIfInBounds_toArray, List.set_cons_zero, List.set_cons_succ, i64_w, i32_w]
    rfl
  refine join_ (σ := Nat) 1 #[true, true, true, true, true, true, true, false] (fun N => [(27, .int .i64 l.length), (29, .slice (some ⟨N, 0, none⟩) 1 1)]) (fun N w' => Hid (NAt w' p v l ∧ Shows w' (some ⟨N, 0, none⟩) (scells [s.bytes]) ∧ Below w1.heap.size w1 w')) ?_ (fun HC0 => ?_)
  · intro N w5 H5
    simp only [putAll]
    refine norm_ (a' := ?_) ?_ ?_
    rotate_left
    · show Act.put _ (some 29) _ = _
      simp only [Act.put, List.setIfInBounds_toArray, List.set_cons_zero, List.set_cons_succ, i64_w, i32_w]
      rfl
    have HSP := Lib.hid (splice_calls H5.out.1 l.length 0 (by omega) _ 1 [s.bytes] H5.out.2.1 (by have := HFEW.out; simp; omega))
    refine last_ (i := 7) (N := some 30) #[true, true, true, true, true, true, true, true] rfl rfl (by kernel_rfl) (by decide) (fun K hK => ?_)
    refine goes_ Tryd.func46 (by kernel_rfl) rfl #[.pointer (some ⟨p, 0, none⟩), .int .i64 l.length, .int .i64 0, .slice (some ⟨N, 0, none⟩) 1 1] (by rfl) rfl rfl (by (try simp only [List.map_toArray, List.map_cons, List.map_nil]); first | done | rfl) ?_
    refine (HSP.out).mono ?_
    rintro e w6 ⟨rfl, h6⟩
    refine ⟨_, rfl, ?_⟩
    have H6 := Lib.hid h6
    clear h6
    refine hK.out _ _ ?_
    clear hK K
    refine norm_ (a' := ?_) ?_ ?_
    rotate_left
    · show Act.put _ (some 30) _ = _
      simp only [Act.put, List.setIfInBounds_toArray, List.set_cons_zero, List.set_cons_succ, i64_w, i32_w]
      rfl
    refine done_ (by kernel_rfl) ?_
    go_wp2
    try rw [Exit.noGoto_ret]
    go_ret
    obtain ⟨v6, hn6, hF6, hO6⟩ := H6.out
    refine ⟨rfl, v6, (congrArg (NAt _ p v6) (by simp)).mp hn6, (Fr.of_below (F := foot p v) (HB1.out.trans (H5.out.2.2.mono HB1.out.size))).trans hF6 (fun _ _ h => h), fun j hj => ?_⟩
    rcases hO6 j hj with h | h
    · exact .inl h
    · have := H5.out.2.2.size; have := HB1.out.size; exact .inr (by omega)
  refine two_ (i := 4) (j := 6) (Ni := some 27) (Nj := some 29) #[true, true, true, true, true, true, false, false] #[true, true, true, true, false, true, true, false] rfl rfl rfl rfl (by kernel_rfl) (by decide) (by decide) (fun K hK => ?_) (fun K hK => ?_)
  · refine goes_ Tryd.func28 (by kernel_rfl) rfl #[.pointer (some ⟨p, 0, none⟩)] (by rfl) rfl rfl (by (try simp only [List.map_toArray, List.map_cons, List.map_nil]); first | done | rfl) ?_
    refine (len_calls H2.out).mono ?_
    rintro e wx ⟨rfl, rfl⟩
    refine ⟨_, rfl, ?_⟩
    refine hK.out _ _ H2.out (fun hHeld => ?_)
    clear hK K
    refine one_ (i := 6) (N := some 29) #[true, true, true, true, true, true, true, false] rfl rfl (by kernel_rfl) (by decide) (fun K hK => ?_)
    refine value_ (by rfl) rfl (execOp_buildSlice (ps := #[(0, .string (s.bytes))]) rfl rfl (run_one _ (s.bytes))) ?_
    have hb3 : Below wx.heap.size wx (wx.alloc (.cells #[.string (s.bytes)] 9)) := (Below.refl wx.heap.size wx).alloc (Nat.le_refl _) _
    have H3 := Lib.hid (H2.out.below hb3)
    have HS3 := Lib.hid (shows_one wx (s.bytes) 9)
    have HB3 := Lib.hid (HB2.out.trans (hb3.mono HB2.out.size))
    clear hb3
    obtain ⟨N, hN⟩ : ∃ N, wx.heap.size = N := ⟨_, rfl⟩
    rw [hN] at HS3 ⊢
    clear hN
    generalize wx.alloc (.cells #[.string (s.bytes)] 9) = w3 at H3 HS3 HB3 ⊢
    refine hK.out _ _ H3.out (fun hHeld => ?_)
    have hc := HC0 N _ (Lib.hid ⟨H3.out, HS3.out, HB3.out⟩)
    simp only [putAll, Act.put, List.setIfInBounds_toArray, List.set_cons_zero, List.set_cons_succ, i64_w, i32_w] at hc ⊢
    exact hc
  · refine value_ (by rfl) rfl (execOp_buildSlice (ps := #[(0, .string (s.bytes))]) rfl rfl (run_one _ (s.bytes))) ?_
    have hb3 : Below w2.heap.size w2 (w2.alloc (.cells #[.string (s.bytes)] 9)) := (Below.refl w2.heap.size w2).alloc (Nat.le_refl _) _
    have H3 := Lib.hid (H2.out.below hb3)
    have HS3 := Lib.hid (shows_one w2 (s.bytes) 9)
    have HB3 := Lib.hid (HB2.out.trans (hb3.mono HB2.out.size))
    clear hb3
    obtain ⟨N, hN⟩ : ∃ N, w2.heap.size = N := ⟨_, rfl⟩
    rw [hN] at HS3 ⊢
    clear hN
    generalize w2.alloc (.cells #[.string (s.bytes)] 9) = w3 at H3 HS3 HB3 ⊢
    refine hK.out _ _ H3.out (fun hHeld => ?_)
    clear hK K
    refine one_ (i := 4) (N := some 27) #[true, true, true, true, true, true, true, false] rfl rfl (by kernel_rfl) (by decide) (fun K hK => ?_)
    refine goes_ Tryd.func28 (by kernel_rfl) rfl #[.pointer (some ⟨p, 0, none⟩)] (by rfl) rfl rfl (by (try simp only [List.map_toArray, List.map_cons, List.map_nil]); first | done | rfl) ?_
    refine (len_calls H3.out).mono ?_
    rintro e wx ⟨rfl, rfl⟩
    refine ⟨_, rfl, ?_⟩
    refine hK.out _ _ H3.out (fun hHeld => ?_)
    have hc := HC0 N _ (Lib.hid ⟨H3.out, HS3.out, HB3.out⟩)
    simp only [putAll, Act.put, List.setIfInBounds_toArray, List.set_cons_zero, List.set_cons_succ, i64_w, i32_w] at hc ⊢
    exact hc
end Go.Proofs.YtiedmkgdhfkcoaaDoor.Net
