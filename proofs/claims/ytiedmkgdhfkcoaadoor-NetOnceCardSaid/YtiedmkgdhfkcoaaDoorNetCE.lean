/- Layer net: Drop, Move. Layer net: Move. Layer net: Move refused. -/
import Derived.Test.YtiedmkgdhfkcoaaDoorNetB
namespace Go.Proofs.YtiedmkgdhfkcoaaDoor.Net
open Go.RowKit Go.Own Go.Blk Go.OpsL Go.XdrL Go.Proofs.YtiedmkgdhfkcoaaDoorW.PrintLast Go.Proofs.YtiedmkgdhfkcoaaDoorW.PrintWords
set_option linter.unusedVariables false
set_option linter.unusedSimpArgs false
set_option maxRecDepth 100000
variable {w w' : World} {p : Nat} {v : Value} {l : List ByteArray}
set_option maxHeartbeats 4000000 in
theorem drop_in (h : NAt w p v l) (k : Nat) (hk : k < l.length) : Calls Tryd.prog 23 #[.pointer (some ⟨p, 0, none⟩), .int .i64 (k : Int)] w fun e w' => e = .returned (.int .i64 0) ∧
    ∃ v', NAt w' p v' (l.take k ++ l.drop (k + 1)) ∧ Fr (foot p v) w w' ∧ (∀ j, v'.ownBlock = some j → v.ownBlock = some j ∨ w.heap.size ≤ j) := by
  have H := Lib.hid h
  have hf := h.few
  have HSP := Lib.hid (splice_calls h k 1 (by omega) none 0 [] (.inl ⟨rfl, rfl⟩) (by simp; omega))
  clear h hf
  have h1 : ¬ ((k : Int) < 0) := by omega
  have h2 : ¬ ((l.length : Int) ≤ (k : Int)) := by omega
  go_enter Tryd.func23, Tryd.ntmps23
  go_wp2_with (first | (go_at_call 28; refine (len_calls H.out).mono ?_; rintro e w1 ⟨rfl, rfl⟩) | (go_at_call 46; refine HSP.out.mono ?_; rintro e w2 ⟨rfl, h3⟩; have H3 := Lib.hid h3; clear h3))
  try rw [Exit.noGoto_ret]
  go_ret
  refine ⟨rfl, ?_⟩
  have := H3.out
  simpa using this
set_option maxHeartbeats 4000000 in
theorem drop_out (h : NAt w p v l) (i : Int) (hi : i < 0 ∨ (l.length : Int) ≤ i) : Calls Tryd.prog 23 #[.pointer (some ⟨p, 0, none⟩), .int .i64 i] w fun e w' => e = .returned (.int .i64 7) ∧ w' = w := by
  have H := Lib.hid h
  clear h
  by_cases h1 : i < 0
  · go_enter Tryd.func23, Tryd.ntmps23
    go_wp2_with (go_at_call 28; refine (len_calls H.out).mono ?_; rintro e w1 ⟨rfl, rfl⟩)
    try rw [Exit.noGoto_ret]
    go_ret
    exact ⟨rfl, rfl⟩
  · have h2 : (l.length : Int) ≤ i := by omega
    go_enter Tryd.func23, Tryd.ntmps23
    go_wp2_with (go_at_call 28; refine (len_calls H.out).mono ?_; rintro e w1 ⟨rfl, rfl⟩)
    try rw [Exit.noGoto_ret]
    go_ret
    exact ⟨rfl, rfl⟩
end Go.Proofs.YtiedmkgdhfkcoaaDoor.Net
namespace Go.Proofs.YtiedmkgdhfkcoaaDoor.Net
open Go.RowKit Go.Own Go.Blk Go.OpsL Go.XdrL Go.Proofs.YtiedmkgdhfkcoaaDoorW.PrintLast Go.Proofs.YtiedmkgdhfkcoaaDoorW.PrintWords
set_option linter.unusedVariables false
set_option linter.unusedSimpArgs false
set_option maxRecDepth 100000
variable {w w' : World} {p : Nat} {v : Value} {l : List ByteArray}
theorem run_one (w : World) (b : ByteArray) : (Instr.buildSlice 42 1 #[(0, .string b)]).run Tryd.prog w = .ok (.slice (some ⟨w.heap.size, 0, none⟩) 1 1) (w.alloc (.cells #[.string b] 9)) := by kernel_rfl
theorem shows_one (w : World) (b : ByteArray) (t : TypeId) : Shows (w.alloc (.cells #[.string b] t)) (some ⟨w.heap.size, 0, none⟩) (scells [b]) := .inr ⟨_, rfl, cell_one_new w _ t⟩
def moved (l : List ByteArray) (i tt : Nat) (b : ByteArray) : List ByteArray := (l.take i ++ l.drop (i + 1)).take tt ++ [b] ++ (l.take i ++ l.drop (i + 1)).drop tt
set_option maxHeartbeats 4000000 in
theorem move_in (h : NAt w p v l) (i tt : Nat) (hi : i < l.length) (ht : tt < l.length) : Calls Tryd.prog 26 #[.pointer (some ⟨p, 0, none⟩), .int .i64 (i : Int), .int .i64 (tt : Int)] w fun e w' => e = .returned (.int .i64 0) ∧
    ∃ v', NAt w' p v' (moved l i tt l[i]) ∧ Fr (foot p v) w w' ∧ (∀ j, v'.ownBlock = some j → v.ownBlock = some j ∨ w.heap.size ≤ j) := by
  have H := Lib.hid h
  have hf := h.few
  have HSP := Lib.hid (splice_calls h i 1 (by omega) none 0 [] (.inl ⟨rfl, rfl⟩) (by simp; omega))
  obtain ⟨g, c, rfl, hc⟩ := h.cell i hi
  obtain ⟨x0, y0⟩ := blk1 h.blk
  have HI := Lib.hid hi
  have HT := Lib.hid ht
  have HFEW := Lib.hid hf
  clear h hf
  have h1 : ¬ ((i : Int) < 0) := by omega
  have h2 : ¬ ((l.length : Int) ≤ (i : Int)) := by omega
  have h3 : ((i : Int) < (l.length : Int)) := by omega
  have h4 : ¬ ((tt : Int) < 0) := by omega
  have h5 : ¬ ((l.length : Int) ≤ (tt : Int)) := by omega
  go_enter Tryd.func26, Tryd.ntmps26
  go_wp2_with (first | (go_at_call 28; refine (len_calls H.out).mono ?_; rintro e w1 ⟨rfl, rfl⟩) | ((with_reducible refine gate_dst (N := 38) rfl ?_); refine stop_here ?_))
  refine Lib.hid ?_
  clear x0 y0 hc
  go_wp2_with (first | (go_at_call 46; refine HSP.out.mono ?_; rintro e w2 ⟨rfl, h6⟩; have H6 := Lib.hid h6; clear h6) | ((with_reducible refine gate_dst (N := 44) rfl ?_); refine stop_here ?_))
  refine Lib.hid ?_
  refine wpList_val rfl rfl (execOp_buildSlice (ps := #[(0, .string l[i])]) rfl rfl (run_one _ _)) ?_
  obtain ⟨v2, hn2, hF2, hO2⟩ := H6.out
  have hb3 : Below w2.heap.size w2 (w2.alloc (.cells #[.string l[i]] 9)) := (Below.refl w2.heap.size w2).alloc (Nat.le_refl _) _
  have hn3 := hn2.below hb3
  have hs3 := shows_one w2 l[i] 9
  have HSP2 := Lib.hid (splice_calls hn3 tt 0 (by have := HT.out; simp; omega) _ 1 [l[i]] hs3 (by have := HT.out; have := HFEW.out; simp; omega))
  have HB3 := Lib.hid hb3
  have HF2 := Lib.hid hF2
  have HO2 := Lib.hid hO2
  clear hn2 hF2 hO2 hb3 hn3 hs3 HSP
  go_wp2_with (go_at_call 46; refine HSP2.out.mono ?_; rintro e w4 ⟨rfl, h7⟩; have H7 := Lib.hid h7; clear h7)
  try rw [Exit.noGoto_ret]
  go_ret
  obtain ⟨v4, hn4, hF4, hO4⟩ := H7.out
  refine ⟨rfl, v4, (congrArg (NAt w4 p v4) (by simp [moved]; rfl)).mp hn4, ?_, fun j hj => ?_⟩
  · refine (HF2.out.trans (Fr.of_below (F := fun _ => False) HB3.out) (fun _ _ h => h.elim)).trans hF4 (fun k hk hj => ?_)
    rcases hj with hj | hj
    · exact .inl hj
    · rcases HO2.out k hj with h | h
      · exact .inr h
      · omega
  · rcases hO4 j hj with h | h
    · exact HO2.out j h
    · have := HF2.out.size; have := HB3.out.size; exact .inr (by omega)
end Go.Proofs.YtiedmkgdhfkcoaaDoor.Net
namespace Go.Proofs.YtiedmkgdhfkcoaaDoor.Net
open Go.RowKit Go.Own Go.Blk Go.OpsL Go.XdrL Go.Proofs.YtiedmkgdhfkcoaaDoorW.PrintLast Go.Proofs.YtiedmkgdhfkcoaaDoorW.PrintWords
set_option linter.unusedVariables false
set_option linter.unusedSimpArgs false
set_option maxRecDepth 100000
variable {w w' : World} {p : Nat} {v : Value} {l : List ByteArray}
set_option maxHeartbeats 4000000 in
theorem move_out (h : NAt w p v l) (i tt : Int) (hi : i < 0 ∨ (l.length : Int) ≤ i) : Calls Tryd.prog 26 #[.pointer (some ⟨p, 0, none⟩), .int .i64 i, .int .i64 tt] w fun e w' => e = .returned (.int .i64 7) ∧ w' = w := by
  have H := Lib.hid h
  clear h
  by_cases h1 : i < 0
  · go_enter Tryd.func26, Tryd.ntmps26
    go_wp2_with (go_at_call 28; refine (len_calls H.out).mono ?_; rintro e w1 ⟨rfl, rfl⟩)
    try rw [Exit.noGoto_ret]
    go_ret
    exact ⟨rfl, rfl⟩
  · have h2 : (l.length : Int) ≤ i := by omega
    go_enter Tryd.func26, Tryd.ntmps26
    go_wp2_with (go_at_call 28; refine (len_calls H.out).mono ?_; rintro e w1 ⟨rfl, rfl⟩)
    try rw [Exit.noGoto_ret]
    go_ret
    exact ⟨rfl, rfl⟩
set_option maxHeartbeats 4000000 in
theorem move_bad (h : NAt w p v l) (i : Nat) (hi : i < l.length) (tt : Int) (ht : tt < 0 ∨ (l.length : Int) ≤ tt) : Calls Tryd.prog 26 #[.pointer (some ⟨p, 0, none⟩), .int .i64 (i : Int), .int .i64 tt] w fun e w' => e = .returned (.int .i64 1) ∧ w' = w := by
  have H := Lib.hid h
  clear h
  have h3 : ¬ ((i : Int) < 0) := by omega
  have h4 : ¬ ((l.length : Int) ≤ (i : Int)) := by omega
  by_cases h1 : tt < 0
  · go_enter Tryd.func26, Tryd.ntmps26
    go_wp2_with (go_at_call 28; refine (len_calls H.out).mono ?_; rintro e w1 ⟨rfl, rfl⟩)
    try rw [Exit.noGoto_ret]
    go_ret
    exact ⟨rfl, rfl⟩
  · have h2 : (l.length : Int) ≤ tt := by omega
    go_enter Tryd.func26, Tryd.ntmps26
    go_wp2_with (go_at_call 28; refine (len_calls H.out).mono ?_; rintro e w1 ⟨rfl, rfl⟩)
    try rw [Exit.noGoto_ret]
    go_ret
    exact ⟨rfl, rfl⟩
end Go.Proofs.YtiedmkgdhfkcoaaDoor.Net
