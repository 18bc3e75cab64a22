/- Layer proto: the walk of ProtoApart. -/
import Derived.Test.YtiedmkgdhfkcoaaDoorPktAlive
namespace Go.Proofs.YtiedmkgdhfkcoaaDoor.Pkt
open Go.RowKit Go.Own Go.Blk Go.OpsL Go.XdrL Go.PktL Go.Sees Go.Proofs.YtiedmkgdhfkcoaaDoorW.PrintLast Go.Proofs.YtiedmkgdhfkcoaaDoorW.PrintWords
set_option linter.unusedVariables false
set_option linter.unusedSimpArgs false
set_option maxRecDepth 100000
set_option maxHeartbeats 16000000 in
theorem apart_pk (p q : Pk) (h : p.OK) (h' : q.OK) (w : World) : Calls Tryd.prog 6 #[.agg #[.int .i64 p.kind, .int .i64 p.fr, .int .i64 p.to, .int .u32 (p.life : Int), .int .u32 (p.seq : Int), .int .u32 (p.asked : Int), .int .u32 (p.boot : Int), .int .i64 p.code, .int .i64 p.err, .int .u32 (p.file : Int), .int .u32 (p.epoch : Int), .int .u32 (p.off : Int), .int .u32 (p.len : Int), .int .u32 (p.size : Int), .int .u32 (p.mode : Int), .int .u32 (p.deny : Int), .int .u32 (p.handle : Int), .string p.path, .string p.other, .string p.data], .agg #[.int .i64 q.kind, .int .i64 q.fr, .int .i64 q.to, .int .u32 (q.life : Int), .int .u32 (q.seq : Int), .int .u32 (q.asked : Int), .int .u32 (q.boot : Int), .int .i64 q.code, .int .i64 q.err, .int .u32 (q.file : Int), .int .u32 (q.epoch : Int), .int .u32 (q.off : Int), .int .u32 (q.len : Int), .int .u32 (q.size : Int), .int .u32 (q.mode : Int), .int .u32 (q.deny : Int), .int .u32 (q.handle : Int), .string q.path, .string q.other, .string q.data]] w fun e w' => e = .returned (.bool true) ∧ Below w.heap.size w w' := by
  have HO := Lib.hid h
  have HO' := Lib.hid h'
  have hal : Below w.heap.size w ((w.alloc (.cells #[.int .i64 p.kind, .int .i64 p.fr, .int .i64 p.to, .int .u32 (p.life : Int), .int .u32 (p.seq : Int), .int .u32 (p.asked : Int), .int .u32 (p.boot : Int), .int .i64 p.code, .int .i64 p.err, .int .u32 (p.file : Int), .int .u32 (p.epoch : Int), .int .u32 (p.off : Int), .int .u32 (p.len : Int), .int .u32 (p.size : Int), .int .u32 (p.mode : Int), .int .u32 (p.deny : Int), .int .u32 (p.handle : Int), .string p.path, .string p.other, .string p.data] 27)).alloc (.cells #[.int .i64 q.kind, .int .i64 q.fr, .int .i64 q.to, .int .u32 (q.life : Int), .int .u32 (q.seq : Int), .int .u32 (q.asked : Int), .int .u32 (q.boot : Int), .int .i64 q.code, .int .i64 q.err, .int .u32 (q.file : Int), .int .u32 (q.epoch : Int), .int .u32 (q.off : Int), .int .u32 (q.len : Int), .int .u32 (q.size : Int), .int .u32 (q.mode : Int), .int .u32 (q.deny : Int), .int .u32 (q.handle : Int), .string q.path, .string q.other, .string q.data] 27)) := ((Below.refl _ _).alloc (Nat.le_refl _) _).alloc (by simp) _
  have HAL := Lib.hid hal
  have hp := (PAt.alloc w p).below ((Below.refl (w.alloc (.cells #[.int .i64 p.kind, .int .i64 p.fr, .int .i64 p.to, .int .u32 (p.life : Int), .int .u32 (p.seq : Int), .int .u32 (p.asked : Int), .int .u32 (p.boot : Int), .int .i64 p.code, .int .i64 p.err, .int .u32 (p.file : Int), .int .u32 (p.epoch : Int), .int .u32 (p.off : Int), .int .u32 (p.len : Int), .int .u32 (p.size : Int), .int .u32 (p.mode : Int), .int .u32 (p.deny : Int), .int .u32 (p.handle : Int), .string p.path, .string p.other, .string p.data] 27)).heap.size (w.alloc (.cells #[.int .i64 p.kind, .int .i64 p.fr, .int .i64 p.to, .int .u32 (p.life : Int), .int .u32 (p.seq : Int), .int .u32 (p.asked : Int), .int .u32 (p.boot : Int), .int .i64 p.code, .int .i64 p.err, .int .u32 (p.file : Int), .int .u32 (p.epoch : Int), .int .u32 (p.off : Int), .int .u32 (p.len : Int), .int .u32 (p.size : Int), .int .u32 (p.mode : Int), .int .u32 (p.deny : Int), .int .u32 (p.handle : Int), .string p.path, .string p.other, .string p.data] 27))).alloc (Nat.le_refl _) (.cells #[.int .i64 q.kind, .int .i64 q.fr, .int .i64 q.to, .int .u32 (q.life : Int), .int .u32 (q.seq : Int), .int .u32 (q.asked : Int), .int .u32 (q.boot : Int), .int .i64 q.code, .int .i64 q.err, .int .u32 (q.file : Int), .int .u32 (q.epoch : Int), .int .u32 (q.off : Int), .int .u32 (q.len : Int), .int .u32 (q.size : Int), .int .u32 (q.mode : Int), .int .u32 (q.deny : Int), .int .u32 (q.handle : Int), .string q.path, .string q.other, .string q.data] 27))
  have hq := PAt.alloc (w.alloc (.cells #[.int .i64 p.kind, .int .i64 p.fr, .int .i64 p.to, .int .u32 (p.life : Int), .int .u32 (p.seq : Int), .int .u32 (p.asked : Int), .int .u32 (p.boot : Int), .int .i64 p.code, .int .i64 p.err, .int .u32 (p.file : Int), .int .u32 (p.epoch : Int), .int .u32 (p.off : Int), .int .u32 (p.len : Int), .int .u32 (p.size : Int), .int .u32 (p.mode : Int), .int .u32 (p.deny : Int), .int .u32 (p.handle : Int), .string p.path, .string p.other, .string p.data] 27)) q
  rw [show (w.alloc (.cells #[.int .i64 p.kind, .int .i64 p.fr, .int .i64 p.to, .int .u32 (p.life : Int), .int .u32 (p.seq : Int), .int .u32 (p.asked : Int), .int .u32 (p.boot : Int), .int .i64 p.code, .int .i64 p.err, .int .u32 (p.file : Int), .int .u32 (p.epoch : Int), .int .u32 (p.off : Int), .int .u32 (p.len : Int), .int .u32 (p.size : Int), .int .u32 (p.mode : Int), .int .u32 (p.deny : Int), .int .u32 (p.handle : Int), .string p.path, .string p.other, .string p.data] 27)).heap.size = w.heap.size + 1 by simp] at hq
  have HPA := Lib.hid hp
  have HQA := Lib.hid hq
  have hs1 := h.path
  have hs2 := h.other
  have hs3 := h.data
  have ht1 := h'.path
  have ht2 := h'.other
  have ht3 := h'.data
  clear h h' hal hp hq
  by_cases hg : (1000 < p.path.size ∨ 1000 < p.other.size ∨ 1000 < p.data.size) ∨ (1000 < q.path.size ∨ 1000 < q.other.size ∨ 1000 < q.data.size)
  · have hcase : (1000 < p.path.size) ∨ (¬ 1000 < p.path.size ∧ 1000 < p.other.size) ∨ (¬ 1000 < p.path.size ∧ ¬ 1000 < p.other.size ∧ 1000 < p.data.size) ∨ (¬ 1000 < p.path.size ∧ ¬ 1000 < p.other.size ∧ ¬ 1000 < p.data.size ∧ 1000 < q.path.size) ∨ (¬ 1000 < p.path.size ∧ ¬ 1000 < p.other.size ∧ ¬ 1000 < p.data.size ∧ ¬ 1000 < q.path.size ∧ 1000 < q.other.size) ∨ (¬ 1000 < p.path.size ∧ ¬ 1000 < p.other.size ∧ ¬ 1000 < p.data.size ∧ ¬ 1000 < q.path.size ∧ ¬ 1000 < q.other.size ∧ 1000 < q.data.size) := by omega
    clear hg
    rcases hcase with hg | ⟨hg, hg2⟩ | ⟨hg, hg2, hg3⟩ | ⟨hg, hg2, hg3, hg4⟩ | ⟨hg, hg2, hg3, hg4, hg5⟩ | ⟨hg, hg2, hg3, hg4, hg5, hg6⟩
    all_goals
      go_enter Tryd.func6, Tryd.ntmps6
      go_wp2_with fail
      refine (alive_calls _).mono ?_
      rintro e w2 ⟨rfl, hb⟩
      have HB2 := Lib.hid (HAL.out.trans (hb.mono HAL.out.size))
      have HP2 := Lib.hid (HPA.out.below hb)
      have HQ2 := Lib.hid (HQA.out.below hb)
      clear hb
      obtain ⟨_, _, _, _, _, _, _, _, _, _, _, _, _, _, _, _, _, x17, x18, x19⟩ := HP2.out.cells
      obtain ⟨_, _, _, _, _, _, _, _, _, _, _, _, _, _, _, _, _, y17, y18, y19⟩ := HQ2.out.cells
      go_wp2_with fail
      refine (alive_calls _).mono ?_
      rintro e w3 ⟨rfl, hb⟩
      have HB3 := Lib.hid (HB2.out.trans (hb.mono HB2.out.size))
      clear hb x17 x18 x19 y17 y18 y19
      go_wp2
      go_ret
      exact ⟨rfl, HB3.out⟩
  obtain ⟨hg1, hg2, hg3, hg4, hg5, hg6⟩ : ¬ 1000 < p.path.size ∧ ¬ 1000 < p.other.size ∧ ¬ 1000 < p.data.size ∧ ¬ 1000 < q.path.size ∧ ¬ 1000 < q.other.size ∧ ¬ 1000 < q.data.size := by omega
  clear hg
  cases hr : right p <;> cases hr' : right q
  all_goals
    have HR := Lib.hid hr
    have HR' := Lib.hid hr'
    clear hr hr'
    go_enter Tryd.func6, Tryd.ntmps6
    go_wp2_with fail
    refine (alive_calls _).mono ?_
    rintro e w2 ⟨rfl, hb⟩
    have HB2 := Lib.hid (HAL.out.trans (hb.mono HAL.out.size))
    have HP2 := Lib.hid (HPA.out.below hb)
    have HQ2 := Lib.hid (HQA.out.below hb)
    clear hb
    obtain ⟨_, _, _, _, _, _, _, _, _, _, _, _, _, _, _, _, _, x17, x18, x19⟩ := HP2.out.cells
    obtain ⟨_, _, _, _, _, _, _, _, _, _, _, _, _, _, _, _, _, y17, y18, y19⟩ := HQ2.out.cells
    go_wp2_with (first | ((with_reducible refine gate_dst (N := 53) rfl ?_); refine wpList_val rfl rfl (execOp_load rfl rfl HP2.out.load) ?_))
    clear x17 x18 x19 y17 y18 y19
    first | refine (write_no p HO.out HR.out _).mono ?_ | refine (write_yes p HO.out HR.out _).mono ?_
    rintro e w3 ⟨rfl, hb⟩
    have HB3 := Lib.hid (HB2.out.trans (hb.mono HB2.out.size))
    have HP3 := Lib.hid (HP2.out.below hb)
    have HQ3 := Lib.hid (HQ2.out.below hb)
    clear hb HB2 HP2 HQ2
    go_wp2_with (first | ((with_reducible refine gate_dst (N := 58) rfl ?_); refine wpList_val rfl rfl (execOp_load rfl rfl HQ3.out.load) ?_))
    first | refine (write_no q HO'.out HR'.out _).mono ?_ | refine (write_yes q HO'.out HR'.out _).mono ?_
    rintro e w4 ⟨rfl, hb⟩
    have HB4 := Lib.hid (HB3.out.trans (hb.mono HB3.out.size))
    have HP4 := Lib.hid (HP3.out.below hb)
    have HQ4 := Lib.hid (HQ3.out.below hb)
    clear hb HB3 HP3 HQ3
    go_wp2_with fail
    refine (alive_calls _).mono ?_
    rintro e w5 ⟨rfl, hb⟩
    have HB5 := Lib.hid (HB4.out.trans (hb.mono HB4.out.size))
    have HP5 := Lib.hid (HP4.out.below hb)
    have HQ5 := Lib.hid (HQ4.out.below hb)
    clear hb HB4 HP4 HQ4
  · go_wp2
    go_ret
    exact ⟨rfl, HB5.out⟩
  · go_wp2
    go_ret
    exact ⟨rfl, HB5.out⟩
  · go_wp2
    go_ret
    exact ⟨rfl, HB5.out⟩
  · have hE : (p.bytes.toList == q.bytes.toList) = decide (p = q) := by
      rw [Bool.eq_iff_iff, beq_iff_eq, decide_eq_true_iff, list_eq]
      exact bytes_inj p q HO.out HO'.out HR.out HR'.out
    obtain ⟨hz1, hz2⟩ := bytes_size p
    have HSM : Hid (p.bytes.size ≤ 1000) := Lib.hid (by
      obtain ⟨_, _, _, _, _, _, _, s1, s2, s3⟩ := (right_iff p).1 HR.out
      unfold Pk.bytes
      simp only [ByteArray.size_append, nums4_size, text4_size, Pk.nums, List.length_cons, List.length_nil, padOf]
      omega)
    have hz3 := HSM.out
    have hz4 : (((p.bytes.size : Int) % 4) == 0) = true := by rw [beq_iff_eq]; omega
    have hz5 : (80 : Int) ≤ (p.bytes.size : Int) := by omega
    generalize p.bytes = S at hE hz1 hz2 hz3 hz4 hz5 ⊢
    generalize q.bytes = T at hE ⊢
    go_wp2_with (first | ((with_reducible refine gate_dst (N := 74) rfl ?_); (refine gate_guard (by first | rfl | kernel_rfl) ?_; dsimp only); refine wpList_val rfl rfl (execOp_load rfl rfl HP5.out.load) ?_) | ((with_reducible refine gate_dst (N := 75) rfl ?_); (refine gate_guard (by first | rfl | kernel_rfl) ?_; dsimp only); refine wpList_val rfl rfl (execOp_load rfl rfl HQ5.out.load) ?_) | ((with_reducible refine gate_dst (N := 76) rfl ?_); (refine gate_guard (by first | rfl | kernel_rfl) ?_; dsimp only); refine wpList_val rfl rfl (execOp_eq (p := p) (q := q) rfl rfl rfl) ?_))
    go_ret
    exact ⟨rfl, HB5.out⟩
theorem protoApart_walk (a0 a1 : Array Value) (w : World) (w0 : Sees Tryd.prog w 140737488351232 5 27 a0.toList) (w1 : Sees Tryd.prog w 140737488351232 5 27 a1.toList) :
    Calls Tryd.prog 6 #[.agg a0, .agg a1] w fun e w' => e = .returned (.bool true) ∧ Below w.heap.size w w' := by
  obtain ⟨p, hp, he⟩ := pk_of (k := 2) (Nat.le_refl _) w0
  obtain ⟨q, hq, he'⟩ := pk_of (k := 2) (Nat.le_refl _) w1
  obtain rfl : a0 = #[.int .i64 p.kind, .int .i64 p.fr, .int .i64 p.to, .int .u32 (p.life : Int), .int .u32 (p.seq : Int), .int .u32 (p.asked : Int), .int .u32 (p.boot : Int), .int .i64 p.code, .int .i64 p.err, .int .u32 (p.file : Int), .int .u32 (p.epoch : Int), .int .u32 (p.off : Int), .int .u32 (p.len : Int), .int .u32 (p.size : Int), .int .u32 (p.mode : Int), .int .u32 (p.deny : Int), .int .u32 (p.handle : Int), .string p.path, .string p.other, .string p.data] := Array.toList_inj.1 he
  obtain rfl : a1 = #[.int .i64 q.kind, .int .i64 q.fr, .int .i64 q.to, .int .u32 (q.life : Int), .int .u32 (q.seq : Int), .int .u32 (q.asked : Int), .int .u32 (q.boot : Int), .int .i64 q.code, .int .i64 q.err, .int .u32 (q.file : Int), .int .u32 (q.epoch : Int), .int .u32 (q.off : Int), .int .u32 (q.len : Int), .int .u32 (q.size : Int), .int .u32 (q.mode : Int), .int .u32 (q.deny : Int), .int .u32 (q.handle : Int), .string q.path, .string q.other, .string q.data] := Array.toList_inj.1 he'
  exact apart_pk p q hp hq w
end Go.Proofs.YtiedmkgdhfkcoaaDoor.Pkt
