/- Layer proto: the walk of ProtoReads. -/
import Derived.Test.YtiedmkgdhfkcoaaDoorPktDRead
namespace Go.Proofs.YtiedmkgdhfkcoaaDoor.Pkt
open Go.RowKit Go.Own Go.Blk Go.OpsL Go.XdrL Go.PktL Go.Sees Go.Proofs.YtiedmkgdhfkcoaaDoorW.PrintLast Go.Proofs.YtiedmkgdhfkcoaaDoorW.PrintWords
set_option linter.unusedVariables false
set_option linter.unusedSimpArgs false
set_option maxRecDepth 100000
/-- Both readers, the answer under two names. -/
theorem read_named (s : ByteArray) (hs : s.size ≤ 140737488351232) (Q : Pk) (E : Nat) (h : readPk s = (Q, E)) (w : World) : Calls Tryd.prog 15 #[.string s] w fun e w' => e = .returned (.tuple #[.agg #[.int .i64 Q.kind, .int .i64 Q.fr, .int .i64 Q.to, .int .u32 (Q.life : Int), .int .u32 (Q.seq : Int), .int .u32 (Q.asked : Int), .int .u32 (Q.boot : Int), .int .i64 Q.code, .int .i64 Q.err, .int .u32 (Q.file : Int), .int .u32 (Q.epoch : Int), .int .u32 (Q.off : Int), .int .u32 (Q.len : Int), .int .u32 (Q.size : Int), .int .u32 (Q.mode : Int), .int .u32 (Q.deny : Int), .int .u32 (Q.handle : Int), .string Q.path, .string Q.other, .string Q.data], .int .i64 (E : Int)]) ∧ Below w.heap.size w w' := by
  have h0 := read_any s hs w
  rw [h] at h0
  exact h0
theorem dread_named (s : ByteArray) (hs : s.size ≤ 140737488351232) (Q : Pk) (E : Nat) (h : readPk s = (Q, E)) (w : World) : Calls Tryd.prog 16 #[.string s] w fun e w' => e = .returned (.tuple #[.agg #[.int .i64 Q.kind, .int .i64 Q.fr, .int .i64 Q.to, .int .u32 (Q.life : Int), .int .u32 (Q.seq : Int), .int .u32 (Q.asked : Int), .int .u32 (Q.boot : Int), .int .i64 Q.code, .int .i64 Q.err, .int .u32 (Q.file : Int), .int .u32 (Q.epoch : Int), .int .u32 (Q.off : Int), .int .u32 (Q.len : Int), .int .u32 (Q.size : Int), .int .u32 (Q.mode : Int), .int .u32 (Q.deny : Int), .int .u32 (Q.handle : Int), .string Q.path, .string Q.other, .string Q.data], .int .i64 (E : Int)]) ∧ Below w.heap.size w w' := by
  have h0 := dread_any s hs w
  rw [h] at h0
  exact h0
theorem pair_eta {α β : Type} (p : α × β) : p = (p.1, p.2) := by cases p; rfl
set_option maxHeartbeats 16000000 in
theorem reads_pk (a0 : ByteArray) (w : World) (w0 : a0.size ≤ 140737488351232) (Q : Pk) (E : Nat) (hr : ∀ w, Calls Tryd.prog 15 #[.string a0] w fun e w' => e = .returned (.tuple #[.agg #[.int .i64 Q.kind, .int .i64 Q.fr, .int .i64 Q.to, .int .u32 (Q.life : Int), .int .u32 (Q.seq : Int), .int .u32 (Q.asked : Int), .int .u32 (Q.boot : Int), .int .i64 Q.code, .int .i64 Q.err, .int .u32 (Q.file : Int), .int .u32 (Q.epoch : Int), .int .u32 (Q.off : Int), .int .u32 (Q.len : Int), .int .u32 (Q.size : Int), .int .u32 (Q.mode : Int), .int .u32 (Q.deny : Int), .int .u32 (Q.handle : Int), .string Q.path, .string Q.other, .string Q.data], .int .i64 (E : Int)]) ∧ Below w.heap.size w w') (hd : ∀ w, Calls Tryd.prog 16 #[.string a0] w fun e w' => e = .returned (.tuple #[.agg #[.int .i64 Q.kind, .int .i64 Q.fr, .int .i64 Q.to, .int .u32 (Q.life : Int), .int .u32 (Q.seq : Int), .int .u32 (Q.asked : Int), .int .u32 (Q.boot : Int), .int .i64 Q.code, .int .i64 Q.err, .int .u32 (Q.file : Int), .int .u32 (Q.epoch : Int), .int .u32 (Q.off : Int), .int .u32 (Q.len : Int), .int .u32 (Q.size : Int), .int .u32 (Q.mode : Int), .int .u32 (Q.deny : Int), .int .u32 (Q.handle : Int), .string Q.path, .string Q.other, .string Q.data], .int .i64 (E : Int)]) ∧ Below w.heap.size w w') :
    Calls Tryd.prog 4 #[.string a0] w fun e w' => e = .returned (.bool true) ∧ Below w.heap.size w w' := by
  have HR := Lib.hid hr
  have HD := Lib.hid hd
  clear hr hd
  by_cases hg : 2000 < a0.size
  · go_enter Tryd.func4, Tryd.ntmps4
    go_wp2_with fail
    refine (alive_calls _).mono ?_
    rintro e w2 ⟨rfl, hb⟩
    have HB2 := Lib.hid hb
    clear hb
    go_wp2_with fail
    refine (alive_calls _).mono ?_
    rintro e w3 ⟨rfl, hb⟩
    have HB3 := Lib.hid (HB2.out.trans (hb.mono HB2.out.size))
    clear hb
    go_wp2
    go_ret
    exact ⟨rfl, HB3.out⟩
  go_enter Tryd.func4, Tryd.ntmps4
  go_wp2_with fail
  refine (alive_calls _).mono ?_
  rintro e w2 ⟨rfl, hb⟩
  have HB2 := Lib.hid hb
  clear hb
  go_wp2_with fail
  refine (HR.out _).mono ?_
  rintro e w3 ⟨rfl, hb⟩
  obtain ⟨w4, hr4, hp4, hb4⟩ := fresh_pk w3 Q
  have HB4 := Lib.hid ((HB2.out.trans (hb.mono HB2.out.size)).trans (hb4.mono (HB2.out.trans (hb.mono HB2.out.size)).size))
  have HP4 := Lib.hid hp4
  have HST4 := Lib.hid hr4
  clear hb hb4 hr4 hp4 HB2
  go_wp2_with (first | ((with_reducible refine gate_store (p := 3) rfl ?_); refine wpList_none rfl rfl (execOp_store rfl rfl rfl HST4.out) ?_))
  refine (HD.out _).mono ?_
  rintro e w5 ⟨rfl, hb⟩
  obtain ⟨w6, hr6, hp6, hb6⟩ := fresh_pk w5 Q
  have HB6 := Lib.hid ((HB4.out.trans (hb.mono HB4.out.size)).trans (hb6.mono (HB4.out.trans (hb.mono HB4.out.size)).size))
  have HP6 := Lib.hid ((HP4.out.below hb).below hb6)
  have HQ6 := Lib.hid hp6
  have HST6 := Lib.hid hr6
  clear hb hb6 hr6 hp6 HP4 HB4
  go_wp2_with (first | ((with_reducible refine gate_store (p := 5) rfl ?_); refine wpList_none rfl rfl (execOp_store rfl rfl rfl HST6.out) ?_))
  refine (alive_calls _).mono ?_
  rintro e w7 ⟨rfl, hb⟩
  have HB7 := Lib.hid (HB6.out.trans (hb.mono HB6.out.size))
  have HP7 := Lib.hid (HP6.out.below hb)
  have HQ7 := Lib.hid (HQ6.out.below hb)
  clear hb HB6 HP6 HQ6
  go_wp2_with (first | ((with_reducible refine gate_dst (N := 25) rfl ?_); (refine gate_guard (by first | rfl | kernel_rfl) ?_; dsimp only); refine wpList_val rfl rfl (execOp_load rfl rfl HP7.out.load) ?_) | ((with_reducible refine gate_dst (N := 26) rfl ?_); (refine gate_guard (by first | rfl | kernel_rfl) ?_; dsimp only); refine wpList_val rfl rfl (execOp_load rfl rfl HQ7.out.load) ?_) | ((with_reducible refine gate_dst (N := 27) rfl ?_); (refine gate_guard (by first | rfl | kernel_rfl) ?_; dsimp only); refine wpList_val rfl rfl (execOp_eq (p := Q) (q := Q) rfl rfl rfl) ?_))
  go_ret
  exact ⟨rfl, HB7.out⟩
theorem protoReads_walk (a0 : ByteArray) (w : World) (w0 : a0.size ≤ 140737488351232) :
    Calls Tryd.prog 4 #[.string a0] w fun e w' => e = .returned (.bool true) ∧ Below w.heap.size w w' := reads_pk a0 w w0 _ _ (read_named a0 w0 _ _ (pair_eta (readPk a0))) (dread_named a0 w0 _ _ (pair_eta (readPk a0)))
end Go.Proofs.YtiedmkgdhfkcoaaDoor.Pkt
