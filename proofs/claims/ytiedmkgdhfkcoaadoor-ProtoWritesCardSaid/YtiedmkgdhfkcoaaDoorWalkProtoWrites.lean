/- Layer proto: the walk of ProtoWrites. -/
import Derived.Test.YtiedmkgdhfkcoaaDoorPktAlive
import Derived.Test.YtiedmkgdhfkcoaaDoorPktBytes
namespace Go.Proofs.YtiedmkgdhfkcoaaDoor.Pkt
open Go.RowKit Go.Own Go.Blk Go.OpsL Go.XdrL Go.PktL Go.Sees Go.Proofs.YtiedmkgdhfkcoaaDoorW.PrintLast Go.Proofs.YtiedmkgdhfkcoaaDoorW.PrintWords
set_option linter.unusedVariables false
set_option linter.unusedSimpArgs false
set_option maxRecDepth 100000
set_option maxHeartbeats 16000000 in
theorem writes_pk (p : Pk) (h : p.OK) (w : World) : Calls Tryd.prog 3 #[.agg #[.int .i64 p.kind, .int .i64 p.fr, .int .i64 p.to, .int .u32 (p.life : Int), .int .u32 (p.seq : Int), .int .u32 (p.asked : Int), .int .u32 (p.boot : Int), .int .i64 p.code, .int .i64 p.err, .int .u32 (p.file : Int), .int .u32 (p.epoch : Int), .int .u32 (p.off : Int), .int .u32 (p.len : Int), .int .u32 (p.size : Int), .int .u32 (p.mode : Int), .int .u32 (p.deny : Int), .int .u32 (p.handle : Int), .string p.path, .string p.other, .string p.data]] w fun e w' => e = .returned (.bool true) ∧ Below w.heap.size w w' := by
  have HO := Lib.hid h
  have hal : Below w.heap.size w (w.alloc (.cells #[.int .i64 p.kind, .int .i64 p.fr, .int .i64 p.to, .int .u32 (p.life : Int), .int .u32 (p.seq : Int), .int .u32 (p.asked : Int), .int .u32 (p.boot : Int), .int .i64 p.code, .int .i64 p.err, .int .u32 (p.file : Int), .int .u32 (p.epoch : Int), .int .u32 (p.off : Int), .int .u32 (p.len : Int), .int .u32 (p.size : Int), .int .u32 (p.mode : Int), .int .u32 (p.deny : Int), .int .u32 (p.handle : Int), .string p.path, .string p.other, .string p.data] 27)) := (Below.refl _ _).alloc (Nat.le_refl _) _
  have HAL := Lib.hid hal
  have HPA := Lib.hid (PAt.alloc w p)
  have hs1 := h.path
  have hs2 := h.other
  have hs3 := h.data
  clear h hal
  by_cases hg : 1000 < p.path.size ∨ 1000 < p.other.size ∨ 1000 < p.data.size
  · have hcase : (1000 < p.path.size) ∨ (¬ 1000 < p.path.size ∧ 1000 < p.other.size) ∨ (¬ 1000 < p.path.size ∧ ¬ 1000 < p.other.size ∧ 1000 < p.data.size) := by omega
    clear hg
    rcases hcase with hg | ⟨hg, hg2⟩ | ⟨hg, hg2, hg3⟩
    all_goals
      go_enter Tryd.func3, Tryd.ntmps3
      go_wp2_with fail
      refine (alive_calls _).mono ?_
      rintro e w2 ⟨rfl, hb⟩
      have HB2 := Lib.hid (HAL.out.trans (hb.mono HAL.out.size))
      have HP2 := Lib.hid (HPA.out.below hb)
      clear hb
      obtain ⟨_, _, _, _, _, _, _, _, _, _, _, _, _, _, _, _, _, x17, x18, x19⟩ := HP2.out.cells
      go_wp2_with fail
      refine (alive_calls _).mono ?_
      rintro e w3 ⟨rfl, hb⟩
      have HB3 := Lib.hid (HB2.out.trans (hb.mono HB2.out.size))
      clear hb x17 x18 x19
      go_wp2
      go_ret
      exact ⟨rfl, HB3.out⟩
  have hg1 : ¬ 1000 < p.path.size := fun h => hg (.inl h)
  have hg2 : ¬ 1000 < p.other.size := fun h => hg (.inr (.inl h))
  have hg3 : ¬ 1000 < p.data.size := fun h => hg (.inr (.inr h))
  clear hg
  cases hr : right p
  all_goals
    have HR := Lib.hid hr
    clear hr
    go_enter Tryd.func3, Tryd.ntmps3
    go_wp2_with fail
    refine (alive_calls _).mono ?_
    rintro e w2 ⟨rfl, hb⟩
    have HB2 := Lib.hid (HAL.out.trans (hb.mono HAL.out.size))
    have HP2 := Lib.hid (HPA.out.below hb)
    clear hb
    obtain ⟨_, _, _, _, _, _, _, _, _, _, _, _, _, _, _, _, _, x17, x18, x19⟩ := HP2.out.cells
    go_wp2_with (first | ((with_reducible refine gate_dst (N := 29) rfl ?_); refine wpList_val rfl rfl (execOp_load rfl rfl HP2.out.load) ?_))
    clear x17 x18 x19
    first | refine (write_no p HO.out HR.out _).mono ?_ | refine (write_yes p HO.out HR.out _).mono ?_
    rintro e w3 ⟨rfl, hb⟩
    have HB3 := Lib.hid (HB2.out.trans (hb.mono HB2.out.size))
    have HP3 := Lib.hid (HP2.out.below hb)
    clear hb HB2 HP2
    go_wp2_with (first | ((with_reducible refine gate_dst (N := 33) rfl ?_); refine wpList_val rfl rfl (execOp_load rfl rfl HP3.out.load) ?_))
    refine (dright_any p HO.out _).mono ?_
    rintro e w4 ⟨rfl, hb⟩
    rw [HR.out]
    have HB4 := Lib.hid (HB3.out.trans (hb.mono HB3.out.size))
    have HP4 := Lib.hid (HP3.out.below hb)
    clear hb HB3 HP3
    go_wp2_with fail
    refine (alive_calls _).mono ?_
    rintro e w5 ⟨rfl, hb⟩
    have HB5 := Lib.hid (HB4.out.trans (hb.mono HB4.out.size))
    have HP5 := Lib.hid (HP4.out.below hb)
    clear hb HB4 HP4
    go_wp2_with (first | ((with_reducible refine gate_dst (N := 39) rfl ?_); (refine gate_guard (by first | rfl | kernel_rfl) ?_; dsimp only); refine wpList_val rfl rfl (execOp_load rfl rfl HP5.out.load) ?_) | ((with_reducible refine gate_dst (N := 53) rfl ?_); (refine gate_guard (by first | rfl | kernel_rfl) ?_; dsimp only); refine wpList_val rfl rfl (execOp_load rfl rfl HP5.out.load) ?_))
    refine (right_any p HO.out _).mono ?_
    rintro e w6 ⟨rfl, hb⟩
    rw [HR.out]
    have HB6 := Lib.hid (HB5.out.trans (hb.mono HB5.out.size))
    have HP6 := Lib.hid (HP5.out.below hb)
    clear hb HB5 HP5
  · go_wp2
    go_ret
    exact ⟨rfl, HB6.out⟩
  · go_wp2_with (first | ((with_reducible refine gate_dst (N := 58) rfl ?_); (refine gate_guard (by first | rfl | kernel_rfl) ?_; dsimp only); refine wpList_val rfl rfl (execOp_load rfl rfl HP6.out.load) ?_))
    refine (dbytes p HO.out HR.out _).mono ?_
    rintro e w7 ⟨rfl, hb⟩
    have HB7 := Lib.hid (HB6.out.trans (hb.mono HB6.out.size))
    clear hb HB6 HP6
    go_wp2
    go_ret
    exact ⟨rfl, HB7.out⟩
theorem protoWrites_walk (a0 : Array Value) (w : World) (w0 : Sees Tryd.prog w 140737488351232 5 27 a0.toList) :
    Calls Tryd.prog 3 #[.agg a0] w fun e w' => e = .returned (.bool true) ∧ Below w.heap.size w w' := by
  obtain ⟨p, hp, he⟩ := pk_of (k := 2) (Nat.le_refl _) w0
  obtain rfl : a0 = #[.int .i64 p.kind, .int .i64 p.fr, .int .i64 p.to, .int .u32 (p.life : Int), .int .u32 (p.seq : Int), .int .u32 (p.asked : Int), .int .u32 (p.boot : Int), .int .i64 p.code, .int .i64 p.err, .int .u32 (p.file : Int), .int .u32 (p.epoch : Int), .int .u32 (p.off : Int), .int .u32 (p.len : Int), .int .u32 (p.size : Int), .int .u32 (p.mode : Int), .int .u32 (p.deny : Int), .int .u32 (p.handle : Int), .string p.path, .string p.other, .string p.data] := Array.toList_inj.1 he
  exact writes_pk p hp w
end Go.Proofs.YtiedmkgdhfkcoaaDoor.Pkt
