/- Layer proto: what every right program answers. -/
import Derived.Test.YtiedmkgdhfkcoaaDoorPktRead
import Derived.Test.YtiedmkgdhfkcoaaDoorPktEq
namespace Go.Proofs.YtiedmkgdhfkcoaaDoor.Pkt
open Go.RowKit Go.Own Go.Blk Go.OpsL Go.XdrL Go.PktL Go.Sees Go.Proofs.YtiedmkgdhfkcoaaDoorW.PrintLast Go.Proofs.YtiedmkgdhfkcoaaDoorW.PrintWords
set_option linter.unusedVariables false
set_option linter.unusedSimpArgs false
set_option maxRecDepth 100000
theorem read_back (p : Pk) (h : p.OK) (hr : right p = true) (w : World) : Calls Tryd.prog 15 #[.string p.bytes] w fun e w' => e = .returned (.tuple #[.agg #[.int .i64 p.kind, .int .i64 p.fr, .int .i64 p.to, .int .u32 (p.life : Int), .int .u32 (p.seq : Int), .int .u32 (p.asked : Int), .int .u32 (p.boot : Int), .int .i64 p.code, .int .i64 p.err, .int .u32 (p.file : Int), .int .u32 (p.epoch : Int), .int .u32 (p.off : Int), .int .u32 (p.len : Int), .int .u32 (p.size : Int), .int .u32 (p.mode : Int), .int .u32 (p.deny : Int), .int .u32 (p.handle : Int), .string p.path, .string p.other, .string p.data], .int .i64 0]) ∧ Below w.heap.size w w' := by
  have hs : p.bytes.size ≤ 140737488351232 := by
    obtain ⟨_, _, _, _, _, _, _, s1, s2, s3⟩ := (right_iff p).1 hr
    unfold Pk.bytes
    simp only [ByteArray.size_append, nums4_size, text4_size, Pk.nums, List.length_cons, List.length_nil, padOf]
    omega
  have h0 := read_any p.bytes hs w
  rw [read_bytes p h hr] at h0
  exact h0
/-- A packet stored into a fresh variable. -/
theorem fresh_pk (w : World) (p : Pk) : ∃ w', (Instr.storeAt 27 (.pointer (some ⟨w.heap.size, 0, none⟩)) (.agg #[.int .i64 p.kind, .int .i64 p.fr, .int .i64 p.to, .int .u32 (p.life : Int), .int .u32 (p.seq : Int), .int .u32 (p.asked : Int), .int .u32 (p.boot : Int), .int .i64 p.code, .int .i64 p.err, .int .u32 (p.file : Int), .int .u32 (p.epoch : Int), .int .u32 (p.off : Int), .int .u32 (p.len : Int), .int .u32 (p.size : Int), .int .u32 (p.mode : Int), .int .u32 (p.deny : Int), .int .u32 (p.handle : Int), .string p.path, .string p.other, .string p.data])).run Tryd.prog (w.alloc (.cells #[.int .i64 0, .int .i64 0, .int .i64 0, .int .u32 0, .int .u32 0, .int .u32 0, .int .u32 0, .int .i64 0, .int .i64 0, .int .u32 0, .int .u32 0, .int .u32 0, .int .u32 0, .int .u32 0, .int .u32 0, .int .u32 0, .int .u32 0, .string ⟨#[]⟩, .string ⟨#[]⟩, .string ⟨#[]⟩] 27)) = .ok () w' ∧ PAt w' w.heap.size p ∧ Below w.heap.size w w' := by
  have hz : PAt (w.alloc (.cells #[.int .i64 0, .int .i64 0, .int .i64 0, .int .u32 0, .int .u32 0, .int .u32 0, .int .u32 0, .int .i64 0, .int .i64 0, .int .u32 0, .int .u32 0, .int .u32 0, .int .u32 0, .int .u32 0, .int .u32 0, .int .u32 0, .int .u32 0, .string ⟨#[]⟩, .string ⟨#[]⟩, .string ⟨#[]⟩] 27)) w.heap.size Pk.zero := PAt.alloc w Pk.zero
  obtain ⟨w', hr, hp, hf⟩ := hz.store p
  exact ⟨w', hr, hp, ((Below.refl w.heap.size w).alloc (Nat.le_refl _) _).trans (hf.below (by simp) (fun k hk => by have e : k = w.heap.size := hk; omega))⟩
def p0 : Pk := ⟨1, 17, 2, 1, 5, 0, 0, 1, 0, 7, 3, 9, 0, 0, 0, 0, 0, ⟨#[]⟩, ⟨#[]⟩, ⟨#[97, 98, 99]⟩⟩
theorem p0_ok : p0.OK := ⟨by unfold I64 p0; simp, by unfold I64 p0; simp, by unfold I64 p0; simp, by unfold I64 p0; simp, by unfold I64 p0; simp, by decide, by decide, by decide, by decide, by decide, by decide, by decide, by decide, by decide, by decide, by decide, by decide, by decide, by decide, by decide⟩
theorem p0_right : right p0 = true := by decide
theorem p0_size : p0.bytes.size = 84 := by kernel_rfl
set_option maxHeartbeats 8000000 in
theorem alive_calls (w : World) : Calls Tryd.prog 10 #[] w fun e w' => e = .returned (.bool true) ∧ Below w.heap.size w w' := by
  obtain ⟨w1, hr1, hp1, hb1⟩ := fresh_pk w p0
  have HST1 := Lib.hid hr1
  have HP1 := Lib.hid hp1
  have HB1 := Lib.hid hb1
  clear hr1 hp1 hb1
  go_enter Tryd.func10, Tryd.ntmps10
  go_wp2_with (first | ((with_reducible refine gate_store (p := 1) rfl ?_); refine wpList_none rfl rfl (execOp_store rfl rfl rfl HST1.out) ?_) | ((with_reducible refine gate_dst (N := 9) rfl ?_); refine wpList_val rfl rfl (execOp_load rfl rfl HP1.out.load) ?_))
  refine (write_yes p0 p0_ok p0_right _).mono ?_
  rintro e w2 ⟨rfl, hb⟩
  have HB2 := Lib.hid (HB1.out.trans (hb.mono HB1.out.size))
  have HP2 := Lib.hid (HP1.out.below hb)
  clear hb HP1 HB1
  go_wp2_with fail
  refine (read_back p0 p0_ok p0_right _).mono ?_
  rintro e w3 ⟨rfl, hb⟩
  obtain ⟨w4, hr4, hp4, hb4⟩ := fresh_pk w3 p0
  have HB4 := Lib.hid ((HB2.out.trans (hb.mono HB2.out.size)).trans (hb4.mono (HB2.out.trans (hb.mono HB2.out.size)).size))
  have HP4 := Lib.hid ((HP2.out.below hb).below hb4)
  have HQ4 := Lib.hid hp4
  have HST4 := Lib.hid hr4
  clear hb hb4 hr4 hp4 HP2 HB2
  go_wp2_with (first | ((with_reducible refine gate_store (p := 4) rfl ?_); refine wpList_none rfl rfl (execOp_store rfl rfl rfl HST4.out) ?_) | ((with_reducible refine gate_dst (N := 18) rfl ?_); refine wpList_val rfl rfl (execOp_load rfl rfl HP4.out.load) ?_))
  refine (right_any p0 p0_ok _).mono ?_
  rintro e w5 ⟨rfl, hb⟩
  rw [p0_right]
  have HB5 := Lib.hid (HB4.out.trans (hb.mono HB4.out.size))
  have HP5 := Lib.hid (HP4.out.below hb)
  have HQ5 := Lib.hid (HQ4.out.below hb)
  have hsz := p0_size
  clear hb HP4 HQ4 HB4
  go_wp2_with (first | ((with_reducible refine gate_dst (N := 34) rfl ?_); (refine gate_guard (by first | rfl | kernel_rfl) ?_; dsimp only); refine wpList_val rfl rfl (execOp_load rfl rfl HQ5.out.load) ?_) | ((with_reducible refine gate_dst (N := 35) rfl ?_); (refine gate_guard (by first | rfl | kernel_rfl) ?_; dsimp only); refine wpList_val rfl rfl (execOp_load rfl rfl HP5.out.load) ?_) | ((with_reducible refine gate_dst (N := 36) rfl ?_); (refine gate_guard (by first | rfl | kernel_rfl) ?_; dsimp only); refine wpList_val rfl rfl (execOp_eq (p := p0) (q := p0) rfl rfl rfl) ?_))
  go_ret
  exact ⟨rfl, HB5.out⟩
end Go.Proofs.YtiedmkgdhfkcoaaDoor.Pkt
