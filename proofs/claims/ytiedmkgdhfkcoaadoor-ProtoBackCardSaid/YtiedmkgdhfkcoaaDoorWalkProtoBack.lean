/- Layer proto: the walk of ProtoBack. -/
import Derived.Test.YtiedmkgdhfkcoaaDoorPktAlive
namespace Go.Proofs.YtiedmkgdhfkcoaaDoor.Pkt
open Go.RowKit Go.Own Go.Blk Go.OpsL Go.XdrL Go.PktL Go.Sees Go.Proofs.YtiedmkgdhfkcoaaDoorW.PrintLast Go.Proofs.YtiedmkgdhfkcoaaDoorW.PrintWords
set_option linter.unusedVariables false
set_option linter.unusedSimpArgs false
set_option maxRecDepth 100000
theorem read_cases (s : ByteArray) : ((readPk s).2 = 0 ∧ right (readPk s).1 = true ∧ (readPk s).1.bytes = s) ∨ ((readPk s).2 ≠ 0 ∧ (readPk s).1 = Pk.zero) := by
  by_cases h : (rdE s).e = 0
  · have hb := bytes_read s h
    by_cases hr : right (rdPk s) = true
    · have e : readPk s = (rdPk s, 0) := by unfold readPk; rw [if_neg (fun k => k h), if_pos hr]
      rw [e]
      generalize rdPk s = P at hr hb
      exact .inl ⟨rfl, hr, hb⟩
    · have e : readPk s = (Pk.zero, 3) := by unfold readPk; rw [if_neg (fun k => k h), if_neg hr]
      rw [e]
      exact .inr ⟨(show (3 : Nat) ≠ 0 by decide), rfl⟩
  · have e : readPk s = (Pk.zero, (rdE s).e) := by unfold readPk; rw [if_pos h]
    rw [e]
    generalize (rdE s).e = n at h
    exact .inr ⟨h, rfl⟩
set_option maxHeartbeats 16000000 in
theorem back_pk (p : Pk) (s : ByteArray) (h : p.OK) (hs : s.size ≤ 140737488351232) (w : World) : Calls Tryd.prog 5 #[.agg #[.int .i64 p.kind, .int .i64 p.fr, .int .i64 p.to, .int .u32 (p.life : Int), .int .u32 (p.seq : Int), .int .u32 (p.asked : Int), .int .u32 (p.boot : Int), .int .i64 p.code, .int .i64 p.err, .int .u32 (p.file : Int), .int .u32 (p.epoch : Int), .int .u32 (p.off : Int), .int .u32 (p.len : Int), .int .u32 (p.size : Int), .int .u32 (p.mode : Int), .int .u32 (p.deny : Int), .int .u32 (p.handle : Int), .string p.path, .string p.other, .string p.data], .string s] w fun e w' => e = .returned (.bool true) ∧ Below w.heap.size w w' := by
  have HO := Lib.hid h
  have hal : Below w.heap.size w (w.alloc (.cells #[.int .i64 p.kind, .int .i64 p.fr, .int .i64 p.to, .int .u32 (p.life : Int), .int .u32 (p.seq : Int), .int .u32 (p.asked : Int), .int .u32 (p.boot : Int), .int .i64 p.code, .int .i64 p.err, .int .u32 (p.file : Int), .int .u32 (p.epoch : Int), .int .u32 (p.off : Int), .int .u32 (p.len : Int), .int .u32 (p.size : Int), .int .u32 (p.mode : Int), .int .u32 (p.deny : Int), .int .u32 (p.handle : Int), .string p.path, .string p.other, .string p.data] 27)) := (Below.refl _ _).alloc (Nat.le_refl _) _
  have HAL := Lib.hid hal
  have HPA := Lib.hid (PAt.alloc w p)
  have HSS := Lib.hid hs
  have hs1 := h.path
  have hs2 := h.other
  have hs3 := h.data
  clear h hal
  by_cases hg : 1000 < p.path.size ∨ 1000 < p.other.size ∨ 1000 < p.data.size ∨ 2000 < s.size
  · have hcase : (1000 < p.path.size) ∨ (¬ 1000 < p.path.size ∧ 1000 < p.other.size) ∨ (¬ 1000 < p.path.size ∧ ¬ 1000 < p.other.size ∧ 1000 < p.data.size) ∨ (¬ 1000 < p.path.size ∧ ¬ 1000 < p.other.size ∧ ¬ 1000 < p.data.size ∧ 2000 < s.size) := by omega
    clear hg
    rcases hcase with hg | ⟨hg, hg2⟩ | ⟨hg, hg2, hg3⟩ | ⟨hg, hg2, hg3, hg4⟩
    all_goals
      go_enter Tryd.func5, Tryd.ntmps5
      go_wp2_with fail
      refine (alive_calls _).mono ?_
      rintro e w2 ⟨rfl, hb⟩
      have HB2 := Lib.hid (HAL.out.trans (hb.mono HAL.out.size))
      have HP2 := Lib.hid (HPA.out.below hb)
      clear hb
      obtain ⟨_, _, _, _, _, _, _, _, _, _, _, _, _, _, _, _, _, x17, x18, x19⟩ := HP2.out.cells
      go_wp2_with fail
      refine (alive_calls _).mono ?_
      rintro e w3 ⟨rfl, hb⟩
      have HB3 := Lib.hid (HB2.out.trans (hb.mono HB2.out.size))
      clear hb x17 x18 x19
      go_wp2
      go_ret
      exact ⟨rfl, HB3.out⟩
  obtain ⟨hg1, hg2, hg3, hg4⟩ : ¬ 1000 < p.path.size ∧ ¬ 1000 < p.other.size ∧ ¬ 1000 < p.data.size ∧ ¬ 2000 < s.size := by omega
  clear hg
  have HRC := Lib.hid (read_cases s)
  have HRO := Lib.hid (read_ok s)
  cases hr : right p
  all_goals
    have HR := Lib.hid hr
    clear hr
    go_enter Tryd.func5, Tryd.ntmps5
    go_wp2_with fail
    refine (alive_calls _).mono ?_
    rintro e w2 ⟨rfl, hb⟩
    have HB2 := Lib.hid (HAL.out.trans (hb.mono HAL.out.size))
    have HP2 := Lib.hid (HPA.out.below hb)
    clear hb
    obtain ⟨_, _, _, _, _, _, _, _, _, _, _, _, _, _, _, _, _, x17, x18, x19⟩ := HP2.out.cells
    go_wp2_with (first | ((with_reducible refine gate_dst (N := 41) rfl ?_); refine wpList_val rfl rfl (execOp_load rfl rfl HP2.out.load) ?_))
    clear x17 x18 x19
    first | refine (write_no p HO.out HR.out _).mono ?_ | refine (write_yes p HO.out HR.out _).mono ?_
    rintro e w3 ⟨rfl, hb⟩
    have HB3 := Lib.hid (HB2.out.trans (hb.mono HB2.out.size))
    have HP3 := Lib.hid (HP2.out.below hb)
    clear hb HB2 HP2
    go_wp2_with fail
  · refine (read_any s HSS.out _).mono ?_
    rintro e w4 ⟨rfl, hb⟩
    have HB4 := Lib.hid (HB3.out.trans (hb.mono HB3.out.size))
    clear hb HB3 HP3
    generalize readPk s = pr at HRC HRO ⊢
    obtain ⟨Q, E⟩ := pr
    dsimp only at HRC HRO ⊢
    obtain ⟨w7, hr7, hp7, hb7⟩ := fresh_pk w4 Q
    have HB7 := Lib.hid (HB4.out.trans (hb7.mono HB4.out.size))
    have HQ7 := Lib.hid hp7
    have HST7 := Lib.hid hr7
    clear hb7 hr7 hp7 HB4
    rcases HRC.out with ⟨hE, hRQ, hBQ⟩ | ⟨hE, hZQ⟩
    · subst hE
      have HRQ := Lib.hid hRQ
      have HBQ := Lib.hid hBQ
      clear hRQ hBQ
      go_wp2_with (first | ((with_reducible refine gate_store (p := 9) rfl ?_); refine wpList_none rfl rfl (execOp_store rfl rfl rfl HST7.out) ?_) | ((with_reducible refine gate_dst (N := 73) rfl ?_); refine wpList_val rfl rfl (execOp_load rfl rfl HQ7.out.load) ?_))
      refine (write_yes Q HRO.out HRQ.out _).mono ?_
      rintro e w8 ⟨rfl, hb⟩
      rw [HBQ.out]
      have HB8 := Lib.hid (HB7.out.trans (hb.mono HB7.out.size))
      have HQ8 := Lib.hid (HQ7.out.below hb)
      clear hb HB7 HQ7
      go_wp2_with fail
      refine (alive_calls _).mono ?_
      rintro e w9 ⟨rfl, hb⟩
      have HB9 := Lib.hid (HB8.out.trans (hb.mono HB8.out.size))
      have HQ9 := Lib.hid (HQ8.out.below hb)
      clear hb HB8 HQ8
      go_wp2_with (first | ((with_reducible refine gate_dst (N := 88) rfl ?_); (refine gate_guard (by first | rfl | kernel_rfl) ?_; dsimp only); refine wpList_val rfl rfl (execOp_load rfl rfl HQ9.out.load) ?_))
      refine (right_any Q HRO.out _).mono ?_
      rintro e w10 ⟨rfl, hb⟩
      rw [HRQ.out]
      have HB10 := Lib.hid (HB9.out.trans (hb.mono HB9.out.size))
      clear hb HB9 HQ9
      go_wp2
      go_ret
      exact ⟨rfl, HB10.out⟩
    · have hz : ((E : Int) != 0) = true := by rw [bne_iff_ne]; omega
      subst hZQ
      go_wp2_with (first | ((with_reducible refine gate_store (p := 9) rfl ?_); refine wpList_none rfl rfl (execOp_store rfl rfl rfl HST7.out) ?_))
      refine (alive_calls _).mono ?_
      rintro e w9 ⟨rfl, hb⟩
      have HB9 := Lib.hid (HB7.out.trans (hb.mono HB7.out.size))
      have HQ9 := Lib.hid (HQ7.out.below hb)
      clear hb HB7 HQ7
      go_wp2_with (first | ((with_reducible refine gate_dst (N := 68) rfl ?_); (refine gate_guard (by first | rfl | kernel_rfl) ?_; dsimp only); refine wpList_val rfl rfl (execOp_load rfl rfl HQ9.out.load) ?_) | ((with_reducible refine gate_dst (N := 70) rfl ?_); (refine gate_guard (by first | rfl | kernel_rfl) ?_; dsimp only); refine wpList_val rfl rfl (execOp_eq (p := Pk.zero) (q := Pk.zero) rfl rfl rfl) ?_))
      go_ret
      exact ⟨rfl, HB9.out⟩
  · refine (read_back p HO.out HR.out _).mono ?_
    rintro e w5 ⟨rfl, hb⟩
    obtain ⟨w6, hr6, hp6, hb6⟩ := fresh_pk w5 p
    have HB6 := Lib.hid ((HB3.out.trans (hb.mono HB3.out.size)).trans (hb6.mono (HB3.out.trans (hb.mono HB3.out.size)).size))
    have HP6 := Lib.hid ((HP3.out.below hb).below hb6)
    have HQ6 := Lib.hid hp6
    have HST6 := Lib.hid hr6
    clear hb hb6 hr6 hp6 HP3 HB3
    go_wp2_with (first | ((with_reducible refine gate_store (p := 7) rfl ?_); refine wpList_none rfl rfl (execOp_store rfl rfl rfl HST6.out) ?_) | ((with_reducible refine gate_dst (N := 52) rfl ?_); refine wpList_val rfl rfl (execOp_load rfl rfl HQ6.out.load) ?_) | ((with_reducible refine gate_dst (N := 53) rfl ?_); refine wpList_val rfl rfl (execOp_load rfl rfl HP6.out.load) ?_) | ((with_reducible refine gate_dst (N := 54) rfl ?_); refine wpList_val rfl rfl (execOp_neq (p := p) (q := p) rfl rfl rfl) ?_))
    refine (read_any s HSS.out _).mono ?_
    rintro e w4 ⟨rfl, hb⟩
    have HB4 := Lib.hid (HB6.out.trans (hb.mono HB6.out.size))
    clear hb HB6 HP6 HQ6 HST6
    generalize readPk s = pr at HRC HRO ⊢
    obtain ⟨Q, E⟩ := pr
    dsimp only at HRC HRO ⊢
    obtain ⟨w7, hr7, hp7, hb7⟩ := fresh_pk w4 Q
    have HB7 := Lib.hid (HB4.out.trans (hb7.mono HB4.out.size))
    have HQ7 := Lib.hid hp7
    have HST7 := Lib.hid hr7
    clear hb7 hr7 hp7 HB4
    rcases HRC.out with ⟨hE, hRQ, hBQ⟩ | ⟨hE, hZQ⟩
    · subst hE
      have HRQ := Lib.hid hRQ
      have HBQ := Lib.hid hBQ
      clear hRQ hBQ
      go_wp2_with (first | ((with_reducible refine gate_store (p := 9) rfl ?_); refine wpList_none rfl rfl (execOp_store rfl rfl rfl HST7.out) ?_) | ((with_reducible refine gate_dst (N := 73) rfl ?_); refine wpList_val rfl rfl (execOp_load rfl rfl HQ7.out.load) ?_))
      refine (write_yes Q HRO.out HRQ.out _).mono ?_
      rintro e w8 ⟨rfl, hb⟩
      rw [HBQ.out]
      have HB8 := Lib.hid (HB7.out.trans (hb.mono HB7.out.size))
      have HQ8 := Lib.hid (HQ7.out.below hb)
      clear hb HB7 HQ7
      go_wp2_with fail
      refine (alive_calls _).mono ?_
      rintro e w9 ⟨rfl, hb⟩
      have HB9 := Lib.hid (HB8.out.trans (hb.mono HB8.out.size))
      have HQ9 := Lib.hid (HQ8.out.below hb)
      clear hb HB8 HQ8
      go_wp2_with (first | ((with_reducible refine gate_dst (N := 88) rfl ?_); (refine gate_guard (by first | rfl | kernel_rfl) ?_; dsimp only); refine wpList_val rfl rfl (execOp_load rfl rfl HQ9.out.load) ?_))
      refine (right_any Q HRO.out _).mono ?_
      rintro e w10 ⟨rfl, hb⟩
      rw [HRQ.out]
      have HB10 := Lib.hid (HB9.out.trans (hb.mono HB9.out.size))
      clear hb HB9 HQ9
      go_wp2
      go_ret
      exact ⟨rfl, HB10.out⟩
    · have hz : ((E : Int) != 0) = true := by rw [bne_iff_ne]; omega
      subst hZQ
      go_wp2_with (first | ((with_reducible refine gate_store (p := 9) rfl ?_); refine wpList_none rfl rfl (execOp_store rfl rfl rfl HST7.out) ?_))
      refine (alive_calls _).mono ?_
      rintro e w9 ⟨rfl, hb⟩
      have HB9 := Lib.hid (HB7.out.trans (hb.mono HB7.out.size))
      have HQ9 := Lib.hid (HQ7.out.below hb)
      clear hb HB7 HQ7
      go_wp2_with (first | ((with_reducible refine gate_dst (N := 68) rfl ?_); (refine gate_guard (by first | rfl | kernel_rfl) ?_; dsimp only); refine wpList_val rfl rfl (execOp_load rfl rfl HQ9.out.load) ?_) | ((with_reducible refine gate_dst (N := 70) rfl ?_); (refine gate_guard (by first | rfl | kernel_rfl) ?_; dsimp only); refine wpList_val rfl rfl (execOp_eq (p := Pk.zero) (q := Pk.zero) rfl rfl rfl) ?_))
      go_ret
      exact ⟨rfl, HB9.out⟩
theorem protoBack_walk (a0 : Array Value) (a1 : ByteArray) (w : World) (w0 : Sees Tryd.prog w 140737488351232 5 27 a0.toList) (w1 : a1.size ≤ 140737488351232) :
    Calls Tryd.prog 5 #[.agg a0, .string a1] w fun e w' => e = .returned (.bool true) ∧ Below w.heap.size w w' := by
  obtain ⟨p, hp, he⟩ := pk_of (k := 2) (Nat.le_refl _) w0
  obtain rfl : a0 = #[.int .i64 p.kind, .int .i64 p.fr, .int .i64 p.to, .int .u32 (p.life : Int), .int .u32 (p.seq : Int), .int .u32 (p.asked : Int), .int .u32 (p.boot : Int), .int .i64 p.code, .int .i64 p.err, .int .u32 (p.file : Int), .int .u32 (p.epoch : Int), .int .u32 (p.off : Int), .int .u32 (p.len : Int), .int .u32 (p.size : Int), .int .u32 (p.mode : Int), .int .u32 (p.deny : Int), .int .u32 (p.handle : Int), .string p.path, .string p.other, .string p.data] := Array.toList_inj.1 he
  exact back_pk p a1 hp w1 w
end Go.Proofs.YtiedmkgdhfkcoaaDoor.Pkt
