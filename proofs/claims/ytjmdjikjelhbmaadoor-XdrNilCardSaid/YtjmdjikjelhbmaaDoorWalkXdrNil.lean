/- Layer xdr: the walk of XdrNil: no reader reads nothing, no writer writes nothing. -/
import Derived.Test.YtjmdjikjelhbmaaDoorXdrAlive
import Derived.Test.YtjmdjikjelhbmaaDoorXdrDoc
namespace Go.Proofs.YtjmdjikjelhbmaaDoor.Xdr
open Go.RowKit Go.Own Go.XdrL Go.Blk Go.OpsL Go.Sees Go.Proofs.YtjmdjikjelhbmaaDoorW.PrintLast Go.Proofs.YtjmdjikjelhbmaaDoorW.PrintWords
set_option linter.unusedVariables false
set_option linter.unusedSimpArgs false
variable {W w w' : World}
theorem nnumber (n : Int) (w : World) : Calls Tryd.prog 12 #[.pointer none, .int .u32 n] w fun e w' => e = .returned (.tuple #[]) ∧ w = w' := by
  go_enter Tryd.func12, Tryd.ntmps12
  go_wp2
  go_end0
  exact ⟨rfl, rfl⟩
theorem nlong (n : Int) (w : World) (h0 : 0 ≤ n) (hn : n < 18446744073709551616) : Calls Tryd.prog 11 #[.pointer none, .int .u64 n] w fun e w' => e = .returned (.tuple #[]) ∧ w = w' := by
  go_enter Tryd.func11, Tryd.ntmps11
  go_wp2_with (go_at_call 12; refine (nnumber _ _).mono ?_; rintro e w1 ⟨rfl, rfl⟩)
  exact ⟨rfl, _, results_none rfl _ _ _, rfl, rfl⟩
theorem nflag (w : World) : Calls Tryd.prog 34 #[.pointer none, .bool true] w fun e w' => e = .returned (.tuple #[]) ∧ w = w' := by
  go_enter Tryd.func34, Tryd.ntmps34
  go_wp2_with (go_at_call 12; refine (nnumber _ _).mono ?_; rintro e w1 ⟨rfl, rfl⟩)
  go_end0
  exact ⟨rfl, rfl⟩
theorem ntext (s : ByteArray) (w : World) : Calls Tryd.prog 35 #[.pointer none, .string s] w fun e w' => e = .returned (.tuple #[]) ∧ w = w' := by
  go_enter Tryd.func35, Tryd.ntmps35
  go_wp2
  exact bodyPost_ret (results_none rfl _ _ _) rfl ⟨rfl, rfl⟩
theorem nbytes (w : World) : Calls Tryd.prog 13 #[.pointer none] w fun e w' => e = .returned (.string ⟨#[]⟩) ∧ w = w' := by
  go_enter Tryd.func13, Tryd.ntmps13
  go_wp2
  go_ret
  exact ⟨rfl, rfl⟩
theorem nlist (g : Nat) (w : World) (h : U32s w (some ⟨g, 0, none⟩) [1, 2]) : Calls Tryd.prog 36 #[.pointer none, .slice (some ⟨g, 0, none⟩) 2 2] w fun e w' => e = .returned (.tuple #[]) ∧ w = w' := by
  have HU := Lib.hid h
  clear h
  go_enter Tryd.func36, Tryd.ntmps36
  go_wp2_with (go_at_call 12; refine (nnumber _ _).mono ?_; rintro e w1 ⟨rfl, rfl⟩)
  go_loopw [13] (fun s13 wr => ∃ k : Nat, s13 = .int .i64 k ∧ k ≤ 2 ∧ Hid (w = wr)) (fun s13 _ => 2 - (intOf s13).toNat)
  case atStart => exact ⟨0, by simp, by omega, Lib.hid rfl⟩
  case round =>
    obtain ⟨k, rfl, hk, hw⟩ := hrel
    have hw := hw.out
    subst hw
    by_cases hlt : k < 2
    · obtain ⟨blk, off, e, hblk, hcell⟩ := HU.out k hlt
      simp only [Option.some.injEq, Addr.mk.injEq] at e
      obtain ⟨rfl, rfl, _⟩ := e
      have c0 := hcell 0 _ rfl
      rw [Nat.mul_one, Nat.add_zero, Nat.zero_add] at c0
      clear hcell
      generalize ([1, 2] : List Nat)[k] = x at c0
      go_wp2_with (go_at_call 12; refine (nnumber _ _).mono ?_; rintro e w1 ⟨rfl, rfl⟩)
      go_roundw
      case rel => exact ⟨k + 1, by simp, by omega, by first | exact Lib.hid rfl | exact Lib.hid trivial⟩
      case measure => simp [intOf]; omega
    · go_wp2
      go_end0
      exact ⟨rfl, rfl⟩
theorem nerr (w : World) : Calls Tryd.prog 32 #[.pointer none] w fun e w' => e = .returned (.int .i64 2) ∧ w = w' := by
  go_enter Tryd.func32, Tryd.ntmps32
  go_wp2
  go_ret
  exact ⟨rfl, rfl⟩
theorem nleft (w : World) : Calls Tryd.prog 33 #[.pointer none] w fun e w' => e = .returned (.int .i64 0) ∧ w = w' := by
  go_enter Tryd.func33, Tryd.ntmps33
  go_wp2
  go_ret
  exact ⟨rfl, rfl⟩
theorem rnumber (w : World) : Calls Tryd.prog 19 #[.pointer none] w fun e w' => e = .returned (.int .u32 0) ∧ w = w' := by
  go_enter Tryd.func19, Tryd.ntmps19
  go_wp2
  go_step3
  go_wp2_with (go_at_call 32; refine (nerr _).mono ?_; rintro e w1 ⟨rfl, rfl⟩)
  try rw [Exit.noGoto_ret]
  go_ret
  exact ⟨rfl, rfl⟩
theorem rlong (w : World) : Calls Tryd.prog 21 #[.pointer none] w fun e w' => e = .returned (.int .u64 0) ∧ w = w' := by
  go_enter Tryd.func21, Tryd.ntmps21
  go_wp2_with (go_at_call 32; refine (nerr _).mono ?_; rintro e w1 ⟨rfl, rfl⟩)
  go_ret
  exact ⟨rfl, rfl⟩
theorem rflag (w : World) : Calls Tryd.prog 23 #[.pointer none] w fun e w' => e = .returned (.bool false) ∧ w = w' := by
  go_enter Tryd.func23, Tryd.ntmps23
  go_wp2
  go_step3
  go_wp2_with (go_at_call 32; refine (nerr _).mono ?_; rintro e w1 ⟨rfl, rfl⟩)
  try rw [Exit.noGoto_ret]
  go_ret
  exact ⟨rfl, rfl⟩
theorem rtext (m : Int) (w : World) : Calls Tryd.prog 25 #[.pointer none, .int .i64 m] w fun e w' => e = .returned (.string ⟨#[]⟩) ∧ w = w' := by
  go_enter Tryd.func25, Tryd.ntmps25
  go_wp2
  go_step3
  go_wp2_with (go_at_call 32; refine (nerr _).mono ?_; rintro e w1 ⟨rfl, rfl⟩)
  try rw [Exit.noGoto_ret]
  go_ret
  exact ⟨rfl, rfl⟩
theorem rlist (m : Int) (w : World) : Calls Tryd.prog 28 #[.pointer none, .int .i64 m] w fun e w' => e = .returned (.slice none 0 0) ∧ w = w' := by
  go_enter Tryd.func28, Tryd.ntmps28
  go_wp2
  go_step3
  go_wp2_with (go_at_call 32; refine (nerr _).mono ?_; rintro e w1 ⟨rfl, rfl⟩)
  try rw [Exit.noGoto_ret]
  go_ret
  exact ⟨rfl, rfl⟩
theorem rend (w : World) : Calls Tryd.prog 30 #[.pointer none] w fun e w' => e = .returned (.int .i64 2) ∧ w = w' := by
  go_enter Tryd.func30, Tryd.ntmps30
  go_wp2_with (go_at_call 32; refine (nerr _).mono ?_; rintro e w1 ⟨rfl, rfl⟩)
  go_ret
  exact ⟨rfl, rfl⟩
set_option maxHeartbeats 4000000 in
theorem xdrNil_walk (a0 : Int) (a1 : ByteArray) (a2 : Int) (w : World) (w0 : (Lit.int .u64 a0).wf = true) (w1 : a1.size ≤ 140737488351232) (w2 : (Lit.int .i64 a2).wf = true) :
    Calls Tryd.prog 9 #[.int .u64 a0, .string a1, .int .i64 a2] w fun e w' => e = .returned (.bool true) ∧ Below w.heap.size w w' := by
  have b0 := bounds_u64 w0
  have H64 := Lib.hid (show 0 ≤ a0 ∧ a0 < 18446744073709551616 by omega)
  clear w0 w1 w2 b0
  go_enter Tryd.func9, Tryd.ntmps9
  go_wp2_with fail
  refine (alive_calls w).mono ?_
  rintro e w1 ⟨rfl, hb⟩
  have H0 := Lib.hid hb
  clear hb
  go_wp2_with (first | (go_at_call 12; refine (nnumber _ _).mono ?_; rintro e w2 ⟨rfl, rfl⟩) | (go_at_call 11; refine (nlong _ _ H64.out.1 H64.out.2).mono ?_; rintro e w2 ⟨rfl, rfl⟩) | (go_at_call 34; refine (nflag _).mono ?_; rintro e w2 ⟨rfl, rfl⟩) | (go_at_call 35; refine (ntext _ _).mono ?_; rintro e w2 ⟨rfl, rfl⟩) | (go_at_call 36; refine stop_here ?_))
  refine Lib.hid ?_
  refine (nlist _ _ (two_at (alloc_at w1 _))).mono ?_
  rintro e w2 ⟨rfl, rfl⟩
  have H1 := Lib.hid (H0.out.alloc H0.out.size (.cells #[.int .u32 1, .int .u32 2] 29))
  clear H0
  generalize w1.alloc (.cells #[.int .u32 1, .int .u32 2] 29) = w2 at H1
  go_wp2_with fail
  refine (alive_calls _).mono ?_
  rintro e w3 ⟨rfl, hb⟩
  have H2 := Lib.hid (below2 H1.out hb)
  clear hb H1
  go_wp2_with (first | (go_at_call 13; refine (nbytes _).mono ?_; rintro e w2 ⟨rfl, rfl⟩) | (go_at_call 19; refine (rnumber _).mono ?_; rintro e w2 ⟨rfl, rfl⟩) | (go_at_call 21; refine (rlong _).mono ?_; rintro e w2 ⟨rfl, rfl⟩) | (go_at_call 23; refine (rflag _).mono ?_; rintro e w2 ⟨rfl, rfl⟩) | (go_at_call 25; refine (rtext _ _).mono ?_; rintro e w2 ⟨rfl, rfl⟩) | (go_at_call 28; refine (rlist _ _).mono ?_; rintro e w2 ⟨rfl, rfl⟩) | (go_at_call 30; refine (rend _).mono ?_; rintro e w2 ⟨rfl, rfl⟩) | (go_at_call 32; refine (nerr _).mono ?_; rintro e w2 ⟨rfl, rfl⟩) | (go_at_call 33; refine (nleft _).mono ?_; rintro e w2 ⟨rfl, rfl⟩))
  go_ret
  exact ⟨rfl, H2.out⟩
end Go.Proofs.YtjmdjikjelhbmaaDoor.Xdr
