/- Layer device: every device has as many blocks as the document says, all noughts; and there is none where there is none. -/
import Derived.Test.YtmphnfkohilojaaDevHas
namespace Go.Proofs.Ytmphnfkohilojaa.Dev
open Go.RowKit Go.Own Go.DevL Go.Blk
set_option linter.unusedVariables false
set_option linter.unusedSimpArgs false
set_option maxRecDepth 100000
set_option maxHeartbeats 4000000 in
theorem sizes_a_bad0 (n at_ : Int) (w : World) (h1 : n < 1) (h3 : at_ < 0) : Calls Try.prog 8 #[.int .i64 n, .int .i64 at_] w fun e w' => e = .returned (.bool true) ∧ Below w.heap.size w w' := by
  have hfl : (fresh n).firm.length = clamp n := by unfold fresh; rw [List.length_replicate]
  have hcl : clamp n = 1 := by unfold clamp; omega
  have HL := Lib.hid (show (fresh n).firm.length = 1 by rw [hfl, hcl])
  have hbad : (fresh n).bad at_ = true := by unfold Dv.bad; rw [HL.out, Bool.or_eq_true, decide_eq_true_eq, decide_eq_true_eq]; omega
  have HE := Lib.hid (show readE (fresh n) at_ = .returned (.tuple #[.string ByteArray.empty, .int .i64 1]) by unfold readE Dv.read; rw [if_pos hbad])
  have HS := Lib.hid (show (fresh n).settled at_ = ByteArray.empty by unfold Dv.settled; rw [if_pos hbad])
  clear hbad hfl hcl
  go_enter Try.func8, Try.ntmps8
  go_wp2_with fail
  refine (alive_calls w).mono ?_
  rintro e w1 ⟨rfl, hb⟩
  have HB1 := Lib.hid hb
  clear hb
  go_wp2_with fail
  refine (has_new n w w1 (X := []) HB1.out (fun k hk => by simp at hk)).mono ?_
  rintro e w2 ⟨⟨p, rfl, h2⟩, _⟩
  have H2 := Lib.hid h2
  clear h2 HB1
  go_wp2_with fail
  refine (has_read H2.out at_).mono ?_
  rw [HE.out]
  rintro e w2 ⟨rfl, rfl⟩
  obtain ⟨w3, H3⟩ : ∃ w3, w3 = w2 ∧ Hid (Has w w3 p (fresh n) []) := ⟨w2, rfl, H2⟩
  obtain ⟨rfl, H3⟩ := H3
  go_wp2_with fail
  refine (has_settled H3.out at_).mono ?_
  rw [HS.out]
  rintro e w3 ⟨rfl, rfl⟩
  go_wp2_with fail
  refine (nil_fuse at_ w3).mono ?_
  rintro e w3 ⟨rfl, rfl⟩
  go_wp2_with fail
  refine (nil_crash 1 w3).mono ?_
  rintro e w3 ⟨rfl, rfl⟩
  go_wp2_with fail
  refine (nil_read at_ w3).mono ?_
  rintro e w3 ⟨rfl, rfl⟩
  go_wp2_with fail
  refine (alive_calls w3).mono ?_
  rintro e w4 ⟨rfl, hb⟩
  have H4 := Lib.hid (H3.out.below hb)
  clear hb H3
  go_wp2_with fail
  refine (has_blocks H4.out).mono ?_
  rw [HL.out]
  rintro e w4 ⟨rfl, rfl⟩
  go_wp2_with fail
  refine (has_dead H4.out).mono ?_
  rintro e w4 ⟨rfl, rfl⟩
  go_wp2_with fail
  refine (nil_blocks w4).mono ?_
  rintro e w4 ⟨rfl, rfl⟩
  go_wp2_with fail
  refine (nil_dead w4).mono ?_
  rintro e w4 ⟨rfl, rfl⟩
  go_wp2_with fail
  refine (nil_write at_ _ w4).mono ?_
  rintro e w4 ⟨rfl, rfl⟩
  go_wp2_with fail
  refine (nil_barrier w4).mono ?_
  rintro e w4 ⟨rfl, rfl⟩
  go_wp2_with fail
  refine (nil_unsettled w4).mono ?_
  rintro e w4 ⟨rfl, rfl⟩
  go_wp2_with fail
  refine (nil_settled at_ w4).mono ?_
  rintro e w4 ⟨rfl, rfl⟩
  go_wp2
  go_ret
  exact ⟨rfl, H4.out.bel⟩
set_option maxHeartbeats 4000000 in
theorem sizes_a_bad1 (n at_ : Int) (w : World) (h1 : n < 1) (h3 : ¬ at_ < 0) (h4 : (1 : Int) ≤ at_) : Calls Try.prog 8 #[.int .i64 n, .int .i64 at_] w fun e w' => e = .returned (.bool true) ∧ Below w.heap.size w w' := by
  have hfl : (fresh n).firm.length = clamp n := by unfold fresh; rw [List.length_replicate]
  have hcl : clamp n = 1 := by unfold clamp; omega
  have HL := Lib.hid (show (fresh n).firm.length = 1 by rw [hfl, hcl])
  have hbad : (fresh n).bad at_ = true := by unfold Dv.bad; rw [HL.out, Bool.or_eq_true, decide_eq_true_eq, decide_eq_true_eq]; omega
  have HE := Lib.hid (show readE (fresh n) at_ = .returned (.tuple #[.string ByteArray.empty, .int .i64 1]) by unfold readE Dv.read; rw [if_pos hbad])
  have HS := Lib.hid (show (fresh n).settled at_ = ByteArray.empty by unfold Dv.settled; rw [if_pos hbad])
  clear hbad hfl hcl
  go_enter Try.func8, Try.ntmps8
  go_wp2_with fail
  refine (alive_calls w).mono ?_
  rintro e w1 ⟨rfl, hb⟩
  have HB1 := Lib.hid hb
  clear hb
  go_wp2_with fail
  refine (has_new n w w1 (X := []) HB1.out (fun k hk => by simp at hk)).mono ?_
  rintro e w2 ⟨⟨p, rfl, h2⟩, _⟩
  have H2 := Lib.hid h2
  clear h2 HB1
  go_wp2_with fail
  refine (has_read H2.out at_).mono ?_
  rw [HE.out]
  rintro e w2 ⟨rfl, rfl⟩
  obtain ⟨w3, H3⟩ : ∃ w3, w3 = w2 ∧ Hid (Has w w3 p (fresh n) []) := ⟨w2, rfl, H2⟩
  obtain ⟨rfl, H3⟩ := H3
  go_wp2_with fail
  refine (has_settled H3.out at_).mono ?_
  rw [HS.out]
  rintro e w3 ⟨rfl, rfl⟩
  go_wp2_with fail
  refine (nil_fuse at_ w3).mono ?_
  rintro e w3 ⟨rfl, rfl⟩
  go_wp2_with fail
  refine (nil_crash 1 w3).mono ?_
  rintro e w3 ⟨rfl, rfl⟩
  go_wp2_with fail
  refine (nil_read at_ w3).mono ?_
  rintro e w3 ⟨rfl, rfl⟩
  go_wp2_with fail
  refine (alive_calls w3).mono ?_
  rintro e w4 ⟨rfl, hb⟩
  have H4 := Lib.hid (H3.out.below hb)
  clear hb H3
  go_wp2_with fail
  refine (has_blocks H4.out).mono ?_
  rw [HL.out]
  rintro e w4 ⟨rfl, rfl⟩
  go_wp2_with fail
  refine (has_dead H4.out).mono ?_
  rintro e w4 ⟨rfl, rfl⟩
  go_wp2_with fail
  refine (nil_blocks w4).mono ?_
  rintro e w4 ⟨rfl, rfl⟩
  go_wp2_with fail
  refine (nil_dead w4).mono ?_
  rintro e w4 ⟨rfl, rfl⟩
  go_wp2_with fail
  refine (nil_write at_ _ w4).mono ?_
  rintro e w4 ⟨rfl, rfl⟩
  go_wp2_with fail
  refine (nil_barrier w4).mono ?_
  rintro e w4 ⟨rfl, rfl⟩
  go_wp2_with fail
  refine (nil_unsettled w4).mono ?_
  rintro e w4 ⟨rfl, rfl⟩
  go_wp2_with fail
  refine (nil_settled at_ w4).mono ?_
  rintro e w4 ⟨rfl, rfl⟩
  go_wp2
  go_ret
  exact ⟨rfl, H4.out.bel⟩
set_option maxHeartbeats 4000000 in
theorem sizes_a_good (n at_ : Int) (w : World) (h1 : n < 1) (h3 : 0 ≤ at_) (h4 : at_ < 1) : Calls Try.prog 8 #[.int .i64 n, .int .i64 at_] w fun e w' => e = .returned (.bool true) ∧ Below w.heap.size w w' := by
  have hfl : (fresh n).firm.length = clamp n := by unfold fresh; rw [List.length_replicate]
  have hcl : clamp n = 1 := by unfold clamp; omega
  have HL := Lib.hid (show (fresh n).firm.length = 1 by rw [hfl, hcl])
  have hbad : ¬ (fresh n).bad at_ = true := by unfold Dv.bad; rw [HL.out, Bool.or_eq_true, decide_eq_true_eq, decide_eq_true_eq]; omega
  have hget : (fresh n).firm.getD at_.toNat ByteArray.empty = Z := by
    have h2 : at_.toNat < clamp n := by omega
    unfold fresh Z
    simp only [List.getD, List.getElem?_replicate, h2, if_true, Option.getD_some]
  have HE := Lib.hid (show readE (fresh n) at_ = .returned (.tuple #[.string Z, .int .i64 0]) by unfold readE Dv.read; rw [if_neg hbad, if_neg (show ¬ (fresh n).dead = true from by simp [fresh])]; rw [show (fresh n).now = (fresh n).firm from rfl, hget])
  have HS := Lib.hid (show (fresh n).settled at_ = Z by unfold Dv.settled; rw [if_neg hbad, hget])
  have HZ := Lib.hid (show ∀ W, Calls Try.prog 11 #[.int .u8 0, .int .i64 256] W fun e w' => e = .returned (.string Z) ∧ Below W.heap.size W w' from fun W => block_any 0 256 (by decide) W)
  clear hbad hfl hcl hget
  go_enter Try.func8, Try.ntmps8
  go_wp2_with fail
  refine (alive_calls w).mono ?_
  rintro e w1 ⟨rfl, hb⟩
  have HB1 := Lib.hid hb
  clear hb
  go_wp2_with fail
  refine (has_new n w w1 (X := []) HB1.out (fun k hk => by simp at hk)).mono ?_
  rintro e w2 ⟨⟨p, rfl, h2⟩, _⟩
  have H2 := Lib.hid h2
  clear h2 HB1
  go_wp2_with fail
  refine (has_read H2.out at_).mono ?_
  rw [HE.out]
  rintro e w2 ⟨rfl, rfl⟩
  go_wp2_with fail
  refine (HZ.out w2).mono ?_
  rintro e w3 ⟨rfl, hb⟩
  have H3 := Lib.hid (H2.out.below hb)
  clear hb H2
  go_wp2_with fail
  refine (has_settled H3.out at_).mono ?_
  rw [HS.out]
  rintro e w3 ⟨rfl, rfl⟩
  go_wp2_with fail
  refine (nil_fuse at_ w3).mono ?_
  rintro e w3 ⟨rfl, rfl⟩
  go_wp2_with fail
  refine (nil_crash 1 w3).mono ?_
  rintro e w3 ⟨rfl, rfl⟩
  go_wp2_with fail
  refine (nil_read at_ w3).mono ?_
  rintro e w3 ⟨rfl, rfl⟩
  go_wp2_with fail
  refine (alive_calls w3).mono ?_
  rintro e w4 ⟨rfl, hb⟩
  have H4 := Lib.hid (H3.out.below hb)
  clear hb H3
  go_wp2_with fail
  refine (has_blocks H4.out).mono ?_
  rw [HL.out]
  rintro e w4 ⟨rfl, rfl⟩
  go_wp2_with fail
  refine (has_dead H4.out).mono ?_
  rintro e w4 ⟨rfl, rfl⟩
  go_wp2_with fail
  refine (nil_blocks w4).mono ?_
  rintro e w4 ⟨rfl, rfl⟩
  go_wp2_with fail
  refine (nil_dead w4).mono ?_
  rintro e w4 ⟨rfl, rfl⟩
  go_wp2_with fail
  refine (nil_write at_ _ w4).mono ?_
  rintro e w4 ⟨rfl, rfl⟩
  go_wp2_with fail
  refine (nil_barrier w4).mono ?_
  rintro e w4 ⟨rfl, rfl⟩
  go_wp2_with fail
  refine (nil_unsettled w4).mono ?_
  rintro e w4 ⟨rfl, rfl⟩
  go_wp2_with fail
  refine (nil_settled at_ w4).mono ?_
  rintro e w4 ⟨rfl, rfl⟩
  go_wp2
  go_ret
  exact ⟨rfl, H4.out.bel⟩
set_option maxHeartbeats 4000000 in
theorem sizes_b_bad0 (n at_ : Int) (w : World) (h1 : 1024 < n) (h3 : at_ < 0) : Calls Try.prog 8 #[.int .i64 n, .int .i64 at_] w fun e w' => e = .returned (.bool true) ∧ Below w.heap.size w w' := by
  have hfl : (fresh n).firm.length = clamp n := by unfold fresh; rw [List.length_replicate]
  have hcl : clamp n = 1024 := by unfold clamp; omega
  have HL := Lib.hid (show (fresh n).firm.length = 1024 by rw [hfl, hcl])
  have hbad : (fresh n).bad at_ = true := by unfold Dv.bad; rw [HL.out, Bool.or_eq_true, decide_eq_true_eq, decide_eq_true_eq]; omega
  have HE := Lib.hid (show readE (fresh n) at_ = .returned (.tuple #[.string ByteArray.empty, .int .i64 1]) by unfold readE Dv.read; rw [if_pos hbad])
  have HS := Lib.hid (show (fresh n).settled at_ = ByteArray.empty by unfold Dv.settled; rw [if_pos hbad])
  clear hbad hfl hcl
  go_enter Try.func8, Try.ntmps8
  go_wp2_with fail
  refine (alive_calls w).mono ?_
  rintro e w1 ⟨rfl, hb⟩
  have HB1 := Lib.hid hb
  clear hb
  go_wp2_with fail
  refine (has_new n w w1 (X := []) HB1.out (fun k hk => by simp at hk)).mono ?_
  rintro e w2 ⟨⟨p, rfl, h2⟩, _⟩
  have H2 := Lib.hid h2
  clear h2 HB1
  go_wp2_with fail
  refine (has_read H2.out at_).mono ?_
  rw [HE.out]
  rintro e w2 ⟨rfl, rfl⟩
  obtain ⟨w3, H3⟩ : ∃ w3, w3 = w2 ∧ Hid (Has w w3 p (fresh n) []) := ⟨w2, rfl, H2⟩
  obtain ⟨rfl, H3⟩ := H3
  go_wp2_with fail
  refine (has_settled H3.out at_).mono ?_
  rw [HS.out]
  rintro e w3 ⟨rfl, rfl⟩
  go_wp2_with fail
  refine (nil_fuse at_ w3).mono ?_
  rintro e w3 ⟨rfl, rfl⟩
  go_wp2_with fail
  refine (nil_crash 1 w3).mono ?_
  rintro e w3 ⟨rfl, rfl⟩
  go_wp2_with fail
  refine (nil_read at_ w3).mono ?_
  rintro e w3 ⟨rfl, rfl⟩
  go_wp2_with fail
  refine (alive_calls w3).mono ?_
  rintro e w4 ⟨rfl, hb⟩
  have H4 := Lib.hid (H3.out.below hb)
  clear hb H3
  go_wp2_with fail
  refine (has_blocks H4.out).mono ?_
  rw [HL.out]
  rintro e w4 ⟨rfl, rfl⟩
  go_wp2_with fail
  refine (has_dead H4.out).mono ?_
  rintro e w4 ⟨rfl, rfl⟩
  go_wp2_with fail
  refine (nil_blocks w4).mono ?_
  rintro e w4 ⟨rfl, rfl⟩
  go_wp2_with fail
  refine (nil_dead w4).mono ?_
  rintro e w4 ⟨rfl, rfl⟩
  go_wp2_with fail
  refine (nil_write at_ _ w4).mono ?_
  rintro e w4 ⟨rfl, rfl⟩
  go_wp2_with fail
  refine (nil_barrier w4).mono ?_
  rintro e w4 ⟨rfl, rfl⟩
  go_wp2_with fail
  refine (nil_unsettled w4).mono ?_
  rintro e w4 ⟨rfl, rfl⟩
  go_wp2_with fail
  refine (nil_settled at_ w4).mono ?_
  rintro e w4 ⟨rfl, rfl⟩
  go_wp2
  go_ret
  exact ⟨rfl, H4.out.bel⟩
set_option maxHeartbeats 4000000 in
theorem sizes_b_bad1 (n at_ : Int) (w : World) (h1 : 1024 < n) (h3 : ¬ at_ < 0) (h4 : (1024 : Int) ≤ at_) : Calls Try.prog 8 #[.int .i64 n, .int .i64 at_] w fun e w' => e = .returned (.bool true) ∧ Below w.heap.size w w' := by
  have hfl : (fresh n).firm.length = clamp n := by unfold fresh; rw [List.length_replicate]
  have hcl : clamp n = 1024 := by unfold clamp; omega
  have HL := Lib.hid (show (fresh n).firm.length = 1024 by rw [hfl, hcl])
  have hbad : (fresh n).bad at_ = true := by unfold Dv.bad; rw [HL.out, Bool.or_eq_true, decide_eq_true_eq, decide_eq_true_eq]; omega
  have HE := Lib.hid (show readE (fresh n) at_ = .returned (.tuple #[.string ByteArray.empty, .int .i64 1]) by unfold readE Dv.read; rw [if_pos hbad])
  have HS := Lib.hid (show (fresh n).settled at_ = ByteArray.empty by unfold Dv.settled; rw [if_pos hbad])
  clear hbad hfl hcl
  go_enter Try.func8, Try.ntmps8
  go_wp2_with fail
  refine (alive_calls w).mono ?_
  rintro e w1 ⟨rfl, hb⟩
  have HB1 := Lib.hid hb
  clear hb
  go_wp2_with fail
  refine (has_new n w w1 (X := []) HB1.out (fun k hk => by simp at hk)).mono ?_
  rintro e w2 ⟨⟨p, rfl, h2⟩, _⟩
  have H2 := Lib.hid h2
  clear h2 HB1
  go_wp2_with fail
  refine (has_read H2.out at_).mono ?_
  rw [HE.out]
  rintro e w2 ⟨rfl, rfl⟩
  obtain ⟨w3, H3⟩ : ∃ w3, w3 = w2 ∧ Hid (Has w w3 p (fresh n) []) := ⟨w2, rfl, H2⟩
  obtain ⟨rfl, H3⟩ := H3
  go_wp2_with fail
  refine (has_settled H3.out at_).mono ?_
  rw [HS.out]
  rintro e w3 ⟨rfl, rfl⟩
  go_wp2_with fail
  refine (nil_fuse at_ w3).mono ?_
  rintro e w3 ⟨rfl, rfl⟩
  go_wp2_with fail
  refine (nil_crash 1 w3).mono ?_
  rintro e w3 ⟨rfl, rfl⟩
  go_wp2_with fail
  refine (nil_read at_ w3).mono ?_
  rintro e w3 ⟨rfl, rfl⟩
  go_wp2_with fail
  refine (alive_calls w3).mono ?_
  rintro e w4 ⟨rfl, hb⟩
  have H4 := Lib.hid (H3.out.below hb)
  clear hb H3
  go_wp2_with fail
  refine (has_blocks H4.out).mono ?_
  rw [HL.out]
  rintro e w4 ⟨rfl, rfl⟩
  go_wp2_with fail
  refine (has_dead H4.out).mono ?_
  rintro e w4 ⟨rfl, rfl⟩
  go_wp2_with fail
  refine (nil_blocks w4).mono ?_
  rintro e w4 ⟨rfl, rfl⟩
  go_wp2_with fail
  refine (nil_dead w4).mono ?_
  rintro e w4 ⟨rfl, rfl⟩
  go_wp2_with fail
  refine (nil_write at_ _ w4).mono ?_
  rintro e w4 ⟨rfl, rfl⟩
  go_wp2_with fail
  refine (nil_barrier w4).mono ?_
  rintro e w4 ⟨rfl, rfl⟩
  go_wp2_with fail
  refine (nil_unsettled w4).mono ?_
  rintro e w4 ⟨rfl, rfl⟩
  go_wp2_with fail
  refine (nil_settled at_ w4).mono ?_
  rintro e w4 ⟨rfl, rfl⟩
  go_wp2
  go_ret
  exact ⟨rfl, H4.out.bel⟩
set_option maxHeartbeats 4000000 in
theorem sizes_b_good (n at_ : Int) (w : World) (h1 : 1024 < n) (h3 : 0 ≤ at_) (h4 : at_ < 1024) : Calls Try.prog 8 #[.int .i64 n, .int .i64 at_] w fun e w' => e = .returned (.bool true) ∧ Below w.heap.size w w' := by
  have hfl : (fresh n).firm.length = clamp n := by unfold fresh; rw [List.length_replicate]
  have hcl : clamp n = 1024 := by unfold clamp; omega
  have HL := Lib.hid (show (fresh n).firm.length = 1024 by rw [hfl, hcl])
  have hbad : ¬ (fresh n).bad at_ = true := by unfold Dv.bad; rw [HL.out, Bool.or_eq_true, decide_eq_true_eq, decide_eq_true_eq]; omega
  have hget : (fresh n).firm.getD at_.toNat ByteArray.empty = Z := by
    have h2 : at_.toNat < clamp n := by omega
    unfold fresh Z
    simp only [List.getD, List.getElem?_replicate, h2, if_true, Option.getD_some]
  have HE := Lib.hid (show readE (fresh n) at_ = .returned (.tuple #[.string Z, .int .i64 0]) by unfold readE Dv.read; rw [if_neg hbad, if_neg (show ¬ (fresh n).dead = true from by simp [fresh])]; rw [show (fresh n).now = (fresh n).firm from rfl, hget])
  have HS := Lib.hid (show (fresh n).settled at_ = Z by unfold Dv.settled; rw [if_neg hbad, hget])
  have HZ := Lib.hid (show ∀ W, Calls Try.prog 11 #[.int .u8 0, .int .i64 256] W fun e w' => e = .returned (.string Z) ∧ Below W.heap.size W w' from fun W => block_any 0 256 (by decide) W)
  clear hbad hfl hcl hget
  go_enter Try.func8, Try.ntmps8
  go_wp2_with fail
  refine (alive_calls w).mono ?_
  rintro e w1 ⟨rfl, hb⟩
  have HB1 := Lib.hid hb
  clear hb
  go_wp2_with fail
  refine (has_new n w w1 (X := []) HB1.out (fun k hk => by simp at hk)).mono ?_
  rintro e w2 ⟨⟨p, rfl, h2⟩, _⟩
  have H2 := Lib.hid h2
  clear h2 HB1
  go_wp2_with fail
  refine (has_read H2.out at_).mono ?_
  rw [HE.out]
  rintro e w2 ⟨rfl, rfl⟩
  go_wp2_with fail
  refine (HZ.out w2).mono ?_
  rintro e w3 ⟨rfl, hb⟩
  have H3 := Lib.hid (H2.out.below hb)
  clear hb H2
  go_wp2_with fail
  refine (has_settled H3.out at_).mono ?_
  rw [HS.out]
  rintro e w3 ⟨rfl, rfl⟩
  go_wp2_with fail
  refine (nil_fuse at_ w3).mono ?_
  rintro e w3 ⟨rfl, rfl⟩
  go_wp2_with fail
  refine (nil_crash 1 w3).mono ?_
  rintro e w3 ⟨rfl, rfl⟩
  go_wp2_with fail
  refine (nil_read at_ w3).mono ?_
  rintro e w3 ⟨rfl, rfl⟩
  go_wp2_with fail
  refine (alive_calls w3).mono ?_
  rintro e w4 ⟨rfl, hb⟩
  have H4 := Lib.hid (H3.out.below hb)
  clear hb H3
  go_wp2_with fail
  refine (has_blocks H4.out).mono ?_
  rw [HL.out]
  rintro e w4 ⟨rfl, rfl⟩
  go_wp2_with fail
  refine (has_dead H4.out).mono ?_
  rintro e w4 ⟨rfl, rfl⟩
  go_wp2_with fail
  refine (nil_blocks w4).mono ?_
  rintro e w4 ⟨rfl, rfl⟩
  go_wp2_with fail
  refine (nil_dead w4).mono ?_
  rintro e w4 ⟨rfl, rfl⟩
  go_wp2_with fail
  refine (nil_write at_ _ w4).mono ?_
  rintro e w4 ⟨rfl, rfl⟩
  go_wp2_with fail
  refine (nil_barrier w4).mono ?_
  rintro e w4 ⟨rfl, rfl⟩
  go_wp2_with fail
  refine (nil_unsettled w4).mono ?_
  rintro e w4 ⟨rfl, rfl⟩
  go_wp2_with fail
  refine (nil_settled at_ w4).mono ?_
  rintro e w4 ⟨rfl, rfl⟩
  go_wp2
  go_ret
  exact ⟨rfl, H4.out.bel⟩
set_option maxHeartbeats 4000000 in
theorem sizes_c_bad0 (n at_ : Int) (w : World) (h1 : 1 ≤ n) (h2 : n ≤ 1024) (h3 : at_ < 0) : Calls Try.prog 8 #[.int .i64 n, .int .i64 at_] w fun e w' => e = .returned (.bool true) ∧ Below w.heap.size w w' := by
  have hfl : (fresh n).firm.length = clamp n := by unfold fresh; rw [List.length_replicate]
  have hcl : clamp n = n.toNat := by unfold clamp; omega
  have HL := Lib.hid (show (fresh n).firm.length = n.toNat by rw [hfl, hcl])
  have hbad : (fresh n).bad at_ = true := by unfold Dv.bad; rw [HL.out, Bool.or_eq_true, decide_eq_true_eq, decide_eq_true_eq]; omega
  have HE := Lib.hid (show readE (fresh n) at_ = .returned (.tuple #[.string ByteArray.empty, .int .i64 1]) by unfold readE Dv.read; rw [if_pos hbad])
  have HS := Lib.hid (show (fresh n).settled at_ = ByteArray.empty by unfold Dv.settled; rw [if_pos hbad])
  clear hbad hfl hcl
  obtain ⟨m, rfl⟩ := Int.eq_ofNat_of_zero_le (show 0 ≤ n by omega)
  rw [Int.toNat_natCast] at HL
  go_enter Try.func8, Try.ntmps8
  go_wp2_with fail
  refine (alive_calls w).mono ?_
  rintro e w1 ⟨rfl, hb⟩
  have HB1 := Lib.hid hb
  clear hb
  go_wp2_with fail
  refine (has_new (m : Int) w w1 (X := []) HB1.out (fun k hk => by simp at hk)).mono ?_
  rintro e w2 ⟨⟨p, rfl, h2⟩, _⟩
  have H2 := Lib.hid h2
  clear h2 HB1
  go_wp2_with fail
  refine (has_read H2.out at_).mono ?_
  rw [HE.out]
  rintro e w2 ⟨rfl, rfl⟩
  obtain ⟨w3, H3⟩ : ∃ w3, w3 = w2 ∧ Hid (Has w w3 p (fresh (m : Int)) []) := ⟨w2, rfl, H2⟩
  obtain ⟨rfl, H3⟩ := H3
  go_wp2_with fail
  refine (has_settled H3.out at_).mono ?_
  rw [HS.out]
  rintro e w3 ⟨rfl, rfl⟩
  go_wp2_with fail
  refine (nil_fuse at_ w3).mono ?_
  rintro e w3 ⟨rfl, rfl⟩
  go_wp2_with fail
  refine (nil_crash 1 w3).mono ?_
  rintro e w3 ⟨rfl, rfl⟩
  go_wp2_with fail
  refine (nil_read at_ w3).mono ?_
  rintro e w3 ⟨rfl, rfl⟩
  go_wp2_with fail
  refine (alive_calls w3).mono ?_
  rintro e w4 ⟨rfl, hb⟩
  have H4 := Lib.hid (H3.out.below hb)
  clear hb H3
  go_wp2_with fail
  refine (has_blocks H4.out).mono ?_
  rw [HL.out]
  rintro e w4 ⟨rfl, rfl⟩
  go_wp2_with fail
  refine (has_dead H4.out).mono ?_
  rintro e w4 ⟨rfl, rfl⟩
  go_wp2_with fail
  refine (nil_blocks w4).mono ?_
  rintro e w4 ⟨rfl, rfl⟩
  go_wp2_with fail
  refine (nil_dead w4).mono ?_
  rintro e w4 ⟨rfl, rfl⟩
  go_wp2_with fail
  refine (nil_write at_ _ w4).mono ?_
  rintro e w4 ⟨rfl, rfl⟩
  go_wp2_with fail
  refine (nil_barrier w4).mono ?_
  rintro e w4 ⟨rfl, rfl⟩
  go_wp2_with fail
  refine (nil_unsettled w4).mono ?_
  rintro e w4 ⟨rfl, rfl⟩
  go_wp2_with fail
  refine (nil_settled at_ w4).mono ?_
  rintro e w4 ⟨rfl, rfl⟩
  go_wp2
  go_ret
  exact ⟨rfl, H4.out.bel⟩
set_option maxHeartbeats 4000000 in
theorem sizes_c_bad1 (n at_ : Int) (w : World) (h1 : 1 ≤ n) (h2 : n ≤ 1024) (h3 : ¬ at_ < 0) (h4 : (n : Int) ≤ at_) : Calls Try.prog 8 #[.int .i64 n, .int .i64 at_] w fun e w' => e = .returned (.bool true) ∧ Below w.heap.size w w' := by
  have hfl : (fresh n).firm.length = clamp n := by unfold fresh; rw [List.length_replicate]
  have hcl : clamp n = n.toNat := by unfold clamp; omega
  have HL := Lib.hid (show (fresh n).firm.length = n.toNat by rw [hfl, hcl])
  have hbad : (fresh n).bad at_ = true := by unfold Dv.bad; rw [HL.out, Bool.or_eq_true, decide_eq_true_eq, decide_eq_true_eq]; omega
  have HE := Lib.hid (show readE (fresh n) at_ = .returned (.tuple #[.string ByteArray.empty, .int .i64 1]) by unfold readE Dv.read; rw [if_pos hbad])
  have HS := Lib.hid (show (fresh n).settled at_ = ByteArray.empty by unfold Dv.settled; rw [if_pos hbad])
  clear hbad hfl hcl
  obtain ⟨m, rfl⟩ := Int.eq_ofNat_of_zero_le (show 0 ≤ n by omega)
  rw [Int.toNat_natCast] at HL
  go_enter Try.func8, Try.ntmps8
  go_wp2_with fail
  refine (alive_calls w).mono ?_
  rintro e w1 ⟨rfl, hb⟩
  have HB1 := Lib.hid hb
  clear hb
  go_wp2_with fail
  refine (has_new (m : Int) w w1 (X := []) HB1.out (fun k hk => by simp at hk)).mono ?_
  rintro e w2 ⟨⟨p, rfl, h2⟩, _⟩
  have H2 := Lib.hid h2
  clear h2 HB1
  go_wp2_with fail
  refine (has_read H2.out at_).mono ?_
  rw [HE.out]
  rintro e w2 ⟨rfl, rfl⟩
  obtain ⟨w3, H3⟩ : ∃ w3, w3 = w2 ∧ Hid (Has w w3 p (fresh (m : Int)) []) := ⟨w2, rfl, H2⟩
  obtain ⟨rfl, H3⟩ := H3
  go_wp2_with fail
  refine (has_settled H3.out at_).mono ?_
  rw [HS.out]
  rintro e w3 ⟨rfl, rfl⟩
  go_wp2_with fail
  refine (nil_fuse at_ w3).mono ?_
  rintro e w3 ⟨rfl, rfl⟩
  go_wp2_with fail
  refine (nil_crash 1 w3).mono ?_
  rintro e w3 ⟨rfl, rfl⟩
  go_wp2_with fail
  refine (nil_read at_ w3).mono ?_
  rintro e w3 ⟨rfl, rfl⟩
  go_wp2_with fail
  refine (alive_calls w3).mono ?_
  rintro e w4 ⟨rfl, hb⟩
  have H4 := Lib.hid (H3.out.below hb)
  clear hb H3
  go_wp2_with fail
  refine (has_blocks H4.out).mono ?_
  rw [HL.out]
  rintro e w4 ⟨rfl, rfl⟩
  go_wp2_with fail
  refine (has_dead H4.out).mono ?_
  rintro e w4 ⟨rfl, rfl⟩
  go_wp2_with fail
  refine (nil_blocks w4).mono ?_
  rintro e w4 ⟨rfl, rfl⟩
  go_wp2_with fail
  refine (nil_dead w4).mono ?_
  rintro e w4 ⟨rfl, rfl⟩
  go_wp2_with fail
  refine (nil_write at_ _ w4).mono ?_
  rintro e w4 ⟨rfl, rfl⟩
  go_wp2_with fail
  refine (nil_barrier w4).mono ?_
  rintro e w4 ⟨rfl, rfl⟩
  go_wp2_with fail
  refine (nil_unsettled w4).mono ?_
  rintro e w4 ⟨rfl, rfl⟩
  go_wp2_with fail
  refine (nil_settled at_ w4).mono ?_
  rintro e w4 ⟨rfl, rfl⟩
  go_wp2
  go_ret
  exact ⟨rfl, H4.out.bel⟩
set_option maxHeartbeats 4000000 in
theorem sizes_c_good (n at_ : Int) (w : World) (h1 : 1 ≤ n) (h2 : n ≤ 1024) (h3 : 0 ≤ at_) (h4 : at_ < n) : Calls Try.prog 8 #[.int .i64 n, .int .i64 at_] w fun e w' => e = .returned (.bool true) ∧ Below w.heap.size w w' := by
  have hfl : (fresh n).firm.length = clamp n := by unfold fresh; rw [List.length_replicate]
  have hcl : clamp n = n.toNat := by unfold clamp; omega
  have HL := Lib.hid (show (fresh n).firm.length = n.toNat by rw [hfl, hcl])
  have hbad : ¬ (fresh n).bad at_ = true := by unfold Dv.bad; rw [HL.out, Bool.or_eq_true, decide_eq_true_eq, decide_eq_true_eq]; omega
  have hget : (fresh n).firm.getD at_.toNat ByteArray.empty = Z := by
    have h2 : at_.toNat < clamp n := by omega
    unfold fresh Z
    simp only [List.getD, List.getElem?_replicate, h2, if_true, Option.getD_some]
  have HE := Lib.hid (show readE (fresh n) at_ = .returned (.tuple #[.string Z, .int .i64 0]) by unfold readE Dv.read; rw [if_neg hbad, if_neg (show ¬ (fresh n).dead = true from by simp [fresh])]; rw [show (fresh n).now = (fresh n).firm from rfl, hget])
  have HS := Lib.hid (show (fresh n).settled at_ = Z by unfold Dv.settled; rw [if_neg hbad, hget])
  have HZ := Lib.hid (show ∀ W, Calls Try.prog 11 #[.int .u8 0, .int .i64 256] W fun e w' => e = .returned (.string Z) ∧ Below W.heap.size W w' from fun W => block_any 0 256 (by decide) W)
  clear hbad hfl hcl hget
  obtain ⟨m, rfl⟩ := Int.eq_ofNat_of_zero_le (show 0 ≤ n by omega)
  rw [Int.toNat_natCast] at HL
  go_enter Try.func8, Try.ntmps8
  go_wp2_with fail
  refine (alive_calls w).mono ?_
  rintro e w1 ⟨rfl, hb⟩
  have HB1 := Lib.hid hb
  clear hb
  go_wp2_with fail
  refine (has_new (m : Int) w w1 (X := []) HB1.out (fun k hk => by simp at hk)).mono ?_
  rintro e w2 ⟨⟨p, rfl, h2⟩, _⟩
  have H2 := Lib.hid h2
  clear h2 HB1
  go_wp2_with fail
  refine (has_read H2.out at_).mono ?_
  rw [HE.out]
  rintro e w2 ⟨rfl, rfl⟩
  go_wp2_with fail
  refine (HZ.out w2).mono ?_
  rintro e w3 ⟨rfl, hb⟩
  have H3 := Lib.hid (H2.out.below hb)
  clear hb H2
  go_wp2_with fail
  refine (has_settled H3.out at_).mono ?_
  rw [HS.out]
  rintro e w3 ⟨rfl, rfl⟩
  go_wp2_with fail
  refine (nil_fuse at_ w3).mono ?_
  rintro e w3 ⟨rfl, rfl⟩
  go_wp2_with fail
  refine (nil_crash 1 w3).mono ?_
  rintro e w3 ⟨rfl, rfl⟩
  go_wp2_with fail
  refine (nil_read at_ w3).mono ?_
  rintro e w3 ⟨rfl, rfl⟩
  go_wp2_with fail
  refine (alive_calls w3).mono ?_
  rintro e w4 ⟨rfl, hb⟩
  have H4 := Lib.hid (H3.out.below hb)
  clear hb H3
  go_wp2_with fail
  refine (has_blocks H4.out).mono ?_
  rw [HL.out]
  rintro e w4 ⟨rfl, rfl⟩
  go_wp2_with fail
  refine (has_dead H4.out).mono ?_
  rintro e w4 ⟨rfl, rfl⟩
  go_wp2_with fail
  refine (nil_blocks w4).mono ?_
  rintro e w4 ⟨rfl, rfl⟩
  go_wp2_with fail
  refine (nil_dead w4).mono ?_
  rintro e w4 ⟨rfl, rfl⟩
  go_wp2_with fail
  refine (nil_write at_ _ w4).mono ?_
  rintro e w4 ⟨rfl, rfl⟩
  go_wp2_with fail
  refine (nil_barrier w4).mono ?_
  rintro e w4 ⟨rfl, rfl⟩
  go_wp2_with fail
  refine (nil_unsettled w4).mono ?_
  rintro e w4 ⟨rfl, rfl⟩
  go_wp2_with fail
  refine (nil_settled at_ w4).mono ?_
  rintro e w4 ⟨rfl, rfl⟩
  go_wp2
  go_ret
  exact ⟨rfl, H4.out.bel⟩
theorem deviceSizes_walk (n at_ : Int) (w : World) : Calls Try.prog 8 #[.int .i64 n, .int .i64 at_] w fun e w' => e = .returned (.bool true) ∧ Below w.heap.size w w' := by
  by_cases h1 : n < 1
  · by_cases h3 : at_ < 0
    · exact sizes_a_bad0 n at_ w h1 h3
    · by_cases h4 : (1 : Int) ≤ at_
      · exact sizes_a_bad1 n at_ w h1 h3 h4
      · exact sizes_a_good n at_ w h1 (by omega) (by omega)
  · by_cases h2 : 1024 < n
    · by_cases h3 : at_ < 0
      · exact sizes_b_bad0 n at_ w h2 h3
      · by_cases h4 : (1024 : Int) ≤ at_
        · exact sizes_b_bad1 n at_ w h2 h3 h4
        · exact sizes_b_good n at_ w h2 (by omega) (by omega)
    · by_cases h3 : at_ < 0
      · exact sizes_c_bad0 n at_ w (by omega) (by omega) h3
      · by_cases h4 : n ≤ at_
        · exact sizes_c_bad1 n at_ w (by omega) (by omega) h3 h4
        · exact sizes_c_good n at_ w (by omega) (by omega) (by omega) (by omega)
end Go.Proofs.Ytmphnfkohilojaa.Dev
namespace Go.Proofs.Ytmphnfkohilojaa.deviceSizes
open Go.RowKit
set_option linter.unusedVariables false
theorem deviceSizes_walk (a0 : Int) (a1 : Int) (w : World) (w0 : (Lit.int .i64 a0).wf = true) (w1 : (Lit.int .i64 a1).wf = true) :
    Calls Try.prog 8 #[.int .i64 a0, .int .i64 a1] w fun e w' => e = .returned (.bool true) ∧ Below w.heap.size w w' := Dev.deviceSizes_walk a0 a1 w
end Go.Proofs.Ytmphnfkohilojaa.deviceSizes
