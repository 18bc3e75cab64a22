/- Layer xdr: the reader. -/
import Derived.Test.YtiedmkgdhfkcoaaDoorXdrW
import Derived.Lib.ConvBytes
import Derived.Test.YtiedmkgdhfkcoaaDoorGoto
namespace Go.Proofs.YtiedmkgdhfkcoaaDoor.Xdr
open Go.RowKit Go.Own Go.XdrL Go.Blk Go.OpsL Go.Proofs.YtiedmkgdhfkcoaaDoorW.PrintLast Go.Proofs.YtiedmkgdhfkcoaaDoorW.PrintWords
set_option linter.unusedVariables false
set_option linter.unusedSimpArgs false
/-- A reader lies at block p. -/
def RAt (w : World) (p : Nat) (r : Rd) : Prop := w.heap[p]? = some (.cells #[.string r.s, .int .i64 (r.e : Int)] 103 (0, 0)) ∧ r.s.size ≤ 140737488355328
variable {w w' : World} {p : Nat} {r : Rd}
theorem RAt.keep {G : Nat → Prop} (h : RAt w p r) (hF : Fr G w w') (hG : ¬ G p) : RAt w' p r := ⟨hF.at h.1 hG, h.2⟩
theorem RAt.below (h : RAt w p r) (hb : Below w.heap.size w w') : RAt w' p r := ⟨below_old h.1 hb, h.2⟩
theorem RAt.blk (h : RAt w p r) : w.cell? ⟨p, 0, none⟩ = some (.string r.s) ∧ w.frozen? ⟨p, 0, none⟩ = false ∧ w.cell? ⟨p, 1, none⟩ = some (.int .i64 (r.e : Int)) ∧ w.frozen? ⟨p, 1, none⟩ = false := blk2 h.1
theorem RAt.fail (h : RAt w p r) (e : Nat) : RAt (w.setCell ⟨p, 1, none⟩ (.int .i64 (e : Int))) p (r.fail e) ∧ Fr (· = p) w (w.setCell ⟨p, 1, none⟩ (.int .i64 (e : Int))) :=
  ⟨⟨by simpa [Rd.fail] using set_at h.1 1 (.int .i64 (e : Int)), h.2⟩, Fr.setCell (F := (· = p)) w (p := ⟨p, 1, none⟩) rfl _⟩
theorem RAt.skip (h : RAt w p r) (n : Nat) : RAt (w.setCell ⟨p, 0, none⟩ (.string (r.s.extract n r.s.size))) p (r.skip n) ∧ Fr (· = p) w (w.setCell ⟨p, 0, none⟩ (.string (r.s.extract n r.s.size))) :=
  ⟨⟨by simpa [Rd.skip] using set_at h.1 0 (.string (r.s.extract n r.s.size)), by have := h.2; simp only [Rd.skip, ByteArray.size_extract]; omega⟩, Fr.setCell (F := (· = p)) w (p := ⟨p, 0, none⟩) rfl _⟩
theorem i64_or_nat (a b : Nat) (ha : a < 4611686018427387904) (hb : b < 4611686018427387904) : bits .or .i64 (a : Int) (b : Int) = ((a ||| b : Nat) : Int) := by
  have hx : a ||| b < 2 ^ 62 := Nat.or_lt_two_pow (by omega) (by omega)
  show IntKind.i64.wrap ((BitVec.ofInt 64 (a : Int) ||| BitVec.ofInt 64 (b : Int)).toNat : Int) = _
  rw [BitVec.toNat_or, ofInt_u64 a (by omega), ofInt_u64 b (by omega)]
  rw [IntKind.wrap_i64]; omega
theorem err_calls (h : RAt w p r) : Calls Tryd.prog 48 #[.pointer (some ⟨p, 0, none⟩)] w fun e w' => e = .returned (.int .i64 (r.e : Int)) ∧ w = w' := by
  obtain ⟨x0, y0, x1, y1⟩ := h.blk
  have hm := h.2
  go_enter Tryd.func48, Tryd.ntmps48
  go_wp2
  go_ret
  exact ⟨rfl, rfl⟩
theorem err_ok (h : RAt w p r) (he : r.e = 0) : Calls Tryd.prog 48 #[.pointer (some ⟨p, 0, none⟩)] w fun e w' => e = .returned (.int .i64 0) ∧ w = w' := by
  have := err_calls h
  rw [he] at this
  exact this
theorem new_calls (s : ByteArray) (w : World) (hs : s.size ≤ 140737488355328) : Calls Tryd.prog 39 #[.string s] w fun e w' => e = .returned (.pointer (some ⟨w.heap.size, 0, none⟩)) ∧ RAt w' w.heap.size ⟨s, 0⟩ ∧ Below w.heap.size w w' := by
  go_enter Tryd.func39, Tryd.ntmps39
  go_wp2
  go_ret
  exact ⟨rfl, ⟨alloc_at w _, hs⟩, (Below.refl _ _).alloc (Nat.le_refl _) _⟩
theorem peek_short (h : RAt w p r) (hs : r.s.size < 4) : Calls Tryd.prog 49 #[.pointer (some ⟨p, 0, none⟩), .int .i64 0] w fun e w' => e = .returned (.tuple #[.int .i64 0, .bool false]) ∧ Below w.heap.size w w' := by
  obtain ⟨x0, y0, x1, y1⟩ := h.blk
  have hm := h.2
  go_enter Tryd.func49, Tryd.ntmps49
  go_wp2
  go_ret2
  exact ⟨rfl, Below.refl _ _⟩
set_option maxRecDepth 100000 in
set_option maxHeartbeats 4000000 in
theorem peek_ok (h : RAt w p r) (hs : 4 ≤ r.s.size) : Calls Tryd.prog 49 #[.pointer (some ⟨p, 0, none⟩), .int .i64 0] w fun e w' => e = .returned (.tuple #[.int .i64 (get4 r.s : Int), .bool true]) ∧ Below w.heap.size w w' := by
  obtain ⟨x0, y0, x1, y1⟩ := h.blk
  have hm := h.2
  have hsz : (r.s.extract 0 4).size = 4 := by simp only [ByteArray.size_extract]; omega
  have hc := Lib.run_convert_string_bytes (P := Tryd.prog) w 9 70 5 (r.s.extract 0 4) Tryd.underlying9 Tryd.underlying70 Tryd.underlying5
  rw [hsz] at hc
  have HC := Lib.hid hc
  have HCELL := Lib.hid (fun j (hj : j < 4) => Lib.bytesWorld_cell w 5 (r.s.extract 0 4) j (by rw [hsz]; exact hj))
  have HBW : Hid (Below w.heap.size w (Lib.bytesWorld w 5 (r.s.extract 0 4))) := ⟨rfl, rfl, rfl, by rw [Lib.bytesWorld_size]; omega, fun k hk => Lib.bytesWorld_at_old w 5 _ k hk⟩
  have HG := Lib.hid (show acc (r.s.extract 0 4) 4 = get4 r.s by rw [acc_four, get4_extract _ _ (Nat.le_refl _)])
  have HAB := Lib.hid (fun k (hk : k < 4) => acc_bound (r.s.extract 0 4) hk)
  clear hc hsz
  go_enter Tryd.func49, Tryd.ntmps49
  go_wp2_with ((with_reducible refine gate_dst (N := 25) rfl ?_); refine wpList_val rfl rfl (execOp_convert rfl rfl HC.out) ?_; refine stop_here ?_)
  refine Lib.hid ?_
  clear HC x0 y0 x1 y1
  generalize Lib.bytesWorld w 5 (r.s.extract 0 4) = w1 at HCELL HBW ⊢
  generalize hG : w.heap.size = G at HCELL HBW ⊢
  generalize r.s.extract 0 4 = T at HCELL HG HAB ⊢
  go_wp2
  go_loopw [6, 8, 27] (fun s6 s8 s27 wr => ∃ k : Nat, s27 = .int .i64 k ∧ k ≤ 4 ∧ s6 = .int .i64 (acc T k : Int) ∧ Hid (wr = w1)) (fun _ _ s27 _ => 4 - (intOf s27).toNat)
  case atStart => exact ⟨0, by simp, by omega, by simp [acc], Lib.hid rfl⟩
  case round =>
    obtain ⟨k, rfl, hk, rfl, hw⟩ := hrel
    obtain rfl := hw.out
    by_cases hlt : k < 4
    · have c0 := HCELL.out k hlt
      have hab := HAB.out k hlt
      obtain ⟨m, hm2⟩ : ∃ m, acc T k = m := ⟨_, rfl⟩
      obtain ⟨c, hc2⟩ : ∃ c, (T.data.toList.getD k 0) = c := ⟨_, rfl⟩
      have HAC := Lib.hid (show acc T (k + 1) = m * 256 + c.toNat by rw [← hm2, ← hc2]; rfl)
      rw [hm2] at hab ⊢
      rw [hc2] at c0
      have hct := c.toNat_lt
      go_wp2
      have HOR : bits .or .i64 ((m : Int) * 256) (c.toNat : Int) = ((acc T (k + 1) : Nat) : Int) := by
        have h1 := i64_or_nat (m * 256) c.toNat (by omega) (by omega)
        rw [nat_join 8 _ _ (by omega) (by omega)] at h1
        rw [HAC.out]
        simpa using h1
      rw [HOR]
      go_roundw
      case rel => exact ⟨k + 1, by simp, by omega, rfl, by first | exact Lib.hid rfl | exact Lib.hid trivial⟩
      case measure => simp [intOf]; omega
    · obtain rfl : k = 4 := by omega
      rw [HG.out]
      go_wp2
      go_ret2
      exact ⟨rfl, HBW.out⟩
/-- What a reader's call leaves: the reader, and new blocks. -/
def Left (p : Nat) (r' : Rd) (w w' : World) : Prop := RAt w' p r' ∧ Fr (· = p) w w'
theorem Left.of_below (h : RAt w p r) (hb : Below w.heap.size w w') : Left p r w w' := ⟨h.below hb, Fr.of_below hb⟩
set_option maxRecDepth 100000 in
set_option maxHeartbeats 1000000 in
theorem number_reads (h : RAt w p r) : Calls Tryd.prog 40 #[.pointer (some ⟨p, 0, none⟩)] w fun e w' => e = .returned (.int .u32 (r.number.1 : Int)) ∧ Left p r.number.2 w w' := by
  have H := Lib.hid h
  by_cases he : r.e = 0
  · by_cases hs : r.s.size < 4
    · have e : r.number = (0, r.fail 2) := by simp [Rd.number, he, hs]
      rw [e]
      clear h
      go_enter Tryd.func40, Tryd.ntmps40
      go_wp2
      refine wp_scope_once 0 rfl ?_
      go_wp2_with (first | (go_at_call 48; refine (err_ok H.out he).mono ?_; rintro e w1 ⟨rfl, rfl⟩) | (go_at_call 49; refine (peek_short H.out hs).mono ?_; rintro e w2 ⟨rfl, hb⟩; have H2 := Lib.hid (H.out.below hb); have HB := Lib.hid hb; clear hb; obtain ⟨x0, y0, x1, y1⟩ := H2.out.blk))
      go_step3
      refine And.intro rfl ?_
      show Code.wp _ _ _ _ _
      go_wp2
      try rw [Exit.noGoto_ret]
      go_ret
      have h3 := H2.out.fail 2
      exact ⟨rfl, h3.1, (Fr.of_below HB.out).trans h3.2 (fun _ _ h => h)⟩
    · have e : r.number = (get4 r.s, r.skip 4) := by simp [Rd.number, he, hs]
      rw [e]
      clear h
      have hm := H.out.2
      have hg := get4_lt r.s
      go_enter Tryd.func40, Tryd.ntmps40
      go_wp2
      go_step3
      go_wp2_with (first | (go_at_call 48; refine (err_ok H.out he).mono ?_; rintro e w1 ⟨rfl, rfl⟩) | (go_at_call 49; refine (peek_ok H.out (by omega)).mono ?_; rintro e w2 ⟨rfl, hb⟩; have H2 := Lib.hid (H.out.below hb); have HB := Lib.hid hb; clear hb; obtain ⟨x0, y0, x1, y1⟩ := H2.out.blk))
      try rw [Exit.noGoto_ret]
      go_ret
      have h3 := H2.out.skip 4
      exact ⟨rfl, h3.1, (Fr.of_below HB.out).trans h3.2 (fun _ _ h => h)⟩
  · have e : r.number = (0, r) := by simp [Rd.number, he]
    rw [e]
    clear h
    have hi : ¬ (r.e : Int) = 0 := by omega
    go_enter Tryd.func40, Tryd.ntmps40
    go_wp2
    go_step3
    go_wp2_with (go_at_call 48; refine (err_calls H.out).mono ?_; rintro e w1 ⟨rfl, rfl⟩)
    try rw [Exit.noGoto_ret]
    go_ret
    exact ⟨rfl, H.out, Fr.refl _ _⟩
theorem Left.trans {w1 w2 : World} {r1 r2 : Rd} (h : Left p r1 w w1) (k : Left p r2 w1 w2) : Left p r2 w w2 := ⟨k.1, h.2.trans k.2 (fun _ _ h => h)⟩
set_option maxRecDepth 100000 in
set_option maxHeartbeats 1000000 in
theorem end_reads (h : RAt w p r) : Calls Tryd.prog 42 #[.pointer (some ⟨p, 0, none⟩)] w fun e w' => e = .returned (.int .i64 (r.end_.e : Int)) ∧ Left p r.end_ w w' := by
  have H := Lib.hid h
  obtain ⟨x0, y0, x1, y1⟩ := h.blk
  by_cases he : r.e = 0
  · by_cases hs : 0 < r.s.size
    · have e : r.end_ = r.fail 4 := by simp [Rd.end_, he, hs]
      rw [e]
      clear h
      go_enter Tryd.func42, Tryd.ntmps42
      go_wp2_with (first | (go_at_call 48; refine (err_ok H.out he).mono ?_; rintro e w1 ⟨rfl, rfl⟩) | (go_at_call 48; refine (err_calls (H.out.fail 4).1).mono ?_; rintro e w1 ⟨rfl, rfl⟩))
      go_ret
      have h3 := H.out.fail 4
      exact ⟨rfl, h3.1, h3.2⟩
    · have e : r.end_ = r := by simp [Rd.end_, hs]
      rw [e]
      clear h
      have hs0 : r.s.size = 0 := by omega
      go_enter Tryd.func42, Tryd.ntmps42
      go_wp2_with (go_at_call 48; refine (err_ok H.out he).mono ?_; rintro e w1 ⟨rfl, rfl⟩)
      go_ret
      exact ⟨by rw [he]; rfl, H.out, Fr.refl _ _⟩
  · have e : r.end_ = r := by simp [Rd.end_, he]
    rw [e]
    clear h
    have hi : ¬ (r.e : Int) = 0 := by omega
    go_enter Tryd.func42, Tryd.ntmps42
    go_wp2_with (go_at_call 48; refine (err_calls H.out).mono ?_; rintro e w1 ⟨rfl, rfl⟩)
    go_ret
    exact ⟨rfl, H.out, Fr.refl _ _⟩
end Go.Proofs.YtiedmkgdhfkcoaaDoor.Xdr
