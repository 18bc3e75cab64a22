/- Layer xdr: the document's reader. -/
import Derived.Test.YtiedmkgdhfkcoaaDoorXdrR2
import Derived.Deep.QuietTactic
import Derived.BigQuiet
namespace Go.Proofs.YtiedmkgdhfkcoaaDoor.Xdr
open Go.RowKit Go.Own Go.XdrL Go.Blk Go.OpsL Go.Proofs.YtiedmkgdhfkcoaaDoorW.PrintLast Go.Proofs.YtiedmkgdhfkcoaaDoorW.PrintWords
set_option linter.unusedVariables false
set_option linter.unusedSimpArgs false
/-- The document's reader lies at block p. -/
def DAt (w : World) (p : Nat) (r : Rd) : Prop := w.heap[p]? = some (.cells #[.string r.s, .int .i64 (r.e : Int)] 96 (0, 0)) ∧ r.s.size ≤ 140737488355328
variable {w w' : World} {p : Nat} {r r' : Rd}
theorem DAt.keep {G : Nat → Prop} (h : DAt w p r) (hF : Fr G w w') (hG : ¬ G p) : DAt w' p r := ⟨hF.at h.1 hG, h.2⟩
theorem DAt.below (h : DAt w p r) (hb : Below w.heap.size w w') : DAt w' p r := ⟨below_old h.1 hb, h.2⟩
theorem DAt.blk (h : DAt w p r) : w.cell? ⟨p, 0, none⟩ = some (.string r.s) ∧ w.frozen? ⟨p, 0, none⟩ = false ∧ w.cell? ⟨p, 1, none⟩ = some (.int .i64 (r.e : Int)) ∧ w.frozen? ⟨p, 1, none⟩ = false := blk2 h.1
theorem DAt.fail (h : DAt w p r) (e : Nat) : DAt (w.setCell ⟨p, 1, none⟩ (.int .i64 (e : Int))) p (r.fail e) ∧ Fr (· = p) w (w.setCell ⟨p, 1, none⟩ (.int .i64 (e : Int))) :=
  ⟨⟨by simpa [Rd.fail] using set_at h.1 1 (.int .i64 (e : Int)), h.2⟩, Fr.setCell (F := (· = p)) w (p := ⟨p, 1, none⟩) rfl _⟩
theorem DAt.skip (h : DAt w p r) (n : Nat) : DAt (w.setCell ⟨p, 0, none⟩ (.string (r.s.extract n r.s.size))) p (r.skip n) ∧ Fr (· = p) w (w.setCell ⟨p, 0, none⟩ (.string (r.s.extract n r.s.size))) :=
  ⟨⟨by simpa [Rd.skip] using set_at h.1 0 (.string (r.s.extract n r.s.size)), by have := h.2; simp only [Rd.skip, ByteArray.size_extract]; omega⟩, Fr.setCell (F := (· = p)) w (p := ⟨p, 0, none⟩) rfl _⟩
/-- What a call of the document's reader leaves. -/
def DLeft (p : Nat) (r' : Rd) (w w' : World) : Prop := DAt w' p r' ∧ Fr (· = p) w w'
theorem DLeft.trans {w1 w2 : World} {r1 r2 : Rd} (h : DLeft p r1 w w1) (k : DLeft p r2 w1 w2) : DLeft p r2 w w2 := ⟨k.1, h.2.trans k.2 (fun _ _ h => h)⟩
theorem ret_int {k : IntKind} {a b : Int} (h : a = b) : Ending.returned (.int k a) = .returned (.int k b) := by rw [h]
theorem w64 (x : Int) (h0 : -1000000000000 ≤ x) (h1 : x ≤ 1000000000000) : wrap64 x = x := by unfold wrap64; omega
theorem at_short (h : DAt w p r) (hs : r.s.size < 4) : Calls Tryd.prog 51 #[.pointer (some ⟨p, 0, none⟩)] w fun e w' => e = .returned (.int .i64 (-1)) ∧ w = w' := by
  obtain ⟨x0, y0, x1, y1⟩ := h.blk
  have hm := h.2
  go_enter Tryd.func51, Tryd.ntmps51
  go_wp2
  go_ret
  exact ⟨rfl, rfl⟩
theorem byte_at (s : ByteArray) (i : Nat) (h : i < s.size) : s[i] = s.data.toList.getD i 0 := by
  have : i < s.data.toList.length := by rw [Array.length_toList]; exact h
  rw [List.getD, List.getElem?_eq_getElem this]; rfl
set_option maxRecDepth 100000 in
set_option maxHeartbeats 4000000 in
theorem at_ok (h : DAt w p r) (hs : 4 ≤ r.s.size) : Calls Tryd.prog 51 #[.pointer (some ⟨p, 0, none⟩)] w fun e w' => e = .returned (.int .i64 (get4 r.s : Int)) ∧ Below w.heap.size w w' := by
  obtain ⟨x0, y0, x1, y1⟩ := h.blk
  have hm := h.2
  have i0 : 0 < r.s.size := by omega
  have i1 : 1 < r.s.size := by omega
  have i2 : 2 < r.s.size := by omega
  have i3 : 3 < r.s.size := by omega
  have b0 := byte_at r.s 0 i0
  have b1 := byte_at r.s 1 i1
  have b2 := byte_at r.s 2 i2
  have b3 := byte_at r.s 3 i3
  go_enter Tryd.func51, Tryd.ntmps51
  go_wp2
  go_quiet (fail)
  go_wp2
  go_ret
  refine ⟨ret_int ?_, ?_⟩
  · have c0 := (r.s.data.toList.getD 0 0).toNat_lt
    have c1 := (r.s.data.toList.getD 1 0).toNat_lt
    have c2 := (r.s.data.toList.getD 2 0).toNat_lt
    have c3 := (r.s.data.toList.getD 3 0).toNat_lt
    have d0 : r.s.data[0] = r.s.data.toList.getD 0 0 := b0
    have d1 : r.s.data[1] = r.s.data.toList.getD 1 0 := b1
    have d2 : r.s.data[2] = r.s.data.toList.getD 2 0 := b2
    have d3 : r.s.data[3] = r.s.data.toList.getD 3 0 := b3
    rw [d0, d1, d2, d3]
    unfold get4
    generalize (r.s.data.toList.getD 0 0).toNat = a at c0 ⊢
    generalize (r.s.data.toList.getD 1 0).toNat = b at c1 ⊢
    generalize (r.s.data.toList.getD 2 0).toNat = c at c2 ⊢
    generalize (r.s.data.toList.getD 3 0).toNat = d at c3 ⊢
    rw [w64 (a : Int) (by omega) (by omega), w64 (b : Int) (by omega) (by omega), w64 (c : Int) (by omega) (by omega), w64 (d : Int) (by omega) (by omega), w64 ((a : Int) * 256) (by omega) (by omega), w64 ((a : Int) * 256 + b) (by omega) (by omega), w64 (((a : Int) * 256 + b) * 256) (by omega) (by omega), w64 (((a : Int) * 256 + b) * 256 + c) (by omega) (by omega), w64 ((((a : Int) * 256 + b) * 256 + c) * 256) (by omega) (by omega), w64 ((((a : Int) * 256 + b) * 256 + c) * 256 + d) (by omega) (by omega)]
    omega
  · exact ⟨rfl, rfl, rfl, Nat.le_refl _, fun _ _ => rfl⟩
theorem DLeft.of_below (h : DAt w p r) (hb : Below w.heap.size w w') : DLeft p r w w' := ⟨h.below hb, Fr.of_below hb⟩
set_option maxRecDepth 100000 in
set_option maxHeartbeats 1000000 in
theorem dnumber_reads (h : DAt w p r) : Calls Tryd.prog 43 #[.pointer (some ⟨p, 0, none⟩)] w fun e w' => e = .returned (.int .u32 (r.number.1 : Int)) ∧ DLeft p r.number.2 w w' := by
  have H := Lib.hid h
  obtain ⟨x0, y0, x1, y1⟩ := h.blk
  have hm := h.2
  by_cases he : r.e = 0
  · by_cases hs : r.s.size < 4
    · have e : r.number = (0, r.fail 2) := by simp [Rd.number, he, hs]
      rw [e]
      clear h
      have hz : ((r.e : Int) != 0) = false := by rw [he]; rfl
      go_enter Tryd.func43, Tryd.ntmps43
      go_wp2_with (go_at_call 51; refine (at_short H.out hs).mono ?_; rintro e w1 ⟨rfl, rfl⟩)
      go_ret
      exact ⟨rfl, H.out.fail 2⟩
    · have e : r.number = (get4 r.s, r.skip 4) := by simp [Rd.number, he, hs]
      rw [e]
      clear h
      have hz : ((r.e : Int) != 0) = false := by rw [he]; rfl
      have hg := get4_lt r.s
      have HS := Lib.hid (show 4 ≤ r.s.size by omega)
      go_enter Tryd.func43, Tryd.ntmps43
      go_wp2_with (go_at_call 51; refine (at_ok H.out HS.out).mono ?_; rintro e w1 ⟨rfl, hb⟩; have H2 := Lib.hid (H.out.below hb); have HB := Lib.hid hb; clear hb x0 y0 x1 y1; obtain ⟨x0, y0, x1, y1⟩ := H2.out.blk)
      go_ret
      have h3 := H2.out.skip 4
      exact ⟨rfl, h3.1, (Fr.of_below HB.out).trans h3.2 (fun _ _ h => h)⟩
  · have e : r.number = (0, r) := by simp [Rd.number, he]
    rw [e]
    clear h
    have hz : ((r.e : Int) != 0) = true := by rw [bne_iff_ne]; omega
    go_enter Tryd.func43, Tryd.ntmps43
    go_wp2
    go_ret
    exact ⟨rfl, H.out, Fr.refl _ _⟩
set_option maxRecDepth 100000 in
set_option maxHeartbeats 1000000 in
theorem dend_reads (h : DAt w p r) : Calls Tryd.prog 45 #[.pointer (some ⟨p, 0, none⟩)] w fun e w' => e = .returned (.int .i64 (r.end_.e : Int)) ∧ DLeft p r.end_ w w' := by
  have H := Lib.hid h
  obtain ⟨x0, y0, x1, y1⟩ := h.blk
  have hm := h.2
  by_cases he : r.e = 0
  · have hz : ((r.e : Int) == 0) = true := by rw [he]; rfl
    by_cases hs : 0 < r.s.size
    · have e : r.end_ = r.fail 4 := by simp [Rd.end_, he, hs]
      rw [e]
      clear h
      go_enter Tryd.func45, Tryd.ntmps45
      go_wp2
      go_ret
      exact ⟨rfl, H.out.fail 4⟩
    · have e : r.end_ = r := by simp [Rd.end_, hs]
      rw [e]
      clear h
      have hs0 : r.s.size = 0 := by omega
      go_enter Tryd.func45, Tryd.ntmps45
      go_wp2
      go_ret
      exact ⟨by rw [he]; rfl, H.out, Fr.refl _ _⟩
  · have e : r.end_ = r := by simp [Rd.end_, he]
    rw [e]
    clear h
    have hz : ((r.e : Int) == 0) = false := by rw [beq_eq_false_iff_ne]; omega
    go_enter Tryd.func45, Tryd.ntmps45
    go_wp2
    go_ret
    exact ⟨rfl, H.out, Fr.refl _ _⟩
end Go.Proofs.YtiedmkgdhfkcoaaDoor.Xdr
