/- Layer xdr: the writer. -/
import Derived.Test.YtiedmkgdhfkcoaaDoorXdrAt
import Derived.Test.YtiedmkgdhfkcoaaDoorArr
namespace Go.Proofs.YtiedmkgdhfkcoaaDoor.Xdr
open Go.RowKit Go.Own Go.XdrL Go.Blk Go.OpsL Go.Proofs.YtiedmkgdhfkcoaaDoorW.PrintLast Go.Proofs.YtiedmkgdhfkcoaaDoorW.PrintWords
set_option linter.unusedVariables false
set_option linter.unusedSimpArgs false
variable {F : Nat → Prop} {w w' : World} {p : Nat} {vl : Value} {b : ByteArray}
/-- What the store behind an append leaves. -/
theorem WAt.stored {w2 w3 : World} {v' : Value} {c : ByteArray} (HA2 : WAt F w2 p vl b) (HF2 : Fr F w w2) (hown' : w3.ownsRow 0 5 1 v' (b.size + c.size) (bcells b ++ bcells c)) (hg' : w2.grownBy w3 vl.ownBlock) (hat' : v'.ownBlock = vl.ownBlock ∨ ∃ k, v'.ownBlock = some k ∧ w2.heap.size ≤ k) :
    w3.heap[p]? = some (.cells #[vl] 72 (0, 0)) ∧ WAt (Up F w (w3.setCell ⟨p, 0, none⟩ v')) (w3.setCell ⟨p, 0, none⟩ v') p v' (b ++ c) ∧ Fr F w (w3.setCell ⟨p, 0, none⟩ v') := by
  have HP3 := (hg'.block p (HA2.lt _ HA2.fp) (fun e => HA2.ne p e.symm rfl)).trans HA2.hp
  have HNB : ∀ k, v'.ownBlock = some k → (F k ∨ w.heap.size ≤ k) ∧ k ≠ p := fun k hk => by
    rcases hat' with e | ⟨k', e, hk'⟩
    · rw [e] at hk
      exact ⟨.inl (HA2.fl k hk), HA2.ne k hk⟩
    · rw [e] at hk
      simp only [Option.some.injEq] at hk
      have h1 := HA2.lt _ HA2.fp
      have h5 := HF2.size
      exact ⟨.inr (by omega), by omega⟩
  have HF3 := HF2.trans (Fr.grown (F := F) hg' (fun k hk => HA2.fl k hk)) (fun _ _ h => h)
  refine ⟨HP3, ⟨.inl HA2.fp, fun k hk => ?_, fun k hk => (HNB k hk).2, by simpa using set_at HP3 0 v', by rw [ByteArray.size_append, bcells_append]; exact row_kept hown' fun k hk => Below.heap_setCell w3 ⟨p, 0, none⟩ v' k (HNB k hk).2, fun k hk => ?_⟩, HF3.trans (Fr.setCell (F := F) w3 (p := ⟨p, 0, none⟩) HA2.fp v') (fun _ _ h => h)⟩
  · rcases (HNB k hk).1 with h | h
    · exact .inl h
    · exact .inr ⟨h, by have := (hown'.lt k hk).2; simpa [World.setCell] using this⟩
  · rcases hk with h | h
    · have h1 := HA2.lt k h
      have h2 := hg'.size
      have h3 := (Fr.setCell (F := F) w3 (p := ⟨p, 0, none⟩) HA2.fp v').size
      omega
    · exact h.2
/-- Bytes that lie in a new block are appended. -/
theorem WAt.append (h : WAt F w p vl b) (c : ByteArray) (cs : Array Value) (hcs : bcells c = cs.toList) (m : Nat) (hm : c.size = m) (hb : b.size + c.size ≤ 1000000100) :
    ∃ v' w3, (Builtin.append_ #[70, 70] 70 #[vl, .slice (some ⟨w.heap.size, 0, none⟩) m m]).run Tryd.prog (w.alloc (.cells cs 5)) = .ok v' w3 ∧
      w3.heap[p]? = some (.cells #[vl] 72 (0, 0)) ∧ WAt (Up F w (w3.setCell ⟨p, 0, none⟩ v')) (w3.setCell ⟨p, 0, none⟩ v') p v' (b ++ c) ∧ Fr F w (w3.setCell ⟨p, 0, none⟩ v') := by
  obtain rfl : cs = (bcells c).toArray := by rw [hcs]
  have HA2 := h.keep (Fr.alloc (fun _ => False) w (.cells (bcells c).toArray 5)) (fun _ _ h => h)
  have BN2 := alloc_at w (.cells (bcells c).toArray 5)
  obtain ⟨v', w3, hr, hown', hg', _, hat'⟩ := run_append_own_at (P := Tryd.prog) (w.alloc (.cells (bcells c).toArray 5)) 0 70 70 5 info_parts.choose _ 1 1 Tryd.underlying70 info_parts.choose_spec.1 info_parts.choose_spec.2.1 info_parts.choose_spec.2.2.1 info_parts.choose_spec.2.2.2 rfl (by omega) vl b.size _ HA2.hl ⟨w.heap.size, 0, none⟩ c.size m (bcells c) (by rw [bcells_length, Nat.mul_one]) (fun j u hu => by rw [Addr.add_mid, cell_of_row _ w.heap.size _ _ _ _ BN2]; simpa using hu) (bcells_one _) (by unfold maxLen; omega) (by omega) (Nat.zero_le _)
  rw [hm] at hr
  exact ⟨v', w3, hr, HA2.stored (Fr.alloc F w _) hown' hg' (hat'.imp id fun e => ⟨_, e, Nat.le_refl _⟩)⟩
/-- A string's bytes are appended. -/
theorem WAt.appendStr (h : WAt F w p vl b) (c : ByteArray) (hb : b.size + c.size ≤ 1000000000) :
    ∃ v' w3, (Builtin.append_ #[70, 9] 70 #[vl, .string c]).run Tryd.prog w = .ok v' w3 ∧
      w3.heap[p]? = some (.cells #[vl] 72 (0, 0)) ∧ WAt (Up F w (w3.setCell ⟨p, 0, none⟩ v')) (w3.setCell ⟨p, 0, none⟩ v') p v' (b ++ c) ∧ Fr F w (w3.setCell ⟨p, 0, none⟩ v') := by
  obtain ⟨v', w3, hr, hown', hg', h0⟩ := Lib.run_append_own_string (P := Tryd.prog) w 0 70 9 70 5 info_parts.choose Tryd.underlying70 Tryd.underlying9 info_parts.choose_spec.1 info_parts.choose_spec.2.1 info_parts.choose_spec.2.2.1 info_parts.choose_spec.2.2.2 vl b.size _ h.hl c (by unfold maxLen; omega) (by omega) (Nat.zero_le _)
  have hat' := append_string_block _ h.hl c hb hr h0
  exact ⟨v', w3, hr, h.stored (Fr.refl F w) hown' hg' (hat'.imp id fun e => ⟨_, e, Nat.le_refl _⟩)⟩
set_option maxRecDepth 100000 in
set_option maxHeartbeats 4000000 in
theorem number_calls (h : WAt F w p vl b) (n : Nat) (hn : n < 4294967296) (hb : b.size ≤ 1000000000) : Calls Tryd.prog 32 #[.pointer (some ⟨p, 0, none⟩), .int .u32 (n : Int)] w fun e w' => e = .returned (.tuple #[]) ∧ (∃ vl', WAt (Up F w w') w' p vl' (b ++ num4 n)) ∧ Fr F w w' := by
  obtain ⟨av, cv, rfl, _⟩ := row_form h.hl
  have hx := blk1 h.hp
  obtain ⟨v', w3, hr, h3, h4, h5⟩ := h.append (num4 n) #[.int .u8 ((n : Int) / 16777216 % 256), .int .u8 ((n : Int) / 65536 % 256), .int .u8 ((n : Int) / 256 % 256), .int .u8 ((n : Int) % 256)] (bcells_num4 n) 4 rfl (by rw [num4_size]; omega)
  obtain ⟨a', c', rfl, _⟩ := row_form h4.hl
  have HR := Lib.hid hr
  have H3 := Lib.hid h3
  have H4 := Lib.hid h4
  have H5 := Lib.hid h5
  clear h hn hb hr h3 h4 h5
  obtain ⟨x0, y0⟩ := hx
  go_enter Tryd.func32, Tryd.ntmps32
  go_wp2_with ((with_reducible refine gate_dst (N := 23) rfl ?_); refine wpList_val rfl rfl (execOp_append rfl rfl rfl HR.out) ?_; refine stop_here ?_)
  refine Lib.hid ?_
  have hx := blk1 H3.out
  clear x0 y0
  obtain ⟨x0, y0⟩ := hx
  go_wp2
  go_end0
  rw [← ByteArray.size_append]
  exact ⟨rfl, ⟨_, H4.out⟩, H5.out⟩
/-- How long the row at p is. -/
def lenAt (w : World) (p : Nat) : Nat := match w.cell? ⟨p, 0, none⟩ with | some (.slice _ n _) => n | _ => 0
/-- A writer of the bytes b. -/
def Wr (F : Nat → Prop) (w : World) (p : Nat) (b : ByteArray) : Prop := ∃ vl, WAt F w p vl b
theorem Wr.mono {G : Nat → Prop} (h : Wr F w p b) (hF : ∀ k, F k → G k) (hG : ∀ k, G k → k < w.heap.size) : Wr G w p b := by
  obtain ⟨vl, h⟩ := h
  exact ⟨vl, hF _ h.fp, fun k hk => hF k (h.fl k hk), h.ne, h.hp, h.hl, hG⟩
theorem Wr.lt (h : Wr F w p b) : ∀ k, F k → k < w.heap.size := h.elim fun _ h => h.lt
theorem Wr.fp (h : Wr F w p b) : F p := h.elim fun _ h => h.fp
theorem Wr.keep {G : Nat → Prop} (h : Wr F w p b) (hF : Fr G w w') (hG : ∀ k, F k → ¬ G k) : Wr F w' p b := h.elim fun vl h => ⟨vl, h.keep hF hG⟩
theorem Wr.below (h : Wr F w p b) (hb : Below w.heap.size w w') : Wr F w' p b := h.elim fun vl h => ⟨vl, h.below hb⟩
theorem Wr.then {w1 w2 : World} {b' : ByteArray} (h0 : Wr F w p b') (h1 : Fr F w w1) (h : Wr (Up (Up F w w1) w1 w2) w2 p b) (h2 : Fr (Up F w w1) w1 w2) : Wr (Up F w w2) w2 p b ∧ Fr F w w2 := by
  refine ⟨h.mono (fun k hk => ?_) (fun k hk => ?_), h1.trans h2 (fun k hk hu => ?_)⟩
  · have a := h1.size
    have c := h2.size
    rcases hk with (hk | hk) | hk
    · exact .inl hk
    · exact .inr ⟨hk.1, by omega⟩
    · exact .inr ⟨by omega, hk.2⟩
  · have a := h1.size
    have c := h2.size
    rcases hk with hk | hk
    · have := h0.lt k hk; omega
    · exact hk.2
  · rcases hu with hu | hu
    · exact hu
    · omega
theorem number_any (h : Wr F w p b) (n : Nat) (hn : n < 4294967296) (hb : b.size ≤ 1000000000) : Calls Tryd.prog 32 #[.pointer (some ⟨p, 0, none⟩), .int .u32 (n : Int)] w fun e w' => e = .returned (.tuple #[]) ∧ Wr (Up F w w') w' p (b ++ num4 n) ∧ Fr F w w' := h.elim fun _ h => number_calls h n hn hb
set_option maxRecDepth 100000 in
set_option maxHeartbeats 1000000 in
theorem bytes_any (h : Wr F w p b) : Calls Tryd.prog 35 #[.pointer (some ⟨p, 0, none⟩)] w fun e w' => e = .returned (.string b) ∧ w = w' := by
  obtain ⟨vl, h⟩ := h
  have hx := blk1 h.hp
  obtain ⟨x0, y0⟩ := hx
  obtain ⟨av, cv, rfl, _⟩ := row_form h.hl
  have HC : Hid ((convert 70 9 (.slice av b.size cv)).run Tryd.prog w = .ok (.string b) w) := by
    rcases row_some h.hl with ⟨e1, e2⟩ | ⟨g, cap, e1, e2⟩
    · simp only [Value.slice.injEq] at e1
      obtain ⟨rfl, e3, rfl⟩ := e1
      have hb : b = ByteArray.empty := by
        apply ByteArray.ext
        exact Array.eq_empty_of_size_eq_zero e2
      rw [hb]
      exact run_convert_bytes_nil w 70 5 Tryd.underlying70 Tryd.underlying5 _ _ 9 Tryd.underlying9
    · simp only [Value.slice.injEq] at e1
      obtain ⟨rfl, _, rfl⟩ := e1
      have hr := run_convert_bytes_arg (P := Tryd.prog) w 70 5 Tryd.underlying70 Tryd.underlying5 g 0 b.size cv (b.data.toList.map fun c => (c.toNat : Int)) (by rw [List.length_map, Array.length_toList]; rfl) (fun j hj => by
        rw [Nat.zero_add, h.hl.cellAt j (by omega)]
        have hj2 : j < b.data.toList.length := by rw [Array.length_toList]; exact hj
        simp only [bcells, List.getD, List.getElem?_map, List.getElem?_eq_getElem hj2, Option.map_some, Option.getD_some]) 9 Tryd.underlying9
      rw [nums_back] at hr
      exact hr
  have H := Lib.hid h
  clear h
  go_enter Tryd.func35, Tryd.ntmps35
  go_wp2_with ((with_reducible refine gate_dst (N := 9) rfl ?_); refine wpList_val rfl rfl (execOp_convert rfl rfl HC.out) ?_)
  go_ret
  exact ⟨rfl, rfl⟩
set_option maxRecDepth 100000 in
set_option maxHeartbeats 4000000 in
theorem text_any (h : Wr F w p b) (s : ByteArray) (hs : s.size < 4294967296) (hb : b.size + s.size ≤ 1000000000 - 8) (h4 : b.size % 4 = 0) : Calls Tryd.prog 34 #[.pointer (some ⟨p, 0, none⟩), .string s] w fun e w' => e = .returned (.tuple #[]) ∧ Wr (Up F w w') w' p (b ++ text4 s) ∧ Fr F w w' := by
  have HW := Lib.hid h
  have HB := Lib.hid hb
  have HS := Lib.hid hs
  have H4 := Lib.hid h4
  have e1 := Lib.hid (show (s.size : Int) % 4294967296 = (s.size : Int) by omega)
  clear h hb hs h4
  go_enter Tryd.func34, Tryd.ntmps34
  go_wp2_with (go_at_call 32; refine stop_here ?_)
  refine Lib.hid ?_
  rw [e1.out]
  refine (number_any HW.out _ HS.out (by have := HB.out; omega)).mono ?_
  rintro e w1 ⟨rfl, h1, h2⟩
  have H2 := Lib.hid h2
  obtain ⟨B1, hB1⟩ : ∃ B, B = b ++ num4 s.size := ⟨_, rfl⟩
  rw [← hB1] at h1
  have HS1 := Lib.hid (show B1.size = b.size + 4 by rw [hB1, ByteArray.size_append, num4_size])
  obtain ⟨vl, h1⟩ := h1
  obtain ⟨av, cv, rfl, _⟩ := row_form h1.hl
  have hx := blk1 h1.hp
  obtain ⟨v', w3, hr, h3, h4, h5⟩ := h1.appendStr s (by have := HB.out; have := HS1.out; omega)
  obtain ⟨B2, hB2⟩ : ∃ B, B = B1 ++ s := ⟨_, rfl⟩
  rw [← hB2] at h4
  obtain ⟨a', c', rfl, _⟩ := row_form h4.hl
  have HR := Lib.hid hr
  have H3 := Lib.hid h3
  have H45 := Lib.hid (HW.out.then h2 ⟨_, h4⟩ h5)
  have HS2 := Lib.hid (show B2.size = b.size + 4 + s.size by rw [hB2, ByteArray.size_append, HS1.out])
  have HB2 := Lib.hid (show B2 = b ++ num4 s.size ++ s by rw [hB2, hB1])
  clear h1 h2 e1 hr h3 h4 h5 hB1 hB2
  obtain ⟨x0, y0⟩ := hx
  go_wp2_with ((with_reducible refine gate_dst (N := 17) rfl ?_); refine wpList_val rfl rfl (execOp_append rfl rfl rfl HR.out) ?_; refine stop_here ?_)
  refine Lib.hid ?_
  have hx := blk1 H3.out
  clear x0 y0
  obtain ⟨x0, y0⟩ := hx
  go_wp2
  clear x0 y0 H3 HR H2 HS1
  generalize w3.setCell ⟨p, 0, none⟩ _ = w4 at H45 ⊢
  go_loopw [20] (fun s20 wr => ∃ (k : Nat) (B : ByteArray), k ≤ padOf s.size ∧ Hid (B = B2 ++ zeros k) ∧ Hid (Wr (Up F w wr) wr p B) ∧ Hid (Fr F w wr)) (fun _ wr => padOf (lenAt wr p))
  case atStart => exact ⟨0, B2, Nat.zero_le _, Lib.hid (by show _ = B2 ++ ByteArray.empty; simp), Lib.hid H45.out.1, Lib.hid H45.out.2⟩
  case round =>
    clear H45
    obtain ⟨k, B, hk, HBk, HA, HF⟩ := hrel
    have HSB := Lib.hid (show B.size = b.size + 4 + s.size + k by rw [HBk.out, ByteArray.size_append, zeros_size, HS2.out])
    obtain ⟨vl, h1⟩ := HA.out
    obtain ⟨av, cv, rfl, _⟩ := row_form h1.hl
    have hx := blk1 h1.hp
    obtain ⟨v', w3, hr, h3, h4, h5⟩ := h1.append (zeros 1) #[.int .u8 0] rfl 1 rfl (by have := HB.out; have := HSB.out; have := padOf_lt s.size; show _ + 1 ≤ _; omega)
    obtain ⟨B3, hB3⟩ : ∃ B', B' = B ++ zeros 1 := ⟨_, rfl⟩
    rw [← hB3] at h4
    obtain ⟨a', c', rfl, _⟩ := row_form h4.hl
    have HR := Lib.hid hr
    have H3 := Lib.hid h3
    have H45 := Lib.hid (HW.out.then HF.out ⟨_, h4⟩ h5)
    have HLE := Lib.hid (show padOf (lenAt wr p) = padOf B.size by unfold lenAt; rw [hx.1])
    have HS3 := Lib.hid (show B3.size = B.size + 1 by rw [hB3, ByteArray.size_append]; rfl)
    have HL3 := Lib.hid (show lenAt (w3.setCell ⟨p, 0, none⟩ (.slice a' B3.size c')) p = B3.size by
      unfold lenAt
      rw [(blk1 h4.hp).1])
    have HB3 := Lib.hid (show B3 = B2 ++ zeros (k + 1) by rw [hB3, HBk.out, ByteArray.append_assoc, zeros_add])
    clear h1 hr h3 h4 h5 hB3
    obtain ⟨x0, y0⟩ := hx
    go_wp2_with ((with_reducible refine gate_dst (N := 33) rfl ?_); refine wpList_val rfl rfl (execOp_append rfl rfl rfl HR.out) ?_; refine stop_here ?_)
    · refine Lib.hid ?_
      have hx := blk1 H3.out
      clear x0 y0
      obtain ⟨x0, y0⟩ := hx
      go_wp2
      clear x0 y0 H3 HR
      have hne : ((B.size : Int) % 4 != 0) = true := by assumption
      have hpd := pad_go HSB.out H4.out hk (by simp only [bne_iff_ne, ne_eq] at hne; omega)
      go_roundw
      case rel => exact ⟨k + 1, B3, hpd.1, HB3, Lib.hid H45.out.1, Lib.hid H45.out.2⟩
      case measure =>
        have e1 := HLE.out
        have e2 := HL3.out
        have e3 := HS3.out
        rw [e1, e2, e3]
        exact hpd.2
    · have hne : ((B.size : Int) % 4 != 0) = false := by assumption
      have hpd := pad_end HSB.out H4.out hk (by simp only [bne_eq_false_iff_eq] at hne; omega)
      go_end0
      refine ⟨rfl, ?_, HF.out⟩
      have e : b ++ text4 s = B := by
        rw [HBk.out, HB2.out, hpd]
        unfold text4
        simp only [ByteArray.append_assoc]
      rw [e]
      exact HA.out
/-- A row of numbers of four bytes. -/
def U32s (w : World) (A : Option Addr) (l : List Nat) : Prop := ArrAt w A (fun x : Nat => [Value.int .u32 (x : Int)]) 1 l
end Go.Proofs.YtiedmkgdhfkcoaaDoor.Xdr
