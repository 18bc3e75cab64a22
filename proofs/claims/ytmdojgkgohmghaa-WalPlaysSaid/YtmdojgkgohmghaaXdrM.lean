/- Layer xdr in memory: a writer is a block of one cell and a row of bytes; a reader is a block of two cells. Layer xdr: the writer. Layer xdr: the reader. -/
import Derived.Test.YtmdojgkgohmghaaChecked
import Derived.Test.YtmdojgkgohmghaaOwn
import Derived.Test.YtmdojgkgohmghaaXdrPlain
import Derived.Test.YtmdojgkgohmghaaBlk
import Derived.Test.YtmdojgkgohmghaaOps
import Derived.Test.YtmdojgkgohmghaaWLast
import Derived.Test.YtmdojgkgohmghaaWMore
import Derived.Laws.BitsAllLaws
import Derived.Lib.AppendStr
import Derived.Test.YtmdojgkgohmghaaArr
import Derived.Lib.ConvBytes
import Derived.Test.YtmdojgkgohmghaaGoto
namespace Go.Proofs.Ytmdojgkgohmghaa.Xdr
open Go.RowKit Go.Own Go.XdrL Go.Blk Go.OpsL
set_option linter.unusedVariables false
theorem bcells_append (a b : ByteArray) : bcells (a ++ b) = bcells a ++ bcells b := by simp [bcells]
/-- A writer of the bytes b lies at block p, all of it in blocks of F. -/
structure WAt (F : Nat → Prop) (w : World) (p : Nat) (vl : Value) (b : ByteArray) : Prop where
  fp : F p
  fl : ∀ k, vl.ownBlock = some k → F k
  ne : ∀ k, vl.ownBlock = some k → k ≠ p
  hp : w.heap[p]? = some (.cells #[vl] 103 (0, 0))
  hl : w.ownsRow 0 5 1 vl b.size (bcells b)
  lt : ∀ k, F k → k < w.heap.size
variable {F : Nat → Prop} {w w' : World} {p : Nat} {vl : Value} {b : ByteArray}
theorem WAt.keep {G : Nat → Prop} (h : WAt F w p vl b) (hF : Fr G w w') (hG : ∀ k, F k → ¬ G k) : WAt F w' p vl b :=
  { h with hp := hF.at h.hp (hG _ h.fp), hl := hF.row h.hl (fun k hk => hG _ (h.fl k hk)), lt := fun k hk => Nat.lt_of_lt_of_le (h.lt k hk) hF.size }
theorem info_u8 : (Try.prog.info? 5).map (fun i => (i.zero, i.size, i.bytes)) = some (some (.int .u8 0), 1, 1) := by kernel_rfl
theorem bcells_num4 (n : Nat) : bcells (num4 n) = [.int .u8 ((n : Int) / 16777216 % 256), .int .u8 ((n : Int) / 65536 % 256), .int .u8 ((n : Int) / 256 % 256), .int .u8 ((n : Int) % 256)] := by
  simp [bcells, num4]
theorem info_parts : ∃ i, Try.prog.info? 5 = some i ∧ i.zero = some (.int .u8 0) ∧ i.size = 1 ∧ i.bytes = 1 := by
  cases h : Try.prog.info? 5 with
  | none => have := info_u8; rw [h] at this; cases this
  | some i =>
    have := info_u8
    rw [h] at this
    simp only [Option.map_some, Option.some.injEq, Prod.mk.injEq] at this
    exact ⟨i, rfl, this.1, this.2.1, this.2.2⟩
/-- The blocks of F, and all that are new. -/
def Up (F : Nat → Prop) (w w' : World) : Nat → Prop := fun k => F k ∨ (w.heap.size ≤ k ∧ k < w'.heap.size)
end Go.Proofs.Ytmdojgkgohmghaa.Xdr
namespace Go.Proofs.Ytmdojgkgohmghaa.Xdr
open Go.RowKit Go.Own Go.XdrL Go.Blk Go.OpsL Go.Proofs.YtmdojgkgohmghaaW.PrintLast Go.Proofs.YtmdojgkgohmghaaW.PrintWords
set_option linter.unusedVariables false
set_option linter.unusedSimpArgs false
variable {F : Nat → Prop} {w w' : World} {p : Nat} {vl : Value} {b : ByteArray}
/-- What the store behind an append leaves. -/
theorem WAt.stored {w2 w3 : World} {v' : Value} {c : ByteArray} (HA2 : WAt F w2 p vl b) (HF2 : Fr F w w2) (hown' : w3.ownsRow 0 5 1 v' (b.size + c.size) (bcells b ++ bcells c)) (hg' : w2.grownBy w3 vl.ownBlock) (hat' : v'.ownBlock = vl.ownBlock ∨ ∃ k, v'.ownBlock = some k ∧ w2.heap.size ≤ k) :
    w3.heap[p]? = some (.cells #[vl] 103 (0, 0)) ∧ WAt (Up F w (w3.setCell ⟨p, 0, none⟩ v')) (w3.setCell ⟨p, 0, none⟩ v') p v' (b ++ c) ∧ Fr F w (w3.setCell ⟨p, 0, none⟩ v') := by
  have HP3 := (hg'.block p (HA2.lt _ HA2.fp) (fun e => HA2.ne p e.symm rfl)).trans HA2.hp
  have HNB : ∀ k, v'.ownBlock = some k → (F k ∨ w.heap.size ≤ k) ∧ k ≠ p := fun k hk => by
    rcases hat' with e | ⟨k', e, hk'⟩
    · rw [e] at hk
      exact ⟨.inl (HA2.fl k hk), HA2.ne k hk⟩
    · rw [e] at hk
      simp only [Option.some.injEq] at hk
      have h1 := HA2.lt _ HA2.fp
      have h5 := HF2.size
      exact ⟨.inr (by omega), by omega⟩
  have HF3 := HF2.trans (Fr.grown (F := F) hg' (fun k hk => HA2.fl k hk)) (fun _ _ h => h)
  refine ⟨HP3, ⟨.inl HA2.fp, fun k hk => ?_, fun k hk => (HNB k hk).2, by simpa using set_at HP3 0 v', by rw [ByteArray.size_append, bcells_append]; exact row_kept hown' fun k hk => Below.heap_setCell w3 ⟨p, 0, none⟩ v' k (HNB k hk).2, fun k hk => ?_⟩, HF3.trans (Fr.setCell (F := F) w3 (p := ⟨p, 0, none⟩) HA2.fp v') (fun _ _ h => h)⟩
  · rcases (HNB k hk).1 with h | h
    · exact .inl h
    · exact .inr ⟨h, by have := (hown'.lt k hk).2; simpa [World.setCell] using this⟩
  · rcases hk with h | h
    · have h1 := HA2.lt k h
      have h2 := hg'.size
      have h3 := (Fr.setCell (F := F) w3 (p := ⟨p, 0, none⟩) HA2.fp v').size
      omega
    · exact h.2
/-- Bytes that lie in a new block are appended. -/
theorem WAt.append (h : WAt F w p vl b) (c : ByteArray) (cs : Array Value) (hcs : bcells c = cs.toList) (m : Nat) (hm : c.size = m) (hb : b.size + c.size ≤ 1000000100) :
    ∃ v' w3, (Builtin.append_ #[95, 95] 95 #[vl, .slice (some ⟨w.heap.size, 0, none⟩) m m]).run Try.prog (w.alloc (.cells cs 5)) = .ok v' w3 ∧
      w3.heap[p]? = some (.cells #[vl] 103 (0, 0)) ∧ WAt (Up F w (w3.setCell ⟨p, 0, none⟩ v')) (w3.setCell ⟨p, 0, none⟩ v') p v' (b ++ c) ∧ Fr F w (w3.setCell ⟨p, 0, none⟩ v') := by
  obtain rfl : cs = (bcells c).toArray := by rw [hcs]
  have HA2 := h.keep (Fr.alloc (fun _ => False) w (.cells (bcells c).toArray 5)) (fun _ _ h => h)
  have BN2 := alloc_at w (.cells (bcells c).toArray 5)
  obtain ⟨v', w3, hr, hown', hg', _, hat'⟩ := run_append_own_at (P := Try.prog) (w.alloc (.cells (bcells c).toArray 5)) 0 95 95 5 info_parts.choose _ 1 1 Try.underlying95 info_parts.choose_spec.1 info_parts.choose_spec.2.1 info_parts.choose_spec.2.2.1 info_parts.choose_spec.2.2.2 rfl (by omega) vl b.size _ HA2.hl ⟨w.heap.size, 0, none⟩ c.size m (bcells c) (by rw [bcells_length, Nat.mul_one]) (fun j u hu => by rw [Addr.add_mid, cell_of_row _ w.heap.size _ _ _ _ BN2]; simpa using hu) (bcells_one _) (by unfold maxLen; omega) (by omega) (Nat.zero_le _)
  rw [hm] at hr
  exact ⟨v', w3, hr, HA2.stored (Fr.alloc F w _) hown' hg' (hat'.imp id fun e => ⟨_, e, Nat.le_refl _⟩)⟩
set_option maxRecDepth 100000 in
set_option maxHeartbeats 4000000 in
theorem number_calls (h : WAt F w p vl b) (n : Nat) (hn : n < 4294967296) (hb : b.size ≤ 1000000000) : Calls Try.prog 50 #[.pointer (some ⟨p, 0, none⟩), .int .u32 (n : Int)] w fun e w' => e = .returned (.tuple #[]) ∧ (∃ vl', WAt (Up F w w') w' p vl' (b ++ num4 n)) ∧ Fr F w w' := by
  obtain ⟨av, cv, rfl, _⟩ := row_form h.hl
  have hx := blk1 h.hp
  obtain ⟨v', w3, hr, h3, h4, h5⟩ := h.append (num4 n) #[.int .u8 ((n : Int) / 16777216 % 256), .int .u8 ((n : Int) / 65536 % 256), .int .u8 ((n : Int) / 256 % 256), .int .u8 ((n : Int) % 256)] (bcells_num4 n) 4 rfl (by rw [num4_size]; omega)
  obtain ⟨a', c', rfl, _⟩ := row_form h4.hl
  have HR := Lib.hid hr
  have H3 := Lib.hid h3
  have H4 := Lib.hid h4
  have H5 := Lib.hid h5
  clear h hn hb hr h3 h4 h5
  obtain ⟨x0, y0⟩ := hx
  go_enter Try.func50, Try.ntmps50
  go_wp2_with ((with_reducible refine gate_dst (N := 23) rfl ?_); refine wpList_val rfl rfl (execOp_append rfl rfl rfl HR.out) ?_; refine stop_here ?_)
  refine Lib.hid ?_
  have hx := blk1 H3.out
  clear x0 y0
  obtain ⟨x0, y0⟩ := hx
  go_wp2
  go_end0
  rw [← ByteArray.size_append]
  exact ⟨rfl, ⟨_, H4.out⟩, H5.out⟩
/-- A writer of the bytes b. -/
def Wr (F : Nat → Prop) (w : World) (p : Nat) (b : ByteArray) : Prop := ∃ vl, WAt F w p vl b
theorem number_any (h : Wr F w p b) (n : Nat) (hn : n < 4294967296) (hb : b.size ≤ 1000000000) : Calls Try.prog 50 #[.pointer (some ⟨p, 0, none⟩), .int .u32 (n : Int)] w fun e w' => e = .returned (.tuple #[]) ∧ Wr (Up F w w') w' p (b ++ num4 n) ∧ Fr F w w' := h.elim fun _ h => number_calls h n hn hb
set_option maxRecDepth 100000 in
set_option maxHeartbeats 1000000 in
theorem bytes_any (h : Wr F w p b) : Calls Try.prog 51 #[.pointer (some ⟨p, 0, none⟩)] w fun e w' => e = .returned (.string b) ∧ w = w' := by
  obtain ⟨vl, h⟩ := h
  have hx := blk1 h.hp
  obtain ⟨x0, y0⟩ := hx
  obtain ⟨av, cv, rfl, _⟩ := row_form h.hl
  have HC : Hid ((convert 95 9 (.slice av b.size cv)).run Try.prog w = .ok (.string b) w) := by
    rcases row_some h.hl with ⟨e1, e2⟩ | ⟨g, cap, e1, e2⟩
    · simp only [Value.slice.injEq] at e1
      obtain ⟨rfl, e3, rfl⟩ := e1
      have hb : b = ByteArray.empty := by
        apply ByteArray.ext
        exact Array.eq_empty_of_size_eq_zero e2
      rw [hb]
      exact run_convert_bytes_nil w 95 5 Try.underlying95 Try.underlying5 _ _ 9 Try.underlying9
    · simp only [Value.slice.injEq] at e1
      obtain ⟨rfl, _, rfl⟩ := e1
      have hr := run_convert_bytes_arg (P := Try.prog) w 95 5 Try.underlying95 Try.underlying5 g 0 b.size cv (b.data.toList.map fun c => (c.toNat : Int)) (by rw [List.length_map, Array.length_toList]; rfl) (fun j hj => by
        rw [Nat.zero_add, h.hl.cellAt j (by omega)]
        have hj2 : j < b.data.toList.length := by rw [Array.length_toList]; exact hj
        simp only [bcells, List.getD, List.getElem?_map, List.getElem?_eq_getElem hj2, Option.map_some, Option.getD_some]) 9 Try.underlying9
      rw [nums_back] at hr
      exact hr
  have H := Lib.hid h
  clear h
  go_enter Try.func51, Try.ntmps51
  go_wp2_with ((with_reducible refine gate_dst (N := 9) rfl ?_); refine wpList_val rfl rfl (execOp_convert rfl rfl HC.out) ?_)
  go_ret
  exact ⟨rfl, rfl⟩
end Go.Proofs.Ytmdojgkgohmghaa.Xdr
namespace Go.Proofs.Ytmdojgkgohmghaa.Xdr
open Go.RowKit Go.Own Go.XdrL Go.Blk Go.OpsL Go.Proofs.YtmdojgkgohmghaaW.PrintLast Go.Proofs.YtmdojgkgohmghaaW.PrintWords
set_option linter.unusedVariables false
set_option linter.unusedSimpArgs false
/-- A reader lies at block p. -/
def RAt (w : World) (p : Nat) (r : Rd) : Prop := w.heap[p]? = some (.cells #[.string r.s, .int .i64 (r.e : Int)] 111 (0, 0)) ∧ r.s.size ≤ 140737488355328
variable {w w' : World} {p : Nat} {r : Rd}
theorem RAt.below (h : RAt w p r) (hb : Below w.heap.size w w') : RAt w' p r := ⟨below_old h.1 hb, h.2⟩
theorem RAt.blk (h : RAt w p r) : w.cell? ⟨p, 0, none⟩ = some (.string r.s) ∧ w.frozen? ⟨p, 0, none⟩ = false ∧ w.cell? ⟨p, 1, none⟩ = some (.int .i64 (r.e : Int)) ∧ w.frozen? ⟨p, 1, none⟩ = false := blk2 h.1
theorem RAt.fail (h : RAt w p r) (e : Nat) : RAt (w.setCell ⟨p, 1, none⟩ (.int .i64 (e : Int))) p (r.fail e) ∧ Fr (· = p) w (w.setCell ⟨p, 1, none⟩ (.int .i64 (e : Int))) :=
  ⟨⟨by simpa [Rd.fail] using set_at h.1 1 (.int .i64 (e : Int)), h.2⟩, Fr.setCell (F := (· = p)) w (p := ⟨p, 1, none⟩) rfl _⟩
theorem RAt.skip (h : RAt w p r) (n : Nat) : RAt (w.setCell ⟨p, 0, none⟩ (.string (r.s.extract n r.s.size))) p (r.skip n) ∧ Fr (· = p) w (w.setCell ⟨p, 0, none⟩ (.string (r.s.extract n r.s.size))) :=
  ⟨⟨by simpa [Rd.skip] using set_at h.1 0 (.string (r.s.extract n r.s.size)), by have := h.2; simp only [Rd.skip, ByteArray.size_extract]; omega⟩, Fr.setCell (F := (· = p)) w (p := ⟨p, 0, none⟩) rfl _⟩
theorem i64_or_nat (a b : Nat) (ha : a < 4611686018427387904) (hb : b < 4611686018427387904) : bits .or .i64 (a : Int) (b : Int) = ((a ||| b : Nat) : Int) := by
  have hx : a ||| b < 2 ^ 62 := Nat.or_lt_two_pow (by omega) (by omega)
  show IntKind.i64.wrap ((BitVec.ofInt 64 (a : Int) ||| BitVec.ofInt 64 (b : Int)).toNat : Int) = _
  rw [BitVec.toNat_or, ofInt_u64 a (by omega), ofInt_u64 b (by omega)]
  rw [IntKind.wrap_i64]; omega
theorem err_calls (h : RAt w p r) : Calls Try.prog 59 #[.pointer (some ⟨p, 0, none⟩)] w fun e w' => e = .returned (.int .i64 (r.e : Int)) ∧ w = w' := by
  obtain ⟨x0, y0, x1, y1⟩ := h.blk
  have hm := h.2
  go_enter Try.func59, Try.ntmps59
  go_wp2
  go_ret
  exact ⟨rfl, rfl⟩
theorem err_ok (h : RAt w p r) (he : r.e = 0) : Calls Try.prog 59 #[.pointer (some ⟨p, 0, none⟩)] w fun e w' => e = .returned (.int .i64 0) ∧ w = w' := by
  have := err_calls h
  rw [he] at this
  exact this
theorem new_calls (s : ByteArray) (w : World) (hs : s.size ≤ 140737488355328) : Calls Try.prog 46 #[.string s] w fun e w' => e = .returned (.pointer (some ⟨w.heap.size, 0, none⟩)) ∧ RAt w' w.heap.size ⟨s, 0⟩ ∧ Below w.heap.size w w' := by
  go_enter Try.func46, Try.ntmps46
  go_wp2
  go_ret
  exact ⟨rfl, ⟨alloc_at w _, hs⟩, (Below.refl _ _).alloc (Nat.le_refl _) _⟩
theorem peek_short (h : RAt w p r) (hs : r.s.size < 4) : Calls Try.prog 60 #[.pointer (some ⟨p, 0, none⟩), .int .i64 0] w fun e w' => e = .returned (.tuple #[.int .i64 0, .bool false]) ∧ Below w.heap.size w w' := by
  obtain ⟨x0, y0, x1, y1⟩ := h.blk
  have hm := h.2
  go_enter Try.func60, Try.ntmps60
  go_wp2
  go_ret2
  exact ⟨rfl, Below.refl _ _⟩
set_option maxRecDepth 100000 in
set_option maxHeartbeats 4000000 in
theorem peek_ok (h : RAt w p r) (hs : 4 ≤ r.s.size) : Calls Try.prog 60 #[.pointer (some ⟨p, 0, none⟩), .int .i64 0] w fun e w' => e = .returned (.tuple #[.int .i64 (get4 r.s : Int), .bool true]) ∧ Below w.heap.size w w' := by
  obtain ⟨x0, y0, x1, y1⟩ := h.blk
  have hm := h.2
  have hsz : (r.s.extract 0 4).size = 4 := by simp only [ByteArray.size_extract]; omega
  have hc := Lib.run_convert_string_bytes (P := Try.prog) w 9 95 5 (r.s.extract 0 4) Try.underlying9 Try.underlying95 Try.underlying5
  rw [hsz] at hc
  have HC := Lib.hid hc
  have HCELL := Lib.hid (fun j (hj : j < 4) => Lib.bytesWorld_cell w 5 (r.s.extract 0 4) j (by rw [hsz]; exact hj))
  have HBW : Hid (Below w.heap.size w (Lib.bytesWorld w 5 (r.s.extract 0 4))) := ⟨rfl, rfl, rfl, by rw [Lib.bytesWorld_size]; omega, fun k hk => Lib.bytesWorld_at_old w 5 _ k hk⟩
  have HG := Lib.hid (show acc (r.s.extract 0 4) 4 = get4 r.s by rw [acc_four, get4_extract _ _ (Nat.le_refl _)])
  have HAB := Lib.hid (fun k (hk : k < 4) => acc_bound (r.s.extract 0 4) hk)
  clear hc hsz
  go_enter Try.func60, Try.ntmps60
  go_wp2_with ((with_reducible refine gate_dst (N := 25) rfl ?_); refine wpList_val rfl rfl (execOp_convert rfl rfl HC.out) ?_; refine stop_here ?_)
  refine Lib.hid ?_
  clear HC x0 y0 x1 y1
  generalize Lib.bytesWorld w 5 (r.s.extract 0 4) = w1 at HCELL HBW ⊢
  generalize hG : w.heap.size = G at HCELL HBW ⊢
  generalize r.s.extract 0 4 = T at HCELL HG HAB ⊢
  go_wp2
  go_loopw [6, 8, 27] (fun s6 s8 s27 wr => ∃ k : Nat, s27 = .int .i64 k ∧ k ≤ 4 ∧ s6 = .int .i64 (acc T k : Int) ∧ Hid (wr = w1)) (fun _ _ s27 _ => 4 - (intOf s27).toNat)
  case atStart => exact ⟨0, by simp, by omega, by simp [acc], Lib.hid rfl⟩
  case round =>
    obtain ⟨k, rfl, hk, rfl, hw⟩ := hrel
    obtain rfl := hw.out
    by_cases hlt : k < 4
    · have c0 := HCELL.out k hlt
      have hab := HAB.out k hlt
      obtain ⟨m, hm2⟩ : ∃ m, acc T k = m := ⟨_, rfl⟩
      obtain ⟨c, hc2⟩ : ∃ c, (T.data.toList.getD k 0) = c := ⟨_, rfl⟩
      have HAC := Lib.hid (show acc T (k + 1) = m * 256 + c.toNat by rw [← hm2, ← hc2]; rfl)
      rw [hm2] at hab ⊢
      rw [hc2] at c0
      have hct := c.toNat_lt
      go_wp2
      have HOR : bits .or .i64 ((m : Int) * 256) (c.toNat : Int) = ((acc T (k + 1) : Nat) : Int) := by
        have h1 := i64_or_nat (m * 256) c.toNat (by omega) (by omega)
        rw [nat_join 8 _ _ (by omega) (by omega)] at h1
        rw [HAC.out]
        simpa using h1
      rw [HOR]
      go_roundw
      case rel => exact ⟨k + 1, by simp, by omega, rfl, by first | exact Lib.hid rfl | exact Lib.hid trivial⟩
      case measure => simp [intOf]; omega
    · obtain rfl : k = 4 := by omega
      rw [HG.out]
      go_wp2
      go_ret2
      exact ⟨rfl, HBW.out⟩
/-- What a reader's call leaves: the reader, and new blocks. -/
def Left (p : Nat) (r' : Rd) (w w' : World) : Prop := RAt w' p r' ∧ Fr (· = p) w w'
set_option maxRecDepth 100000 in
set_option maxHeartbeats 1000000 in
theorem number_reads (h : RAt w p r) : Calls Try.prog 47 #[.pointer (some ⟨p, 0, none⟩)] w fun e w' => e = .returned (.int .u32 (r.number.1 : Int)) ∧ Left p r.number.2 w w' := by
  have H := Lib.hid h
  by_cases he : r.e = 0
  · by_cases hs : r.s.size < 4
    · have e : r.number = (0, r.fail 2) := by simp [Rd.number, he, hs]
      rw [e]
      clear h
      go_enter Try.func47, Try.ntmps47
      go_wp2
      refine wp_scope_once 0 rfl ?_
      go_wp2_with (first | (go_at_call 59; refine (err_ok H.out he).mono ?_; rintro e w1 ⟨rfl, rfl⟩) | (go_at_call 60; refine (peek_short H.out hs).mono ?_; rintro e w2 ⟨rfl, hb⟩; have H2 := Lib.hid (H.out.below hb); have HB := Lib.hid hb; clear hb; obtain ⟨x0, y0, x1, y1⟩ := H2.out.blk))
      go_step3
      refine And.intro rfl ?_
      show Code.wp _ _ _ _ _
      go_wp2
      try rw [Exit.noGoto_ret]
      go_ret
      have h3 := H2.out.fail 2
      exact ⟨rfl, h3.1, (Fr.of_below HB.out).trans h3.2 (fun _ _ h => h)⟩
    · have e : r.number = (get4 r.s, r.skip 4) := by simp [Rd.number, he, hs]
      rw [e]
      clear h
      have hm := H.out.2
      have hg := get4_lt r.s
      go_enter Try.func47, Try.ntmps47
      go_wp2
      go_step3
      go_wp2_with (first | (go_at_call 59; refine (err_ok H.out he).mono ?_; rintro e w1 ⟨rfl, rfl⟩) | (go_at_call 60; refine (peek_ok H.out (by omega)).mono ?_; rintro e w2 ⟨rfl, hb⟩; have H2 := Lib.hid (H.out.below hb); have HB := Lib.hid hb; clear hb; obtain ⟨x0, y0, x1, y1⟩ := H2.out.blk))
      try rw [Exit.noGoto_ret]
      go_ret
      have h3 := H2.out.skip 4
      exact ⟨rfl, h3.1, (Fr.of_below HB.out).trans h3.2 (fun _ _ h => h)⟩
  · have e : r.number = (0, r) := by simp [Rd.number, he]
    rw [e]
    clear h
    have hi : ¬ (r.e : Int) = 0 := by omega
    go_enter Try.func47, Try.ntmps47
    go_wp2
    go_step3
    go_wp2_with (go_at_call 59; refine (err_calls H.out).mono ?_; rintro e w1 ⟨rfl, rfl⟩)
    try rw [Exit.noGoto_ret]
    go_ret
    exact ⟨rfl, H.out, Fr.refl _ _⟩
end Go.Proofs.Ytmdojgkgohmghaa.Xdr
