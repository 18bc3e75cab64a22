/- Layer proto: a packet is written. -/
import Derived.Test.YtiedmkgdhfkcoaaDoorPktRight
import Derived.Test.YtiedmkgdhfkcoaaDoorPktMid
import Derived.Test.YtiedmkgdhfkcoaaDoorXdrB
namespace Go.Proofs.YtiedmkgdhfkcoaaDoor.Pkt
open Go.RowKit Go.Own Go.Blk Go.OpsL Go.XdrL Go.PktL Go.Sees Go.Proofs.YtiedmkgdhfkcoaaDoor.Xdr Go.Proofs.YtiedmkgdhfkcoaaDoorW.PrintLast Go.Proofs.YtiedmkgdhfkcoaaDoorW.PrintWords
set_option linter.unusedVariables false
set_option linter.unusedSimpArgs false
set_option maxRecDepth 100000
def n3 (p : Pk) (k : Nat) : Int := [p.kind, p.fr, p.to].getD k 0
def s3 (p : Pk) (k : Nat) : ByteArray := [p.path, p.other, p.data].getD k ByteArray.empty
theorem idx_int (a b c : Int) (k : Nat) (hk : k < 3) (w : World) : (Instr.index 73 (.agg #[.int .i64 a, .int .i64 b, .int .i64 c]) (.int .i64 (k : Int))).run Tryd.prog w = .ok (.int .i64 ([a, b, c].getD k 0)) w := by
  rcases (show k = 0 ∨ k = 1 ∨ k = 2 by omega) with rfl | rfl | rfl <;> kernel_rfl
theorem idx_str (a b c : ByteArray) (k : Nat) (hk : k < 3) (w : World) : (Instr.index 81 (.agg #[.string a, .string b, .string c]) (.int .i64 (k : Int))).run Tryd.prog w = .ok (.string ([a, b, c].getD k ByteArray.empty)) w := by
  rcases (show k = 0 ∨ k = 1 ∨ k = 2 by omega) with rfl | rfl | rfl <;> kernel_rfl
theorem idx_p4 (G k : Nat) (hk : k < 4) (w : World) : (Instr.index 76 (.agg #[.pointer (some ⟨G, 3, none⟩), .pointer (some ⟨G, 4, none⟩), .pointer (some ⟨G, 5, none⟩), .pointer (some ⟨G, 6, none⟩)]) (.int .i64 (k : Int))).run Tryd.prog w = .ok (.pointer (some ⟨G, 3 + k, none⟩)) w := by
  rcases (show k = 0 ∨ k = 1 ∨ k = 2 ∨ k = 3 by omega) with rfl | rfl | rfl | rfl <;> kernel_rfl
theorem idx_p8 (G k : Nat) (hk : k < 8) (w : World) : (Instr.index 77 (.agg #[.pointer (some ⟨G, 9, none⟩), .pointer (some ⟨G, 10, none⟩), .pointer (some ⟨G, 11, none⟩), .pointer (some ⟨G, 12, none⟩), .pointer (some ⟨G, 13, none⟩), .pointer (some ⟨G, 14, none⟩), .pointer (some ⟨G, 15, none⟩), .pointer (some ⟨G, 16, none⟩)]) (.int .i64 (k : Int))).run Tryd.prog w = .ok (.pointer (some ⟨G, 9 + k, none⟩)) w := by
  rcases (show k = 0 ∨ k = 1 ∨ k = 2 ∨ k = 3 ∨ k = 4 ∨ k = 5 ∨ k = 6 ∨ k = 7 by omega) with rfl | rfl | rfl | rfl | rfl | rfl | rfl | rfl <;> kernel_rfl
theorem nums_length (p : Pk) : p.nums.length = 17 := rfl
theorem nums_step (p : Pk) (k : Nat) (hk : k < 17) : nums4 (p.nums.take (k + 1)) = nums4 (p.nums.take k) ++ num4 (p.nums.getD k 0) := by
  rw [List.take_succ_eq_append_getElem (by rw [nums_length]; exact hk), nums4_append, List.getD, List.getElem?_eq_getElem (by rw [nums_length]; exact hk)]
  simp [nums4]
theorem nums_sz (p : Pk) (k : Nat) (hk : k ≤ 17) : (nums4 (p.nums.take k)).size = 4 * k := by
  rw [nums4_size, List.length_take, nums_length, Nat.min_eq_left hk]
theorem n3_num (p : Pk) (k : Nat) (hk : k < 3) : u32 (n3 p k) = p.nums.getD k 0 := by
  rcases (show k = 0 ∨ k = 1 ∨ k = 2 by omega) with rfl | rfl | rfl <;> rfl
theorem getD_lt (p : Pk) (h : p.OK) (k : Nat) : p.nums.getD k 0 < 4294967296 := by
  by_cases hk : k < p.nums.length
  · rw [List.getD, List.getElem?_eq_getElem hk]; exact nums_lt p h _ (List.getElem_mem hk)
  · rw [List.getD, List.getElem?_eq_none (by omega)]; decide
theorem cell4 {w : World} {G : Nat} {p : Pk} (h : PAt w G p) (k : Nat) (hk : k < 4) : w.cell? ⟨G, 3 + k, none⟩ = some (.int .u32 ((p.nums.getD (3 + k) 0 : Nat) : Int)) := by
  obtain ⟨x0, x1, x2, x3, x4, x5, x6, x7, x8, x9, x10, x11, x12, x13, x14, x15, x16, x17, x18, x19⟩ := h.cells
  rcases (show k = 0 ∨ k = 1 ∨ k = 2 ∨ k = 3 by omega) with rfl | rfl | rfl | rfl
  · exact x3
  · exact x4
  · exact x5
  · exact x6
theorem cell8 {w : World} {G : Nat} {p : Pk} (h : PAt w G p) (k : Nat) (hk : k < 8) : w.cell? ⟨G, 9 + k, none⟩ = some (.int .u32 ((p.nums.getD (9 + k) 0 : Nat) : Int)) := by
  obtain ⟨x0, x1, x2, x3, x4, x5, x6, x7, x8, x9, x10, x11, x12, x13, x14, x15, x16, x17, x18, x19⟩ := h.cells
  rcases (show k = 0 ∨ k = 1 ∨ k = 2 ∨ k = 3 ∨ k = 4 ∨ k = 5 ∨ k = 6 ∨ k = 7 by omega) with rfl | rfl | rfl | rfl | rfl | rfl | rfl | rfl
  · exact x9
  · exact x10
  · exact x11
  · exact x12
  · exact x13
  · exact x14
  · exact x15
  · exact x16
/-- The texts behind b. -/
def txt (p : Pk) (b : ByteArray) : Nat → ByteArray
  | 0 => b
  | k + 1 => txt p b k ++ text4 (s3 p k)
theorem texts_step (p : Pk) (b : ByteArray) (k : Nat) : txt p b (k + 1) = txt p b k ++ text4 (s3 p k) := rfl
section
variable {W w w' : World} {B P X : Nat} {ob : Obj} {b : ByteArray}
/-- A writer, and a block that it hasn't. -/
def WX (B P X : Nat) (ob : Obj) (W w : World) (b : ByteArray) : Prop := ∃ F : Nat → Prop, Wr F w P b ∧ (∀ k, F k → B ≤ k) ∧ ¬ F X ∧ w.heap[X]? = some ob ∧ Below B W w
theorem WX.of (hB : B ≤ W.heap.size) (h : WB B P W w b) (hb : Below w.heap.size w w') (hX : w.heap.size ≤ X) (hx : w'.heap[X]? = some ob) : WX B P X ob W w' b :=
  h.elim fun F ⟨h1, h2, h3⟩ => ⟨F, h1.below hb, h2, fun hF => by have := h1.lt _ hF; omega, hx, h3.trans (hb.mono (below_le h3 hB))⟩
theorem WX.wb (h : WX B P X ob W w b) : WB B P W w b := h.elim fun F ⟨h1, h2, _, _, h3⟩ => ⟨F, h1, h2, h3⟩
theorem WX.at (h : WX B P X ob W w b) : w.heap[X]? = some ob := h.elim fun F ⟨_, _, _, h, _⟩ => h
theorem WX.out (h : WX B P X ob W w b) : Below B W w := h.wb.out
theorem WX.number (hB : B ≤ W.heap.size) (h : WX B P X ob W w b) (n : Nat) (hn : n < 4294967296) (hb : b.size ≤ 1000000000) : Calls Tryd.prog 32 #[.pointer (some ⟨P, 0, none⟩), .int .u32 (n : Int)] w fun e w' => e = .returned (.tuple #[]) ∧ WX B P X ob W w' (b ++ num4 n) :=
  h.elim fun F ⟨h1, h2, h3, h4, h5⟩ => (number_any h1 n hn hb).mono fun e w' ⟨he, a, c⟩ => ⟨he, _, a, fun i hi => by rcases hi with hi | hi; exact h2 i hi; have := below_le h5 hB; omega, fun hu => by rcases hu with hu | hu; exact h3 hu; have := lt_of h4; omega, c.at h4 h3, below_fr h5 h2 c (below_le h5 hB)⟩
end
theorem load8 {w : World} {X G : Nat} (h : w.heap[X]? = some (.cells #[.pointer (some ⟨G, 9, none⟩), .pointer (some ⟨G, 10, none⟩), .pointer (some ⟨G, 11, none⟩), .pointer (some ⟨G, 12, none⟩), .pointer (some ⟨G, 13, none⟩), .pointer (some ⟨G, 14, none⟩), .pointer (some ⟨G, 15, none⟩), .pointer (some ⟨G, 16, none⟩)] 77 (0, 0))) : (Instr.loadAt 77 (.pointer (some ⟨X, 0, none⟩))).run Tryd.prog w = .ok (.agg #[.pointer (some ⟨G, 9, none⟩), .pointer (some ⟨G, 10, none⟩), .pointer (some ⟨G, 11, none⟩), .pointer (some ⟨G, 12, none⟩), .pointer (some ⟨G, 13, none⟩), .pointer (some ⟨G, 14, none⟩), .pointer (some ⟨G, 15, none⟩), .pointer (some ⟨G, 16, none⟩)]) w := by
  have hv := run_loadVar_row w X _ 77 _ _ _ h Tryd.underlying77 rfl (show (Tryd.prog.info? 77).map (·.size) = some 8 by kernel_rfl)
  simp only [Instr.loadAt, Instr.sureAddr, Sem.run_bind, Sem.run_pure, Result.andThen_ok, hv]
section
variable {W w w' : World} {B P X : Nat} {ob : Obj} {b : ByteArray}
theorem wb_text (hB : B ≤ W.heap.size) (h : WB B P W w b) (s : ByteArray) (hs : s.size < 4294967296) (hb : b.size + s.size ≤ 1000000000 - 8) (h4 : b.size % 4 = 0) : Calls Tryd.prog 34 #[.pointer (some ⟨P, 0, none⟩), .string s] w fun e w' => e = .returned (.tuple #[]) ∧ WB B P W w' (b ++ text4 s) :=
  h.elim fun F ⟨h1, h2, h3⟩ => (text_any h1 s hs hb h4).mono fun _ _ ⟨he, a, c⟩ => ⟨he, WB.put hB h2 h3 a c⟩
end
theorem txt_size (p : Pk) (b : ByteArray) (h4 : b.size % 4 = 0) (hs : p.path.size ≤ 64 ∧ p.other.size ≤ 64 ∧ p.data.size ≤ 128) : ∀ k, k ≤ 3 → (txt p b k).size % 4 = 0 ∧ (txt p b k).size ≤ b.size + 140 * k
  | 0, _ => ⟨h4, by show b.size ≤ _; omega⟩
  | k + 1, hk => by
    have ih := txt_size p b h4 hs k (by omega)
    have hz : (s3 p k).size ≤ 128 := by
      rcases (show k = 0 ∨ k = 1 ∨ k = 2 by omega) with rfl | rfl | rfl
      · show p.path.size ≤ _; omega
      · show p.other.size ≤ _; omega
      · show p.data.size ≤ _; omega
    rw [texts_step, ByteArray.size_append, text4_size]
    unfold padOf
    omega
set_option maxHeartbeats 2000000 in
theorem write_no (p : Pk) (h : p.OK) (hr : right p = false) (w : World) : Calls Tryd.prog 11 #[.agg #[.int .i64 p.kind, .int .i64 p.fr, .int .i64 p.to, .int .u32 (p.life : Int), .int .u32 (p.seq : Int), .int .u32 (p.asked : Int), .int .u32 (p.boot : Int), .int .i64 p.code, .int .i64 p.err, .int .u32 (p.file : Int), .int .u32 (p.epoch : Int), .int .u32 (p.off : Int), .int .u32 (p.len : Int), .int .u32 (p.size : Int), .int .u32 (p.mode : Int), .int .u32 (p.deny : Int), .int .u32 (p.handle : Int), .string p.path, .string p.other, .string p.data]] w fun e w' => e = .returned (.tuple #[.string ⟨#[]⟩, .int .i64 1]) ∧ Below w.heap.size w w' := by
  have HO := Lib.hid h
  have HR := Lib.hid hr
  have hal : Below w.heap.size w (w.alloc (.cells #[.int .i64 p.kind, .int .i64 p.fr, .int .i64 p.to, .int .u32 (p.life : Int), .int .u32 (p.seq : Int), .int .u32 (p.asked : Int), .int .u32 (p.boot : Int), .int .i64 p.code, .int .i64 p.err, .int .u32 (p.file : Int), .int .u32 (p.epoch : Int), .int .u32 (p.off : Int), .int .u32 (p.len : Int), .int .u32 (p.size : Int), .int .u32 (p.mode : Int), .int .u32 (p.deny : Int), .int .u32 (p.handle : Int), .string p.path, .string p.other, .string p.data] 27)) := (Below.refl _ _).alloc (Nat.le_refl _) _
  have HAL := Lib.hid hal
  have HPA := Lib.hid (PAt.alloc w p)
  clear h hr hal
  go_enter Tryd.func11, Tryd.ntmps11
  go_wp2_with ((with_reducible refine gate_dst (N := 15) rfl ?_); refine wpList_val rfl rfl (execOp_load rfl rfl HPA.out.load) ?_; refine stop_here ?_)
  refine Lib.hid ?_
  generalize w.alloc (.cells #[.int .i64 p.kind, .int .i64 p.fr, .int .i64 p.to, .int .u32 (p.life : Int), .int .u32 (p.seq : Int), .int .u32 (p.asked : Int), .int .u32 (p.boot : Int), .int .i64 p.code, .int .i64 p.err, .int .u32 (p.file : Int), .int .u32 (p.epoch : Int), .int .u32 (p.off : Int), .int .u32 (p.len : Int), .int .u32 (p.size : Int), .int .u32 (p.mode : Int), .int .u32 (p.deny : Int), .int .u32 (p.handle : Int), .string p.path, .string p.other, .string p.data] 27) = w1 at HAL HPA ⊢
  go_wp2_with fail
  refine (right_any p HO.out _).mono ?_
  rintro e w2 ⟨rfl, hb⟩
  rw [HR.out]
  have H2 := Lib.hid (HAL.out.trans (hb.mono HAL.out.size))
  clear hb
  go_wp2
  go_ret2
  exact ⟨rfl, H2.out⟩
set_option maxHeartbeats 32000000 in
theorem write_yes (p : Pk) (h : p.OK) (hr : right p = true) (w : World) : Calls Tryd.prog 11 #[.agg #[.int .i64 p.kind, .int .i64 p.fr, .int .i64 p.to, .int .u32 (p.life : Int), .int .u32 (p.seq : Int), .int .u32 (p.asked : Int), .int .u32 (p.boot : Int), .int .i64 p.code, .int .i64 p.err, .int .u32 (p.file : Int), .int .u32 (p.epoch : Int), .int .u32 (p.off : Int), .int .u32 (p.len : Int), .int .u32 (p.size : Int), .int .u32 (p.mode : Int), .int .u32 (p.deny : Int), .int .u32 (p.handle : Int), .string p.path, .string p.other, .string p.data]] w fun e w' => e = .returned (.tuple #[.string p.bytes, .int .i64 0]) ∧ Below w.heap.size w w' := by
  have HO := Lib.hid h
  have HR := Lib.hid hr
  have hal : Below w.heap.size w (w.alloc (.cells #[.int .i64 p.kind, .int .i64 p.fr, .int .i64 p.to, .int .u32 (p.life : Int), .int .u32 (p.seq : Int), .int .u32 (p.asked : Int), .int .u32 (p.boot : Int), .int .i64 p.code, .int .i64 p.err, .int .u32 (p.file : Int), .int .u32 (p.epoch : Int), .int .u32 (p.off : Int), .int .u32 (p.len : Int), .int .u32 (p.size : Int), .int .u32 (p.mode : Int), .int .u32 (p.deny : Int), .int .u32 (p.handle : Int), .string p.path, .string p.other, .string p.data] 27)) := (Below.refl _ _).alloc (Nat.le_refl _) _
  have HAL := Lib.hid hal
  have hpa := PAt.alloc w p
  have hsz : (w.alloc (.cells #[.int .i64 p.kind, .int .i64 p.fr, .int .i64 p.to, .int .u32 (p.life : Int), .int .u32 (p.seq : Int), .int .u32 (p.asked : Int), .int .u32 (p.boot : Int), .int .i64 p.code, .int .i64 p.err, .int .u32 (p.file : Int), .int .u32 (p.epoch : Int), .int .u32 (p.off : Int), .int .u32 (p.len : Int), .int .u32 (p.size : Int), .int .u32 (p.mode : Int), .int .u32 (p.deny : Int), .int .u32 (p.handle : Int), .string p.path, .string p.other, .string p.data] 27)).heap.size = w.heap.size + 1 := by simp
  have HS : Hid (p.path.size ≤ 64 ∧ p.other.size ≤ 64 ∧ p.data.size ≤ 128) := Lib.hid ((right_iff p).1 hr).2.2.2.2.2.2.2
  obtain ⟨G, hG⟩ : ∃ G, w.heap.size = G := ⟨_, rfl⟩
  rw [hG] at hpa
  have HPA := Lib.hid hpa
  have HGZ : Hid ((w.alloc (.cells #[.int .i64 p.kind, .int .i64 p.fr, .int .i64 p.to, .int .u32 (p.life : Int), .int .u32 (p.seq : Int), .int .u32 (p.asked : Int), .int .u32 (p.boot : Int), .int .i64 p.code, .int .i64 p.err, .int .u32 (p.file : Int), .int .u32 (p.epoch : Int), .int .u32 (p.off : Int), .int .u32 (p.len : Int), .int .u32 (p.size : Int), .int .u32 (p.mode : Int), .int .u32 (p.deny : Int), .int .u32 (p.handle : Int), .string p.path, .string p.other, .string p.data] 27)).heap.size = G + 1) := Lib.hid (by rw [hsz, hG])
  clear h hr hal hpa hsz
  go_enter Tryd.func11, Tryd.ntmps11
  go_wp2_with ((with_reducible refine gate_dst (N := 15) rfl ?_); refine wpList_val rfl rfl (execOp_load rfl rfl HPA.out.load) ?_; refine stop_here ?_)
  refine Lib.hid ?_
  generalize w.alloc (.cells #[.int .i64 p.kind, .int .i64 p.fr, .int .i64 p.to, .int .u32 (p.life : Int), .int .u32 (p.seq : Int), .int .u32 (p.asked : Int), .int .u32 (p.boot : Int), .int .i64 p.code, .int .i64 p.err, .int .u32 (p.file : Int), .int .u32 (p.epoch : Int), .int .u32 (p.off : Int), .int .u32 (p.len : Int), .int .u32 (p.size : Int), .int .u32 (p.mode : Int), .int .u32 (p.deny : Int), .int .u32 (p.handle : Int), .string p.path, .string p.other, .string p.data] 27) = W at HAL HPA HGZ ⊢
  have HLE := Lib.hid (Nat.le_refl W.heap.size)
  have HGW : Hid (G < W.heap.size) := Lib.hid (by have := HGZ.out; omega)
  go_wp2_with fail
  refine (right_any p HO.out _).mono ?_
  rintro e w2 ⟨rfl, hb⟩
  rw [HR.out]
  have H2 := Lib.hid (WB.new hb HLE.out)
  have HP2 := Lib.hid ((HPA.out.below hb).below ((Below.refl w2.heap.size w2).alloc (Nat.le_refl _) (.cells #[.slice none 0 0] 72)))
  clear hb
  obtain ⟨P, hP⟩ : ∃ P, w2.heap.size = P := ⟨_, rfl⟩
  obtain ⟨x0, x1, x2, _⟩ := HP2.out.cells
  rw [hP] at H2
  go_wp2
  clear x0 x1 x2
  generalize w2.alloc (.cells #[.slice none 0 0] 72) = w3 at H2 HP2 ⊢
  clear hP
  go_loopw [25] (fun s25 wr => ∃ k : Nat, k ≤ 3 ∧ s25 = .int .i64 k ∧ Hid (WB W.heap.size P W wr (nums4 (p.nums.take k)))) (fun s25 _ => 3 - (intOf s25).toNat)
  case atStart => exact ⟨0, by omega, by simp, H2⟩
  case round =>
    clear H2 HP2
    obtain ⟨k, hk, rfl, HW⟩ := hrel
    by_cases hlt : k < 3
    · have hix := idx_int p.kind p.fr p.to k hlt
      have HN := Lib.hid (nums_step p k (by omega))
      have HQ := Lib.hid (n3_num p k hlt)
      have HZ := Lib.hid (nums_sz p k (by omega))
      generalize hq : [p.kind, p.fr, p.to].getD k 0 = q at hix
      have HQQ : Hid (u32 q = p.nums.getD k 0) := Lib.hid (by rw [← hq]; exact HQ.out)
      clear hq
      go_wp2_with fail
      rw [show q % 4294967296 = ((u32 q : Nat) : Int) by unfold u32; omega, HQQ.out]
      refine (HW.out.number HLE.out _ (getD_lt p HO.out k) (by have := HZ.out; omega)).mono ?_
      rintro e w4 ⟨rfl, h4⟩
      rw [← HN.out] at h4
      have H4 := Lib.hid h4
      clear h4 hix
      go_wp2
      go_roundw
      case rel => exact ⟨k + 1, by omega, by go_num, H4⟩
      case measure => simp [intOf]; omega
    · obtain rfl : k = 3 := by omega
      go_wp2_with fail
      refine (middle_any _ _).mono ?_
      rintro e w4 ⟨rfl, hb⟩
      have H4 := Lib.hid (HW.out.below hb HLE.out)
      clear hb HW
      have hal2 := ((Below.refl w4.heap.size w4).alloc (Nat.le_refl _) (.cells #[.pointer (some ⟨G, 3, none⟩), .pointer (some ⟨G, 4, none⟩), .pointer (some ⟨G, 5, none⟩), .pointer (some ⟨G, 6, none⟩)] 76)).alloc (by simp) (.cells #[.pointer (some ⟨G, 9, none⟩), .pointer (some ⟨G, 10, none⟩), .pointer (some ⟨G, 11, none⟩), .pointer (some ⟨G, 12, none⟩), .pointer (some ⟨G, 13, none⟩), .pointer (some ⟨G, 14, none⟩), .pointer (some ⟨G, 15, none⟩), .pointer (some ⟨G, 16, none⟩)] 77)
      have a4 := alloc_old (alloc_at w4 (.cells #[.pointer (some ⟨G, 3, none⟩), .pointer (some ⟨G, 4, none⟩), .pointer (some ⟨G, 5, none⟩), .pointer (some ⟨G, 6, none⟩)] 76)) (.cells #[.pointer (some ⟨G, 9, none⟩), .pointer (some ⟨G, 10, none⟩), .pointer (some ⟨G, 11, none⟩), .pointer (some ⟨G, 12, none⟩), .pointer (some ⟨G, 13, none⟩), .pointer (some ⟨G, 14, none⟩), .pointer (some ⟨G, 15, none⟩), .pointer (some ⟨G, 16, none⟩)] 77)
      have a8 := alloc_at (w4.alloc (.cells #[.pointer (some ⟨G, 3, none⟩), .pointer (some ⟨G, 4, none⟩), .pointer (some ⟨G, 5, none⟩), .pointer (some ⟨G, 6, none⟩)] 76)) (.cells #[.pointer (some ⟨G, 9, none⟩), .pointer (some ⟨G, 10, none⟩), .pointer (some ⟨G, 11, none⟩), .pointer (some ⟨G, 12, none⟩), .pointer (some ⟨G, 13, none⟩), .pointer (some ⟨G, 14, none⟩), .pointer (some ⟨G, 15, none⟩), .pointer (some ⟨G, 16, none⟩)] 77)
      rw [show (w4.alloc (.cells #[.pointer (some ⟨G, 3, none⟩), .pointer (some ⟨G, 4, none⟩), .pointer (some ⟨G, 5, none⟩), .pointer (some ⟨G, 6, none⟩)] 76)).heap.size = w4.heap.size + 1 by simp] at a8
      obtain ⟨y0, _, y1, _, y2, _, y3, _⟩ := blk4 a4
      have H5 := Lib.hid (WX.of (X := w4.heap.size + 1) HLE.out H4.out hal2 (Nat.le_succ _) a8)
      clear hal2 a4 a8 H4
      go_wp2
      clear y0 y1 y2 y3
      generalize (w4.alloc (.cells #[.pointer (some ⟨G, 3, none⟩), .pointer (some ⟨G, 4, none⟩), .pointer (some ⟨G, 5, none⟩), .pointer (some ⟨G, 6, none⟩)] 76)).alloc (.cells #[.pointer (some ⟨G, 9, none⟩), .pointer (some ⟨G, 10, none⟩), .pointer (some ⟨G, 11, none⟩), .pointer (some ⟨G, 12, none⟩), .pointer (some ⟨G, 13, none⟩), .pointer (some ⟨G, 14, none⟩), .pointer (some ⟨G, 15, none⟩), .pointer (some ⟨G, 16, none⟩)] 77) = w5 at H5 ⊢
      generalize hB8 : w4.heap.size + 1 = B8 at H5 ⊢
      clear hB8
      go_loopw [37] (fun s37 wr => ∃ k : Nat, k ≤ 4 ∧ s37 = .int .i64 k ∧ Hid (WX W.heap.size P B8 (.cells #[.pointer (some ⟨G, 9, none⟩), .pointer (some ⟨G, 10, none⟩), .pointer (some ⟨G, 11, none⟩), .pointer (some ⟨G, 12, none⟩), .pointer (some ⟨G, 13, none⟩), .pointer (some ⟨G, 14, none⟩), .pointer (some ⟨G, 15, none⟩), .pointer (some ⟨G, 16, none⟩)] 77 (0, 0)) W wr (nums4 (p.nums.take (3 + k))))) (fun s37 _ => 4 - (intOf s37).toNat)
      case atStart => exact ⟨0, by omega, by simp, H5⟩
      case round =>
        clear H5
        obtain ⟨k, hk, rfl, HW⟩ := hrel
        by_cases hlt : k < 4
        · have hix := idx_p4 G k hlt
          have HN := Lib.hid (nums_step p (3 + k) (by omega))
          have HZ := Lib.hid (nums_sz p (3 + k) (by omega))
          have HLT := Lib.hid (getD_lt p HO.out (3 + k))
          have hc := cell4 (HPA.out.below HW.out.out) k hlt
          generalize p.nums.getD (3 + k) 0 = q at HN HLT hc
          go_wp2_with fail
          refine (HW.out.number HLE.out _ HLT.out (by have := HZ.out; omega)).mono ?_
          rintro e w4 ⟨rfl, h4⟩
          rw [← HN.out] at h4
          have H4 := Lib.hid h4
          clear h4 hix hc
          go_wp2
          go_roundw
          case rel => exact ⟨k + 1, by omega, by go_num, H4⟩
          case measure => simp [intOf]; omega
        · obtain rfl : k = 4 := by omega
          have HQ7 : Hid (p.code % 4294967296 = ((p.nums.getD 7 0 : Nat) : Int)) := Lib.hid (by show _ = ((u32 p.code : Nat) : Int); unfold u32; omega)
          have HQ8 : Hid (p.err % 4294967296 = ((p.nums.getD 8 0 : Nat) : Int)) := Lib.hid (by show _ = ((u32 p.err : Nat) : Int); unfold u32; omega)
          have HN7 := Lib.hid (nums_step p 7 (by omega))
          have HN8 := Lib.hid (nums_step p 8 (by omega))
          have HZ7 := Lib.hid (nums_sz p 7 (by omega))
          have HZ8 := Lib.hid (nums_sz p 8 (by omega))
          have h7 : WX W.heap.size P B8 (.cells #[.pointer (some ⟨G, 9, none⟩), .pointer (some ⟨G, 10, none⟩), .pointer (some ⟨G, 11, none⟩), .pointer (some ⟨G, 12, none⟩), .pointer (some ⟨G, 13, none⟩), .pointer (some ⟨G, 14, none⟩), .pointer (some ⟨G, 15, none⟩), .pointer (some ⟨G, 16, none⟩)] 77 (0, 0)) W wr (nums4 (p.nums.take 7)) := HW.out
          have H7 := Lib.hid h7
          clear h7 HW
          obtain ⟨_, _, _, _, _, _, _, x7, _⟩ := (HPA.out.below H7.out.out).cells
          go_wp2_with fail
          rw [HQ7.out]
          refine (H7.out.number HLE.out _ (getD_lt p HO.out 7) (by have := HZ7.out; omega)).mono ?_
          rintro e w6 ⟨rfl, h8⟩
          rw [← HN7.out] at h8
          have h8' : WX W.heap.size P B8 (.cells #[.pointer (some ⟨G, 9, none⟩), .pointer (some ⟨G, 10, none⟩), .pointer (some ⟨G, 11, none⟩), .pointer (some ⟨G, 12, none⟩), .pointer (some ⟨G, 13, none⟩), .pointer (some ⟨G, 14, none⟩), .pointer (some ⟨G, 15, none⟩), .pointer (some ⟨G, 16, none⟩)] 77 (0, 0)) W w6 (nums4 (p.nums.take 8)) := h8
          have H8 := Lib.hid h8'
          clear h8 h8' H7 x7
          obtain ⟨_, _, _, _, _, _, _, _, x8, _⟩ := (HPA.out.below H8.out.out).cells
          go_wp2_with fail
          rw [HQ8.out]
          refine (H8.out.number HLE.out _ (getD_lt p HO.out 8) (by have := HZ8.out; omega)).mono ?_
          rintro e w7 ⟨rfl, h9⟩
          rw [← HN8.out] at h9
          have H9 := Lib.hid h9
          clear h9 H8 x8
          go_wp2_with ((with_reducible refine gate_dst (N := 55) rfl ?_); refine wpList_val rfl rfl (execOp_load rfl rfl (load8 H9.out.at)) ?_)
          go_loopw [56] (fun s56 wr => ∃ k : Nat, k ≤ 8 ∧ s56 = .int .i64 k ∧ Hid (WB W.heap.size P W wr (nums4 (p.nums.take (9 + k))))) (fun s56 _ => 8 - (intOf s56).toNat)
          case atStart => exact ⟨0, by omega, by simp, Lib.hid H9.out.wb⟩
          case round =>
            clear H9
            obtain ⟨k, hk, rfl, HW⟩ := hrel
            by_cases hlt : k < 8
            · have hix := idx_p8 G k hlt
              have HN := Lib.hid (nums_step p (9 + k) (by omega))
              have HZ := Lib.hid (nums_sz p (9 + k) (by omega))
              have HLT := Lib.hid (getD_lt p HO.out (9 + k))
              have hc := cell8 (HPA.out.below HW.out.out) k hlt
              generalize p.nums.getD (9 + k) 0 = q at HN HLT hc
              go_wp2_with fail
              refine (HW.out.number HLE.out _ HLT.out (by have := HZ.out; omega)).mono ?_
              rintro e w4 ⟨rfl, h4⟩
              rw [← HN.out] at h4
              have H4 := Lib.hid h4
              clear h4 hix hc
              go_wp2
              go_roundw
              case rel => exact ⟨k + 1, by omega, by go_num, H4⟩
              case measure => simp [intOf]; omega
            · obtain rfl : k = 8 := by omega
              have h17 : WB W.heap.size P W wr (nums4 p.nums) := HW.out
              have H17 := Lib.hid h17
              have HZ17 : Hid ((nums4 p.nums).size = 68) := Lib.hid (nums_sz p 17 (by omega))
              clear h17 HW
              obtain ⟨_, _, _, _, _, _, _, _, _, _, _, _, _, _, _, _, _, x17, x18, x19⟩ := (HPA.out.below H17.out.out).cells
              go_wp2
              clear x17 x18 x19
              have HTS := Lib.hid (txt_size p (nums4 p.nums) (by rw [HZ17.out]) HS.out)
              go_loopw [74] (fun s74 wr => ∃ k : Nat, k ≤ 3 ∧ s74 = .int .i64 k ∧ Hid (WB W.heap.size P W wr (txt p (nums4 p.nums) k))) (fun s74 _ => 3 - (intOf s74).toNat)
              case atStart => exact ⟨0, by omega, by simp, H17⟩
              case round =>
                clear H17
                obtain ⟨k, hk, rfl, HW⟩ := hrel
                by_cases hlt : k < 3
                · have hix := idx_str p.path p.other p.data k hlt
                  have HN := Lib.hid (texts_step p (nums4 p.nums) k)
                  have HZ := Lib.hid (HTS.out k (by omega))
                  have HSZ : Hid ((s3 p k).size ≤ 128) := Lib.hid (by
                    have := HS.out
                    rcases (show k = 0 ∨ k = 1 ∨ k = 2 by omega) with rfl | rfl | rfl
                    · show p.path.size ≤ _; omega
                    · show p.other.size ≤ _; omega
                    · show p.data.size ≤ _; omega)
                  have HSE : Hid ([p.path, p.other, p.data].getD k ByteArray.empty = s3 p k) := Lib.hid rfl
                  rw [HSE.out] at hix
                  generalize s3 p k = q at HN HSZ hix
                  clear HSE
                  go_wp2_with fail
                  refine (wb_text HLE.out HW.out q (by have := HSZ.out; omega) (by have := HZ.out; have := HZ17.out; have := HSZ.out; omega) HZ.out.1).mono ?_
                  rintro e w4 ⟨rfl, h4⟩
                  rw [← HN.out] at h4
                  have H4 := Lib.hid h4
                  clear h4 hix
                  go_wp2
                  go_roundw
                  case rel => first | exact ⟨k + 1, by omega, by go_num, H4⟩ | ((repeat apply Exists.intro); exact ⟨⟨k + 1, by omega, by go_num, H4⟩, rfl⟩)
                  case measure => simp [intOf]; omega
                · obtain rfl : k = 3 := by omega
                  go_wp2_with fail
                  refine HW.out.bytes.mono ?_
                  rintro e w8 ⟨rfl, rfl⟩
                  have HF : Hid (txt p (nums4 p.nums) 3 = p.bytes) := Lib.hid rfl
                  rw [HF.out]
                  go_wp2
                  go_ret2
                  exact ⟨rfl, HAL.out.trans (HW.out.out.mono HAL.out.size)⟩
end Go.Proofs.YtiedmkgdhfkcoaaDoor.Pkt
