/- Layer proto: a packet is read. -/
import Derived.Test.YtiedmkgdhfkcoaaDoorPktWrite
namespace Go.Proofs.YtiedmkgdhfkcoaaDoor.Pkt
open Go.RowKit Go.Own Go.Blk Go.OpsL Go.XdrL Go.PktL Go.Sees Go.Proofs.YtiedmkgdhfkcoaaDoor.Xdr Go.Proofs.YtiedmkgdhfkcoaaDoorW.PrintLast Go.Proofs.YtiedmkgdhfkcoaaDoorW.PrintWords
set_option linter.unusedVariables false
set_option linter.unusedSimpArgs false
set_option maxRecDepth 100000
theorem res_cell2 {P : Program} {fn : Func} {a b : Tmp} {t : TypeId} {tmps : Array Value} {ad : Addr} {v : Value} {w : World} (h : fn.results = #[.cell a t, .tmp b]) (ha : tmps.getD a undef = .pointer (some ad)) (hl : (loadVar t ad).run P w = .ok v w) : (results fn tmps).run P w = .ok (.tuple #[v, tmps.getD b undef]) w := by
  have ha' : tmps[a]?.getD undef = .pointer (some ad) := by simpa using ha
  simp [results, h, ha', hl, asAddr]
/-- What is filled in so far. -/
def fl (L : List Nat) (k : Nat) : Pk := Pk.of (L.take k) ByteArray.empty ByteArray.empty ByteArray.empty
theorem fl_i64 (L : List Nat) (hL : L.length = 17) (k : Nat) (hk : k = 0 ∨ k = 1 ∨ k = 2 ∨ k = 7 ∨ k = 8) {w : World} {g : Nat} (h : PAt w g (fl L k)) : PAt (w.setCell ⟨g, k, none⟩ (.int .i64 ((L.getD k 0 : Nat) : Int))) g (fl L (k + 1)) := by
  have e := set_at h k (.int .i64 ((L.getD k 0 : Nat) : Int))
  match L, hL with
  | [l0, l1, l2, l3, l4, l5, l6, l7, l8, l9, l10, l11, l12, l13, l14, l15, l16], _ =>
    rcases hk with rfl | rfl | rfl | rfl | rfl <;> exact e
theorem fl_u32 (L : List Nat) (hL : L.length = 17) (k : Nat) (hk : k = 3 ∨ k = 4 ∨ k = 5 ∨ k = 6 ∨ k = 9 ∨ k = 10 ∨ k = 11 ∨ k = 12 ∨ k = 13 ∨ k = 14 ∨ k = 15 ∨ k = 16) {w : World} {g : Nat} (h : PAt w g (fl L k)) : PAt (w.setCell ⟨g, k, none⟩ (.int .u32 ((L.getD k 0 : Nat) : Int))) g (fl L (k + 1)) := by
  have e := set_at h k (.int .u32 ((L.getD k 0 : Nat) : Int))
  match L, hL with
  | [l0, l1, l2, l3, l4, l5, l6, l7, l8, l9, l10, l11, l12, l13, l14, l15, l16], _ =>
    rcases hk with rfl | rfl | rfl | rfl | rfl | rfl | rfl | rfl | rfl | rfl | rfl | rfl <;> exact e
theorem fl_texts (L : List Nat) (hL : L.length = 17) (a b c : ByteArray) {w : World} {g : Nat} (h : PAt w g (fl L 17)) : PAt (((w.setCell ⟨g, 17, none⟩ (.string a)).setCell ⟨g, 18, none⟩ (.string b)).setCell ⟨g, 19, none⟩ (.string c)) g (Pk.of L a b c) := by
  have e := set_at (set_at (set_at h 17 (.string a)) 18 (.string b)) 19 (.string c)
  match L, hL with
  | [l0, l1, l2, l3, l4, l5, l6, l7, l8, l9, l10, l11, l12, l13, l14, l15, l16], _ => exact e
theorem some_cell {w : World} {g : Nat} {p : Pk} (h : PAt w g p) (k : Nat) (hk : k < 20) : ∃ v, w.cell? ⟨g, k, none⟩ = some v := by
  rw [cell_at h]
  exact ⟨_, Array.getElem?_eq_getElem (by show k < 20; exact hk)⟩
theorem idx_q3 (g k : Nat) (hk : k < 3) (w : World) : (Instr.index 91 (.agg #[.pointer (some ⟨g, 0, none⟩), .pointer (some ⟨g, 1, none⟩), .pointer (some ⟨g, 2, none⟩)]) (.int .i64 (k : Int))).run Tryd.prog w = .ok (.pointer (some ⟨g, k, none⟩)) w := by
  rcases (show k = 0 ∨ k = 1 ∨ k = 2 by omega) with rfl | rfl | rfl <;> kernel_rfl
theorem readNums_getD : ∀ (n : Nat) (r : Rd) (j : Nat), j < n → (readNums n r).1.getD j 0 = (readNums j r).2.number.1
  | n + 1, r, 0, _ => rfl
  | n + 1, r, j + 1, h => by
    have ih := readNums_getD n r.number.2 j (by omega)
    simp only [readNums, List.getD_cons_succ]
    exact ih
theorem readNums_rest (j : Nat) (r : Rd) : (readNums (j + 1) r).2 = (readNums j r).2.number.2 := by rw [readNums_succ]
section
variable {W w w' : World} {g R q X : Nat} {pk pk' : Pk} {r r' : Rd}
/-- A packet that is filled, the answer's cell, a reader. -/
structure RS (g R q : Nat) (W w : World) (pk : Pk) (r : Rd) : Prop where
  r : RAt w q r
  p : PAt w g pk
  z : PAt w R Pk.zero
  gq : g ≠ q
  Rq : R ≠ q
  gR : g ≠ R
  g0 : W.heap.size ≤ g
  R0 : W.heap.size ≤ R
  q0 : W.heap.size ≤ q
  b : Below W.heap.size W w
theorem RS.left (h : RS g R q W w pk r) (k : Xdr.Left q r' w w') : RS g R q W w' pk r' :=
  ⟨k.1, h.p.keep k.2 (fun e => h.gq e), h.z.keep k.2 (fun e => h.Rq e), h.gq, h.Rq, h.gR, h.g0, h.R0, h.q0, below_fr (F := (· = q)) h.b (fun i hi => by have e : i = q := hi; rw [e]; exact h.q0) k.2 h.b.size⟩
theorem RS.below (h : RS g R q W w pk r) (hb : Below w.heap.size w w') : RS g R q W w' pk r := ⟨h.r.below hb, h.p.below hb, h.z.below hb, h.gq, h.Rq, h.gR, h.g0, h.R0, h.q0, h.b.trans (hb.mono h.b.size)⟩
theorem RS.set (h : RS g R q W w pk r) (k : Fr (· = g) w w') (hp : PAt w' g pk') : RS g R q W w' pk' r :=
  ⟨h.r.keep k (fun e => h.gq e.symm), hp, h.z.keep k (fun e => h.gR e.symm), h.gq, h.Rq, h.gR, h.g0, h.R0, h.q0, below_fr (F := (· = g)) h.b (fun i hi => by have e : i = g := hi; rw [e]; exact h.g0) k h.b.size⟩
/-- And a block that stays. -/
structure RSX (g R q X : Nat) (ob : Obj) (W w : World) (pk : Pk) (r : Rd) : Prop where
  rs : RS g R q W w pk r
  x : w.heap[X]? = some ob
  Xq : X ≠ q
  Xg : X ≠ g
theorem RSX.left {ob : Obj} (h : RSX g R q X ob W w pk r) (k : Xdr.Left q r' w w') : RSX g R q X ob W w' pk r' := ⟨h.rs.left k, k.2.at h.x (fun e => h.Xq e), h.Xq, h.Xg⟩
theorem RSX.set {ob : Obj} (h : RSX g R q X ob W w pk r) (k : Fr (· = g) w w') (hp : PAt w' g pk') : RSX g R q X ob W w' pk' r := ⟨h.rs.set k hp, k.at h.x (fun e => h.Xg e), h.Xq, h.Xg⟩
end
theorem load8r {w : World} {X g : Nat} (h : w.heap[X]? = some (.cells #[.pointer (some ⟨g, 9, none⟩), .pointer (some ⟨g, 10, none⟩), .pointer (some ⟨g, 11, none⟩), .pointer (some ⟨g, 12, none⟩), .pointer (some ⟨g, 13, none⟩), .pointer (some ⟨g, 14, none⟩), .pointer (some ⟨g, 15, none⟩), .pointer (some ⟨g, 16, none⟩)] 77 (0, 0))) : (Instr.loadAt 77 (.pointer (some ⟨X, 0, none⟩))).run Tryd.prog w = .ok (.agg #[.pointer (some ⟨g, 9, none⟩), .pointer (some ⟨g, 10, none⟩), .pointer (some ⟨g, 11, none⟩), .pointer (some ⟨g, 12, none⟩), .pointer (some ⟨g, 13, none⟩), .pointer (some ⟨g, 14, none⟩), .pointer (some ⟨g, 15, none⟩), .pointer (some ⟨g, 16, none⟩)]) w := load8 h
theorem rd_small (s : ByteArray) : (rdP s).1.size ≤ 140737488351232 ∧ (rdO s).1.size ≤ 140737488351232 ∧ (rdD s).1.size ≤ 140737488351232 := by
  refine ⟨?_, ?_, ?_⟩
  · rw [rdP_eq]; rcases text_len (rdN s).2 64 with h | h <;> omega
  · rw [rdO_eq]; rcases text_len (rdP s).2 64 with h | h <;> omega
  · rw [rdD_eq]; rcases text_len (rdO s).2 128 with h | h <;> omega
theorem PAt.loadVar {w : World} {g : Nat} {p : Pk} (h : PAt w g p) : (Go.loadVar 27 ⟨g, 0, none⟩).run Tryd.prog w = .ok (.agg #[.int .i64 p.kind, .int .i64 p.fr, .int .i64 p.to, .int .u32 (p.life : Int), .int .u32 (p.seq : Int), .int .u32 (p.asked : Int), .int .u32 (p.boot : Int), .int .i64 p.code, .int .i64 p.err, .int .u32 (p.file : Int), .int .u32 (p.epoch : Int), .int .u32 (p.off : Int), .int .u32 (p.len : Int), .int .u32 (p.size : Int), .int .u32 (p.mode : Int), .int .u32 (p.deny : Int), .int .u32 (p.handle : Int), .string p.path, .string p.other, .string p.data]) w := run_loadVar_row w g _ 27 _ _ _ h Tryd.underlying27 rfl pk_info
theorem PAt.store {w : World} {g : Nat} {p : Pk} (h : PAt w g p) (p1 : Pk) : ∃ w', (Instr.storeAt 27 (.pointer (some ⟨g, 0, none⟩)) (.agg #[.int .i64 p1.kind, .int .i64 p1.fr, .int .i64 p1.to, .int .u32 (p1.life : Int), .int .u32 (p1.seq : Int), .int .u32 (p1.asked : Int), .int .u32 (p1.boot : Int), .int .i64 p1.code, .int .i64 p1.err, .int .u32 (p1.file : Int), .int .u32 (p1.epoch : Int), .int .u32 (p1.off : Int), .int .u32 (p1.len : Int), .int .u32 (p1.size : Int), .int .u32 (p1.mode : Int), .int .u32 (p1.deny : Int), .int .u32 (p1.handle : Int), .string p1.path, .string p1.other, .string p1.data])).run Tryd.prog w = .ok () w' ∧ PAt w' g p1 ∧ Fr (· = g) w w' := by
  have hr := run_storeAt_row (P := Tryd.prog) w g 0 27 [.int .i64 p.kind, .int .i64 p.fr, .int .i64 p.to, .int .u32 (p.life : Int), .int .u32 (p.seq : Int), .int .u32 (p.asked : Int), .int .u32 (p.boot : Int), .int .i64 p.code, .int .i64 p.err, .int .u32 (p.file : Int), .int .u32 (p.epoch : Int), .int .u32 (p.off : Int), .int .u32 (p.len : Int), .int .u32 (p.size : Int), .int .u32 (p.mode : Int), .int .u32 (p.deny : Int), .int .u32 (p.handle : Int), .string p.path, .string p.other, .string p.data] 27 #[.int .i64 p1.kind, .int .i64 p1.fr, .int .i64 p1.to, .int .u32 (p1.life : Int), .int .u32 (p1.seq : Int), .int .u32 (p1.asked : Int), .int .u32 (p1.boot : Int), .int .i64 p1.code, .int .i64 p1.err, .int .u32 (p1.file : Int), .int .u32 (p1.epoch : Int), .int .u32 (p1.off : Int), .int .u32 (p1.len : Int), .int .u32 (p1.size : Int), .int .u32 (p1.mode : Int), .int .u32 (p1.deny : Int), .int .u32 (p1.handle : Int), .string p1.path, .string p1.other, .string p1.data] h (Nat.le_refl 20) pk_info (by simp [Value.oneCell'])
  rw [over_all (cur := [.int .i64 p.kind, .int .i64 p.fr, .int .i64 p.to, .int .u32 (p.life : Int), .int .u32 (p.seq : Int), .int .u32 (p.asked : Int), .int .u32 (p.boot : Int), .int .i64 p.code, .int .i64 p.err, .int .u32 (p.file : Int), .int .u32 (p.epoch : Int), .int .u32 (p.off : Int), .int .u32 (p.len : Int), .int .u32 (p.size : Int), .int .u32 (p.mode : Int), .int .u32 (p.deny : Int), .int .u32 (p.handle : Int), .string p.path, .string p.other, .string p.data]) (vs := #[.int .i64 p1.kind, .int .i64 p1.fr, .int .i64 p1.to, .int .u32 (p1.life : Int), .int .u32 (p1.seq : Int), .int .u32 (p1.asked : Int), .int .u32 (p1.boot : Int), .int .i64 p1.code, .int .i64 p1.err, .int .u32 (p1.file : Int), .int .u32 (p1.epoch : Int), .int .u32 (p1.off : Int), .int .u32 (p1.len : Int), .int .u32 (p1.size : Int), .int .u32 (p1.mode : Int), .int .u32 (p1.deny : Int), .int .u32 (p1.handle : Int), .string p1.path, .string p1.other, .string p1.data].toList) (Nat.le_refl 20)] at hr
  exact ⟨_, hr, setRow_heap _ _ _ _ _ _ h, Fr.setRow (F := (· = g)) w rfl _⟩
set_option maxHeartbeats 32000000 in
theorem read_any (s : ByteArray) (hs : s.size ≤ 140737488351232) (w : World) : Calls Tryd.prog 15 #[.string s] w fun e w' => e = .returned (.tuple #[.agg #[.int .i64 (readPk s).1.kind, .int .i64 (readPk s).1.fr, .int .i64 (readPk s).1.to, .int .u32 ((readPk s).1.life : Int), .int .u32 ((readPk s).1.seq : Int), .int .u32 ((readPk s).1.asked : Int), .int .u32 ((readPk s).1.boot : Int), .int .i64 (readPk s).1.code, .int .i64 (readPk s).1.err, .int .u32 ((readPk s).1.file : Int), .int .u32 ((readPk s).1.epoch : Int), .int .u32 ((readPk s).1.off : Int), .int .u32 ((readPk s).1.len : Int), .int .u32 ((readPk s).1.size : Int), .int .u32 ((readPk s).1.mode : Int), .int .u32 ((readPk s).1.deny : Int), .int .u32 ((readPk s).1.handle : Int), .string (readPk s).1.path, .string (readPk s).1.other, .string (readPk s).1.data], .int .i64 ((readPk s).2 : Int)]) ∧ Below w.heap.size w w' := by
  have hz1 := PAt.alloc w Pk.zero
  have hz2 := PAt.alloc (w.alloc (.cells #[.int .i64 0, .int .i64 0, .int .i64 0, .int .u32 0, .int .u32 0, .int .u32 0, .int .u32 0, .int .i64 0, .int .i64 0, .int .u32 0, .int .u32 0, .int .u32 0, .int .u32 0, .int .u32 0, .int .u32 0, .int .u32 0, .int .u32 0, .string ⟨#[]⟩, .string ⟨#[]⟩, .string ⟨#[]⟩] 27)) Pk.zero
  have hz1' := hz1.below ((Below.refl (w.alloc (.cells #[.int .i64 0, .int .i64 0, .int .i64 0, .int .u32 0, .int .u32 0, .int .u32 0, .int .u32 0, .int .i64 0, .int .i64 0, .int .u32 0, .int .u32 0, .int .u32 0, .int .u32 0, .int .u32 0, .int .u32 0, .int .u32 0, .int .u32 0, .string ⟨#[]⟩, .string ⟨#[]⟩, .string ⟨#[]⟩] 27)).heap.size (w.alloc (.cells #[.int .i64 0, .int .i64 0, .int .i64 0, .int .u32 0, .int .u32 0, .int .u32 0, .int .u32 0, .int .i64 0, .int .i64 0, .int .u32 0, .int .u32 0, .int .u32 0, .int .u32 0, .int .u32 0, .int .u32 0, .int .u32 0, .int .u32 0, .string ⟨#[]⟩, .string ⟨#[]⟩, .string ⟨#[]⟩] 27))).alloc (Nat.le_refl _) (.cells #[.int .i64 0, .int .i64 0, .int .i64 0, .int .u32 0, .int .u32 0, .int .u32 0, .int .u32 0, .int .i64 0, .int .i64 0, .int .u32 0, .int .u32 0, .int .u32 0, .int .u32 0, .int .u32 0, .int .u32 0, .int .u32 0, .int .u32 0, .string ⟨#[]⟩, .string ⟨#[]⟩, .string ⟨#[]⟩] 27))
  have hbl : Below w.heap.size w ((w.alloc (.cells #[.int .i64 0, .int .i64 0, .int .i64 0, .int .u32 0, .int .u32 0, .int .u32 0, .int .u32 0, .int .i64 0, .int .i64 0, .int .u32 0, .int .u32 0, .int .u32 0, .int .u32 0, .int .u32 0, .int .u32 0, .int .u32 0, .int .u32 0, .string ⟨#[]⟩, .string ⟨#[]⟩, .string ⟨#[]⟩] 27)).alloc (.cells #[.int .i64 0, .int .i64 0, .int .i64 0, .int .u32 0, .int .u32 0, .int .u32 0, .int .u32 0, .int .i64 0, .int .i64 0, .int .u32 0, .int .u32 0, .int .u32 0, .int .u32 0, .int .u32 0, .int .u32 0, .int .u32 0, .int .u32 0, .string ⟨#[]⟩, .string ⟨#[]⟩, .string ⟨#[]⟩] 27)) := ((Below.refl _ _).alloc (Nat.le_refl _) _).alloc (by simp) _
  rw [show (w.alloc (.cells #[.int .i64 0, .int .i64 0, .int .i64 0, .int .u32 0, .int .u32 0, .int .u32 0, .int .u32 0, .int .i64 0, .int .i64 0, .int .u32 0, .int .u32 0, .int .u32 0, .int .u32 0, .int .u32 0, .int .u32 0, .int .u32 0, .int .u32 0, .string ⟨#[]⟩, .string ⟨#[]⟩, .string ⟨#[]⟩] 27)).heap.size = w.heap.size + 1 by simp] at hz2
  have HZ1 := Lib.hid hz1'
  have HZ2 := Lib.hid hz2
  have HBL := Lib.hid hbl
  have HS2 : Hid (((w.alloc (.cells #[.int .i64 0, .int .i64 0, .int .i64 0, .int .u32 0, .int .u32 0, .int .u32 0, .int .u32 0, .int .i64 0, .int .i64 0, .int .u32 0, .int .u32 0, .int .u32 0, .int .u32 0, .int .u32 0, .int .u32 0, .int .u32 0, .int .u32 0, .string ⟨#[]⟩, .string ⟨#[]⟩, .string ⟨#[]⟩] 27)).alloc (.cells #[.int .i64 0, .int .i64 0, .int .i64 0, .int .u32 0, .int .u32 0, .int .u32 0, .int .u32 0, .int .i64 0, .int .i64 0, .int .u32 0, .int .u32 0, .int .u32 0, .int .u32 0, .int .u32 0, .int .u32 0, .int .u32 0, .int .u32 0, .string ⟨#[]⟩, .string ⟨#[]⟩, .string ⟨#[]⟩] 27)).heap.size = w.heap.size + 2) := Lib.hid (by simp)
  have HSS := Lib.hid hs
  clear hz1 hz2 hz1' hbl
  go_enter Tryd.func15, Tryd.ntmps15
  go_wp2_with fail
  refine (new_calls s _ (by omega)).mono ?_
  rintro e w1 ⟨rfl, h1, hb⟩
  have hrs : RS (w.heap.size + 1) w.heap.size (w.heap.size + 2) w w1 Pk.zero ⟨s, 0⟩ :=
    ⟨by rw [← HS2.out]; exact h1, HZ2.out.below hb, HZ1.out.below hb, by omega, by omega, by omega, by omega, Nat.le_refl _, by omega, HBL.out.trans (hb.mono HBL.out.size)⟩
  rw [HS2.out]
  have HW0 := Lib.hid hrs
  clear hb h1 hrs HZ1 HZ2 HBL HS2
  obtain ⟨g, hg⟩ : ∃ g, w.heap.size + 1 = g := ⟨_, rfl⟩
  obtain ⟨R, hR⟩ : ∃ R, w.heap.size = R := ⟨_, rfl⟩
  obtain ⟨q, hq⟩ : ∃ q, w.heap.size + 2 = q := ⟨_, rfl⟩
  rw [hg, hq, hR] at HW0
  rw [hg, hq, hR]
  clear hg hR hq
  obtain ⟨L, hL⟩ : ∃ L, (rdN s).1 = L := ⟨_, rfl⟩
  have HLL := Lib.hid hL
  have HLN : Hid (L.length = 17) := Lib.hid (by rw [← hL]; exact readNums_length 17 _)
  clear hL
  go_wp2
  go_loopw [21] (fun s21 wr => ∃ k : Nat, k ≤ 3 ∧ s21 = .int .i64 k ∧ Hid (RS g R q w wr (fl L k) (readNums k ⟨s, 0⟩).2)) (fun s21 _ => 3 - (intOf s21).toNat)
  case atStart => exact ⟨0, by omega, by simp, HW0⟩
  case round =>
    clear HW0
    obtain ⟨k, hk, rfl, HW⟩ := hrel
    by_cases hlt : k < 3
    · have hix := idx_q3 g k hlt
      have HX : Hid ((readNums k ⟨s, 0⟩).2.number.1 = L.getD k 0) := Lib.hid (by rw [← HLL.out]; exact (readNums_getD 17 ⟨s, 0⟩ k (by omega)).symm)
      have HRR := Lib.hid (readNums_rest k ⟨s, 0⟩)
      have hxl := number_lt (readNums k ⟨s, 0⟩).2
      rw [HX.out] at hxl
      go_wp2_with fail
      refine (number_reads HW.out.r).mono ?_
      rintro e w5 ⟨rfl, h5⟩
      rw [HX.out]
      have H5 := Lib.hid (HW.out.left h5)
      obtain ⟨v5, c5⟩ := some_cell H5.out.p k (by omega)
      have f5 := H5.out.p.free k
      clear h5 HW
      have HST := Lib.hid (H5.out.set (Fr.setCell (F := (· = g)) w5 (p := ⟨g, k, none⟩) rfl (.int .i64 ((L.getD k 0 : Nat) : Int))) (fl_i64 L HLN.out k (by omega) H5.out.p))
      generalize L.getD k 0 = x at hxl HX HST ⊢
      go_wp2
      clear c5 f5 hix
      go_roundw
      case rel => exact ⟨k + 1, by omega, by go_num, Lib.hid (by rw [HRR.out]; exact HST.out)⟩
      case measure => simp [intOf]; omega
    · obtain rfl : k = 3 := by omega
      go_wp2_with fail
      refine (middle_any _ _).mono ?_
      rintro e w4 ⟨rfl, hb⟩
      have H4 := Lib.hid (HW.out.below hb)
      clear hb HW
      have hal2 := ((Below.refl w4.heap.size w4).alloc (Nat.le_refl _) (.cells #[.pointer (some ⟨g, 3, none⟩), .pointer (some ⟨g, 4, none⟩), .pointer (some ⟨g, 5, none⟩), .pointer (some ⟨g, 6, none⟩)] 76)).alloc (by simp) (.cells #[.pointer (some ⟨g, 9, none⟩), .pointer (some ⟨g, 10, none⟩), .pointer (some ⟨g, 11, none⟩), .pointer (some ⟨g, 12, none⟩), .pointer (some ⟨g, 13, none⟩), .pointer (some ⟨g, 14, none⟩), .pointer (some ⟨g, 15, none⟩), .pointer (some ⟨g, 16, none⟩)] 77)
      have a4 := alloc_old (alloc_at w4 (.cells #[.pointer (some ⟨g, 3, none⟩), .pointer (some ⟨g, 4, none⟩), .pointer (some ⟨g, 5, none⟩), .pointer (some ⟨g, 6, none⟩)] 76)) (.cells #[.pointer (some ⟨g, 9, none⟩), .pointer (some ⟨g, 10, none⟩), .pointer (some ⟨g, 11, none⟩), .pointer (some ⟨g, 12, none⟩), .pointer (some ⟨g, 13, none⟩), .pointer (some ⟨g, 14, none⟩), .pointer (some ⟨g, 15, none⟩), .pointer (some ⟨g, 16, none⟩)] 77)
      have a8 := alloc_at (w4.alloc (.cells #[.pointer (some ⟨g, 3, none⟩), .pointer (some ⟨g, 4, none⟩), .pointer (some ⟨g, 5, none⟩), .pointer (some ⟨g, 6, none⟩)] 76)) (.cells #[.pointer (some ⟨g, 9, none⟩), .pointer (some ⟨g, 10, none⟩), .pointer (some ⟨g, 11, none⟩), .pointer (some ⟨g, 12, none⟩), .pointer (some ⟨g, 13, none⟩), .pointer (some ⟨g, 14, none⟩), .pointer (some ⟨g, 15, none⟩), .pointer (some ⟨g, 16, none⟩)] 77)
      rw [show (w4.alloc (.cells #[.pointer (some ⟨g, 3, none⟩), .pointer (some ⟨g, 4, none⟩), .pointer (some ⟨g, 5, none⟩), .pointer (some ⟨g, 6, none⟩)] 76)).heap.size = w4.heap.size + 1 by simp] at a8
      obtain ⟨y0, _, y1, _, y2, _, y3, _⟩ := blk4 a4
      have H5 : Hid (RSX g R q (w4.heap.size + 1) (.cells #[.pointer (some ⟨g, 9, none⟩), .pointer (some ⟨g, 10, none⟩), .pointer (some ⟨g, 11, none⟩), .pointer (some ⟨g, 12, none⟩), .pointer (some ⟨g, 13, none⟩), .pointer (some ⟨g, 14, none⟩), .pointer (some ⟨g, 15, none⟩), .pointer (some ⟨g, 16, none⟩)] 77 (0, 0)) w ((w4.alloc (.cells #[.pointer (some ⟨g, 3, none⟩), .pointer (some ⟨g, 4, none⟩), .pointer (some ⟨g, 5, none⟩), .pointer (some ⟨g, 6, none⟩)] 76)).alloc (.cells #[.pointer (some ⟨g, 9, none⟩), .pointer (some ⟨g, 10, none⟩), .pointer (some ⟨g, 11, none⟩), .pointer (some ⟨g, 12, none⟩), .pointer (some ⟨g, 13, none⟩), .pointer (some ⟨g, 14, none⟩), .pointer (some ⟨g, 15, none⟩), .pointer (some ⟨g, 16, none⟩)] 77)) (fl L 3) (readNums 3 ⟨s, 0⟩).2) := Lib.hid ⟨H4.out.below hal2, a8, by have := lt_of H4.out.r.1; omega, by have := lt_of H4.out.p; omega⟩
      clear hal2 a4 a8 H4
      go_wp2
      clear y0 y1 y2 y3
      generalize (w4.alloc (.cells #[.pointer (some ⟨g, 3, none⟩), .pointer (some ⟨g, 4, none⟩), .pointer (some ⟨g, 5, none⟩), .pointer (some ⟨g, 6, none⟩)] 76)).alloc (.cells #[.pointer (some ⟨g, 9, none⟩), .pointer (some ⟨g, 10, none⟩), .pointer (some ⟨g, 11, none⟩), .pointer (some ⟨g, 12, none⟩), .pointer (some ⟨g, 13, none⟩), .pointer (some ⟨g, 14, none⟩), .pointer (some ⟨g, 15, none⟩), .pointer (some ⟨g, 16, none⟩)] 77) = w5 at H5 ⊢
      generalize hB8 : w4.heap.size + 1 = X at H5 ⊢
      clear hB8
      go_loopw [35] (fun s35 wr => ∃ k : Nat, k ≤ 4 ∧ s35 = .int .i64 k ∧ Hid (RSX g R q X (.cells #[.pointer (some ⟨g, 9, none⟩), .pointer (some ⟨g, 10, none⟩), .pointer (some ⟨g, 11, none⟩), .pointer (some ⟨g, 12, none⟩), .pointer (some ⟨g, 13, none⟩), .pointer (some ⟨g, 14, none⟩), .pointer (some ⟨g, 15, none⟩), .pointer (some ⟨g, 16, none⟩)] 77 (0, 0)) w wr (fl L (3 + k)) (readNums (3 + k) ⟨s, 0⟩).2)) (fun s35 _ => 4 - (intOf s35).toNat)
      case atStart => exact ⟨0, by omega, by simp, H5⟩
      case round =>
        clear H5
        obtain ⟨k, hk, rfl, HW⟩ := hrel
        by_cases hlt : k < 4
        · have hix := idx_p4 g k hlt
          have HX : Hid ((readNums (3 + k) ⟨s, 0⟩).2.number.1 = L.getD (3 + k) 0) := Lib.hid (by rw [← HLL.out]; exact (readNums_getD 17 ⟨s, 0⟩ (3 + k) (by omega)).symm)
          have HRR := Lib.hid (readNums_rest (3 + k) ⟨s, 0⟩)
          have hxl := number_lt (readNums (3 + k) ⟨s, 0⟩).2
          rw [HX.out] at hxl
          go_wp2_with fail
          refine (number_reads HW.out.rs.r).mono ?_
          rintro e w5 ⟨rfl, h5⟩
          rw [HX.out]
          have H5 := Lib.hid (HW.out.left h5)
          obtain ⟨v5, c5⟩ := some_cell H5.out.rs.p (3 + k) (by omega)
          have f5 := H5.out.rs.p.free (3 + k)
          clear h5 HW
          have HST := Lib.hid (H5.out.set (Fr.setCell (F := (· = g)) w5 (p := ⟨g, (3 + k), none⟩) rfl (.int .u32 ((L.getD (3 + k) 0 : Nat) : Int))) (fl_u32 L HLN.out (3 + k) (by omega) H5.out.rs.p))
          generalize L.getD (3 + k) 0 = x at hxl HX HST ⊢
          go_wp2
          clear c5 f5 hix
          go_roundw
          case rel => exact ⟨k + 1, by omega, by go_num, Lib.hid (by rw [show 3 + (k + 1) = 3 + k + 1 from rfl, HRR.out]; exact HST.out)⟩
          case measure => simp [intOf]; omega
        · obtain rfl : k = 4 := by omega
          have hw7 : RSX g R q X (.cells #[.pointer (some ⟨g, 9, none⟩), .pointer (some ⟨g, 10, none⟩), .pointer (some ⟨g, 11, none⟩), .pointer (some ⟨g, 12, none⟩), .pointer (some ⟨g, 13, none⟩), .pointer (some ⟨g, 14, none⟩), .pointer (some ⟨g, 15, none⟩), .pointer (some ⟨g, 16, none⟩)] 77 (0, 0)) w wr (fl L 7) (readNums 7 ⟨s, 0⟩).2 := HW.out
          clear HW
          have HW := Lib.hid hw7
          clear hw7
          go_wp2_with fail
          have HX : Hid ((readNums 7 ⟨s, 0⟩).2.number.1 = L.getD 7 0) := Lib.hid (by rw [← HLL.out]; exact (readNums_getD 17 ⟨s, 0⟩ 7 (by omega)).symm)
          have HRR := Lib.hid (readNums_rest 7 ⟨s, 0⟩)
          have hxl := number_lt (readNums 7 ⟨s, 0⟩).2
          rw [HX.out] at hxl
          refine (number_reads HW.out.rs.r).mono ?_
          rintro e w6 ⟨rfl, h5⟩
          rw [HX.out]
          have H5 := Lib.hid (HW.out.left h5)
          obtain ⟨v5, c5⟩ := some_cell H5.out.rs.p 7 (by omega)
          have f5 := H5.out.rs.p.free 7
          clear h5 HW
          have hst := H5.out.set (Fr.setCell (F := (· = g)) w6 (p := ⟨g, 7, none⟩) rfl (.int .i64 ((L.getD 7 0 : Nat) : Int))) (fl_i64 L HLN.out 7 (by omega) H5.out.rs.p)
          rw [← HRR.out] at hst
          have HST := Lib.hid hst
          clear hst
          generalize L.getD 7 0 = x at hxl HX HST ⊢
          go_wp2_with fail
          clear c5 f5 H5 hxl HX HRR
          generalize w6.setCell ⟨g, 7, none⟩ (.int .i64 (x : Int)) = w6b at HST ⊢
          have HW := HST
          clear HST
          have HX : Hid ((readNums 8 ⟨s, 0⟩).2.number.1 = L.getD 8 0) := Lib.hid (by rw [← HLL.out]; exact (readNums_getD 17 ⟨s, 0⟩ 8 (by omega)).symm)
          have HRR := Lib.hid (readNums_rest 8 ⟨s, 0⟩)
          have hxl := number_lt (readNums 8 ⟨s, 0⟩).2
          rw [HX.out] at hxl
          refine (number_reads HW.out.rs.r).mono ?_
          rintro e w7 ⟨rfl, h5⟩
          rw [HX.out]
          have H5 := Lib.hid (HW.out.left h5)
          obtain ⟨v5, c5⟩ := some_cell H5.out.rs.p 8 (by omega)
          have f5 := H5.out.rs.p.free 8
          clear h5 HW
          have hst := H5.out.set (Fr.setCell (F := (· = g)) w7 (p := ⟨g, 8, none⟩) rfl (.int .i64 ((L.getD 8 0 : Nat) : Int))) (fl_i64 L HLN.out 8 (by omega) H5.out.rs.p)
          rw [← HRR.out] at hst
          have HST := Lib.hid hst
          clear hst
          generalize L.getD 8 0 = x at hxl HX HST ⊢
          go_wp2_with ((with_reducible refine gate_dst (N := 53) rfl ?_); refine wpList_val rfl rfl (execOp_load rfl rfl (load8r HST.out.x)) ?_)
          clear c5 f5 H5 hxl HX HRR
          generalize w7.setCell ⟨g, 8, none⟩ (.int .i64 _) = w7b at HST ⊢
          go_loopw [54] (fun s54 wr => ∃ k : Nat, k ≤ 8 ∧ s54 = .int .i64 k ∧ Hid (RS g R q w wr (fl L (9 + k)) (readNums (9 + k) ⟨s, 0⟩).2)) (fun s54 _ => 8 - (intOf s54).toNat)
          case atStart => exact ⟨0, by omega, by simp, Lib.hid HST.out.rs⟩
          case round =>
            clear HST
            obtain ⟨k, hk, rfl, HW⟩ := hrel
            by_cases hlt : k < 8
            · have hix := idx_p8 g k hlt
              have HX : Hid ((readNums (9 + k) ⟨s, 0⟩).2.number.1 = L.getD (9 + k) 0) := Lib.hid (by rw [← HLL.out]; exact (readNums_getD 17 ⟨s, 0⟩ (9 + k) (by omega)).symm)
              have HRR := Lib.hid (readNums_rest (9 + k) ⟨s, 0⟩)
              have hxl := number_lt (readNums (9 + k) ⟨s, 0⟩).2
              rw [HX.out] at hxl
              go_wp2_with fail
              refine (number_reads HW.out.r).mono ?_
              rintro e w5 ⟨rfl, h5⟩
              rw [HX.out]
              have H5 := Lib.hid (HW.out.left h5)
              obtain ⟨v5, c5⟩ := some_cell H5.out.p (9 + k) (by omega)
              have f5 := H5.out.p.free (9 + k)
              clear h5 HW
              have HST := Lib.hid (H5.out.set (Fr.setCell (F := (· = g)) w5 (p := ⟨g, (9 + k), none⟩) rfl (.int .u32 ((L.getD (9 + k) 0 : Nat) : Int))) (fl_u32 L HLN.out (9 + k) (by omega) H5.out.p))
              generalize L.getD (9 + k) 0 = x at hxl HX HST ⊢
              go_wp2
              clear c5 f5 hix
              go_roundw
              case rel => exact ⟨k + 1, by omega, by go_num, Lib.hid (by rw [show 9 + (k + 1) = 9 + k + 1 from rfl, HRR.out]; exact HST.out)⟩
              case measure => simp [intOf]; omega
            · obtain rfl : k = 8 := by omega
              have hw17 : RS g R q w wr (fl L 17) (rdN s).2 := HW.out
              have H17 := Lib.hid hw17
              clear HW hw17
              go_wp2_with fail
              refine (text_reads H17.out.r 64).mono ?_
              rintro e w8 ⟨rfl, h8⟩
              rw [← rdP_eq] at h8 ⊢
              have H8 := Lib.hid (H17.out.left h8)
              clear h8 H17
              go_wp2_with fail
              refine (text_reads H8.out.r 64).mono ?_
              rintro e w9 ⟨rfl, h9⟩
              rw [← rdO_eq] at h9 ⊢
              have H9 := Lib.hid (H8.out.left h9)
              clear h9 H8
              go_wp2_with fail
              refine (text_reads H9.out.r 128).mono ?_
              rintro e w10 ⟨rfl, h10⟩
              rw [← rdD_eq] at h10 ⊢
              have H10 := Lib.hid (H9.out.left h10)
              clear h10 H9
              obtain ⟨v17, c17⟩ := some_cell H10.out.p 17 (by omega)
              obtain ⟨v18, c18⟩ := some_cell H10.out.p 18 (by omega)
              obtain ⟨v19, c19⟩ := some_cell H10.out.p 19 (by omega)
              have f17 := H10.out.p.free 17
              have f18 := H10.out.p.free 18
              have f19 := H10.out.p.free 19
              have hft := H10.out.set (((Fr.setCell (F := (· = g)) w10 (p := ⟨g, 17, none⟩) rfl (.string (rdP s).1)).trans (Fr.setCell (F := (· = g)) _ (p := ⟨g, 18, none⟩) rfl (.string (rdO s).1)) (fun _ _ h => h)).trans (Fr.setCell (F := (· = g)) _ (p := ⟨g, 19, none⟩) rfl (.string (rdD s).1)) (fun _ _ h => h)) (fl_texts L HLN.out (rdP s).1 (rdO s).1 (rdD s).1 H10.out.p)
              rw [← HLL.out, show Pk.of (rdN s).1 (rdP s).1 (rdO s).1 (rdD s).1 = rdPk s from rfl] at hft
              have HFT := Lib.hid hft
              clear hft H10
              go_wp2_with fail
              clear c17 c18 c19 f17 f18 f19
              generalize ((w10.setCell ⟨g, 17, none⟩ (.string (rdP s).1)).setCell ⟨g, 18, none⟩ (.string (rdO s).1)).setCell ⟨g, 19, none⟩ (.string (rdD s).1) = w11 at HFT ⊢
              refine (end_reads HFT.out.r).mono ?_
              rintro e w12 ⟨rfl, h12⟩
              rw [show (rdD s).2.end_ = rdE s from rfl] at h12 ⊢
              have H12 := Lib.hid (HFT.out.left h12)
              clear h12 HFT
              by_cases he : (rdE s).e = 0
              · have HE := Lib.hid he
                have hz : (((rdE s).e : Int) != 0) = false := by rw [he]; rfl
                clear he
                have hok : (rdPk s).OK := of_ok _ _ _ _ (readNums_lt 17 _) (rd_small s).1 (rd_small s).2.1 (rd_small s).2.2
                have HOK := Lib.hid hok
                clear hok
                go_wp2_with ((with_reducible refine gate_dst (N := 80) rfl ?_); refine wpList_val rfl rfl (execOp_load rfl rfl H12.out.p.load) ?_; refine stop_here ?_)
                refine Lib.hid ?_
                go_wp2_with fail
                refine (right_any (rdPk s) HOK.out _).mono ?_
                rintro e w13 ⟨rfl, hb⟩
                have H13 := Lib.hid (H12.out.below hb)
                clear hb H12
                cases hr : right (rdPk s) with
                | false =>
                  have HEQ : Hid (readPk s = (Pk.zero, 3)) := Lib.hid (by unfold readPk; rw [if_neg (fun h => h HE.out), if_neg (by rw [hr]; exact Bool.false_ne_true)])
                  have hpost : ∀ v : Value, v = .int .i64 3 → Ending.returned (.tuple #[.agg #[.int .i64 Pk.zero.kind, .int .i64 Pk.zero.fr, .int .i64 Pk.zero.to, .int .u32 (Pk.zero.life : Int), .int .u32 (Pk.zero.seq : Int), .int .u32 (Pk.zero.asked : Int), .int .u32 (Pk.zero.boot : Int), .int .i64 Pk.zero.code, .int .i64 Pk.zero.err, .int .u32 (Pk.zero.file : Int), .int .u32 (Pk.zero.epoch : Int), .int .u32 (Pk.zero.off : Int), .int .u32 (Pk.zero.len : Int), .int .u32 (Pk.zero.size : Int), .int .u32 (Pk.zero.mode : Int), .int .u32 (Pk.zero.deny : Int), .int .u32 (Pk.zero.handle : Int), .string Pk.zero.path, .string Pk.zero.other, .string Pk.zero.data], v]) = Ending.returned (.tuple #[.agg #[.int .i64 (readPk s).1.kind, .int .i64 (readPk s).1.fr, .int .i64 (readPk s).1.to, .int .u32 ((readPk s).1.life : Int), .int .u32 ((readPk s).1.seq : Int), .int .u32 ((readPk s).1.asked : Int), .int .u32 ((readPk s).1.boot : Int), .int .i64 (readPk s).1.code, .int .i64 (readPk s).1.err, .int .u32 ((readPk s).1.file : Int), .int .u32 ((readPk s).1.epoch : Int), .int .u32 ((readPk s).1.off : Int), .int .u32 ((readPk s).1.len : Int), .int .u32 ((readPk s).1.size : Int), .int .u32 ((readPk s).1.mode : Int), .int .u32 ((readPk s).1.deny : Int), .int .u32 ((readPk s).1.handle : Int), .string (readPk s).1.path, .string (readPk s).1.other, .string (readPk s).1.data], .int .i64 ((readPk s).2 : Int)]) := fun v hv => by rw [hv, HEQ.out] <;> rfl
                  have HPOST := Lib.hid hpost
                  clear hpost
                  clear hr
                  obtain ⟨w14, hr14, h14, hf14⟩ := H13.out.z.store Pk.zero
                  have HST14 := Lib.hid hr14
                  have H14 := Lib.hid h14
                  have HB14 := Lib.hid (below_fr (F := (· = R)) H13.out.b (fun i hi => by have e : i = R := hi; rw [e]; exact H13.out.R0) hf14 H13.out.b.size)
                  clear hr14 h14 hf14
                  go_wp2_with ((with_reducible refine gate_store (p := 2) rfl ?_); refine wpList_none rfl rfl (execOp_store rfl rfl rfl HST14.out) ?_)
                  refine bodyPost_ret (res_cell2 (fn := Tryd.f15) (a := 2) (b := 3) (t := 27) rfl rfl H14.out.loadVar) rfl ?_
                  exact ⟨HPOST.out _ rfl, HB14.out⟩
                | true =>
                  have HEQ : Hid (readPk s = (rdPk s, 0)) := Lib.hid (by unfold readPk; rw [if_neg (fun h => h HE.out), if_pos hr])
                  have hpost : ∀ v : Value, v = .int .i64 0 → Ending.returned (.tuple #[.agg #[.int .i64 (rdPk s).kind, .int .i64 (rdPk s).fr, .int .i64 (rdPk s).to, .int .u32 ((rdPk s).life : Int), .int .u32 ((rdPk s).seq : Int), .int .u32 ((rdPk s).asked : Int), .int .u32 ((rdPk s).boot : Int), .int .i64 (rdPk s).code, .int .i64 (rdPk s).err, .int .u32 ((rdPk s).file : Int), .int .u32 ((rdPk s).epoch : Int), .int .u32 ((rdPk s).off : Int), .int .u32 ((rdPk s).len : Int), .int .u32 ((rdPk s).size : Int), .int .u32 ((rdPk s).mode : Int), .int .u32 ((rdPk s).deny : Int), .int .u32 ((rdPk s).handle : Int), .string (rdPk s).path, .string (rdPk s).other, .string (rdPk s).data], v]) = Ending.returned (.tuple #[.agg #[.int .i64 (readPk s).1.kind, .int .i64 (readPk s).1.fr, .int .i64 (readPk s).1.to, .int .u32 ((readPk s).1.life : Int), .int .u32 ((readPk s).1.seq : Int), .int .u32 ((readPk s).1.asked : Int), .int .u32 ((readPk s).1.boot : Int), .int .i64 (readPk s).1.code, .int .i64 (readPk s).1.err, .int .u32 ((readPk s).1.file : Int), .int .u32 ((readPk s).1.epoch : Int), .int .u32 ((readPk s).1.off : Int), .int .u32 ((readPk s).1.len : Int), .int .u32 ((readPk s).1.size : Int), .int .u32 ((readPk s).1.mode : Int), .int .u32 ((readPk s).1.deny : Int), .int .u32 ((readPk s).1.handle : Int), .string (readPk s).1.path, .string (readPk s).1.other, .string (readPk s).1.data], .int .i64 ((readPk s).2 : Int)]) := fun v hv => by rw [hv, HEQ.out] <;> rfl
                  have HPOST := Lib.hid hpost
                  clear hpost
                  clear hr
                  obtain ⟨w14, hr14, h14, hf14⟩ := H13.out.z.store (rdPk s)
                  have HST14 := Lib.hid hr14
                  have H14 := Lib.hid h14
                  have HB14 := Lib.hid (below_fr (F := (· = R)) H13.out.b (fun i hi => by have e : i = R := hi; rw [e]; exact H13.out.R0) hf14 H13.out.b.size)
                  clear hr14 h14 hf14
                  go_wp2_with (first | ((with_reducible refine gate_dst (N := 84) rfl ?_); refine wpList_val rfl rfl (execOp_load rfl rfl H13.out.p.load) ?_) | ((with_reducible refine gate_store (p := 2) rfl ?_); refine wpList_none rfl rfl (execOp_store rfl rfl rfl HST14.out) ?_))
                  refine bodyPost_ret (res_cell2 (fn := Tryd.f15) (a := 2) (b := 3) (t := 27) rfl rfl H14.out.loadVar) rfl ?_
                  exact ⟨HPOST.out _ rfl, HB14.out⟩
              · have HEQ : Hid (readPk s = (Pk.zero, (rdE s).e)) := Lib.hid (by unfold readPk; rw [if_pos he])
                have hpost : ∀ v : Value, v = .int .i64 ((rdE s).e : Int) → Ending.returned (.tuple #[.agg #[.int .i64 Pk.zero.kind, .int .i64 Pk.zero.fr, .int .i64 Pk.zero.to, .int .u32 (Pk.zero.life : Int), .int .u32 (Pk.zero.seq : Int), .int .u32 (Pk.zero.asked : Int), .int .u32 (Pk.zero.boot : Int), .int .i64 Pk.zero.code, .int .i64 Pk.zero.err, .int .u32 (Pk.zero.file : Int), .int .u32 (Pk.zero.epoch : Int), .int .u32 (Pk.zero.off : Int), .int .u32 (Pk.zero.len : Int), .int .u32 (Pk.zero.size : Int), .int .u32 (Pk.zero.mode : Int), .int .u32 (Pk.zero.deny : Int), .int .u32 (Pk.zero.handle : Int), .string Pk.zero.path, .string Pk.zero.other, .string Pk.zero.data], v]) = Ending.returned (.tuple #[.agg #[.int .i64 (readPk s).1.kind, .int .i64 (readPk s).1.fr, .int .i64 (readPk s).1.to, .int .u32 ((readPk s).1.life : Int), .int .u32 ((readPk s).1.seq : Int), .int .u32 ((readPk s).1.asked : Int), .int .u32 ((readPk s).1.boot : Int), .int .i64 (readPk s).1.code, .int .i64 (readPk s).1.err, .int .u32 ((readPk s).1.file : Int), .int .u32 ((readPk s).1.epoch : Int), .int .u32 ((readPk s).1.off : Int), .int .u32 ((readPk s).1.len : Int), .int .u32 ((readPk s).1.size : Int), .int .u32 ((readPk s).1.mode : Int), .int .u32 ((readPk s).1.deny : Int), .int .u32 ((readPk s).1.handle : Int), .string (readPk s).1.path, .string (readPk s).1.other, .string (readPk s).1.data], .int .i64 ((readPk s).2 : Int)]) := fun v hv => by rw [hv, HEQ.out] <;> rfl
                have HPOST := Lib.hid hpost
                clear hpost
                have hz : (((rdE s).e : Int) != 0) = true := by rw [bne_iff_ne]; omega
                obtain ⟨w13, hr13, h13, hf13⟩ := H12.out.z.store Pk.zero
                have HST13 := Lib.hid hr13
                have H13 := Lib.hid h13
                have HB13 := Lib.hid (below_fr (F := (· = R)) H12.out.b (fun i hi => by have e : i = R := hi; rw [e]; exact H12.out.R0) hf13 H12.out.b.size)
                clear hr13 h13 hf13
                go_wp2_with ((with_reducible refine gate_store (p := 2) rfl ?_); refine wpList_none rfl rfl (execOp_store rfl rfl rfl HST13.out) ?_)
                refine bodyPost_ret (res_cell2 (fn := Tryd.f15) (a := 2) (b := 3) (t := 27) rfl rfl H13.out.loadVar) rfl ?_
                exact ⟨HPOST.out _ rfl, HB13.out⟩
end Go.Proofs.YtiedmkgdhfkcoaaDoor.Pkt
