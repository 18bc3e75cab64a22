/- Layer device: a device of the law's own, beside other blocks of its own. -/
import Derived.Test.YtmphnfkohilojaaDevDo
namespace Go.Proofs.Ytmphnfkohilojaa.Dev
open Go.RowKit Go.Own Go.DevL Go.Blk
set_option linter.unusedVariables false
variable {w0 w w' : World} {p : Nat} {d : Dv} {X : List Nat}
/-- The device d lies at p, all of it made since w0, none of it in the blocks X; what was there at w0 is as it was. -/
structure Has (w0 w : World) (p : Nat) (d : Dv) (X : List Nat) : Prop where
  dev : ∃ F, Dev F w p d ∧ (∀ k, F k → w0.heap.size ≤ k) ∧ ∀ k, k ∈ X → ¬ F k ∧ k < w.heap.size
  bel : Below w0.heap.size w0 w
def Same (X : List Nat) (w w' : World) : Prop := ∀ k, k ∈ X → w'.heap[k]? = w.heap[k]?
theorem Same.refl (X : List Nat) (w : World) : Same X w w := fun _ _ => rfl
theorem Same.at {k : Nat} {o : Obj} (h : Same X w w') (hk : k ∈ X) (hb : w.heap[k]? = some o) : w'.heap[k]? = some o := (h k hk).trans hb
theorem Has.ok (h : Has w0 w p d X) : d.OK := by obtain ⟨F, h, _⟩ := h.dev; exact h.ok
theorem Has.below (h : Has w0 w p d X) (hb : Below w.heap.size w w') : Has w0 w' p d X := by
  obtain ⟨F, h1, h2, h3⟩ := h.dev
  exact ⟨⟨F, h1.below hb, h2, fun k hk => ⟨(h3 k hk).1, Nat.lt_of_lt_of_le (h3 k hk).2 hb.size⟩⟩, h.bel.trans (hb.mono h.bel.size)⟩
theorem Has.drew (h : Has w0 w p d X) : Has w0 w.drew p d X := h.below (Below.refl _ _).drew
theorem Has.alloc (h : Has w0 w p d X) (o : Obj) : Has w0 (w.alloc o) p d (w.heap.size :: X) := by
  have hb : Below w.heap.size w (w.alloc o) := (Below.refl _ _).alloc (Nat.le_refl _) _
  obtain ⟨F, h1, h2, h3⟩ := h.dev
  refine ⟨⟨F, h1.below hb, h2, fun k hk => ?_⟩, h.bel.trans (hb.mono h.bel.size)⟩
  rcases List.mem_cons.1 hk with rfl | hk
  · exact ⟨fun hf => by have := h1.lt _ hf; omega, by simp⟩
  · exact ⟨(h3 k hk).1, Nat.lt_of_lt_of_le (h3 k hk).2 hb.size⟩
/-- A store into one of the other blocks. -/
theorem Has.setCell {g : Nat} (h : Has w0 w p d X) (hg : g ∈ X) (hw : w0.heap.size ≤ g) (i : Nat) (u : Value) : Has w0 (w.setCell ⟨g, i, none⟩ u) p d X := by
  obtain ⟨F, h1, h2, h3⟩ := h.dev
  refine ⟨⟨F, h1.keep (Fr.setCell (F := fun k => k = g) w (p := ⟨g, i, none⟩) rfl u) (fun k hk e => (h3 g hg).1 (e ▸ hk)), h2, fun k hk => ⟨(h3 k hk).1, by have := (h3 k hk).2; simp only [World.setCell, Array.size_modify]; exact this⟩⟩, h.bel.setCell hw u⟩
/-- Some blocks of the law's own turn, none of the device's. -/
theorem Has.turn {G : Nat → Prop} (h : Has w0 w p d X) (hF : Fr G w w') (hG : ∀ k, G k → k ∈ X ∧ w0.heap.size ≤ k) : Has w0 w' p d X := by
  obtain ⟨F, h1, h2, h3⟩ := h.dev
  exact ⟨⟨F, h1.keep hF (fun k hk e => (h3 k (hG k e).1).1 hk), h2, fun k hk => ⟨(h3 k hk).1, Nat.lt_of_lt_of_le (h3 k hk).2 hF.size⟩⟩, h.bel.trans ((hF.below h.bel.size (fun k hk => (hG k hk).2)))⟩
theorem Has.more {k : Nat} (h : Has w0 w p d X) (hb : Below w.heap.size w w') (h1 : w.heap.size ≤ k) (h2 : k < w'.heap.size) : Has w0 w' p d (k :: X) := by
  obtain ⟨F, g1, g2, g3⟩ := h.dev
  refine ⟨⟨F, g1.below hb, g2, fun j hj => ?_⟩, h.bel.trans (hb.mono h.bel.size)⟩
  rcases List.mem_cons.1 hj with rfl | hj
  · exact ⟨fun hf => by have := g1.lt _ hf; omega, h2⟩
  · exact ⟨(g3 j hj).1, Nat.lt_of_lt_of_le (g3 j hj).2 hb.size⟩
theorem Has.less {Y : List Nat} (h : Has w0 w p d X) (hY : ∀ k, k ∈ Y → k ∈ X) : Has w0 w p d Y := by
  obtain ⟨F, g1, g2, g3⟩ := h.dev
  exact ⟨⟨F, g1, g2, fun k hk => g3 k (hY k hk)⟩, h.bel⟩
theorem Has.step {f : FuncId} {args : Array Value} {E : Ending} {d' : Dv} (h : Has w0 w p d X)
    (c : ∀ F, Dev F w p d → Calls Try.prog f args w fun e w' => e = E ∧ Dev (Up F w w') w' p d' ∧ Fr F w w') : Calls Try.prog f args w fun e w' => e = E ∧ Has w0 w' p d' X ∧ Same X w w' ∧ w.heap.size ≤ w'.heap.size := by
  obtain ⟨F, h1, h2, h3⟩ := h.dev
  refine (c F h1).mono fun e w' ⟨he, hd, hr⟩ => ⟨he, ⟨⟨_, hd, fun k hk => ?_, fun k hk => ⟨fun hu => ?_, Nat.lt_of_lt_of_le (h3 k hk).2 hr.size⟩⟩, h.bel.trans (hr.below h.bel.size h2)⟩, fun k hk => hr.block k (h3 k hk).2 (h3 k hk).1, hr.size⟩
  · rcases hk with hk | hk
    · exact h2 k hk
    · have := h.bel.size; omega
  · rcases hu with hu | hu
    · exact (h3 k hk).1 hu
    · have := (h3 k hk).2; omega
theorem has_new (n : Int) (w0 w : World) (hb : Below w0.heap.size w0 w) (hX : ∀ k, k ∈ X → k < w.heap.size) : Calls Try.prog 10 #[.int .i64 n] w fun e w' => (∃ p, e = .returned (.pointer (some ⟨p, 0, none⟩)) ∧ Has w0 w' p (fresh n) X) ∧ Below w.heap.size w w' := by
  refine (new_any n w).mono fun e w' ⟨⟨p, he, hd⟩, hb'⟩ => ⟨⟨p, he, ⟨⟨_, hd, fun k hk => Nat.le_trans hb.size hk.1, fun k hk => ⟨fun hf => ?_, Nat.lt_of_lt_of_le (hX k hk) hb'.size⟩⟩, hb.trans (hb'.mono hb.size)⟩⟩, hb'⟩
  have := hX k hk
  omega
theorem has_write (h : Has w0 w p d X) (i : Int) (b : ByteArray) (hl : d.late.length ≤ 1000000) : Calls Try.prog 13 #[.pointer (some ⟨p, 0, none⟩), .int .i64 i, .string b] w fun e w' => e = .returned (.int .i64 (d.write i b).1) ∧ Has w0 w' p (d.write i b).2 X ∧ Same X w w' ∧ w.heap.size ≤ w'.heap.size :=
  h.step fun F hd => write_any hd i b hl
theorem has_barrier (h : Has w0 w p d X) : Calls Try.prog 12 #[.pointer (some ⟨p, 0, none⟩)] w fun e w' => e = .returned (.int .i64 d.barrier.1) ∧ Has w0 w' p d.barrier.2 X ∧ Same X w w' ∧ w.heap.size ≤ w'.heap.size :=
  h.step fun F hd => barrier_any hd
theorem has_crash (h : Has w0 w p d X) (keep : Int) (hk0 : 0 ≤ keep) (hk1 : keep < 18446744073709551616) (hl : d.late.length ≤ 1000000) : Calls Try.prog 16 #[.pointer (some ⟨p, 0, none⟩), .int .u64 keep] w fun e w' => e = .returned (.tuple #[]) ∧ Has w0 w' p (d.crash keep) X ∧ Same X w w' ∧ w.heap.size ≤ w'.heap.size :=
  h.step fun F hd => crash_any hd keep hk0 hk1 hl
theorem has_fuse (h : Has w0 w p d X) (n : Int) (hn : n ≤ 9223372036854775807) : Calls Try.prog 17 #[.pointer (some ⟨p, 0, none⟩), .int .i64 n] w fun e w' => e = .returned (.tuple #[]) ∧ Has w0 w' p (d.light n) X ∧ Same X w w' ∧ w.heap.size ≤ w'.heap.size :=
  h.step fun F hd => fuse_any hd n hn
theorem has_do (h : Has w0 w p d X) (x : SAct) (hx : x.OK) (hl : d.late.length ≤ 1000000) : Calls Try.prog 15 #[.pointer (some ⟨p, 0, none⟩), .agg #[.int .i64 x.k, .int .i64 x.at_, .int .u8 (x.b.toNat : Int), .int .u64 x.keep]] w fun e w' => e = .returned (.int .i64 (d.act x).1) ∧ Has w0 w' p (d.act x).2 X ∧ Same X w w' ∧ w.heap.size ≤ w'.heap.size :=
  h.step fun F hd => do_calls hd x hx hl
theorem has_read (h : Has w0 w p d X) (i : Int) : Calls Try.prog 14 #[.pointer (some ⟨p, 0, none⟩), .int .i64 i] w fun e w' => e = readE d i ∧ w = w' := by obtain ⟨F, h, _⟩ := h.dev; exact read_any h i
theorem has_settled (h : Has w0 w p d X) (i : Int) : Calls Try.prog 19 #[.pointer (some ⟨p, 0, none⟩), .int .i64 i] w fun e w' => e = .returned (.string (d.settled i)) ∧ w = w' := by obtain ⟨F, h, _⟩ := h.dev; exact settled_any h i
theorem has_dead (h : Has w0 w p d X) : Calls Try.prog 18 #[.pointer (some ⟨p, 0, none⟩)] w fun e w' => e = .returned (.bool d.dead) ∧ w = w' := by obtain ⟨F, h, _⟩ := h.dev; exact dead_any h
theorem has_blocks (h : Has w0 w p d X) : Calls Try.prog 25 #[.pointer (some ⟨p, 0, none⟩)] w fun e w' => e = .returned (.int .i64 d.firm.length) ∧ w = w' := by obtain ⟨F, h, _⟩ := h.dev; exact blocks_any h
theorem has_unsettled (h : Has w0 w p d X) : Calls Try.prog 20 #[.pointer (some ⟨p, 0, none⟩)] w fun e w' => e = .returned (.int .i64 d.late.length) ∧ w = w' := by obtain ⟨F, h, _⟩ := h.dev; exact unsettled_any h
/-! ### alive -/
def Z : ByteArray := rep8 0 256
def A1 : ByteArray := rep8 97 256
def A2 : ByteArray := rep8 98 256
theorem fresh2 : fresh 2 = ⟨[Z, Z], [], -1, false⟩ := rfl
theorem alive_1 : (⟨[Z, Z], [], -1, false⟩ : Dv).write 0 A1 = (0, ⟨[Z, Z], [(0, A1)], -1, false⟩) := by
  have h : A1.size = 256 := rep8_size _ _
  simp [Dv.write, Dv.bad, Dv.burns, h, less]
theorem alive_2 : (⟨[Z, Z], [(0, A1)], -1, false⟩ : Dv).write 1 A2 = (0, ⟨[Z, Z], [(0, A1), (1, A2)], -1, false⟩) := by
  have h : A2.size = 256 := rep8_size _ _
  simp [Dv.write, Dv.bad, Dv.burns, h, less]
theorem alive_3 : (⟨[Z, Z], [(0, A1), (1, A2)], -1, false⟩ : Dv).crash 2 = ⟨[Z, A2], [], -1, false⟩ := by
  simp [Dv.crash, kept, bit, put]
theorem alive_4 : readE ⟨[Z, A2], [], -1, false⟩ 0 = .returned (.tuple #[.string Z, .int .i64 0]) := by simp [readE, Dv.read, Dv.bad, Dv.now]
theorem alive_5 : readE ⟨[Z, A2], [], -1, false⟩ 1 = .returned (.tuple #[.string A2, .int .i64 0]) := by simp [readE, Dv.read, Dv.bad, Dv.now]
set_option maxHeartbeats 2000000 in
theorem alive_calls (w : World) : Calls Try.prog 9 #[] w fun e w' => e = .returned (.bool true) ∧ Below w.heap.size w w' := by
  have HB : ∀ (b : UInt8) W, Calls Try.prog 11 #[.int .u8 (b.toNat : Int), .int .i64 256] W fun e w' => e = .returned (.string (rep8 b 256)) ∧ Below W.heap.size W w' := fun b W => block_any b 256 (by decide) W
  have HB1 := Lib.hid (HB 97)
  have HB2 := Lib.hid (HB 98)
  have HB0 := Lib.hid (show ∀ W, Calls Try.prog 11 #[.int .u8 0, .int .i64 256] W fun e w' => e = .returned (.string Z) ∧ Below W.heap.size W w' from HB 0)
  have HB3 := Lib.hid (show ∀ W, Calls Try.prog 11 #[.int .u8 98, .int .i64 256] W fun e w' => e = .returned (.string A2) ∧ Below W.heap.size W w' from HB 98)
  clear HB
  have HN := Lib.hid (has_new 2 w w (X := []) (Below.refl _ _) (fun k hk => by simp at hk))
  go_enter Try.func9, Try.ntmps9
  go_wp2_with fail
  refine HN.out.mono ?_
  rintro e w1 ⟨⟨p, rfl, h1⟩, _⟩
  rw [fresh2] at h1
  have H1 := Lib.hid h1
  clear h1 HN
  go_wp2_with fail
  refine (HB1.out w1).mono ?_
  rintro e w2 ⟨rfl, hb⟩
  have H2 := Lib.hid (H1.out.below hb)
  clear hb H1
  go_wp2_with fail
  refine (has_write H2.out 0 A1 (by decide)).mono ?_
  rw [alive_1]
  rintro e w3 ⟨rfl, h3, _⟩
  have H3 := Lib.hid h3
  clear h3 H2
  go_wp2_with fail
  refine (HB2.out w3).mono ?_
  rintro e w4 ⟨rfl, hb⟩
  have H4 := Lib.hid (H3.out.below hb)
  clear hb H3
  go_wp2_with fail
  refine (has_write H4.out 1 A2 (by decide)).mono ?_
  rw [alive_2]
  rintro e w5 ⟨rfl, h5, _⟩
  have H5 := Lib.hid h5
  clear h5 H4
  go_wp2_with fail
  refine (has_crash H5.out 2 (by decide) (by decide) (by decide)).mono ?_
  rw [alive_3]
  rintro e w6 ⟨rfl, h6, _⟩
  have H6 := Lib.hid h6
  clear h6 H5
  go_wp2_with fail
  refine (has_read H6.out 0).mono ?_
  rw [alive_4]
  rintro e w6 ⟨rfl, rfl⟩
  go_wp2_with fail
  refine (has_read H6.out 1).mono ?_
  rw [alive_5]
  rintro e w6 ⟨rfl, rfl⟩
  go_wp2_with fail
  refine (HB0.out w6).mono ?_
  rintro e w7 ⟨rfl, hb⟩
  have H7 := Lib.hid (H6.out.below hb)
  clear hb H6
  go_wp2_with fail
  refine (HB3.out w7).mono ?_
  rintro e w8 ⟨rfl, hb⟩
  have H8 := Lib.hid (H7.out.below hb)
  clear hb H7
  go_wp2_with fail
  refine (has_blocks H8.out).mono ?_
  rintro e w8 ⟨rfl, rfl⟩
  go_wp2
  go_ret
  exact ⟨rfl, H8.out.bel⟩
end Go.Proofs.Ytmphnfkohilojaa.Dev
