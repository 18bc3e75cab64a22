/- Layer wal: its small functions: padded, numbers, mark. Layer wal: rows of blocks, rows of strings. Layer wal: Read, entries. Layer wal: entries. Layer wal: Open. Layer wal: may blocks be changed together? -/
import Derived.Test.YtmdojgkgohmghaaDevM
import Derived.Test.YtmdojgkgohmghaaXdrM
import Derived.Test.YtmdojgkgohmghaaXdrLaws
import Derived.Test.YtmdojgkgohmghaaP04x3
import Derived.Test.YtmdojgkgohmghaaWalPlain
import Derived.Test.YtmdojgkgohmghaaPart
import Derived.Ground.NamesProg
import Derived.Shelf.Lay
import Derived.Shelf.Strings.Repeat
import Derived.Test.YtmdojgkgohmghaaArr
import Derived.Laws.Rows
import Derived.Deep.MidRow
import Derived.Maps.Own
import Derived.Maps.Views
import Derived.Deep.QuietTactic
import Derived.BigQuiet
namespace Go.Proofs
open Go.Shelf Go.RowKit
shelf_lay Lays.n105 Nm 105 at Try as Try.repL
theorem Try.repX : Builder.Extra Try.prog Try.repL_ren where
  sizeBuilder := by kernel_rfl
  liesBuilder := by kernel_rfl
  t5 := Try.repL.t5
  a5 := Try.repL.a5
  z5 := Try.repL.z5
  v5 := Try.repL.v5
  infoByte := by kernel_rfl
  cellsByte := by kernel_rfl
  sizeByte := by kernel_rfl
  neB5 := by decide
theorem Try.fRep : Try.repL_ren.f 105 = 49 := by kernel_rfl
end Go.Proofs
namespace Go.Proofs.Ytmdojgkgohmghaa.Wal
open Go.RowKit Go.Own Go.Blk Go.DevL Go.XdrL Go.WalL Go.OpsL Go.Proofs.Ytmdojgkgohmghaa.P04 Go.Proofs.Ytmdojgkgohmghaa.Xdr Go.Proofs.YtmdojgkgohmghaaW.PrintLast Go.Proofs.YtmdojgkgohmghaaW.PrintWords
open Go.Proofs.Ytmdojgkgohmghaa.Dev hiding stop_here execOp_build execOp_alloc execOp_store execOp_load execOp_buildSlice execOp_makeSlice execOp_box execOp_copy execOp_append wpList_val wpList_none Up
set_option linter.unusedVariables false
set_option linter.unusedSimpArgs false
set_option maxRecDepth 100000
theorem rep_zeros : ∀ n : Nat, (⟨(Lib.repeatL (ByteArray.mk #[0]).data.toList n).toArray⟩ : ByteArray) = zeros n := by
  have h : ∀ n : Nat, Lib.repeatL [0] n = List.replicate n 0 := by
    intro n
    induction n with
    | zero => rfl
    | succ n ih => rw [Lib.repeatL, ih]; rfl
  intro n
  show (⟨(Lib.repeatL [0] n).toArray⟩ : ByteArray) = zeros n
  rw [h]; rfl
theorem repeat_calls (n : Nat) (hn : n ≤ 256) (w : World) : Calls Try.prog 49 #[.string ⟨#[0]⟩, .int .i64 n] w fun e w' => e = .returned (.string (zeros n)) ∧ Below w.heap.size w w' := by
  have h := Any.strings_Repeat Try.repL Try.repX ⟨#[0]⟩ n w (by omega) (by show 1 * n ≤ _; omega)
  rw [Try.fRep, rep_zeros] at h
  exact h
set_option maxHeartbeats 1000000 in
theorem padded_calls (s : ByteArray) (hs : s.size ≤ 256) (w : World) : Calls Try.prog 35 #[.string s] w fun e w' => e = .returned (.string (pad s)) ∧ Below w.heap.size w w' := by
  have HR := Lib.hid (fun W => repeat_calls (256 - s.size) (by omega) W)
  have h1 : ((256 - s.size : Nat) : Int) = 256 - (s.size : Int) := by omega
  have hz := zeros_size (256 - s.size)
  go_enter Try.func35, Try.ntmps35
  go_wp2_with (go_at_call 49; rw [← h1]; refine (HR.out _).mono ?_; rintro e w1 ⟨rfl, hb⟩; have HB := Lib.hid hb; clear hb)
  go_ret
  exact ⟨rfl, HB.out⟩
/-! ### writers and readers of a call's own -/
variable {W w w' : World} {B p q : Nat} {r r' : Rd} {b b' : ByteArray}
theorem new_writer (w : World) : Wr (fun k => k = w.heap.size) (w.alloc (.cells #[.slice none 0 0] 103)) w.heap.size ByteArray.empty :=
  ⟨.slice none 0 0, rfl, fun k hk => (by cases hk), fun k hk => (by cases hk), alloc_at w _, World.ownsRow_nil _ _ _ _, fun k hk => by subst hk; simp⟩
def WB (B p : Nat) (W w : World) (b : ByteArray) : Prop := ∃ F : Nat → Prop, Wr F w p b ∧ (∀ k, F k → B ≤ k) ∧ Below B W w
theorem below_le (h : Below B W w) (hB : B ≤ W.heap.size) : B ≤ w.heap.size := Nat.le_trans hB h.size
theorem below_fr {F : Nat → Prop} (h : Below B W w) (hF : ∀ k, F k → B ≤ k) (k : Fr F w w') (hB : B ≤ w.heap.size) : Below B W w' := h.trans (k.below hB hF)
theorem WB.new (h : Below B W w) (hB : B ≤ W.heap.size) : WB B w.heap.size W (w.alloc (.cells #[.slice none 0 0] 103)) ByteArray.empty :=
  ⟨_, new_writer w, fun k hk => by subst hk; exact below_le h hB, h.alloc (below_le h hB) _⟩
theorem WB.out (h : WB B p W w b) : Below B W w := h.elim fun _ h => h.2.2
theorem WB.put {F : Nat → Prop} (hB : B ≤ W.heap.size) (hF : ∀ k, F k → B ≤ k) (h3 : Below B W w) (h : Wr (Xdr.Up F w w') w' p b') (k : Fr F w w') : WB B p W w' b' :=
  ⟨_, h, fun i hi => by rcases hi with hi | hi; exact hF i hi; have := below_le h3 hB; omega, below_fr h3 hF k (below_le h3 hB)⟩
theorem WB.number (hB : B ≤ W.heap.size) (h : WB B p W w b) (n : Nat) (hn : n < 4294967296) (hb : b.size ≤ 1000000000) : Calls Try.prog 50 #[.pointer (some ⟨p, 0, none⟩), .int .u32 (n : Int)] w fun e w' => e = .returned (.tuple #[]) ∧ WB B p W w' (b ++ num4 n) :=
  h.elim fun F ⟨h1, h2, h3⟩ => (number_any h1 n hn hb).mono fun _ _ ⟨he, a, c⟩ => ⟨he, WB.put hB h2 h3 a c⟩
theorem WB.bytes (h : WB B p W w b) : Calls Try.prog 51 #[.pointer (some ⟨p, 0, none⟩)] w fun e w' => e = .returned (.string b) ∧ w = w' := h.elim fun F h => bytes_any h.1
def RB (B p : Nat) (W w : World) (r : Rd) : Prop := RAt w p r ∧ B ≤ p ∧ Below B W w
theorem RB.left (hB : B ≤ W.heap.size) (h : RB B p W w r) (k : Xdr.Left p r' w w') : RB B p W w' r' :=
  ⟨k.1, h.2.1, below_fr (F := (· = p)) h.2.2 (fun i hi => by have e : i = p := hi; rw [e]; exact h.2.1) k.2 (below_le h.2.2 hB)⟩
theorem RB.new (hB : B ≤ W.heap.size) (h : Below B W w) (s : ByteArray) (hs : s.size ≤ 140737488355328) : Calls Try.prog 46 #[.string s] w fun e w' => e = .returned (.pointer (some ⟨w.heap.size, 0, none⟩)) ∧ RB B w.heap.size W w' ⟨s, 0⟩ :=
  (new_calls s w hs).mono fun _ _ ⟨he, a, c⟩ => ⟨he, a, below_le h hB, h.trans (c.mono (below_le h hB))⟩
theorem RB.number (hB : B ≤ W.heap.size) (h : RB B p W w r) : Calls Try.prog 47 #[.pointer (some ⟨p, 0, none⟩)] w fun e w' => e = .returned (.int .u32 (r.number.1 : Int)) ∧ RB B p W w' r.number.2 := (number_reads h.1).mono fun _ _ ⟨he, a⟩ => ⟨he, h.left hB a⟩
set_option maxHeartbeats 4000000 in
theorem numbers_calls (g c : Nat) (a b : Nat) (ha : a < 4294967296) (hb : b < 4294967296) (w : World) (h : w.heap[g]? = some (.cells #[.int .u32 (a : Int), .int .u32 (b : Int)] 38 (0, 0))) :
    Calls Try.prog 36 #[.slice (some ⟨g, 0, none⟩) 2 c] w fun e w' => e = .returned (.string (num4 a ++ num4 b)) ∧ Below w.heap.size w w' := by
  have H := Lib.hid h
  have HW := Lib.hid (WB.new (Below.refl w.heap.size w) (Nat.le_refl _))
  clear h
  go_enter Try.func36, Try.ntmps36
  go_wp2_with fail
  go_loopw [8] (fun s8 wr => ∃ i : Nat, i ≤ 2 ∧ s8 = .int .i64 i ∧ Hid (WB w.heap.size w.heap.size w wr (nums4 ([a, b].take i)))) (fun s8 _ => 2 - (intOf s8).toNat)
  case atStart => exact ⟨0, by omega, by simp, HW⟩
  case round =>
    clear HW
    obtain ⟨i, hi, rfl, HW⟩ := hrel
    have hx := blk2 (below_old' H.out (lt_of H.out) HW.out.out)
    obtain ⟨c0, _, c1, _⟩ := hx
    by_cases i2 : i = 2
    · subst i2
      go_wp2_with (go_at_call 51; refine (WB.bytes HW.out).mono ?_; rintro e w1 ⟨rfl, rfl⟩)
      go_ret
      refine ⟨?_, HW.out.out⟩
      simp [nums4]
    · have hlt : i < 2 := by omega
      have hN : ∀ v : Nat, [a, b][i]? = some v → ∀ w1, WB w.heap.size w.heap.size w w1 (nums4 ([a, b].take i) ++ num4 v) → WB w.heap.size w.heap.size w w1 (nums4 ([a, b].take (i + 1))) := fun v hv w1 h1 => by
        rw [List.take_add_one, hv, Option.toList_some, nums4_append]
        rw [show nums4 [v] = num4 v by simp [nums4]]
        exact h1
      have hsz : (nums4 ([a, b].take i)).size ≤ 1000000000 := by rw [nums4_size]; simp; omega
      rcases (show i = 0 ∨ i = 1 by omega) with rfl | rfl
      · go_wp2_with (go_at_call 50; refine (WB.number (Nat.le_refl _) HW.out a ha hsz).mono ?_; rintro e w1 ⟨rfl, hw⟩; have HW1 := Lib.hid (hN a rfl _ hw); clear hw)
        go_roundw
        case rel => exact ⟨1, by omega, by go_num, HW1⟩
        case measure => simp [intOf]
      · go_wp2_with (go_at_call 50; refine (WB.number (Nat.le_refl _) HW.out b hb hsz).mono ?_; rintro e w1 ⟨rfl, hw⟩; have HW1 := Lib.hid (hN b rfl _ hw); clear hw)
        go_roundw
        case rel => exact ⟨2, by omega, by go_num, HW1⟩
        case measure => simp [intOf]
theorem bytes_eq (a b : ByteArray) : (a.toList == b.toList) = decide (a = b) := by
  rw [Bool.eq_iff_iff, beq_iff_eq, decide_eq_true_iff, ByteArray.toList_eq, ByteArray.toList_eq]
  exact ⟨fun h => ByteArray.ext (Array.toList_inj.1 h), fun h => by rw [h]⟩
theorem prefix_calls (s : ByteArray) (hs : s.size = 256) (w : World) : Calls Try.prog 45 #[.string s, .string lcom] w fun e w' => e = .returned (.bool (decide (s.extract 0 4 = lcom))) ∧ Below w.heap.size w w' := by
  refine (strings_HasPrefix.calls s lcom (decide (s.extract 0 4 = lcom)) w ?_).mono fun e w' ⟨he, hd⟩ => ⟨he, hd.below⟩
  have h4 : lcom.size = 4 := rfl
  unfold strings_HasPrefix.f stringslite_HasPrefix.f
  rw [h4, hs, if_pos (by decide), if_pos (by decide), if_pos (by decide), ← bytes_eq]
  rfl
variable {F : Nat → Prop} {d : Dv}
theorem now_at (h : Dev F w p d) (i : Nat) (hi : i < d.firm.length) : (d.now.getD i ByteArray.empty).size = 256 := by
  have hl := h.ok.now_length
  have hi' : i < d.now.length := by omega
  rw [List.getD_eq_getElem?_getD, List.getElem?_eq_getElem hi', Option.getD_some]
  exact h.ok.now_size _ (List.getElem_mem hi')
theorem read_ok (h : Dev F w p d) (hd : d.dead = false) (i : Nat) (hi : i < d.firm.length) : Calls Try.prog 37 #[.pointer (some ⟨p, 0, none⟩), .int .i64 (i : Int)] w fun e w' => e = .returned (.tuple #[.string (d.now.getD i ByteArray.empty), .int .i64 0]) ∧ w = w' := by
  have := read_any h (i : Int)
  have e : readE d (i : Int) = .returned (.tuple #[.string (d.now.getD i ByteArray.empty), .int .i64 0]) := by
    have hb : d.bad (i : Int) = false := by simp [Dv.bad]; omega
    unfold readE Dv.read
    rw [hb, hd]
    rfl
  rw [e] at this
  exact this
theorem mark_num (m : ByteArray) (hm : m.size = 256) : (⟨m.extract 4 256, 0⟩ : Rd).number = (get4 (m.extract 4 256), ⟨m.extract 8 256, 0⟩) ∧ (⟨m.extract 8 256, 0⟩ : Rd).number.1 = get4 (m.extract 8 256) := by
  have hs : (m.extract 4 256).size = 252 := by simp [hm]
  refine ⟨?_, ?_⟩
  · rw [number_e _ rfl (by show 4 ≤ (m.extract 4 256).size; omega)]
    unfold Rd.skip
    simp only [Prod.mk.injEq, true_and, Rd.mk.injEq, and_true]
    apply ByteArray.ext
    simp [ByteArray.data_extract, Array.extract_extract, hm, hs]
  · rw [number_e _ rfl (by show 4 ≤ (m.extract 8 256).size; simp [hm])]
set_option maxHeartbeats 4000000 in
theorem mark_calls (h : Dev F w p d) (hd : d.dead = false) : Calls Try.prog 30 #[.pointer (some ⟨p, 0, none⟩)] w fun e w' =>
    e = .returned (.tuple #[.int .u32 ((markOf (d.now.getD 0 ByteArray.empty)).1 : Int), .int .i64 ((markOf (d.now.getD 0 ByteArray.empty)).2.1 : Int), .bool (markOf (d.now.getD 0 ByteArray.empty)).2.2]) ∧ Below w.heap.size w w' := by
  have hn := h.ok.n1
  have hm := now_at h 0 (by omega)
  have HR := Lib.hid (read_ok h hd 0 (by omega))
  obtain ⟨m, em⟩ : ∃ m, d.now.getD 0 ByteArray.empty = m := ⟨_, rfl⟩
  rw [em] at hm HR ⊢
  have HP := Lib.hid (fun W => prefix_calls m hm W)
  have hsz : (m.extract 4 256).size = 252 := by simp [hm]
  clear h em
  by_cases hx : m.extract 0 4 = lcom
  · have e : markOf m = (get4 (m.extract 4 256), get4 (m.extract 8 256), true) := by unfold markOf; rw [if_pos hx]
    rw [e]
    rw [show decide (m.extract 0 4 = lcom) = true from decide_eq_true hx] at HP
    obtain ⟨hnum, hn2⟩ := mark_num m hm
    have hlt1 := get4_lt (m.extract 4 256)
    have hlt2 := get4_lt (m.extract 8 256)
    have HN1 := Lib.hid hnum
    have HN2 := Lib.hid hn2
    have HX := Lib.hid hx
    have hle : (252 : Int) ≤ 140737488355328 := by decide
    clear hx hnum hn2 e
    go_enter Try.func30, Try.ntmps30
    go_wp2_with fail
    refine HR.out.mono ?_
    rintro e w1 ⟨rfl, rfl⟩
    go_wp2_with fail
    refine (HP.out _).mono ?_
    rintro e w2 ⟨rfl, hb⟩
    have HB := Lib.hid hb
    clear hb
    go_wp2_with fail
    refine (RB.new (Nat.le_refl _) HB.out (m.extract 4 256) (by omega)).mono ?_
    rintro e w3 ⟨rfl, hr⟩
    have HR3 := Lib.hid hr
    clear hr
    go_wp2_with fail
    refine (RB.number (Nat.le_refl _) HR3.out).mono ?_
    rw [HN1.out]
    rintro e w4 ⟨rfl, hr⟩
    have HR4 := Lib.hid hr
    clear hr HR3
    go_wp2_with fail
    refine (RB.number (Nat.le_refl _) HR4.out).mono ?_
    rw [HN2.out]
    rintro e w5 ⟨rfl, hr⟩
    have HR5 := Lib.hid hr
    clear hr HR4
    go_wp2
    go_ret3
    exact ⟨rfl, HR5.out.2.2⟩
  · have e : markOf m = (0, 0, false) := by unfold markOf; rw [if_neg hx]
    rw [e]
    rw [show decide (m.extract 0 4 = lcom) = false from decide_eq_false hx] at HP
    clear hx e
    go_enter Try.func30, Try.ntmps30
    go_wp2_with fail
    refine HR.out.mono ?_
    rintro e w1 ⟨rfl, rfl⟩
    go_wp2_with fail
    refine (HP.out _).mono ?_
    rintro e w2 ⟨rfl, hb⟩
    have HB := Lib.hid hb
    clear hb
    go_wp2
    go_ret3
    exact ⟨rfl, HB.out⟩
/-! ### the log's own block -/
def LAt (w : World) (q p : Nat) (last : Nat) (dead : Bool) : Prop := w.heap[q]? = some (.cells #[.pointer (some ⟨p, 0, none⟩), .int .u32 (last : Int), .bool dead] 76 (0, 0)) ∧ last < 4294967296
variable {q : Nat} {last : Nat} {dead : Bool}
theorem LAt.below (h : LAt w q p last dead) (hb : Below w.heap.size w w') : LAt w' q p last dead := ⟨below_old h.1 hb, h.2⟩
theorem LAt.keep {G : Nat → Prop} (h : LAt w q p last dead) (hF : Fr G w w') (hG : ¬ G q) : LAt w' q p last dead := ⟨hF.at h.1 hG, h.2⟩
theorem LAt.lt (h : LAt w q p last dead) : q < w.heap.size := lt_of h.1
set_option maxHeartbeats 400000 in
theorem size_calls (h : LAt w q p last dead) (hd : Dev F w p d) : Calls Try.prog 17 #[.pointer (some ⟨q, 0, none⟩)] w fun e w' => e = .returned (.int .i64 ((d.firm.length : Int) - 41)) ∧ w = w' := by
  obtain ⟨c0, _, c1, _, c2, _⟩ := blk3 h.1
  have hn2 := hd.ok.n2
  have HB := Lib.hid (blocks_any hd)
  clear h hd
  go_enter Try.func17, Try.ntmps17
  go_wp2_with fail
  refine HB.out.mono ?_
  rintro e w1 ⟨rfl, rfl⟩
  go_wp2
  go_ret
  exact ⟨rfl, rfl⟩
set_option maxHeartbeats 400000 in
theorem last_calls (h : LAt w q p last dead) : Calls Try.prog 15 #[.pointer (some ⟨q, 0, none⟩)] w fun e w' => e = .returned (.int .u32 (last : Int)) ∧ w = w' := by
  obtain ⟨c0, _, c1, _, c2, _⟩ := blk3 h.1
  clear h
  go_enter Try.func15, Try.ntmps15
  go_wp2
  go_ret
  exact ⟨rfl, rfl⟩
end Go.Proofs.Ytmdojgkgohmghaa.Wal
namespace Go.Proofs.Ytmdojgkgohmghaa.Wal
open Go.RowKit Go.Own Go.Blk Go.OpsL Go.Proofs.YtmdojgkgohmghaaW.PrintWords
set_option linter.unusedVariables false
set_option linter.unusedSimpArgs false
set_option maxRecDepth 100000
def NAt (w : World) (g : Nat) (x : (Int × ByteArray)) : Prop := w.heap[g]? = some (.cells #[.int .i64 x.1, .string x.2] 26 (0, 0))
theorem NAt.below {w w' : World} {g : Nat} {x : (Int × ByteArray)} (h : NAt w g x) (hb : Below w.heap.size w w') : NAt w' g x := below_old h hb
theorem sn_info : (Try.prog.info? 26).map (·.size) = some 2 := by kernel_rfl
theorem fresh_sn (w : World) (y : (Int × ByteArray)) : ∃ w', (Instr.storeAt 26 (.pointer (some ⟨w.heap.size, 0, none⟩)) (.agg #[.int .i64 y.1, .string y.2])).run Try.prog (w.alloc (.cells #[.int .i64 0, .string ⟨#[]⟩] 26)) = .ok () w' ∧ NAt w' w.heap.size y ∧ Below w.heap.size w w' := by
  have ha := alloc_at w (.cells #[.int .i64 0, .string ⟨#[]⟩] 26)
  have hr := run_storeAt_row (P := Try.prog) (w.alloc (.cells #[.int .i64 0, .string ⟨#[]⟩] 26)) w.heap.size 0 26 [.int .i64 0, .string ⟨#[]⟩] 26 #[.int .i64 y.1, .string y.2] ha (Nat.le_refl 2) sn_info (by simp [Value.oneCell'])
  rw [over_all (cur := [.int .i64 0, .string ⟨#[]⟩]) (vs := #[.int .i64 y.1, .string y.2].toList) (Nat.le_refl 2)] at hr
  have hf : Fr (· = w.heap.size) (w.alloc (.cells #[.int .i64 0, .string ⟨#[]⟩] 26)) _ := Fr.setRow (F := (· = w.heap.size)) (w.alloc (.cells #[.int .i64 0, .string ⟨#[]⟩] 26)) rfl #[.int .i64 y.1, .string y.2]
  exact ⟨_, hr, setRow_heap _ _ _ _ _ _ ha, ((Below.refl w.heap.size w).alloc (Nat.le_refl _) _).trans (hf.below (by simp) (fun k hk => by have e : k = w.heap.size := hk; omega))⟩
theorem NAt.cells {w : World} {g : Nat} {x : Int × ByteArray} (h : NAt w g x) : w.cell? ⟨g, 0, none⟩ = some (.int .i64 x.1) ∧ w.cell? ⟨g, 1, none⟩ = some (.string x.2) := ⟨(cell_at h 0).trans rfl, (cell_at h 1).trans rfl⟩
def ncells (x : Int × ByteArray) : List Value := [.int .i64 x.1, .string x.2]
def nrow (l : List (Int × ByteArray)) : List Value := l.flatMap ncells
theorem nrow_length (l : List (Int × ByteArray)) : (nrow l).length = l.length * 2 := flat_length (f := ncells) (s := 2) (fun _ _ => rfl)
theorem nrow_one (l : List (Int × ByteArray)) : ∀ x ∈ nrow l, x.oneCell' = true := by
  intro x hx
  simp only [nrow, List.mem_flatMap] at hx
  obtain ⟨p, _, hp⟩ := hx
  simp only [ncells, List.mem_cons, List.not_mem_nil, or_false] at hp
  rcases hp with rfl | rfl <;> rfl
theorem info_n : (Try.prog.info? 26).map (fun i => (i.zero, i.size, i.bytes)) = some (some (.agg #[.int .i64 0, .string ⟨#[]⟩]), 2, 24) := by kernel_rfl
theorem info_get {P : Program} {t : TypeId} {z : Value} {s b : Nat} (h : (P.info? t).map (fun i => (i.zero, i.size, i.bytes)) = some (some z, s, b)) : ∃ i, P.info? t = some i ∧ i.zero = some z ∧ i.size = s ∧ i.bytes = b := by
  cases h1 : P.info? t with
  | none => rw [h1] at h; cases h
  | some i =>
    rw [h1] at h
    simp only [Option.map_some, Option.some.injEq, Prod.mk.injEq] at h
    exact ⟨i, rfl, h.1, h.2.1, h.2.2⟩
abbrev NR (w : World) (v : Value) (l : List (Int × ByteArray)) : Prop := partRow w 0 26 2 v l.length (nrow l)
theorem part_below {w w' : World} {base : Nat} {e : TypeId} {size n : Nat} {v : Value} {xs : List Value} (h : partRow w base e size v n xs) (hb : Below w.heap.size w w') : partRow w' base e size v n xs := (Fr.of_below (F := fun _ => False) hb).part h (fun _ _ => id)
/-- One more block. -/
theorem nadds (w : World) {u : Value} {l : List (Int × ByteArray)} (h : NR w u l) (x : Int × ByteArray) (hl : l.length ≤ 1000) :
    (Instr.buildSlice 22 1 #[(0, .agg #[.int .i64 x.1, .string x.2])]).run Try.prog w = .ok (.slice (some ⟨w.heap.size, 0, none⟩) 1 1) (w.alloc (.cells #[.int .i64 x.1, .string x.2] 26)) ∧
    ∃ u' w', (Builtin.append_ #[22, 22] 22 #[u, .slice (some ⟨w.heap.size, 0, none⟩) 1 1]).run Try.prog (w.alloc (.cells #[.int .i64 x.1, .string x.2] 26)) = .ok u' w' ∧ NR w' u' (l ++ [x]) ∧ Fr (fun k => u.ownBlock = some k) w w' ∧ (∀ k, u'.ownBlock = some k → u.ownBlock = some k ∨ w.heap.size ≤ k) := by
  obtain ⟨i, h1, h2, h3, h4⟩ := info_get info_n
  have hbs := run_buildSlice_one (P := Try.prog) w 22 26 i _ #[.int .i64 x.1, .string x.2] Try.underlying22 h1 h2 h3 (by show 0 < 2; omega) (by show 2 ≤ _; omega) rfl
  have hb : Below w.heap.size w (w.alloc (.cells #[.int .i64 x.1, .string x.2] 26)) := (Below.refl _ _).alloc (Nat.le_refl _) _
  have hsh : Shows (w.alloc (.cells #[.int .i64 x.1, .string x.2] 26)) (some ⟨w.heap.size, 0, none⟩) (nrow [x]) := by
    refine .inr ⟨_, rfl, fun j u hj => ?_⟩
    have hadd : (⟨w.heap.size, 0, none⟩ : Addr).add j = ⟨w.heap.size, j, none⟩ := by unfold Addr.add; split <;> simp_all
    rw [hadd, cell_at (alloc_at w _)]
    simpa [nrow, ncells] using hj
  have hap := run_append_part (P := Try.prog) (w.alloc (.cells #[.int .i64 x.1, .string x.2] 26)) 0 22 22 26 i _ 2 24 Try.underlying22 h1 h2 h3 h4 rfl (by omega) u l.length _ (part_below h hb) (some ⟨w.heap.size, 0, none⟩) 1 1 (nrow [x]) (by rw [nrow_length]; rfl) hsh (nrow_one _) (by unfold maxLen; omega) (by omega) (Nat.zero_le _)
  obtain ⟨u', w', hr, ho, hg, hat⟩ := hap
  refine ⟨hbs, u', w', hr, ?_, (Fr.of_below (F := fun k => u.ownBlock = some k) hb).trans (Fr.grown (F := fun k => u.ownBlock = some k) hg (fun k hk => hk)) (fun _ _ h => h), fun k hk => ?_⟩
  · show partRow w' 0 _ 2 u' (l ++ [x]).length (nrow (l ++ [x]))
    rw [List.length_append, List.length_singleton, show nrow (l ++ [x]) = nrow l ++ nrow [x] by simp [nrow]]
    exact ho
  · rcases hat with h | h
    · rw [h] at hk; exact .inl hk
    · rw [h] at hk; simp only [Option.some.injEq] at hk; have := hb.size; exact .inr (by omega)
theorem nrow_get {w : World} {v : Value} {l : List (Int × ByteArray)} (h : NR w v l) (k : Nat) (hk : k < l.length) : ∃ g c, v = .slice (some ⟨g, 0, none⟩) l.length c ∧ w.rangeAt g (k * 2) (ncells l[k]) := by
  rcases h.2 with ⟨_, h0⟩ | ⟨g, c, cur, rfl, _⟩
  · omega
  · refine ⟨g, c, rfl, fun j u hu => ?_⟩
    have hj : j < 2 := (List.getElem?_eq_some_iff.1 hu).1
    have h1 := flat_get (l := l) (f := ncells) (s := 2) (fun _ _ => rfl) k hk j hj
    have h2 := h.cells (g := g) rfl (k * 2 + j) u (by unfold nrow; rw [h1]; exact hu)
    rw [← h2]
    congr 1
    unfold Addr.add
    split <;> simp_all
theorem run_loadN (w : World) (g o : Nat) (x : Int × ByteArray) (h : w.rangeAt g o (ncells x)) : (Instr.loadAt 26 (.pointer (some ⟨g, o, none⟩))).run Try.prog w = .ok (.agg #[.int .i64 x.1, .string x.2]) w := by
  have hv := run_loadVar_mid (P := Try.prog) w g o 26 _ _ h Try.underlying26 rfl sn_info
  simp only [Instr.loadAt, Instr.sureAddr, Sem.run_bind, Sem.run_pure, Result.andThen_ok, hv]
  rfl
def srow (l : List ByteArray) : List Value := l.map (Value.string)
theorem info_s : (Try.prog.info? 9).map (fun i => (i.zero, i.size, i.bytes)) = some (some (.string ⟨#[]⟩), 1, 16) := by kernel_rfl
abbrev SR (w : World) (v : Value) (l : List ByteArray) : Prop := partRow w 0 9 1 v l.length (srow l)
theorem sadds (w : World) {u : Value} {l : List ByteArray} (h : SR w u l) (x : ByteArray) (hl : l.length ≤ 1000) :
    (Instr.buildSlice 34 1 #[(0, .string x)]).run Try.prog w = .ok (.slice (some ⟨w.heap.size, 0, none⟩) 1 1) (w.alloc (.cells #[.string x] 9)) ∧
    ∃ u' w', (Builtin.append_ #[34, 34] 34 #[u, .slice (some ⟨w.heap.size, 0, none⟩) 1 1]).run Try.prog (w.alloc (.cells #[.string x] 9)) = .ok u' w' ∧ SR w' u' (l ++ [x]) ∧ Fr (fun k => u.ownBlock = some k) w w' ∧ (∀ k, u'.ownBlock = some k → u.ownBlock = some k ∨ w.heap.size ≤ k) := by
  obtain ⟨i, h1, h2, h3, h4⟩ := info_get info_s
  have hbs : (Instr.buildSlice 34 1 #[(0, .string x)]).run Try.prog w = .ok (.slice (some ⟨w.heap.size, 0, none⟩) 1 1) (w.alloc (.cells #[.string x] 9)) := by kernel_rfl
  have hb : Below w.heap.size w (w.alloc (.cells #[.string x] 9)) := (Below.refl _ _).alloc (Nat.le_refl _) _
  have hsh : Shows (w.alloc (.cells #[.string x] 9)) (some ⟨w.heap.size, 0, none⟩) (srow [x]) := .inr ⟨_, rfl, cell_one_new w _ 9⟩
  have hone : ∀ y ∈ srow [x], y.oneCell' = true := fun y hy => by
    simp only [srow, List.map_cons, List.map_nil, List.mem_singleton] at hy
    rw [hy]; rfl
  have hap := run_append_part (P := Try.prog) (w.alloc (.cells #[.string x] 9)) 0 34 34 9 i _ 1 16 Try.underlying34 h1 h2 h3 h4 rfl (by omega) u l.length _ (part_below h hb) (some ⟨w.heap.size, 0, none⟩) 1 1 (srow [x]) (by simp [srow]) hsh hone (by unfold maxLen; omega) (by omega) (Nat.zero_le _)
  obtain ⟨u', w', hr, ho, hg, hat⟩ := hap
  refine ⟨hbs, u', w', hr, ?_, (Fr.of_below (F := fun k => u.ownBlock = some k) hb).trans (Fr.grown (F := fun k => u.ownBlock = some k) hg (fun k hk => hk)) (fun _ _ h => h), fun k hk => ?_⟩
  · show partRow w' 0 _ 1 u' (l ++ [x]).length (srow (l ++ [x]))
    rw [List.length_append, List.length_singleton, show srow (l ++ [x]) = srow l ++ srow [x] by simp [srow]]
    exact ho
  · rcases hat with h | h
    · rw [h] at hk; exact .inl hk
    · rw [h] at hk; simp only [Option.some.injEq] at hk; have := hb.size; exact .inr (by omega)
theorem srow_get {w : World} {v : Value} {l : List ByteArray} (h : SR w v l) (k : Nat) (hk : k < l.length) : ∃ g c, v = .slice (some ⟨g, 0, none⟩) l.length c ∧ w.cell? ⟨g, k, none⟩ = some (.string l[k]) := by
  rcases h.2 with ⟨_, h0⟩ | ⟨g, c, cur, rfl, _⟩
  · omega
  · refine ⟨g, c, rfl, ?_⟩
    have := h.cells (g := g) rfl k (.string l[k]) (by simp [srow, List.getElem?_eq_getElem hk])
    rw [Addr.add_mid] at this
    simpa using this
end Go.Proofs.Ytmdojgkgohmghaa.Wal
namespace Go.Proofs.Ytmdojgkgohmghaa.Wal
open Go.RowKit Go.Own Go.Blk Go.DevL Go.XdrL Go.WalL Go.OpsL Go.Proofs.Ytmdojgkgohmghaa.P04 Go.Proofs.Ytmdojgkgohmghaa.Xdr Go.Proofs.YtmdojgkgohmghaaW.PrintLast Go.Proofs.YtmdojgkgohmghaaW.PrintWords
open Go.Proofs.Ytmdojgkgohmghaa.Dev hiding stop_here execOp_build execOp_alloc execOp_store execOp_load execOp_buildSlice execOp_makeSlice execOp_box execOp_copy execOp_append wpList_val wpList_none Up
set_option linter.unusedVariables false
set_option linter.unusedSimpArgs false
set_option maxRecDepth 100000
variable {F : Nat → Prop} {w w' : World} {p q : Nat} {d : Dv} {last : Nat} {dead : Bool}
def readR (d : Dv) (dead : Bool) (k : Int) : Ending := .returned (.tuple #[.string (readL d dead k).1, .int .i64 (readL d dead k).2])
set_option maxHeartbeats 1000000 in
theorem lread_calls (h : LAt w q p last dead) (hd : Dev F w p d) (k : Int) : Calls Try.prog 16 #[.pointer (some ⟨q, 0, none⟩), .int .i64 k] w fun e w' => e = readR d dead k ∧ w = w' := by
  have HS := Lib.hid (size_calls h hd)
  obtain ⟨c0, _, c1, _, c2, _⟩ := blk3 h.1
  have hn2 := hd.ok.n2
  by_cases hk : k < 0 ∨ sizeL d ≤ k
  · have e : readR d dead k = .returned (.tuple #[.string ByteArray.empty, .int .i64 1]) := by unfold readR readL; rw [if_pos hk]
    rw [e]
    clear h hd e
    unfold sizeL at hk
    go_enter Try.func16, Try.ntmps16
    by_cases h0 : k < 0
    · go_wp2
      go_ret2
      exact ⟨rfl, rfl⟩
    · have h1 : (d.firm.length : Int) - 41 ≤ k := by omega
      go_wp2_with fail
      refine HS.out.mono ?_
      rintro e w1 ⟨rfl, rfl⟩
      go_wp2
      go_ret2
      exact ⟨rfl, rfl⟩
  · unfold sizeL at hk
    have h0 : ¬ k < 0 := by omega
    have h1 : ¬ (d.firm.length : Int) - 41 ≤ k := by omega
    by_cases hdd : dead = true
    · have e : readR d dead k = .returned (.tuple #[.string ByteArray.empty, .int .i64 5]) := by unfold readR readL sizeL; rw [if_neg hk, if_pos (.inl hdd)]
      rw [e]
      clear h hd e hk
      subst hdd
      go_enter Try.func16, Try.ntmps16
      go_wp2_with fail
      refine HS.out.mono ?_
      rintro e w1 ⟨rfl, rfl⟩
      go_wp2
      go_ret2
      exact ⟨rfl, rfl⟩
    · have hdd' : dead = false := by simpa using hdd
      subst hdd'
      obtain ⟨n, hn⟩ : ∃ n : Nat, 41 + k = (n : Int) := ⟨(41 + k).toNat, by omega⟩
      have hnl : n < d.firm.length := by omega
      by_cases hx : d.dead = true
      · have e : readR d false k = .returned (.tuple #[.string ByteArray.empty, .int .i64 5]) := by unfold readR readL sizeL; rw [if_neg hk, if_pos (.inr hx)]
        rw [e]
        have HR := Lib.hid (read_any hd (n : Int))
        have e2 : readE d (n : Int) = .returned (.tuple #[.string ByteArray.empty, .int .i64 5]) := by
          have hb : d.bad (n : Int) = false := by simp [Dv.bad]; omega
          unfold readE Dv.read
          rw [hb, hx]; rfl
        rw [e2] at HR
        clear h hd e hk hx e2
        go_enter Try.func16, Try.ntmps16
        go_wp2_with fail
        refine HS.out.mono ?_
        rintro e w1 ⟨rfl, rfl⟩
        go_wp2_with fail
        try rw [hn]
        refine HR.out.mono ?_
        rintro e w1 ⟨rfl, rfl⟩
        go_wp2
        go_ret2
        exact ⟨rfl, rfl⟩
      · have hx' : d.dead = false := by simpa using hx
        have e : readR d false k = .returned (.tuple #[.string ((d.now.getD n ByteArray.empty).extract 8 256), .int .i64 0]) := by
          unfold readR readL sizeL
          rw [if_neg hk, if_neg (by simp [hx']), hn, Int.toNat_natCast]
        rw [e]
        have hm := now_at hd n hnl
        have HR := Lib.hid (read_ok hd hx' n hnl)
        obtain ⟨m, em⟩ : ∃ m, d.now.getD n ByteArray.empty = m := ⟨_, rfl⟩
        rw [em] at hm HR ⊢
        clear h hd e hk hx em
        go_enter Try.func16, Try.ntmps16
        go_wp2_with fail
        refine HS.out.mono ?_
        rintro e w1 ⟨rfl, rfl⟩
        go_wp2_with fail
        try rw [hn]
        refine HR.out.mono ?_
        rintro e w1 ⟨rfl, rfl⟩
        go_wp2
        go_ret2
        exact ⟨rfl, rfl⟩
end Go.Proofs.Ytmdojgkgohmghaa.Wal
namespace Go.Proofs.Ytmdojgkgohmghaa.Wal
open Go.RowKit Go.Own Go.Blk Go.DevL Go.XdrL Go.WalL Go.OpsL Go.Proofs.Ytmdojgkgohmghaa.P04 Go.Proofs.Ytmdojgkgohmghaa.Xdr Go.Proofs.YtmdojgkgohmghaaW.PrintLast Go.Proofs.YtmdojgkgohmghaaW.PrintWords
open Go.Proofs.Ytmdojgkgohmghaa.Dev hiding stop_here execOp_build execOp_alloc execOp_store execOp_load execOp_buildSlice execOp_makeSlice execOp_box execOp_copy execOp_append wpList_val wpList_none Up
set_option linter.unusedVariables false
set_option linter.unusedSimpArgs false
set_option maxRecDepth 100000
variable {F : Nat → Prop} {w w' : World} {p q : Nat} {d : Dv} {last : Nat} {dead : Bool}
def entsPost (w w' : World) (o : Option (List (Int × ByteArray))) (e : Ending) : Prop :=
  match o with
  | none => e = .returned (.tuple #[.slice none 0 0, .bool false])
  | some l => ∃ a c, e = .returned (.tuple #[.slice a l.length c, .bool true]) ∧ NR w' (.slice a l.length c) l ∧ ∀ k, (Value.slice a l.length c).ownBlock = some k → w.heap.size ≤ k
def entL (d : Dv) (i : Nat) : List (Int × ByteArray) := (List.range i).map fun j => entAt d (j + 1)
theorem entL_len (d : Dv) (i : Nat) : (entL d i).length = i := by simp [entL]
theorem entL_snoc (d : Dv) (i : Nat) : entL d i ++ [entAt d (i + 1)] = entL d (i + 1) := by simp [entL, List.range_succ]
theorem ents_bad {d : Dv} {last count : Nat} (h : count < 1 ∨ 40 < count) : entsOf d last count = none := by unfold entsOf; rw [if_pos h]
theorem ents_no {d : Dv} {last count : Nat} (i : Nat) (hi : i < count) (h : good d last (i + 1) = false) : entsOf d last count = none := by
  unfold entsOf
  split
  · rfl
  · rw [if_neg (fun hall => by
      have := List.all_eq_true.1 hall i (List.mem_range.2 hi)
      rw [h] at this; cases this)]
theorem ents_yes {d : Dv} {last count : Nat} (h : ¬ (count < 1 ∨ 40 < count)) (hg : ∀ i, i < count → good d last (i + 1) = true) : entsOf d last count = some (entL d count) := by
  unfold entsOf
  rw [if_neg h, if_pos (List.all_eq_true.2 fun i hi => hg i (List.mem_range.1 hi))]
  rfl
set_option maxHeartbeats 16000000 in
theorem entries_calls (h : Dev F w p d) (hd : d.dead = false) (hl : last < 4294967296) (count : Nat) (hc : count < 4294967296) (hn41 : 41 < d.firm.length) : Calls Try.prog 31 #[.pointer (some ⟨p, 0, none⟩), .int .u32 (last : Int), .int .i64 (count : Int)] w fun e w' =>
    entsPost w w' (entsOf d last count) e ∧ Below w.heap.size w w' := by
  have hn2 := h.ok.n2
  by_cases hcc : count < 1 ∨ 40 < count
  · rw [ents_bad hcc]
    clear h
    go_enter Try.func31, Try.ntmps31
    by_cases h1 : count < 1
    · have h1' : (count : Int) < 1 := by omega
      go_wp2
      go_ret2
      exact ⟨rfl, Below.refl _ _⟩
    · have h1' : ¬ (count : Int) < 1 := by omega
      have h2' : (40 : Int) < (count : Int) := by omega
      go_wp2
      go_ret2
      exact ⟨rfl, Below.refl _ _⟩
  · have h1 : ¬ (count : Int) < 1 := by omega
    have h2 : ¬ (40 : Int) < (count : Int) := by omega
    have H := Lib.hid h
    clear h
    obtain ⟨E, G, o, ho, HEG⟩ : ∃ (E : Nat → List (Int × ByteArray)) (G : Nat → Bool) (o : Option (List (Int × ByteArray))), entsOf d last count = o ∧
        Hid ((∀ i, i < count → G i = false → o = none) ∧ ((∀ i, i < count → G i = true) → o = some (E count)) ∧ (∀ i, (E i).length = i) ∧ E 0 = [] ∧
          (∀ i, G i = (get4 ((d.now.getD (i + 1) ByteArray.empty).extract 4 256) == last && decide (41 ≤ get4 (d.now.getD (i + 1) ByteArray.empty)) && decide (get4 (d.now.getD (i + 1) ByteArray.empty) < d.firm.length))) ∧
          ∀ i, E (i + 1) = E i ++ [((get4 (d.now.getD (i + 1) ByteArray.empty) : Int), d.now.getD (i + 1) ByteArray.empty)]) :=
      ⟨entL d, fun i => good d last (i + 1), _, rfl, Lib.hid ⟨fun i hi hg => ents_no i hi hg, fun hg => ents_yes hcc hg, entL_len d, rfl, fun i => rfl, fun i => (entL_snoc d i).symm⟩⟩
    rw [ho]
    clear ho hcc
    go_enter Try.func31, Try.ntmps31
    go_wp2_with fail
    go_loopw [8, 9] (fun s8 s9 wr => ∃ i : Nat, i ≤ count ∧ s9 = .int .i64 ((i : Int) + 1) ∧ Hid (∀ j, j < i → G j = true) ∧ Hid (NR wr s8 (E i)) ∧ Hid (∀ k, s8.ownBlock = some k → w.heap.size ≤ k) ∧ Hid (Below w.heap.size w wr)) (fun _ s9 _ => (count + 1) - (intOf s9).toNat)
    case atStart => exact ⟨0, by omega, by simp, Lib.hid (fun j hj => absurd hj (by omega)), Lib.hid (by rw [HEG.out.2.2.2.1]; exact part_of_own (World.ownsRow_nil ..)), Lib.hid (fun k hk => by simp [Value.ownBlock] at hk), Lib.hid (Below.refl _ _)⟩
    case round =>
      obtain ⟨i, hi, rfl, HG, HN, HO, HB⟩ := hrel
      obtain ⟨a8, c8, e8, -⟩ := part_form HN.out
      rw [HEG.out.2.2.1] at e8
      subst e8
      by_cases i1 : i = count
      · have i2 : ¬ ((i : Int) + 1 ≤ (count : Int)) := by omega
        subst i1
        go_wp2
        go_ret2
        rw [HEG.out.2.1 (fun j hj => HG.out j (by omega))]
        refine ⟨⟨a8, c8, ?_, ?_, ?_⟩, HB.out⟩
        · rw [HEG.out.2.2.1]; rfl
        · rw [HEG.out.2.2.1]; exact HN.out
        · rw [HEG.out.2.2.1]; exact HO.out
      · have i2 : ((i : Int) + 1 ≤ (count : Int)) := by omega
        have HD := Lib.hid (H.out.below HB.out)
        have hm := now_at H.out (i + 1) (by omega)
        have HR := Lib.hid (read_ok HD.out hd (i + 1) (by omega))
        have HBL := Lib.hid (fun W (hb : Below wr.heap.size wr W) => blocks_any (HD.out.below hb))
        have hgd : G i = (get4 ((d.now.getD (i + 1) ByteArray.empty).extract 4 256) == last && decide (41 ≤ get4 (d.now.getD (i + 1) ByteArray.empty)) && decide (get4 (d.now.getD (i + 1) ByteArray.empty) < d.firm.length)) := HEG.out.2.2.2.2.1 i
        have hen : E (i + 1) = E i ++ [((get4 (d.now.getD (i + 1) ByteArray.empty) : Int), d.now.getD (i + 1) ByteArray.empty)] := HEG.out.2.2.2.2.2 i
        obtain ⟨m, em⟩ : ∃ m, d.now.getD (i + 1) ByteArray.empty = m := ⟨_, rfl⟩
        rw [em] at hm HR hgd hen
        have hA := get4_lt m
        have hB := get4_lt (m.extract 4 256)
        have HN1 : Hid ((⟨m, 0⟩ : Rd).number = (get4 m, ⟨m.extract 4 256, 0⟩)) := Lib.hid (by
          rw [number_e _ rfl (by show 4 ≤ m.size; omega)]
          unfold Rd.skip
          simp only [hm])
        have HN2 : Hid ((⟨m.extract 4 256, 0⟩ : Rd).number.1 = get4 (m.extract 4 256)) := Lib.hid (by
          rw [number_e _ rfl (by show 4 ≤ (m.extract 4 256).size; simp [hm])])
        have hcast : (((i + 1 : Nat) : Int)) = (i : Int) + 1 := by omega
        rw [hcast] at HR
        have HSZ := Lib.hid (show m.size ≤ 140737488355328 by omega)
        obtain ⟨nA, eA⟩ : ∃ n, get4 m = n := ⟨_, rfl⟩
        obtain ⟨nB, eB⟩ : ∃ n, get4 (m.extract 4 256) = n := ⟨_, rfl⟩
        rw [eA] at hA HN1 hgd hen
        rw [eB] at hB HN2 hgd
        have HEN := Lib.hid hen
        have HGD := Lib.hid hgd
        clear em eA eB hm hgd hen hcast
        go_wp2_with fail
        refine HR.out.mono ?_
        rintro e w1 ⟨rfl, rfl⟩
        clear HR
        go_wp2_with fail
        refine (RB.new (Nat.le_refl _) (Below.refl _ _) m HSZ.out).mono ?_
        rintro e w3 ⟨rfl, hr⟩
        have HR3 := Lib.hid hr
        clear hr
        go_wp2_with fail
        refine (RB.number (Nat.le_refl _) HR3.out).mono ?_
        rw [HN1.out]
        rintro e w4 ⟨rfl, hr⟩
        have HR4 := Lib.hid hr
        clear hr HR3
        go_wp2_with fail
        refine (RB.number (Nat.le_refl _) HR4.out).mono ?_
        rw [HN2.out]
        rintro e w5 ⟨rfl, hr⟩
        have HR5 := Lib.hid hr
        clear hr HR4
        by_cases g1 : nB = last
        · have g1' : ((nB : Int) = (last : Int)) = True := eq_true (by omega)
          have g1b : ((nB : Int) == (last : Int)) = true := by rw [beq_iff_eq]; omega
          by_cases g2 : 41 ≤ nA
          · have g2' : ((nA : Int) < 41) = False := eq_false (by omega)
            by_cases g3 : nA < d.firm.length
            · have g3' : ((d.firm.length : Int) ≤ (nA : Int)) = False := eq_false (by omega)
              have g3n : (d.firm.length ≤ nA) = False := eq_false (by omega)
              have hg : G i = true := by rw [HGD.out, g1]; simp [g2, g3]
              have HB5 := Lib.hid (HB.out.trans (HR5.out.2.2.mono HB.out.size))
              have HN5 := Lib.hid (part_below HN.out HR5.out.2.2)
              obtain ⟨hbs, u8, w8, hr8, ho8, hf8, hw8⟩ := nadds w5 HN5.out ((nA : Int), m) (by rw [HEG.out.2.2.1]; omega)
              have HBS := Lib.hid hbs
              have HR8 := Lib.hid hr8
              rw [← HEN.out] at ho8
              have HO8 := Lib.hid ho8
              have HW8 := Lib.hid hw8
              have HF8 := Lib.hid hf8
              obtain ⟨aa, kk, e8, -⟩ := part_form ho8
              rw [HEG.out.2.2.1] at e8
              subst e8
              clear hbs hr8 ho8 hf8 hw8
              go_wp2_with (first | (go_at_call 28; refine (HBL.out _ HR5.out.2.2).mono ?_; rintro e w6 ⟨rfl, rfl⟩) | ((with_reducible refine gate_dst (N := 56) rfl ?_); refine wpList_val rfl rfl (execOp_buildSlice (ps := #[(0, .agg #[.int .i64 (nA : Int), .string m])]) rfl rfl HBS.out) ?_; refine stop_here ?_))
              refine Lib.hid ?_
              go_wp2_with ((with_reducible refine gate_dst (N := 57) rfl ?_); refine wpList_val rfl rfl (execOp_append rfl rfl rfl HR8.out) ?_; refine stop_here ?_)
              refine Lib.hid ?_
              go_wp2
              go_roundw
              case rel =>
                refine ⟨i + 1, by omega, by first | rfl | go_num, Lib.hid (fun j hj => ?_), HO8, Lib.hid (fun k hk => ?_), Lib.hid (HB5.out.trans (HF8.out.below HB5.out.size (fun k hk => ?_)))⟩
                · rcases Nat.lt_succ_iff_lt_or_eq.1 hj with hj | rfl
                  · exact HG.out j hj
                  · exact hg
                · rcases HW8.out k hk with hk | hk
                  · exact HO.out k hk
                  · have := HB5.out.size; omega
                · exact HO.out k hk
              case measure => simp [intOf]; omega
            · have g3' : ((d.firm.length : Int) ≤ (nA : Int)) = True := eq_true (by omega)
              have g3n : (d.firm.length ≤ nA) = True := eq_true (by omega)
              have hg : G i = false := by rw [HGD.out]; simp [g3]
              go_wp2_with (go_at_call 28; refine (HBL.out _ HR5.out.2.2).mono ?_; rintro e w6 ⟨rfl, rfl⟩)
              go_ret2
              rw [HEG.out.1 i (by omega) hg]
              exact ⟨rfl, HB.out.trans (HR5.out.2.2.mono HB.out.size)⟩
          · have g2' : ((nA : Int) < 41) = True := eq_true (by omega)
            have hg : G i = false := by rw [HGD.out]; simp [g2]
            go_wp2
            go_ret2
            rw [HEG.out.1 i (by omega) hg]
            exact ⟨rfl, HB.out.trans (HR5.out.2.2.mono HB.out.size)⟩
        · have g1' : ((nB : Int) = (last : Int)) = False := eq_false (by omega)
          have g1b : ((nB : Int) == (last : Int)) = false := by rw [beq_eq_false_iff_ne]; omega
          have hg : G i = false := by rw [HGD.out]; simp [g1]
          go_wp2
          go_ret2
          rw [HEG.out.1 i (by omega) hg]
          exact ⟨rfl, HB.out.trans (HR5.out.2.2.mono HB.out.size)⟩
end Go.Proofs.Ytmdojgkgohmghaa.Wal
namespace Go.Proofs.Ytmdojgkgohmghaa.Wal
open Go.RowKit Go.Own Go.Blk Go.DevL Go.XdrL Go.WalL Go.OpsL Go.Proofs.Ytmdojgkgohmghaa.P04 Go.Proofs.Ytmdojgkgohmghaa.Xdr Go.Proofs.YtmdojgkgohmghaaW.PrintLast Go.Proofs.YtmdojgkgohmghaaW.PrintWords
open Go.Proofs.Ytmdojgkgohmghaa.Dev hiding stop_here execOp_build execOp_alloc execOp_store execOp_load execOp_buildSlice execOp_makeSlice execOp_box execOp_copy execOp_append wpList_val wpList_none Up
set_option linter.unusedVariables false
set_option linter.unusedSimpArgs false
set_option maxRecDepth 100000
variable {F : Nat → Prop} {w w' : World} {p q : Nat} {d : Dv} {last : Nat} {dead : Bool}
/-- Blocks of F, and what was made since. -/
def Sub (F : Nat → Prop) (w w' : World) (G : Nat → Prop) : Prop := ∀ k, G k → F k ∨ (w.heap.size ≤ k ∧ k < w'.heap.size)
def openPost (F : Nat → Prop) (w w' : World) (p : Nat) (r : Int × Nat × Dv) (e : Ending) : Prop :=
  ∃ G, Dev G w' p r.2.2 ∧ Sub F w w' G ∧ Fr F w w' ∧
    if r.1 = 0 then ∃ q, e = .returned (.tuple #[.pointer (some ⟨q, 0, none⟩), .int .i64 0]) ∧ LAt w' q p r.2.1 false ∧ ¬ G q ∧ w.heap.size ≤ q
    else e = .returned (.tuple #[.pointer none, .int .i64 r.1])
/-- What the mending keeps. -/
structure OSt (F : Nat → Prop) (w wr : World) (p q : Nat) (v : Value) (l : List (Int × ByteArray)) (d d' : Dv) (last i : Nat) : Prop where
  dev : ∃ G, Dev G wr p d' ∧ Sub F w wr G ∧ ¬ G q ∧ ∀ k, v.ownBlock = some k → ¬ G k
  fr : Fr F w wr
  lat : LAt wr q p last false
  row : NR wr v l
  ge : w.heap.size ≤ q ∧ ∀ k, v.ownBlock = some k → w.heap.size ≤ k
  run : wrs d (l.take i) = (0, d')
  late : d'.late.length ≤ d.late.length + i
variable {wr wr' : World} {v : Value} {l : List (Int × ByteArray)} {d' d'' : Dv} {i : Nat}
theorem Sub.grow {G : Nat → Prop} (h : Sub F w wr G) (hs : wr.heap.size ≤ wr'.heap.size) : Sub F w wr' G := fun k hk => (h k hk).imp id fun ⟨a, b⟩ => ⟨a, by omega⟩
theorem Sub.up {G : Nat → Prop} (h : Sub F w wr G) (hw : w.heap.size ≤ wr.heap.size) (hs : wr.heap.size ≤ wr'.heap.size) : Sub F w wr' (Dev.Up G wr wr') := fun k hk => by
  rcases hk with hk | hk
  · exact h.grow hs k hk
  · exact .inr ⟨by omega, hk.2⟩
theorem OSt.below (h : OSt F w wr p q v l d d' last i) (hb : Below wr.heap.size wr wr') : OSt F w wr' p q v l d d' last i where
  dev := by
    obtain ⟨G, h1, h2, h3, h4⟩ := h.dev
    exact ⟨G, h1.below hb, h2.grow hb.size, h3, h4⟩
  fr := h.fr.trans (Fr.of_below (F := F) hb) (fun _ _ h => h)
  lat := h.lat.below hb
  row := part_below h.row hb
  ge := h.ge
  run := h.run
  late := h.late
theorem write_late (d : Dv) (i : Int) (b : ByteArray) : (d.write i b).2.late.length ≤ d.late.length + 1 := by
  unfold Dv.write
  split
  · simp
  · split
    · simp [Dv.die]
    · simp
/-- One write more. -/
theorem OSt.next {e : Int} (h : OSt F w wr p q v l d d' last i) (hi : i < l.length) (hw : d'.write l[i].1 l[i].2 = (0, d''))
    {G : Nat → Prop} (hG : Sub F w wr G) (hq : ¬ G q) (hv : ∀ k, v.ownBlock = some k → ¬ G k) (hd : Dev (Dev.Up G wr wr') wr' p d'') (hf : Fr G wr wr') : OSt F w wr' p q v l d d'' last (i + 1) where
  dev := ⟨_, hd, hG.up h.fr.size hf.size, fun hk => by
      rcases hk with hk | hk
      · exact hq hk
      · have := h.lat.lt; omega, fun k hk hu => by
      rcases hu with hu | hu
      · exact hv k hk hu
      · have := (h.row.lt k hk).2; omega⟩
  fr := h.fr.trans hf (fun k hk hg => (hG k hg).elim id fun ⟨a, _⟩ => by omega)
  lat := h.lat.keep hf hq
  row := hf.part h.row hv
  ge := h.ge
  run := by rw [wrs_step h.run hi, hw]
  late := by have := write_late d' l[i].1 l[i].2; rw [hw] at this; have := h.late; simp only at *; omega
theorem box_log (w : World) (p : Nat) : (Instr.box 76 (.agg #[.pointer (some ⟨p, 0, none⟩), .int .u32 0, .bool false])).run Try.prog w = .ok (.pointer (some ⟨w.heap.size, 0, none⟩)) (w.alloc (.cells #[.pointer (some ⟨p, 0, none⟩), .int .u32 0, .bool false] 76)) := by kernel_rfl
theorem openD_small {d : Dv} (h : d.firm.length ≤ 41) : openD d = (1, 0, d) := by unfold openD; rw [if_pos h]
theorem openD_dead {d : Dv} (h : ¬ d.firm.length ≤ 41) (hd : d.dead = true) : openD d = (5, 0, d) := by unfold openD; rw [if_neg h, if_pos hd]
theorem openD_no {d : Dv} (h : ¬ d.firm.length ≤ 41) (hd : d.dead = false) (hm : (markOf (d.now.getD 0 ByteArray.empty)).2.2 = false) : openD d = (0, 0, d) := by unfold openD; rw [if_neg h, if_neg (by simp [hd]), if_pos hm]
theorem openD_none {d : Dv} {n c : Nat} (h : ¬ d.firm.length ≤ 41) (hd : d.dead = false) (hm : markOf (d.now.getD 0 ByteArray.empty) = (n, c, true)) (he : entsOf d n c = none) : openD d = (0, n, d) := by unfold openD; rw [if_neg h, if_neg (by simp [hd]), hm, if_neg (by simp), he]
theorem openD_some {d : Dv} {n c : Nat} {l : List (Int × ByteArray)} (h : ¬ d.firm.length ≤ 41) (hd : d.dead = false) (hm : markOf (d.now.getD 0 ByteArray.empty) = (n, c, true)) (he : entsOf d n c = some l) : openD d = ((andThen (wrs d l) Dv.barrier).1, n, (andThen (wrs d l) Dv.barrier).2) := by unfold openD; rw [if_neg h, if_neg (by simp [hd]), hm, if_neg (by simp), he]
theorem openPost_same (h : Dev F w' p d) (hb : Below w.heap.size w w') {e : Ending} {n : Nat} {c : Int} (hc : c ≠ 0) (he : e = .returned (.tuple #[.pointer none, .int .i64 c])) : openPost F w w' p (c, n, d) e :=
  ⟨F, h, fun k hk => .inl hk, Fr.of_below hb, by rw [if_neg hc]; exact he⟩
theorem ents_len {d : Dv} {n c : Nat} {l : List (Int × ByteArray)} (h : entsOf d n c = some l) : l.length ≤ 40 := by
  unfold entsOf at h
  split at h
  · cases h
  · rename_i hc
    split at h
    · simp only [Option.some.injEq] at h
      rw [← h, List.length_map, List.length_range]; omega
    · cases h
def openR (d : Dv) (n : Nat) : Option (List (Int × ByteArray)) → Int × Nat × Dv
  | none => (0, n, d)
  | some l => ((andThen (wrs d l) Dv.barrier).1, n, (andThen (wrs d l) Dv.barrier).2)
set_option maxHeartbeats 16000000 in
theorem open_calls (h : Dev F w p d) (hl : d.late.length ≤ 900000) : Calls Try.prog 11 #[.pointer (some ⟨p, 0, none⟩)] w fun e w' => openPost F w w' p (openD d) e := by
  have hn2 := h.ok.n2
  have HBL := Lib.hid (blocks_any h)
  have HDE := Lib.hid (dead_any h)
  have H := Lib.hid h
  by_cases hs : d.firm.length ≤ 41
  · rw [openD_small hs]
    clear h
    have hs' : ((d.firm.length : Int) ≤ 41) = True := eq_true (by omega)
    go_enter Try.func11, Try.ntmps11
    go_wp2_with (go_at_call 28; refine HBL.out.mono ?_; rintro e w1 ⟨rfl, rfl⟩)
    go_ret2
    exact openPost_same H.out (Below.refl _ _) (by decide) rfl
  have hs' : ((d.firm.length : Int) ≤ 41) = False := eq_false (by omega)
  by_cases hd : d.dead = true
  · rw [openD_dead hs hd]
    rw [hd] at HDE
    clear h
    go_enter Try.func11, Try.ntmps11
    go_wp2_with (first | (go_at_call 28; refine HBL.out.mono ?_; rintro e w1 ⟨rfl, rfl⟩) | (go_at_call 29; refine HDE.out.mono ?_; rintro e w1 ⟨rfl, rfl⟩))
    go_ret2
    exact openPost_same H.out (Below.refl _ _) (by decide) rfl
  have hd' : d.dead = false := by simpa using hd
  rw [hd'] at HDE
  have hb1 : Below w.heap.size w (w.alloc (.cells #[.pointer (some ⟨p, 0, none⟩), .int .u32 0, .bool false] 76)) := (Below.refl _ _).alloc (Nat.le_refl _) _
  have hq1 := alloc_at w (.cells #[.pointer (some ⟨p, 0, none⟩), .int .u32 0, .bool false] 76)
  have HM := Lib.hid (mark_calls (h.below hb1) hd')
  have HBX := Lib.hid (box_log w p)
  have hqF : ¬ F w.heap.size := fun hf => by have := h.lt _ hf; omega
  obtain ⟨q, hq⟩ : ∃ q, w.heap.size = q := ⟨_, rfl⟩
  have HQ := Lib.hid hq
  rw [hq] at hq1 hqF HBX
  generalize w.alloc (.cells #[.pointer (some ⟨p, 0, none⟩), .int .u32 0, .bool false] 76) = w1 at hb1 hq1 HM HBX
  have HB1 := Lib.hid hb1
  have HQ1 := Lib.hid (show LAt w1 q p 0 false from ⟨hq1, by decide⟩)
  have HQF := Lib.hid hqF
  obtain ⟨⟨n, c, k⟩, hm⟩ : ∃ r, markOf (d.now.getD 0 ByteArray.empty) = r := ⟨_, rfl⟩
  rw [hm] at HM
  have hlt : n < 4294967296 ∧ c < 4294967296 := by
    unfold markOf at hm
    split at hm
    · simp only [Prod.mk.injEq] at hm
      rw [← hm.1, ← hm.2.1]
      exact ⟨get4_lt _, get4_lt _⟩
    · simp only [Prod.mk.injEq] at hm
      omega
  obtain ⟨hn, hc⟩ := hlt
  have HS := Lib.hid hs
  clear h hb1 hq1 hqF hq
  cases k with
  | false =>
    rw [openD_no hs hd' (by rw [hm])]
    clear hm hs hd
    go_enter Try.func11, Try.ntmps11
    go_wp2_with (first | (go_at_call 28; refine HBL.out.mono ?_; rintro e w2 ⟨rfl, rfl⟩) | (go_at_call 29; refine HDE.out.mono ?_; rintro e w2 ⟨rfl, rfl⟩) | ((with_reducible refine gate_dst (N := 27) rfl ?_); refine wpList_val rfl rfl (execOp_box rfl rfl HBX.out) ?_) | (go_at_call 30; refine HM.out.mono ?_; rintro e w2 ⟨rfl, hb⟩; have HB2 := Lib.hid hb; clear hb))
    go_ret2
    exact ⟨F, (H.out.below HB1.out).below HB2.out, fun k hk => .inl hk, Fr.of_below (HB1.out.trans (HB2.out.mono HB1.out.size)), by rw [if_pos rfl]; exact ⟨q, rfl, HQ1.out.below HB2.out, HQF.out, Nat.le_of_eq HQ.out⟩⟩
  | true =>
    have HE := Lib.hid (fun W (hW : Dev F W p d) => entries_calls hW hd' hn c hc (by omega))
    obtain ⟨o, ho⟩ : ∃ o, entsOf d n c = o := ⟨_, rfl⟩
    rw [ho] at HE
    have hr : openD d = openR d n o := by
      cases o with
      | none => exact openD_none hs hd' hm ho
      | some l => exact openD_some hs hd' hm ho
    have HL40 := Lib.hid (fun l (e : o = some l) => ents_len (ho.trans e))
    rw [hr]
    clear hm hs hd ho hr
    go_enter Try.func11, Try.ntmps11
    go_wp2_with (first | (go_at_call 28; refine HBL.out.mono ?_; rintro e w2 ⟨rfl, rfl⟩) | (go_at_call 29; refine HDE.out.mono ?_; rintro e w2 ⟨rfl, rfl⟩) | ((with_reducible refine gate_dst (N := 27) rfl ?_); refine wpList_val rfl rfl (execOp_box rfl rfl HBX.out) ?_) | (go_at_call 30; refine HM.out.mono ?_; rintro e w2 ⟨rfl, hb⟩; have HB2 := Lib.hid hb; clear hb; have HQ2 := Lib.hid (HQ1.out.below HB2.out); obtain ⟨x0, y0, x1, y1, x2, y2⟩ := blk3 HQ2.out.1))
    have hf3 : Fr (· = q) w2 (w2.setCell ⟨q, 1, none⟩ (.int .u32 (n : Int))) := Fr.setCell (F := (· = q)) w2 (p := ⟨q, 1, none⟩) rfl (.int .u32 (n : Int))
    have hq3 : LAt (w2.setCell ⟨q, 1, none⟩ (.int .u32 (n : Int))) q p n false := ⟨by simpa using set_at HQ2.out.1 1 (.int .u32 (n : Int)), hn⟩
    have HD3 := Lib.hid (((H.out.below HB1.out).below HB2.out).keep hf3 (fun k hk e => HQF.out (by have e' : k = q := e; rw [← e']; exact hk)))
    have HQ3 := Lib.hid hq3
    have HB3 := Lib.hid ((HB1.out.trans (HB2.out.mono HB1.out.size)).trans (hf3.below (by have := HB1.out.size; have := HB2.out.size; omega) (fun k hk => by have e : k = q := hk; rw [e, ← HQ.out]; exact Nat.le_refl _)))
    clear x0 y0 x1 y1 x2 y2 hf3 hq3 HQ2 HM HQ1
    generalize w2.setCell ⟨q, 1, none⟩ (.int .u32 (n : Int)) = w3 at HD3 HQ3 HB3 ⊢
    clear HB1 HB2
    refine (HE.out w3 HD3.out).mono ?_
    cases o with
    | none =>
      rintro e w4 ⟨he, hb⟩
      obtain rfl := (show e = .returned (.tuple #[.slice none 0 0, .bool false]) from he)
      have HB4 := Lib.hid hb
      clear hb he
      go_wp2
      go_ret2
      exact (show openPost F w w4 p (0, n, d) _ from ⟨F, HD3.out.below HB4.out, fun k hk => .inl hk, Fr.of_below (HB3.out.trans (HB4.out.mono HB3.out.size)), by rw [if_pos rfl]; exact ⟨q, rfl, HQ3.out.below HB4.out, HQF.out, Nat.le_of_eq HQ.out⟩⟩)
    | some l =>
      rintro e w4 ⟨⟨a, cc, rfl, hnr, hge⟩, hb⟩
      have hl40 := HL40.out l rfl
      have hs0 : OSt F w w4 p q (.slice a l.length cc) l d d n 0 :=
        ⟨⟨F, HD3.out.below hb, fun k hk => .inl hk, HQF.out, fun k hk hf => by have := hge k hk; have := HD3.out.lt k hf; omega⟩, Fr.of_below (HB3.out.trans (hb.mono HB3.out.size)), HQ3.out.below hb, hnr, ⟨Nat.le_of_eq HQ.out, fun k hk => by have := hge k hk; have := HB3.out.size; omega⟩, rfl, Nat.le_refl _⟩
      have HS0 := Lib.hid hs0
      clear hnr hge hb hs0 HD3 HQ3 HB3 HE HL40 HQF
      go_wp2_with fail
      go_loopw [51] (fun s51 wr => ∃ (i : Nat) (d' : Dv), i ≤ l.length ∧ s51 = .int .i64 (i : Int) ∧ Hid (OSt F w wr p q (.slice a l.length cc) l d d' n i)) (fun s51 _ => l.length - (intOf s51).toNat)
      case atStart => exact ⟨0, d, Nat.zero_le _, by simp, HS0⟩
      case round =>
        clear HS0
        obtain ⟨i, d', hi, rfl, HO⟩ := hrel
        by_cases hil : i < l.length
        · have hil' : ((i : Int) < (l.length : Int)) = True := eq_true (by omega)
          obtain ⟨g, c', e1, hrg⟩ := nrow_get HO.out.row i hil
          cases e1
          obtain ⟨x, hx⟩ : ∃ x, l[i] = x := ⟨_, rfl⟩
          rw [hx] at hrg
          have HLN := Lib.hid (run_loadN wr g (i * 2) x hrg)
          obtain ⟨w6, hr6, hp6, hb6⟩ := fresh_sn wr x
          have HST6 := Lib.hid hr6
          have HO6 := Lib.hid (HO.out.below hb6)
          have HX := Lib.hid (fun dd (e : d'.write x.1 x.2 = dd) => (show d'.write l[i].1 l[i].2 = dd by rw [hx]; exact e))
          have HIL := Lib.hid hil
          obtain ⟨gx, hgx⟩ : ∃ k, wr.heap.size = k := ⟨_, rfl⟩
          rw [hgx] at hp6
          have HGX := Lib.hid hgx
          obtain ⟨c0, c1⟩ := hp6.cells
          obtain ⟨G, hg1, hg2, hg3, hg4⟩ := HO6.out.dev
          have HWR := Lib.hid (write_any hg1 x.1 x.2 (by have := HO.out.late; omega))
          have HG := Lib.hid (And.intro hg2 (And.intro hg3 hg4))
          obtain ⟨⟨ew, dw⟩, hdw⟩ : ∃ r, d'.write x.1 x.2 = r := ⟨_, rfl⟩
          rw [hdw] at HWR
          have HDW := Lib.hid (HX.out _ hdw)
          obtain ⟨xa, xs⟩ := x
          clear hrg hr6 hp6 hb6 hx hgx hg1 hg2 hg3 hg4 hdw HX
          go_wp2_with (first | ((with_reducible refine gate_dst (N := 54) rfl ?_); refine wpList_val rfl rfl (execOp_load rfl rfl HLN.out) ?_) | ((with_reducible refine gate_store (p := 11) rfl ?_); refine wpList_none rfl rfl (execOp_store rfl rfl rfl HST6.out) ?_; refine stop_here ?_))
          refine Lib.hid ?_
          rw [HGX.out]
          go_wp2_with fail
          refine HWR.out.mono ?_
          rintro e w7 ⟨rfl, h1, h2⟩
          have H1 := Lib.hid h1
          have H2 := Lib.hid h2
          clear h1 h2 HWR c0 c1
          by_cases he0 : ew = 0
          · subst he0
            go_wp2
            go_roundw
            case rel => exact ⟨i + 1, dw, by have := HIL.out; omega, by first | rfl | go_num, Lib.hid (OSt.next (e := 0) HO6.out HIL.out HDW.out HG.out.1 HG.out.2.1 HG.out.2.2 H1.out H2.out)⟩
            case measure => have := HIL.out; simp [intOf]; omega
          · have he0' : (ew = 0) = False := eq_false he0
            have hst : wrs d l = (ew, dw) := wrs_stop (i := i + 1) (by rw [wrs_step HO.out.run HIL.out]; exact HDW.out) he0
            have HRES := Lib.hid (show (andThen (wrs d l) Dv.barrier) = (ew, dw) by rw [hst]; unfold andThen; rw [if_neg he0])
            clear hst
            go_wp2
            go_ret2
            refine (show openPost F w w7 p (openR d n (some l)) _ from ?_)
            rw [show openR d n (some l) = ((andThen (wrs d l) Dv.barrier).1, n, (andThen (wrs d l) Dv.barrier).2) from rfl, HRES.out]
            exact ⟨_, H1.out, HG.out.1.up HO6.out.fr.size H2.out.size, HO6.out.fr.trans H2.out (fun k hk hg => (HG.out.1 k hg).elim id fun ⟨a, _⟩ => by omega), by rw [if_neg he0]; rfl⟩
        · have hil' : ((i : Int) < (l.length : Int)) = False := eq_false (by omega)
          obtain ⟨G, hg1, hg2, hg3, hg4⟩ := HO.out.dev
          have HBA := Lib.hid (barrier_any hg1)
          have hrun : wrs d l = (0, d') := by have := HO.out.run; rw [List.take_of_length_le (by omega)] at this; exact this
          have HRES := Lib.hid (show (andThen (wrs d l) Dv.barrier) = d'.barrier by rw [hrun]; rfl)
          have HG := Lib.hid (And.intro hg2 hg3)
          clear hg1 hg2 hg3 hg4 hrun
          obtain ⟨⟨eb, db⟩, hbr⟩ : ∃ r, d'.barrier = r := ⟨_, rfl⟩
          rw [hbr] at HBA HRES
          clear hbr
          by_cases he0 : eb = 0
          · subst he0
            go_wp2_with fail
            refine HBA.out.mono ?_
            rintro e w5 ⟨rfl, h1, h2⟩
            have H1 := Lib.hid h1
            have H2 := Lib.hid h2
            clear h1 h2 HBA
            go_wp2
            go_ret2
            rw [show openR d n (some l) = ((andThen (wrs d l) Dv.barrier).1, n, (andThen (wrs d l) Dv.barrier).2) from rfl, HRES.out]
            exact ⟨_, H1.out, HG.out.1.up HO.out.fr.size H2.out.size, HO.out.fr.trans H2.out (fun k hk hg => (HG.out.1 k hg).elim id fun ⟨a, _⟩ => by omega), by rw [if_pos rfl]; exact ⟨q, rfl, HO.out.lat.keep H2.out HG.out.2, fun hu => by
              rcases hu with hu | hu
              · exact HG.out.2 hu
              · have := HO.out.lat.lt; omega, HO.out.ge.1⟩⟩
          · have he0' : (eb = 0) = False := eq_false he0
            go_wp2_with fail
            refine HBA.out.mono ?_
            rintro e w5 ⟨rfl, h1, h2⟩
            have H1 := Lib.hid h1
            have H2 := Lib.hid h2
            clear h1 h2 HBA
            go_wp2
            go_ret2
            rw [show openR d n (some l) = ((andThen (wrs d l) Dv.barrier).1, n, (andThen (wrs d l) Dv.barrier).2) from rfl, HRES.out]
            exact ⟨_, H1.out, HG.out.1.up HO.out.fr.size H2.out.size, HO.out.fr.trans H2.out (fun k hk hg => (HG.out.1 k hg).elim id fun ⟨a, _⟩ => by omega), by rw [if_neg he0]; rfl⟩
end Go.Proofs.Ytmdojgkgohmghaa.Wal
namespace Go.Proofs.Ytmdojgkgohmghaa.Wal
open Go.RowKit Go.Own Go.Blk Go.DevL Go.XdrL Go.WalL Go.OpsL Go.Maps Go.Proofs.Ytmdojgkgohmghaa.P04 Go.Proofs.Ytmdojgkgohmghaa.Xdr Go.Proofs.YtmdojgkgohmghaaW.PrintLast Go.Proofs.YtmdojgkgohmghaaW.PrintWords
open Go.Proofs.Ytmdojgkgohmghaa.Dev hiding stop_here execOp_build execOp_alloc execOp_store execOp_load execOp_buildSlice execOp_makeSlice execOp_box execOp_copy execOp_append wpList_val wpList_none Up
set_option linter.unusedVariables false
set_option linter.unusedSimpArgs false
set_option maxRecDepth 100000
variable {F : Nat → Prop} {w w' : World} {p q : Nat} {d : Dv} {last : Nat} {dead : Bool}
/-! ### a set of numbers, as a map -/
def seenD (l : List Int) : DataW Unit := l.foldl (fun D x => D.put (.int .i64 x) (.lit (.bool true))) (.map [])
theorem seenD_map : ∀ (l : List Int) (D : DataW Unit), IsMap D → IsMap (l.foldl (fun D x => D.put (.int .i64 x) (.lit (.bool true))) D)
  | [], D, h => h
  | x :: l, D, h => seenD_map l _ (h.put _ _)
theorem seenD_snoc (l : List Int) (x : Int) : seenD (l ++ [x]) = (seenD l).put (.int .i64 x) (.lit (.bool true)) := by simp [seenD]
theorem seen_gen (x : Int) : ∀ (l : List Int) (D : DataW Unit), IsMap D → (l.foldl (fun D x => D.put (.int .i64 x) (.lit (.bool true))) D).atKey (.int .i64 x) (.lit (.bool false)) = if x ∈ l then .lit (.bool true) else D.atKey (.int .i64 x) (.lit (.bool false))
  | [], D, h => by simp
  | y :: l, D, h => by
    rw [List.foldl_cons, seen_gen x l _ (h.put _ _)]
    by_cases h1 : x ∈ l
    · simp [h1]
    · by_cases h2 : x = y
      · subst h2
        rw [if_neg h1, atKey_put_same h (by trivial), if_pos (by simp)]
      · rw [if_neg h1, atKey_put_other (by intro e; apply h2; simpa using e), if_neg (by simp [h1, h2])]
theorem seen_at (l : List Int) (x : Int) : (seenD l).atKey (.int .i64 x) (.lit (.bool false)) = .lit (.bool (decide (x ∈ l))) := by
  unfold seenD
  rw [seen_gen x l _ ⟨[], rfl⟩]
  by_cases h : x ∈ l
  · simp [h]
  · rw [if_neg h]
    simp [h]
    rfl
def Seen (w : World) (g n : Nat) (l : List Int) : Prop := w.ownsMap Try.prog 3 (plainElem Try.prog 4) g n (seenD l)
theorem zero_bool (w : World) : (zeroValue 4).run Try.prog w = .ok (.bool false) w := by kernel_rfl
theorem wf_small {x : Int} (h0 : 0 ≤ x) (h1 : x < 100000) : (Lit.int .i64 x).wf = true := by
  have e1 : IntKind.i64.min = -9223372036854775808 := by decide
  have e2 : IntKind.i64.max = 9223372036854775807 := by decide
  simp only [Lit.wf, e1, e2, Bool.and_eq_true, decide_eq_true_eq]
  omega
theorem bool_inv {v : Value} {b : Bool} {ps : List MemPlace} (h : plainElem (H := Unit) Try.prog 4 v = some (.lit (.bool b), ps)) : v = .bool b := by
  unfold plainElem at h
  rw [Try.underlying4] at h
  cases v <;> simp at h
  rw [h.1]
/-- A look into the set. -/
theorem Seen.look {g n : Nat} {l : List Int} (h : Seen w g n l) (x : Int) (h0 : 0 ≤ x) (h1 : x < 100000) : (Instr.lookup 99 (.map (some g)) (.int .i64 x) false).run Try.prog w = .ok (.bool (decide (x ∈ l))) w := by
  have hk := keyOf_int_mk (P := Try.prog) Try.underlying3 (wf_small h0 h1)
  obtain ⟨v, ps, hr, hv⟩ := h.lookup (int_keyed Try.underlying3) Try.underlying99 (zero_bool w) (plainElem_bool Try.underlying4 false) hk
  rw [seen_at] at hv
  rw [bool_inv hv] at hr
  exact hr
theorem Seen.keep {G : Nat → Prop} {g n : Nat} {l : List Int} (h : Seen w g n l) (hf : Fr G w w') (hG : ¬ G g) : Seen w' g n l := by
  obtain ⟨es, clock, hb, r⟩ := h
  exact ⟨es, clock, hf.at hb hG, r⟩
theorem Seen.below {g n : Nat} {l : List Int} (h : Seen w g n l) (hb : Below w.heap.size w w') : Seen w' g n l := h.keep (Fr.of_below (F := fun _ => False) hb) id
theorem Seen.lt {g n : Nat} {l : List Int} (h : Seen w g n l) : g < w.heap.size := World.ownsMap.lt h
/-! ### right -/
def ok1 (size : Int) (x : Int × ByteArray) : Prop := 0 ≤ x.1 ∧ x.1 < size ∧ x.2.size ≤ 248
structure Upto (size : Int) (b : List (Int × ByteArray)) (i : Nat) : Prop where
  ok : ∀ x ∈ b.take i, ok1 size x
  nd : ((b.take i).map (·.1)).Nodup
variable {size : Int} {b : List (Int × ByteArray)} {i : Nat}
theorem Upto.fit (h : Upto size b b.length) (h1 : 1 ≤ b.length) (h2 : b.length ≤ 40) : fit size b :=
  ⟨h1, h2, fun x hx => h.ok x (by rw [List.take_length]; exact hx), by have := h.nd; rw [List.take_length] at this; exact this⟩
theorem fit_bad (hi : i < b.length) (h : ¬ ok1 size b[i]) : ¬ fit size b := fun hf => h (hf.2.2.1 _ (List.getElem_mem hi))
theorem take_snoc (hi : i < b.length) : b.take (i + 1) = b.take i ++ [b[i]] := List.take_succ_eq_append_getElem hi
theorem fit_twice (hi : i < b.length) (h : b[i].1 ∈ (b.take i).map (·.1)) : ¬ fit size b := fun hf => by
  have h1 := hf.2.2.2
  have h2 : ((b.take (i + 1)).map (·.1)).Nodup := List.Nodup.sublist ((List.take_sublist _ _).map _) h1
  rw [take_snoc hi, List.map_append, List.nodup_append] at h2
  exact h2.2.2 _ h _ (by simp) rfl
theorem Upto.next (h : Upto size b i) (hi : i < b.length) (h1 : ok1 size b[i]) (h2 : b[i].1 ∉ (b.take i).map (·.1)) : Upto size b (i + 1) where
  ok x hx := by
    rw [take_snoc hi, List.mem_append, List.mem_singleton] at hx
    rcases hx with hx | rfl
    · exact h.ok x hx
    · exact h1
  nd := by
    rw [take_snoc hi, List.map_append, List.nodup_append]
    refine ⟨h.nd, by simp, fun a ha c hc e => ?_⟩
    simp only [List.map_cons, List.map_nil, List.mem_singleton] at hc
    rw [e, hc] at ha
    exact h2 ha
theorem Upto.begin (size : Int) (b : List (Int × ByteArray)) : Upto size b 0 := ⟨fun x hx => by simp at hx, by simp⟩
set_option maxHeartbeats 16000000 in
theorem right_calls (h : LAt w q p last dead) (hd : Dev F w p d) (A : Option Addr) (cap : Nat) (hA : ArrAt w A ncells 2 b) (hbl : b.length ≤ 140737488355328) : Calls Try.prog 34 #[.pointer (some ⟨q, 0, none⟩), .slice A b.length cap] w fun e w' =>
    e = .returned (.bool (decide (fit (sizeL d) b))) ∧ Below w.heap.size w w' := by
  have hmm := @run_makeMap Try.prog
  by_cases hcc : b.length < 1 ∨ 40 < b.length
  · have hnf : ¬ fit (sizeL d) b := fun hf => by have h1 := hf.1; have h2 := hf.2.1; omega
    rw [decide_eq_false hnf]
    clear h hd hnf
    go_enter Try.func34, Try.ntmps34
    by_cases h1 : b.length < 1
    · have h1' : ((b.length : Int) < 1) = True := eq_true (by omega)
      go_wp2
      go_ret
      exact ⟨rfl, Below.refl _ _⟩
    · have h1' : ((b.length : Int) < 1) = False := eq_false (by omega)
      have h2' : ((40 : Int) < (b.length : Int)) = True := eq_true (by omega)
      go_wp2
      go_ret
      exact ⟨rfl, Below.refl _ _⟩
  · have h1 : ((b.length : Int) < 1) = False := eq_false (by omega)
    have h2 : ((40 : Int) < (b.length : Int)) = False := eq_false (by omega)
    have hb1 : 1 ≤ b.length := by omega
    have hb2 : b.length ≤ 40 := by omega
    obtain ⟨f, hf⟩ : ∃ f, decide (fit (sizeL d) b) = f := ⟨_, rfl⟩
    have HF := Lib.hid (show (Upto (sizeL d) b b.length → f = true) ∧ (∀ i (hi : i < b.length), ¬ ok1 (sizeL d) b[i] → f = false) ∧ (∀ i (hi : i < b.length), b[i].1 ∈ (b.take i).map (·.1) → f = false) from
      ⟨fun hu => hf ▸ decide_eq_true (hu.fit hb1 hb2), fun i hi hn => hf ▸ decide_eq_false (fit_bad hi hn), fun i hi hn => hf ▸ decide_eq_false (fit_twice hi hn)⟩)
    rw [hf]
    have hsz : sizeL d = (d.firm.length : Int) - 41 := rfl
    have hn2 := hd.ok.n2
    obtain ⟨sz, hz⟩ : ∃ sz, sizeL d = sz := ⟨_, rfl⟩
    rw [hz] at HF
    have hsl : sz ≤ 1000 := by omega
    have HS := Lib.hid (fun W (hb : Below w.heap.size w W) => (show Calls Try.prog 17 #[.pointer (some ⟨q, 0, none⟩)] W fun e w' => e = .returned (.int .i64 sz) ∧ W = w' by rw [← hz, hsz]; exact size_calls (h.below hb) (hd.below hb)))
    have HA := Lib.hid hA
    clear h hd hf hsz hz hcc hA hn2
    go_enter Try.func34, Try.ntmps34
    go_wp2_with fail
    go_loopw [19] (fun s19 wr => ∃ i : Nat, i ≤ b.length ∧ s19 = .int .i64 (i : Int) ∧ Hid (Upto sz b i) ∧ Hid (Seen wr w.heap.size i ((b.take i).map (·.1))) ∧ Hid (Below w.heap.size w wr)) (fun s19 _ => b.length - (intOf s19).toNat)
    case atStart => exact ⟨0, Nat.zero_le _, by simp, Lib.hid (Upto.begin _ _), Lib.hid (World.ownsMap_made _ _ _ _), Lib.hid ((Below.refl _ _).alloc (Nat.le_refl _) _)⟩
    case round =>
      obtain ⟨i, hi, rfl, HU, HM, HB⟩ := hrel
      by_cases hil : i < b.length
      · have hil' : ((i : Int) < (b.length : Int)) = True := eq_true (by omega)
        obtain ⟨blk, off, rfl, hbw, hcs0⟩ := HA.out i hil
        obtain ⟨x, hx⟩ : ∃ x, b[i] = x := ⟨_, rfl⟩
        rw [hx] at hcs0
        have hrg : wr.rangeAt blk (off + i * 2) (ncells x) := fun j u hu => (HB.out.cell (p := ⟨blk, _, none⟩) hbw).trans (hcs0 j u hu)
        have HLN := Lib.hid (run_loadN wr blk (off + i * 2) x hrg)
        obtain ⟨w6, hr6, hp6, hb6⟩ := fresh_sn wr x
        have HST6 := Lib.hid hr6
        have HB6 := Lib.hid (HB.out.trans (hb6.mono HB.out.size))
        have HM6 := Lib.hid (HM.out.below hb6)
        have HIL := Lib.hid (show ∃ hi : i < b.length, b[i] = x from ⟨hil, hx⟩)
        obtain ⟨gx, hgx⟩ : ∃ k, wr.heap.size = k := ⟨_, rfl⟩
        rw [hgx] at hp6
        have HGX := Lib.hid hgx
        obtain ⟨c0, c1⟩ := hp6.cells
        obtain ⟨xa, xs⟩ := x
        have hms : w.heap.size < wr.heap.size := HM.out.lt
        clear hrg hr6 hp6 hb6 hx hgx hcs0 hil
        go_wp2_with (first | ((with_reducible refine gate_dst (N := 22) rfl ?_); refine wpList_val rfl rfl (execOp_load rfl rfl HLN.out) ?_) | ((with_reducible refine gate_store (p := 7) rfl ?_); refine wpList_none rfl rfl (execOp_store rfl rfl rfl HST6.out) ?_; refine stop_here ?_))
        refine Lib.hid ?_
        rw [HGX.out]
        go_wp2_with fail
        have HDN := Lib.hid (fun n => HB6.out.trans ((Drawn0.mk ⟨n, rfl⟩ : Drawn0 w6 (w6.drewN n)).below.mono HB6.out.size))
        have HSQ := Lib.hid (fun n => Calls.quiet_of_same (w := w6) (n := n) (v := .int .i64 sz) ((HS.out (w6.drewN n) (HDN.out n)).mono fun e w' ⟨h1, h2⟩ => ⟨h1, h2.symm⟩))
        by_cases hA : xa < 0
        · have tA : decide (xa < 0) = true := decide_eq_true hA
          have hf : f = false := by obtain ⟨hi, hx⟩ := HIL.out; exact HF.out.2.1 i hi (by rw [hx]; intro h; have := h.1; simp only at this; omega)
          subst hf
          go_quiet ((go_at_call 17; exact HSQ.out _))
          go_wp2
          go_ret
          exact ⟨rfl, HDN.out _⟩
        have tA : decide (xa < 0) = false := decide_eq_false hA
        by_cases hB : sz ≤ xa
        · have tB : decide (sz ≤ xa) = true := decide_eq_true hB
          have hf : f = false := by obtain ⟨hi, hx⟩ := HIL.out; exact HF.out.2.1 i hi (by rw [hx]; intro h; have := h.2.1; simp only at this; omega)
          subst hf
          go_quiet ((go_at_call 17; exact HSQ.out _))
          go_wp2
          go_ret
          exact ⟨rfl, HDN.out _⟩
        have tB : decide (sz ≤ xa) = false := decide_eq_false hB
        have hlook : ∀ n, (Instr.lookup 99 (.map (some w.heap.size)) (.int .i64 xa) false).run Try.prog (w6.drewN n) = .ok (.bool (decide (xa ∈ (b.take i).map (·.1)))) (w6.drewN n) := fun n => (HM6.out.below (Drawn0.mk ⟨n, rfl⟩ : Drawn0 w6 (w6.drewN n)).below).look xa (by omega) (by omega)
        by_cases hC : xa ∈ (b.take i).map (·.1)
        · rw [decide_eq_true hC] at hlook
          have hf : f = false := by obtain ⟨hi, hx⟩ := HIL.out; exact HF.out.2.2 i hi (by rw [hx]; exact hC)
          subst hf
          clear hC
          go_quiet ((go_at_call 17; exact HSQ.out _))
          go_wp2
          go_ret
          exact ⟨rfl, HDN.out _⟩
        rw [decide_eq_false hC] at hlook
        have HC := Lib.hid hC
        clear hC
        by_cases hD : 248 < xs.size
        · have tD : decide ((248 : Int) < (xs.size : Int)) = true := decide_eq_true (by omega)
          have hf : f = false := by obtain ⟨hi, hx⟩ := HIL.out; exact HF.out.2.1 i hi (by rw [hx]; intro h; have := h.2.2; simp only at this; omega)
          subst hf
          go_quiet ((go_at_call 17; exact HSQ.out _))
          go_wp2
          go_ret
          exact ⟨rfl, HDN.out _⟩
        have tD : decide ((248 : Int) < (xs.size : Int)) = false := decide_eq_false (by omega)
        go_quiet ((go_at_call 17; exact HSQ.out _))
        go_wp2_with (at_mapUpdate; refine stop_here ?_)
        refine Lib.hid ?_
        refine wpList_mapUpdate_own _ rfl _ _ _ 99 rfl 3 4 (int_keyed Try.underlying3) Try.underlying99 (plainElem Try.prog 4) w.heap.size i _ rfl (HM6.out.below (Drawn0.mk ⟨_, rfl⟩ : Drawn0 w6 (w6.drewN _)).below) (by unfold maxLen; omega) _ _ (.int .i64 xa) rfl rfl (keyOf_int_mk Try.underlying3 (wf_small (by omega) (by omega))) (.lit (.bool true)) [] (plainElem_bool Try.underlying4 true) ?_
        intro w8 hown8 hgrow8
        have HO8 := Lib.hid hown8
        have HG8 := Lib.hid hgrow8
        clear hown8 hgrow8
        go_wp2
        go_roundw
        case rel =>
          obtain ⟨hi1, hx1⟩ := HIL.out
          refine ⟨i + 1, by omega, by first | rfl | go_num, Lib.hid (HU.out.next hi1 (by rw [hx1]; exact ⟨by simp only; omega, by simp only; omega, by simp only; omega⟩) (by rw [hx1]; exact HC.out)), Lib.hid ?_, Lib.hid ?_⟩
          · rw [take_snoc hi1, List.map_append, hx1]
            show World.ownsMap _ _ _ _ _ _ (seenD _)
            rw [show ((b.take i).map (·.1) ++ [(xa, xs)].map (·.1)) = (b.take i).map (·.1) ++ [xa] from rfl, seenD_snoc]
            exact HO8.out
          · exact (HDN.out _).grown HG8.out (HDN.out _).size (fun j hj => by cases hj; exact Nat.le_refl _)
        case measure => obtain ⟨hi1, hx1⟩ := HIL.out; simp [intOf]; omega
      · have hil' : ((i : Int) < (b.length : Int)) = False := eq_false (by omega)
        obtain rfl : i = b.length := by omega
        go_wp2
        go_ret
        exact ⟨by rw [HF.out.1 HU.out]; rfl, HB.out⟩
end Go.Proofs.Ytmdojgkgohmghaa.Wal
