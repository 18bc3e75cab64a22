/- Layer xdr: an item is written, and its bytes by the document. -/
import Derived.Test.YtjmdjikjelhbmaaDoorXdrItems
namespace Go.Proofs.YtjmdjikjelhbmaaDoor.Xdr
open Go.RowKit Go.Own Go.XdrL Go.Blk Go.OpsL Go.Sees Go.Proofs.YtjmdjikjelhbmaaDoorW.PrintLast Go.Proofs.YtjmdjikjelhbmaaDoorW.PrintWords
set_option linter.unusedVariables false
set_option linter.unusedSimpArgs false
variable {W w w' w1 : World} {B p q : Nat} {r r' : Rd} {b b' : ByteArray} {F : Nat → Prop}
theorem Wr.from (h0 : Wr F w p b) (h1 : Fr F w w1) (h : Wr (Up F w1 w') w' p b') (h2 : Fr F w1 w') : Wr (Up F w w') w' p b' ∧ Fr F w w' := by
  refine ⟨h.mono (fun k hk => ?_) (fun k hk => ?_), h1.trans h2 (fun _ _ h => h)⟩
  · have a := h1.size
    rcases hk with hk | hk
    · exact .inl hk
    · exact .inr ⟨by omega, hk.2⟩
  · have a := h1.size
    have c := h2.size
    rcases hk with hk | hk
    · have := h0.lt k hk; omega
    · exact hk.2
theorem icells_blk {g : Nat} {y : SItem} (h : w.heap[g]? = some (.cells #[.int .i64 y.x.k, .int .u64 (y.x.n : Int), .string y.x.s, .slice y.A y.len y.cap] 39 (0, 0))) : w.cell? ⟨g, 0, none⟩ = some (.int .i64 y.x.k) ∧ w.cell? ⟨g, 1, none⟩ = some (.int .u64 (y.x.n : Int)) ∧ w.cell? ⟨g, 2, none⟩ = some (.string y.x.s) ∧ w.cell? ⟨g, 3, none⟩ = some (.slice y.A y.len y.cap) := by
  obtain ⟨a, _, c, _, d, _, e, _⟩ := blk4 h
  exact ⟨a, c, d, e⟩
def WritePost (F : Nat → Prop) (w : World) (p : Nat) (b : ByteArray) (e : Ending) (w' : World) : Prop := e = .returned (.tuple #[]) ∧ Wr (Up F w w') w' p b ∧ Fr F w w'
set_option maxHeartbeats 4000000 in
theorem write_fr (h : Wr F w p b) (y : SItem) (h1 : y.x.n < 18446744073709551616) (h2 : y.x.l.length = y.len) (h3 : U32s w y.A y.x.l) (h4 : ∀ z ∈ y.x.l, z < 4294967296) (h5 : 0 < y.len → ∀ q, y.A = some q → ¬ F q.block) (h6 : Small y)
    (hb : b.size ≤ 900000000) (hb4 : b.size % 4 = 0) : Calls Tryd.prog 16 #[.pointer (some ⟨p, 0, none⟩), .agg #[.int .i64 y.x.k, .int .u64 (y.x.n : Int), .string y.x.s, .slice y.A y.len y.cap]] w (WritePost F w p (b ++ y.x.b)) := by
  obtain ⟨s1, s2⟩ := h6
  have HW := Lib.hid h
  have HL := Lib.hid h2
  have HU := Lib.hid h3
  have HX := Lib.hid h4
  have HF := Lib.hid h5
  have HB := Lib.hid hb
  have HB4 := Lib.hid hb4
  have hA := Fr.alloc F w (.cells #[.int .i64 y.x.k, .int .u64 (y.x.n : Int), .string y.x.s, .slice y.A y.len y.cap] 39)
  have HW1 := Lib.hid (h.below ((Below.refl _ _).alloc (Nat.le_refl _) (.cells #[.int .i64 y.x.k, .int .u64 (y.x.n : Int), .string y.x.s, .slice y.A y.len y.cap] 39)))
  have HU1 := Lib.hid (ArrAt.below h3 ((Below.refl _ _).alloc (Nat.le_refl _) (.cells #[.int .i64 y.x.k, .int .u64 (y.x.n : Int), .string y.x.s, .slice y.A y.len y.cap] 39)))
  obtain ⟨x0, x1, x2, x3⟩ := icells_blk (alloc_at w (.cells #[.int .i64 y.x.k, .int .u64 (y.x.n : Int), .string y.x.s, .slice y.A y.len y.cap] 39))
  have HA := Lib.hid hA
  clear h h2 h3 h4 h5 hb hb4 hA
  generalize hw1 : w.alloc (.cells #[.int .i64 y.x.k, .int .u64 (y.x.n : Int), .string y.x.s, .slice y.A y.len y.cap] 39) = w1 at HW1 HU1 HA x0 x1 x2 x3
  have hn := h1
  by_cases k0 : y.x.k.tmod 5 = 0
  · have e : y.x.b = num4 (y.x.n % 4294967296) := by simp [Itm.b, k0]
    have e1 := Lib.hid (show (y.x.n : Int) % 4294967296 = ((y.x.n % 4294967296 : Nat) : Int) by omega)
    rw [e]
    clear e
    go_enter Tryd.func16, Tryd.ntmps16
    go_wp2_with fail
    rw [e1.out]
    refine (number_any HW1.out _ (Nat.mod_lt _ (by decide)) (by have := HB.out; omega)).mono ?_
    rintro e w2 ⟨rfl, g1, g2⟩
    have H12 := Lib.hid (HW.out.from HA.out g1 g2)
    clear g1 g2 x0 x1 x2 x3 e1 hw1
    go_wp2
    go_end0
    exact ⟨rfl, H12.out⟩
  by_cases k1 : y.x.k.tmod 5 = 1
  · have e : y.x.b = long8 y.x.n := by simp [Itm.b, k1]
    rw [e]
    clear e k0
    go_enter Tryd.func16, Tryd.ntmps16
    go_wp2_with fail
    refine (long_any HW1.out _ hn (by have := HB.out; omega)).mono ?_
    rintro e w2 ⟨rfl, g1, g2⟩
    have H12 := Lib.hid (HW.out.from HA.out g1 g2)
    clear g1 g2 x0 x1 x2 x3 hw1
    go_wp2
    go_end0
    exact ⟨rfl, H12.out⟩
  by_cases k2 : y.x.k.tmod 5 = 2
  · have e : y.x.b = flag4 (y.x.n % 2 == 1) := by simp [Itm.b, k2]
    have e1 := Lib.hid (show ((y.x.n : Int) % 2 == 1) = (y.x.n % 2 == 1) by rw [Bool.eq_iff_iff, beq_iff_eq, beq_iff_eq]; omega)
    rw [e]
    clear e k0 k1
    go_enter Tryd.func16, Tryd.ntmps16
    go_wp2_with fail
    rw [e1.out]
    refine (flag_any HW1.out _ (by have := HB.out; omega)).mono ?_
    rintro e w2 ⟨rfl, g1, g2⟩
    have H12 := Lib.hid (HW.out.from HA.out g1 g2)
    clear g1 g2 x0 x1 x2 x3 e1 hw1
    go_wp2
    go_end0
    exact ⟨rfl, H12.out⟩
  by_cases k3 : y.x.k.tmod 5 = 3
  · have e : y.x.b = text4 y.x.s := by simp [Itm.b, k3]
    rw [e]
    clear e k0 k1 k2
    go_enter Tryd.func16, Tryd.ntmps16
    go_wp2_with fail
    refine (text_any HW1.out _ (by omega) (by have := HB.out; omega) HB4.out).mono ?_
    rintro e w2 ⟨rfl, g1, g2⟩
    have H12 := Lib.hid (HW.out.from HA.out g1 g2)
    clear g1 g2 x0 x1 x2 x3 hw1
    go_wp2
    go_end0
    exact ⟨rfl, H12.out⟩
  by_cases k4 : y.x.k.tmod 5 = 4
  · have e : y.x.b = list4 y.x.l := by simp [Itm.b, k4]
    rw [e]
    clear e k0 k1 k2 k3
    go_enter Tryd.func16, Tryd.ntmps16
    go_wp2_with fail
    refine (list_any HW1.out y.A y.x.l y.len y.cap HL.out HU1.out HF.out HX.out (by have := HB.out; omega)).mono ?_
    rintro e w2 ⟨rfl, g1, g2⟩
    have H12 := Lib.hid (HW.out.from HA.out g1 g2)
    clear g1 g2 x0 x1 x2 x3 hw1
    go_wp2
    go_end0
    exact ⟨rfl, H12.out⟩
  · have e : y.x.b = ByteArray.empty := by simp [Itm.b, k0, k1, k2, k3, k4]
    rw [e, ByteArray.append_empty]
    have t0 : (y.x.k.tmod 5 == 0) = false := by simpa using k0
    have t1 : (y.x.k.tmod 5 == 1) = false := by simpa using k1
    have t2 : (y.x.k.tmod 5 == 2) = false := by simpa using k2
    have t3 : (y.x.k.tmod 5 == 3) = false := by simpa using k3
    have t4 : (y.x.k.tmod 5 == 4) = false := by simpa using k4
    clear e k0 k1 k2 k3 k4
    go_enter Tryd.func16, Tryd.ntmps16
    go_wp2
    go_end0
    refine ⟨rfl, HW1.out.mono (fun k hk => .inl hk) (fun k hk => ?_), HA.out⟩
    rcases hk with hk | hk
    · exact HW1.out.lt k hk
    · exact hk.2
/-- An item's bytes by the document. -/
def TextPost (w : World) (b : ByteArray) (e : Ending) (w' : World) : Prop := e = .returned (.string b) ∧ Below w.heap.size w w'
set_option maxHeartbeats 4000000 in
theorem dtext_any (y : SItem) (h1 : y.x.n < 18446744073709551616) (h2 : y.x.l.length = y.len) (h3 : U32s w y.A y.x.l) (h4 : ∀ z ∈ y.x.l, z < 4294967296) (h6 : Small y) : Calls Tryd.prog 17 #[.agg #[.int .i64 y.x.k, .int .u64 (y.x.n : Int), .string y.x.s, .slice y.A y.len y.cap]] w (TextPost w y.x.b) := by
  obtain ⟨s1, s2⟩ := h6
  have HL := Lib.hid h2
  have HX := Lib.hid h4
  have HA : Hid (Below w.heap.size w (w.alloc (.cells #[.int .i64 y.x.k, .int .u64 (y.x.n : Int), .string y.x.s, .slice y.A y.len y.cap] 39))) := (Below.refl _ _).alloc (Nat.le_refl _) _
  have HU1 := Lib.hid (ArrAt.below h3 HA.out)
  obtain ⟨x0, x1, x2, x3⟩ := icells_blk (alloc_at w (.cells #[.int .i64 y.x.k, .int .u64 (y.x.n : Int), .string y.x.s, .slice y.A y.len y.cap] 39))
  clear h2 h3 h4
  generalize hw1 : w.alloc (.cells #[.int .i64 y.x.k, .int .u64 (y.x.n : Int), .string y.x.s, .slice y.A y.len y.cap] 39) = w1 at HU1 HA x0 x1 x2 x3
  have hn := h1
  by_cases k0 : y.x.k.tmod 5 = 0
  · have e : y.x.b = num4 (y.x.n % 4294967296) := by simp [Itm.b, k0]
    have e1 := Lib.hid (show (y.x.n : Int) % 4294967296 = ((y.x.n % 4294967296 : Nat) : Int) by omega)
    rw [e]
    clear e
    go_enter Tryd.func17, Tryd.ntmps17
    go_wp2_with fail
    rw [e1.out]
    refine (dnumber _ (Nat.mod_lt _ (by decide)) _).mono ?_
    rintro e w2 ⟨rfl, g1⟩
    have H12 := Lib.hid (below2 HA.out g1)
    clear g1 x0 x1 x2 x3 e1 hw1
    go_wp2
    go_ret
    exact ⟨rfl, H12.out⟩
  by_cases k1 : y.x.k.tmod 5 = 1
  · have e : y.x.b = long8 y.x.n := by simp [Itm.b, k1]
    rw [e]
    clear e k0
    go_enter Tryd.func17, Tryd.ntmps17
    go_wp2_with fail
    refine (dlong _ hn _).mono ?_
    rintro e w2 ⟨rfl, g1⟩
    have H12 := Lib.hid (below2 HA.out g1)
    clear g1 x0 x1 x2 x3 hw1
    go_wp2
    go_ret
    exact ⟨rfl, H12.out⟩
  by_cases k2 : y.x.k.tmod 5 = 2
  · have e : y.x.b = flag4 (y.x.n % 2 == 1) := by simp [Itm.b, k2]
    have e1 := Lib.hid (show ((y.x.n : Int) % 2 == 1) = (y.x.n % 2 == 1) by rw [Bool.eq_iff_iff, beq_iff_eq, beq_iff_eq]; omega)
    rw [e]
    clear e k0 k1
    go_enter Tryd.func17, Tryd.ntmps17
    go_wp2_with fail
    rw [e1.out]
    refine (dflag _ _).mono ?_
    rintro e w2 ⟨rfl, g1⟩
    have H12 := Lib.hid (below2 HA.out g1)
    clear g1 x0 x1 x2 x3 e1 hw1
    go_wp2
    go_ret
    exact ⟨rfl, H12.out⟩
  by_cases k3 : y.x.k.tmod 5 = 3
  · have e : y.x.b = text4 y.x.s := by simp [Itm.b, k3]
    rw [e]
    clear e k0 k1 k2
    go_enter Tryd.func17, Tryd.ntmps17
    go_wp2_with fail
    refine (dtext _ (by omega) _).mono ?_
    rintro e w2 ⟨rfl, g1⟩
    have H12 := Lib.hid (below2 HA.out g1)
    clear g1 x0 x1 x2 x3 hw1
    go_wp2
    go_ret
    exact ⟨rfl, H12.out⟩
  by_cases k4 : y.x.k.tmod 5 = 4
  · have e : y.x.b = list4 y.x.l := by simp [Itm.b, k4]
    rw [e]
    clear e k0 k1 k2 k3
    go_enter Tryd.func17, Tryd.ntmps17
    go_wp2_with fail
    refine (dlist y.A y.x.l y.len y.cap HL.out _ HU1.out HX.out (by omega)).mono ?_
    rintro e w2 ⟨rfl, g1⟩
    have H12 := Lib.hid (below2 HA.out g1)
    clear g1 x0 x1 x2 x3 hw1
    go_wp2
    go_ret
    exact ⟨rfl, H12.out⟩
  · have e : y.x.b = ByteArray.empty := by simp [Itm.b, k0, k1, k2, k3, k4]
    rw [e]
    have t0 : (y.x.k.tmod 5 == 0) = false := by simpa using k0
    have t1 : (y.x.k.tmod 5 == 1) = false := by simpa using k1
    have t2 : (y.x.k.tmod 5 == 2) = false := by simpa using k2
    have t3 : (y.x.k.tmod 5 == 3) = false := by simpa using k3
    have t4 : (y.x.k.tmod 5 == 4) = false := by simpa using k4
    clear e k0 k1 k2 k3 k4
    go_enter Tryd.func17, Tryd.ntmps17
    go_wp2
    go_ret
    exact ⟨rfl, HA.out⟩
/-- The same, for a law's own writer. -/
theorem WB.write (h : WB W.heap.size p W w b) (y : SItem) (hy : y.OK W) (h6 : Small y) (hb : b.size ≤ 900000000) (hb4 : b.size % 4 = 0) :
    Calls Tryd.prog 16 #[.pointer (some ⟨p, 0, none⟩), .agg #[.int .i64 y.x.k, .int .u64 (y.x.n : Int), .string y.x.s, .slice y.A y.len y.cap]] w fun e w' => e = .returned (.tuple #[]) ∧ WB W.heap.size p W w' (b ++ y.x.b) :=
  h.elim fun F ⟨h1, h2, h3⟩ => (write_fr h1 y hy.1 hy.2.1 (ArrAt.below hy.2.2.1 h3) hy.2.2.2.1 (fun h0 q hq hF => by have := hy.2.2.2.2.1 h0 q hq; have := h2 _ hF; omega) h6 hb hb4).mono fun _ _ ⟨he, a, c⟩ => ⟨he, WB.put (Nat.le_refl _) h2 h3 a c⟩
theorem dtext_below (h : Below W.heap.size W w) (y : SItem) (hy : y.OK W) (h6 : Small y) :
    Calls Tryd.prog 17 #[.agg #[.int .i64 y.x.k, .int .u64 (y.x.n : Int), .string y.x.s, .slice y.A y.len y.cap]] w fun e w' => e = .returned (.string y.x.b) ∧ Below w.heap.size w w' :=
  (dtext_any y hy.1 hy.2.1 (ArrAt.below hy.2.2.1 h) hy.2.2.2.1 h6).mono fun _ _ h => h
end Go.Proofs.YtjmdjikjelhbmaaDoor.Xdr
