/- Layer xdr: a law's items: in memory, written, and as bytes by the document. -/
import Derived.Test.YtjmdjikjelhbmaaDoorXdrDoc
import Derived.Test.YtjmdjikjelhbmaaDoorOpens
namespace Go.Proofs.YtjmdjikjelhbmaaDoor.Xdr
open Go.RowKit Go.Own Go.XdrL Go.Blk Go.OpsL Go.Sees Go.Proofs.YtjmdjikjelhbmaaDoorW.PrintLast Go.Proofs.YtjmdjikjelhbmaaDoorW.PrintWords
set_option linter.unusedVariables false
set_option linter.unusedSimpArgs false
variable {W w w' : World} {B p q : Nat} {r r' : Rd} {b b' : ByteArray}
/-- An item in memory: its list lies elsewhere. -/
structure SItem where
  x : Itm
  A : Option Addr
  len : Nat
  cap : Nat
def icells (y : SItem) : List Value := [.int .i64 y.x.k, .int .u64 (y.x.n : Int), .string y.x.s, .slice y.A y.len y.cap]
/-- What came in fits. -/
def SItem.OK (W : World) (y : SItem) : Prop := y.x.n < 18446744073709551616 ∧ y.x.l.length = y.len ∧ U32s W y.A y.x.l ∧ (∀ z ∈ y.x.l, z < 4294967296) ∧ (0 < y.len → ∀ q, y.A = some q → q.block < W.heap.size) ∧ y.len ≤ 9223372036854775807 ∧ y.x.s.size ≤ 9223372036854775807
theorem sees_u32s {R k len cap : Nat} {A : Option Addr} (h : Sees Tryd.prog w R (k + 2) 37 [.slice A len cap]) : ∃ l : List Nat, l.length = len ∧ len ≤ maxLen ∧ U32s w A l ∧ ∀ x ∈ l, x < 4294967296 := by
  obtain ⟨l, h1, _, h2, _, h3, h4⟩ := arr_of (Q := fun x : Nat => x < 4294967296) (f := fun x : Nat => [Value.int .u32 (x : Int)]) (s := 1) (by kernel_rfl) (by decide) (fun _ => rfl) Tryd.underlying37 (fun cs hc => by
    obtain ⟨n, rfl, hn⟩ := hc.int Tryd.underlying29
    have hb := bounds_u32 hn
    refine ⟨n.toNat, by have := hb.1; have := hb.2; omega, ?_⟩
    rw [Int.toNat_of_nonneg hb.1]) h
  exact ⟨l, h1, h2, h3, h4⟩
theorem sees_items {R k len cap : Nat} {A : Option Addr} (hR : R ≤ 140737488351232) (h : Sees Tryd.prog w R (k + 5) 33 [.slice A len cap]) :
    ∃ l : List SItem, l.length = len ∧ len ≤ maxLen ∧ ArrAt w A icells 4 l ∧ ∀ y ∈ l, y.OK w := by
  obtain ⟨l, h1, _, h2, _, h3, h4⟩ := arr_of (Q := SItem.OK w) (f := icells) (s := 4) (by kernel_rfl) (by decide) (fun _ => rfl) Tryd.underlying33 (fun cs hc => by
    obtain ⟨x0, x1, x2, x3, rfl, f0, f1, f2, f3⟩ := Opens.open39 hc
    obtain ⟨a, ln, cp, rfl⟩ := f3.isSlice Tryd.underlying37
    obtain ⟨l, e1, e2, e3, e4⟩ := sees_u32s f3
    have b1 := bounds_u64 f1
    have hm : maxLen ≤ 9223372036854775807 := by decide
    refine ⟨⟨⟨x0, x1.toNat, x2, l⟩, a, ln, cp⟩, ⟨by have := b1.1; have := b1.2; show x1.toNat < _; omega, e1, e3, e4, fun h0 q hq => ?_, by show ln ≤ _; omega, by show x2.size ≤ _; omega⟩, ?_⟩
    · have h0' : 0 < ln := h0
      obtain ⟨blk, off, e, hb, _⟩ := e3 0 (by omega)
      have hq' : a = some q := hq
      rw [e] at hq'
      simp only [Option.some.injEq] at hq'
      rw [← hq']; exact hb
    · simp only [icells, Int.toNat_of_nonneg b1.1]) h
  exact ⟨l, h1, h2, h3, h4⟩
/-- The item at a place. -/
theorem item_at {A : Option Addr} {l : List SItem} (h : ArrAt w A icells 4 l) (i : Nat) (hi : i < l.length) : ∃ blk off, A = some ⟨blk, off, none⟩ ∧ blk < w.heap.size ∧ w.cell? ⟨blk, off + i * 4, none⟩ = some (.int .i64 l[i].x.k) ∧ w.cell? ⟨blk, off + i * 4 + 1, none⟩ = some (.int .u64 (l[i].x.n : Int)) ∧ w.cell? ⟨blk, off + i * 4 + 2, none⟩ = some (.string l[i].x.s) ∧ w.cell? ⟨blk, off + i * 4 + 3, none⟩ = some (.slice l[i].A l[i].len l[i].cap) := by
  obtain ⟨blk, off, e, hb, hc⟩ := h i hi
  exact ⟨blk, off, e, hb, hc 0 _ rfl, hc 1 _ rfl, hc 2 _ rfl, hc 3 _ rfl⟩
/-- The cells of an item. -/
def ItemAt (w : World) (blk off : Nat) (y : SItem) : Prop := w.cell? ⟨blk, off, none⟩ = some (.int .i64 y.x.k) ∧ w.cell? ⟨blk, off + 1, none⟩ = some (.int .u64 (y.x.n : Int)) ∧ w.cell? ⟨blk, off + 2, none⟩ = some (.string y.x.s) ∧ w.cell? ⟨blk, off + 3, none⟩ = some (.slice y.A y.len y.cap)
theorem ItemAt.below {blk off : Nat} {y : SItem} (h : ItemAt W blk off y) (hblk : blk < W.heap.size) (hb : Below W.heap.size W w) : ItemAt w blk off y := by
  obtain ⟨a, c, d, e⟩ := h
  exact ⟨(hb.cell (p := ⟨blk, off, none⟩) hblk).trans a, (hb.cell (p := ⟨blk, off + 1, none⟩) hblk).trans c, (hb.cell (p := ⟨blk, off + 2, none⟩) hblk).trans d, (hb.cell (p := ⟨blk, off + 3, none⟩) hblk).trans e⟩
theorem item_of {A : Option Addr} {l : List SItem} (h : ArrAt w A icells 4 l) (i : Nat) (hi : i < l.length) {y : SItem} (hy : l[i] = y) : ∃ blk off, A = some ⟨blk, off, none⟩ ∧ blk < w.heap.size ∧ ItemAt w blk (off + i * 4) y := by
  subst hy
  obtain ⟨blk, off, e, hb, c⟩ := item_at h i hi
  exact ⟨blk, off, e, hb, c⟩
/-- Items that are looked at. -/
def Small (y : SItem) : Prop := y.x.s.size ≤ 2000 ∧ y.len ≤ 500
theorem SItem.OK.item {y : SItem} (h : y.OK W) (hs : Small y) : y.x.OK := ⟨h.1, hs.1, by rw [h.2.1]; exact hs.2, h.2.2.2.1⟩
def GreatPost (w : World) (len : Nat) (l : List SItem) (e : Ending) (w' : World) : Prop := ∃ g : Bool, e = .returned (.bool g) ∧ w = w' ∧ (g = false → len ≤ 60 ∧ ∀ y ∈ l, Small y)
set_option maxHeartbeats 2000000 in
theorem great_any (A : Option Addr) (len cap : Nat) (l : List SItem) (hl : l.length = len) (hm : len ≤ maxLen) (w : World) (hA : ArrAt w A icells 4 l) (hO : ∀ y ∈ l, y.len ≤ 9223372036854775807 ∧ y.x.s.size ≤ 9223372036854775807) : Calls Tryd.prog 15 #[.slice A len cap] w (GreatPost w len l) := by
  unfold maxLen at hm
  have HA := Lib.hid hA
  have HO := Lib.hid hO
  have HL := Lib.hid hl
  clear hA hO
  by_cases h60 : 60 < len
  · go_enter Tryd.func15, Tryd.ntmps15
    go_wp2
    go_ret
    exact ⟨true, rfl, rfl, fun h => by cases h⟩
  · go_enter Tryd.func15, Tryd.ntmps15
    go_wp2
    go_loop [3] (fun i => ∃ k : Nat, k ≤ len ∧ i = .int .i64 k ∧ Hid (∀ j (hj : j < l.length), j < k → Small l[j])) (fun i => len - (intOf i).toNat)
    case atStart => exact ⟨0, Nat.zero_le _, by simp, Lib.hid (fun j _ h => by omega)⟩
    case round =>
      obtain ⟨k, hk, rfl, HK⟩ := hrel
      by_cases hlt : k < len
      · have hkl : k < l.length := by have := HL.out; omega
        obtain ⟨blk, off, rfl, hb, c0, c1, c2, c3⟩ := item_at HA.out k hkl
        obtain ⟨y, hy⟩ : ∃ y, l[k] = y := ⟨_, rfl⟩
        rw [hy] at c0 c1 c2 c3
        have hyo := HO.out y (hy ▸ List.getElem_mem _)
        obtain ⟨o1, o2⟩ := hyo
        have HY := Lib.hid hy
        clear hy
        by_cases s1 : 2000 < y.x.s.size
        · go_wp2
          go_ret
          exact ⟨true, rfl, rfl, fun h => by cases h⟩
        · by_cases s2 : 500 < y.len
          · go_wp2
            go_ret
            exact ⟨true, rfl, rfl, fun h => by cases h⟩
          · go_wp2
            go_round
            case rel => exact ⟨k + 1, by omega, by go_num, Lib.hid (fun j hj h => by
              by_cases hjk : j = k
              · subst hjk; rw [HY.out]; exact ⟨by omega, by omega⟩
              · exact HK.out j hj (by omega))⟩
            case measure => simp [intOf]; omega
      · go_wp2
        go_ret
        refine ⟨false, rfl, rfl, fun _ => ⟨by omega, fun y hy => ?_⟩⟩
        obtain ⟨j, hj, rfl⟩ := List.getElem_of_mem hy
        exact HK.out j hj (by have := HL.out; omega)
end Go.Proofs.YtjmdjikjelhbmaaDoor.Xdr
