/- Layer xdr in memory: a writer is a block of one cell and a row of bytes; a reader is a block of two cells. -/
import Derived.Test.YtiedmkgdhfkcoaaDoorChecked
import Derived.Test.YtiedmkgdhfkcoaaDoorOwn
import Derived.Test.YtiedmkgdhfkcoaaDoorXdrPlain
import Derived.Test.YtiedmkgdhfkcoaaDoorBlk
import Derived.Test.YtiedmkgdhfkcoaaDoorOps
import Derived.Test.YtiedmkgdhfkcoaaDoorWLast
import Derived.Test.YtiedmkgdhfkcoaaDoorWMore
import Derived.Laws.BitsAllLaws
import Derived.Lib.AppendStr
namespace Go.Proofs.YtiedmkgdhfkcoaaDoor.Xdr
open Go.RowKit Go.Own Go.XdrL Go.Blk Go.OpsL
set_option linter.unusedVariables false
theorem bcells_append (a b : ByteArray) : bcells (a ++ b) = bcells a ++ bcells b := by simp [bcells]
theorem strCells_eq (b : ByteArray) : Lib.strCells b = bcells b := rfl
/-- A writer of the bytes b lies at block p, all of it in blocks of F. -/
structure WAt (F : Nat → Prop) (w : World) (p : Nat) (vl : Value) (b : ByteArray) : Prop where
  fp : F p
  fl : ∀ k, vl.ownBlock = some k → F k
  ne : ∀ k, vl.ownBlock = some k → k ≠ p
  hp : w.heap[p]? = some (.cells #[vl] 72 (0, 0))
  hl : w.ownsRow 0 5 1 vl b.size (bcells b)
  lt : ∀ k, F k → k < w.heap.size
variable {F : Nat → Prop} {w w' : World} {p : Nat} {vl : Value} {b : ByteArray}
theorem WAt.keep {G : Nat → Prop} (h : WAt F w p vl b) (hF : Fr G w w') (hG : ∀ k, F k → ¬ G k) : WAt F w' p vl b :=
  { h with hp := hF.at h.hp (hG _ h.fp), hl := hF.row h.hl (fun k hk => hG _ (h.fl k hk)), lt := fun k hk => Nat.lt_of_lt_of_le (h.lt k hk) hF.size }
theorem WAt.below (h : WAt F w p vl b) (hb : Below w.heap.size w w') : WAt F w' p vl b := h.keep (Fr.of_below (F := fun _ => False) hb) (fun _ _ => id)
theorem WAt.drew (h : WAt F w p vl b) : WAt F w.drew p vl b := h.keep (Fr.drew (fun _ => False) w) (fun _ _ => id)
theorem info_u8 : (Tryd.prog.info? 5).map (fun i => (i.zero, i.size, i.bytes)) = some (some (.int .u8 0), 1, 1) := by kernel_rfl
theorem bcells_num4 (n : Nat) : bcells (num4 n) = [.int .u8 ((n : Int) / 16777216 % 256), .int .u8 ((n : Int) / 65536 % 256), .int .u8 ((n : Int) / 256 % 256), .int .u8 ((n : Int) % 256)] := by
  simp [bcells, num4]
theorem run_four (w : World) (a b c d : Int) : (Instr.buildSlice 70 4 #[(0, .int .u8 a), (1, .int .u8 b), (2, .int .u8 c), (3, .int .u8 d)]).run Tryd.prog w = .ok (.slice (some ⟨w.heap.size, 0, none⟩) 4 4) (w.alloc (.cells #[.int .u8 a, .int .u8 b, .int .u8 c, .int .u8 d] 5)) := by kernel_rfl
theorem run_nought (w : World) (a : Int) : (Instr.buildSlice 70 1 #[(0, .int .u8 a)]).run Tryd.prog w = .ok (.slice (some ⟨w.heap.size, 0, none⟩) 1 1) (w.alloc (.cells #[.int .u8 a] 5)) := by kernel_rfl
theorem info_parts : ∃ i, Tryd.prog.info? 5 = some i ∧ i.zero = some (.int .u8 0) ∧ i.size = 1 ∧ i.bytes = 1 := by
  cases h : Tryd.prog.info? 5 with
  | none => have := info_u8; rw [h] at this; cases this
  | some i =>
    have := info_u8
    rw [h] at this
    simp only [Option.map_some, Option.some.injEq, Prod.mk.injEq] at this
    exact ⟨i, rfl, this.1, this.2.1, this.2.2⟩
/-- Where a row lies to which a string's bytes are appended. -/
theorem append_string_block {w w' : World} {v v' : Value} {n : Nat} {xs : List Value} (ty : TypeId) (hown : w.ownsRow 0 5 1 v n xs) (s : ByteArray) (hb : n + s.size ≤ 1000000000) (hr : (Builtin.append_ #[70, 9] ty #[v, .string s]).run Tryd.prog w = .ok v' w')
    (h0 : v' = .slice none 0 0 ↔ v = .slice none 0 0 ∧ s.size = 0) : v'.ownBlock = v.ownBlock ∨ v'.ownBlock = some w.heap.size := by
  obtain ⟨i, hi, hz, hs, hby⟩ := info_parts
  have hxl : xs.length = n := by simpa using hown.1
  rcases hown.2 with ⟨rfl, rfl⟩ | ⟨g, cap, cur, rfl, hbg, hg, hnc, hcm, hcs, htake⟩
  · by_cases hm : s.size = 0
    · rw [h0.2 ⟨rfl, hm⟩]; exact .inl rfl
    · have hr2 := run_append_nil_string (P := Tryd.prog) w 70 9 ty 5 i (.int .u8 0) Tryd.underlying70 Tryd.underlying9 hi hz s (by omega) (by omega) (by rw [hby]; omega)
      rw [hr2] at hr
      obtain ⟨rfl, rfl⟩ := Result.ok.inj hr
      exact .inr rfl
  · by_cases hroom : n + s.size ≤ cap
    · have hcs' : cur.size = cap := by simpa using hcs
      have hr2 := Lib.run_append_room_string (P := Tryd.prog) w 70 9 ty 5 i Tryd.underlying70 Tryd.underlying9 hi hs g n cap cur hg s hroom (by omega)
      rw [hr2] at hr
      obtain ⟨rfl, rfl⟩ := Result.ok.inj hr
      exact .inl rfl
    · have holds : ∀ j u, xs[j]? = some u → w.cell? ((⟨g, 0, none⟩ : Addr).add j) = some u := hown.cells (g := g) rfl
      have hr2 := Lib.run_append_grow_string (P := Tryd.prog) w 70 9 ty 5 i (.int .u8 0) Tryd.underlying70 Tryd.underlying9 hi hz ⟨g, 0, none⟩ n cap xs (by rw [hs]; simpa using hxl) holds s (by omega) (by omega) (by rw [hby]; exact growslice_fits (by omega) (by omega))
      rw [hr2] at hr
      obtain ⟨rfl, rfl⟩ := Result.ok.inj hr
      exact .inr rfl
/-- The blocks of F, and all that are new. -/
def Up (F : Nat → Prop) (w w' : World) : Nat → Prop := fun k => F k ∨ (w.heap.size ≤ k ∧ k < w'.heap.size)
end Go.Proofs.YtiedmkgdhfkcoaaDoor.Xdr
