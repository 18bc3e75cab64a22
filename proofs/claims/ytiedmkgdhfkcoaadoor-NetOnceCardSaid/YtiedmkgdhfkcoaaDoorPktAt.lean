/- Layer proto: packets in memory. -/
import Derived.Test.YtiedmkgdhfkcoaaDoorChecked
import Derived.Test.YtiedmkgdhfkcoaaDoorPktPlain
import Derived.Test.YtiedmkgdhfkcoaaDoorBlk
import Derived.Test.YtiedmkgdhfkcoaaDoorOwn
import Derived.Test.YtiedmkgdhfkcoaaDoorOps
import Derived.Test.YtiedmkgdhfkcoaaDoorOpens
import Derived.Test.YtiedmkgdhfkcoaaDoorWLast
import Derived.Test.YtiedmkgdhfkcoaaDoorWMore
import Derived.Laws.Rows
namespace Go.Proofs.YtiedmkgdhfkcoaaDoor.Pkt
open Go.RowKit Go.Own Go.Blk Go.OpsL Go.XdrL Go.PktL Go.Sees Go.Proofs.YtiedmkgdhfkcoaaDoorW.PrintLast Go.Proofs.YtiedmkgdhfkcoaaDoorW.PrintWords
set_option linter.unusedVariables false
set_option linter.unusedSimpArgs false
set_option maxRecDepth 100000
/-- A packet's cells. -/
def pcells (p : Pk) : List Value := [.int .i64 p.kind, .int .i64 p.fr, .int .i64 p.to, .int .u32 (p.life : Int), .int .u32 (p.seq : Int), .int .u32 (p.asked : Int), .int .u32 (p.boot : Int), .int .i64 p.code, .int .i64 p.err, .int .u32 (p.file : Int), .int .u32 (p.epoch : Int), .int .u32 (p.off : Int), .int .u32 (p.len : Int), .int .u32 (p.size : Int), .int .u32 (p.mode : Int), .int .u32 (p.deny : Int), .int .u32 (p.handle : Int), .string p.path, .string p.other, .string p.data]
def PAt (w : World) (g : Nat) (p : Pk) : Prop := w.heap[g]? = some (.cells #[.int .i64 p.kind, .int .i64 p.fr, .int .i64 p.to, .int .u32 (p.life : Int), .int .u32 (p.seq : Int), .int .u32 (p.asked : Int), .int .u32 (p.boot : Int), .int .i64 p.code, .int .i64 p.err, .int .u32 (p.file : Int), .int .u32 (p.epoch : Int), .int .u32 (p.off : Int), .int .u32 (p.len : Int), .int .u32 (p.size : Int), .int .u32 (p.mode : Int), .int .u32 (p.deny : Int), .int .u32 (p.handle : Int), .string p.path, .string p.other, .string p.data] 27 (0, 0))
theorem PAt.cells {w : World} {g : Nat} {p : Pk} (h : PAt w g p) : w.cell? ⟨g, 0, none⟩ = some (.int .i64 p.kind) ∧ w.cell? ⟨g, 1, none⟩ = some (.int .i64 p.fr) ∧ w.cell? ⟨g, 2, none⟩ = some (.int .i64 p.to) ∧ w.cell? ⟨g, 3, none⟩ = some (.int .u32 (p.life : Int)) ∧ w.cell? ⟨g, 4, none⟩ = some (.int .u32 (p.seq : Int)) ∧ w.cell? ⟨g, 5, none⟩ = some (.int .u32 (p.asked : Int)) ∧ w.cell? ⟨g, 6, none⟩ = some (.int .u32 (p.boot : Int)) ∧ w.cell? ⟨g, 7, none⟩ = some (.int .i64 p.code) ∧ w.cell? ⟨g, 8, none⟩ = some (.int .i64 p.err) ∧ w.cell? ⟨g, 9, none⟩ = some (.int .u32 (p.file : Int)) ∧ w.cell? ⟨g, 10, none⟩ = some (.int .u32 (p.epoch : Int)) ∧ w.cell? ⟨g, 11, none⟩ = some (.int .u32 (p.off : Int)) ∧ w.cell? ⟨g, 12, none⟩ = some (.int .u32 (p.len : Int)) ∧ w.cell? ⟨g, 13, none⟩ = some (.int .u32 (p.size : Int)) ∧ w.cell? ⟨g, 14, none⟩ = some (.int .u32 (p.mode : Int)) ∧ w.cell? ⟨g, 15, none⟩ = some (.int .u32 (p.deny : Int)) ∧ w.cell? ⟨g, 16, none⟩ = some (.int .u32 (p.handle : Int)) ∧ w.cell? ⟨g, 17, none⟩ = some (.string p.path) ∧ w.cell? ⟨g, 18, none⟩ = some (.string p.other) ∧ w.cell? ⟨g, 19, none⟩ = some (.string p.data) :=
  ⟨(cell_at h 0).trans rfl, (cell_at h 1).trans rfl, (cell_at h 2).trans rfl, (cell_at h 3).trans rfl, (cell_at h 4).trans rfl, (cell_at h 5).trans rfl, (cell_at h 6).trans rfl, (cell_at h 7).trans rfl, (cell_at h 8).trans rfl, (cell_at h 9).trans rfl, (cell_at h 10).trans rfl, (cell_at h 11).trans rfl, (cell_at h 12).trans rfl, (cell_at h 13).trans rfl, (cell_at h 14).trans rfl, (cell_at h 15).trans rfl, (cell_at h 16).trans rfl, (cell_at h 17).trans rfl, (cell_at h 18).trans rfl, (cell_at h 19).trans rfl⟩
theorem PAt.free {w : World} {g : Nat} {p : Pk} (h : PAt w g p) (i : Nat) : w.frozen? ⟨g, i, none⟩ = false := free_at h i
theorem PAt.below {w w' : World} {g : Nat} {p : Pk} (h : PAt w g p) (hb : Below w.heap.size w w') : PAt w' g p := below_old h hb
theorem PAt.keep {w w' : World} {g : Nat} {p : Pk} {G : Nat → Prop} (h : PAt w g p) (hF : Fr G w w') (hG : ¬ G g) : PAt w' g p := hF.at h hG
theorem PAt.alloc (w : World) (p : Pk) : PAt (w.alloc (.cells #[.int .i64 p.kind, .int .i64 p.fr, .int .i64 p.to, .int .u32 (p.life : Int), .int .u32 (p.seq : Int), .int .u32 (p.asked : Int), .int .u32 (p.boot : Int), .int .i64 p.code, .int .i64 p.err, .int .u32 (p.file : Int), .int .u32 (p.epoch : Int), .int .u32 (p.off : Int), .int .u32 (p.len : Int), .int .u32 (p.size : Int), .int .u32 (p.mode : Int), .int .u32 (p.deny : Int), .int .u32 (p.handle : Int), .string p.path, .string p.other, .string p.data] 27)) w.heap.size p := alloc_at w _
theorem pk_info : (Tryd.prog.info? 27).map (·.size) = some 20 := by kernel_rfl
/-- The whole packet is read. -/
theorem PAt.load {w : World} {g : Nat} {p : Pk} (h : PAt w g p) : (Instr.loadAt 27 (.pointer (some ⟨g, 0, none⟩))).run Tryd.prog w = .ok (.agg #[.int .i64 p.kind, .int .i64 p.fr, .int .i64 p.to, .int .u32 (p.life : Int), .int .u32 (p.seq : Int), .int .u32 (p.asked : Int), .int .u32 (p.boot : Int), .int .i64 p.code, .int .i64 p.err, .int .u32 (p.file : Int), .int .u32 (p.epoch : Int), .int .u32 (p.off : Int), .int .u32 (p.len : Int), .int .u32 (p.size : Int), .int .u32 (p.mode : Int), .int .u32 (p.deny : Int), .int .u32 (p.handle : Int), .string p.path, .string p.other, .string p.data]) w := by
  have hv := run_loadVar_row w g _ 27 _ _ _ h Tryd.underlying27 rfl pk_info
  simp only [Instr.loadAt, Instr.sureAddr, Sem.run_bind, Sem.run_pure, Result.andThen_ok, hv]
/-- What came in as a packet is one. -/
theorem pk_of {w : World} {R k : Nat} {cs : List Value} (hR : R ≤ 140737488351232) (h : Sees Tryd.prog w R (k + 3) 27 cs) : ∃ p : Pk, p.OK ∧ cs = pcells p := by
  obtain ⟨x0, x1, x2, x3, x4, x5, x6, x7, x8, x9, x10, x11, x12, x13, x14, x15, x16, x17, x18, x19, rfl, f0, f1, f2, f3, f4, f5, f6, f7, f8, f9, f10, f11, f12, f13, f14, f15, f16, f17, f18, f19⟩ := Opens.open27 h
  have b0 := bounds_i64 f0
  have b1 := bounds_i64 f1
  have b2 := bounds_i64 f2
  have b3 := bounds_u32 f3
  have b4 := bounds_u32 f4
  have b5 := bounds_u32 f5
  have b6 := bounds_u32 f6
  have b7 := bounds_i64 f7
  have b8 := bounds_i64 f8
  have b9 := bounds_u32 f9
  have b10 := bounds_u32 f10
  have b11 := bounds_u32 f11
  have b12 := bounds_u32 f12
  have b13 := bounds_u32 f13
  have b14 := bounds_u32 f14
  have b15 := bounds_u32 f15
  have b16 := bounds_u32 f16
  refine ⟨⟨x0, x1, x2, x3.toNat, x4.toNat, x5.toNat, x6.toNat, x7, x8, x9.toNat, x10.toNat, x11.toNat, x12.toNat, x13.toNat, x14.toNat, x15.toNat, x16.toNat, x17, x18, x19⟩, ⟨b0, b1, b2, b7, b8, (by have := b3; show x3.toNat < _; omega), (by have := b4; show x4.toNat < _; omega), (by have := b5; show x5.toNat < _; omega), (by have := b6; show x6.toNat < _; omega), (by have := b9; show x9.toNat < _; omega), (by have := b10; show x10.toNat < _; omega), (by have := b11; show x11.toNat < _; omega), (by have := b12; show x12.toNat < _; omega), (by have := b13; show x13.toNat < _; omega), (by have := b14; show x14.toNat < _; omega), (by have := b15; show x15.toNat < _; omega), (by have := b16; show x16.toNat < _; omega), (by show x17.size ≤ _; omega), (by show x18.size ≤ _; omega), (by show x19.size ≤ _; omega)⟩, ?_⟩
  simp only [pcells, Int.toNat_of_nonneg b3.1, Int.toNat_of_nonneg b4.1, Int.toNat_of_nonneg b5.1, Int.toNat_of_nonneg b6.1, Int.toNat_of_nonneg b9.1, Int.toNat_of_nonneg b10.1, Int.toNat_of_nonneg b11.1, Int.toNat_of_nonneg b12.1, Int.toNat_of_nonneg b13.1, Int.toNat_of_nonneg b14.1, Int.toNat_of_nonneg b15.1, Int.toNat_of_nonneg b16.1]
end Go.Proofs.YtiedmkgdhfkcoaaDoor.Pkt
