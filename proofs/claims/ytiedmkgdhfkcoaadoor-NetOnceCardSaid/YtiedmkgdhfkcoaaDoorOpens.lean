/- What a struct of the law's arguments holds, cell by cell. -/
import Derived.Test.YtiedmkgdhfkcoaaDoorSees
import Derived.Test.YtiedmkgdhfkcoaaDoorProg
import Derived.KernelRfl
namespace Go.Proofs.YtiedmkgdhfkcoaaDoor.Opens
open Go.Sees
set_option linter.unusedVariables false
set_option maxRecDepth 100000
theorem cells_13 (cs : List Value) (h : cs.length = 13) : ∃ c0 c1 c2 c3 c4 c5 c6 c7 c8 c9 c10 c11 c12, cs = [c0, c1, c2, c3, c4, c5, c6, c7, c8, c9, c10, c11, c12] := by
  match cs, h with
  | [c0, c1, c2, c3, c4, c5, c6, c7, c8, c9, c10, c11, c12], _ => exact ⟨c0, c1, c2, c3, c4, c5, c6, c7, c8, c9, c10, c11, c12, rfl⟩
theorem cells_20 (cs : List Value) (h : cs.length = 20) : ∃ c0 c1 c2 c3 c4 c5 c6 c7 c8 c9 c10 c11 c12 c13 c14 c15 c16 c17 c18 c19, cs = [c0, c1, c2, c3, c4, c5, c6, c7, c8, c9, c10, c11, c12, c13, c14, c15, c16, c17, c18, c19] := by
  match cs, h with
  | [c0, c1, c2, c3, c4, c5, c6, c7, c8, c9, c10, c11, c12, c13, c14, c15, c16, c17, c18, c19], _ => exact ⟨c0, c1, c2, c3, c4, c5, c6, c7, c8, c9, c10, c11, c12, c13, c14, c15, c16, c17, c18, c19, rfl⟩
theorem cells_23 (cs : List Value) (h : cs.length = 23) : ∃ c0 c1 c2 c3 c4 c5 c6 c7 c8 c9 c10 c11 c12 c13 c14 c15 c16 c17 c18 c19 c20 c21 c22, cs = [c0, c1, c2, c3, c4, c5, c6, c7, c8, c9, c10, c11, c12, c13, c14, c15, c16, c17, c18, c19, c20, c21, c22] := by
  match cs, h with
  | [c0, c1, c2, c3, c4, c5, c6, c7, c8, c9, c10, c11, c12, c13, c14, c15, c16, c17, c18, c19, c20, c21, c22], _ => exact ⟨c0, c1, c2, c3, c4, c5, c6, c7, c8, c9, c10, c11, c12, c13, c14, c15, c16, c17, c18, c19, c20, c21, c22, rfl⟩
theorem open25 {w : World} {R k : Nat} {cs : List Value} (h : Sees Tryd.prog w R (k + 2) 25 cs) : ∃ (x0 : Int) (x1 : Int) (x2 : Int) (x3 : Int) (x4 : Int) (x5 : Int) (x6 : Int) (x7 : Int) (x8 : Int) (x9 : Int) (x10 : ByteArray) (x11 : ByteArray) (x12 : ByteArray), cs = [.int .i64 x0, .int .i64 x1, .int .u32 x2, .int .u32 x3, .int .u32 x4, .int .u32 x5, .int .u32 x6, .int .u32 x7, .int .u32 x8, .int .u32 x9, .string x10, .string x11, .string x12] ∧ (Lit.int .i64 x0).wf = true ∧ (Lit.int .i64 x1).wf = true ∧ (Lit.int .u32 x2).wf = true ∧ (Lit.int .u32 x3).wf = true ∧ (Lit.int .u32 x4).wf = true ∧ (Lit.int .u32 x5).wf = true ∧ (Lit.int .u32 x6).wf = true ∧ (Lit.int .u32 x7).wf = true ∧ (Lit.int .u32 x8).wf = true ∧ (Lit.int .u32 x9).wf = true ∧ x10.size ≤ R ∧ x11.size ≤ R ∧ x12.size ≤ R := by
  obtain ⟨hl, hf⟩ := h.struct Tryd.underlying25
  rw [show Tryd.prog.cellsOf 25 = 13 from by kernel_rfl] at hl
  obtain ⟨c0, c1, c2, c3, c4, c5, c6, c7, c8, c9, c10, c11, c12, rfl⟩ := cells_13 cs hl
  have hp : Sees Tryd.prog w R (k + 1) 3 [c0] ∧ Sees Tryd.prog w R (k + 1) 23 [c1] ∧ Sees Tryd.prog w R (k + 1) 22 [c2] ∧ Sees Tryd.prog w R (k + 1) 22 [c3] ∧ Sees Tryd.prog w R (k + 1) 22 [c4] ∧ Sees Tryd.prog w R (k + 1) 22 [c5] ∧ Sees Tryd.prog w R (k + 1) 22 [c6] ∧ Sees Tryd.prog w R (k + 1) 22 [c7] ∧ Sees Tryd.prog w R (k + 1) 22 [c8] ∧ Sees Tryd.prog w R (k + 1) 22 [c9] ∧ Sees Tryd.prog w R (k + 1) 9 [c10] ∧ Sees Tryd.prog w R (k + 1) 9 [c11] ∧ Sees Tryd.prog w R (k + 1) 9 [c12] := by simpa [show Tryd.prog.cellsOf 3 = 1 from by kernel_rfl, show Tryd.prog.cellsOf 9 = 1 from by kernel_rfl, show Tryd.prog.cellsOf 22 = 1 from by kernel_rfl, show Tryd.prog.cellsOf 23 = 1 from by kernel_rfl] using hf
  obtain ⟨g0, g1, g2, g3, g4, g5, g6, g7, g8, g9, g10, g11, g12⟩ := hp
  obtain ⟨x0, e0, f0⟩ := Sees.int Tryd.underlying3 g0
  simp only [List.cons.injEq, and_true] at e0
  subst e0
  obtain ⟨x1, e1, f1⟩ := Sees.int Tryd.underlying23 g1
  simp only [List.cons.injEq, and_true] at e1
  subst e1
  obtain ⟨x2, e2, f2⟩ := Sees.int Tryd.underlying22 g2
  simp only [List.cons.injEq, and_true] at e2
  subst e2
  obtain ⟨x3, e3, f3⟩ := Sees.int Tryd.underlying22 g3
  simp only [List.cons.injEq, and_true] at e3
  subst e3
  obtain ⟨x4, e4, f4⟩ := Sees.int Tryd.underlying22 g4
  simp only [List.cons.injEq, and_true] at e4
  subst e4
  obtain ⟨x5, e5, f5⟩ := Sees.int Tryd.underlying22 g5
  simp only [List.cons.injEq, and_true] at e5
  subst e5
  obtain ⟨x6, e6, f6⟩ := Sees.int Tryd.underlying22 g6
  simp only [List.cons.injEq, and_true] at e6
  subst e6
  obtain ⟨x7, e7, f7⟩ := Sees.int Tryd.underlying22 g7
  simp only [List.cons.injEq, and_true] at e7
  subst e7
  obtain ⟨x8, e8, f8⟩ := Sees.int Tryd.underlying22 g8
  simp only [List.cons.injEq, and_true] at e8
  subst e8
  obtain ⟨x9, e9, f9⟩ := Sees.int Tryd.underlying22 g9
  simp only [List.cons.injEq, and_true] at e9
  subst e9
  obtain ⟨x10, e10, f10⟩ := Sees.string Tryd.underlying9 g10
  simp only [List.cons.injEq, and_true] at e10
  subst e10
  obtain ⟨x11, e11, f11⟩ := Sees.string Tryd.underlying9 g11
  simp only [List.cons.injEq, and_true] at e11
  subst e11
  obtain ⟨x12, e12, f12⟩ := Sees.string Tryd.underlying9 g12
  simp only [List.cons.injEq, and_true] at e12
  subst e12
  exact ⟨x0, x1, x2, x3, x4, x5, x6, x7, x8, x9, x10, x11, x12, rfl, f0, f1, f2, f3, f4, f5, f6, f7, f8, f9, f10, f11, f12⟩
theorem openA25 {w : World} {R k : Nat} {a : Array Value} (h : Sees Tryd.prog w R (k + 2) 25 a.toList) : ∃ (x0 : Int) (x1 : Int) (x2 : Int) (x3 : Int) (x4 : Int) (x5 : Int) (x6 : Int) (x7 : Int) (x8 : Int) (x9 : Int) (x10 : ByteArray) (x11 : ByteArray) (x12 : ByteArray), a = #[.int .i64 x0, .int .i64 x1, .int .u32 x2, .int .u32 x3, .int .u32 x4, .int .u32 x5, .int .u32 x6, .int .u32 x7, .int .u32 x8, .int .u32 x9, .string x10, .string x11, .string x12] ∧ (Lit.int .i64 x0).wf = true ∧ (Lit.int .i64 x1).wf = true ∧ (Lit.int .u32 x2).wf = true ∧ (Lit.int .u32 x3).wf = true ∧ (Lit.int .u32 x4).wf = true ∧ (Lit.int .u32 x5).wf = true ∧ (Lit.int .u32 x6).wf = true ∧ (Lit.int .u32 x7).wf = true ∧ (Lit.int .u32 x8).wf = true ∧ (Lit.int .u32 x9).wf = true ∧ x10.size ≤ R ∧ x11.size ≤ R ∧ x12.size ≤ R := by
  obtain ⟨x0, x1, x2, x3, x4, x5, x6, x7, x8, x9, x10, x11, x12, e, hh⟩ := open25 h
  exact ⟨x0, x1, x2, x3, x4, x5, x6, x7, x8, x9, x10, x11, x12, Array.toList_inj.1 (by simpa using e), hh⟩
theorem open27 {w : World} {R k : Nat} {cs : List Value} (h : Sees Tryd.prog w R (k + 3) 27 cs) : ∃ (x0 : Int) (x1 : Int) (x2 : Int) (x3 : Int) (x4 : Int) (x5 : Int) (x6 : Int) (x7 : Int) (x8 : Int) (x9 : Int) (x10 : Int) (x11 : Int) (x12 : Int) (x13 : Int) (x14 : Int) (x15 : Int) (x16 : Int) (x17 : ByteArray) (x18 : ByteArray) (x19 : ByteArray), cs = [.int .i64 x0, .int .i64 x1, .int .i64 x2, .int .u32 x3, .int .u32 x4, .int .u32 x5, .int .u32 x6, .int .i64 x7, .int .i64 x8, .int .u32 x9, .int .u32 x10, .int .u32 x11, .int .u32 x12, .int .u32 x13, .int .u32 x14, .int .u32 x15, .int .u32 x16, .string x17, .string x18, .string x19] ∧ (Lit.int .i64 x0).wf = true ∧ (Lit.int .i64 x1).wf = true ∧ (Lit.int .i64 x2).wf = true ∧ (Lit.int .u32 x3).wf = true ∧ (Lit.int .u32 x4).wf = true ∧ (Lit.int .u32 x5).wf = true ∧ (Lit.int .u32 x6).wf = true ∧ (Lit.int .i64 x7).wf = true ∧ (Lit.int .i64 x8).wf = true ∧ (Lit.int .u32 x9).wf = true ∧ (Lit.int .u32 x10).wf = true ∧ (Lit.int .u32 x11).wf = true ∧ (Lit.int .u32 x12).wf = true ∧ (Lit.int .u32 x13).wf = true ∧ (Lit.int .u32 x14).wf = true ∧ (Lit.int .u32 x15).wf = true ∧ (Lit.int .u32 x16).wf = true ∧ x17.size ≤ R ∧ x18.size ≤ R ∧ x19.size ≤ R := by
  obtain ⟨hl, hf⟩ := h.struct Tryd.underlying27
  rw [show Tryd.prog.cellsOf 27 = 20 from by kernel_rfl] at hl
  obtain ⟨c0, c1, c2, c3, c4, c5, c6, c7, c8, c9, c10, c11, c12, c13, c14, c15, c16, c17, c18, c19, rfl⟩ := cells_20 cs hl
  have hp : Sees Tryd.prog w R (k + 2) 3 [c0] ∧ Sees Tryd.prog w R (k + 2) 3 [c1] ∧ Sees Tryd.prog w R (k + 2) 3 [c2] ∧ Sees Tryd.prog w R (k + 2) 22 [c3] ∧ Sees Tryd.prog w R (k + 2) 22 [c4] ∧ Sees Tryd.prog w R (k + 2) 22 [c5] ∧ Sees Tryd.prog w R (k + 2) 22 [c6] ∧ Sees Tryd.prog w R (k + 2) 25 [c7, c8, c9, c10, c11, c12, c13, c14, c15, c16, c17, c18, c19] := by simpa [show Tryd.prog.cellsOf 3 = 1 from by kernel_rfl, show Tryd.prog.cellsOf 22 = 1 from by kernel_rfl, show Tryd.prog.cellsOf 25 = 13 from by kernel_rfl] using hf
  obtain ⟨g0, g1, g2, g3, g4, g5, g6, g7⟩ := hp
  obtain ⟨x0, e0, f0⟩ := Sees.int Tryd.underlying3 g0
  simp only [List.cons.injEq, and_true] at e0
  subst e0
  obtain ⟨x1, e1, f1⟩ := Sees.int Tryd.underlying3 g1
  simp only [List.cons.injEq, and_true] at e1
  subst e1
  obtain ⟨x2, e2, f2⟩ := Sees.int Tryd.underlying3 g2
  simp only [List.cons.injEq, and_true] at e2
  subst e2
  obtain ⟨x3, e3, f3⟩ := Sees.int Tryd.underlying22 g3
  simp only [List.cons.injEq, and_true] at e3
  subst e3
  obtain ⟨x4, e4, f4⟩ := Sees.int Tryd.underlying22 g4
  simp only [List.cons.injEq, and_true] at e4
  subst e4
  obtain ⟨x5, e5, f5⟩ := Sees.int Tryd.underlying22 g5
  simp only [List.cons.injEq, and_true] at e5
  subst e5
  obtain ⟨x6, e6, f6⟩ := Sees.int Tryd.underlying22 g6
  simp only [List.cons.injEq, and_true] at e6
  subst e6
  obtain ⟨x7, x8, x9, x10, x11, x12, x13, x14, x15, x16, x17, x18, x19, e7, f7, f8, f9, f10, f11, f12, f13, f14, f15, f16, f17, f18, f19⟩ := open25 (k := k + 0) g7
  simp only [List.cons.injEq, and_true] at e7
  obtain ⟨rfl, rfl, rfl, rfl, rfl, rfl, rfl, rfl, rfl, rfl, rfl, rfl, rfl⟩ := e7
  exact ⟨x0, x1, x2, x3, x4, x5, x6, x7, x8, x9, x10, x11, x12, x13, x14, x15, x16, x17, x18, x19, rfl, f0, f1, f2, f3, f4, f5, f6, f7, f8, f9, f10, f11, f12, f13, f14, f15, f16, f17, f18, f19⟩
theorem openA27 {w : World} {R k : Nat} {a : Array Value} (h : Sees Tryd.prog w R (k + 3) 27 a.toList) : ∃ (x0 : Int) (x1 : Int) (x2 : Int) (x3 : Int) (x4 : Int) (x5 : Int) (x6 : Int) (x7 : Int) (x8 : Int) (x9 : Int) (x10 : Int) (x11 : Int) (x12 : Int) (x13 : Int) (x14 : Int) (x15 : Int) (x16 : Int) (x17 : ByteArray) (x18 : ByteArray) (x19 : ByteArray), a = #[.int .i64 x0, .int .i64 x1, .int .i64 x2, .int .u32 x3, .int .u32 x4, .int .u32 x5, .int .u32 x6, .int .i64 x7, .int .i64 x8, .int .u32 x9, .int .u32 x10, .int .u32 x11, .int .u32 x12, .int .u32 x13, .int .u32 x14, .int .u32 x15, .int .u32 x16, .string x17, .string x18, .string x19] ∧ (Lit.int .i64 x0).wf = true ∧ (Lit.int .i64 x1).wf = true ∧ (Lit.int .i64 x2).wf = true ∧ (Lit.int .u32 x3).wf = true ∧ (Lit.int .u32 x4).wf = true ∧ (Lit.int .u32 x5).wf = true ∧ (Lit.int .u32 x6).wf = true ∧ (Lit.int .i64 x7).wf = true ∧ (Lit.int .i64 x8).wf = true ∧ (Lit.int .u32 x9).wf = true ∧ (Lit.int .u32 x10).wf = true ∧ (Lit.int .u32 x11).wf = true ∧ (Lit.int .u32 x12).wf = true ∧ (Lit.int .u32 x13).wf = true ∧ (Lit.int .u32 x14).wf = true ∧ (Lit.int .u32 x15).wf = true ∧ (Lit.int .u32 x16).wf = true ∧ x17.size ≤ R ∧ x18.size ≤ R ∧ x19.size ≤ R := by
  obtain ⟨x0, x1, x2, x3, x4, x5, x6, x7, x8, x9, x10, x11, x12, x13, x14, x15, x16, x17, x18, x19, e, hh⟩ := open27 h
  exact ⟨x0, x1, x2, x3, x4, x5, x6, x7, x8, x9, x10, x11, x12, x13, x14, x15, x16, x17, x18, x19, Array.toList_inj.1 (by simpa using e), hh⟩
theorem open52 {w : World} {R k : Nat} {cs : List Value} (h : Sees Tryd.prog w R (k + 4) 52 cs) : ∃ (x0 : Int) (x1 : Int) (x2 : Int) (x3 : Int) (x4 : Int) (x5 : Int) (x6 : Int) (x7 : Int) (x8 : Int) (x9 : Int) (x10 : Int) (x11 : Int) (x12 : Int) (x13 : Int) (x14 : Int) (x15 : Int) (x16 : Int) (x17 : Int) (x18 : Int) (x19 : Int) (x20 : ByteArray) (x21 : ByteArray) (x22 : ByteArray), cs = [.int .i64 x0, .int .i64 x1, .int .i64 x2, .int .i64 x3, .int .i64 x4, .int .i64 x5, .int .u32 x6, .int .u32 x7, .int .u32 x8, .int .u32 x9, .int .i64 x10, .int .i64 x11, .int .u32 x12, .int .u32 x13, .int .u32 x14, .int .u32 x15, .int .u32 x16, .int .u32 x17, .int .u32 x18, .int .u32 x19, .string x20, .string x21, .string x22] ∧ (Lit.int .i64 x0).wf = true ∧ (Lit.int .i64 x1).wf = true ∧ (Lit.int .i64 x2).wf = true ∧ (Lit.int .i64 x3).wf = true ∧ (Lit.int .i64 x4).wf = true ∧ (Lit.int .i64 x5).wf = true ∧ (Lit.int .u32 x6).wf = true ∧ (Lit.int .u32 x7).wf = true ∧ (Lit.int .u32 x8).wf = true ∧ (Lit.int .u32 x9).wf = true ∧ (Lit.int .i64 x10).wf = true ∧ (Lit.int .i64 x11).wf = true ∧ (Lit.int .u32 x12).wf = true ∧ (Lit.int .u32 x13).wf = true ∧ (Lit.int .u32 x14).wf = true ∧ (Lit.int .u32 x15).wf = true ∧ (Lit.int .u32 x16).wf = true ∧ (Lit.int .u32 x17).wf = true ∧ (Lit.int .u32 x18).wf = true ∧ (Lit.int .u32 x19).wf = true ∧ x20.size ≤ R ∧ x21.size ≤ R ∧ x22.size ≤ R := by
  obtain ⟨hl, hf⟩ := h.struct Tryd.underlying52
  rw [show Tryd.prog.cellsOf 52 = 23 from by kernel_rfl] at hl
  obtain ⟨c0, c1, c2, c3, c4, c5, c6, c7, c8, c9, c10, c11, c12, c13, c14, c15, c16, c17, c18, c19, c20, c21, c22, rfl⟩ := cells_23 cs hl
  have hp : Sees Tryd.prog w R (k + 3) 3 [c0] ∧ Sees Tryd.prog w R (k + 3) 3 [c1] ∧ Sees Tryd.prog w R (k + 3) 3 [c2] ∧ Sees Tryd.prog w R (k + 3) 27 [c3, c4, c5, c6, c7, c8, c9, c10, c11, c12, c13, c14, c15, c16, c17, c18, c19, c20, c21, c22] := by simpa [show Tryd.prog.cellsOf 3 = 1 from by kernel_rfl, show Tryd.prog.cellsOf 27 = 20 from by kernel_rfl] using hf
  obtain ⟨g0, g1, g2, g3⟩ := hp
  obtain ⟨x0, e0, f0⟩ := Sees.int Tryd.underlying3 g0
  simp only [List.cons.injEq, and_true] at e0
  subst e0
  obtain ⟨x1, e1, f1⟩ := Sees.int Tryd.underlying3 g1
  simp only [List.cons.injEq, and_true] at e1
  subst e1
  obtain ⟨x2, e2, f2⟩ := Sees.int Tryd.underlying3 g2
  simp only [List.cons.injEq, and_true] at e2
  subst e2
  obtain ⟨x3, x4, x5, x6, x7, x8, x9, x10, x11, x12, x13, x14, x15, x16, x17, x18, x19, x20, x21, x22, e3, f3, f4, f5, f6, f7, f8, f9, f10, f11, f12, f13, f14, f15, f16, f17, f18, f19, f20, f21, f22⟩ := open27 (k := k + 0) g3
  simp only [List.cons.injEq, and_true] at e3
  obtain ⟨rfl, rfl, rfl, rfl, rfl, rfl, rfl, rfl, rfl, rfl, rfl, rfl, rfl, rfl, rfl, rfl, rfl, rfl, rfl, rfl⟩ := e3
  exact ⟨x0, x1, x2, x3, x4, x5, x6, x7, x8, x9, x10, x11, x12, x13, x14, x15, x16, x17, x18, x19, x20, x21, x22, rfl, f0, f1, f2, f3, f4, f5, f6, f7, f8, f9, f10, f11, f12, f13, f14, f15, f16, f17, f18, f19, f20, f21, f22⟩
theorem openA52 {w : World} {R k : Nat} {a : Array Value} (h : Sees Tryd.prog w R (k + 4) 52 a.toList) : ∃ (x0 : Int) (x1 : Int) (x2 : Int) (x3 : Int) (x4 : Int) (x5 : Int) (x6 : Int) (x7 : Int) (x8 : Int) (x9 : Int) (x10 : Int) (x11 : Int) (x12 : Int) (x13 : Int) (x14 : Int) (x15 : Int) (x16 : Int) (x17 : Int) (x18 : Int) (x19 : Int) (x20 : ByteArray) (x21 : ByteArray) (x22 : ByteArray), a = #[.int .i64 x0, .int .i64 x1, .int .i64 x2, .int .i64 x3, .int .i64 x4, .int .i64 x5, .int .u32 x6, .int .u32 x7, .int .u32 x8, .int .u32 x9, .int .i64 x10, .int .i64 x11, .int .u32 x12, .int .u32 x13, .int .u32 x14, .int .u32 x15, .int .u32 x16, .int .u32 x17, .int .u32 x18, .int .u32 x19, .string x20, .string x21, .string x22] ∧ (Lit.int .i64 x0).wf = true ∧ (Lit.int .i64 x1).wf = true ∧ (Lit.int .i64 x2).wf = true ∧ (Lit.int .i64 x3).wf = true ∧ (Lit.int .i64 x4).wf = true ∧ (Lit.int .i64 x5).wf = true ∧ (Lit.int .u32 x6).wf = true ∧ (Lit.int .u32 x7).wf = true ∧ (Lit.int .u32 x8).wf = true ∧ (Lit.int .u32 x9).wf = true ∧ (Lit.int .i64 x10).wf = true ∧ (Lit.int .i64 x11).wf = true ∧ (Lit.int .u32 x12).wf = true ∧ (Lit.int .u32 x13).wf = true ∧ (Lit.int .u32 x14).wf = true ∧ (Lit.int .u32 x15).wf = true ∧ (Lit.int .u32 x16).wf = true ∧ (Lit.int .u32 x17).wf = true ∧ (Lit.int .u32 x18).wf = true ∧ (Lit.int .u32 x19).wf = true ∧ x20.size ≤ R ∧ x21.size ≤ R ∧ x22.size ≤ R := by
  obtain ⟨x0, x1, x2, x3, x4, x5, x6, x7, x8, x9, x10, x11, x12, x13, x14, x15, x16, x17, x18, x19, x20, x21, x22, e, hh⟩ := open52 h
  exact ⟨x0, x1, x2, x3, x4, x5, x6, x7, x8, x9, x10, x11, x12, x13, x14, x15, x16, x17, x18, x19, x20, x21, x22, Array.toList_inj.1 (by simpa using e), hh⟩
end Go.Proofs.YtiedmkgdhfkcoaaDoor.Opens
