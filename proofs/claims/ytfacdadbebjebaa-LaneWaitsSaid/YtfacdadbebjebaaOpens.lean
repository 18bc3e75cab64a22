/- What a struct of the law's arguments holds, cell by cell. -/
import Derived.Test.YtfacdadbebjebaaSees
import Derived.Test.YtfacdadbebjebaaProg
import Derived.KernelRfl
namespace Go.Proofs.Ytfacdadbebjebaa.Opens
open Go.Sees
set_option linter.unusedVariables false
theorem cells_2 (cs : List Value) (h : cs.length = 2) : ∃ c0 c1, cs = [c0, c1] := by
  match cs, h with
  | [c0, c1], _ => exact ⟨c0, c1, rfl⟩
theorem cells_3 (cs : List Value) (h : cs.length = 3) : ∃ c0 c1 c2, cs = [c0, c1, c2] := by
  match cs, h with
  | [c0, c1, c2], _ => exact ⟨c0, c1, c2, rfl⟩
theorem cells_7 (cs : List Value) (h : cs.length = 7) : ∃ c0 c1 c2 c3 c4 c5 c6, cs = [c0, c1, c2, c3, c4, c5, c6] := by
  match cs, h with
  | [c0, c1, c2, c3, c4, c5, c6], _ => exact ⟨c0, c1, c2, c3, c4, c5, c6, rfl⟩
theorem open24 {w : World} {R k : Nat} {cs : List Value} (h : Sees Try.prog w R (k + 2) 24 cs) : ∃ (x0 : Int) (x1 : Int) (x2 : ByteArray), cs = [.int .u32 x0, .int .u32 x1, .string x2] ∧ (Lit.int .u32 x0).wf = true ∧ (Lit.int .u32 x1).wf = true ∧ x2.size ≤ R := by
  obtain ⟨hl, hf⟩ := h.struct Try.underlying24
  rw [show Try.prog.cellsOf 24 = 3 from by kernel_rfl] at hl
  obtain ⟨c0, c1, c2, rfl⟩ := cells_3 cs hl
  have hp : Sees Try.prog w R (k + 1) 22 [c0] ∧ Sees Try.prog w R (k + 1) 22 [c1] ∧ Sees Try.prog w R (k + 1) 9 [c2] := by simpa [show Try.prog.cellsOf 9 = 1 from by kernel_rfl, show Try.prog.cellsOf 22 = 1 from by kernel_rfl] using hf
  obtain ⟨g0, g1, g2⟩ := hp
  obtain ⟨x0, e0, f0⟩ := Sees.int Try.underlying22 g0
  simp only [List.cons.injEq, and_true] at e0
  subst e0
  obtain ⟨x1, e1, f1⟩ := Sees.int Try.underlying22 g1
  simp only [List.cons.injEq, and_true] at e1
  subst e1
  obtain ⟨x2, e2, f2⟩ := Sees.string Try.underlying9 g2
  simp only [List.cons.injEq, and_true] at e2
  subst e2
  exact ⟨x0, x1, x2, rfl, f0, f1, f2⟩
theorem openA24 {w : World} {R k : Nat} {a : Array Value} (h : Sees Try.prog w R (k + 2) 24 a.toList) : ∃ (x0 : Int) (x1 : Int) (x2 : ByteArray), a = #[.int .u32 x0, .int .u32 x1, .string x2] ∧ (Lit.int .u32 x0).wf = true ∧ (Lit.int .u32 x1).wf = true ∧ x2.size ≤ R := by
  obtain ⟨x0, x1, x2, e, hh⟩ := open24 h
  exact ⟨x0, x1, x2, Array.toList_inj.1 (by simpa using e), hh⟩
theorem open30 {w : World} {R k : Nat} {cs : List Value} (h : Sees Try.prog w R (k + 2) 30 cs) : ∃ (x0 : Int) (x1 : Int) (x2 : Int) (x3 : Bool) (x4 : ByteArray) (x5 : Int) (x6 : Int), cs = [.int .u32 x0, .int .u32 x1, .int .u32 x2, .bool x3, .string x4, .int .i64 x5, .int .i64 x6] ∧ (Lit.int .u32 x0).wf = true ∧ (Lit.int .u32 x1).wf = true ∧ (Lit.int .u32 x2).wf = true ∧ x4.size ≤ R ∧ (Lit.int .i64 x5).wf = true ∧ (Lit.int .i64 x6).wf = true := by
  obtain ⟨hl, hf⟩ := h.struct Try.underlying30
  rw [show Try.prog.cellsOf 30 = 7 from by kernel_rfl] at hl
  obtain ⟨c0, c1, c2, c3, c4, c5, c6, rfl⟩ := cells_7 cs hl
  have hp : Sees Try.prog w R (k + 1) 22 [c0] ∧ Sees Try.prog w R (k + 1) 22 [c1] ∧ Sees Try.prog w R (k + 1) 22 [c2] ∧ Sees Try.prog w R (k + 1) 4 [c3] ∧ Sees Try.prog w R (k + 1) 9 [c4] ∧ Sees Try.prog w R (k + 1) 3 [c5] ∧ Sees Try.prog w R (k + 1) 3 [c6] := by simpa [show Try.prog.cellsOf 3 = 1 from by kernel_rfl, show Try.prog.cellsOf 4 = 1 from by kernel_rfl, show Try.prog.cellsOf 9 = 1 from by kernel_rfl, show Try.prog.cellsOf 22 = 1 from by kernel_rfl] using hf
  obtain ⟨g0, g1, g2, g3, g4, g5, g6⟩ := hp
  obtain ⟨x0, e0, f0⟩ := Sees.int Try.underlying22 g0
  simp only [List.cons.injEq, and_true] at e0
  subst e0
  obtain ⟨x1, e1, f1⟩ := Sees.int Try.underlying22 g1
  simp only [List.cons.injEq, and_true] at e1
  subst e1
  obtain ⟨x2, e2, f2⟩ := Sees.int Try.underlying22 g2
  simp only [List.cons.injEq, and_true] at e2
  subst e2
  obtain ⟨x3, e3⟩ := Sees.bool Try.underlying4 g3
  simp only [List.cons.injEq, and_true] at e3
  subst e3
  obtain ⟨x4, e4, f4⟩ := Sees.string Try.underlying9 g4
  simp only [List.cons.injEq, and_true] at e4
  subst e4
  obtain ⟨x5, e5, f5⟩ := Sees.int Try.underlying3 g5
  simp only [List.cons.injEq, and_true] at e5
  subst e5
  obtain ⟨x6, e6, f6⟩ := Sees.int Try.underlying3 g6
  simp only [List.cons.injEq, and_true] at e6
  subst e6
  exact ⟨x0, x1, x2, x3, x4, x5, x6, rfl, f0, f1, f2, f4, f5, f6⟩
theorem openA30 {w : World} {R k : Nat} {a : Array Value} (h : Sees Try.prog w R (k + 2) 30 a.toList) : ∃ (x0 : Int) (x1 : Int) (x2 : Int) (x3 : Bool) (x4 : ByteArray) (x5 : Int) (x6 : Int), a = #[.int .u32 x0, .int .u32 x1, .int .u32 x2, .bool x3, .string x4, .int .i64 x5, .int .i64 x6] ∧ (Lit.int .u32 x0).wf = true ∧ (Lit.int .u32 x1).wf = true ∧ (Lit.int .u32 x2).wf = true ∧ x4.size ≤ R ∧ (Lit.int .i64 x5).wf = true ∧ (Lit.int .i64 x6).wf = true := by
  obtain ⟨x0, x1, x2, x3, x4, x5, x6, e, hh⟩ := open30 h
  exact ⟨x0, x1, x2, x3, x4, x5, x6, Array.toList_inj.1 (by simpa using e), hh⟩
theorem open38 {w : World} {R k : Nat} {cs : List Value} (h : Sees Try.prog w R (k + 2) 38 cs) : ∃ (x0 : Int) (x1 : Int), cs = [.int .i64 x0, .int .i64 x1] ∧ (Lit.int .i64 x0).wf = true ∧ (Lit.int .i64 x1).wf = true := by
  obtain ⟨hl, hf⟩ := h.struct Try.underlying38
  rw [show Try.prog.cellsOf 38 = 2 from by kernel_rfl] at hl
  obtain ⟨c0, c1, rfl⟩ := cells_2 cs hl
  have hp : Sees Try.prog w R (k + 1) 3 [c0] ∧ Sees Try.prog w R (k + 1) 3 [c1] := by simpa [show Try.prog.cellsOf 3 = 1 from by kernel_rfl] using hf
  obtain ⟨g0, g1⟩ := hp
  obtain ⟨x0, e0, f0⟩ := Sees.int Try.underlying3 g0
  simp only [List.cons.injEq, and_true] at e0
  subst e0
  obtain ⟨x1, e1, f1⟩ := Sees.int Try.underlying3 g1
  simp only [List.cons.injEq, and_true] at e1
  subst e1
  exact ⟨x0, x1, rfl, f0, f1⟩
theorem openA38 {w : World} {R k : Nat} {a : Array Value} (h : Sees Try.prog w R (k + 2) 38 a.toList) : ∃ (x0 : Int) (x1 : Int), a = #[.int .i64 x0, .int .i64 x1] ∧ (Lit.int .i64 x0).wf = true ∧ (Lit.int .i64 x1).wf = true := by
  obtain ⟨x0, x1, e, hh⟩ := open38 h
  exact ⟨x0, x1, Array.toList_inj.1 (by simpa using e), hh⟩
end Go.Proofs.Ytfacdadbebjebaa.Opens
