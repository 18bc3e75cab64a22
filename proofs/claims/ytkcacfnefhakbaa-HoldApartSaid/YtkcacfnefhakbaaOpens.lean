/- What a struct of the law's arguments holds, cell by cell. -/
import Derived.Test.YtkcacfnefhakbaaSees
import Derived.Test.YtkcacfnefhakbaaProg
import Derived.KernelRfl
namespace Go.Proofs.Ytkcacfnefhakbaa.Opens
open Go.Sees
set_option linter.unusedVariables false
theorem cells_2 (cs : List Value) (h : cs.length = 2) : ∃ c0 c1, cs = [c0, c1] := by
  match cs, h with
  | [c0, c1], _ => exact ⟨c0, c1, rfl⟩
theorem cells_7 (cs : List Value) (h : cs.length = 7) : ∃ c0 c1 c2 c3 c4 c5 c6, cs = [c0, c1, c2, c3, c4, c5, c6] := by
  match cs, h with
  | [c0, c1, c2, c3, c4, c5, c6], _ => exact ⟨c0, c1, c2, c3, c4, c5, c6, rfl⟩
theorem open40 {w : World} {R k : Nat} {cs : List Value} (h : Sees Try.prog w R (k + 2) 40 cs) : ∃ (x0 : Int) (x1 : Int), cs = [.int .u32 x0, .int .u32 x1] ∧ (Lit.int .u32 x0).wf = true ∧ (Lit.int .u32 x1).wf = true := by
  obtain ⟨hl, hf⟩ := h.struct Try.underlying40
  rw [show Try.prog.cellsOf 40 = 2 from by kernel_rfl] at hl
  obtain ⟨c0, c1, rfl⟩ := cells_2 cs hl
  have hp : Sees Try.prog w R (k + 1) 22 [c0] ∧ Sees Try.prog w R (k + 1) 22 [c1] := by simpa [show Try.prog.cellsOf 22 = 1 from by kernel_rfl] using hf
  obtain ⟨g0, g1⟩ := hp
  obtain ⟨x0, e0, f0⟩ := Sees.int Try.underlying22 g0
  simp only [List.cons.injEq, and_true] at e0
  subst e0
  obtain ⟨x1, e1, f1⟩ := Sees.int Try.underlying22 g1
  simp only [List.cons.injEq, and_true] at e1
  subst e1
  exact ⟨x0, x1, rfl, f0, f1⟩
theorem openA40 {w : World} {R k : Nat} {a : Array Value} (h : Sees Try.prog w R (k + 2) 40 a.toList) : ∃ (x0 : Int) (x1 : Int), a = #[.int .u32 x0, .int .u32 x1] ∧ (Lit.int .u32 x0).wf = true ∧ (Lit.int .u32 x1).wf = true := by
  obtain ⟨x0, x1, e, hh⟩ := open40 h
  exact ⟨x0, x1, Array.toList_inj.1 (by simpa using e), hh⟩
theorem open25 {w : World} {R k : Nat} {cs : List Value} (h : Sees Try.prog w R (k + 2) 25 cs) : ∃ (x0 : Int) (x1 : Int) (x2 : Int) (x3 : Int) (x4 : Bool) (x5 : Bool) (x6 : Value), cs = [.int .u32 x0, .int .u32 x1, .int .u32 x2, .int .u32 x3, .bool x4, .bool x5, x6] ∧ (Lit.int .u32 x0).wf = true ∧ (Lit.int .u32 x1).wf = true ∧ (Lit.int .u32 x2).wf = true ∧ (Lit.int .u32 x3).wf = true ∧ Sees Try.prog w R (k + 1) 23 [x6] := by
  obtain ⟨hl, hf⟩ := h.struct Try.underlying25
  rw [show Try.prog.cellsOf 25 = 7 from by kernel_rfl] at hl
  obtain ⟨c0, c1, c2, c3, c4, c5, c6, rfl⟩ := cells_7 cs hl
  have hp : Sees Try.prog w R (k + 1) 22 [c0] ∧ Sees Try.prog w R (k + 1) 22 [c1] ∧ Sees Try.prog w R (k + 1) 22 [c2] ∧ Sees Try.prog w R (k + 1) 22 [c3] ∧ Sees Try.prog w R (k + 1) 4 [c4] ∧ Sees Try.prog w R (k + 1) 4 [c5] ∧ Sees Try.prog w R (k + 1) 23 [c6] := by simpa [show Try.prog.cellsOf 4 = 1 from by kernel_rfl, show Try.prog.cellsOf 22 = 1 from by kernel_rfl, show Try.prog.cellsOf 23 = 1 from by kernel_rfl] using hf
  obtain ⟨g0, g1, g2, g3, g4, g5, g6⟩ := hp
  obtain ⟨x0, e0, f0⟩ := Sees.int Try.underlying22 g0
  simp only [List.cons.injEq, and_true] at e0
  subst e0
  obtain ⟨x1, e1, f1⟩ := Sees.int Try.underlying22 g1
  simp only [List.cons.injEq, and_true] at e1
  subst e1
  obtain ⟨x2, e2, f2⟩ := Sees.int Try.underlying22 g2
  simp only [List.cons.injEq, and_true] at e2
  subst e2
  obtain ⟨x3, e3, f3⟩ := Sees.int Try.underlying22 g3
  simp only [List.cons.injEq, and_true] at e3
  subst e3
  obtain ⟨x4, e4⟩ := Sees.bool Try.underlying4 g4
  simp only [List.cons.injEq, and_true] at e4
  subst e4
  obtain ⟨x5, e5⟩ := Sees.bool Try.underlying4 g5
  simp only [List.cons.injEq, and_true] at e5
  subst e5
  have f6 := g6
  exact ⟨x0, x1, x2, x3, x4, x5, c6, rfl, f0, f1, f2, f3, f6⟩
theorem openA25 {w : World} {R k : Nat} {a : Array Value} (h : Sees Try.prog w R (k + 2) 25 a.toList) : ∃ (x0 : Int) (x1 : Int) (x2 : Int) (x3 : Int) (x4 : Bool) (x5 : Bool) (x6 : Value), a = #[.int .u32 x0, .int .u32 x1, .int .u32 x2, .int .u32 x3, .bool x4, .bool x5, x6] ∧ (Lit.int .u32 x0).wf = true ∧ (Lit.int .u32 x1).wf = true ∧ (Lit.int .u32 x2).wf = true ∧ (Lit.int .u32 x3).wf = true ∧ Sees Try.prog w R (k + 1) 23 [x6] := by
  obtain ⟨x0, x1, x2, x3, x4, x5, x6, e, hh⟩ := open25 h
  exact ⟨x0, x1, x2, x3, x4, x5, x6, Array.toList_inj.1 (by simpa using e), hh⟩
end Go.Proofs.Ytkcacfnefhakbaa.Opens
