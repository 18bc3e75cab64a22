/- What a struct of the law's arguments holds, cell by cell. -/
import Derived.Test.YtmphnfkohilojaaSees
import Derived.Test.YtmphnfkohilojaaProg
import Derived.KernelRfl
namespace Go.Proofs.Ytmphnfkohilojaa.Opens
open Go.Sees
set_option linter.unusedVariables false
theorem cells_4 (cs : List Value) (h : cs.length = 4) : ∃ c0 c1 c2 c3, cs = [c0, c1, c2, c3] := by
  match cs, h with
  | [c0, c1, c2, c3], _ => exact ⟨c0, c1, c2, c3, rfl⟩
theorem open30 {w : World} {R k : Nat} {cs : List Value} (h : Sees Try.prog w R (k + 2) 30 cs) : ∃ (x0 : Int) (x1 : Int) (x2 : Int) (x3 : Int), cs = [.int .i64 x0, .int .i64 x1, .int .u8 x2, .int .u64 x3] ∧ (Lit.int .i64 x0).wf = true ∧ (Lit.int .i64 x1).wf = true ∧ (Lit.int .u8 x2).wf = true ∧ (Lit.int .u64 x3).wf = true := by
  obtain ⟨hl, hf⟩ := h.struct Try.underlying30
  rw [show Try.prog.cellsOf 30 = 4 from by kernel_rfl] at hl
  obtain ⟨c0, c1, c2, c3, rfl⟩ := cells_4 cs hl
  have hp : Sees Try.prog w R (k + 1) 3 [c0] ∧ Sees Try.prog w R (k + 1) 3 [c1] ∧ Sees Try.prog w R (k + 1) 5 [c2] ∧ Sees Try.prog w R (k + 1) 28 [c3] := by simpa [show Try.prog.cellsOf 3 = 1 from by kernel_rfl, show Try.prog.cellsOf 5 = 1 from by kernel_rfl, show Try.prog.cellsOf 28 = 1 from by kernel_rfl] using hf
  obtain ⟨g0, g1, g2, g3⟩ := hp
  obtain ⟨x0, e0, f0⟩ := Sees.int Try.underlying3 g0
  simp only [List.cons.injEq, and_true] at e0
  subst e0
  obtain ⟨x1, e1, f1⟩ := Sees.int Try.underlying3 g1
  simp only [List.cons.injEq, and_true] at e1
  subst e1
  obtain ⟨x2, e2, f2⟩ := Sees.int Try.underlying5 g2
  simp only [List.cons.injEq, and_true] at e2
  subst e2
  obtain ⟨x3, e3, f3⟩ := Sees.int Try.underlying28 g3
  simp only [List.cons.injEq, and_true] at e3
  subst e3
  exact ⟨x0, x1, x2, x3, rfl, f0, f1, f2, f3⟩
theorem openA30 {w : World} {R k : Nat} {a : Array Value} (h : Sees Try.prog w R (k + 2) 30 a.toList) : ∃ (x0 : Int) (x1 : Int) (x2 : Int) (x3 : Int), a = #[.int .i64 x0, .int .i64 x1, .int .u8 x2, .int .u64 x3] ∧ (Lit.int .i64 x0).wf = true ∧ (Lit.int .i64 x1).wf = true ∧ (Lit.int .u8 x2).wf = true ∧ (Lit.int .u64 x3).wf = true := by
  obtain ⟨x0, x1, x2, x3, e, hh⟩ := open30 h
  exact ⟨x0, x1, x2, x3, Array.toList_inj.1 (by simpa using e), hh⟩
end Go.Proofs.Ytmphnfkohilojaa.Opens
