/- What a struct of the law's arguments holds, cell by cell. -/
import Derived.Test.YtkcacfnefhakbaaSees
import Derived.Test.YtkcacfnefhakbaaProg
import Derived.KernelRfl
namespace Go.Proofs.Ytkcacfnefhakbaa.OpensAct
open Go.Sees
set_option linter.unusedVariables false
theorem cells_3 (cs : List Value) (h : cs.length = 3) : ∃ c0 c1 c2, cs = [c0, c1, c2] := by
  match cs, h with
  | [c0, c1, c2], _ => exact ⟨c0, c1, c2, rfl⟩
theorem open49 {w : World} {R k : Nat} {cs : List Value} (h : Sees Try.prog w R (k + 2) 49 cs) : ∃ (x0 : Int) (x1 : Int) (x2 : Int), cs = [.int .i64 x0, .int .u32 x1, .int .u32 x2] ∧ (Lit.int .i64 x0).wf = true ∧ (Lit.int .u32 x1).wf = true ∧ (Lit.int .u32 x2).wf = true := by
  obtain ⟨hl, hf⟩ := h.struct Try.underlying49
  rw [show Try.prog.cellsOf 49 = 3 from by kernel_rfl] at hl
  obtain ⟨c0, c1, c2, rfl⟩ := cells_3 cs hl
  have hp : Sees Try.prog w R (k + 1) 3 [c0] ∧ Sees Try.prog w R (k + 1) 22 [c1] ∧ Sees Try.prog w R (k + 1) 22 [c2] := by simpa [show Try.prog.cellsOf 3 = 1 from by kernel_rfl, show Try.prog.cellsOf 22 = 1 from by kernel_rfl] using hf
  obtain ⟨g0, g1, g2⟩ := hp
  obtain ⟨x0, e0, f0⟩ := Sees.int Try.underlying3 g0
  simp only [List.cons.injEq, and_true] at e0
  subst e0
  obtain ⟨x1, e1, f1⟩ := Sees.int Try.underlying22 g1
  simp only [List.cons.injEq, and_true] at e1
  subst e1
  obtain ⟨x2, e2, f2⟩ := Sees.int Try.underlying22 g2
  simp only [List.cons.injEq, and_true] at e2
  subst e2
  exact ⟨x0, x1, x2, rfl, f0, f1, f2⟩
theorem openA49 {w : World} {R k : Nat} {a : Array Value} (h : Sees Try.prog w R (k + 2) 49 a.toList) : ∃ (x0 : Int) (x1 : Int) (x2 : Int), a = #[.int .i64 x0, .int .u32 x1, .int .u32 x2] ∧ (Lit.int .i64 x0).wf = true ∧ (Lit.int .u32 x1).wf = true ∧ (Lit.int .u32 x2).wf = true := by
  obtain ⟨x0, x1, x2, e, hh⟩ := open49 h
  exact ⟨x0, x1, x2, Array.toList_inj.1 (by simpa using e), hh⟩
end Go.Proofs.Ytkcacfnefhakbaa.OpensAct
