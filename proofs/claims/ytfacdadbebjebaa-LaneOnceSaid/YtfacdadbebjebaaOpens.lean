/- What a struct of the law's arguments holds, cell by cell. -/
import Derived.Test.YtfacdadbebjebaaSees
import Derived.Test.YtfacdadbebjebaaProg
import Derived.KernelRfl
namespace Go.Proofs.Ytfacdadbebjebaa.Opens
open Go.Sees
set_option linter.unusedVariables false
set_option maxRecDepth 100000
theorem cells_2 (cs : List Value) (h : cs.length = 2) : ∃ c0 c1, cs = [c0, c1] := by
  match cs, h with
  | [c0, c1], _ => exact ⟨c0, c1, rfl⟩
theorem open38 {w : World} {R k : Nat} {cs : List Value} (h : Sees Try.prog w R (k + 2) 38 cs) : ∃ (x0 : Int) (x1 : Int), cs = [.int .i64 x0, .int .i64 x1] ∧ (Lit.int .i64 x0).wf = true ∧ (Lit.int .i64 x1).wf = true := by
  obtain ⟨hl, hf⟩ := h.struct Try.underlying38
  rw [show Try.prog.cellsOf 38 = 2 from by kernel_rfl] at hl
  obtain ⟨c0, c1, rfl⟩ := cells_2 cs hl
  have hp : Sees Try.prog w R (k + 1) 3 [c0] ∧ Sees Try.prog w R (k + 1) 3 [c1] := by simpa [show Try.prog.cellsOf 3 = 1 from by kernel_rfl] using hf
  obtain ⟨g0, g1⟩ := hp
  obtain ⟨x0, e0, f0⟩ := Sees.int Try.underlying3 g0
  simp only [List.cons.injEq, and_true] at e0
  subst e0
  obtain ⟨x1, e1, f1⟩ := Sees.int Try.underlying3 g1
  simp only [List.cons.injEq, and_true] at e1
  subst e1
  exact ⟨x0, x1, rfl, f0, f1⟩
theorem openA38 {w : World} {R k : Nat} {a : Array Value} (h : Sees Try.prog w R (k + 2) 38 a.toList) : ∃ (x0 : Int) (x1 : Int), a = #[.int .i64 x0, .int .i64 x1] ∧ (Lit.int .i64 x0).wf = true ∧ (Lit.int .i64 x1).wf = true := by
  obtain ⟨x0, x1, e, hh⟩ := open38 h
  exact ⟨x0, x1, Array.toList_inj.1 (by simpa using e), hh⟩
end Go.Proofs.Ytfacdadbebjebaa.Opens
