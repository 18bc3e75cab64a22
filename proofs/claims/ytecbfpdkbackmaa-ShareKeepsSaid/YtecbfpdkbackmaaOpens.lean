/- What a struct of the law's arguments holds, cell by cell. -/
import Derived.Test.YtecbfpdkbackmaaSees
import Derived.Test.YtecbfpdkbackmaaProg
import Derived.KernelRfl
namespace Go.Proofs.Ytecbfpdkbackmaa.Opens
open Go.Sees
set_option linter.unusedVariables false
theorem cells_5 (cs : List Value) (h : cs.length = 5) : ∃ c0 c1 c2 c3 c4, cs = [c0, c1, c2, c3, c4] := by
  match cs, h with
  | [c0, c1, c2, c3, c4], _ => exact ⟨c0, c1, c2, c3, c4, rfl⟩
theorem open27 {w : World} {R k : Nat} {cs : List Value} (h : Sees Try.prog w R (k + 2) 27 cs) : ∃ (x0 : Int) (x1 : Int) (x2 : Int) (x3 : Int) (x4 : Int), cs = [.int .u32 x0, .int .u32 x1, .int .u32 x2, .int .u32 x3, .int .u32 x4] ∧ (Lit.int .u32 x0).wf = true ∧ (Lit.int .u32 x1).wf = true ∧ (Lit.int .u32 x2).wf = true ∧ (Lit.int .u32 x3).wf = true ∧ (Lit.int .u32 x4).wf = true := by
  obtain ⟨hl, hf⟩ := h.struct Try.underlying27
  rw [show Try.prog.cellsOf 27 = 5 from by kernel_rfl] at hl
  obtain ⟨c0, c1, c2, c3, c4, rfl⟩ := cells_5 cs hl
  have hp : Sees Try.prog w R (k + 1) 23 [c0] ∧ Sees Try.prog w R (k + 1) 23 [c1] ∧ Sees Try.prog w R (k + 1) 23 [c2] ∧ Sees Try.prog w R (k + 1) 23 [c3] ∧ Sees Try.prog w R (k + 1) 23 [c4] := by simpa [show Try.prog.cellsOf 23 = 1 from by kernel_rfl] using hf
  obtain ⟨g0, g1, g2, g3, g4⟩ := hp
  obtain ⟨x0, e0, f0⟩ := Sees.int Try.underlying23 g0
  simp only [List.cons.injEq, and_true] at e0
  subst e0
  obtain ⟨x1, e1, f1⟩ := Sees.int Try.underlying23 g1
  simp only [List.cons.injEq, and_true] at e1
  subst e1
  obtain ⟨x2, e2, f2⟩ := Sees.int Try.underlying23 g2
  simp only [List.cons.injEq, and_true] at e2
  subst e2
  obtain ⟨x3, e3, f3⟩ := Sees.int Try.underlying23 g3
  simp only [List.cons.injEq, and_true] at e3
  subst e3
  obtain ⟨x4, e4, f4⟩ := Sees.int Try.underlying23 g4
  simp only [List.cons.injEq, and_true] at e4
  subst e4
  exact ⟨x0, x1, x2, x3, x4, rfl, f0, f1, f2, f3, f4⟩
theorem openA27 {w : World} {R k : Nat} {a : Array Value} (h : Sees Try.prog w R (k + 2) 27 a.toList) : ∃ (x0 : Int) (x1 : Int) (x2 : Int) (x3 : Int) (x4 : Int), a = #[.int .u32 x0, .int .u32 x1, .int .u32 x2, .int .u32 x3, .int .u32 x4] ∧ (Lit.int .u32 x0).wf = true ∧ (Lit.int .u32 x1).wf = true ∧ (Lit.int .u32 x2).wf = true ∧ (Lit.int .u32 x3).wf = true ∧ (Lit.int .u32 x4).wf = true := by
  obtain ⟨x0, x1, x2, x3, x4, e, hh⟩ := open27 h
  exact ⟨x0, x1, x2, x3, x4, Array.toList_inj.1 (by simpa using e), hh⟩
end Go.Proofs.Ytecbfpdkbackmaa.Opens
