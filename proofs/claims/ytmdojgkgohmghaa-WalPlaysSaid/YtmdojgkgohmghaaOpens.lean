/- What a struct of the law's arguments holds, cell by cell. -/
import Derived.Test.YtmdojgkgohmghaaSees
import Derived.Test.YtmdojgkgohmghaaProg
import Derived.KernelRfl
namespace Go.Proofs.Ytmdojgkgohmghaa.Opens
open Go.Sees
set_option linter.unusedVariables false
set_option maxRecDepth 100000
theorem cells_2 (cs : List Value) (h : cs.length = 2) : ∃ c0 c1, cs = [c0, c1] := by
  match cs, h with
  | [c0, c1], _ => exact ⟨c0, c1, rfl⟩
theorem cells_5 (cs : List Value) (h : cs.length = 5) : ∃ c0 c1 c2 c3 c4, cs = [c0, c1, c2, c3, c4] := by
  match cs, h with
  | [c0, c1, c2, c3, c4], _ => exact ⟨c0, c1, c2, c3, c4, rfl⟩
theorem open26 {w : World} {R k : Nat} {cs : List Value} (h : Sees Try.prog w R (k + 2) 26 cs) : ∃ (x0 : Int) (x1 : ByteArray), cs = [.int .i64 x0, .string x1] ∧ (Lit.int .i64 x0).wf = true ∧ x1.size ≤ R := by
  obtain ⟨hl, hf⟩ := h.struct Try.underlying26
  rw [show Try.prog.cellsOf 26 = 2 from by kernel_rfl] at hl
  obtain ⟨c0, c1, rfl⟩ := cells_2 cs hl
  have hp : Sees Try.prog w R (k + 1) 3 [c0] ∧ Sees Try.prog w R (k + 1) 9 [c1] := by simpa [show Try.prog.cellsOf 3 = 1 from by kernel_rfl, show Try.prog.cellsOf 9 = 1 from by kernel_rfl] using hf
  obtain ⟨g0, g1⟩ := hp
  obtain ⟨x0, e0, f0⟩ := Sees.int Try.underlying3 g0
  simp only [List.cons.injEq, and_true] at e0
  subst e0
  obtain ⟨x1, e1, f1⟩ := Sees.string Try.underlying9 g1
  simp only [List.cons.injEq, and_true] at e1
  subst e1
  exact ⟨x0, x1, rfl, f0, f1⟩
theorem openA26 {w : World} {R k : Nat} {a : Array Value} (h : Sees Try.prog w R (k + 2) 26 a.toList) : ∃ (x0 : Int) (x1 : ByteArray), a = #[.int .i64 x0, .string x1] ∧ (Lit.int .i64 x0).wf = true ∧ x1.size ≤ R := by
  obtain ⟨x0, x1, e, hh⟩ := open26 h
  exact ⟨x0, x1, Array.toList_inj.1 (by simpa using e), hh⟩
theorem open63 {w : World} {R k : Nat} {cs : List Value} (h : Sees Try.prog w R (k + 2) 63 cs) : ∃ (x0 : Int) (x1 : Int) (x2 : Int) (x3 : ByteArray) (x4 : Value), cs = [.int .i64 x0, .int .i64 x1, .int .u64 x2, .string x3, x4] ∧ (Lit.int .i64 x0).wf = true ∧ (Lit.int .i64 x1).wf = true ∧ (Lit.int .u64 x2).wf = true ∧ x3.size ≤ R ∧ Sees Try.prog w R (k + 1) 22 [x4] := by
  obtain ⟨hl, hf⟩ := h.struct Try.underlying63
  rw [show Try.prog.cellsOf 63 = 5 from by kernel_rfl] at hl
  obtain ⟨c0, c1, c2, c3, c4, rfl⟩ := cells_5 cs hl
  have hp : Sees Try.prog w R (k + 1) 3 [c0] ∧ Sees Try.prog w R (k + 1) 3 [c1] ∧ Sees Try.prog w R (k + 1) 49 [c2] ∧ Sees Try.prog w R (k + 1) 9 [c3] ∧ Sees Try.prog w R (k + 1) 22 [c4] := by simpa [show Try.prog.cellsOf 3 = 1 from by kernel_rfl, show Try.prog.cellsOf 9 = 1 from by kernel_rfl, show Try.prog.cellsOf 22 = 1 from by kernel_rfl, show Try.prog.cellsOf 49 = 1 from by kernel_rfl] using hf
  obtain ⟨g0, g1, g2, g3, g4⟩ := hp
  obtain ⟨x0, e0, f0⟩ := Sees.int Try.underlying3 g0
  simp only [List.cons.injEq, and_true] at e0
  subst e0
  obtain ⟨x1, e1, f1⟩ := Sees.int Try.underlying3 g1
  simp only [List.cons.injEq, and_true] at e1
  subst e1
  obtain ⟨x2, e2, f2⟩ := Sees.int Try.underlying49 g2
  simp only [List.cons.injEq, and_true] at e2
  subst e2
  obtain ⟨x3, e3, f3⟩ := Sees.string Try.underlying9 g3
  simp only [List.cons.injEq, and_true] at e3
  subst e3
  have f4 := g4
  exact ⟨x0, x1, x2, x3, c4, rfl, f0, f1, f2, f3, f4⟩
theorem openA63 {w : World} {R k : Nat} {a : Array Value} (h : Sees Try.prog w R (k + 2) 63 a.toList) : ∃ (x0 : Int) (x1 : Int) (x2 : Int) (x3 : ByteArray) (x4 : Value), a = #[.int .i64 x0, .int .i64 x1, .int .u64 x2, .string x3, x4] ∧ (Lit.int .i64 x0).wf = true ∧ (Lit.int .i64 x1).wf = true ∧ (Lit.int .u64 x2).wf = true ∧ x3.size ≤ R ∧ Sees Try.prog w R (k + 1) 22 [x4] := by
  obtain ⟨x0, x1, x2, x3, x4, e, hh⟩ := open63 h
  exact ⟨x0, x1, x2, x3, x4, Array.toList_inj.1 (by simpa using e), hh⟩
end Go.Proofs.Ytmdojgkgohmghaa.Opens
