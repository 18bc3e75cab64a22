/- What a struct of the law's arguments holds, cell by cell. -/
import Derived.Test.YtjmdjikjelhbmaaDoorSees
import Derived.Test.YtjmdjikjelhbmaaDoorProg
import Derived.KernelRfl
namespace Go.Proofs.YtjmdjikjelhbmaaDoor.Opens
open Go.Sees
set_option linter.unusedVariables false
theorem cells_2 (cs : List Value) (h : cs.length = 2) : ∃ c0 c1, cs = [c0, c1] := by
  match cs, h with
  | [c0, c1], _ => exact ⟨c0, c1, rfl⟩
theorem cells_4 (cs : List Value) (h : cs.length = 4) : ∃ c0 c1 c2 c3, cs = [c0, c1, c2, c3] := by
  match cs, h with
  | [c0, c1, c2, c3], _ => exact ⟨c0, c1, c2, c3, rfl⟩
theorem open39 {w : World} {R k : Nat} {cs : List Value} (h : Sees Tryd.prog w R (k + 2) 39 cs) : ∃ (x0 : Int) (x1 : Int) (x2 : ByteArray) (x3 : Value), cs = [.int .i64 x0, .int .u64 x1, .string x2, x3] ∧ (Lit.int .i64 x0).wf = true ∧ (Lit.int .u64 x1).wf = true ∧ x2.size ≤ R ∧ Sees Tryd.prog w R (k + 1) 37 [x3] := by
  obtain ⟨hl, hf⟩ := h.struct Tryd.underlying39
  rw [show Tryd.prog.cellsOf 39 = 4 from by kernel_rfl] at hl
  obtain ⟨c0, c1, c2, c3, rfl⟩ := cells_4 cs hl
  have hp : Sees Tryd.prog w R (k + 1) 3 [c0] ∧ Sees Tryd.prog w R (k + 1) 22 [c1] ∧ Sees Tryd.prog w R (k + 1) 9 [c2] ∧ Sees Tryd.prog w R (k + 1) 37 [c3] := by simpa [show Tryd.prog.cellsOf 3 = 1 from by kernel_rfl, show Tryd.prog.cellsOf 9 = 1 from by kernel_rfl, show Tryd.prog.cellsOf 22 = 1 from by kernel_rfl, show Tryd.prog.cellsOf 37 = 1 from by kernel_rfl] using hf
  obtain ⟨g0, g1, g2, g3⟩ := hp
  obtain ⟨x0, e0, f0⟩ := Sees.int Tryd.underlying3 g0
  simp only [List.cons.injEq, and_true] at e0
  subst e0
  obtain ⟨x1, e1, f1⟩ := Sees.int Tryd.underlying22 g1
  simp only [List.cons.injEq, and_true] at e1
  subst e1
  obtain ⟨x2, e2, f2⟩ := Sees.string Tryd.underlying9 g2
  simp only [List.cons.injEq, and_true] at e2
  subst e2
  have f3 := g3
  exact ⟨x0, x1, x2, c3, rfl, f0, f1, f2, f3⟩
theorem openA39 {w : World} {R k : Nat} {a : Array Value} (h : Sees Tryd.prog w R (k + 2) 39 a.toList) : ∃ (x0 : Int) (x1 : Int) (x2 : ByteArray) (x3 : Value), a = #[.int .i64 x0, .int .u64 x1, .string x2, x3] ∧ (Lit.int .i64 x0).wf = true ∧ (Lit.int .u64 x1).wf = true ∧ x2.size ≤ R ∧ Sees Tryd.prog w R (k + 1) 37 [x3] := by
  obtain ⟨x0, x1, x2, x3, e, hh⟩ := open39 h
  exact ⟨x0, x1, x2, x3, Array.toList_inj.1 (by simpa using e), hh⟩
theorem open48 {w : World} {R k : Nat} {cs : List Value} (h : Sees Tryd.prog w R (k + 2) 48 cs) : ∃ (x0 : Int) (x1 : Int), cs = [.int .i64 x0, .int .i64 x1] ∧ (Lit.int .i64 x0).wf = true ∧ (Lit.int .i64 x1).wf = true := by
  obtain ⟨hl, hf⟩ := h.struct Tryd.underlying48
  rw [show Tryd.prog.cellsOf 48 = 2 from by kernel_rfl] at hl
  obtain ⟨c0, c1, rfl⟩ := cells_2 cs hl
  have hp : Sees Tryd.prog w R (k + 1) 3 [c0] ∧ Sees Tryd.prog w R (k + 1) 3 [c1] := by simpa [show Tryd.prog.cellsOf 3 = 1 from by kernel_rfl] using hf
  obtain ⟨g0, g1⟩ := hp
  obtain ⟨x0, e0, f0⟩ := Sees.int Tryd.underlying3 g0
  simp only [List.cons.injEq, and_true] at e0
  subst e0
  obtain ⟨x1, e1, f1⟩ := Sees.int Tryd.underlying3 g1
  simp only [List.cons.injEq, and_true] at e1
  subst e1
  exact ⟨x0, x1, rfl, f0, f1⟩
theorem openA48 {w : World} {R k : Nat} {a : Array Value} (h : Sees Tryd.prog w R (k + 2) 48 a.toList) : ∃ (x0 : Int) (x1 : Int), a = #[.int .i64 x0, .int .i64 x1] ∧ (Lit.int .i64 x0).wf = true ∧ (Lit.int .i64 x1).wf = true := by
  obtain ⟨x0, x1, e, hh⟩ := open48 h
  exact ⟨x0, x1, Array.toList_inj.1 (by simpa using e), hh⟩
end Go.Proofs.YtjmdjikjelhbmaaDoor.Opens
