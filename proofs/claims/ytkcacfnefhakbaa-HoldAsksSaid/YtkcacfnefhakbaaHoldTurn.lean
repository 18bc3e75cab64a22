/- Layer hold: the document's turn of a lock that came in. -/
import Derived.Test.YtkcacfnefhakbaaHoldLaws
namespace Go.Proofs.Ytkcacfnefhakbaa.HoldL
open Go.RowKit Go.Shelf Go.Blk Go.Proofs.Ytkcacfnefhakbaa.P12 Go.Proofs.YtkcacfnefhakbaaW.PrintWords Go.Proofs.YtkcacfnefhakbaaW.PrintLast Go.Proofs.YtkcacfnefhakbaaW.PrintMore
set_option linter.unusedVariables false
set_option linter.unusedSimpArgs false

set_option maxHeartbeats 2000000 in
theorem refTurn_max (f u c : Int) (fc g : Bool) (v : Value) (hv : ∃ A n k, v = .slice A n k) (w : World) :
    Calls Try.prog 29 #[.agg (lockA f 4294967295 u c fc g v)] w fun ex w' => ex = .returned (.agg (lockA f 4294967295 u c fc g v)) ∧ Below w.heap.size w w' := by
  obtain ⟨A, n, k, rfl⟩ := hv
  obtain ⟨w2, hw2⟩ : ∃ w2, (w.alloc (.cells (lockA f 4294967295 u c fc g (.slice A n k)) 25)).alloc (.cells zlock 25) = w2 := ⟨_, rfl⟩
  have HB2 := Lib.hid (show Below w.heap.size w w2 by rw [← hw2]; have h1 := boxed w (.cells (lockA f 4294967295 u c fc g (.slice A n k)) 25); exact h1.alloc h1.size _)
  have BL2 := Lib.hid (show w2.heap[w.heap.size]? = some (.cells (lockA f 4294967295 u c fc g (.slice A n k)) 25 (0, 0)) by rw [← hw2]; exact alloc_old (alloc_at w _) _)
  have BZ2 := Lib.hid (show w2.heap[w.heap.size + 1]? = some (.cells zlock 25 (0, 0)) by rw [← hw2]; have := alloc_at (w.alloc (.cells (lockA f 4294967295 u c fc g (.slice A n k)) 25)) (.cells zlock 25); simpa using this)
  have hx := blk7 BL2.out
  have hz := blk7 BZ2.out
  go_enter Try.func29, Try.ntmps29
  go_wp2
  refine bodyPost_ret (results_cell_row rfl _ _ (w.heap.size + 1) 25 (lockA f 4294967295 u c fc g (.slice A n k)) (0, 0) _ rfl (put7 BZ2.out) Try.underlying25 rfl (by kernel_rfl)) rfl ?_
  exact ⟨rfl, below7 HB2.out (by omega) _ _ _ _ _ _ _⟩
set_option maxHeartbeats 2000000 in
theorem refTurn_next (f e u c : Int) (fc g : Bool) (v : Value) (hv : ∃ A n k, v = .slice A n k) (he : ¬ e = 4294967295) (w : World) :
    Calls Try.prog 29 #[.agg (lockA f e u c fc g v)] w fun ex w' => ex = .returned (.agg (lockA f ((e + 1) % 4294967296) 0 c false g (.slice none 0 0))) ∧ Below w.heap.size w w' := by
  obtain ⟨A, n, k, rfl⟩ := hv
  obtain ⟨w2, hw2⟩ : ∃ w2, (w.alloc (.cells (lockA f e u c fc g (.slice A n k)) 25)).alloc (.cells zlock 25) = w2 := ⟨_, rfl⟩
  have HB2 := Lib.hid (show Below w.heap.size w w2 by rw [← hw2]; have h1 := boxed w (.cells (lockA f e u c fc g (.slice A n k)) 25); exact h1.alloc h1.size _)
  have BL2 := Lib.hid (show w2.heap[w.heap.size]? = some (.cells (lockA f e u c fc g (.slice A n k)) 25 (0, 0)) by rw [← hw2]; exact alloc_old (alloc_at w _) _)
  have BZ2 := Lib.hid (show w2.heap[w.heap.size + 1]? = some (.cells zlock 25 (0, 0)) by rw [← hw2]; have := alloc_at (w.alloc (.cells (lockA f e u c fc g (.slice A n k)) 25)) (.cells zlock 25); simpa using this)
  have hx := blk7 BL2.out
  have hz := blk7 BZ2.out
  have hq1 : (e == 4294967295) = false := beq_eq_false_iff_ne.2 he
  have hq2 : (e = 4294967295) = False := eq_false he
  have hwr : IntKind.u32.wrap (e + 1) = (e + 1) % 4294967296 := by rw [IntKind.wrap_u32]
  clear he
  go_enter Try.func29, Try.ntmps29
  go_wp2
  refine bodyPost_ret (results_cell_row rfl _ _ (w.heap.size + 1) 25 (lockA f ((e + 1) % 4294967296) 0 c false g (.slice none 0 0)) (0, 0) _ rfl (put7 BZ2.out) Try.underlying25 rfl (by kernel_rfl)) rfl ?_
  exact ⟨rfl, below7 HB2.out (by omega) _ _ _ _ _ _ _⟩
end Go.Proofs.Ytkcacfnefhakbaa.HoldL
