/- A small block's cells, one by one, and blocks over worlds. -/
import Derived.Below
import Derived.OneCell
import Derived.Lib.Hide
import Derived.Lib.SmallJoins
import Derived.WalkKit
namespace Go.Blk
open Go.RowKit
theorem cell_at {w : World} {g : Nat} {t : TypeId} {cs : Array Value} (h : w.heap[g]? = some (.cells cs t (0, 0))) (i : Nat) : w.cell? ⟨g, i, none⟩ = cs[i]? := by simp [World.cell?, h]
theorem free_at {w : World} {g : Nat} {t : TypeId} {cs : Array Value} (h : w.heap[g]? = some (.cells cs t (0, 0))) (i : Nat) : w.frozen? ⟨g, i, none⟩ = false := by simp [World.frozen?, h]
theorem lt_of {w : World} {g : Nat} {o : Obj} (h : w.heap[g]? = some o) : g < w.heap.size := (Array.getElem?_eq_some_iff.1 h).1
theorem alloc_at (w : World) (o : Obj) : (w.alloc o).heap[w.heap.size]? = some o := by show (w.heap.push o)[w.heap.size]? = _; simp
theorem alloc_old {w : World} {g : Nat} {o : Obj} (h : w.heap[g]? = some o) (o' : Obj) : (w.alloc o').heap[g]? = some o := by
  show (w.heap.push o')[g]? = _
  have := lt_of h
  rw [Array.getElem?_push_lt this]; simpa [Array.getElem?_eq_getElem this] using h
theorem below_old {w w' : World} {g : Nat} {o : Obj} (h : w.heap[g]? = some o) (hb : Below w.heap.size w w') : w'.heap[g]? = some o := (hb.block g (lt_of h)).trans h
theorem below_old' {B : Nat} {w w' : World} {g : Nat} {o : Obj} (h : w.heap[g]? = some o) (hg : g < B) (hb : Below B w w') : w'.heap[g]? = some o := (hb.block g hg).trans h
theorem set_at {w : World} {g : Nat} {t : TypeId} {cs : Array Value} (h : w.heap[g]? = some (.cells cs t (0, 0))) (i : Nat) (u : Value) : (w.setCell ⟨g, i, none⟩ u).heap[g]? = some (.cells (cs.setIfInBounds i u) t (0, 0)) := Joins.block_setCell h u
theorem set_far {w : World} {g : Nat} {o : Obj} (h : w.heap[g]? = some o) {p : Addr} (hp : g ≠ p.block) (u : Value) : (w.setCell p u).heap[g]? = some o := (Below.heap_setCell w p u g hp).trans h
theorem blk1 {w : World} {g : Nat} {t : TypeId} {x0 : Value} (h : w.heap[g]? = some (.cells #[x0] t (0, 0))) : w.cell? ⟨g, 0, none⟩ = some x0 ∧ w.frozen? ⟨g, 0, none⟩ = false :=
  ⟨(cell_at h 0).trans rfl, free_at h 0⟩
theorem blk2 {w : World} {g : Nat} {t : TypeId} {x0 x1 : Value} (h : w.heap[g]? = some (.cells #[x0, x1] t (0, 0))) : w.cell? ⟨g, 0, none⟩ = some x0 ∧ w.frozen? ⟨g, 0, none⟩ = false ∧ w.cell? ⟨g, 1, none⟩ = some x1 ∧ w.frozen? ⟨g, 1, none⟩ = false :=
  ⟨(cell_at h 0).trans rfl, free_at h 0, (cell_at h 1).trans rfl, free_at h 1⟩
theorem blk3 {w : World} {g : Nat} {t : TypeId} {x0 x1 x2 : Value} (h : w.heap[g]? = some (.cells #[x0, x1, x2] t (0, 0))) : w.cell? ⟨g, 0, none⟩ = some x0 ∧ w.frozen? ⟨g, 0, none⟩ = false ∧ w.cell? ⟨g, 1, none⟩ = some x1 ∧ w.frozen? ⟨g, 1, none⟩ = false ∧ w.cell? ⟨g, 2, none⟩ = some x2 ∧ w.frozen? ⟨g, 2, none⟩ = false :=
  ⟨(cell_at h 0).trans rfl, free_at h 0, (cell_at h 1).trans rfl, free_at h 1, (cell_at h 2).trans rfl, free_at h 2⟩
theorem blk4 {w : World} {g : Nat} {t : TypeId} {x0 x1 x2 x3 : Value} (h : w.heap[g]? = some (.cells #[x0, x1, x2, x3] t (0, 0))) : w.cell? ⟨g, 0, none⟩ = some x0 ∧ w.frozen? ⟨g, 0, none⟩ = false ∧ w.cell? ⟨g, 1, none⟩ = some x1 ∧ w.frozen? ⟨g, 1, none⟩ = false ∧ w.cell? ⟨g, 2, none⟩ = some x2 ∧ w.frozen? ⟨g, 2, none⟩ = false ∧ w.cell? ⟨g, 3, none⟩ = some x3 ∧ w.frozen? ⟨g, 3, none⟩ = false :=
  ⟨(cell_at h 0).trans rfl, free_at h 0, (cell_at h 1).trans rfl, free_at h 1, (cell_at h 2).trans rfl, free_at h 2, (cell_at h 3).trans rfl, free_at h 3⟩
theorem blk5 {w : World} {g : Nat} {t : TypeId} {x0 x1 x2 x3 x4 : Value} (h : w.heap[g]? = some (.cells #[x0, x1, x2, x3, x4] t (0, 0))) : w.cell? ⟨g, 0, none⟩ = some x0 ∧ w.frozen? ⟨g, 0, none⟩ = false ∧ w.cell? ⟨g, 1, none⟩ = some x1 ∧ w.frozen? ⟨g, 1, none⟩ = false ∧ w.cell? ⟨g, 2, none⟩ = some x2 ∧ w.frozen? ⟨g, 2, none⟩ = false ∧ w.cell? ⟨g, 3, none⟩ = some x3 ∧ w.frozen? ⟨g, 3, none⟩ = false ∧ w.cell? ⟨g, 4, none⟩ = some x4 ∧ w.frozen? ⟨g, 4, none⟩ = false :=
  ⟨(cell_at h 0).trans rfl, free_at h 0, (cell_at h 1).trans rfl, free_at h 1, (cell_at h 2).trans rfl, free_at h 2, (cell_at h 3).trans rfl, free_at h 3, (cell_at h 4).trans rfl, free_at h 4⟩
theorem blk6 {w : World} {g : Nat} {t : TypeId} {x0 x1 x2 x3 x4 x5 : Value} (h : w.heap[g]? = some (.cells #[x0, x1, x2, x3, x4, x5] t (0, 0))) : w.cell? ⟨g, 0, none⟩ = some x0 ∧ w.frozen? ⟨g, 0, none⟩ = false ∧ w.cell? ⟨g, 1, none⟩ = some x1 ∧ w.frozen? ⟨g, 1, none⟩ = false ∧ w.cell? ⟨g, 2, none⟩ = some x2 ∧ w.frozen? ⟨g, 2, none⟩ = false ∧ w.cell? ⟨g, 3, none⟩ = some x3 ∧ w.frozen? ⟨g, 3, none⟩ = false ∧ w.cell? ⟨g, 4, none⟩ = some x4 ∧ w.frozen? ⟨g, 4, none⟩ = false ∧ w.cell? ⟨g, 5, none⟩ = some x5 ∧ w.frozen? ⟨g, 5, none⟩ = false :=
  ⟨(cell_at h 0).trans rfl, free_at h 0, (cell_at h 1).trans rfl, free_at h 1, (cell_at h 2).trans rfl, free_at h 2, (cell_at h 3).trans rfl, free_at h 3, (cell_at h 4).trans rfl, free_at h 4, (cell_at h 5).trans rfl, free_at h 5⟩
theorem blk7 {w : World} {g : Nat} {t : TypeId} {x0 x1 x2 x3 x4 x5 x6 : Value} (h : w.heap[g]? = some (.cells #[x0, x1, x2, x3, x4, x5, x6] t (0, 0))) : w.cell? ⟨g, 0, none⟩ = some x0 ∧ w.frozen? ⟨g, 0, none⟩ = false ∧ w.cell? ⟨g, 1, none⟩ = some x1 ∧ w.frozen? ⟨g, 1, none⟩ = false ∧ w.cell? ⟨g, 2, none⟩ = some x2 ∧ w.frozen? ⟨g, 2, none⟩ = false ∧ w.cell? ⟨g, 3, none⟩ = some x3 ∧ w.frozen? ⟨g, 3, none⟩ = false ∧ w.cell? ⟨g, 4, none⟩ = some x4 ∧ w.frozen? ⟨g, 4, none⟩ = false ∧ w.cell? ⟨g, 5, none⟩ = some x5 ∧ w.frozen? ⟨g, 5, none⟩ = false ∧ w.cell? ⟨g, 6, none⟩ = some x6 ∧ w.frozen? ⟨g, 6, none⟩ = false :=
  ⟨(cell_at h 0).trans rfl, free_at h 0, (cell_at h 1).trans rfl, free_at h 1, (cell_at h 2).trans rfl, free_at h 2, (cell_at h 3).trans rfl, free_at h 3, (cell_at h 4).trans rfl, free_at h 4, (cell_at h 5).trans rfl, free_at h 5, (cell_at h 6).trans rfl, free_at h 6⟩
theorem put1 {w : World} {g : Nat} {t : TypeId} {x0 y0 : Value} (h : w.heap[g]? = some (.cells #[x0] t (0, 0))) : (w.setCell ⟨g, 0, none⟩ y0).heap[g]? = some (.cells #[y0] t (0, 0)) := by
  simpa using (set_at h 0 y0)
theorem put2 {w : World} {g : Nat} {t : TypeId} {x0 x1 y0 y1 : Value} (h : w.heap[g]? = some (.cells #[x0, x1] t (0, 0))) : ((w.setCell ⟨g, 0, none⟩ y0).setCell ⟨g, 1, none⟩ y1).heap[g]? = some (.cells #[y0, y1] t (0, 0)) := by
  simpa using (set_at (set_at h 0 y0) 1 y1)
theorem put3 {w : World} {g : Nat} {t : TypeId} {x0 x1 x2 y0 y1 y2 : Value} (h : w.heap[g]? = some (.cells #[x0, x1, x2] t (0, 0))) : (((w.setCell ⟨g, 0, none⟩ y0).setCell ⟨g, 1, none⟩ y1).setCell ⟨g, 2, none⟩ y2).heap[g]? = some (.cells #[y0, y1, y2] t (0, 0)) := by
  simpa using (set_at (set_at (set_at h 0 y0) 1 y1) 2 y2)
theorem put4 {w : World} {g : Nat} {t : TypeId} {x0 x1 x2 x3 y0 y1 y2 y3 : Value} (h : w.heap[g]? = some (.cells #[x0, x1, x2, x3] t (0, 0))) : ((((w.setCell ⟨g, 0, none⟩ y0).setCell ⟨g, 1, none⟩ y1).setCell ⟨g, 2, none⟩ y2).setCell ⟨g, 3, none⟩ y3).heap[g]? = some (.cells #[y0, y1, y2, y3] t (0, 0)) := by
  simpa using (set_at (set_at (set_at (set_at h 0 y0) 1 y1) 2 y2) 3 y3)
theorem put5 {w : World} {g : Nat} {t : TypeId} {x0 x1 x2 x3 x4 y0 y1 y2 y3 y4 : Value} (h : w.heap[g]? = some (.cells #[x0, x1, x2, x3, x4] t (0, 0))) : (((((w.setCell ⟨g, 0, none⟩ y0).setCell ⟨g, 1, none⟩ y1).setCell ⟨g, 2, none⟩ y2).setCell ⟨g, 3, none⟩ y3).setCell ⟨g, 4, none⟩ y4).heap[g]? = some (.cells #[y0, y1, y2, y3, y4] t (0, 0)) := by
  simpa using (set_at (set_at (set_at (set_at (set_at h 0 y0) 1 y1) 2 y2) 3 y3) 4 y4)
theorem put6 {w : World} {g : Nat} {t : TypeId} {x0 x1 x2 x3 x4 x5 y0 y1 y2 y3 y4 y5 : Value} (h : w.heap[g]? = some (.cells #[x0, x1, x2, x3, x4, x5] t (0, 0))) : ((((((w.setCell ⟨g, 0, none⟩ y0).setCell ⟨g, 1, none⟩ y1).setCell ⟨g, 2, none⟩ y2).setCell ⟨g, 3, none⟩ y3).setCell ⟨g, 4, none⟩ y4).setCell ⟨g, 5, none⟩ y5).heap[g]? = some (.cells #[y0, y1, y2, y3, y4, y5] t (0, 0)) := by
  simpa using (set_at (set_at (set_at (set_at (set_at (set_at h 0 y0) 1 y1) 2 y2) 3 y3) 4 y4) 5 y5)
theorem put7 {w : World} {g : Nat} {t : TypeId} {x0 x1 x2 x3 x4 x5 x6 y0 y1 y2 y3 y4 y5 y6 : Value} (h : w.heap[g]? = some (.cells #[x0, x1, x2, x3, x4, x5, x6] t (0, 0))) : (((((((w.setCell ⟨g, 0, none⟩ y0).setCell ⟨g, 1, none⟩ y1).setCell ⟨g, 2, none⟩ y2).setCell ⟨g, 3, none⟩ y3).setCell ⟨g, 4, none⟩ y4).setCell ⟨g, 5, none⟩ y5).setCell ⟨g, 6, none⟩ y6).heap[g]? = some (.cells #[y0, y1, y2, y3, y4, y5, y6] t (0, 0)) := by
  simpa using (set_at (set_at (set_at (set_at (set_at (set_at (set_at h 0 y0) 1 y1) 2 y2) 3 y3) 4 y4) 5 y5) 6 y6)
end Go.Blk
