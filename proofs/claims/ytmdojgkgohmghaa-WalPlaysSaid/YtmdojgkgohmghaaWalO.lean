/- Layer wal, plainly: to open is to mend, and once is enough; what stands in the mark. -/
import Derived.Test.YtmdojgkgohmghaaWalM3
namespace Go.Proofs.Ytmdojgkgohmghaa.Wal
open Go.DevL Go.XdrL Go.WalL
set_option linter.unusedVariables false
set_option linter.unusedSimpArgs false
set_option maxRecDepth 100000
variable {d d' : Dv} {b : List (Int × ByteArray)} {l : List ByteArray}
/-! ### many blocks are written -/
def look : List (Int × ByteArray) → Nat → Option ByteArray
  | [], _ => none
  | x :: l, i => (look l i).or (if x.1.toNat = i then some x.2 else none)
theorem puts_at : ∀ (l : List (Int × ByteArray)) (m : List ByteArray) (i : Nat), (puts l m)[i]? = (m[i]?).map fun old => (look l i).getD old
  | [], m, i => by simp [puts, look]
  | x :: l, m, i => by
    show (puts l (m.set x.1.toNat x.2))[i]? = _
    rw [puts_at l, List.getElem?_set]
    by_cases h : x.1.toNat = i
    · subst h
      by_cases hl : x.1.toNat < m.length
      · rw [if_pos rfl, if_pos hl, List.getElem?_eq_getElem hl]
        simp only [look, if_pos rfl, Option.map_some]
        cases look l x.1.toNat <;> rfl
      · rw [if_pos rfl, if_neg hl, List.getElem?_eq_none (by omega)]
        rfl
    · rw [if_neg h]
      simp only [look, if_neg h, Option.or_none]
theorem look_none : ∀ (l : List (Int × ByteArray)) (i : Nat), (∀ x ∈ l, x.1.toNat ≠ i) → look l i = none
  | [], _, _ => rfl
  | x :: l, i, h => by
    simp only [look]
    rw [look_none l i (fun y hy => h y (by simp [hy])), if_neg (h x (by simp))]
    rfl
theorem puts_low (l : List (Int × ByteArray)) (m : List ByteArray) (h : ∀ x ∈ l, 41 ≤ x.1) (i : Nat) (hi : i ≤ 40) : (puts l m).getD i ByteArray.empty = m.getD i ByteArray.empty := by
  rw [List.getD_eq_getElem?_getD, List.getD_eq_getElem?_getD, puts_at, look_none l i (fun x hx => by have := h x hx; omega)]
  cases m[i]? <;> rfl
/-! ### marks and entries -/
/-! ### to open a device that lives -/
theorem markOf_no {m : ByteArray} (h : (markOf m).2.2 = false) : (markOf m).1 = 0 := by
  unfold markOf at h ⊢
  split at h
  · cases h
  · rename_i hx; rw [if_neg hx]
/-! ### what may stand at block 0 -/
variable {S : ByteArray → Prop}
/-! ### how many writes are unsettled -/
theorem wrs_late : ∀ (l : List (Int × ByteArray)) (d : Dv), (WalL.wrs d l).2.late.length ≤ d.late.length + l.length
  | [], d => Nat.le_refl _
  | x :: l, d => by
    simp only [WalL.wrs]
    have h1 := write_late d x.1 x.2
    split
    · have := wrs_late l (d.write x.1 x.2).2
      simp only [List.length_cons]; omega
    · simp only [List.length_cons]; omega
theorem barrier_late2 (d : Dv) : d.barrier.2.late.length ≤ d.late.length := by
  unfold Dv.barrier
  split
  · exact Nat.le_refl _
  · simp
theorem then_late {r : Int × Dv} {f : Dv → Int × Dv} {m : Nat} (k : Nat) (h : r.2.late.length ≤ m) (hf : ∀ d, d.late.length ≤ m → (f d).2.late.length ≤ m + k) : (andThen r f).2.late.length ≤ m + k := by
  unfold andThen
  split
  · exact hf _ h
  · omega
theorem commit_late (d : Dv) (n : Nat) (b : List (Int × ByteArray)) : (commitD d n b).2.late.length ≤ d.late.length + b.length + (1 + b.length) := by
  unfold commitD
  have h1 := wrs_late (jour n b) d
  rw [jour_len] at h1
  refine then_late _ h1 fun d1 h2 => ?_
  refine then_late _ (Nat.le_trans (barrier_late2 d1) h2) fun d2 h3 => ?_
  have h4 := write_late d2 0 (WalL.mark n b.length)
  rw [← Nat.add_assoc]
  refine then_late b.length (m := d.late.length + b.length + 1) (by omega) fun d3 h5 => ?_
  refine then_late _ (Nat.le_trans (barrier_late2 d3) h5) fun d4 h6 => ?_
  have h7 := wrs_late (homes n b) d4
  rw [show (homes n b).length = b.length by simp [homes]] at h7
  refine Nat.le_trans (then_late 0 (m := d.late.length + b.length + 1 + b.length) (by omega) fun d5 h8 => ?_) (Nat.le_refl _)
  exact Nat.le_trans (barrier_late2 d5) h8
end Go.Proofs.Ytmdojgkgohmghaa.Wal
