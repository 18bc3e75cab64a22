/- Layer wal, plainly: a log over a device. -/
import Derived.Test.YtmdojgkgohmghaaDevPlain
import Derived.Test.YtmdojgkgohmghaaXdrPlain
namespace Go.WalL
open Go.DevL Go.XdrL
set_option linter.unusedVariables false
/-- A block that is handed in. -/
abbrev Bk := Int × ByteArray
def lcom : ByteArray := ⟨#[76, 67, 79, 77]⟩
def pad (s : ByteArray) : ByteArray := s ++ zeros (256 - s.size)
def ent (n : Nat) (x : Bk) : ByteArray := pad (num4 (41 + x.1).toNat ++ num4 n ++ x.2)
def mark (n k : Nat) : ByteArray := pad (lcom ++ (num4 n ++ num4 k))
/-- Writes, one behind the other, as long as none fails. -/
def wrs : Dv → List (Int × ByteArray) → Int × Dv
  | d, [] => (0, d)
  | d, x :: r => if (d.write x.1 x.2).1 = 0 then wrs (d.write x.1 x.2).2 r else d.write x.1 x.2
theorem wrs_snoc : ∀ (l : List (Int × ByteArray)) (d d' : Dv) (x : Int × ByteArray), wrs d l = (0, d') → wrs d (l ++ [x]) = d'.write x.1 x.2
  | [], d, d', x, h => by
    simp only [wrs, Prod.mk.injEq, true_and] at h
    subst h
    simp only [List.nil_append, wrs]
    split
    · rename_i h; exact Prod.ext h.symm rfl
    · rfl
  | y :: r, d, d', x, h => by
    simp only [List.cons_append, wrs] at h ⊢
    split at h
    · rename_i h0
      rw [if_pos h0]
      exact wrs_snoc r _ d' x h
    · rename_i h0
      rw [h] at h0
      exact absurd rfl h0
theorem wrs_step {l : List (Int × ByteArray)} {d d' : Dv} {i : Nat} (h : wrs d (l.take i) = (0, d')) (hi : i < l.length) : wrs d (l.take (i + 1)) = d'.write l[i].1 l[i].2 := by
  rw [List.take_succ_eq_append_getElem hi]
  exact wrs_snoc _ _ _ _ h
theorem wrs_bad : ∀ (l r : List (Int × ByteArray)) (d : Dv), (wrs d l).1 ≠ 0 → wrs d (l ++ r) = wrs d l
  | [], r, d, h => absurd rfl h
  | y :: l, r, d, h => by
    simp only [List.cons_append, wrs] at h ⊢
    split
    · rename_i h0
      rw [if_pos h0] at h
      exact wrs_bad l r _ h
    · rfl
theorem wrs_stop {l : List (Int × ByteArray)} {d d' : Dv} {e : Int} {i : Nat} (h : wrs d (l.take i) = (e, d')) (he : e ≠ 0) : wrs d l = (e, d') := by
  have := wrs_bad (l.take i) (l.drop i) d (by rw [h]; exact he)
  rw [List.take_append_drop] at this
  rw [this, h]
def andThen (r : Int × Dv) (f : Dv → Int × Dv) : Int × Dv := if r.1 = 0 then f r.2 else r
/-- The journal's writes of a commit. -/
def jour (n : Nat) (b : List Bk) : List (Int × ByteArray) := b.zipIdx.map fun x => (1 + (x.2 : Int), ent n x.1)
def homes (n : Nat) (b : List Bk) : List (Int × ByteArray) := b.map fun x => (41 + x.1, ent n x)
def commitD (d : Dv) (n : Nat) (b : List Bk) : Int × Dv :=
  andThen (wrs d (jour n b)) fun d => andThen d.barrier fun d => andThen (d.write 0 (mark n b.length)) fun d => andThen d.barrier fun d => andThen (wrs d (homes n b)) fun d => d.barrier
/-- May blocks be changed together, in a log of so many? -/
def fit (size : Int) (b : List Bk) : Prop := 1 ≤ b.length ∧ b.length ≤ 40 ∧ (∀ x ∈ b, 0 ≤ x.1 ∧ x.1 < size ∧ x.2.size ≤ 248) ∧ (b.map (·.1)).Nodup
instance (size : Int) (b : List Bk) : Decidable (fit size b) := by unfold fit; infer_instance
def sizeL (d : Dv) : Int := (d.firm.length : Int) - 41
/-- A commit: the error; the device, the number and death behind it. -/
def commitL (d : Dv) (last : Nat) (dead : Bool) (b : List Bk) : Int × Dv × Nat × Bool :=
  if ¬ fit (sizeL d) b then (1, d, last, dead) else if dead = true then (5, d, last, dead) else if last = 4294967295 then (16, d, last, dead)
  else if (commitD d (last + 1) b).1 = 0 then (0, (commitD d (last + 1) b).2, last + 1, false) else ((commitD d (last + 1) b).1, (commitD d (last + 1) b).2, last, true)
def readL (d : Dv) (dead : Bool) (k : Int) : ByteArray × Int :=
  if k < 0 ∨ sizeL d ≤ k then (ByteArray.empty, 1) else if dead = true ∨ d.dead = true then (ByteArray.empty, 5) else ((d.now.getD (41 + k).toNat ByteArray.empty).extract 8 256, 0)
/-- What stands in the mark: number, count, whether it begins as one. -/
def markOf (m : ByteArray) : Nat × Nat × Bool := if m.extract 0 4 = lcom then (get4 (m.extract 4 256), get4 (m.extract 8 256), true) else (0, 0, false)
/-- Is the journal's block i an entry of the commit last? -/
def good (d : Dv) (last i : Nat) : Bool := get4 ((d.now.getD i ByteArray.empty).extract 4 256) == last && decide (41 ≤ get4 (d.now.getD i ByteArray.empty)) && decide (get4 (d.now.getD i ByteArray.empty) < d.firm.length)
def entAt (d : Dv) (i : Nat) : Int × ByteArray := ((get4 (d.now.getD i ByteArray.empty) : Int), d.now.getD i ByteArray.empty)
/-- The journal's entries, if the mark is whole. -/
def entsOf (d : Dv) (last count : Nat) : Option (List (Int × ByteArray)) :=
  if count < 1 ∨ 40 < count then none
  else if (List.range count).all (fun i => good d last (i + 1)) = true then some ((List.range count).map fun i => entAt d (i + 1)) else none
/-- Opened: the error, the number, the device. -/
def openD (d : Dv) : Int × Nat × Dv :=
  if d.firm.length ≤ 41 then (1, 0, d) else if d.dead = true then (5, 0, d)
  else if (markOf (d.now.getD 0 ByteArray.empty)).2.2 = false then (0, 0, d)
  else match entsOf d (markOf (d.now.getD 0 ByteArray.empty)).1 (markOf (d.now.getD 0 ByteArray.empty)).2.1 with
    | none => (0, (markOf (d.now.getD 0 ByteArray.empty)).1, d)
    | some l => ((andThen (wrs d l) Dv.barrier).1, (markOf (d.now.getD 0 ByteArray.empty)).1, (andThen (wrs d l) Dv.barrier).2)
end Go.WalL
