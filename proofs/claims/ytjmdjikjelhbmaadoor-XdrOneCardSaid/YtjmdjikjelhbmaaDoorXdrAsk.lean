/- Layer xdr: scripts of a reader's calls. -/
import Derived.Test.YtjmdjikjelhbmaaDoorXdrAlive
import Derived.Test.YtjmdjikjelhbmaaDoorXdrItems
import Derived.Test.YtjmdjikjelhbmaaDoorXdrDR2
namespace Go.Proofs.YtjmdjikjelhbmaaDoor.Xdr
open Go.RowKit Go.Own Go.XdrL Go.Blk Go.OpsL Go.Sees Go.Proofs.YtjmdjikjelhbmaaDoorW.PrintLast Go.Proofs.YtjmdjikjelhbmaaDoorW.PrintWords
set_option linter.unusedVariables false
set_option linter.unusedSimpArgs false
variable {W w w' : World} {B p q : Nat} {r r' : Rd} {b b' : ByteArray}
/-- A call of a reader, of a script. -/
structure SAsk where
  k : Int
  most : Int
def qcells (y : SAsk) : List Value := [.int .i64 y.k, .int .i64 y.most]
theorem sees_asks {R k len cap : Nat} {A : Option Addr} (h : Sees Tryd.prog w R (k + 3) 41 [.slice A len cap]) : ∃ l : List SAsk, l.length = len ∧ len ≤ maxLen ∧ ArrAt w A qcells 2 l := by
  obtain ⟨l, h1, _, h2, _, h3, _⟩ := arr_of (Q := fun _ : SAsk => True) (f := qcells) (s := 2) (by kernel_rfl) (by decide) (fun _ => rfl) Tryd.underlying41 (fun cs hc => by
    obtain ⟨x0, x1, rfl, f0, f1⟩ := Opens.open48 hc
    exact ⟨⟨x0, x1⟩, trivial, rfl⟩) h
  exact ⟨l, h1, h2, h3⟩
def AskAt (w : World) (blk off : Nat) (y : SAsk) : Prop := w.cell? ⟨blk, off, none⟩ = some (.int .i64 y.k) ∧ w.cell? ⟨blk, off + 1, none⟩ = some (.int .i64 y.most)
theorem AskAt.below {blk off : Nat} {y : SAsk} (h : AskAt W blk off y) (hblk : blk < W.heap.size) (hb : Below W.heap.size W w) : AskAt w blk off y :=
  ⟨(hb.cell (p := ⟨blk, off, none⟩) hblk).trans h.1, (hb.cell (p := ⟨blk, off + 1, none⟩) hblk).trans h.2⟩
theorem ask_of {A : Option Addr} {l : List SAsk} (h : ArrAt w A qcells 2 l) (i : Nat) (hi : i < l.length) {y : SAsk} (hy : l[i] = y) : ∃ blk off, A = some ⟨blk, off, none⟩ ∧ blk < w.heap.size ∧ AskAt w blk (off + i * 2) y := by
  subst hy
  obtain ⟨blk, off, e, hb, hc⟩ := h i hi
  exact ⟨blk, off, e, hb, hc 0 _ rfl, hc 1 _ rfl⟩
end Go.Proofs.YtjmdjikjelhbmaaDoor.Xdr
