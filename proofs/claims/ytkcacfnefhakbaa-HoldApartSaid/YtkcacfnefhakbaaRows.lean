/-
  No cell of these rows narrows 'for every input' (looked for: loops, veiled, ifaces, maps, wideKeys, modest, calm, conditions, laid).
  DERIVED. THE GIVEN ROWS OF THIS SEAT. 5 by the template 'for every input the law returns true; each argument reads behind the call as it read before'; 0 by the template 'total and deterministic' (their statements: YtkcacfnefhakbaaTotals.lean).
  GIVEN WITH THE SEED: the statements are not yours to turn. If you find one false, say at which input.
  Laid BY PROGRAM, IN A SANDBOX (cutbox-rows.mjs): the forced cells as the released guide's own fill.sh prints them over the translation 8b4a1e775b01b2b4… (all of the seat's roots in one cut). By AI agents, Wed Nov 11 2026. No macro, syntax, notation, axiom, sorry.
-/
import Derived.Test.YtkcacfnefhakbaaChecked
import GoSem.Claim
import GoSem.ClaimJoined
import GoSem.ClaimMapViews
import Derived.JoinedTies
import Derived.KernelRfl
namespace Go.Proofs.Ytkcacfnefhakbaa
/- THE CELL 'sum', in the pinned program and in every row, IS THE sha256 OF THE DUMP (.gsa) THAT YtkcacfnefhakbaaProg.lean LOADS. Nothing in Lean hashes anything: it is a label: what it is worth is what the hold of that sum in a sandbox is worth. -/
noncomputable def Try.pinned : Pinned := { name := "ytkcacfnefhakbaa", sum := "8b4a1e775b01b2b4d3295205486667378db8f1945153db15213197b6a4633ed5", checked := Try.checked }
namespace Rows
def none {H : Type} : Left H := { results := [], args := [] }

/-- 'lamellalaw12.HoldRights': WHATEVER THE INPUT: true; the input reads as it did. -/
def holdRightsSpec : ChangeSpec := { name := "holdRights", fn := fun _ => fun
  | [d1, d2, d3] => { results := [.lit (.bool true)], args := [d1, d2, d3] }
  | _ => none }
def holdRightsRow : OpenClaim := { program := "ytkcacfnefhakbaa", sum := "8b4a1e775b01b2b4d3295205486667378db8f1945153db15213197b6a4633ed5", func := "lamella/lamellalaw12.HoldRights", spec := "holdRights", unfollowed := true, recurses := true, apart := false }
def HoldRightsSaid : Prop := holdRightsRow.holds Try.pinned (OpenSpec.ofChange holdRightsSpec)

/-- ITS FALSE NEIGHBOUR: 'it returns false'. Refute it at one input. -/
def holdRightsWrong : ChangeSpec := { name := "holdRights", fn := fun _ => fun
  | [d1, d2, d3] => { results := [.lit (.bool false)], args := [d1, d2, d3] }
  | _ => none }
def HoldRightsWrongFalsely : Prop := holdRightsRow.holds Try.pinned (OpenSpec.ofChange holdRightsWrong)

/-- 'lamellalaw12.HoldAsks': WHATEVER THE INPUT: true; the input reads as it did. -/
def holdAsksSpec : ChangeSpec := { name := "holdAsks", fn := fun _ => fun
  | [d1, d2, d3] => { results := [.lit (.bool true)], args := [d1, d2, d3] }
  | _ => none }
def holdAsksRow : OpenClaim := { program := "ytkcacfnefhakbaa", sum := "8b4a1e775b01b2b4d3295205486667378db8f1945153db15213197b6a4633ed5", func := "lamella/lamellalaw12.HoldAsks", spec := "holdAsks", unfollowed := true, recurses := true, apart := false }
def HoldAsksSaid : Prop := holdAsksRow.holds Try.pinned (OpenSpec.ofChange holdAsksSpec)

/-- ITS FALSE NEIGHBOUR: 'it returns false'. Refute it at one input. -/
def holdAsksWrong : ChangeSpec := { name := "holdAsks", fn := fun _ => fun
  | [d1, d2, d3] => { results := [.lit (.bool false)], args := [d1, d2, d3] }
  | _ => none }
def HoldAsksWrongFalsely : Prop := holdAsksRow.holds Try.pinned (OpenSpec.ofChange holdAsksWrong)

/-- 'lamellalaw12.HoldReaders': WHATEVER THE INPUT: true; the input reads as it did. -/
def holdReadersSpec : ChangeSpec := { name := "holdReaders", fn := fun _ => fun
  | [d1, d2] => { results := [.lit (.bool true)], args := [d1, d2] }
  | _ => none }
def holdReadersRow : OpenClaim := { program := "ytkcacfnefhakbaa", sum := "8b4a1e775b01b2b4d3295205486667378db8f1945153db15213197b6a4633ed5", func := "lamella/lamellalaw12.HoldReaders", spec := "holdReaders", unfollowed := true, recurses := true, apart := false }
def HoldReadersSaid : Prop := holdReadersRow.holds Try.pinned (OpenSpec.ofChange holdReadersSpec)

/-- ITS FALSE NEIGHBOUR: 'it returns false'. Refute it at one input. -/
def holdReadersWrong : ChangeSpec := { name := "holdReaders", fn := fun _ => fun
  | [d1, d2] => { results := [.lit (.bool false)], args := [d1, d2] }
  | _ => none }
def HoldReadersWrongFalsely : Prop := holdReadersRow.holds Try.pinned (OpenSpec.ofChange holdReadersWrong)

/-- 'lamellalaw12.HoldKeeps': WHATEVER THE INPUT: true; the input reads as it did. -/
def holdKeepsSpec : ChangeSpec := { name := "holdKeeps", fn := fun _ => fun
  | [d1, d2, d3, d4] => { results := [.lit (.bool true)], args := [d1, d2, d3, d4] }
  | _ => none }
def holdKeepsRow : OpenClaim := { program := "ytkcacfnefhakbaa", sum := "8b4a1e775b01b2b4d3295205486667378db8f1945153db15213197b6a4633ed5", func := "lamella/lamellalaw12.HoldKeeps", spec := "holdKeeps", unfollowed := true, recurses := true, apart := false }
def HoldKeepsSaid : Prop := holdKeepsRow.holds Try.pinned (OpenSpec.ofChange holdKeepsSpec)

/-- ITS FALSE NEIGHBOUR: 'it returns false'. Refute it at one input. -/
def holdKeepsWrong : ChangeSpec := { name := "holdKeeps", fn := fun _ => fun
  | [d1, d2, d3, d4] => { results := [.lit (.bool false)], args := [d1, d2, d3, d4] }
  | _ => none }
def HoldKeepsWrongFalsely : Prop := holdKeepsRow.holds Try.pinned (OpenSpec.ofChange holdKeepsWrong)

/-- 'lamellalaw12.HoldApart': WHATEVER THE INPUT: true; the input reads as it did. -/
def holdApartSpec : ChangeSpec := { name := "holdApart", fn := fun _ => fun
  | [d] => { results := [.lit (.bool true)], args := [d] }
  | _ => none }
def holdApartRow : OpenClaim := { program := "ytkcacfnefhakbaa", sum := "8b4a1e775b01b2b4d3295205486667378db8f1945153db15213197b6a4633ed5", func := "lamella/lamellalaw12.HoldApart", spec := "holdApart", unfollowed := true, recurses := true, apart := false }
def HoldApartSaid : Prop := holdApartRow.holds Try.pinned (OpenSpec.ofChange holdApartSpec)

/-- ITS FALSE NEIGHBOUR: 'it returns false'. Refute it at one input. -/
def holdApartWrong : ChangeSpec := { name := "holdApart", fn := fun _ => fun
  | [d] => { results := [.lit (.bool false)], args := [d] }
  | _ => none }
def HoldApartWrongFalsely : Prop := holdApartRow.holds Try.pinned (OpenSpec.ofChange holdApartWrong)

/- THE SECOND FORM. 'bulk': how many values and letters a reading holds, each counted each time it is reached (what is shared counts as often as it is met; a slice's spare places count too). A statement '..UptoSaid' is the law's where the arguments, and the package variables that the reading takes, are together of bulk at most 1048576: NARROWER than '..Said'. Prove '..Said' where nothing that the law and all that it calls make is longer than what came in: it says more and counts as full. Else prove '..UptoSaid'. A law counts once. -/
mutual
def uptoBulk {H : Type} : DataW H → Nat
  | .lit (.string bytes) => bytes.length + 1
  | .lit _ => 1
  | .nil => 1
  | .ptr d => uptoBulk d + 1
  | .slice elems spare => uptoBulkAll elems + uptoBulkAll spare + 1
  | .agg parts => uptoBulkAll parts + 1
  | .iface _ d => uptoBulk d + 1
  | .map entries => uptoBulkEntries entries + 1
  | .held _ => 1
def uptoBulkAll {H : Type} : List (DataW H) → Nat
  | [] => 0
  | d :: r => uptoBulk d + uptoBulkAll r
def uptoBulkEntries {H : Type} : List (Lit × DataW H) → Nat
  | [] => 0
  | x :: r => uptoBulkEntry x + uptoBulkEntries r
def uptoBulkEntry {H : Type} : Lit × DataW H → Nat
  | (.string bytes, d) => bytes.length + uptoBulk d + 1
  | (_, d) => uptoBulk d + 1
 end
def uptoSmall : (H : Type) → List (DataW H) → Bool := fun _ ds => decide (uptoBulkAll ds ≤ 1048576)
def OpenSpec.upto (s : _root_.Go.ChangeSpec) : _root_.Go.OpenSpec := { _root_.Go.OpenSpec.ofChange s with cond := some uptoSmall }

/-- 'lamellalaw12.HoldRights', WHERE WHAT IT READS IS OF BULK AT MOST 1048576: true; the input reads as it did. -/
def holdRightsUptoRow : OpenClaim := { program := "ytkcacfnefhakbaa", sum := "8b4a1e775b01b2b4d3295205486667378db8f1945153db15213197b6a4633ed5", func := "lamella/lamellalaw12.HoldRights", spec := "holdRights", unfollowed := true, recurses := true, apart := false, narrowed := true }
def HoldRightsUptoSaid : Prop := holdRightsUptoRow.holds Try.pinned (OpenSpec.upto holdRightsSpec)

/-- 'lamellalaw12.HoldAsks', WHERE WHAT IT READS IS OF BULK AT MOST 1048576: true; the input reads as it did. -/
def holdAsksUptoRow : OpenClaim := { program := "ytkcacfnefhakbaa", sum := "8b4a1e775b01b2b4d3295205486667378db8f1945153db15213197b6a4633ed5", func := "lamella/lamellalaw12.HoldAsks", spec := "holdAsks", unfollowed := true, recurses := true, apart := false, narrowed := true }
def HoldAsksUptoSaid : Prop := holdAsksUptoRow.holds Try.pinned (OpenSpec.upto holdAsksSpec)

/-- 'lamellalaw12.HoldReaders', WHERE WHAT IT READS IS OF BULK AT MOST 1048576: true; the input reads as it did. -/
def holdReadersUptoRow : OpenClaim := { program := "ytkcacfnefhakbaa", sum := "8b4a1e775b01b2b4d3295205486667378db8f1945153db15213197b6a4633ed5", func := "lamella/lamellalaw12.HoldReaders", spec := "holdReaders", unfollowed := true, recurses := true, apart := false, narrowed := true }
def HoldReadersUptoSaid : Prop := holdReadersUptoRow.holds Try.pinned (OpenSpec.upto holdReadersSpec)

/-- 'lamellalaw12.HoldKeeps', WHERE WHAT IT READS IS OF BULK AT MOST 1048576: true; the input reads as it did. -/
def holdKeepsUptoRow : OpenClaim := { program := "ytkcacfnefhakbaa", sum := "8b4a1e775b01b2b4d3295205486667378db8f1945153db15213197b6a4633ed5", func := "lamella/lamellalaw12.HoldKeeps", spec := "holdKeeps", unfollowed := true, recurses := true, apart := false, narrowed := true }
def HoldKeepsUptoSaid : Prop := holdKeepsUptoRow.holds Try.pinned (OpenSpec.upto holdKeepsSpec)

/-- 'lamellalaw12.HoldApart', WHERE WHAT IT READS IS OF BULK AT MOST 1048576: true; the input reads as it did. -/
def holdApartUptoRow : OpenClaim := { program := "ytkcacfnefhakbaa", sum := "8b4a1e775b01b2b4d3295205486667378db8f1945153db15213197b6a4633ed5", func := "lamella/lamellalaw12.HoldApart", spec := "holdApart", unfollowed := true, recurses := true, apart := false, narrowed := true }
def HoldApartUptoSaid : Prop := holdApartUptoRow.holds Try.pinned (OpenSpec.upto holdApartSpec)

end Rows
end Go.Proofs.Ytkcacfnefhakbaa
