/-
  No cell of these rows narrows 'for every input' (looked for: loops, veiled, ifaces, maps, wideKeys, modest, calm, conditions, laid).
  DERIVED. THE GIVEN ROWS OF THIS SEAT. 5 by the template 'for every input the law returns true; each argument reads behind the call as it read before'; 0 by the template 'total and deterministic' (their statements: YteijghkhbfhmhaaTotals.lean).
  GIVEN WITH THE SEED: the statements are not yours to turn. If you find one false, say at which input.
  Laid BY PROGRAM, IN A SANDBOX (cutbox-rows.mjs): the forced cells as the released guide's own fill.sh prints them over the translation 38b522f2bd597854… (all of the seat's roots in one cut). By AI agents, Wed Nov 11 2026. No macro, syntax, notation, axiom, sorry.
-/
import Derived.Test.YteijghkhbfhmhaaChecked
import GoSem.Claim
import GoSem.ClaimJoined
import GoSem.ClaimMapViews
import Derived.JoinedTies
import Derived.KernelRfl
namespace Go.Proofs.Yteijghkhbfhmhaa
/- THE CELL 'sum', in the pinned program and in every row, IS THE sha256 OF THE DUMP (.gsa) THAT YteijghkhbfhmhaaProg.lean LOADS. Nothing in Lean hashes anything: it is a label: what it is worth is what the hold of that sum in a sandbox is worth. -/
noncomputable def Try.pinned : Pinned := { name := "yteijghkhbfhmhaa", sum := "38b522f2bd59785414c63df588ea30174b3a753f16240187971a6746a5caf7c7", checked := Try.checked }
namespace Rows
def none {H : Type} : Left H := { results := [], args := [] }

/-- 'lamellalaw01.PlanePlaces': WHATEVER THE INPUT: true; the input reads as it did. -/
def planePlacesSpec : ChangeSpec := { name := "planePlaces", fn := fun _ => fun
  | [d1, d2, d3, d4] => { results := [.lit (.bool true)], args := [d1, d2, d3, d4] }
  | _ => none }
def planePlacesRow : OpenClaim := { program := "yteijghkhbfhmhaa", sum := "38b522f2bd59785414c63df588ea30174b3a753f16240187971a6746a5caf7c7", func := "lamella/lamellalaw01.PlanePlaces", spec := "planePlaces", apart := false }
def PlanePlacesSaid : Prop := planePlacesRow.holds Try.pinned (OpenSpec.ofChange planePlacesSpec)

/-- ITS FALSE NEIGHBOUR: 'it returns false'. Refute it at one input. -/
def planePlacesWrong : ChangeSpec := { name := "planePlaces", fn := fun _ => fun
  | [d1, d2, d3, d4] => { results := [.lit (.bool false)], args := [d1, d2, d3, d4] }
  | _ => none }
def PlanePlacesWrongFalsely : Prop := planePlacesRow.holds Try.pinned (OpenSpec.ofChange planePlacesWrong)

/-- 'lamellalaw01.PlaneSteps': WHATEVER THE INPUT: true; the input reads as it did. -/
def planeStepsSpec : ChangeSpec := { name := "planeSteps", fn := fun _ => fun
  | [d1, d2, d3, d4] => { results := [.lit (.bool true)], args := [d1, d2, d3, d4] }
  | _ => none }
def planeStepsRow : OpenClaim := { program := "yteijghkhbfhmhaa", sum := "38b522f2bd59785414c63df588ea30174b3a753f16240187971a6746a5caf7c7", func := "lamella/lamellalaw01.PlaneSteps", spec := "planeSteps", apart := false }
def PlaneStepsSaid : Prop := planeStepsRow.holds Try.pinned (OpenSpec.ofChange planeStepsSpec)

/-- ITS FALSE NEIGHBOUR: 'it returns false'. Refute it at one input. -/
def planeStepsWrong : ChangeSpec := { name := "planeSteps", fn := fun _ => fun
  | [d1, d2, d3, d4] => { results := [.lit (.bool false)], args := [d1, d2, d3, d4] }
  | _ => none }
def PlaneStepsWrongFalsely : Prop := planeStepsRow.holds Try.pinned (OpenSpec.ofChange planeStepsWrong)

/-- 'lamellalaw01.PlaneApart': WHATEVER THE INPUT: true; the input reads as it did. -/
def planeApartSpec : ChangeSpec := { name := "planeApart", fn := fun _ => fun
  | [d1, d2, d3] => { results := [.lit (.bool true)], args := [d1, d2, d3] }
  | _ => none }
def planeApartRow : OpenClaim := { program := "yteijghkhbfhmhaa", sum := "38b522f2bd59785414c63df588ea30174b3a753f16240187971a6746a5caf7c7", func := "lamella/lamellalaw01.PlaneApart", spec := "planeApart", apart := false }
def PlaneApartSaid : Prop := planeApartRow.holds Try.pinned (OpenSpec.ofChange planeApartSpec)

/-- ITS FALSE NEIGHBOUR: 'it returns false'. Refute it at one input. -/
def planeApartWrong : ChangeSpec := { name := "planeApart", fn := fun _ => fun
  | [d1, d2, d3] => { results := [.lit (.bool false)], args := [d1, d2, d3] }
  | _ => none }
def PlaneApartWrongFalsely : Prop := planeApartRow.holds Try.pinned (OpenSpec.ofChange planeApartWrong)

/-- 'lamellalaw01.PlaneRounds': WHATEVER THE INPUT: true; the input reads as it did. -/
def planeRoundsSpec : ChangeSpec := { name := "planeRounds", fn := fun _ => fun
  | [d1, d2] => { results := [.lit (.bool true)], args := [d1, d2] }
  | _ => none }
def planeRoundsRow : OpenClaim := { program := "yteijghkhbfhmhaa", sum := "38b522f2bd59785414c63df588ea30174b3a753f16240187971a6746a5caf7c7", func := "lamella/lamellalaw01.PlaneRounds", spec := "planeRounds", apart := false }
def PlaneRoundsSaid : Prop := planeRoundsRow.holds Try.pinned (OpenSpec.ofChange planeRoundsSpec)

/-- ITS FALSE NEIGHBOUR: 'it returns false'. Refute it at one input. -/
def planeRoundsWrong : ChangeSpec := { name := "planeRounds", fn := fun _ => fun
  | [d1, d2] => { results := [.lit (.bool false)], args := [d1, d2] }
  | _ => none }
def PlaneRoundsWrongFalsely : Prop := planeRoundsRow.holds Try.pinned (OpenSpec.ofChange planeRoundsWrong)

/-- 'lamellalaw01.PlaneAdds': WHATEVER THE INPUT: true; the input reads as it did. -/
def planeAddsSpec : ChangeSpec := { name := "planeAdds", fn := fun _ => fun
  | [d1, d2, d3, d4] => { results := [.lit (.bool true)], args := [d1, d2, d3, d4] }
  | _ => none }
def planeAddsRow : OpenClaim := { program := "yteijghkhbfhmhaa", sum := "38b522f2bd59785414c63df588ea30174b3a753f16240187971a6746a5caf7c7", func := "lamella/lamellalaw01.PlaneAdds", spec := "planeAdds", apart := false }
def PlaneAddsSaid : Prop := planeAddsRow.holds Try.pinned (OpenSpec.ofChange planeAddsSpec)

/-- ITS FALSE NEIGHBOUR: 'it returns false'. Refute it at one input. -/
def planeAddsWrong : ChangeSpec := { name := "planeAdds", fn := fun _ => fun
  | [d1, d2, d3, d4] => { results := [.lit (.bool false)], args := [d1, d2, d3, d4] }
  | _ => none }
def PlaneAddsWrongFalsely : Prop := planeAddsRow.holds Try.pinned (OpenSpec.ofChange planeAddsWrong)

/- THE SECOND FORM. 'bulk': how many values and letters a reading holds, each counted each time it is reached (what is shared counts as often as it is met; a slice's spare places count too). A statement '..UptoSaid' is the law's where the arguments, and the package variables that the reading takes, are together of bulk at most 1048576: NARROWER than '..Said'. Prove '..Said' where nothing that the law and all that it calls make is longer than what came in: it says more and counts as full. Else prove '..UptoSaid'. A law counts once. -/
mutual
def uptoBulk {H : Type} : DataW H → Nat
  | .lit (.string bytes) => bytes.length + 1
  | .lit _ => 1
  | .nil => 1
  | .ptr d => uptoBulk d + 1
  | .slice elems spare => uptoBulkAll elems + uptoBulkAll spare + 1
  | .agg parts => uptoBulkAll parts + 1
  | .iface _ d => uptoBulk d + 1
  | .map entries => uptoBulkEntries entries + 1
  | .held _ => 1
def uptoBulkAll {H : Type} : List (DataW H) → Nat
  | [] => 0
  | d :: r => uptoBulk d + uptoBulkAll r
def uptoBulkEntries {H : Type} : List (Lit × DataW H) → Nat
  | [] => 0
  | x :: r => uptoBulkEntry x + uptoBulkEntries r
def uptoBulkEntry {H : Type} : Lit × DataW H → Nat
  | (.string bytes, d) => bytes.length + uptoBulk d + 1
  | (_, d) => uptoBulk d + 1
 end
def uptoSmall : (H : Type) → List (DataW H) → Bool := fun _ ds => decide (uptoBulkAll ds ≤ 1048576)
def OpenSpec.upto (s : _root_.Go.ChangeSpec) : _root_.Go.OpenSpec := { _root_.Go.OpenSpec.ofChange s with cond := some uptoSmall }

/-- 'lamellalaw01.PlanePlaces', WHERE WHAT IT READS IS OF BULK AT MOST 1048576: true; the input reads as it did. -/
def planePlacesUptoRow : OpenClaim := { program := "yteijghkhbfhmhaa", sum := "38b522f2bd59785414c63df588ea30174b3a753f16240187971a6746a5caf7c7", func := "lamella/lamellalaw01.PlanePlaces", spec := "planePlaces", apart := false, narrowed := true }
def PlanePlacesUptoSaid : Prop := planePlacesUptoRow.holds Try.pinned (OpenSpec.upto planePlacesSpec)

/-- 'lamellalaw01.PlaneSteps', WHERE WHAT IT READS IS OF BULK AT MOST 1048576: true; the input reads as it did. -/
def planeStepsUptoRow : OpenClaim := { program := "yteijghkhbfhmhaa", sum := "38b522f2bd59785414c63df588ea30174b3a753f16240187971a6746a5caf7c7", func := "lamella/lamellalaw01.PlaneSteps", spec := "planeSteps", apart := false, narrowed := true }
def PlaneStepsUptoSaid : Prop := planeStepsUptoRow.holds Try.pinned (OpenSpec.upto planeStepsSpec)

/-- 'lamellalaw01.PlaneApart', WHERE WHAT IT READS IS OF BULK AT MOST 1048576: true; the input reads as it did. -/
def planeApartUptoRow : OpenClaim := { program := "yteijghkhbfhmhaa", sum := "38b522f2bd59785414c63df588ea30174b3a753f16240187971a6746a5caf7c7", func := "lamella/lamellalaw01.PlaneApart", spec := "planeApart", apart := false, narrowed := true }
def PlaneApartUptoSaid : Prop := planeApartUptoRow.holds Try.pinned (OpenSpec.upto planeApartSpec)

/-- 'lamellalaw01.PlaneRounds', WHERE WHAT IT READS IS OF BULK AT MOST 1048576: true; the input reads as it did. -/
def planeRoundsUptoRow : OpenClaim := { program := "yteijghkhbfhmhaa", sum := "38b522f2bd59785414c63df588ea30174b3a753f16240187971a6746a5caf7c7", func := "lamella/lamellalaw01.PlaneRounds", spec := "planeRounds", apart := false, narrowed := true }
def PlaneRoundsUptoSaid : Prop := planeRoundsUptoRow.holds Try.pinned (OpenSpec.upto planeRoundsSpec)

/-- 'lamellalaw01.PlaneAdds', WHERE WHAT IT READS IS OF BULK AT MOST 1048576: true; the input reads as it did. -/
def planeAddsUptoRow : OpenClaim := { program := "yteijghkhbfhmhaa", sum := "38b522f2bd59785414c63df588ea30174b3a753f16240187971a6746a5caf7c7", func := "lamella/lamellalaw01.PlaneAdds", spec := "planeAdds", apart := false, narrowed := true }
def PlaneAddsUptoSaid : Prop := planeAddsUptoRow.holds Try.pinned (OpenSpec.upto planeAddsSpec)

end Rows
end Go.Proofs.Yteijghkhbfhmhaa
