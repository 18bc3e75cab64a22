/-
  No cell of these rows narrows 'for every input' (looked for: loops, veiled, ifaces, maps, wideKeys, modest, calm, conditions, laid).
  DERIVED. THE GIVEN ROWS OF THIS SEAT. 5 by the template 'for every input the law returns true; each argument reads behind the call as it read before'; 0 by the template 'total and deterministic' (their statements: YtfacdadbebjebaaTotals.lean).
  GIVEN WITH THE SEED: the statements are not yours to turn. If you find one false, say at which input.
  Laid BY PROGRAM, IN A SANDBOX (cutbox-rows.mjs): the forced cells as the released guide's own fill.sh prints them over the translation d0fc9a0b20d5a798… (all of the seat's roots in one cut). By AI agents, Wed Nov 11 2026. No macro, syntax, notation, axiom, sorry.
-/
import Derived.Test.YtfacdadbebjebaaChecked
import GoSem.Claim
import GoSem.ClaimJoined
import GoSem.ClaimMapViews
import Derived.JoinedTies
import Derived.KernelRfl
namespace Go.Proofs.Ytfacdadbebjebaa
/- THE CELL 'sum', in the pinned program and in every row, IS THE sha256 OF THE DUMP (.gsa) THAT YtfacdadbebjebaaProg.lean LOADS. Nothing in Lean hashes anything: it is a label: what it is worth is what the hold of that sum in a sandbox is worth. -/
noncomputable def Try.pinned : Pinned := { name := "ytfacdadbebjebaa", sum := "d0fc9a0b20d5a79899e58e066bfc12edf3724237c3333205a78d0b4dca3b4f86", checked := Try.checked }
namespace Rows
def none {H : Type} : Left H := { results := [], args := [] }

/-- 'lamellalaw08.LaneJudges': WHATEVER THE INPUT: true; the input reads as it did. -/
def laneJudgesSpec : ChangeSpec := { name := "laneJudges", fn := fun _ => fun
  | [d1, d2, d3, d4] => { results := [.lit (.bool true)], args := [d1, d2, d3, d4] }
  | _ => none }
def laneJudgesRow : OpenClaim := { program := "ytfacdadbebjebaa", sum := "d0fc9a0b20d5a79899e58e066bfc12edf3724237c3333205a78d0b4dca3b4f86", func := "lamella/lamellalaw08.LaneJudges", spec := "laneJudges", apart := false }
def LaneJudgesSaid : Prop := laneJudgesRow.holds Try.pinned (OpenSpec.ofChange laneJudgesSpec)

/-- ITS FALSE NEIGHBOUR: 'it returns false'. Refute it at one input. -/
def laneJudgesWrong : ChangeSpec := { name := "laneJudges", fn := fun _ => fun
  | [d1, d2, d3, d4] => { results := [.lit (.bool false)], args := [d1, d2, d3, d4] }
  | _ => none }
def LaneJudgesWrongFalsely : Prop := laneJudgesRow.holds Try.pinned (OpenSpec.ofChange laneJudgesWrong)

/-- 'lamellalaw08.LaneHears': WHATEVER THE INPUT: true; the input reads as it did. -/
def laneHearsSpec : ChangeSpec := { name := "laneHears", fn := fun _ => fun
  | [d1, d2, d3, d4, d5] => { results := [.lit (.bool true)], args := [d1, d2, d3, d4, d5] }
  | _ => none }
def laneHearsRow : OpenClaim := { program := "ytfacdadbebjebaa", sum := "d0fc9a0b20d5a79899e58e066bfc12edf3724237c3333205a78d0b4dca3b4f86", func := "lamella/lamellalaw08.LaneHears", spec := "laneHears", apart := false }
def LaneHearsSaid : Prop := laneHearsRow.holds Try.pinned (OpenSpec.ofChange laneHearsSpec)

/-- ITS FALSE NEIGHBOUR: 'it returns false'. Refute it at one input. -/
def laneHearsWrong : ChangeSpec := { name := "laneHears", fn := fun _ => fun
  | [d1, d2, d3, d4, d5] => { results := [.lit (.bool false)], args := [d1, d2, d3, d4, d5] }
  | _ => none }
def LaneHearsWrongFalsely : Prop := laneHearsRow.holds Try.pinned (OpenSpec.ofChange laneHearsWrong)

/-- 'lamellalaw08.LaneOnce': WHATEVER THE INPUT: true; the input reads as it did. -/
def laneOnceSpec : ChangeSpec := { name := "laneOnce", fn := fun _ => fun
  | [d1, d2] => { results := [.lit (.bool true)], args := [d1, d2] }
  | _ => none }
def laneOnceRow : OpenClaim := { program := "ytfacdadbebjebaa", sum := "d0fc9a0b20d5a79899e58e066bfc12edf3724237c3333205a78d0b4dca3b4f86", func := "lamella/lamellalaw08.LaneOnce", spec := "laneOnce", apart := false }
def LaneOnceSaid : Prop := laneOnceRow.holds Try.pinned (OpenSpec.ofChange laneOnceSpec)

/-- ITS FALSE NEIGHBOUR: 'it returns false'. Refute it at one input. -/
def laneOnceWrong : ChangeSpec := { name := "laneOnce", fn := fun _ => fun
  | [d1, d2] => { results := [.lit (.bool false)], args := [d1, d2] }
  | _ => none }
def LaneOnceWrongFalsely : Prop := laneOnceRow.holds Try.pinned (OpenSpec.ofChange laneOnceWrong)

/-- 'lamellalaw08.LaneWaits': WHATEVER THE INPUT: true; the input reads as it did. -/
def laneWaitsSpec : ChangeSpec := { name := "laneWaits", fn := fun _ => fun
  | [d1, d2] => { results := [.lit (.bool true)], args := [d1, d2] }
  | _ => none }
def laneWaitsRow : OpenClaim := { program := "ytfacdadbebjebaa", sum := "d0fc9a0b20d5a79899e58e066bfc12edf3724237c3333205a78d0b4dca3b4f86", func := "lamella/lamellalaw08.LaneWaits", spec := "laneWaits", apart := false }
def LaneWaitsSaid : Prop := laneWaitsRow.holds Try.pinned (OpenSpec.ofChange laneWaitsSpec)

/-- ITS FALSE NEIGHBOUR: 'it returns false'. Refute it at one input. -/
def laneWaitsWrong : ChangeSpec := { name := "laneWaits", fn := fun _ => fun
  | [d1, d2] => { results := [.lit (.bool false)], args := [d1, d2] }
  | _ => none }
def LaneWaitsWrongFalsely : Prop := laneWaitsRow.holds Try.pinned (OpenSpec.ofChange laneWaitsWrong)

/-- 'lamellalaw08.LaneLives': WHATEVER THE INPUT: true; the input reads as it did. -/
def laneLivesSpec : ChangeSpec := { name := "laneLives", fn := fun _ => fun
  | [d1, d2, d3, d4, d5] => { results := [.lit (.bool true)], args := [d1, d2, d3, d4, d5] }
  | _ => none }
def laneLivesRow : OpenClaim := { program := "ytfacdadbebjebaa", sum := "d0fc9a0b20d5a79899e58e066bfc12edf3724237c3333205a78d0b4dca3b4f86", func := "lamella/lamellalaw08.LaneLives", spec := "laneLives", apart := false }
def LaneLivesSaid : Prop := laneLivesRow.holds Try.pinned (OpenSpec.ofChange laneLivesSpec)

/-- ITS FALSE NEIGHBOUR: 'it returns false'. Refute it at one input. -/
def laneLivesWrong : ChangeSpec := { name := "laneLives", fn := fun _ => fun
  | [d1, d2, d3, d4, d5] => { results := [.lit (.bool false)], args := [d1, d2, d3, d4, d5] }
  | _ => none }
def LaneLivesWrongFalsely : Prop := laneLivesRow.holds Try.pinned (OpenSpec.ofChange laneLivesWrong)

/- THE SECOND FORM. 'bulk': how many values and letters a reading holds, each counted each time it is reached (what is shared counts as often as it is met; a slice's spare places count too). A statement '..UptoSaid' is the law's where the arguments, and the package variables that the reading takes, are together of bulk at most 1048576: NARROWER than '..Said'. Prove '..Said' where nothing that the law and all that it calls make is longer than what came in: it says more and counts as full. Else prove '..UptoSaid'. A law counts once. -/
mutual
def uptoBulk {H : Type} : DataW H → Nat
  | .lit (.string bytes) => bytes.length + 1
  | .lit _ => 1
  | .nil => 1
  | .ptr d => uptoBulk d + 1
  | .slice elems spare => uptoBulkAll elems + uptoBulkAll spare + 1
  | .agg parts => uptoBulkAll parts + 1
  | .iface _ d => uptoBulk d + 1
  | .map entries => uptoBulkEntries entries + 1
  | .held _ => 1
def uptoBulkAll {H : Type} : List (DataW H) → Nat
  | [] => 0
  | d :: r => uptoBulk d + uptoBulkAll r
def uptoBulkEntries {H : Type} : List (Lit × DataW H) → Nat
  | [] => 0
  | x :: r => uptoBulkEntry x + uptoBulkEntries r
def uptoBulkEntry {H : Type} : Lit × DataW H → Nat
  | (.string bytes, d) => bytes.length + uptoBulk d + 1
  | (_, d) => uptoBulk d + 1
 end
def uptoSmall : (H : Type) → List (DataW H) → Bool := fun _ ds => decide (uptoBulkAll ds ≤ 1048576)
def OpenSpec.upto (s : _root_.Go.ChangeSpec) : _root_.Go.OpenSpec := { _root_.Go.OpenSpec.ofChange s with cond := some uptoSmall }

/-- 'lamellalaw08.LaneJudges', WHERE WHAT IT READS IS OF BULK AT MOST 1048576: true; the input reads as it did. -/
def laneJudgesUptoRow : OpenClaim := { program := "ytfacdadbebjebaa", sum := "d0fc9a0b20d5a79899e58e066bfc12edf3724237c3333205a78d0b4dca3b4f86", func := "lamella/lamellalaw08.LaneJudges", spec := "laneJudges", apart := false, narrowed := true }
def LaneJudgesUptoSaid : Prop := laneJudgesUptoRow.holds Try.pinned (OpenSpec.upto laneJudgesSpec)

/-- 'lamellalaw08.LaneHears', WHERE WHAT IT READS IS OF BULK AT MOST 1048576: true; the input reads as it did. -/
def laneHearsUptoRow : OpenClaim := { program := "ytfacdadbebjebaa", sum := "d0fc9a0b20d5a79899e58e066bfc12edf3724237c3333205a78d0b4dca3b4f86", func := "lamella/lamellalaw08.LaneHears", spec := "laneHears", apart := false, narrowed := true }
def LaneHearsUptoSaid : Prop := laneHearsUptoRow.holds Try.pinned (OpenSpec.upto laneHearsSpec)

/-- 'lamellalaw08.LaneOnce', WHERE WHAT IT READS IS OF BULK AT MOST 1048576: true; the input reads as it did. -/
def laneOnceUptoRow : OpenClaim := { program := "ytfacdadbebjebaa", sum := "d0fc9a0b20d5a79899e58e066bfc12edf3724237c3333205a78d0b4dca3b4f86", func := "lamella/lamellalaw08.LaneOnce", spec := "laneOnce", apart := false, narrowed := true }
def LaneOnceUptoSaid : Prop := laneOnceUptoRow.holds Try.pinned (OpenSpec.upto laneOnceSpec)

/-- 'lamellalaw08.LaneWaits', WHERE WHAT IT READS IS OF BULK AT MOST 1048576: true; the input reads as it did. -/
def laneWaitsUptoRow : OpenClaim := { program := "ytfacdadbebjebaa", sum := "d0fc9a0b20d5a79899e58e066bfc12edf3724237c3333205a78d0b4dca3b4f86", func := "lamella/lamellalaw08.LaneWaits", spec := "laneWaits", apart := false, narrowed := true }
def LaneWaitsUptoSaid : Prop := laneWaitsUptoRow.holds Try.pinned (OpenSpec.upto laneWaitsSpec)

/-- 'lamellalaw08.LaneLives', WHERE WHAT IT READS IS OF BULK AT MOST 1048576: true; the input reads as it did. -/
def laneLivesUptoRow : OpenClaim := { program := "ytfacdadbebjebaa", sum := "d0fc9a0b20d5a79899e58e066bfc12edf3724237c3333205a78d0b4dca3b4f86", func := "lamella/lamellalaw08.LaneLives", spec := "laneLives", apart := false, narrowed := true }
def LaneLivesUptoSaid : Prop := laneLivesUptoRow.holds Try.pinned (OpenSpec.upto laneLivesSpec)

end Rows
end Go.Proofs.Ytfacdadbebjebaa
