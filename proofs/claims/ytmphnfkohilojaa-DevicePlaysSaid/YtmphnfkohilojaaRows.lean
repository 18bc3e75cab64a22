/-
  No cell of these rows narrows 'for every input' (looked for: loops, veiled, ifaces, maps, wideKeys, modest, calm, conditions, laid).
  DERIVED. THE GIVEN ROWS OF THIS SEAT. 6 by the template 'for every input the law returns true; each argument reads behind the call as it read before'; 0 by the template 'total and deterministic' (their statements: YtmphnfkohilojaaTotals.lean).
  GIVEN WITH THE SEED: the statements are not yours to turn. If you find one false, say at which input.
  Laid BY PROGRAM, IN A SANDBOX (cutbox-rows.mjs): the forced cells as the released guide's own fill.sh prints them over the translation 6e5545b9da235d4b… (all of the seat's roots in one cut). By AI agents, Wed Nov 11 2026. No macro, syntax, notation, axiom, sorry.
-/
import Derived.Test.YtmphnfkohilojaaChecked
import GoSem.Claim
import GoSem.ClaimJoined
import GoSem.ClaimMapViews
import Derived.JoinedTies
import Derived.KernelRfl
namespace Go.Proofs.Ytmphnfkohilojaa
/- THE CELL 'sum', in the pinned program and in every row, IS THE sha256 OF THE DUMP (.gsa) THAT YtmphnfkohilojaaProg.lean LOADS. Nothing in Lean hashes anything: it is a label: what it is worth is what the hold of that sum in a sandbox is worth. -/
noncomputable def Try.pinned : Pinned := { name := "ytmphnfkohilojaa", sum := "6e5545b9da235d4b1bea6e9067b5be9897a6eb9a61642aed30b0d56bac21cd5b", checked := Try.checked }
namespace Rows
def none {H : Type} : Left H := { results := [], args := [] }

/-- 'lamellalaw03.DeviceLast': WHATEVER THE INPUT: true; the input reads as it did. -/
def deviceLastSpec : ChangeSpec := { name := "deviceLast", fn := fun _ => fun
  | [d] => { results := [.lit (.bool true)], args := [d] }
  | _ => none }
def deviceLastRow : OpenClaim := { program := "ytmphnfkohilojaa", sum := "6e5545b9da235d4b1bea6e9067b5be9897a6eb9a61642aed30b0d56bac21cd5b", func := "lamella/lamellalaw03.DeviceLast", spec := "deviceLast", apart := false }
def DeviceLastSaid : Prop := deviceLastRow.holds Try.pinned (OpenSpec.ofChange deviceLastSpec)

/-- ITS FALSE NEIGHBOUR: 'it returns false'. Refute it at one input. -/
def deviceLastWrong : ChangeSpec := { name := "deviceLast", fn := fun _ => fun
  | [d] => { results := [.lit (.bool false)], args := [d] }
  | _ => none }
def DeviceLastWrongFalsely : Prop := deviceLastRow.holds Try.pinned (OpenSpec.ofChange deviceLastWrong)

/-- 'lamellalaw03.DeviceFirm': WHATEVER THE INPUT: true; the input reads as it did. -/
def deviceFirmSpec : ChangeSpec := { name := "deviceFirm", fn := fun _ => fun
  | [d1, d2] => { results := [.lit (.bool true)], args := [d1, d2] }
  | _ => none }
def deviceFirmRow : OpenClaim := { program := "ytmphnfkohilojaa", sum := "6e5545b9da235d4b1bea6e9067b5be9897a6eb9a61642aed30b0d56bac21cd5b", func := "lamella/lamellalaw03.DeviceFirm", spec := "deviceFirm", apart := false }
def DeviceFirmSaid : Prop := deviceFirmRow.holds Try.pinned (OpenSpec.ofChange deviceFirmSpec)

/-- ITS FALSE NEIGHBOUR: 'it returns false'. Refute it at one input. -/
def deviceFirmWrong : ChangeSpec := { name := "deviceFirm", fn := fun _ => fun
  | [d1, d2] => { results := [.lit (.bool false)], args := [d1, d2] }
  | _ => none }
def DeviceFirmWrongFalsely : Prop := deviceFirmRow.holds Try.pinned (OpenSpec.ofChange deviceFirmWrong)

/-- 'lamellalaw03.DeviceFuse': WHATEVER THE INPUT: true; the input reads as it did. -/
def deviceFuseSpec : ChangeSpec := { name := "deviceFuse", fn := fun _ => fun
  | [d1, d2, d3] => { results := [.lit (.bool true)], args := [d1, d2, d3] }
  | _ => none }
def deviceFuseRow : OpenClaim := { program := "ytmphnfkohilojaa", sum := "6e5545b9da235d4b1bea6e9067b5be9897a6eb9a61642aed30b0d56bac21cd5b", func := "lamella/lamellalaw03.DeviceFuse", spec := "deviceFuse", apart := false }
def DeviceFuseSaid : Prop := deviceFuseRow.holds Try.pinned (OpenSpec.ofChange deviceFuseSpec)

/-- ITS FALSE NEIGHBOUR: 'it returns false'. Refute it at one input. -/
def deviceFuseWrong : ChangeSpec := { name := "deviceFuse", fn := fun _ => fun
  | [d1, d2, d3] => { results := [.lit (.bool false)], args := [d1, d2, d3] }
  | _ => none }
def DeviceFuseWrongFalsely : Prop := deviceFuseRow.holds Try.pinned (OpenSpec.ofChange deviceFuseWrong)

/-- 'lamellalaw03.DeviceSome': WHATEVER THE INPUT: true; the input reads as it did. -/
def deviceSomeSpec : ChangeSpec := { name := "deviceSome", fn := fun _ => fun
  | [d1, d2] => { results := [.lit (.bool true)], args := [d1, d2] }
  | _ => none }
def deviceSomeRow : OpenClaim := { program := "ytmphnfkohilojaa", sum := "6e5545b9da235d4b1bea6e9067b5be9897a6eb9a61642aed30b0d56bac21cd5b", func := "lamella/lamellalaw03.DeviceSome", spec := "deviceSome", apart := false }
def DeviceSomeSaid : Prop := deviceSomeRow.holds Try.pinned (OpenSpec.ofChange deviceSomeSpec)

/-- ITS FALSE NEIGHBOUR: 'it returns false'. Refute it at one input. -/
def deviceSomeWrong : ChangeSpec := { name := "deviceSome", fn := fun _ => fun
  | [d1, d2] => { results := [.lit (.bool false)], args := [d1, d2] }
  | _ => none }
def DeviceSomeWrongFalsely : Prop := deviceSomeRow.holds Try.pinned (OpenSpec.ofChange deviceSomeWrong)

/-- 'lamellalaw03.DevicePlays': WHATEVER THE INPUT: true; the input reads as it did. -/
def devicePlaysSpec : ChangeSpec := { name := "devicePlays", fn := fun _ => fun
  | [d1, d2] => { results := [.lit (.bool true)], args := [d1, d2] }
  | _ => none }
def devicePlaysRow : OpenClaim := { program := "ytmphnfkohilojaa", sum := "6e5545b9da235d4b1bea6e9067b5be9897a6eb9a61642aed30b0d56bac21cd5b", func := "lamella/lamellalaw03.DevicePlays", spec := "devicePlays", apart := false }
def DevicePlaysSaid : Prop := devicePlaysRow.holds Try.pinned (OpenSpec.ofChange devicePlaysSpec)

/-- ITS FALSE NEIGHBOUR: 'it returns false'. Refute it at one input. -/
def devicePlaysWrong : ChangeSpec := { name := "devicePlays", fn := fun _ => fun
  | [d1, d2] => { results := [.lit (.bool false)], args := [d1, d2] }
  | _ => none }
def DevicePlaysWrongFalsely : Prop := devicePlaysRow.holds Try.pinned (OpenSpec.ofChange devicePlaysWrong)

/-- 'lamellalaw03.DeviceSizes': WHATEVER THE INPUT: true; the input reads as it did. -/
def deviceSizesSpec : ChangeSpec := { name := "deviceSizes", fn := fun _ => fun
  | [d1, d2] => { results := [.lit (.bool true)], args := [d1, d2] }
  | _ => none }
def deviceSizesRow : OpenClaim := { program := "ytmphnfkohilojaa", sum := "6e5545b9da235d4b1bea6e9067b5be9897a6eb9a61642aed30b0d56bac21cd5b", func := "lamella/lamellalaw03.DeviceSizes", spec := "deviceSizes", apart := false }
def DeviceSizesSaid : Prop := deviceSizesRow.holds Try.pinned (OpenSpec.ofChange deviceSizesSpec)

/-- ITS FALSE NEIGHBOUR: 'it returns false'. Refute it at one input. -/
def deviceSizesWrong : ChangeSpec := { name := "deviceSizes", fn := fun _ => fun
  | [d1, d2] => { results := [.lit (.bool false)], args := [d1, d2] }
  | _ => none }
def DeviceSizesWrongFalsely : Prop := deviceSizesRow.holds Try.pinned (OpenSpec.ofChange deviceSizesWrong)

/- THE SECOND FORM. 'bulk': how many values and letters a reading holds, each counted each time it is reached (what is shared counts as often as it is met; a slice's spare places count too). A statement '..UptoSaid' is the law's where the arguments, and the package variables that the reading takes, are together of bulk at most 1048576: NARROWER than '..Said'. Prove '..Said' where nothing that the law and all that it calls make is longer than what came in: it says more and counts as full. Else prove '..UptoSaid'. A law counts once. -/
mutual
def uptoBulk {H : Type} : DataW H → Nat
  | .lit (.string bytes) => bytes.length + 1
  | .lit _ => 1
  | .nil => 1
  | .ptr d => uptoBulk d + 1
  | .slice elems spare => uptoBulkAll elems + uptoBulkAll spare + 1
  | .agg parts => uptoBulkAll parts + 1
  | .iface _ d => uptoBulk d + 1
  | .map entries => uptoBulkEntries entries + 1
  | .held _ => 1
def uptoBulkAll {H : Type} : List (DataW H) → Nat
  | [] => 0
  | d :: r => uptoBulk d + uptoBulkAll r
def uptoBulkEntries {H : Type} : List (Lit × DataW H) → Nat
  | [] => 0
  | x :: r => uptoBulkEntry x + uptoBulkEntries r
def uptoBulkEntry {H : Type} : Lit × DataW H → Nat
  | (.string bytes, d) => bytes.length + uptoBulk d + 1
  | (_, d) => uptoBulk d + 1
 end
def uptoSmall : (H : Type) → List (DataW H) → Bool := fun _ ds => decide (uptoBulkAll ds ≤ 1048576)
def OpenSpec.upto (s : _root_.Go.ChangeSpec) : _root_.Go.OpenSpec := { _root_.Go.OpenSpec.ofChange s with cond := some uptoSmall }

/-- 'lamellalaw03.DeviceLast', WHERE WHAT IT READS IS OF BULK AT MOST 1048576: true; the input reads as it did. -/
def deviceLastUptoRow : OpenClaim := { program := "ytmphnfkohilojaa", sum := "6e5545b9da235d4b1bea6e9067b5be9897a6eb9a61642aed30b0d56bac21cd5b", func := "lamella/lamellalaw03.DeviceLast", spec := "deviceLast", apart := false, narrowed := true }
def DeviceLastUptoSaid : Prop := deviceLastUptoRow.holds Try.pinned (OpenSpec.upto deviceLastSpec)

/-- 'lamellalaw03.DeviceFirm', WHERE WHAT IT READS IS OF BULK AT MOST 1048576: true; the input reads as it did. -/
def deviceFirmUptoRow : OpenClaim := { program := "ytmphnfkohilojaa", sum := "6e5545b9da235d4b1bea6e9067b5be9897a6eb9a61642aed30b0d56bac21cd5b", func := "lamella/lamellalaw03.DeviceFirm", spec := "deviceFirm", apart := false, narrowed := true }
def DeviceFirmUptoSaid : Prop := deviceFirmUptoRow.holds Try.pinned (OpenSpec.upto deviceFirmSpec)

/-- 'lamellalaw03.DeviceFuse', WHERE WHAT IT READS IS OF BULK AT MOST 1048576: true; the input reads as it did. -/
def deviceFuseUptoRow : OpenClaim := { program := "ytmphnfkohilojaa", sum := "6e5545b9da235d4b1bea6e9067b5be9897a6eb9a61642aed30b0d56bac21cd5b", func := "lamella/lamellalaw03.DeviceFuse", spec := "deviceFuse", apart := false, narrowed := true }
def DeviceFuseUptoSaid : Prop := deviceFuseUptoRow.holds Try.pinned (OpenSpec.upto deviceFuseSpec)

/-- 'lamellalaw03.DeviceSome', WHERE WHAT IT READS IS OF BULK AT MOST 1048576: true; the input reads as it did. -/
def deviceSomeUptoRow : OpenClaim := { program := "ytmphnfkohilojaa", sum := "6e5545b9da235d4b1bea6e9067b5be9897a6eb9a61642aed30b0d56bac21cd5b", func := "lamella/lamellalaw03.DeviceSome", spec := "deviceSome", apart := false, narrowed := true }
def DeviceSomeUptoSaid : Prop := deviceSomeUptoRow.holds Try.pinned (OpenSpec.upto deviceSomeSpec)

/-- 'lamellalaw03.DevicePlays', WHERE WHAT IT READS IS OF BULK AT MOST 1048576: true; the input reads as it did. -/
def devicePlaysUptoRow : OpenClaim := { program := "ytmphnfkohilojaa", sum := "6e5545b9da235d4b1bea6e9067b5be9897a6eb9a61642aed30b0d56bac21cd5b", func := "lamella/lamellalaw03.DevicePlays", spec := "devicePlays", apart := false, narrowed := true }
def DevicePlaysUptoSaid : Prop := devicePlaysUptoRow.holds Try.pinned (OpenSpec.upto devicePlaysSpec)

/-- 'lamellalaw03.DeviceSizes', WHERE WHAT IT READS IS OF BULK AT MOST 1048576: true; the input reads as it did. -/
def deviceSizesUptoRow : OpenClaim := { program := "ytmphnfkohilojaa", sum := "6e5545b9da235d4b1bea6e9067b5be9897a6eb9a61642aed30b0d56bac21cd5b", func := "lamella/lamellalaw03.DeviceSizes", spec := "deviceSizes", apart := false, narrowed := true }
def DeviceSizesUptoSaid : Prop := deviceSizesUptoRow.holds Try.pinned (OpenSpec.upto deviceSizesSpec)

end Rows
end Go.Proofs.Ytmphnfkohilojaa
