/-
  No cell of these rows narrows 'for every input' (looked for: loops, veiled, ifaces, maps, wideKeys, modest, calm, conditions, laid).
  DERIVED. THE GIVEN ROWS OF THIS SEAT. 8 by the template 'for every input the law returns true; each argument reads behind the call as it read before'; 0 by the template 'total and deterministic' (their statements: YtaipmnelcpilaaaTotals.lean).
  GIVEN WITH THE SEED: the statements are not yours to turn. If you find one false, say at which input.
  Laid BY PROGRAM, IN A SANDBOX (cutbox-rows.mjs): the forced cells as the released guide's own fill.sh prints them over the translation 5a94e4f296f5605d… (all of the seat's roots in one cut). By AI agents, Wed Nov 11 2026. No macro, syntax, notation, axiom, sorry.
-/
import Derived.Test.YtaipmnelcpilaaaChecked
import GoSem.Claim
import GoSem.ClaimJoined
import GoSem.ClaimMapViews
import Derived.JoinedTies
import Derived.KernelRfl
namespace Go.Proofs.Ytaipmnelcpilaaa
/- THE CELL 'sum', in the pinned program and in every row, IS THE sha256 OF THE DUMP (.gsa) THAT YtaipmnelcpilaaaProg.lean LOADS. Nothing in Lean hashes anything: it is a label: what it is worth is what the hold of that sum in a sandbox is worth. -/
noncomputable def Try.pinned : Pinned := { name := "ytaipmnelcpilaaa", sum := "5a94e4f296f5605d0e5ccf3db7e93fe660d8a3fa94688bdce245bf410695ceaa", checked := Try.checked }
namespace Rows
def none {H : Type} : Left H := { results := [], args := [] }

/-- 'lamellalaw06.StripeFrags': WHATEVER THE INPUT: true; the input reads as it did. -/
def stripeFragsSpec : ChangeSpec := { name := "stripeFrags", fn := fun _ => fun
  | [d1, d2, d3] => { results := [.lit (.bool true)], args := [d1, d2, d3] }
  | _ => none }
def stripeFragsRow : OpenClaim := { program := "ytaipmnelcpilaaa", sum := "5a94e4f296f5605d0e5ccf3db7e93fe660d8a3fa94688bdce245bf410695ceaa", func := "lamella/lamellalaw06.StripeFrags", spec := "stripeFrags", apart := false }
def StripeFragsSaid : Prop := stripeFragsRow.holds Try.pinned (OpenSpec.ofChange stripeFragsSpec)

/-- ITS FALSE NEIGHBOUR: 'it returns false'. Refute it at one input. -/
def stripeFragsWrong : ChangeSpec := { name := "stripeFrags", fn := fun _ => fun
  | [d1, d2, d3] => { results := [.lit (.bool false)], args := [d1, d2, d3] }
  | _ => none }
def StripeFragsWrongFalsely : Prop := stripeFragsRow.holds Try.pinned (OpenSpec.ofChange stripeFragsWrong)

/-- 'lamellalaw06.StripeLengths': WHATEVER THE INPUT: true; the input reads as it did. -/
def stripeLengthsSpec : ChangeSpec := { name := "stripeLengths", fn := fun _ => fun
  | [d1, d2, d3] => { results := [.lit (.bool true)], args := [d1, d2, d3] }
  | _ => none }
def stripeLengthsRow : OpenClaim := { program := "ytaipmnelcpilaaa", sum := "5a94e4f296f5605d0e5ccf3db7e93fe660d8a3fa94688bdce245bf410695ceaa", func := "lamella/lamellalaw06.StripeLengths", spec := "stripeLengths", apart := false }
def StripeLengthsSaid : Prop := stripeLengthsRow.holds Try.pinned (OpenSpec.ofChange stripeLengthsSpec)

/-- ITS FALSE NEIGHBOUR: 'it returns false'. Refute it at one input. -/
def stripeLengthsWrong : ChangeSpec := { name := "stripeLengths", fn := fun _ => fun
  | [d1, d2, d3] => { results := [.lit (.bool false)], args := [d1, d2, d3] }
  | _ => none }
def StripeLengthsWrongFalsely : Prop := stripeLengthsRow.holds Try.pinned (OpenSpec.ofChange stripeLengthsWrong)

/-- 'lamellalaw06.StripeWhole': WHATEVER THE INPUT: true; the input reads as it did. -/
def stripeWholeSpec : ChangeSpec := { name := "stripeWhole", fn := fun _ => fun
  | [d1, d2, d3] => { results := [.lit (.bool true)], args := [d1, d2, d3] }
  | _ => none }
def stripeWholeRow : OpenClaim := { program := "ytaipmnelcpilaaa", sum := "5a94e4f296f5605d0e5ccf3db7e93fe660d8a3fa94688bdce245bf410695ceaa", func := "lamella/lamellalaw06.StripeWhole", spec := "stripeWhole", apart := false }
def StripeWholeSaid : Prop := stripeWholeRow.holds Try.pinned (OpenSpec.ofChange stripeWholeSpec)

/-- ITS FALSE NEIGHBOUR: 'it returns false'. Refute it at one input. -/
def stripeWholeWrong : ChangeSpec := { name := "stripeWhole", fn := fun _ => fun
  | [d1, d2, d3] => { results := [.lit (.bool false)], args := [d1, d2, d3] }
  | _ => none }
def StripeWholeWrongFalsely : Prop := stripeWholeRow.holds Try.pinned (OpenSpec.ofChange stripeWholeWrong)

/-- 'lamellalaw06.StripeRoom': WHATEVER THE INPUT: true; the input reads as it did. -/
def stripeRoomSpec : ChangeSpec := { name := "stripeRoom", fn := fun _ => fun
  | [d1, d2, d3] => { results := [.lit (.bool true)], args := [d1, d2, d3] }
  | _ => none }
def stripeRoomRow : OpenClaim := { program := "ytaipmnelcpilaaa", sum := "5a94e4f296f5605d0e5ccf3db7e93fe660d8a3fa94688bdce245bf410695ceaa", func := "lamella/lamellalaw06.StripeRoom", spec := "stripeRoom", apart := false }
def StripeRoomSaid : Prop := stripeRoomRow.holds Try.pinned (OpenSpec.ofChange stripeRoomSpec)

/-- ITS FALSE NEIGHBOUR: 'it returns false'. Refute it at one input. -/
def stripeRoomWrong : ChangeSpec := { name := "stripeRoom", fn := fun _ => fun
  | [d1, d2, d3] => { results := [.lit (.bool false)], args := [d1, d2, d3] }
  | _ => none }
def StripeRoomWrongFalsely : Prop := stripeRoomRow.holds Try.pinned (OpenSpec.ofChange stripeRoomWrong)

/-- 'lamellalaw06.StripeTurns': WHATEVER THE INPUT: true; the input reads as it did. -/
def stripeTurnsSpec : ChangeSpec := { name := "stripeTurns", fn := fun _ => fun
  | [d1, d2, d3] => { results := [.lit (.bool true)], args := [d1, d2, d3] }
  | _ => none }
def stripeTurnsRow : OpenClaim := { program := "ytaipmnelcpilaaa", sum := "5a94e4f296f5605d0e5ccf3db7e93fe660d8a3fa94688bdce245bf410695ceaa", func := "lamella/lamellalaw06.StripeTurns", spec := "stripeTurns", apart := false }
def StripeTurnsSaid : Prop := stripeTurnsRow.holds Try.pinned (OpenSpec.ofChange stripeTurnsSpec)

/-- ITS FALSE NEIGHBOUR: 'it returns false'. Refute it at one input. -/
def stripeTurnsWrong : ChangeSpec := { name := "stripeTurns", fn := fun _ => fun
  | [d1, d2, d3] => { results := [.lit (.bool false)], args := [d1, d2, d3] }
  | _ => none }
def StripeTurnsWrongFalsely : Prop := stripeTurnsRow.holds Try.pinned (OpenSpec.ofChange stripeTurnsWrong)

/-- 'lamellalaw06.StripeJoins': WHATEVER THE INPUT: true; the input reads as it did. -/
def stripeJoinsSpec : ChangeSpec := { name := "stripeJoins", fn := fun _ => fun
  | [d1, d2, d3, d4] => { results := [.lit (.bool true)], args := [d1, d2, d3, d4] }
  | _ => none }
def stripeJoinsRow : OpenClaim := { program := "ytaipmnelcpilaaa", sum := "5a94e4f296f5605d0e5ccf3db7e93fe660d8a3fa94688bdce245bf410695ceaa", func := "lamella/lamellalaw06.StripeJoins", spec := "stripeJoins", apart := false }
def StripeJoinsSaid : Prop := stripeJoinsRow.holds Try.pinned (OpenSpec.ofChange stripeJoinsSpec)

/-- ITS FALSE NEIGHBOUR: 'it returns false'. Refute it at one input. -/
def stripeJoinsWrong : ChangeSpec := { name := "stripeJoins", fn := fun _ => fun
  | [d1, d2, d3, d4] => { results := [.lit (.bool false)], args := [d1, d2, d3, d4] }
  | _ => none }
def StripeJoinsWrongFalsely : Prop := stripeJoinsRow.holds Try.pinned (OpenSpec.ofChange stripeJoinsWrong)

/-- 'lamellalaw06.StripeWhere': WHATEVER THE INPUT: true; the input reads as it did. -/
def stripeWhereSpec : ChangeSpec := { name := "stripeWhere", fn := fun _ => fun
  | [d1, d2, d3, d4] => { results := [.lit (.bool true)], args := [d1, d2, d3, d4] }
  | _ => none }
def stripeWhereRow : OpenClaim := { program := "ytaipmnelcpilaaa", sum := "5a94e4f296f5605d0e5ccf3db7e93fe660d8a3fa94688bdce245bf410695ceaa", func := "lamella/lamellalaw06.StripeWhere", spec := "stripeWhere", apart := false }
def StripeWhereSaid : Prop := stripeWhereRow.holds Try.pinned (OpenSpec.ofChange stripeWhereSpec)

/-- ITS FALSE NEIGHBOUR: 'it returns false'. Refute it at one input. -/
def stripeWhereWrong : ChangeSpec := { name := "stripeWhere", fn := fun _ => fun
  | [d1, d2, d3, d4] => { results := [.lit (.bool false)], args := [d1, d2, d3, d4] }
  | _ => none }
def StripeWhereWrongFalsely : Prop := stripeWhereRow.holds Try.pinned (OpenSpec.ofChange stripeWhereWrong)

/-- 'lamellalaw06.StripeApart': WHATEVER THE INPUT: true; the input reads as it did. -/
def stripeApartSpec : ChangeSpec := { name := "stripeApart", fn := fun _ => fun
  | [d1, d2, d3] => { results := [.lit (.bool true)], args := [d1, d2, d3] }
  | _ => none }
def stripeApartRow : OpenClaim := { program := "ytaipmnelcpilaaa", sum := "5a94e4f296f5605d0e5ccf3db7e93fe660d8a3fa94688bdce245bf410695ceaa", func := "lamella/lamellalaw06.StripeApart", spec := "stripeApart", apart := false }
def StripeApartSaid : Prop := stripeApartRow.holds Try.pinned (OpenSpec.ofChange stripeApartSpec)

/-- ITS FALSE NEIGHBOUR: 'it returns false'. Refute it at one input. -/
def stripeApartWrong : ChangeSpec := { name := "stripeApart", fn := fun _ => fun
  | [d1, d2, d3] => { results := [.lit (.bool false)], args := [d1, d2, d3] }
  | _ => none }
def StripeApartWrongFalsely : Prop := stripeApartRow.holds Try.pinned (OpenSpec.ofChange stripeApartWrong)

/- THE SECOND FORM. 'bulk': how many values and letters a reading holds, each counted each time it is reached (what is shared counts as often as it is met; a slice's spare places count too). A statement '..UptoSaid' is the law's where the arguments, and the package variables that the reading takes, are together of bulk at most 1048576: NARROWER than '..Said'. Prove '..Said' where nothing that the law and all that it calls make is longer than what came in: it says more and counts as full. Else prove '..UptoSaid'. A law counts once. -/
mutual
def uptoBulk {H : Type} : DataW H → Nat
  | .lit (.string bytes) => bytes.length + 1
  | .lit _ => 1
  | .nil => 1
  | .ptr d => uptoBulk d + 1
  | .slice elems spare => uptoBulkAll elems + uptoBulkAll spare + 1
  | .agg parts => uptoBulkAll parts + 1
  | .iface _ d => uptoBulk d + 1
  | .map entries => uptoBulkEntries entries + 1
  | .held _ => 1
def uptoBulkAll {H : Type} : List (DataW H) → Nat
  | [] => 0
  | d :: r => uptoBulk d + uptoBulkAll r
def uptoBulkEntries {H : Type} : List (Lit × DataW H) → Nat
  | [] => 0
  | x :: r => uptoBulkEntry x + uptoBulkEntries r
def uptoBulkEntry {H : Type} : Lit × DataW H → Nat
  | (.string bytes, d) => bytes.length + uptoBulk d + 1
  | (_, d) => uptoBulk d + 1
 end
def uptoSmall : (H : Type) → List (DataW H) → Bool := fun _ ds => decide (uptoBulkAll ds ≤ 1048576)
def OpenSpec.upto (s : _root_.Go.ChangeSpec) : _root_.Go.OpenSpec := { _root_.Go.OpenSpec.ofChange s with cond := some uptoSmall }

/-- 'lamellalaw06.StripeFrags', WHERE WHAT IT READS IS OF BULK AT MOST 1048576: true; the input reads as it did. -/
def stripeFragsUptoRow : OpenClaim := { program := "ytaipmnelcpilaaa", sum := "5a94e4f296f5605d0e5ccf3db7e93fe660d8a3fa94688bdce245bf410695ceaa", func := "lamella/lamellalaw06.StripeFrags", spec := "stripeFrags", apart := false, narrowed := true }
def StripeFragsUptoSaid : Prop := stripeFragsUptoRow.holds Try.pinned (OpenSpec.upto stripeFragsSpec)

/-- 'lamellalaw06.StripeLengths', WHERE WHAT IT READS IS OF BULK AT MOST 1048576: true; the input reads as it did. -/
def stripeLengthsUptoRow : OpenClaim := { program := "ytaipmnelcpilaaa", sum := "5a94e4f296f5605d0e5ccf3db7e93fe660d8a3fa94688bdce245bf410695ceaa", func := "lamella/lamellalaw06.StripeLengths", spec := "stripeLengths", apart := false, narrowed := true }
def StripeLengthsUptoSaid : Prop := stripeLengthsUptoRow.holds Try.pinned (OpenSpec.upto stripeLengthsSpec)

/-- 'lamellalaw06.StripeWhole', WHERE WHAT IT READS IS OF BULK AT MOST 1048576: true; the input reads as it did. -/
def stripeWholeUptoRow : OpenClaim := { program := "ytaipmnelcpilaaa", sum := "5a94e4f296f5605d0e5ccf3db7e93fe660d8a3fa94688bdce245bf410695ceaa", func := "lamella/lamellalaw06.StripeWhole", spec := "stripeWhole", apart := false, narrowed := true }
def StripeWholeUptoSaid : Prop := stripeWholeUptoRow.holds Try.pinned (OpenSpec.upto stripeWholeSpec)

/-- 'lamellalaw06.StripeRoom', WHERE WHAT IT READS IS OF BULK AT MOST 1048576: true; the input reads as it did. -/
def stripeRoomUptoRow : OpenClaim := { program := "ytaipmnelcpilaaa", sum := "5a94e4f296f5605d0e5ccf3db7e93fe660d8a3fa94688bdce245bf410695ceaa", func := "lamella/lamellalaw06.StripeRoom", spec := "stripeRoom", apart := false, narrowed := true }
def StripeRoomUptoSaid : Prop := stripeRoomUptoRow.holds Try.pinned (OpenSpec.upto stripeRoomSpec)

/-- 'lamellalaw06.StripeTurns', WHERE WHAT IT READS IS OF BULK AT MOST 1048576: true; the input reads as it did. -/
def stripeTurnsUptoRow : OpenClaim := { program := "ytaipmnelcpilaaa", sum := "5a94e4f296f5605d0e5ccf3db7e93fe660d8a3fa94688bdce245bf410695ceaa", func := "lamella/lamellalaw06.StripeTurns", spec := "stripeTurns", apart := false, narrowed := true }
def StripeTurnsUptoSaid : Prop := stripeTurnsUptoRow.holds Try.pinned (OpenSpec.upto stripeTurnsSpec)

/-- 'lamellalaw06.StripeJoins', WHERE WHAT IT READS IS OF BULK AT MOST 1048576: true; the input reads as it did. -/
def stripeJoinsUptoRow : OpenClaim := { program := "ytaipmnelcpilaaa", sum := "5a94e4f296f5605d0e5ccf3db7e93fe660d8a3fa94688bdce245bf410695ceaa", func := "lamella/lamellalaw06.StripeJoins", spec := "stripeJoins", apart := false, narrowed := true }
def StripeJoinsUptoSaid : Prop := stripeJoinsUptoRow.holds Try.pinned (OpenSpec.upto stripeJoinsSpec)

/-- 'lamellalaw06.StripeWhere', WHERE WHAT IT READS IS OF BULK AT MOST 1048576: true; the input reads as it did. -/
def stripeWhereUptoRow : OpenClaim := { program := "ytaipmnelcpilaaa", sum := "5a94e4f296f5605d0e5ccf3db7e93fe660d8a3fa94688bdce245bf410695ceaa", func := "lamella/lamellalaw06.StripeWhere", spec := "stripeWhere", apart := false, narrowed := true }
def StripeWhereUptoSaid : Prop := stripeWhereUptoRow.holds Try.pinned (OpenSpec.upto stripeWhereSpec)

/-- 'lamellalaw06.StripeApart', WHERE WHAT IT READS IS OF BULK AT MOST 1048576: true; the input reads as it did. -/
def stripeApartUptoRow : OpenClaim := { program := "ytaipmnelcpilaaa", sum := "5a94e4f296f5605d0e5ccf3db7e93fe660d8a3fa94688bdce245bf410695ceaa", func := "lamella/lamellalaw06.StripeApart", spec := "stripeApart", apart := false, narrowed := true }
def StripeApartUptoSaid : Prop := stripeApartUptoRow.holds Try.pinned (OpenSpec.upto stripeApartSpec)

end Rows
end Go.Proofs.Ytaipmnelcpilaaa
