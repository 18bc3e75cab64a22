/-
  NARROWER THAN 'FOR EVERY INPUT', by the rows' own cells (each row's printed sentence says how): XdrOrder: laid · XdrWrites: laid · XdrReads: laid · XdrOne: laid · XdrCut: laid · XdrBack: laid · XdrNil: laid.
  DERIVED. THE GIVEN ROWS OF THIS SEAT. 7 by the template 'for every input the law returns true; each argument reads behind the call as it read before'; 0 by the template 'total and deterministic' (their statements: YtjmdjikjelhbmaaDoorTotals.lean).
  GIVEN WITH THE SEED: the statements are not yours to turn. If you find one false, say at which input.
  Laid BY PROGRAM, IN A SANDBOX (cutbox-rows.mjs): the forced cells as the released guide's own fill.sh prints them over the translation a1babd393b1764ae… (all of the seat's roots in one cut). By AI agents, Wed Nov 11 2026. No macro, syntax, notation, axiom, sorry.
-/
import Derived.Test.YtjmdjikjelhbmaaDoorChecked
import GoSem.PinnedTables
import GoSem.Claim
import GoSem.ClaimJoined
import GoSem.ClaimMapViews
import Derived.JoinedTies
import Derived.KernelRfl
namespace Go.Proofs.YtjmdjikjelhbmaaDoor
/- THE CELL 'sum', in the pinned program and in every row, IS THE sha256 OF THE DUMP (.gsa) THAT YtjmdjikjelhbmaaDoorProg.lean LOADS. Nothing in Lean hashes anything: it is a label: what it is worth is what the hold of that sum in a sandbox is worth. -/
noncomputable def Tryd.pinned : Pinned := { name := "ytjmdjikjelhbmaadoor", sum := "a1babd393b1764ae629d17effc89654f773a6699305bb70e6640928cbccd84e0", checked := Tryd.checked }
namespace Rows
def none {H : Type} : Left H := { results := [], args := [] }

/- WHAT THE LISTED PACKAGE-LEVEL VARIABLES READ AS WHEN THE CALL BEGINS. Each datum BY PROGRAM (the guide's laid-datum.mjs) off the statement by which the dump's own 'gosem.cut.vars' lays the variable. In a bare row this is a premise. The card (YtjmdjikjelhbmaaDoorCards.lean) ties it to the program's text. -/
def laid_unicode_utf8_acceptRanges {H : Type} : DataW H := .agg [.agg [.lit (.int .u8 128), .lit (.int .u8 191)], .agg [.lit (.int .u8 160), .lit (.int .u8 191)], .agg [.lit (.int .u8 128), .lit (.int .u8 159)], .agg [.lit (.int .u8 144), .lit (.int .u8 191)], .agg [.lit (.int .u8 128), .lit (.int .u8 143)], .agg [.lit (.int .u8 0), .lit (.int .u8 0)], .agg [.lit (.int .u8 0), .lit (.int .u8 0)], .agg [.lit (.int .u8 0), .lit (.int .u8 0)], .agg [.lit (.int .u8 0), .lit (.int .u8 0)], .agg [.lit (.int .u8 0), .lit (.int .u8 0)], .agg [.lit (.int .u8 0), .lit (.int .u8 0)], .agg [.lit (.int .u8 0), .lit (.int .u8 0)], .agg [.lit (.int .u8 0), .lit (.int .u8 0)], .agg [.lit (.int .u8 0), .lit (.int .u8 0)], .agg [.lit (.int .u8 0), .lit (.int .u8 0)], .agg [.lit (.int .u8 0), .lit (.int .u8 0)]]
/-- One of Go's own tables, pinned by name: the form's constant. -/
def laid_unicode_utf8_first : DataW Unit := Go.Pinned.utf8First

/-- 'lamellalaw02.XdrOrder': WHATEVER THE INPUT: true; the input reads as it did. -/
def xdrOrderSpec : ChangeSpec := { name := "xdrOrder", fn := fun _ => fun
  | [d1, d2] => { results := [.lit (.bool true)], args := [d1, d2] }
  | _ => none }
def xdrOrderRow : OpenClaim := { program := "ytjmdjikjelhbmaadoor", sum := "a1babd393b1764ae629d17effc89654f773a6699305bb70e6640928cbccd84e0", func := "lamella/lamellalaw02.XdrOrder", spec := "xdrOrder", inPlace := ["internal/bytealg.IndexByteString", "internal/bytealg.IndexString"], named := ["unicode/utf8.first", "unicode/utf8.acceptRanges", "internal/bytealg.MaxLen"], apart := false, laid := [("unicode/utf8.acceptRanges", laid_unicode_utf8_acceptRanges), ("unicode/utf8.first", laid_unicode_utf8_first)] }
def XdrOrderSaid : Prop := xdrOrderRow.holds Tryd.pinned (OpenSpec.ofChange xdrOrderSpec)

/-- ITS FALSE NEIGHBOUR: 'it returns false'. Refute it at one input. -/
def xdrOrderWrong : ChangeSpec := { name := "xdrOrder", fn := fun _ => fun
  | [d1, d2] => { results := [.lit (.bool false)], args := [d1, d2] }
  | _ => none }
def XdrOrderWrongFalsely : Prop := xdrOrderRow.holds Tryd.pinned (OpenSpec.ofChange xdrOrderWrong)

/-- 'lamellalaw02.XdrWrites': WHATEVER THE INPUT: true; the input reads as it did. -/
def xdrWritesSpec : ChangeSpec := { name := "xdrWrites", fn := fun _ => fun
  | [d] => { results := [.lit (.bool true)], args := [d] }
  | _ => none }
def xdrWritesRow : OpenClaim := { program := "ytjmdjikjelhbmaadoor", sum := "a1babd393b1764ae629d17effc89654f773a6699305bb70e6640928cbccd84e0", func := "lamella/lamellalaw02.XdrWrites", spec := "xdrWrites", inPlace := ["internal/bytealg.IndexByteString", "internal/bytealg.IndexString"], named := ["unicode/utf8.first", "unicode/utf8.acceptRanges", "internal/bytealg.MaxLen"], apart := false, laid := [("unicode/utf8.acceptRanges", laid_unicode_utf8_acceptRanges), ("unicode/utf8.first", laid_unicode_utf8_first)] }
def XdrWritesSaid : Prop := xdrWritesRow.holds Tryd.pinned (OpenSpec.ofChange xdrWritesSpec)

/-- ITS FALSE NEIGHBOUR: 'it returns false'. Refute it at one input. -/
def xdrWritesWrong : ChangeSpec := { name := "xdrWrites", fn := fun _ => fun
  | [d] => { results := [.lit (.bool false)], args := [d] }
  | _ => none }
def XdrWritesWrongFalsely : Prop := xdrWritesRow.holds Tryd.pinned (OpenSpec.ofChange xdrWritesWrong)

/-- 'lamellalaw02.XdrReads': WHATEVER THE INPUT: true; the input reads as it did. -/
def xdrReadsSpec : ChangeSpec := { name := "xdrReads", fn := fun _ => fun
  | [d1, d2] => { results := [.lit (.bool true)], args := [d1, d2] }
  | _ => none }
def xdrReadsRow : OpenClaim := { program := "ytjmdjikjelhbmaadoor", sum := "a1babd393b1764ae629d17effc89654f773a6699305bb70e6640928cbccd84e0", func := "lamella/lamellalaw02.XdrReads", spec := "xdrReads", inPlace := ["internal/bytealg.IndexByteString", "internal/bytealg.IndexString"], named := ["unicode/utf8.first", "unicode/utf8.acceptRanges", "internal/bytealg.MaxLen"], apart := false, laid := [("unicode/utf8.acceptRanges", laid_unicode_utf8_acceptRanges), ("unicode/utf8.first", laid_unicode_utf8_first)] }
def XdrReadsSaid : Prop := xdrReadsRow.holds Tryd.pinned (OpenSpec.ofChange xdrReadsSpec)

/-- ITS FALSE NEIGHBOUR: 'it returns false'. Refute it at one input. -/
def xdrReadsWrong : ChangeSpec := { name := "xdrReads", fn := fun _ => fun
  | [d1, d2] => { results := [.lit (.bool false)], args := [d1, d2] }
  | _ => none }
def XdrReadsWrongFalsely : Prop := xdrReadsRow.holds Tryd.pinned (OpenSpec.ofChange xdrReadsWrong)

/-- 'lamellalaw02.XdrOne': WHATEVER THE INPUT: true; the input reads as it did. -/
def xdrOneSpec : ChangeSpec := { name := "xdrOne", fn := fun _ => fun
  | [d1, d2] => { results := [.lit (.bool true)], args := [d1, d2] }
  | _ => none }
def xdrOneRow : OpenClaim := { program := "ytjmdjikjelhbmaadoor", sum := "a1babd393b1764ae629d17effc89654f773a6699305bb70e6640928cbccd84e0", func := "lamella/lamellalaw02.XdrOne", spec := "xdrOne", inPlace := ["internal/bytealg.IndexByteString", "internal/bytealg.IndexString"], named := ["unicode/utf8.first", "unicode/utf8.acceptRanges", "internal/bytealg.MaxLen"], apart := false, laid := [("unicode/utf8.acceptRanges", laid_unicode_utf8_acceptRanges), ("unicode/utf8.first", laid_unicode_utf8_first)] }
def XdrOneSaid : Prop := xdrOneRow.holds Tryd.pinned (OpenSpec.ofChange xdrOneSpec)

/-- ITS FALSE NEIGHBOUR: 'it returns false'. Refute it at one input. -/
def xdrOneWrong : ChangeSpec := { name := "xdrOne", fn := fun _ => fun
  | [d1, d2] => { results := [.lit (.bool false)], args := [d1, d2] }
  | _ => none }
def XdrOneWrongFalsely : Prop := xdrOneRow.holds Tryd.pinned (OpenSpec.ofChange xdrOneWrong)

/-- 'lamellalaw02.XdrCut': WHATEVER THE INPUT: true; the input reads as it did. -/
def xdrCutSpec : ChangeSpec := { name := "xdrCut", fn := fun _ => fun
  | [d1, d2] => { results := [.lit (.bool true)], args := [d1, d2] }
  | _ => none }
def xdrCutRow : OpenClaim := { program := "ytjmdjikjelhbmaadoor", sum := "a1babd393b1764ae629d17effc89654f773a6699305bb70e6640928cbccd84e0", func := "lamella/lamellalaw02.XdrCut", spec := "xdrCut", inPlace := ["internal/bytealg.IndexByteString", "internal/bytealg.IndexString"], named := ["unicode/utf8.first", "unicode/utf8.acceptRanges", "internal/bytealg.MaxLen"], apart := false, laid := [("unicode/utf8.acceptRanges", laid_unicode_utf8_acceptRanges), ("unicode/utf8.first", laid_unicode_utf8_first)] }
def XdrCutSaid : Prop := xdrCutRow.holds Tryd.pinned (OpenSpec.ofChange xdrCutSpec)

/-- ITS FALSE NEIGHBOUR: 'it returns false'. Refute it at one input. -/
def xdrCutWrong : ChangeSpec := { name := "xdrCut", fn := fun _ => fun
  | [d1, d2] => { results := [.lit (.bool false)], args := [d1, d2] }
  | _ => none }
def XdrCutWrongFalsely : Prop := xdrCutRow.holds Tryd.pinned (OpenSpec.ofChange xdrCutWrong)

/-- 'lamellalaw02.XdrBack': WHATEVER THE INPUT: true; the input reads as it did. -/
def xdrBackSpec : ChangeSpec := { name := "xdrBack", fn := fun _ => fun
  | [d1, d2] => { results := [.lit (.bool true)], args := [d1, d2] }
  | _ => none }
def xdrBackRow : OpenClaim := { program := "ytjmdjikjelhbmaadoor", sum := "a1babd393b1764ae629d17effc89654f773a6699305bb70e6640928cbccd84e0", func := "lamella/lamellalaw02.XdrBack", spec := "xdrBack", inPlace := ["internal/bytealg.IndexByteString", "internal/bytealg.IndexString"], named := ["unicode/utf8.first", "unicode/utf8.acceptRanges", "internal/bytealg.MaxLen"], apart := false, laid := [("unicode/utf8.acceptRanges", laid_unicode_utf8_acceptRanges), ("unicode/utf8.first", laid_unicode_utf8_first)] }
def XdrBackSaid : Prop := xdrBackRow.holds Tryd.pinned (OpenSpec.ofChange xdrBackSpec)

/-- ITS FALSE NEIGHBOUR: 'it returns false'. Refute it at one input. -/
def xdrBackWrong : ChangeSpec := { name := "xdrBack", fn := fun _ => fun
  | [d1, d2] => { results := [.lit (.bool false)], args := [d1, d2] }
  | _ => none }
def XdrBackWrongFalsely : Prop := xdrBackRow.holds Tryd.pinned (OpenSpec.ofChange xdrBackWrong)

/-- 'lamellalaw02.XdrNil': WHATEVER THE INPUT: true; the input reads as it did. -/
def xdrNilSpec : ChangeSpec := { name := "xdrNil", fn := fun _ => fun
  | [d1, d2, d3] => { results := [.lit (.bool true)], args := [d1, d2, d3] }
  | _ => none }
def xdrNilRow : OpenClaim := { program := "ytjmdjikjelhbmaadoor", sum := "a1babd393b1764ae629d17effc89654f773a6699305bb70e6640928cbccd84e0", func := "lamella/lamellalaw02.XdrNil", spec := "xdrNil", inPlace := ["internal/bytealg.IndexByteString", "internal/bytealg.IndexString"], named := ["unicode/utf8.first", "unicode/utf8.acceptRanges", "internal/bytealg.MaxLen"], apart := false, laid := [("unicode/utf8.acceptRanges", laid_unicode_utf8_acceptRanges), ("unicode/utf8.first", laid_unicode_utf8_first)] }
def XdrNilSaid : Prop := xdrNilRow.holds Tryd.pinned (OpenSpec.ofChange xdrNilSpec)

/-- ITS FALSE NEIGHBOUR: 'it returns false'. Refute it at one input. -/
def xdrNilWrong : ChangeSpec := { name := "xdrNil", fn := fun _ => fun
  | [d1, d2, d3] => { results := [.lit (.bool false)], args := [d1, d2, d3] }
  | _ => none }
def XdrNilWrongFalsely : Prop := xdrNilRow.holds Tryd.pinned (OpenSpec.ofChange xdrNilWrong)

/- THE SECOND FORM. 'bulk': how many values and letters a reading holds, each counted each time it is reached (what is shared counts as often as it is met; a slice's spare places count too). A statement '..UptoSaid' is the law's where the arguments, and the package variables that the reading takes, are together of bulk at most 1048576: NARROWER than '..Said'. Prove '..Said' where nothing that the law and all that it calls make is longer than what came in: it says more and counts as full. Else prove '..UptoSaid'. A law counts once. -/
mutual
def uptoBulk {H : Type} : DataW H → Nat
  | .lit (.string bytes) => bytes.length + 1
  | .lit _ => 1
  | .nil => 1
  | .ptr d => uptoBulk d + 1
  | .slice elems spare => uptoBulkAll elems + uptoBulkAll spare + 1
  | .agg parts => uptoBulkAll parts + 1
  | .iface _ d => uptoBulk d + 1
  | .map entries => uptoBulkEntries entries + 1
  | .held _ => 1
def uptoBulkAll {H : Type} : List (DataW H) → Nat
  | [] => 0
  | d :: r => uptoBulk d + uptoBulkAll r
def uptoBulkEntries {H : Type} : List (Lit × DataW H) → Nat
  | [] => 0
  | x :: r => uptoBulkEntry x + uptoBulkEntries r
def uptoBulkEntry {H : Type} : Lit × DataW H → Nat
  | (.string bytes, d) => bytes.length + uptoBulk d + 1
  | (_, d) => uptoBulk d + 1
 end
def uptoSmall : (H : Type) → List (DataW H) → Bool := fun _ ds => decide (uptoBulkAll ds ≤ 1048576)
def OpenSpec.upto (s : _root_.Go.ChangeSpec) : _root_.Go.OpenSpec := { _root_.Go.OpenSpec.ofChange s with cond := some uptoSmall }

/-- 'lamellalaw02.XdrOrder', WHERE WHAT IT READS IS OF BULK AT MOST 1048576: true; the input reads as it did. -/
def xdrOrderUptoRow : OpenClaim := { program := "ytjmdjikjelhbmaadoor", sum := "a1babd393b1764ae629d17effc89654f773a6699305bb70e6640928cbccd84e0", func := "lamella/lamellalaw02.XdrOrder", spec := "xdrOrder", inPlace := ["internal/bytealg.IndexByteString", "internal/bytealg.IndexString"], named := ["unicode/utf8.first", "unicode/utf8.acceptRanges", "internal/bytealg.MaxLen"], apart := false, laid := [("unicode/utf8.acceptRanges", laid_unicode_utf8_acceptRanges), ("unicode/utf8.first", laid_unicode_utf8_first)], narrowed := true }
def XdrOrderUptoSaid : Prop := xdrOrderUptoRow.holds Tryd.pinned (OpenSpec.upto xdrOrderSpec)

/-- 'lamellalaw02.XdrWrites', WHERE WHAT IT READS IS OF BULK AT MOST 1048576: true; the input reads as it did. -/
def xdrWritesUptoRow : OpenClaim := { program := "ytjmdjikjelhbmaadoor", sum := "a1babd393b1764ae629d17effc89654f773a6699305bb70e6640928cbccd84e0", func := "lamella/lamellalaw02.XdrWrites", spec := "xdrWrites", inPlace := ["internal/bytealg.IndexByteString", "internal/bytealg.IndexString"], named := ["unicode/utf8.first", "unicode/utf8.acceptRanges", "internal/bytealg.MaxLen"], apart := false, laid := [("unicode/utf8.acceptRanges", laid_unicode_utf8_acceptRanges), ("unicode/utf8.first", laid_unicode_utf8_first)], narrowed := true }
def XdrWritesUptoSaid : Prop := xdrWritesUptoRow.holds Tryd.pinned (OpenSpec.upto xdrWritesSpec)

/-- 'lamellalaw02.XdrReads', WHERE WHAT IT READS IS OF BULK AT MOST 1048576: true; the input reads as it did. -/
def xdrReadsUptoRow : OpenClaim := { program := "ytjmdjikjelhbmaadoor", sum := "a1babd393b1764ae629d17effc89654f773a6699305bb70e6640928cbccd84e0", func := "lamella/lamellalaw02.XdrReads", spec := "xdrReads", inPlace := ["internal/bytealg.IndexByteString", "internal/bytealg.IndexString"], named := ["unicode/utf8.first", "unicode/utf8.acceptRanges", "internal/bytealg.MaxLen"], apart := false, laid := [("unicode/utf8.acceptRanges", laid_unicode_utf8_acceptRanges), ("unicode/utf8.first", laid_unicode_utf8_first)], narrowed := true }
def XdrReadsUptoSaid : Prop := xdrReadsUptoRow.holds Tryd.pinned (OpenSpec.upto xdrReadsSpec)

/-- 'lamellalaw02.XdrOne', WHERE WHAT IT READS IS OF BULK AT MOST 1048576: true; the input reads as it did. -/
def xdrOneUptoRow : OpenClaim := { program := "ytjmdjikjelhbmaadoor", sum := "a1babd393b1764ae629d17effc89654f773a6699305bb70e6640928cbccd84e0", func := "lamella/lamellalaw02.XdrOne", spec := "xdrOne", inPlace := ["internal/bytealg.IndexByteString", "internal/bytealg.IndexString"], named := ["unicode/utf8.first", "unicode/utf8.acceptRanges", "internal/bytealg.MaxLen"], apart := false, laid := [("unicode/utf8.acceptRanges", laid_unicode_utf8_acceptRanges), ("unicode/utf8.first", laid_unicode_utf8_first)], narrowed := true }
def XdrOneUptoSaid : Prop := xdrOneUptoRow.holds Tryd.pinned (OpenSpec.upto xdrOneSpec)

/-- 'lamellalaw02.XdrCut', WHERE WHAT IT READS IS OF BULK AT MOST 1048576: true; the input reads as it did. -/
def xdrCutUptoRow : OpenClaim := { program := "ytjmdjikjelhbmaadoor", sum := "a1babd393b1764ae629d17effc89654f773a6699305bb70e6640928cbccd84e0", func := "lamella/lamellalaw02.XdrCut", spec := "xdrCut", inPlace := ["internal/bytealg.IndexByteString", "internal/bytealg.IndexString"], named := ["unicode/utf8.first", "unicode/utf8.acceptRanges", "internal/bytealg.MaxLen"], apart := false, laid := [("unicode/utf8.acceptRanges", laid_unicode_utf8_acceptRanges), ("unicode/utf8.first", laid_unicode_utf8_first)], narrowed := true }
def XdrCutUptoSaid : Prop := xdrCutUptoRow.holds Tryd.pinned (OpenSpec.upto xdrCutSpec)

/-- 'lamellalaw02.XdrBack', WHERE WHAT IT READS IS OF BULK AT MOST 1048576: true; the input reads as it did. -/
def xdrBackUptoRow : OpenClaim := { program := "ytjmdjikjelhbmaadoor", sum := "a1babd393b1764ae629d17effc89654f773a6699305bb70e6640928cbccd84e0", func := "lamella/lamellalaw02.XdrBack", spec := "xdrBack", inPlace := ["internal/bytealg.IndexByteString", "internal/bytealg.IndexString"], named := ["unicode/utf8.first", "unicode/utf8.acceptRanges", "internal/bytealg.MaxLen"], apart := false, laid := [("unicode/utf8.acceptRanges", laid_unicode_utf8_acceptRanges), ("unicode/utf8.first", laid_unicode_utf8_first)], narrowed := true }
def XdrBackUptoSaid : Prop := xdrBackUptoRow.holds Tryd.pinned (OpenSpec.upto xdrBackSpec)

/-- 'lamellalaw02.XdrNil', WHERE WHAT IT READS IS OF BULK AT MOST 1048576: true; the input reads as it did. -/
def xdrNilUptoRow : OpenClaim := { program := "ytjmdjikjelhbmaadoor", sum := "a1babd393b1764ae629d17effc89654f773a6699305bb70e6640928cbccd84e0", func := "lamella/lamellalaw02.XdrNil", spec := "xdrNil", inPlace := ["internal/bytealg.IndexByteString", "internal/bytealg.IndexString"], named := ["unicode/utf8.first", "unicode/utf8.acceptRanges", "internal/bytealg.MaxLen"], apart := false, laid := [("unicode/utf8.acceptRanges", laid_unicode_utf8_acceptRanges), ("unicode/utf8.first", laid_unicode_utf8_first)], narrowed := true }
def XdrNilUptoSaid : Prop := xdrNilUptoRow.holds Tryd.pinned (OpenSpec.upto xdrNilSpec)

end Rows
end Go.Proofs.YtjmdjikjelhbmaaDoor
