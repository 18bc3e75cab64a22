/-
  DERIVED. GIVEN WITH THE SEED: THE CARDS: each row of YtiedmkgdhfkcoaaDoorRows.lean that lists a variable, with what it lists TIED to the program's text (the seventh form; the later family's looks); each row that meets fmt, with fmt's text TOLD by the authors' own Lean function (tested against real Go, not proved from fmt's source: count such statements apart). THE CARD IS WHAT COUNTS. Prove the row's statement (the work); the ties are given (YtiedmkgdhfkcoaaDoorTie.lean); close each card by the builder's one call (the guide's Derived/Test/ToyasCard.lean, 'card_holds'). Laid BY PROGRAM, IN A SANDBOX (cutbox-door.mjs). By AI agents, Wed Nov 11 2026. No macro, syntax, notation, axiom, sorry.
-/
import Derived.Test.YtiedmkgdhfkcoaaDoorRows
import GoSem.ClaimSeven
namespace Go.Proofs.YtiedmkgdhfkcoaaDoor
namespace Rows

/-- THE TIED CARD OF 'lamellalaw09.ProtoWrites'. -/
def protoWritesCard : Claim7 := { stood := { row := protoWritesRow, standIns := [], harness := (true, "39d49eef332b7ad09fa823244f064cf92ec053e2fe57084cc85d7bbdea415a93"), looks := false }, kinds := [], alts := [], laidByText := true, laidKinds := [.data, .pinned], laidTests := true, laidLooks := .later }
def ProtoWritesCardSaid : Prop := Claim7.holds Tryd.pinned (.plain (OpenSpec.ofChange protoWritesSpec)) protoWritesCard

/-- THE TIED CARD OF 'lamellalaw09.ProtoReads'. -/
def protoReadsCard : Claim7 := { stood := { row := protoReadsRow, standIns := [], harness := (true, "39d49eef332b7ad09fa823244f064cf92ec053e2fe57084cc85d7bbdea415a93"), looks := false }, kinds := [], alts := [], laidByText := true, laidKinds := [.data, .pinned], laidTests := true, laidLooks := .later }
def ProtoReadsCardSaid : Prop := Claim7.holds Tryd.pinned (.plain (OpenSpec.ofChange protoReadsSpec)) protoReadsCard

/-- THE TIED CARD OF 'lamellalaw09.ProtoBack'. -/
def protoBackCard : Claim7 := { stood := { row := protoBackRow, standIns := [], harness := (true, "39d49eef332b7ad09fa823244f064cf92ec053e2fe57084cc85d7bbdea415a93"), looks := false }, kinds := [], alts := [], laidByText := true, laidKinds := [.data, .pinned], laidTests := true, laidLooks := .later }
def ProtoBackCardSaid : Prop := Claim7.holds Tryd.pinned (.plain (OpenSpec.ofChange protoBackSpec)) protoBackCard

/-- THE TIED CARD OF 'lamellalaw09.ProtoApart'. -/
def protoApartCard : Claim7 := { stood := { row := protoApartRow, standIns := [], harness := (true, "39d49eef332b7ad09fa823244f064cf92ec053e2fe57084cc85d7bbdea415a93"), looks := false }, kinds := [], alts := [], laidByText := true, laidKinds := [.data, .pinned], laidTests := true, laidLooks := .later }
def ProtoApartCardSaid : Prop := Claim7.holds Tryd.pinned (.plain (OpenSpec.ofChange protoApartSpec)) protoApartCard

/-- THE TIED CARD OF 'lamellalaw17.NetPlays'. -/
def netPlaysCard : Claim7 := { stood := { row := netPlaysRow, standIns := [], harness := (true, "39d49eef332b7ad09fa823244f064cf92ec053e2fe57084cc85d7bbdea415a93"), looks := false }, kinds := [], alts := [], laidByText := true, laidKinds := [.data, .pinned], laidTests := true, laidLooks := .later }
def NetPlaysCardSaid : Prop := Claim7.holds Tryd.pinned (.plain (OpenSpec.ofChange netPlaysSpec)) netPlaysCard

/-- THE TIED CARD OF 'lamellalaw17.NetFull'. -/
def netFullCard : Claim7 := { stood := { row := netFullRow, standIns := [], harness := (true, "39d49eef332b7ad09fa823244f064cf92ec053e2fe57084cc85d7bbdea415a93"), looks := false }, kinds := [], alts := [], laidByText := true, laidKinds := [.data, .pinned], laidTests := true, laidLooks := .later }
def NetFullCardSaid : Prop := Claim7.holds Tryd.pinned (.plain (OpenSpec.ofChange netFullSpec)) netFullCard

/-- THE TIED CARD OF 'lamellalaw17.NetOnce'. -/
def netOnceCard : Claim7 := { stood := { row := netOnceRow, standIns := [], harness := (true, "39d49eef332b7ad09fa823244f064cf92ec053e2fe57084cc85d7bbdea415a93"), looks := false }, kinds := [], alts := [], laidByText := true, laidKinds := [.data, .pinned], laidTests := true, laidLooks := .later }
def NetOnceCardSaid : Prop := Claim7.holds Tryd.pinned (.plain (OpenSpec.ofChange netOnceSpec)) netOnceCard

/-- THE SECOND FORM's CARD OF 'lamellalaw09.ProtoWrites'. -/
def protoWritesUptoCard : Claim7 := { stood := { row := protoWritesUptoRow, standIns := [], harness := (true, "39d49eef332b7ad09fa823244f064cf92ec053e2fe57084cc85d7bbdea415a93"), looks := false }, kinds := [], alts := [], laidByText := true, laidKinds := [.data, .pinned], laidTests := true, laidLooks := .later }
def ProtoWritesUptoCardSaid : Prop := Claim7.holds Tryd.pinned (.plain (OpenSpec.upto protoWritesSpec)) protoWritesUptoCard

/-- THE SECOND FORM's CARD OF 'lamellalaw09.ProtoReads'. -/
def protoReadsUptoCard : Claim7 := { stood := { row := protoReadsUptoRow, standIns := [], harness := (true, "39d49eef332b7ad09fa823244f064cf92ec053e2fe57084cc85d7bbdea415a93"), looks := false }, kinds := [], alts := [], laidByText := true, laidKinds := [.data, .pinned], laidTests := true, laidLooks := .later }
def ProtoReadsUptoCardSaid : Prop := Claim7.holds Tryd.pinned (.plain (OpenSpec.upto protoReadsSpec)) protoReadsUptoCard

/-- THE SECOND FORM's CARD OF 'lamellalaw09.ProtoBack'. -/
def protoBackUptoCard : Claim7 := { stood := { row := protoBackUptoRow, standIns := [], harness := (true, "39d49eef332b7ad09fa823244f064cf92ec053e2fe57084cc85d7bbdea415a93"), looks := false }, kinds := [], alts := [], laidByText := true, laidKinds := [.data, .pinned], laidTests := true, laidLooks := .later }
def ProtoBackUptoCardSaid : Prop := Claim7.holds Tryd.pinned (.plain (OpenSpec.upto protoBackSpec)) protoBackUptoCard

/-- THE SECOND FORM's CARD OF 'lamellalaw09.ProtoApart'. -/
def protoApartUptoCard : Claim7 := { stood := { row := protoApartUptoRow, standIns := [], harness := (true, "39d49eef332b7ad09fa823244f064cf92ec053e2fe57084cc85d7bbdea415a93"), looks := false }, kinds := [], alts := [], laidByText := true, laidKinds := [.data, .pinned], laidTests := true, laidLooks := .later }
def ProtoApartUptoCardSaid : Prop := Claim7.holds Tryd.pinned (.plain (OpenSpec.upto protoApartSpec)) protoApartUptoCard

/-- THE SECOND FORM's CARD OF 'lamellalaw17.NetPlays'. -/
def netPlaysUptoCard : Claim7 := { stood := { row := netPlaysUptoRow, standIns := [], harness := (true, "39d49eef332b7ad09fa823244f064cf92ec053e2fe57084cc85d7bbdea415a93"), looks := false }, kinds := [], alts := [], laidByText := true, laidKinds := [.data, .pinned], laidTests := true, laidLooks := .later }
def NetPlaysUptoCardSaid : Prop := Claim7.holds Tryd.pinned (.plain (OpenSpec.upto netPlaysSpec)) netPlaysUptoCard

/-- THE SECOND FORM's CARD OF 'lamellalaw17.NetFull'. -/
def netFullUptoCard : Claim7 := { stood := { row := netFullUptoRow, standIns := [], harness := (true, "39d49eef332b7ad09fa823244f064cf92ec053e2fe57084cc85d7bbdea415a93"), looks := false }, kinds := [], alts := [], laidByText := true, laidKinds := [.data, .pinned], laidTests := true, laidLooks := .later }
def NetFullUptoCardSaid : Prop := Claim7.holds Tryd.pinned (.plain (OpenSpec.upto netFullSpec)) netFullUptoCard

/-- THE SECOND FORM's CARD OF 'lamellalaw17.NetOnce'. -/
def netOnceUptoCard : Claim7 := { stood := { row := netOnceUptoRow, standIns := [], harness := (true, "39d49eef332b7ad09fa823244f064cf92ec053e2fe57084cc85d7bbdea415a93"), looks := false }, kinds := [], alts := [], laidByText := true, laidKinds := [.data, .pinned], laidTests := true, laidLooks := .later }
def NetOnceUptoCardSaid : Prop := Claim7.holds Tryd.pinned (.plain (OpenSpec.upto netOnceSpec)) netOnceUptoCard
end Rows
end Go.Proofs.YtiedmkgdhfkcoaaDoor
