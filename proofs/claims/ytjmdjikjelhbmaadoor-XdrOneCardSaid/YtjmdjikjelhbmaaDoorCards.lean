/-
  DERIVED. GIVEN WITH THE SEED: THE CARDS: each row of YtjmdjikjelhbmaaDoorRows.lean that lists a variable, with what it lists TIED to the program's text (the seventh form; the later family's looks); each row that meets fmt, with fmt's text TOLD by the authors' own Lean function (tested against real Go, not proved from fmt's source: count such statements apart). THE CARD IS WHAT COUNTS. Prove the row's statement (the work); the ties are given (YtjmdjikjelhbmaaDoorTie.lean); close each card by the builder's one call (the guide's Derived/Test/ToyasCard.lean, 'card_holds'). Laid BY PROGRAM, IN A SANDBOX (cutbox-door.mjs). By AI agents, Wed Nov 11 2026. No macro, syntax, notation, axiom, sorry.
-/
import Derived.Test.YtjmdjikjelhbmaaDoorRows
import GoSem.ClaimSeven
namespace Go.Proofs.YtjmdjikjelhbmaaDoor
namespace Rows

/-- THE TIED CARD OF 'lamellalaw02.XdrOrder'. -/
def xdrOrderCard : Claim7 := { stood := { row := xdrOrderRow, standIns := [], harness := (true, "3eae062256b8e8f415459f10ee99750f9baae6a9c4d64b5d44d29443622d25a0"), looks := false }, kinds := [], alts := [], laidByText := true, laidKinds := [.data, .pinned], laidTests := true, laidLooks := .later }
def XdrOrderCardSaid : Prop := Claim7.holds Tryd.pinned (.plain (OpenSpec.ofChange xdrOrderSpec)) xdrOrderCard

/-- THE TIED CARD OF 'lamellalaw02.XdrWrites'. -/
def xdrWritesCard : Claim7 := { stood := { row := xdrWritesRow, standIns := [], harness := (true, "3eae062256b8e8f415459f10ee99750f9baae6a9c4d64b5d44d29443622d25a0"), looks := false }, kinds := [], alts := [], laidByText := true, laidKinds := [.data, .pinned], laidTests := true, laidLooks := .later }
def XdrWritesCardSaid : Prop := Claim7.holds Tryd.pinned (.plain (OpenSpec.ofChange xdrWritesSpec)) xdrWritesCard

/-- THE TIED CARD OF 'lamellalaw02.XdrReads'. -/
def xdrReadsCard : Claim7 := { stood := { row := xdrReadsRow, standIns := [], harness := (true, "3eae062256b8e8f415459f10ee99750f9baae6a9c4d64b5d44d29443622d25a0"), looks := false }, kinds := [], alts := [], laidByText := true, laidKinds := [.data, .pinned], laidTests := true, laidLooks := .later }
def XdrReadsCardSaid : Prop := Claim7.holds Tryd.pinned (.plain (OpenSpec.ofChange xdrReadsSpec)) xdrReadsCard

/-- THE TIED CARD OF 'lamellalaw02.XdrOne'. -/
def xdrOneCard : Claim7 := { stood := { row := xdrOneRow, standIns := [], harness := (true, "3eae062256b8e8f415459f10ee99750f9baae6a9c4d64b5d44d29443622d25a0"), looks := false }, kinds := [], alts := [], laidByText := true, laidKinds := [.data, .pinned], laidTests := true, laidLooks := .later }
def XdrOneCardSaid : Prop := Claim7.holds Tryd.pinned (.plain (OpenSpec.ofChange xdrOneSpec)) xdrOneCard

/-- THE TIED CARD OF 'lamellalaw02.XdrCut'. -/
def xdrCutCard : Claim7 := { stood := { row := xdrCutRow, standIns := [], harness := (true, "3eae062256b8e8f415459f10ee99750f9baae6a9c4d64b5d44d29443622d25a0"), looks := false }, kinds := [], alts := [], laidByText := true, laidKinds := [.data, .pinned], laidTests := true, laidLooks := .later }
def XdrCutCardSaid : Prop := Claim7.holds Tryd.pinned (.plain (OpenSpec.ofChange xdrCutSpec)) xdrCutCard

/-- THE TIED CARD OF 'lamellalaw02.XdrBack'. -/
def xdrBackCard : Claim7 := { stood := { row := xdrBackRow, standIns := [], harness := (true, "3eae062256b8e8f415459f10ee99750f9baae6a9c4d64b5d44d29443622d25a0"), looks := false }, kinds := [], alts := [], laidByText := true, laidKinds := [.data, .pinned], laidTests := true, laidLooks := .later }
def XdrBackCardSaid : Prop := Claim7.holds Tryd.pinned (.plain (OpenSpec.ofChange xdrBackSpec)) xdrBackCard

/-- THE TIED CARD OF 'lamellalaw02.XdrNil'. -/
def xdrNilCard : Claim7 := { stood := { row := xdrNilRow, standIns := [], harness := (true, "3eae062256b8e8f415459f10ee99750f9baae6a9c4d64b5d44d29443622d25a0"), looks := false }, kinds := [], alts := [], laidByText := true, laidKinds := [.data, .pinned], laidTests := true, laidLooks := .later }
def XdrNilCardSaid : Prop := Claim7.holds Tryd.pinned (.plain (OpenSpec.ofChange xdrNilSpec)) xdrNilCard

/-- THE SECOND FORM's CARD OF 'lamellalaw02.XdrOrder'. -/
def xdrOrderUptoCard : Claim7 := { stood := { row := xdrOrderUptoRow, standIns := [], harness := (true, "3eae062256b8e8f415459f10ee99750f9baae6a9c4d64b5d44d29443622d25a0"), looks := false }, kinds := [], alts := [], laidByText := true, laidKinds := [.data, .pinned], laidTests := true, laidLooks := .later }
def XdrOrderUptoCardSaid : Prop := Claim7.holds Tryd.pinned (.plain (OpenSpec.upto xdrOrderSpec)) xdrOrderUptoCard

/-- THE SECOND FORM's CARD OF 'lamellalaw02.XdrWrites'. -/
def xdrWritesUptoCard : Claim7 := { stood := { row := xdrWritesUptoRow, standIns := [], harness := (true, "3eae062256b8e8f415459f10ee99750f9baae6a9c4d64b5d44d29443622d25a0"), looks := false }, kinds := [], alts := [], laidByText := true, laidKinds := [.data, .pinned], laidTests := true, laidLooks := .later }
def XdrWritesUptoCardSaid : Prop := Claim7.holds Tryd.pinned (.plain (OpenSpec.upto xdrWritesSpec)) xdrWritesUptoCard

/-- THE SECOND FORM's CARD OF 'lamellalaw02.XdrReads'. -/
def xdrReadsUptoCard : Claim7 := { stood := { row := xdrReadsUptoRow, standIns := [], harness := (true, "3eae062256b8e8f415459f10ee99750f9baae6a9c4d64b5d44d29443622d25a0"), looks := false }, kinds := [], alts := [], laidByText := true, laidKinds := [.data, .pinned], laidTests := true, laidLooks := .later }
def XdrReadsUptoCardSaid : Prop := Claim7.holds Tryd.pinned (.plain (OpenSpec.upto xdrReadsSpec)) xdrReadsUptoCard

/-- THE SECOND FORM's CARD OF 'lamellalaw02.XdrOne'. -/
def xdrOneUptoCard : Claim7 := { stood := { row := xdrOneUptoRow, standIns := [], harness := (true, "3eae062256b8e8f415459f10ee99750f9baae6a9c4d64b5d44d29443622d25a0"), looks := false }, kinds := [], alts := [], laidByText := true, laidKinds := [.data, .pinned], laidTests := true, laidLooks := .later }
def XdrOneUptoCardSaid : Prop := Claim7.holds Tryd.pinned (.plain (OpenSpec.upto xdrOneSpec)) xdrOneUptoCard

/-- THE SECOND FORM's CARD OF 'lamellalaw02.XdrCut'. -/
def xdrCutUptoCard : Claim7 := { stood := { row := xdrCutUptoRow, standIns := [], harness := (true, "3eae062256b8e8f415459f10ee99750f9baae6a9c4d64b5d44d29443622d25a0"), looks := false }, kinds := [], alts := [], laidByText := true, laidKinds := [.data, .pinned], laidTests := true, laidLooks := .later }
def XdrCutUptoCardSaid : Prop := Claim7.holds Tryd.pinned (.plain (OpenSpec.upto xdrCutSpec)) xdrCutUptoCard

/-- THE SECOND FORM's CARD OF 'lamellalaw02.XdrBack'. -/
def xdrBackUptoCard : Claim7 := { stood := { row := xdrBackUptoRow, standIns := [], harness := (true, "3eae062256b8e8f415459f10ee99750f9baae6a9c4d64b5d44d29443622d25a0"), looks := false }, kinds := [], alts := [], laidByText := true, laidKinds := [.data, .pinned], laidTests := true, laidLooks := .later }
def XdrBackUptoCardSaid : Prop := Claim7.holds Tryd.pinned (.plain (OpenSpec.upto xdrBackSpec)) xdrBackUptoCard

/-- THE SECOND FORM's CARD OF 'lamellalaw02.XdrNil'. -/
def xdrNilUptoCard : Claim7 := { stood := { row := xdrNilUptoRow, standIns := [], harness := (true, "3eae062256b8e8f415459f10ee99750f9baae6a9c4d64b5d44d29443622d25a0"), looks := false }, kinds := [], alts := [], laidByText := true, laidKinds := [.data, .pinned], laidTests := true, laidLooks := .later }
def XdrNilUptoCardSaid : Prop := Claim7.holds Tryd.pinned (.plain (OpenSpec.upto xdrNilSpec)) xdrNilUptoCard
end Rows
end Go.Proofs.YtjmdjikjelhbmaaDoor
