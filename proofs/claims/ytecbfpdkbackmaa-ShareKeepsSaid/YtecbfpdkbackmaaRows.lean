/-
  No cell of these rows narrows 'for every input' (looked for: loops, veiled, ifaces, maps, wideKeys, modest, calm, conditions, laid).
  DERIVED. THE GIVEN ROWS OF THIS SEAT. 7 by the template 'for every input the law returns true; each argument reads behind the call as it read before'; 0 by the template 'total and deterministic' (their statements: YtecbfpdkbackmaaTotals.lean).
  GIVEN WITH THE SEED: the statements are not yours to turn. If you find one false, say at which input.
  Laid BY PROGRAM, IN A SANDBOX (cutbox-rows.mjs): the forced cells as the released guide's own fill.sh prints them over the translation 97a937d56e370a20… (all of the seat's roots in one cut). By AI agents, Wed Nov 11 2026. No macro, syntax, notation, axiom, sorry.
-/
import Derived.Test.YtecbfpdkbackmaaChecked
import GoSem.Claim
import GoSem.ClaimJoined
import GoSem.ClaimMapViews
import Derived.JoinedTies
import Derived.KernelRfl
namespace Go.Proofs.Ytecbfpdkbackmaa
/- THE CELL 'sum', in the pinned program and in every row, IS THE sha256 OF THE DUMP (.gsa) THAT YtecbfpdkbackmaaProg.lean LOADS. Nothing in Lean hashes anything: it is a label: what it is worth is what the hold of that sum in a sandbox is worth. -/
noncomputable def Try.pinned : Pinned := { name := "ytecbfpdkbackmaa", sum := "97a937d56e370a20eac2a81b3a82483759737de6497756d19ee26a7bc4f0f2de", checked := Try.checked }
namespace Rows
def none {H : Type} : Left H := { results := [], args := [] }

/-- 'lamellalaw11.ShareRights': WHATEVER THE INPUT: true; the input reads as it did. -/
def shareRightsSpec : ChangeSpec := { name := "shareRights", fn := fun _ => fun
  | [d1, d2, d3, d4] => { results := [.lit (.bool true)], args := [d1, d2, d3, d4] }
  | _ => none }
def shareRightsRow : OpenClaim := { program := "ytecbfpdkbackmaa", sum := "97a937d56e370a20eac2a81b3a82483759737de6497756d19ee26a7bc4f0f2de", func := "lamella/lamellalaw11.ShareRights", spec := "shareRights", unfollowed := true, recurses := true, apart := false }
def ShareRightsSaid : Prop := shareRightsRow.holds Try.pinned (OpenSpec.ofChange shareRightsSpec)

/-- ITS FALSE NEIGHBOUR: 'it returns false'. Refute it at one input. -/
def shareRightsWrong : ChangeSpec := { name := "shareRights", fn := fun _ => fun
  | [d1, d2, d3, d4] => { results := [.lit (.bool false)], args := [d1, d2, d3, d4] }
  | _ => none }
def ShareRightsWrongFalsely : Prop := shareRightsRow.holds Try.pinned (OpenSpec.ofChange shareRightsWrong)

/-- 'lamellalaw11.ShareAdds': WHATEVER THE INPUT: true; the input reads as it did. -/
def shareAddsSpec : ChangeSpec := { name := "shareAdds", fn := fun _ => fun
  | [d1, d2] => { results := [.lit (.bool true)], args := [d1, d2] }
  | _ => none }
def shareAddsRow : OpenClaim := { program := "ytecbfpdkbackmaa", sum := "97a937d56e370a20eac2a81b3a82483759737de6497756d19ee26a7bc4f0f2de", func := "lamella/lamellalaw11.ShareAdds", spec := "shareAdds", unfollowed := true, recurses := true, apart := false }
def ShareAddsSaid : Prop := shareAddsRow.holds Try.pinned (OpenSpec.ofChange shareAddsSpec)

/-- ITS FALSE NEIGHBOUR: 'it returns false'. Refute it at one input. -/
def shareAddsWrong : ChangeSpec := { name := "shareAdds", fn := fun _ => fun
  | [d1, d2] => { results := [.lit (.bool false)], args := [d1, d2] }
  | _ => none }
def ShareAddsWrongFalsely : Prop := shareAddsRow.holds Try.pinned (OpenSpec.ofChange shareAddsWrong)

/-- 'lamellalaw11.ShareDenies': WHATEVER THE INPUT: true; the input reads as it did. -/
def shareDeniesSpec : ChangeSpec := { name := "shareDenies", fn := fun _ => fun
  | [d] => { results := [.lit (.bool true)], args := [d] }
  | _ => none }
def shareDeniesRow : OpenClaim := { program := "ytecbfpdkbackmaa", sum := "97a937d56e370a20eac2a81b3a82483759737de6497756d19ee26a7bc4f0f2de", func := "lamella/lamellalaw11.ShareDenies", spec := "shareDenies", unfollowed := true, recurses := true, apart := false }
def ShareDeniesSaid : Prop := shareDeniesRow.holds Try.pinned (OpenSpec.ofChange shareDeniesSpec)

/-- ITS FALSE NEIGHBOUR: 'it returns false'. Refute it at one input. -/
def shareDeniesWrong : ChangeSpec := { name := "shareDenies", fn := fun _ => fun
  | [d] => { results := [.lit (.bool false)], args := [d] }
  | _ => none }
def ShareDeniesWrongFalsely : Prop := shareDeniesRow.holds Try.pinned (OpenSpec.ofChange shareDeniesWrong)

/-- 'lamellalaw11.ShareOrder': WHATEVER THE INPUT: true; the input reads as it did. -/
def shareOrderSpec : ChangeSpec := { name := "shareOrder", fn := fun _ => fun
  | [d1, d2, d3] => { results := [.lit (.bool true)], args := [d1, d2, d3] }
  | _ => none }
def shareOrderRow : OpenClaim := { program := "ytecbfpdkbackmaa", sum := "97a937d56e370a20eac2a81b3a82483759737de6497756d19ee26a7bc4f0f2de", func := "lamella/lamellalaw11.ShareOrder", spec := "shareOrder", unfollowed := true, recurses := true, apart := false }
def ShareOrderSaid : Prop := shareOrderRow.holds Try.pinned (OpenSpec.ofChange shareOrderSpec)

/-- ITS FALSE NEIGHBOUR: 'it returns false'. Refute it at one input. -/
def shareOrderWrong : ChangeSpec := { name := "shareOrder", fn := fun _ => fun
  | [d1, d2, d3] => { results := [.lit (.bool false)], args := [d1, d2, d3] }
  | _ => none }
def ShareOrderWrongFalsely : Prop := shareOrderRow.holds Try.pinned (OpenSpec.ofChange shareOrderWrong)

/-- 'lamellalaw11.ShareDrops': WHATEVER THE INPUT: true; the input reads as it did. -/
def shareDropsSpec : ChangeSpec := { name := "shareDrops", fn := fun _ => fun
  | [d1, d2, d3] => { results := [.lit (.bool true)], args := [d1, d2, d3] }
  | _ => none }
def shareDropsRow : OpenClaim := { program := "ytecbfpdkbackmaa", sum := "97a937d56e370a20eac2a81b3a82483759737de6497756d19ee26a7bc4f0f2de", func := "lamella/lamellalaw11.ShareDrops", spec := "shareDrops", unfollowed := true, recurses := true, apart := false }
def ShareDropsSaid : Prop := shareDropsRow.holds Try.pinned (OpenSpec.ofChange shareDropsSpec)

/-- ITS FALSE NEIGHBOUR: 'it returns false'. Refute it at one input. -/
def shareDropsWrong : ChangeSpec := { name := "shareDrops", fn := fun _ => fun
  | [d1, d2, d3] => { results := [.lit (.bool false)], args := [d1, d2, d3] }
  | _ => none }
def ShareDropsWrongFalsely : Prop := shareDropsRow.holds Try.pinned (OpenSpec.ofChange shareDropsWrong)

/-- 'lamellalaw11.ShareBack': WHATEVER THE INPUT: true; the input reads as it did. -/
def shareBackSpec : ChangeSpec := { name := "shareBack", fn := fun _ => fun
  | [d1, d2, d3] => { results := [.lit (.bool true)], args := [d1, d2, d3] }
  | _ => none }
def shareBackRow : OpenClaim := { program := "ytecbfpdkbackmaa", sum := "97a937d56e370a20eac2a81b3a82483759737de6497756d19ee26a7bc4f0f2de", func := "lamella/lamellalaw11.ShareBack", spec := "shareBack", unfollowed := true, recurses := true, apart := false }
def ShareBackSaid : Prop := shareBackRow.holds Try.pinned (OpenSpec.ofChange shareBackSpec)

/-- ITS FALSE NEIGHBOUR: 'it returns false'. Refute it at one input. -/
def shareBackWrong : ChangeSpec := { name := "shareBack", fn := fun _ => fun
  | [d1, d2, d3] => { results := [.lit (.bool false)], args := [d1, d2, d3] }
  | _ => none }
def ShareBackWrongFalsely : Prop := shareBackRow.holds Try.pinned (OpenSpec.ofChange shareBackWrong)

/-- 'lamellalaw11.ShareKeeps': WHATEVER THE INPUT: true; the input reads as it did. -/
def shareKeepsSpec : ChangeSpec := { name := "shareKeeps", fn := fun _ => fun
  | [d1, d2] => { results := [.lit (.bool true)], args := [d1, d2] }
  | _ => none }
def shareKeepsRow : OpenClaim := { program := "ytecbfpdkbackmaa", sum := "97a937d56e370a20eac2a81b3a82483759737de6497756d19ee26a7bc4f0f2de", func := "lamella/lamellalaw11.ShareKeeps", spec := "shareKeeps", unfollowed := true, recurses := true, apart := false }
def ShareKeepsSaid : Prop := shareKeepsRow.holds Try.pinned (OpenSpec.ofChange shareKeepsSpec)

/-- ITS FALSE NEIGHBOUR: 'it returns false'. Refute it at one input. -/
def shareKeepsWrong : ChangeSpec := { name := "shareKeeps", fn := fun _ => fun
  | [d1, d2] => { results := [.lit (.bool false)], args := [d1, d2] }
  | _ => none }
def ShareKeepsWrongFalsely : Prop := shareKeepsRow.holds Try.pinned (OpenSpec.ofChange shareKeepsWrong)

/- THE SECOND FORM. 'bulk': how many values and letters a reading holds, each counted each time it is reached (what is shared counts as often as it is met; a slice's spare places count too). A statement '..UptoSaid' is the law's where the arguments, and the package variables that the reading takes, are together of bulk at most 1048576: NARROWER than '..Said'. Prove '..Said' where nothing that the law and all that it calls make is longer than what came in: it says more and counts as full. Else prove '..UptoSaid'. A law counts once. -/
mutual
def uptoBulk {H : Type} : DataW H → Nat
  | .lit (.string bytes) => bytes.length + 1
  | .lit _ => 1
  | .nil => 1
  | .ptr d => uptoBulk d + 1
  | .slice elems spare => uptoBulkAll elems + uptoBulkAll spare + 1
  | .agg parts => uptoBulkAll parts + 1
  | .iface _ d => uptoBulk d + 1
  | .map entries => uptoBulkEntries entries + 1
  | .held _ => 1
def uptoBulkAll {H : Type} : List (DataW H) → Nat
  | [] => 0
  | d :: r => uptoBulk d + uptoBulkAll r
def uptoBulkEntries {H : Type} : List (Lit × DataW H) → Nat
  | [] => 0
  | x :: r => uptoBulkEntry x + uptoBulkEntries r
def uptoBulkEntry {H : Type} : Lit × DataW H → Nat
  | (.string bytes, d) => bytes.length + uptoBulk d + 1
  | (_, d) => uptoBulk d + 1
 end
def uptoSmall : (H : Type) → List (DataW H) → Bool := fun _ ds => decide (uptoBulkAll ds ≤ 1048576)
def OpenSpec.upto (s : _root_.Go.ChangeSpec) : _root_.Go.OpenSpec := { _root_.Go.OpenSpec.ofChange s with cond := some uptoSmall }

/-- 'lamellalaw11.ShareRights', WHERE WHAT IT READS IS OF BULK AT MOST 1048576: true; the input reads as it did. -/
def shareRightsUptoRow : OpenClaim := { program := "ytecbfpdkbackmaa", sum := "97a937d56e370a20eac2a81b3a82483759737de6497756d19ee26a7bc4f0f2de", func := "lamella/lamellalaw11.ShareRights", spec := "shareRights", unfollowed := true, recurses := true, apart := false, narrowed := true }
def ShareRightsUptoSaid : Prop := shareRightsUptoRow.holds Try.pinned (OpenSpec.upto shareRightsSpec)

/-- 'lamellalaw11.ShareAdds', WHERE WHAT IT READS IS OF BULK AT MOST 1048576: true; the input reads as it did. -/
def shareAddsUptoRow : OpenClaim := { program := "ytecbfpdkbackmaa", sum := "97a937d56e370a20eac2a81b3a82483759737de6497756d19ee26a7bc4f0f2de", func := "lamella/lamellalaw11.ShareAdds", spec := "shareAdds", unfollowed := true, recurses := true, apart := false, narrowed := true }
def ShareAddsUptoSaid : Prop := shareAddsUptoRow.holds Try.pinned (OpenSpec.upto shareAddsSpec)

/-- 'lamellalaw11.ShareDenies', WHERE WHAT IT READS IS OF BULK AT MOST 1048576: true; the input reads as it did. -/
def shareDeniesUptoRow : OpenClaim := { program := "ytecbfpdkbackmaa", sum := "97a937d56e370a20eac2a81b3a82483759737de6497756d19ee26a7bc4f0f2de", func := "lamella/lamellalaw11.ShareDenies", spec := "shareDenies", unfollowed := true, recurses := true, apart := false, narrowed := true }
def ShareDeniesUptoSaid : Prop := shareDeniesUptoRow.holds Try.pinned (OpenSpec.upto shareDeniesSpec)

/-- 'lamellalaw11.ShareOrder', WHERE WHAT IT READS IS OF BULK AT MOST 1048576: true; the input reads as it did. -/
def shareOrderUptoRow : OpenClaim := { program := "ytecbfpdkbackmaa", sum := "97a937d56e370a20eac2a81b3a82483759737de6497756d19ee26a7bc4f0f2de", func := "lamella/lamellalaw11.ShareOrder", spec := "shareOrder", unfollowed := true, recurses := true, apart := false, narrowed := true }
def ShareOrderUptoSaid : Prop := shareOrderUptoRow.holds Try.pinned (OpenSpec.upto shareOrderSpec)

/-- 'lamellalaw11.ShareDrops', WHERE WHAT IT READS IS OF BULK AT MOST 1048576: true; the input reads as it did. -/
def shareDropsUptoRow : OpenClaim := { program := "ytecbfpdkbackmaa", sum := "97a937d56e370a20eac2a81b3a82483759737de6497756d19ee26a7bc4f0f2de", func := "lamella/lamellalaw11.ShareDrops", spec := "shareDrops", unfollowed := true, recurses := true, apart := false, narrowed := true }
def ShareDropsUptoSaid : Prop := shareDropsUptoRow.holds Try.pinned (OpenSpec.upto shareDropsSpec)

/-- 'lamellalaw11.ShareBack', WHERE WHAT IT READS IS OF BULK AT MOST 1048576: true; the input reads as it did. -/
def shareBackUptoRow : OpenClaim := { program := "ytecbfpdkbackmaa", sum := "97a937d56e370a20eac2a81b3a82483759737de6497756d19ee26a7bc4f0f2de", func := "lamella/lamellalaw11.ShareBack", spec := "shareBack", unfollowed := true, recurses := true, apart := false, narrowed := true }
def ShareBackUptoSaid : Prop := shareBackUptoRow.holds Try.pinned (OpenSpec.upto shareBackSpec)

/-- 'lamellalaw11.ShareKeeps', WHERE WHAT IT READS IS OF BULK AT MOST 1048576: true; the input reads as it did. -/
def shareKeepsUptoRow : OpenClaim := { program := "ytecbfpdkbackmaa", sum := "97a937d56e370a20eac2a81b3a82483759737de6497756d19ee26a7bc4f0f2de", func := "lamella/lamellalaw11.ShareKeeps", spec := "shareKeeps", unfollowed := true, recurses := true, apart := false, narrowed := true }
def ShareKeepsUptoSaid : Prop := shareKeepsUptoRow.holds Try.pinned (OpenSpec.upto shareKeepsSpec)

end Rows
end Go.Proofs.Ytecbfpdkbackmaa
