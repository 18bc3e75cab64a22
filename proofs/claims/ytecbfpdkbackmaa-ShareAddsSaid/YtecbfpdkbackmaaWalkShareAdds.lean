/- Every list with one more open, or why it isn't, is the document's: the call returns true whatever the input. No condition. -/
import Derived.Test.YtecbfpdkbackmaaShareRefAdd
import Derived.Test.YtecbfpdkbackmaaP11x9
namespace Go.Proofs.Ytecbfpdkbackmaa.shareAdds
open Go.RowKit Go.Sees Go.Proofs.Ytecbfpdkbackmaa.Share Go.Proofs.Ytecbfpdkbackmaa.P11 Go.Proofs.Ytecbfpdkbackmaa.Opens Go.Proofs.YtecbfpdkbackmaaW.PrintWords Go.Proofs.YtecbfpdkbackmaaW.PrintLast Go.Proofs.YtecbfpdkbackmaaW.PrintMore
set_option linter.unusedVariables false
set_option linter.unusedSimpArgs false

theorem add_some (l : List S27) (o : S27) (h : l.length ≤ 100) : share_Add.f l o.f0 o.f1 o.f2 o.f3 o.f4 = some (addF l o) := by
  unfold share_Add.f; rw [if_pos h]
theorem add_len (l : List S27) (o : S27) : (addF l o).1.length ≤ 100 := by
  by_cases h0 : (addF l o).2 = 0
  · have ha := add_zero h0
    rw [add_yes ha]; simp only; rw [len_ins]; have := ha.room; omega
  · rw [add_fst h0]; simp
theorem pure_true (l : List S27) (o : S27) (hn : ∀ x ∈ l, Nn x) (no : Nn o) (k : Nat) (hk : 6000 ≤ k) : lamellalaw11_ShareAdds.f (k + 2) l o.f0 o.f1 o.f2 o.f3 o.f4 = some true := by
  unfold lamellalaw11_ShareAdds.f
  rw [alive_true]
  simp only [Option.bind_some, if_true]
  by_cases h : (l.length : Int) > 100
  · rw [if_pos h]
  rw [if_neg h, add_some l o (by omega), refAdd_f l o hn no k hk]
  simp only [Option.bind_some]
  rw [same_f _ (by have := add_len l o; omega) (k + 2) (by omega)]
  simp
theorem shareAdds_walk (a0 : Option Addr) (len0 cap0 : Nat) (a1 : Array Value) (w : World) (w0 : Sees Try.prog w 140737488351232 5 22 [.slice a0 len0 cap0]) (w1 : Sees Try.prog w 140737488351232 5 27 a1.toList) :
    Calls Try.prog 4 #[.slice a0 len0 cap0, .agg a1] w fun e w' => e = .returned (.bool true) ∧ Below w.heap.size w w' := by
  obtain ⟨l, rfl, hc, hC, hn⟩ := sees_list (k := 2) w0
  obtain ⟨x0, x1, x2, x3, x4, rfl, b0, b1, b2, b3, b4⟩ := openA27 (k := 3) w1
  exact lamellalaw11_ShareAdds.calls (6000 + 2) a0 cap0 l x0 x1 x2 x3 x4 true w hC hc (pure_true l ⟨x0, x1, x2, x3, x4⟩ hn ⟨nn_u32 b0, nn_u32 b1, nn_u32 b2, nn_u32 b3, nn_u32 b4⟩ 6000 (by omega))
end Go.Proofs.Ytecbfpdkbackmaa.shareAdds
