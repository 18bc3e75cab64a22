/- Two opens that may both be come to the same list in either order: the call returns true whatever the input. No condition. -/
import Derived.Test.YtecbfpdkbackmaaShareOpen
import Derived.Test.YtecbfpdkbackmaaP11x10
namespace Go.Proofs.Ytecbfpdkbackmaa.shareOrder
open Go.RowKit Go.Sees Go.Proofs.Ytecbfpdkbackmaa.Share Go.Proofs.Ytecbfpdkbackmaa.P11 Go.Proofs.Ytecbfpdkbackmaa.Opens Go.Proofs.YtecbfpdkbackmaaW.PrintWords Go.Proofs.YtecbfpdkbackmaaW.PrintLast Go.Proofs.YtecbfpdkbackmaaW.PrintMore
set_option linter.unusedVariables false
set_option linter.unusedSimpArgs false

theorem key_comm (x y : S27) : keyB x.f0 x.f1 y = keyB y.f0 y.f1 x := by
  unfold keyB
  rw [show (y.f0 == x.f0) = (x.f0 == y.f0) from by rw [Bool.eq_iff_iff, beq_iff_eq, beq_iff_eq]; exact ⟨Eq.symm, Eq.symm⟩, show (y.f1 == x.f1) = (x.f1 == y.f1) from by rw [Bool.eq_iff_iff, beq_iff_eq, beq_iff_eq]; exact ⟨Eq.symm, Eq.symm⟩]
theorem other {l : List S27} {a b : S27} (ha : MayAdd l a) (hb : MayAdd (insO l a) b) : MayAdd l b := by
  refine ⟨ha.right, hb.one, fun x hx => hb.new x (mem_ins.2 (.inl hx)), ?_, ?_, fun x hx => hb.apart x (mem_ins.2 (.inl hx))⟩
  · have := hb.room; rw [len_ins] at this; omega
  · have := hb.few; rw [count_ins] at this; omega
theorem swapped {l : List S27} {a b : S27} (ha : MayAdd l a) (hb : MayAdd (insO l a) b) : MayAdd (insO l b) a := by
  have hb' := other ha hb
  refine ⟨ins_right hb', ha.one, fun x hx => ?_, ?_, ?_, fun x hx => ?_⟩
  · rcases mem_ins.1 hx with hx | rfl
    · exact ha.new x hx
    · rw [key_comm]; exact hb.new a (mem_ins.2 (.inr rfl))
  · have := hb.room; rw [len_ins] at this ⊢; omega
  · have h1 := hb.few
    have h2 := ha.few
    rw [count_ins] at h1 ⊢
    by_cases e : a.f0 = b.f0
    · rw [if_pos e] at h1; rw [if_pos e.symm, e]; exact h1
    · rw [if_neg (fun h => e h.symm)]; omega
  · rcases mem_ins.1 hx with hx | rfl
    · exact ha.apart x hx
    · rw [clash_comm]; exact hb.apart a (mem_ins.2 (.inr rfl))
theorem same_end {l : List S27} {a b : S27} (ha : MayAdd l a) (hb : MayAdd (insO l a) b) : insO (insO l b) a = insO (insO l a) b := by
  have hb' := other ha hb
  have hs := swapped ha hb
  refine ins_unique (ins_right ha).strict (found_yes hb.new) ?_ (strict_sorted (ins_right hs).strict)
  refine (insO_perm _ _).trans ?_
  refine ((insO_perm l b).append_right [a]).trans ?_
  refine List.Perm.trans ?_ ((insO_perm l a).symm.append_right [b])
  rw [List.append_assoc, List.append_assoc]
  exact List.Perm.append_left l List.perm_append_comm

theorem add_some (l : List S27) (o : S27) (h : l.length ≤ 100) : share_Add.f l o.f0 o.f1 o.f2 o.f3 o.f4 = some (addF l o) := by
  unfold share_Add.f; rw [if_pos h]

theorem pure_true (l : List S27) (a b : S27) : lamellalaw11_ShareOrder.f 5010 l a.f0 a.f1 a.f2 a.f3 a.f4 b.f0 b.f1 b.f2 b.f3 b.f4 = some true := by
  unfold lamellalaw11_ShareOrder.f
  rw [alive_true]
  simp only [Option.bind_some, if_true]
  by_cases h : (l.length : Int) > 100
  · rw [if_pos h]
  rw [if_neg h, add_some l a (by omega)]
  simp only [Option.bind_some]
  by_cases h0 : (addF l a).2 = 0
  · have ha := add_zero h0
    rw [if_pos h0, add_yes ha]
    simp only
    rw [add_some (insO l a) b (by rw [len_ins]; have := ha.room; omega), add_some l b (by omega)]
    simp only [Option.bind_some]
    by_cases h1 : (addF (insO l a) b).2 = 0
    · have hb := add_zero h1
      rw [if_pos h1, add_yes hb, add_yes (other ha hb), if_pos rfl]
      simp only
      rw [add_some (insO l b) a (by rw [len_ins]; have := ha.room; omega), add_yes (swapped ha hb)]
      simp only [Option.bind_some, if_true]
      rw [same_end ha hb, same_f _ (by rw [len_ins, len_ins]; have := ha.room; omega) 5010 (by omega)]; rfl
    · rw [if_neg h1, add_fst h1]; rfl
  · rw [if_neg h0]

theorem shareOrder_walk (a0 : Option Addr) (len0 cap0 : Nat) (a1 : Array Value) (a2 : Array Value) (w : World) (w0 : Sees Try.prog w 140737488351232 5 22 [.slice a0 len0 cap0]) (w1 : Sees Try.prog w 140737488351232 5 27 a1.toList) (w2 : Sees Try.prog w 140737488351232 5 27 a2.toList) :
    Calls Try.prog 6 #[.slice a0 len0 cap0, .agg a1, .agg a2] w fun e w' => e = .returned (.bool true) ∧ Below w.heap.size w w' := by
  obtain ⟨l, rfl, hc, hC, hn⟩ := sees_list (k := 2) w0
  obtain ⟨x0, x1, x2, x3, x4, rfl, -⟩ := openA27 (k := 3) w1
  obtain ⟨y0, y1, y2, y3, y4, rfl, -⟩ := openA27 (k := 3) w2
  exact lamellalaw11_ShareOrder.calls 5010 a0 cap0 l x0 x1 x2 x3 x4 y0 y1 y2 y3 y4 true w hC hc (pure_true l ⟨x0, x1, x2, x3, x4⟩ ⟨y0, y1, y2, y3, y4⟩)
end Go.Proofs.Ytecbfpdkbackmaa.shareOrder
