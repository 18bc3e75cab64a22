/- Layer share: the plain words of an open; the closures that ask for a clash. -/
import Derived.Test.YtecbfpdkbackmaaShareFinds
namespace Go.Proofs.Ytecbfpdkbackmaa.Share
open Go.RowKit Go.Shelf Go.Blk Go.Proofs.Ytecbfpdkbackmaa.P11 Go.Proofs.YtecbfpdkbackmaaW.PrintWords Go.Proofs.YtecbfpdkbackmaaW.PrintLast Go.Proofs.YtecbfpdkbackmaaW.PrintMore
set_option linter.unusedVariables false
set_option linter.unusedSimpArgs false

/-- an open's cells -/
abbrev cellsOf (x : S27) : Array Value := #[.int .u32 x.f0, .int .u32 x.f1, .int .u32 x.f2, .int .u32 x.f3, .int .u32 x.f4]

def oneB (x : S27) : Bool := decide (0 < x.f0 ∧ 0 < x.f2 ∧ 1 ≤ x.f3 ∧ x.f3 ≤ 3 ∧ x.f4 ≤ 3)
def clashB (a b : S27) : Bool := a.f2 == b.f2 && (!(Go.bits .and .u32 a.f3 b.f4 == 0) || !(Go.bits .and .u32 b.f3 a.f4 == 0))
def cmpB (a b : S27) : Int := if a.f0 < b.f0 then -1 else if b.f0 < a.f0 then 1 else if a.f1 < b.f1 then -1 else if b.f1 < a.f1 then 1 else 0

theorem one_f (x : S27) : share_one.f x.f0 x.f1 x.f2 x.f3 x.f4 = some (oneB x) := by
  unfold share_one.f oneB
  by_cases h : 0 < x.f0 ∧ 0 < x.f2 ∧ 1 ≤ x.f3 ∧ x.f3 ≤ 3 ∧ x.f4 ≤ 3
  · rw [if_pos h.1, if_pos h.2.1, if_pos h.2.2.1, if_pos h.2.2.2.1, decide_eq_true h.2.2.2.2, decide_eq_true h]
  · rw [decide_eq_false h]
    repeat' split
    all_goals first
      | rfl
      | (congr 1; rw [decide_eq_false_iff_not]; intro h6; exact h ⟨by omega, by omega, by omega, by omega, h6⟩)
theorem clash_f (a b : S27) : share_clash.f a.f0 a.f1 a.f2 a.f3 a.f4 b.f0 b.f1 b.f2 b.f3 b.f4 = some (clashB a b) := by
  unfold share_clash.f clashB
  split
  · rename_i h
    rw [beq_iff_eq.2 h]
    split
    · rename_i h2
      rw [beq_iff_eq.2 h2]; simp [bne]
    · rename_i h2
      rw [beq_eq_false_iff_ne.2 h2]; simp
  · rename_i h
    rw [beq_eq_false_iff_ne.2 h]; simp
theorem order_f (a b : S27) : share_order.f 5 a.f0 a.f1 a.f2 a.f3 a.f4 b.f0 b.f1 b.f2 b.f3 b.f4 = some (cmpB a b) := by
  have hc : ∀ x y : Int, cmp_Compare_uint32.f x y = some (if x < y then -1 else if y < x then 1 else 0) := by
    intro x y
    unfold cmp_Compare_uint32.f cmp_isNaN_uint32.f
    simp only [bne_self_eq_false, Option.bind_some, Bool.false_eq_true, if_false, gt_iff_lt]
    repeat' split
    all_goals rfl
  unfold share_order.f
  rw [hc, hc]
  simp only [Option.bind_some]
  unfold cmpB
  by_cases h1 : a.f0 < b.f0
  · rw [if_pos h1, if_pos h1]; simp [cmp_Or_int.f, cmp_Or_int.l0, rd, wrap64]
  · rw [if_neg h1, if_neg h1]
    by_cases h2 : b.f0 < a.f0
    · rw [if_pos h2, if_pos h2]; simp [cmp_Or_int.f, cmp_Or_int.l0, rd, wrap64]
    · rw [if_neg h2, if_neg h2]
      by_cases h3 : a.f1 < b.f1
      · rw [if_pos h3]; simp [cmp_Or_int.f, cmp_Or_int.l0, rd, wrap64]
      · rw [if_neg h3]
        by_cases h4 : b.f1 < a.f1
        · rw [if_pos h4]; simp [cmp_Or_int.f, cmp_Or_int.l0, rd, wrap64]
        · rw [if_neg h4]; simp [cmp_Or_int.f, cmp_Or_int.l0, rd, wrap64]

theorem one_calls (x : S27) (w : World) : Calls Try.prog 25 #[opn x] w fun e w' => e = .returned (.bool (oneB x)) ∧ Below w.heap.size w w' := share_one.calls _ _ _ _ _ _ w (one_f x)
theorem clash_calls (x y : S27) (w : World) : Calls Try.prog 30 #[opn x, opn y] w fun e w' => e = .returned (.bool (clashB x y)) ∧ Below w.heap.size w w' := share_clash.calls _ _ _ _ _ _ _ _ _ _ _ w (clash_f x y)
theorem order_calls (x y : S27) (w : World) : Calls Try.prog 27 #[opn x, opn y] w fun e w' => e = .returned (.int .i64 (cmpB x y)) ∧ Below w.heap.size w w' := share_order.calls 5 _ _ _ _ _ _ _ _ _ _ _ w (order_f x y)

theorem five_cells {w W : World} {B : Nat} {o : S27} (hB : w.heap[B]? = some (.cells (cellsOf o) 27 (0, 0))) (hb : Below w.heap.size w W) : ∀ o', (W.alloc o').heap[B]? = some (.cells (cellsOf o) 27 (0, 0)) :=
  fun o' => alloc_old (below_old hB hb) o'

set_option maxHeartbeats 1000000 in
theorem right_pred (o : S27) (B : Nat) (w : World) (hB : w.heap[B]? = some (.cells (cellsOf o) 27 (0, 0))) :
    PredB 29 #[.pointer (some ⟨B, 0, none⟩)] (fun x => clashB x o) w := fun W x hb => by
  have hc := fun o' => blk5 (five_cells hB hb o')
  have HC := Lib.hid (fun W => clash_calls x o W)
  have HB := Lib.hid hb
  clear hb hB
  show Calls Try.prog 29 #[opn x, .pointer (some ⟨B, 0, none⟩)] W (fun e w' => e = .returned (.bool (clashB x o)) ∧ Below w.heap.size w w')
  generalize clashB x o = r at HC ⊢
  go_enter Try.func29, Try.ntmps29
  go_wp2_with (go_at_call 30; refine (HC.out _).mono ?_; rintro e w1 ⟨rfl, hb1⟩)
  go_ret
  exact ⟨rfl, (HB.out.alloc HB.out.size _).trans (hb1.mono (by have := HB.out.size; simp; omega))⟩
set_option maxHeartbeats 1000000 in
theorem add_pred (o : S27) (B : Nat) (w : World) (hB : w.heap[B]? = some (.cells (cellsOf o) 27 (0, 0))) :
    PredB 38 #[.pointer (some ⟨B, 0, none⟩)] (fun x => clashB x o) w := fun W x hb => by
  have hc := fun o' => blk5 (five_cells hB hb o')
  have HC := Lib.hid (fun W => clash_calls x o W)
  have HB := Lib.hid hb
  clear hb hB
  show Calls Try.prog 38 #[opn x, .pointer (some ⟨B, 0, none⟩)] W (fun e w' => e = .returned (.bool (clashB x o)) ∧ Below w.heap.size w w')
  generalize clashB x o = r at HC ⊢
  go_enter Try.func38, Try.ntmps38
  go_wp2_with (go_at_call 30; refine (HC.out _).mono ?_; rintro e w1 ⟨rfl, hb1⟩)
  go_ret
  exact ⟨rfl, (HB.out.alloc HB.out.size _).trans (hb1.mono (by have := HB.out.size; simp; omega))⟩
end Go.Proofs.Ytecbfpdkbackmaa.Share
