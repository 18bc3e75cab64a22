/- Layer share: the closures, each as a predicate; the three that count. -/
import Derived.Test.YtecbfpdkbackmaaShareCount
namespace Go.Proofs.Ytecbfpdkbackmaa.Share
open Go.RowKit Go.Blk Go.Proofs.Ytecbfpdkbackmaa.P11 Go.Proofs.YtecbfpdkbackmaaW.PrintWords Go.Proofs.YtecbfpdkbackmaaW.PrintLast Go.Proofs.YtecbfpdkbackmaaW.PrintMore
set_option linter.unusedVariables false
set_option linter.unusedSimpArgs false

theorem one_cell {w W : World} {B : Nat} {v : Value} (hB : B < w.heap.size) (hc : w.cell? ⟨B, 0, none⟩ = some v) (hb : Below w.heap.size w W) : ∀ o, (W.alloc o).cell? ⟨B, 0, none⟩ = some v :=
  fun o => (((Below.refl W.heap.size W).alloc (Nat.le_refl _) o).cell (p := ⟨B, 0, none⟩) (Nat.lt_of_lt_of_le hB hb.size)).trans ((hb.cell (p := ⟨B, 0, none⟩) hB).trans hc)

set_option maxHeartbeats 1000000 in
theorem uses_pred (file : Int) (B : Nat) (w : World) (hB : B < w.heap.size) (hc : w.cell? ⟨B, 0, none⟩ = some (.int .u32 file)) :
    PredB 36 #[.pointer (some ⟨B, 0, none⟩)] (fun x => x.f2 == file) w := fun W x hb => by
  have hc1 := one_cell hB hc hb
  show Calls Try.prog 36 #[opn x, .pointer (some ⟨B, 0, none⟩)] W _
  clear hc
  go_enter Try.func36, Try.ntmps36
  go_wp2
  all_goals (go_ret; exact ⟨by simp_all, hb.alloc hb.size _⟩)

set_option maxHeartbeats 1000000 in
theorem mine_pred (client : Int) (B : Nat) (w : World) (hB : B < w.heap.size) (hc : w.cell? ⟨B, 0, none⟩ = some (.int .u32 client)) :
    PredB 44 #[.pointer (some ⟨B, 0, none⟩)] (fun x => x.f0 == client) w := fun W x hb => by
  have hc1 := one_cell hB hc hb
  show Calls Try.prog 44 #[opn x, .pointer (some ⟨B, 0, none⟩)] W _
  clear hc
  go_enter Try.func44, Try.ntmps44
  go_wp2
  all_goals (go_ret; exact ⟨by simp_all, hb.alloc hb.size _⟩)

set_option maxHeartbeats 1000000 in
theorem clear_pred (client : Int) (B : Nat) (w : World) (hB : B < w.heap.size) (hc : w.cell? ⟨B, 0, none⟩ = some (.int .u32 client)) :
    PredB 43 #[.pointer (some ⟨B, 0, none⟩)] (fun x => x.f0 == client) w := fun W x hb => by
  have hc1 := one_cell hB hc hb
  show Calls Try.prog 43 #[opn x, .pointer (some ⟨B, 0, none⟩)] W _
  clear hc
  go_enter Try.func43, Try.ntmps43
  go_wp2
  all_goals (go_ret; exact ⟨by simp_all, hb.alloc hb.size _⟩)

set_option maxHeartbeats 1000000 in
theorem has_pred (client file : Int) (B C : Nat) (w : World) (hB : B < w.heap.size) (hC : C < w.heap.size) (hc : w.cell? ⟨B, 0, none⟩ = some (.int .u32 client)) (hd : w.cell? ⟨C, 0, none⟩ = some (.int .u32 file)) :
    PredB 37 #[.pointer (some ⟨B, 0, none⟩), .pointer (some ⟨C, 0, none⟩)] (fun x => x.f0 == client && x.f2 == file) w := fun W x hb => by
  have hc1 := one_cell hB hc hb
  have hd1 := one_cell hC hd hb
  show Calls Try.prog 37 #[opn x, .pointer (some ⟨B, 0, none⟩), .pointer (some ⟨C, 0, none⟩)] W _
  clear hc hd
  go_enter Try.func37, Try.ntmps37
  go_wp2
  all_goals (go_ret; exact ⟨by simp_all, hb.alloc hb.size _⟩)
end Go.Proofs.Ytecbfpdkbackmaa.Share
