/- Layer share: slices.DeleteFunc on a list of the call's own: it holds what is not struck. -/
import Derived.Test.YtecbfpdkbackmaaShareClone
import Derived.Test.YtecbfpdkbackmaaP11x1
namespace Go.Proofs.Ytecbfpdkbackmaa.Share
open Go.RowKit Go.Shelf Go.Blk Go.Proofs.Ytecbfpdkbackmaa.P11 Go.Proofs.YtecbfpdkbackmaaW.PrintWords Go.Proofs.YtecbfpdkbackmaaW.PrintLast Go.Proofs.YtecbfpdkbackmaaW.PrintMore
set_option linter.unusedVariables false
set_option linter.unusedSimpArgs false

/-- a predicate's function that leaves all as it was, from w on -/
def PredF (g : Nat) (lb : Array Value) (p : S27 → Bool) (w : World) : Prop :=
  ∀ (W : World) (x : S27), Below w.heap.size w W → Calls Try.prog g (#[opn x] ++ lb) W fun e w' => e = .returned (.bool (p x)) ∧ Below W.heap.size W w'
theorem PredF.on {g : Nat} {lb : Array Value} {p : S27 → Bool} {w w1 : World} (h : PredF g lb p w) (hb : Below w.heap.size w w1) : PredF g lb p w1 :=
  fun W x hW => h W x (hb.trans (hW.mono hb.size))
theorem PredF.pred {g : Nat} {lb : Array Value} {p : S27 → Bool} {w : World} (h : PredF g lb p w) : PredB g lb p w :=
  fun W x hW => (h W x hW).mono fun e w' ⟨he, hb⟩ => ⟨he, hW.trans (hb.mono hW.size)⟩

set_option maxHeartbeats 1000000 in
theorem clear_predF (client : Int) (B : Nat) (w : World) (hB : B < w.heap.size) (hc : w.cell? ⟨B, 0, none⟩ = some (.int .u32 client)) :
    PredF 43 #[.pointer (some ⟨B, 0, none⟩)] (fun x => x.f0 == client) w := fun W x hb => by
  have hc1 := one_cell hB hc hb
  show Calls Try.prog 43 #[opn x, .pointer (some ⟨B, 0, none⟩)] W _
  clear hc
  go_enter Try.func43, Try.ntmps43
  go_wp2
  all_goals (go_ret; exact ⟨by simp_all, boxed W _⟩)

def sameB (x y : S27) : Bool := x.f0 == y.f0 && (x.f1 == y.f1 && (x.f2 == y.f2 && (x.f3 == y.f3 && (x.f4 == y.f4))))
attribute [local go_sem high] eqA27
set_option maxHeartbeats 1000000 in
theorem drop_predF (o : S27) (B : Nat) (w : World) (hB : w.heap[B]? = some (.cells (cellsOf o) 27 (0, 0))) :
    PredF 42 #[.pointer (some ⟨B, 0, none⟩)] (fun x => sameB x o) w := fun W x hb => by
  have hc := fun o' => blk5 (five_cells hB hb o')
  clear hB
  show Calls Try.prog 42 #[opn x, .pointer (some ⟨B, 0, none⟩)] W (fun e w' => e = .returned (.bool (sameB x o)) ∧ Below W.heap.size W w')
  unfold sameB
  go_enter Try.func42, Try.ntmps42
  go_wp2
  all_goals (go_ret; exact ⟨rfl, boxed W _⟩)

/-- clear on a run of opens -/
theorem run_clear5 (w : World) (ty : TypeId) (b o n c : Nat) (hn : 0 < n) (hc : ∀ j, j < n * 5 → (w.cell? ⟨b, o + j, none⟩).isSome = true) (hf : ∀ j, j < n * 5 → w.frozen? ⟨b, o + j, none⟩ = false) :
    ∃ L : List Value, L.length = n * 5 ∧ (Builtin.clear_ #[22] ty #[.slice (some ⟨b, o, none⟩) n c]).run Try.prog w = .ok (.tuple #[]) (w.setCells b o L) := by
  have hv : ∀ w, (zeroValue 27).run Try.prog w = .ok (.agg #[.int .u32 0, .int .u32 0, .int .u32 0, .int .u32 0, .int .u32 0]) w := fun w => Try.zeroValue27 w
  refine ⟨(Builtin.zeroCells (Value.agg #[.int .u32 0, .int .u32 0, .int .u32 0, .int .u32 0, .int .u32 0]).cells n).toList, by simp [Builtin.zeroCells, Value.cells], ?_⟩
  have hst := run_storeCells_cells (P := Try.prog) b o (Builtin.zeroCells (Value.agg #[.int .u32 0, .int .u32 0, .int .u32 0, .int .u32 0, .int .u32 0]).cells n).toList 0 w (by simpa [Builtin.zeroCells, Value.cells] using hc) (by simpa [Builtin.zeroCells, Value.cells] using hf) (by
    intro v hv'
    simp only [Builtin.zeroCells, Array.toList_map, List.mem_map] at hv'
    obtain ⟨i, hi, rfl⟩ := hv'
    simp only [Value.cells]
    have : i % 5 < 5 := Nat.mod_lt _ (by omega)
    show (#[Value.int .u32 0, .int .u32 0, .int .u32 0, .int .u32 0, .int .u32 0][i % 5]!).oneCell' = true
    generalize i % 5 = q at this
    match q, this with
    | 0, _ => rfl
    | 1, _ => rfl
    | 2, _ => rfl
    | 3, _ => rfl
    | 4, _ => rfl)
  simp only [Nat.add_zero] at hst
  obtain ⟨m, rfl⟩ : ∃ m, n = m + 1 := ⟨n - 1, by omega⟩
  have ht : Try.prog.underlying 22 = some (.slice 27) := Try.underlying22
  simp [Builtin.clear_, run_underlying ht, hv, hst]
end Go.Proofs.Ytecbfpdkbackmaa.Share
