/- Every request is judged as the document says, and the seat behind it is the document's: the call returns true whatever the input. No condition. -/
import Derived.Test.YtfacdadbebjebaaPLaneJudgesx
import Derived.Test.YtfacdadbebjebaaOpens
namespace Go.Proofs.Ytfacdadbebjebaa.laneJudges
set_option linter.unusedVariables false
set_option linter.unusedSimpArgs false
open Go.RowKit Go.Sees Go.Proofs.Ytfacdadbebjebaa.PLaneJudges Go.Proofs.Ytfacdadbebjebaa.Opens Go.Proofs.YtfacdadbebjebaaW.PrintWords

theorem alive_true : lamellalaw08_alive.f 3 = some true := by
  simp [lamellalaw08_alive.f, lane_Ask.f, lane_Tick.f, lane_Hear.f, lane_Hear.j0, lane_Judge.f, lane_Judge.j0, lane_Judge.j1, lane_Done.f, mn, mx]

theorem judge_same (l q : Int) (s : ByteArray) (x y : Int) (hl : 0 ≤ l ∧ l ≤ 4294967295) (hq : 0 ≤ q ∧ q ≤ 4294967295) (hx : 0 ≤ x ∧ x ≤ 4294967295) (hy : 0 ≤ y ∧ y ≤ 4294967295) :
    ∃ r, lane_Judge.f 3 l q s x y = some r ∧ lamellaref08_Judge.f 3 l q s x y = some r := by
  have e1 := IntWalk.u64_in q (by omega)
  have e2 := IntWalk.u64_in y (by omega)
  have e3 := IntWalk.u64_in (q + 1) (by omega)
  unfold lane_Judge.f lamellaref08_Judge.f
  simp only [lane_Judge.j0, lane_Judge.j1, lamellaref08_Judge.j0, beq_iff_eq, decide_eq_true_eq, if_true, Bool.false_eq_true, if_false, e1, e2, e3]
  repeat' split
  all_goals first | exact ⟨_, rfl, rfl⟩ | omega

theorem pure_true (l q : Int) (s : ByteArray) (x y : Int) (t : ByteArray) (hl : 0 ≤ l ∧ l ≤ 4294967295) (hq : 0 ≤ q ∧ q ≤ 4294967295) (hx : 0 ≤ x ∧ x ≤ 4294967295) (hy : 0 ≤ y ∧ y ≤ 4294967295) :
    lamellalaw08_LaneJudges.f 3 l q s x y t = some true := by
  obtain ⟨r, e1, e2⟩ := judge_same l q s x y hl hq hx hy
  unfold lamellalaw08_LaneJudges.f lane_Done.f lamellaref08_Done.f
  rw [alive_true, e1, e2]
  simp only [Option.bind_some, if_true]
  split <;> simp

theorem laneJudges_walk (a0 : Array Value) (a1 : Int) (a2 : Int) (a3 : ByteArray) (w : World) (w0 : Sees Try.prog w 140737488351232 5 24 a0.toList) (w1 : (Lit.int .u32 a1).wf = true) (w2 : (Lit.int .u32 a2).wf = true) (_w3 : a3.size ≤ 140737488351232) :
    Calls Try.prog 3 #[.agg a0, .int .u32 a1, .int .u32 a2, .string a3] w fun e w' => e = .returned (.bool true) ∧ Below w.heap.size w w' := by
  obtain ⟨l, q, s, rfl, h1, h2, -⟩ := openA24 (k := 3) w0
  exact lamellalaw08_LaneJudges.calls 3 l q s a1 a2 a3 true w (pure_true l q s a1 a2 a3 (bounds_u32 h1) (bounds_u32 h2) (bounds_u32 w1) (bounds_u32 w2))
end Go.Proofs.Ytfacdadbebjebaa.laneJudges
