/- What every line makes of every answer is the document's: the call returns true whatever the input. No condition. -/
import Derived.Test.YtfacdadbebjebaaPLaneHearsx
import Derived.Test.YtfacdadbebjebaaOpens
namespace Go.Proofs.Ytfacdadbebjebaa.laneHears
set_option linter.unusedVariables false
set_option linter.unusedSimpArgs false
open Go.RowKit Go.Sees Go.Proofs.Ytfacdadbebjebaa.PLaneHears Go.Proofs.Ytfacdadbebjebaa.Opens Go.Proofs.YtfacdadbebjebaaW.PrintWords

theorem alive_true : lamellalaw08_alive.f 3 = some true := by
  simp [lamellalaw08_alive.f, lane_Ask.f, lane_Tick.f, lane_Hear.f, lane_Hear.j0, lane_Judge.f, lane_Judge.j0, lane_Judge.j1, lane_Done.f, mn, mx]

theorem hear_same (l b q : Int) (o : Bool) (s : ByteArray) (x y p r u v : Int) :
    ∃ z, lane_Hear.f 3 l b q o s x y p r u v = some z ∧ lamellaref08_Hear.f 3 l b q o s x y p r u v = some z := by
  unfold lane_Hear.f lamellaref08_Hear.f
  simp only [lane_Hear.j0, lamellaref08_Hear.j0]
  repeat' split
  all_goals exact ⟨_, rfl, rfl⟩

theorem pure_true (l b q : Int) (o : Bool) (s : ByteArray) (x y p r u v : Int) : lamellalaw08_LaneHears.f 3 l b q o s x y p r u v = some true := by
  obtain ⟨z, e1, e2⟩ := hear_same l b q o s x y p r u v
  unfold lamellalaw08_LaneHears.f
  rw [alive_true, e1, e2]
  simp

theorem laneHears_walk (a0 : Array Value) (a1 : Int) (a2 : Int) (a3 : Int) (a4 : Int) (w : World) (w0 : Sees Try.prog w 140737488351232 5 30 a0.toList) (w1 : (Lit.int .u32 a1).wf = true) (w2 : (Lit.int .u32 a2).wf = true) (w3 : (Lit.int .u32 a3).wf = true) (w4 : (Lit.int .u32 a4).wf = true) :
    Calls Try.prog 4 #[.agg a0, .int .u32 a1, .int .u32 a2, .int .u32 a3, .int .u32 a4] w fun e w' => e = .returned (.bool true) ∧ Below w.heap.size w w' := by
  obtain ⟨l, b, q, o, s, x, y, rfl, -⟩ := openA30 (k := 3) w0
  exact lamellalaw08_LaneHears.calls 3 l b q o s x y a1 a2 a3 a4 true w (pure_true l b q o s x y a1 a2 a3 a4)
end Go.Proofs.Ytfacdadbebjebaa.laneHears
