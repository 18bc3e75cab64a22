/- Layer wal: the walk of WalPlays. -/
import Derived.Test.YtmdojgkgohmghaaWalZE
namespace Go.Proofs.Ytmdojgkgohmghaa.walPlays
open Go.RowKit Go.Own Go.Sees Go.Proofs.Ytmdojgkgohmghaa.Wal
set_option maxRecDepth 100000
set_option linter.constructorNameAsVariable false
set_option linter.unusedVariables false
theorem walPlays_walk (a0 : Int) (a1 : Option Addr) (len1 cap1 : Nat) (w : World) (w0 : (Lit.int .i64 a0).wf = true) (w1 : Sees Try.prog w 140737488351232 5 53 [.slice a1 len1 cap1]) :
    Calls Try.prog 7 #[.int .i64 a0, .slice a1 len1 cap1] w fun e w' => e = .returned (.bool true) ∧ Below w.heap.size w w' := by
  obtain ⟨l, rfl, _, h1, hA, hO⟩ := sees_wacts w1
  exact plays_law a0 a1 cap1 l w hA hO h1
end Go.Proofs.Ytmdojgkgohmghaa.walPlays
