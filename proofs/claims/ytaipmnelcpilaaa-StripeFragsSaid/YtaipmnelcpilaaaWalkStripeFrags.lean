/- Every request's fragments, or their refusal, are the document's: the call returns true whatever the input. No condition. -/
import Derived.Test.YtaipmnelcpilaaaStripeRef
import Derived.Test.YtaipmnelcpilaaaP06x3
import Derived.Test.YtaipmnelcpilaaaOpens
namespace Go.Proofs.Ytaipmnelcpilaaa.stripeFrags
open Go.RowKit Go.Sees Go.Proofs.Ytaipmnelcpilaaa.Stripe Go.Proofs.Ytaipmnelcpilaaa.P06 Go.Proofs.Ytaipmnelcpilaaa.Opens Go.Proofs.YtaipmnelcpilaaaW.PrintWords Go.Proofs.YtaipmnelcpilaaaW.PrintLast Go.Proofs.YtaipmnelcpilaaaW.PrintMore
set_option linter.unusedVariables false
set_option linter.unusedSimpArgs false

theorem pure_true (s u t off len : Int) (hs : -9223372036854775808 ≤ s ∧ s ≤ 9223372036854775807) (hu : -9223372036854775808 ≤ u ∧ u ≤ 9223372036854775807) (ht : -9223372036854775808 ≤ t ∧ t ≤ 9223372036854775807) (hv : -9223372036854775808 ≤ off ∧ off ≤ 9223372036854775807) (hz : -9223372036854775808 ≤ len ∧ len ≤ 9223372036854775807) : lamellalaw06_StripeFrags.f 5010 s u t off len = some true := by
  unfold lamellalaw06_StripeFrags.f
  rw [alive_true 5010 (by omega), refRight_f, refOk_f]
  simp only [Option.bind_some, if_true]
  by_cases c : MayReq s u t off len
  · obtain ⟨l, e, g⟩ := frags_yes s u t off len c 5010 (by omega)
    obtain ⟨l', e', g'⟩ := refFrags_f s u t off len c 5009 (by omega)
    have el := g.eq c.1.2.2.1 g'
    subst el
    have gl := good_len c.1.2.2.1 g
    obtain ⟨hr, k1, k2, k3, k4⟩ := c
    rw [e]
    simp only [Option.bind_some]
    rw [decide_eq_true hr, if_pos rfl, decide_eq_true ⟨k1, k2, k3, k4⟩]
    simp only [lamellalaw06_StripeFrags.j0, Bool.not_true, Bool.false_eq_true, if_false]
    rw [alive_true _ (by omega), e']
    simp only [Option.bind_some, if_true]
    rw [same_f l (by omega) _ (by omega)]; rfl
  · rw [frags_no s u t off len c hv 5010 (by omega)]
    simp only [Option.bind_some]
    have fin : lamellalaw06_StripeFrags.j0 5010 off len [] 1 true s u t = some true := by
      simp only [lamellalaw06_StripeFrags.j0, if_true]
      rw [alive_true _ (by omega)]; rfl
    by_cases hr : RightM s u t
    · rw [decide_eq_true hr, if_pos rfl, decide_eq_false (fun h => c ⟨hr, h⟩)]; exact fin
    · rw [decide_eq_false hr, if_neg (by simp)]; exact fin

theorem stripeFrags_walk (a0 : Array Value) (a1 : Int) (a2 : Int) (w : World) (w0 : Sees Try.prog w 140737488351232 5 23 a0.toList) (w1 : (Lit.int .i64 a1).wf = true) (w2 : (Lit.int .i64 a2).wf = true) :
    Calls Try.prog 3 #[.agg a0, .int .i64 a1, .int .i64 a2] w fun e w' => e = .returned (.bool true) ∧ Below w.heap.size w w' := by
  obtain ⟨s, u, t, rfl, h1, h2, h3⟩ := openA23 (k := 3) w0
  exact lamellalaw06_StripeFrags.calls 5010 s u t a1 a2 true w (pure_true s u t a1 a2 (bounds_i64 h1) (bounds_i64 h2) (bounds_i64 h3) (bounds_i64 w1) (bounds_i64 w2))
end Go.Proofs.Ytaipmnelcpilaaa.stripeFrags
