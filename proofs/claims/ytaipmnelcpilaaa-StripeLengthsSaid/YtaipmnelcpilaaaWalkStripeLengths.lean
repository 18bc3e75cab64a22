/- How long every server's object is for every size is the document's: the call returns true whatever the input. No condition. -/
import Derived.Test.YtaipmnelcpilaaaStripeRef
import Derived.Test.YtaipmnelcpilaaaP06x4
import Derived.Test.YtaipmnelcpilaaaOpens
namespace Go.Proofs.Ytaipmnelcpilaaa.stripeLengths
open Go.RowKit Go.Sees Go.Proofs.Ytaipmnelcpilaaa.Stripe Go.Proofs.Ytaipmnelcpilaaa.P06 Go.Proofs.Ytaipmnelcpilaaa.Opens Go.Proofs.YtaipmnelcpilaaaW.PrintWords Go.Proofs.YtaipmnelcpilaaaW.PrintLast Go.Proofs.YtaipmnelcpilaaaW.PrintMore
set_option linter.unusedVariables false
set_option linter.unusedSimpArgs false

theorem pure_true (s u t server size : Int) (hs : -9223372036854775808 ≤ s ∧ s ≤ 9223372036854775807) (hu : -9223372036854775808 ≤ u ∧ u ≤ 9223372036854775807) (ht : -9223372036854775808 ≤ t ∧ t ≤ 9223372036854775807) (hv : -9223372036854775808 ≤ server ∧ server ≤ 9223372036854775807) (hz : -9223372036854775808 ≤ size ∧ size ≤ 9223372036854775807) : lamellalaw06_StripeLengths.f 5010 s u t server size = some true := by
  unfold lamellalaw06_StripeLengths.f
  rw [alive_true 5010 (by omega), refRight_f]
  unfold stripe_Length.f
  simp only [Option.bind_some, if_true]
  by_cases c : MayLen s u t server size
  · rw [if_pos c]
    obtain ⟨hr, k1, k2, k3, k4⟩ := c
    simp only [Option.bind_some]
    rw [decide_eq_true hr, if_pos rfl, if_neg (by omega), if_neg (by omega), if_neg (by omega), decide_eq_false (by omega)]
    simp only [lamellalaw06_StripeLengths.j0, Bool.false_eq_true, if_false]
    rw [alive_true _ (by omega), refLength_f s u t server size hr k1 k2 k3 k4 _ (by omega)]
    simp
  · rw [if_neg c]
    simp only [Option.bind_some]
    have fin : lamellalaw06_StripeLengths.j0 5010 server size 0 1 true s u t = some true := by
      simp only [lamellalaw06_StripeLengths.j0, if_true]
      rw [alive_true _ (by omega)]; rfl
    by_cases hr : RightM s u t
    · rw [decide_eq_true hr, if_pos rfl]
      split
      · exact fin
      · split
        · exact fin
        · split
          · exact fin
          · have : size > 1024 := by
              rcases Int.lt_or_le 1024 size with g | g
              · exact g
              · exact absurd ⟨hr, by omega, by omega, by omega, g⟩ c
            rw [decide_eq_true this]; exact fin
    · rw [decide_eq_false hr]; exact fin

theorem stripeLengths_walk (a0 : Array Value) (a1 : Int) (a2 : Int) (w : World) (w0 : Sees Try.prog w 140737488351232 5 23 a0.toList) (w1 : (Lit.int .i64 a1).wf = true) (w2 : (Lit.int .i64 a2).wf = true) :
    Calls Try.prog 4 #[.agg a0, .int .i64 a1, .int .i64 a2] w fun e w' => e = .returned (.bool true) ∧ Below w.heap.size w w' := by
  obtain ⟨s, u, t, rfl, h1, h2, h3⟩ := openA23 (k := 3) w0
  exact lamellalaw06_StripeLengths.calls 5010 s u t a1 a2 true w (pure_true s u t a1 a2 (bounds_i64 h1) (bounds_i64 h2) (bounds_i64 h3) (bounds_i64 w1) (bounds_i64 w2))
end Go.Proofs.Ytaipmnelcpilaaa.stripeLengths
