/- No two bytes lie at one place, and there the same byte is found again: the call returns true whatever the input. No condition. -/
import Derived.Test.YtaipmnelcpilaaaStripeRef
import Derived.Test.YtaipmnelcpilaaaP06x10
import Derived.Test.YtaipmnelcpilaaaOpens
namespace Go.Proofs.Ytaipmnelcpilaaa.stripeApart
open Go.RowKit Go.Sees Go.Proofs.Ytaipmnelcpilaaa.Stripe Go.Proofs.Ytaipmnelcpilaaa.P06 Go.Proofs.Ytaipmnelcpilaaa.Opens Go.Proofs.YtaipmnelcpilaaaW.PrintWords Go.Proofs.YtaipmnelcpilaaaW.PrintLast Go.Proofs.YtaipmnelcpilaaaW.PrintMore
set_option linter.unusedVariables false
set_option linter.unusedSimpArgs false

theorem where_f (s u t x : Int) : stripe_Where.f s u t x = if RightM s u t ∧ 0 ≤ x ∧ x < 1024 then some (srvOf s u t x, atOf s u x, 0) else some (0, 0, 1) := rfl

theorem pure_true (s u t x y : Int) (hs : -9223372036854775808 ≤ s ∧ s ≤ 9223372036854775807) (hu : -9223372036854775808 ≤ u ∧ u ≤ 9223372036854775807) (ht : -9223372036854775808 ≤ t ∧ t ≤ 9223372036854775807) (hx : -9223372036854775808 ≤ x ∧ x ≤ 9223372036854775807) (hy : -9223372036854775808 ≤ y ∧ y ≤ 9223372036854775807) : lamellalaw06_StripeApart.f 5010 s u t x y = some true := by
  unfold lamellalaw06_StripeApart.f
  rw [alive_true 5010 (by omega), where_f, where_f]
  simp only [Option.bind_some, if_true]
  by_cases c1 : RightM s u t ∧ 0 ≤ x ∧ x < 1024
  · rw [if_pos c1]
    by_cases c2 : RightM s u t ∧ 0 ≤ y ∧ y < 1024
    · rw [if_pos c2]
      have b1 := srv_bd s u t x c1.1
      have ab := at_bd s u t x c1.1 c1.2.1
      have eb := back_where s u t x c1.1 c1.2.1
      have inj := where_inj s u t x y c1.1.1 c1.1.2.2.1 c1.2.1 c2.2.1
      have hb : stripe_Back.f s u t (srvOf s u t x) (atOf s u x) = some (x, 0) := by
        unfold stripe_Back.f
        rw [eb, if_pos ⟨⟨c1.1, b1.1, b1.2, ab.1, by omega⟩, c1.2.2⟩]
      simp only [Option.bind_some, if_true, lamellalaw06_StripeApart.j0]
      rw [if_neg (by simp), hb, alive_true _ (by omega)]
      simp only [Option.bind_some, if_true]
      by_cases e : x = y
      · subst e; simp
      · by_cases es : srvOf s u t x = srvOf s u t y
        · have ea : ¬ atOf s u x = atOf s u y := fun ea => e (inj es ea)
          rw [if_pos es]
          have t1 : ((x == y) == (atOf s u x == atOf s u y)) = true := by rw [beq_eq_false_iff_ne.2 e, beq_eq_false_iff_ne.2 ea]; rfl
          simp [t1]
        · rw [if_neg es, if_pos (by simp [e])]
          simp
    · rw [if_neg c2]
      simp only [Option.bind_some, if_true, lamellalaw06_StripeApart.j0]
      rw [if_pos (by simp), alive_true _ (by omega)]; rfl
  · rw [if_neg c1]
    by_cases c2 : RightM s u t ∧ 0 ≤ y ∧ y < 1024
    · rw [if_pos c2]
      simp only [Option.bind_some, lamellalaw06_StripeApart.j0]
      rw [if_neg (by decide), if_pos trivial, alive_true _ (by omega)]; rfl
    · rw [if_neg c2]
      simp only [Option.bind_some, lamellalaw06_StripeApart.j0]
      rw [if_neg (by decide), if_pos trivial, alive_true _ (by omega)]; rfl

theorem stripeApart_walk (a0 : Array Value) (a1 : Int) (a2 : Int) (w : World) (w0 : Sees Try.prog w 140737488351232 5 23 a0.toList) (w1 : (Lit.int .i64 a1).wf = true) (w2 : (Lit.int .i64 a2).wf = true) :
    Calls Try.prog 10 #[.agg a0, .int .i64 a1, .int .i64 a2] w fun e w' => e = .returned (.bool true) ∧ Below w.heap.size w w' := by
  obtain ⟨s, u, t, rfl, h1, h2, h3⟩ := openA23 (k := 3) w0
  exact lamellalaw06_StripeApart.calls 5010 s u t a1 a2 true w (pure_true s u t a1 a2 (bounds_i64 h1) (bounds_i64 h2) (bounds_i64 h3) (bounds_i64 w1) (bounds_i64 w2))
end Go.Proofs.Ytaipmnelcpilaaa.stripeApart
