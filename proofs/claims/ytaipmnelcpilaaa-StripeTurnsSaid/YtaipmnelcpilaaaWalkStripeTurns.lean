/- By another turn each byte lies where it lay, on the server so many further round: the call returns true whatever the input. No condition. -/
import Derived.Test.YtaipmnelcpilaaaStripeRef
import Derived.Test.YtaipmnelcpilaaaP06x7
import Derived.Test.YtaipmnelcpilaaaOpens
namespace Go.Proofs.Ytaipmnelcpilaaa.stripeTurns
open Go.RowKit Go.Sees Go.Proofs.Ytaipmnelcpilaaa.Stripe Go.Proofs.Ytaipmnelcpilaaa.P06 Go.Proofs.Ytaipmnelcpilaaa.Opens Go.Proofs.YtaipmnelcpilaaaW.PrintWords Go.Proofs.YtaipmnelcpilaaaW.PrintLast Go.Proofs.YtaipmnelcpilaaaW.PrintMore
set_option linter.unusedVariables false
set_option linter.unusedSimpArgs false

theorem where_f (s u t x : Int) : stripe_Where.f s u t x = if RightM s u t ∧ 0 ≤ x ∧ x < 1024 then some (srvOf s u t x, atOf s u x, 0) else some (0, 0, 1) := rfl

theorem turns_dvd (s u t n x : Int) (hs : 1 ≤ s) : s ∣ (srvOf s u n x - srvOf s u t x) - (n - t) := by
  have a := divmod (x / u % s + n) s
  have b := divmod (x / u % s + t) s
  refine ⟨(x / u % s + t) / s - (x / u % s + n) / s, ?_⟩
  unfold srvOf
  rw [Int.mul_sub, Int.mul_comm s, Int.mul_comm s]
  omega

theorem pure_true (s u t n x : Int) (hs : -9223372036854775808 ≤ s ∧ s ≤ 9223372036854775807) (hu : -9223372036854775808 ≤ u ∧ u ≤ 9223372036854775807) (ht : -9223372036854775808 ≤ t ∧ t ≤ 9223372036854775807) (hn : -9223372036854775808 ≤ n ∧ n ≤ 9223372036854775807) (hx : -9223372036854775808 ≤ x ∧ x ≤ 9223372036854775807) : lamellalaw06_StripeTurns.f 5010 s u t n x = some true := by
  unfold lamellalaw06_StripeTurns.f
  rw [alive_true 5010 (by omega), where_f, where_f]
  simp only [Option.bind_some, if_true]
  by_cases c1 : RightM s u t ∧ 0 ≤ x ∧ x < 1024
  · rw [if_pos c1]
    by_cases c2 : RightM s u n ∧ 0 ≤ x ∧ x < 1024
    · rw [if_pos c2]
      have b1 := srv_bd s u t x c1.1
      have b2 := srv_bd s u n x c2.1
      have d := turns_dvd s u t n x c1.1.1
      have q1 := c1.1
      have q2 := c2.1
      unfold RightM at q1 q2
      simp only [Option.bind_some, if_true, lamellalaw06_StripeTurns.j0]
      rw [if_neg (by simp), if_neg (by omega), alive_true _ (by omega), w64 (srvOf s u n x - srvOf s u t x) (by omega), w64 (n - t) (by omega), w64 _ (by omega), Int.tmod_eq_zero_of_dvd d]
      simp
    · rw [if_neg c2]
      simp only [Option.bind_some, if_true, lamellalaw06_StripeTurns.j0]
      rw [if_pos (by simp), alive_true _ (by omega)]; rfl
  · rw [if_neg c1]
    by_cases c2 : RightM s u n ∧ 0 ≤ x ∧ x < 1024
    · rw [if_pos c2]
      simp only [Option.bind_some, lamellalaw06_StripeTurns.j0]
      rw [if_neg (by decide), if_pos trivial, alive_true _ (by omega)]; rfl
    · rw [if_neg c2]
      simp only [Option.bind_some, lamellalaw06_StripeTurns.j0]
      rw [if_neg (by decide), if_pos trivial, alive_true _ (by omega)]; rfl

theorem stripeTurns_walk (a0 : Array Value) (a1 : Int) (a2 : Int) (w : World) (w0 : Sees Try.prog w 140737488351232 5 23 a0.toList) (w1 : (Lit.int .i64 a1).wf = true) (w2 : (Lit.int .i64 a2).wf = true) :
    Calls Try.prog 7 #[.agg a0, .int .i64 a1, .int .i64 a2] w fun e w' => e = .returned (.bool true) ∧ Below w.heap.size w w' := by
  obtain ⟨s, u, t, rfl, h1, h2, h3⟩ := openA23 (k := 3) w0
  exact lamellalaw06_StripeTurns.calls 5010 s u t a1 a2 true w (pure_true s u t a1 a2 (bounds_i64 h1) (bounds_i64 h2) (bounds_i64 h3) (bounds_i64 w1) (bounds_i64 w2))
end Go.Proofs.Ytaipmnelcpilaaa.stripeTurns
