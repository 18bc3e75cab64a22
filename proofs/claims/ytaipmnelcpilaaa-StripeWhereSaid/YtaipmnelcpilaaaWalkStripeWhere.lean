/- Where a byte lies and which byte lies there are the document's: the call returns true whatever the input. No condition. -/
import Derived.Test.YtaipmnelcpilaaaStripeRef
import Derived.Test.YtaipmnelcpilaaaP06x9
import Derived.Test.YtaipmnelcpilaaaOpens
namespace Go.Proofs.Ytaipmnelcpilaaa.stripeWhere
open Go.RowKit Go.Sees Go.Proofs.Ytaipmnelcpilaaa.Stripe Go.Proofs.Ytaipmnelcpilaaa.P06 Go.Proofs.Ytaipmnelcpilaaa.Opens Go.Proofs.YtaipmnelcpilaaaW.PrintWords Go.Proofs.YtaipmnelcpilaaaW.PrintLast Go.Proofs.YtaipmnelcpilaaaW.PrintMore
set_option linter.unusedVariables false
set_option linter.unusedSimpArgs false

theorem where_f (s u t x : Int) : stripe_Where.f s u t x = if RightM s u t ∧ 0 ≤ x ∧ x < 1024 then some (srvOf s u t x, atOf s u x, 0) else some (0, 0, 1) := rfl
theorem back_f (s u t a b : Int) : stripe_Back.f s u t a b = if MayAt s u t a b ∧ backOf s u t a b < 1024 then some (backOf s u t a b, 0) else some (0, 1) := rfl

theorem back_ok (s u t x a b : Int) (f0 f1 : Int) (hf : stripe_Back.f s u t a b = some (f0, f1)) : lamellalaw06_StripeWhere.j2 5000 a b f0 f1 (decide (RightM s u t)) s u t = some true := by
  simp only [lamellalaw06_StripeWhere.j2]
  rw [back_f] at hf
  by_cases hr : RightM s u t
  · rw [decide_eq_true hr, if_pos rfl, refBack_f s u t a b hr 4999 (by omega)]
    simp only [Option.bind_some]
    by_cases c : MayAt s u t a b ∧ backOf s u t a b < 1024
    · rw [if_pos c] at hf ⊢
      have w := where_back s u t a b hr.1 hr.2.2.1 c.1.2.1 c.1.2.2.1 c.1.2.2.2.1
      obtain ⟨rfl, rfl⟩ : backOf s u t a b = f0 ∧ (0 : Int) = f1 := by simpa using hf
      rw [if_neg (by omega), if_pos rfl]; rfl
    · rw [if_neg c] at hf ⊢
      obtain ⟨rfl, rfl⟩ : (0 : Int) = f0 ∧ (1 : Int) = f1 := by simpa using hf
      rw [if_pos (by decide), if_pos rfl]; rfl
  · rw [decide_eq_false hr, if_neg (by decide)]
    rw [if_neg (fun h => hr h.1.1)] at hf
    obtain ⟨rfl, rfl⟩ : (0 : Int) = f0 ∧ (1 : Int) = f1 := by simpa using hf
    rw [if_pos (by decide), if_pos rfl]; rfl

theorem pure_true (s u t x a b : Int) : lamellalaw06_StripeWhere.f 5002 s u t x a b = some true := by
  unfold lamellalaw06_StripeWhere.f
  rw [alive_true 5002 (by omega), where_f, refRight_f, right_f]
  simp only [Option.bind_some, if_true]
  obtain ⟨⟨f0, f1⟩, hf⟩ : ∃ p, stripe_Back.f s u t a b = some p := by
    rw [back_f]; split <;> exact ⟨_, rfl⟩
  have bk := back_ok s u t x a b f0 f1 hf
  rw [hf]
  simp only [Option.bind_some, bne_self_eq_false]
  by_cases hr : RightM s u t
  · rw [decide_eq_true hr] at *
    by_cases c : 0 ≤ x ∧ x < 1024
    · rw [if_pos ⟨hr, c⟩]
      simp only [Option.bind_some, lamellalaw06_StripeWhere.j0, Bool.false_eq_true, if_false, if_true]
      rw [if_neg (by omega), decide_eq_false (by omega)]
      simp only [lamellalaw06_StripeWhere.j1, Bool.false_eq_true, if_false]
      rw [refWhere_f s u t x hr c.1 (by omega)]
      simp only [Option.bind_some, if_true]
      exact bk
    · rw [if_neg (fun h => c h.2)]
      have fin : lamellalaw06_StripeWhere.j1 5001 x a b 0 0 1 f0 f1 true true s u t = some true := by
        simp only [lamellalaw06_StripeWhere.j1, if_true]; exact bk
      simp only [Option.bind_some, lamellalaw06_StripeWhere.j0, Bool.false_eq_true, if_false, if_true]
      by_cases c0 : x < 0
      · rw [if_pos c0]; exact fin
      · rw [if_neg c0, decide_eq_true (by omega)]; exact fin
  · rw [if_neg (fun h => hr h.1), decide_eq_false hr] at *
    simp only [Option.bind_some, lamellalaw06_StripeWhere.j0, Bool.false_eq_true, if_false, if_true, lamellalaw06_StripeWhere.j1]
    exact bk

theorem stripeWhere_walk (a0 : Array Value) (a1 : Int) (a2 : Int) (a3 : Int) (w : World) (w0 : Sees Try.prog w 140737488351232 5 23 a0.toList) (w1 : (Lit.int .i64 a1).wf = true) (w2 : (Lit.int .i64 a2).wf = true) (w3 : (Lit.int .i64 a3).wf = true) :
    Calls Try.prog 9 #[.agg a0, .int .i64 a1, .int .i64 a2, .int .i64 a3] w fun e w' => e = .returned (.bool true) ∧ Below w.heap.size w w' := by
  obtain ⟨s, u, t, rfl, h1, h2, h3⟩ := openA23 (k := 3) w0
  exact lamellalaw06_StripeWhere.calls 5002 s u t a1 a2 a3 true w (pure_true s u t a1 a2 a3)
end Go.Proofs.Ytaipmnelcpilaaa.stripeWhere
