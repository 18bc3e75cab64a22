/- Three functions of layer stripe, as the printed texts call them. -/
import Derived.Test.YtaipmnelcpilaaaStripe
namespace Go.Proofs.Ytaipmnelcpilaaa.P06
open Go.RowKit Go.Proofs.Ytaipmnelcpilaaa.Stripe

instance (s u t : Int) : Decidable (RightM s u t) := by unfold RightM; infer_instance
instance (s u t a b : Int) : Decidable (MayAt s u t a b) := by unfold MayAt; infer_instance
instance (s u t a b : Int) : Decidable (MayLen s u t a b) := by unfold MayLen; infer_instance

def stripe_Where.f (a0_0 a0_1 a0_2 a1 : Int) : Option (Int × Int × Int) :=
  if RightM a0_0 a0_1 a0_2 ∧ 0 ≤ a1 ∧ a1 < 1024 then some (srvOf a0_0 a0_1 a0_2 a1, atOf a0_0 a0_1 a1, 0) else some (0, 0, 1)
theorem stripe_Where.calls (a0_0 a0_1 a0_2 a1 r1 r2 r3 : Int) (w : World) (h : stripe_Where.f a0_0 a0_1 a0_2 a1 = some (r1, r2, r3)) :
    Calls Try.prog 19 #[.agg #[.int .i64 a0_0, .int .i64 a0_1, .int .i64 a0_2], .int .i64 a1] w fun e w' => e = .returned (.tuple #[.int .i64 r1, .int .i64 r2, .int .i64 r3]) ∧ Below w.heap.size w w' := by
  unfold stripe_Where.f at h
  split at h <;> rename_i g <;> (simp only [Option.some.injEq, Prod.mk.injEq] at h; obtain ⟨rfl, rfl, rfl⟩ := h)
  · exact where_yes _ _ _ _ w g.1 g.2.1 g.2.2
  · exact where_no _ _ _ _ w g

def stripe_Back.f (a0_0 a0_1 a0_2 a1 a2 : Int) : Option (Int × Int) :=
  if MayAt a0_0 a0_1 a0_2 a1 a2 ∧ backOf a0_0 a0_1 a0_2 a1 a2 < 1024 then some (backOf a0_0 a0_1 a0_2 a1 a2, 0) else some (0, 1)
theorem stripe_Back.calls (a0_0 a0_1 a0_2 a1 a2 r1 r2 : Int) (w : World) (h : stripe_Back.f a0_0 a0_1 a0_2 a1 a2 = some (r1, r2)) :
    Calls Try.prog 21 #[.agg #[.int .i64 a0_0, .int .i64 a0_1, .int .i64 a0_2], .int .i64 a1, .int .i64 a2] w fun e w' => e = .returned (.tuple #[.int .i64 r1, .int .i64 r2]) ∧ Below w.heap.size w w' := by
  unfold stripe_Back.f at h
  split at h <;> rename_i g <;> (simp only [Option.some.injEq, Prod.mk.injEq] at h; obtain ⟨rfl, rfl⟩ := h)
  · exact back_in _ _ _ _ _ w g.1 g.2
  · by_cases hm : MayAt a0_0 a0_1 a0_2 a1 a2
    · exact back_over _ _ _ _ _ w hm (by
        rcases Int.lt_or_le (backOf a0_0 a0_1 a0_2 a1 a2) 1024 with k | k
        · exact absurd ⟨hm, k⟩ g
        · exact k)
    · exact back_no _ _ _ _ _ w hm

def stripe_Length.f (a0_0 a0_1 a0_2 a1 a2 : Int) : Option (Int × Int) :=
  if MayLen a0_0 a0_1 a0_2 a1 a2 then some (lenOf a0_0 a0_1 a0_2 a1 a2, 0) else some (0, 1)
theorem stripe_Length.calls (a0_0 a0_1 a0_2 a1 a2 r1 r2 : Int) (w : World) (h : stripe_Length.f a0_0 a0_1 a0_2 a1 a2 = some (r1, r2)) :
    Calls Try.prog 17 #[.agg #[.int .i64 a0_0, .int .i64 a0_1, .int .i64 a0_2], .int .i64 a1, .int .i64 a2] w fun e w' => e = .returned (.tuple #[.int .i64 r1, .int .i64 r2]) ∧ Below w.heap.size w w' := by
  unfold stripe_Length.f at h
  split at h <;> rename_i g <;> (simp only [Option.some.injEq, Prod.mk.injEq] at h; obtain ⟨rfl, rfl⟩ := h)
  · exact length_yes _ _ _ _ _ w g
  · exact length_no _ _ _ _ _ w g
end Go.Proofs.Ytaipmnelcpilaaa.P06
