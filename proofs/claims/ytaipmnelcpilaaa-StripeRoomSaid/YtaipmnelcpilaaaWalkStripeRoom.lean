/- The objects' lengths together are at least the file's, all bytes lie below them, and the greater file has the longer objects: the call returns true whatever the input. No condition. -/
import Derived.Test.YtaipmnelcpilaaaStripeRef
import Derived.Test.YtaipmnelcpilaaaP06x6
import Derived.Test.YtaipmnelcpilaaaOpens
namespace Go.Proofs.Ytaipmnelcpilaaa.stripeRoom
open Go.RowKit Go.Sees Go.Proofs.Ytaipmnelcpilaaa.Stripe Go.Proofs.Ytaipmnelcpilaaa.P06 Go.Proofs.Ytaipmnelcpilaaa.Opens Go.Proofs.YtaipmnelcpilaaaW.PrintWords Go.Proofs.YtaipmnelcpilaaaW.PrintLast Go.Proofs.YtaipmnelcpilaaaW.PrintMore
set_option linter.unusedVariables false
set_option linter.unusedSimpArgs false

theorem where_f (s u t x : Int) : stripe_Where.f s u t x = if RightM s u t ∧ 0 ≤ x ∧ x < 1024 then some (srvOf s u t x, atOf s u x, 0) else some (0, 0, 1) := rfl

theorem loop_true (s u t size x : Int) (hr : RightM s u t) (h0 : 0 ≤ size) (h1 : size ≤ 1024) (hx : -9223372036854775808 ≤ x ∧ x ≤ 9223372036854775807) :
    ∀ (d k : Nat) (j : Nat), (j : Int) ≤ s → (s - j).toNat ≤ d → 2 * d + 2000 ≤ k → lamellalaw06_StripeRoom.l0 k size x (lens s u t size j) ((j : Int) + 1) s u t = some true := by
  have bd : ∀ j : Nat, (j : Int) ≤ s → 0 ≤ lens s u t size j ∧ lens s u t size j ≤ 1024 * j := by
    intro j
    induction j with
    | zero => intro _; simp [lens]
    | succ j ih =>
      intro hj
      have := ih (by omega)
      have := len_bd s u t (j + 1) size hr (by omega) (by omega) h0
      simp only [lens]; push_cast; omega
  have q := hr
  unfold RightM at q
  intro d
  induction d with
  | zero =>
    intro k j hj hd hk
    obtain ⟨k, rfl⟩ : ∃ m, k = m + 2 := ⟨k - 2, by omega⟩
    obtain rfl : s = j := by omega
    have b := bd j hj
    have al := lens_all (j : Int) u t hr size.toNat
    rw [show ((size.toNat : Nat) : Int) = size by omega, Int.toNat_natCast] at al
    simp only [lamellalaw06_StripeRoom.l0]
    rw [if_neg (by omega)]
    by_cases c : x < 0
    · rw [if_pos c]
      simp only [lamellalaw06_StripeRoom.j3, if_true]
      rw [alive_true _ (by omega)]
      simp; omega
    · rw [if_neg c]
      by_cases c2 : x ≥ size
      · rw [decide_eq_true c2]
        simp only [lamellalaw06_StripeRoom.j3, if_true]
        rw [alive_true _ (by omega)]
        simp; omega
      · rw [decide_eq_false c2]
        simp only [lamellalaw06_StripeRoom.j3, Bool.false_eq_true, if_false]
        have sb := srv_bd (j : Int) u t x hr
        have o := len_over (j : Int) u t _ size x hr sb.1 sb.2 (by omega) (by omega) rfl
        rw [where_f, if_pos ⟨hr, by omega, by omega⟩]
        simp only [Option.bind_some]
        unfold stripe_Length.f
        rw [if_pos ⟨hr, sb.1, sb.2, h0, h1⟩, alive_true _ (by omega)]
        have o2 : atOf (j:Int) u x + 1 ≤ lenOf (j:Int) u t (srvOf (j:Int) u t x) size := o
        simp only [Option.bind_some, if_true]
        rw [if_pos (by omega), decide_eq_true (by omega)]
  | succ d ih =>
    intro k j hj hd hk
    by_cases hlt : (j : Int) < s
    · obtain ⟨k, rfl⟩ : ∃ m, k = m + 2 := ⟨k - 2, by omega⟩
      have b := bd j hj
      have lb := len_bd s u t (j + 1) size hr (by omega) (by omega) h0
      have nx : lamellalaw06_StripeRoom.l0 k size x (wrap64 (lens s u t size j + lenOf s u t ((j : Int) + 1) size)) (wrap64 ((j : Int) + 1 + 1)) s u t = some true := by
        rw [w64 _ (by omega), w64 _ (by omega)]
        have := ih k (j + 1) (by push_cast; omega) (by push_cast; omega) (by omega)
        simp only [lens] at this
        push_cast at this
        exact this
      simp only [lamellalaw06_StripeRoom.l0]
      rw [if_pos (by omega)]
      unfold stripe_Length.f
      rw [if_pos ⟨hr, by omega, by omega, h0, h1⟩]
      simp only [Option.bind_some, if_true]
      rw [decide_eq_false (by omega)]
      simp only [lamellalaw06_StripeRoom.j2, Bool.false_eq_true, if_false]
      by_cases c : size > 0
      · have lm := len_mono s u t (j + 1) (size - 1) size hr (by omega) (by omega) (by omega) (by omega)
        rw [if_pos c, w64 (size - 1) (by omega)]
        unfold stripe_Length.f
        rw [if_pos ⟨hr, by omega, by omega, by omega, by omega⟩]
        simp only [Option.bind_some, if_true]
        rw [if_neg (by omega)]
        exact nx
      · rw [if_neg c]; exact nx
    · exact ih k j hj (by omega) (by omega)

theorem pure_true (s u t size x : Int) (hs : -9223372036854775808 ≤ s ∧ s ≤ 9223372036854775807) (hu : -9223372036854775808 ≤ u ∧ u ≤ 9223372036854775807) (ht : -9223372036854775808 ≤ t ∧ t ≤ 9223372036854775807) (hv : -9223372036854775808 ≤ size ∧ size ≤ 9223372036854775807) (hz : -9223372036854775808 ≤ x ∧ x ≤ 9223372036854775807) : lamellalaw06_StripeRoom.f 5010 s u t size x = some true := by
  unfold lamellalaw06_StripeRoom.f
  rw [alive_true 5010 (by omega), right_f]
  simp only [Option.bind_some, if_true]
  have fin : lamellalaw06_StripeRoom.j0 5010 size x true s u t = some true := by
    simp only [lamellalaw06_StripeRoom.j0, if_true]
    rw [alive_true _ (by omega)]; rfl
  by_cases hr : RightM s u t
  · rw [decide_eq_true hr, if_pos rfl]
    split
    · exact fin
    · by_cases c : size > 1024
      · rw [decide_eq_true c]; exact fin
      · rw [decide_eq_false c]
        simp only [lamellalaw06_StripeRoom.j0, Bool.false_eq_true, if_false]
        exact loop_true s u t size x hr (by omega) (by omega) hz 16 5009 0 (by have := hr.1; omega) (by have := hr.2.1; omega) (by omega)
  · rw [decide_eq_false hr, if_neg (by simp)]; exact fin

theorem stripeRoom_walk (a0 : Array Value) (a1 : Int) (a2 : Int) (w : World) (w0 : Sees Try.prog w 140737488351232 5 23 a0.toList) (w1 : (Lit.int .i64 a1).wf = true) (w2 : (Lit.int .i64 a2).wf = true) :
    Calls Try.prog 6 #[.agg a0, .int .i64 a1, .int .i64 a2] w fun e w' => e = .returned (.bool true) ∧ Below w.heap.size w w' := by
  obtain ⟨s, u, t, rfl, h1, h2, h3⟩ := openA23 (k := 3) w0
  exact lamellalaw06_StripeRoom.calls 5010 s u t a1 a2 true w (pure_true s u t a1 a2 (bounds_i64 h1) (bounds_i64 h2) (bounds_i64 h3) (bounds_i64 w1) (bounds_i64 w2))
end Go.Proofs.Ytaipmnelcpilaaa.stripeRoom
