/- A request's fragments are whole, in order, and each byte of them lies where it should: the call returns true whatever the input. No condition. -/
import Derived.Test.YtaipmnelcpilaaaStripeRef
import Derived.Test.YtaipmnelcpilaaaP06x5
import Derived.Test.YtaipmnelcpilaaaOpens
namespace Go.Proofs.Ytaipmnelcpilaaa.stripeWhole
open Go.RowKit Go.Sees Go.Proofs.Ytaipmnelcpilaaa.Stripe Go.Proofs.Ytaipmnelcpilaaa.P06 Go.Proofs.Ytaipmnelcpilaaa.Opens Go.Proofs.YtaipmnelcpilaaaW.PrintWords Go.Proofs.YtaipmnelcpilaaaW.PrintLast Go.Proofs.YtaipmnelcpilaaaW.PrintMore
set_option linter.unusedVariables false
set_option linter.unusedSimpArgs false

theorem rd_mid (pre : List S38) (x : S38) (l : List S38) : rd_T38 (pre ++ x :: l) ((pre.length : Nat) : Int) = x := by
  unfold rd_T38
  simp [List.getD]

theorem in_loop (s u t off len at' : Int) (x7 : List S38) (i : Int) (hr : RightM s u t) (ho : 0 ≤ off) (h0 : 0 ≤ at') (hl : at' < len) (hol : off + len ≤ 1024) :
    ∀ (d k : Nat) (j : Int), 0 ≤ j → j ≤ (frag s u t off len at').f3 → ((frag s u t off len at').f3 - j).toNat ≤ d → d < k →
      ∃ k', k ≤ k' + d + 1 ∧ lamellalaw06_StripeWhole.l1 k off len x7 at' i j s u t (frag s u t off len at').f0 (frag s u t off len at').f1 (frag s u t off len at').f2 (frag s u t off len at').f3 = lamellalaw06_StripeWhole.l0 k' off len x7 (at' + (frag s u t off len at').f3) (wrap64 (i + 1)) s u t := by
  have hu := hr.2.2.1
  have m := mod_bd (off + at') u hu
  have hf : (frag s u t off len at').f3 = min (u - (off + at') % u) (len - at') := rfl
  have e9 : wrap64 (at' + (frag s u t off len at').f3) = at' + (frag s u t off len at').f3 := w64 _ (by omega)
  intro d
  induction d with
  | zero =>
    intro k j hj hj2 hd hk
    obtain ⟨k, rfl⟩ : ∃ m, k = m + 1 := ⟨k - 1, by omega⟩
    refine ⟨k, by omega, ?_⟩
    simp only [lamellalaw06_StripeWhole.l1]
    rw [if_neg (by omega), e9]
  | succ d ih =>
    intro k j hj hj2 hd hk
    obtain ⟨k, rfl⟩ : ∃ m, k = m + 1 := ⟨k - 1, by omega⟩
    by_cases hlt : j < (frag s u t off len at').f3
    · obtain ⟨k', b, e⟩ := ih k (j + 1) (by omega) (by omega) (by omega) (by omega)
      refine ⟨k', by omega, ?_⟩
      have ab := at_bd s u t (off + at') hr (by omega)
      have hw : stripe_Where.f s u t (off + at' + j) = some (srvOf s u t (off + at') , atOf s u (off + at') + j, 0) := by
        unfold stripe_Where.f
        rw [if_pos ⟨hr, by omega, by omega⟩, srv_in s u t (off + at') j hu hj (by omega), at_in s u (off + at') j hu hj (by omega)]
      have g0 : (frag s u t off len at').f0 = srvOf s u t (off + at') := rfl
      have g1 : (frag s u t off len at').f1 = atOf s u (off + at') := rfl
      have g2 : (frag s u t off len at').f2 = at' := rfl
      have e1 : wrap64 (off + at') = off + at' := w64 _ (by omega)
      have e2 : wrap64 (off + at' + j) = off + at' + j := w64 _ (by omega)
      have e3 : wrap64 (atOf s u (off + at') + j) = atOf s u (off + at') + j := w64 _ (by omega)
      have e4 : wrap64 (j + 1) = j + 1 := w64 _ (by omega)
      simp only [lamellalaw06_StripeWhole.l1]
      rw [if_pos hlt]
      rw [← e]
      rw [g2, e1, e2, hw]
      simp only [Option.bind_some, if_true]
      rw [g0, if_pos rfl, g1, e3, if_pos rfl, e4]
    · refine ⟨k, by omega, ?_⟩
      simp only [lamellalaw06_StripeWhole.l1]
      rw [if_neg hlt, e9]

theorem out_loop (s u t off len : Int) (hr : RightM s u t) (ho : 0 ≤ off) (hol : off + len ≤ 1024) : ∀ (rest pre : List S38) (at' : Int) (k : Nat), P06.Good s u t off len at' rest → 0 ≤ at' → (pre.length : Int) ≤ at' → 2 * rest.length + (len - at').toNat + rest.length + 1040 ≤ k →
    lamellalaw06_StripeWhole.l0 k off len (pre ++ rest) at' pre.length s u t = some true
  | [], pre, at', k, h, h0, hp, hk => by
    obtain ⟨k, rfl⟩ : ∃ m, k = m + 1 := ⟨k - 1, by omega⟩
    cases h with
    | nil =>
      simp only [lamellalaw06_StripeWhole.l0, List.append_nil]
      rw [if_neg (by omega), alive_true _ (by omega)]
      simp
  | x :: l, pre, at', k, h, h0, hp, hk => by
    obtain ⟨k, rfl⟩ : ∃ m, k = m + 2 := ⟨k - 2, by omega⟩
    cases h with
    | cons _ _ _ h1 h2 =>
      have hu := hr.2.2.1
      have hu2 := hr.2.2.2.1
      have m := mod_bd (off + at') u hu
      have gl := h2.at_len
      simp only [List.length_cons] at hk
      simp only [lamellalaw06_StripeWhole.l0, rd_mid]
      have f3 : (frag s u t off len at').f3 = min (u - (off + at') % u) (len - at') := rfl
      have f2 : (frag s u t off len at').f2 = at' := rfl
      rw [if_pos (by simp; omega), if_pos (by omega), if_pos f2, if_neg (by omega), decide_eq_false (by omega)]
      simp only [lamellalaw06_StripeWhole.j1, Bool.false_eq_true, if_false]
      obtain ⟨k', b, e⟩ := in_loop s u t off len at' (pre ++ frag s u t off len at' :: l) pre.length hr ho h0 h1 hol (frag s u t off len at').f3.toNat k 0 (by omega) (by omega) (by omega) (by omega)
      rw [e, w64 _ (by omega)]
      have := out_loop s u t off len hr ho hol l (pre ++ [frag s u t off len at']) (at' + (frag s u t off len at').f3) k' (by rw [f3]; exact h2) (by omega) (by simp; omega) (by omega)
      rw [show ((((pre ++ [frag s u t off len at']).length : Nat)) : Int) = (pre.length : Int) + 1 by simp, show (pre ++ [frag s u t off len at']) ++ l = pre ++ frag s u t off len at' :: l by simp] at this
      exact this

theorem pure_true (s u t off len : Int) (hs : -9223372036854775808 ≤ s ∧ s ≤ 9223372036854775807) (hu : -9223372036854775808 ≤ u ∧ u ≤ 9223372036854775807) (ht : -9223372036854775808 ≤ t ∧ t ≤ 9223372036854775807) (hv : -9223372036854775808 ≤ off ∧ off ≤ 9223372036854775807) (hz : -9223372036854775808 ≤ len ∧ len ≤ 9223372036854775807) : lamellalaw06_StripeWhole.f 9010 s u t off len = some true := by
  unfold lamellalaw06_StripeWhole.f
  rw [alive_true 9010 (by omega)]
  simp only [Option.bind_some, if_true]
  by_cases c : MayReq s u t off len
  · obtain ⟨l, e, g⟩ := frags_yes s u t off len c 9010 (by omega)
    have gl := good_len c.1.2.2.1 g
    obtain ⟨hr, k1, k2, k3, k4⟩ := c
    rw [e]
    simp only [Option.bind_some, if_true]
    exact out_loop s u t off len hr k1 (by omega) l [] 0 9010 g (by omega) (by simp) (by omega)
  · rw [frags_no s u t off len c hv 9010 (by omega)]
    simp only [Option.bind_some]
    rw [if_neg (by decide)]; rfl

theorem stripeWhole_walk (a0 : Array Value) (a1 : Int) (a2 : Int) (w : World) (w0 : Sees Try.prog w 140737488351232 5 23 a0.toList) (w1 : (Lit.int .i64 a1).wf = true) (w2 : (Lit.int .i64 a2).wf = true) :
    Calls Try.prog 5 #[.agg a0, .int .i64 a1, .int .i64 a2] w fun e w' => e = .returned (.bool true) ∧ Below w.heap.size w w' := by
  obtain ⟨s, u, t, rfl, h1, h2, h3⟩ := openA23 (k := 3) w0
  exact lamellalaw06_StripeWhole.calls 9010 s u t a1 a2 true w (pure_true s u t a1 a2 (bounds_i64 h1) (bounds_i64 h2) (bounds_i64 h3) (bounds_i64 w1) (bounds_i64 w2))
end Go.Proofs.Ytaipmnelcpilaaa.stripeWhole
