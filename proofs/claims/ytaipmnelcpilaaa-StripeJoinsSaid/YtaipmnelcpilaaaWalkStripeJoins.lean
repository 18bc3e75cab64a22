/- A request in two parts has the same fragments, but for one that the cut may part: the call returns true whatever the input. No condition. -/
import Derived.Test.YtaipmnelcpilaaaStripeRef
import Derived.Test.YtaipmnelcpilaaaP06x8
import Derived.Test.YtaipmnelcpilaaaOpens
namespace Go.Proofs.Ytaipmnelcpilaaa.stripeJoins
open Go.RowKit Go.Sees Go.Proofs.Ytaipmnelcpilaaa.Stripe Go.Proofs.Ytaipmnelcpilaaa.P06 Go.Proofs.Ytaipmnelcpilaaa.Opens Go.Proofs.YtaipmnelcpilaaaW.PrintWords Go.Proofs.YtaipmnelcpilaaaW.PrintLast Go.Proofs.YtaipmnelcpilaaaW.PrintMore
set_option linter.unusedVariables false
set_option linter.unusedSimpArgs false

theorem rd_mid (pre : List S38) (x : S38) (l : List S38) : rd_T38 (pre ++ x :: l) ((pre.length : Nat) : Int) = x := by
  unfold rd_T38
  simp [List.getD]

/-- how many fragments -/
theorem count {s u t off len : Int} (hu : 1 ≤ u) : ∀ {at' : Int} {l : List S38}, P06.Good s u t off len at' l → at' < len → (l.length : Int) = (off + len - 1) / u - (off + at') / u + 1 := by
  intro at' l h
  induction h with
  | nil => intro h; omega
  | cons at' l h0 h1 h2 ih =>
    intro _
    have m := mod_bd (off + at') u hu
    rcases Int.lt_or_le (len - at') (u - (off + at') % u) with g | g
    · have e : at' + min (u - (off + at') % u) (len - at') = len := by omega
      rw [e] at h2
      have i := (in_unit (off + at') u (len - at' - 1) hu (by omega) (by omega)).1
      rw [show off + at' + (len - at' - 1) = off + len - 1 by omega] at i
      cases h2 with
      | nil => simp; omega
      | cons _ _ _ q _ => omega
    · have e : at' + min (u - (off + at') % u) (len - at') = at' + (u - (off + at') % u) := by omega
      rw [e] at h2 ih
      by_cases z : at' + (u - (off + at') % u) = len
      · rw [z] at h2
        have i := (in_unit (off + at') u (len - at' - 1) hu (by omega) (by omega)).1
        rw [show off + at' + (len - at' - 1) = off + len - 1 by omega] at i
        cases h2 with
        | nil => simp; omega
        | cons _ _ _ q _ => omega
      · have := ih (by omega)
        have nx := (next_unit (off + at') u hu).1
        rw [show off + (at' + (u - (off + at') % u)) = off + at' + (u - (off + at') % u) by omega, nx] at this
        simp only [List.length_cons]; push_cast; omega

theorem count0 {s u t off len : Int} {l : List S38} (h : P06.Good s u t off len len l) : l.length = 0 := by
  cases h with
  | nil => rfl
  | cons _ _ _ q _ => omega

section
variable (s u t off a b : Int) (x9 x11 x13 : List S38)
theorem loop0 {off' len : Int} (hu : 1 ≤ u) (hl : len ≤ 4096) : ∀ (rest pre : List S38) (at' : Int) (k : Nat), P06.Good s u t off' len at' rest → 0 ≤ at' → (pre.length : Int) ≤ at' → rest.length < k →
    ∃ k', k ≤ k' + rest.length + 1 ∧ lamellalaw06_StripeJoins.l0 k off a b (pre ++ rest) x11 x13 at' pre.length s u t = lamellalaw06_StripeJoins.l1 k' off a b (pre ++ rest) x11 x13 len 0 0 s u t
  | [], pre, at', k, h, h0, hp, hk => by
    obtain ⟨k, rfl⟩ : ∃ m, k = m + 1 := ⟨k - 1, by omega⟩
    cases h with
    | nil =>
      refine ⟨k, by simp, ?_⟩
      simp only [lamellalaw06_StripeJoins.l0, List.append_nil]
      rw [if_neg (by omega)]
  | x :: l, pre, at', k, h, h0, hp, hk => by
    obtain ⟨k, rfl⟩ : ∃ m, k = m + 1 := ⟨k - 1, by omega⟩
    cases h with
    | cons _ _ _ h1 h2 =>
      have m := mod_bd (off' + at') u hu
      have gl := h2.at_len
      simp only [List.length_cons] at hk
      have f3 : (frag s u t off' len at').f3 = min (u - (off' + at') % u) (len - at') := rfl
      obtain ⟨k', e1, e2⟩ := loop0 hu hl l (pre ++ [frag s u t off' len at']) (at' + (frag s u t off' len at').f3) k (by rw [f3]; exact h2) (by omega) (by simp; omega) (by omega)
      rw [show ((((pre ++ [frag s u t off' len at']).length : Nat)) : Int) = (pre.length : Int) + 1 by simp, show (pre ++ [frag s u t off' len at']) ++ l = pre ++ frag s u t off' len at' :: l by simp] at e2
      refine ⟨k', by simp only [List.length_cons]; omega, ?_⟩
      simp only [lamellalaw06_StripeJoins.l0, rd_mid]
      rw [if_pos (by simp; omega), if_pos (by omega), w64 _ (by omega), w64 _ (by omega)]
      exact e2
theorem loop1 {off' len : Int} (x15 : Int) (hu : 1 ≤ u) (hl : len ≤ 4096) : ∀ (rest pre : List S38) (at' : Int) (k : Nat), P06.Good s u t off' len at' rest → 0 ≤ at' → (pre.length : Int) ≤ at' → rest.length < k →
    ∃ k', k ≤ k' + rest.length + 1 ∧ lamellalaw06_StripeJoins.l1 k off a b x9 (pre ++ rest) x13 x15 at' pre.length s u t = lamellalaw06_StripeJoins.l2 k' off a b x9 (pre ++ rest) x13 x15 len 0 s u t
  | [], pre, at', k, h, h0, hp, hk => by
    obtain ⟨k, rfl⟩ : ∃ m, k = m + 1 := ⟨k - 1, by omega⟩
    cases h with
    | nil =>
      refine ⟨k, by simp, ?_⟩
      simp only [lamellalaw06_StripeJoins.l1, List.append_nil]
      rw [if_neg (by omega)]
  | x :: l, pre, at', k, h, h0, hp, hk => by
    obtain ⟨k, rfl⟩ : ∃ m, k = m + 1 := ⟨k - 1, by omega⟩
    cases h with
    | cons _ _ _ h1 h2 =>
      have m := mod_bd (off' + at') u hu
      have gl := h2.at_len
      simp only [List.length_cons] at hk
      have f3 : (frag s u t off' len at').f3 = min (u - (off' + at') % u) (len - at') := rfl
      obtain ⟨k', e1, e2⟩ := loop1 x15 hu hl l (pre ++ [frag s u t off' len at']) (at' + (frag s u t off' len at').f3) k (by rw [f3]; exact h2) (by omega) (by simp; omega) (by omega)
      rw [show ((((pre ++ [frag s u t off' len at']).length : Nat)) : Int) = (pre.length : Int) + 1 by simp, show (pre ++ [frag s u t off' len at']) ++ l = pre ++ frag s u t off' len at' :: l by simp] at e2
      refine ⟨k', by simp only [List.length_cons]; omega, ?_⟩
      simp only [lamellalaw06_StripeJoins.l1, rd_mid]
      rw [if_pos (by simp; omega), if_pos (by omega), w64 _ (by omega), w64 _ (by omega)]
      exact e2
theorem loop2 {off' len : Int} (x15 : Int) (y : Int) (hy : 0 ≤ y ∧ y ≤ 4096) (hu : 1 ≤ u) (hl : len ≤ 4096) (hend : ∀ k : Nat, 1030 ≤ k → ∀ pre : List S38, (x13 = pre → lamellalaw06_StripeJoins.l2 (k + 1) off a b x9 x11 pre x15 (y + len) pre.length s u t = some true)) : ∀ (rest pre : List S38) (at' : Int) (k : Nat), x13 = pre ++ rest → P06.Good s u t off' len at' rest → 0 ≤ at' → (pre.length : Int) ≤ at' → rest.length + 1040 < k →
    lamellalaw06_StripeJoins.l2 k off a b x9 x11 (pre ++ rest) x15 (y + at') pre.length s u t = some true
  | [], pre, at', k, he, h, h0, hp, hk => by
    obtain ⟨k, rfl⟩ : ∃ m, k = m + 1 := ⟨k - 1, by omega⟩
    cases h with
    | nil =>
      rw [List.append_nil] at he ⊢
      exact hend k (by omega) pre he
  | x :: l, pre, at', k, he, h, h0, hp, hk => by
    obtain ⟨k, rfl⟩ : ∃ m, k = m + 1 := ⟨k - 1, by omega⟩
    cases h with
    | cons _ _ _ h1 h2 =>
      have m := mod_bd (off' + at') u hu
      have gl := h2.at_len
      simp only [List.length_cons] at hk
      have f3 : (frag s u t off' len at').f3 = min (u - (off' + at') % u) (len - at') := rfl
      have e2 := loop2 x15 y hy hu hl hend l (pre ++ [frag s u t off' len at']) (at' + (frag s u t off' len at').f3) k (by rw [he]; simp) (by rw [f3]; exact h2) (by omega) (by simp; omega) (by omega)
      rw [show ((((pre ++ [frag s u t off' len at']).length : Nat)) : Int) = (pre.length : Int) + 1 by simp, show (pre ++ [frag s u t off' len at']) ++ l = pre ++ frag s u t off' len at' :: l by simp, ← Int.add_assoc] at e2
      simp only [lamellalaw06_StripeJoins.l2, rd_mid]
      rw [if_pos (by simp; omega), if_pos (by omega), w64 _ (by omega), w64 _ (by omega)]
      exact e2
end

theorem joined (s u t off a b : Int) (h : MayReq s u t off (a + b)) (ha : 0 ≤ a) (hb : 0 ≤ b) : lamellalaw06_StripeJoins.j0 9010 off a b false s u t = some true := by
  obtain ⟨hr, k1, k2, k3, k4⟩ := h
  have hu := hr.2.2.1
  have c1 : MayReq s u t off a := ⟨hr, by omega, by omega, by omega, by omega⟩
  have c2 : MayReq s u t (off + a) b := ⟨hr, by omega, by omega, by omega, by omega⟩
  obtain ⟨l, e, g⟩ := frags_yes s u t off (a + b) ⟨hr, k1, k2, k3, k4⟩ 9009 (by omega)
  obtain ⟨l1, e1, g1⟩ := frags_yes s u t off a c1 9009 (by omega)
  obtain ⟨l2, e2, g2⟩ := frags_yes s u t (off + a) b c2 9009 (by omega)
  have n := good_len hu g
  have n1 := good_len hu g1
  have n2 := good_len hu g2
  simp only [lamellalaw06_StripeJoins.j0, Bool.false_eq_true, if_false]
  rw [w64 (a + b) (by omega), e]
  simp only [Option.bind_some, if_true]
  rw [e1, w64 (off + a) (by omega), e2]
  simp only [Option.bind_some, if_true, lamellalaw06_StripeJoins.j1, bne_self_eq_false, Bool.false_eq_true, if_false]
  obtain ⟨kk, q1, q2⟩ := loop0 s u t off a b l1 l2 hu (by omega) l [] 0 9008 g (by omega) (by simp) (by omega)
  obtain ⟨kk2, q3, q4⟩ := loop1 s u t off a b l l2 (a + b) hu (by omega) l1 [] 0 kk g1 (by omega) (by simp) (by omega)
  have hend : ∀ k : Nat, 1030 ≤ k → ∀ pre : List S38, (l2 = pre → lamellalaw06_StripeJoins.l2 (k + 1) off a b l l1 pre (a + b) (a + b) pre.length s u t = some true) := by
    intro k hk pre hpre
    subst hpre
    simp only [lamellalaw06_StripeJoins.l2]
    rw [if_neg (by omega), alive_true _ (by omega), w64 (a + b) (by omega), w64 ((l1.length : Int) + (l2.length : Int)) (by omega), w64 ((l1.length : Int) + (l2.length : Int) - (l.length : Int)) (by omega)]
    simp only [Option.bind_some, if_true]
    by_cases z1 : a = 0
    · subst z1
      have := count0 g1
      rcases Int.lt_or_le 0 b with zb | zb
      · have d1 := count hu g (by omega)
        have d2 := count hu g2 (by omega)
        simp only [Int.zero_add, Int.add_zero] at d1 d2
        rw [if_pos (by omega)]
      · obtain rfl : b = 0 := by omega
        have := count0 g2
        have := count0 g
        rw [if_pos (by omega)]
    · by_cases z2 : b = 0
      · subst z2
        have := count0 g2
        have d1 := count hu g (by omega)
        have d2 := count hu g1 (by omega)
        rw [show off + (a + 0) - 1 = off + a - 1 by omega] at d1
        rw [if_pos (by omega)]
      · have d := count hu g (by omega)
        have d1 := count hu g1 (by omega)
        have d2 := count hu g2 (by omega)
        rw [show off + (a + b) - 1 = off + a + b - 1 by omega] at d
        rw [show off + a + 0 = off + a by omega] at d2
        have m := mod_bd (off + a - 1) u hu
        by_cases zz : (off + a) % u = 0
        · have f : (off + a) / u = (off + a - 1) / u + 1 := by
            have p := divmod (off + a) u
            have := (div_of ((off + a) / u - 1) (u - 1) u (by omega) (by omega)).1
            rw [show ((off + a) / u - 1) * u + (u - 1) = off + a - 1 by rw [Int.sub_mul]; omega] at this
            omega
          rw [if_pos (by omega)]
        · have f : (off + a) / u = (off + a - 1) / u := by
            have p := divmod (off + a) u
            have mm := mod_bd (off + a) u hu
            have := (div_of ((off + a) / u) ((off + a) % u - 1) u (by omega) (by omega)).1
            rw [show (off + a) / u * u + ((off + a) % u - 1) = off + a - 1 by omega] at this
            omega
          rw [if_neg (by omega), if_pos (by omega), if_pos (by omega), if_pos (by omega), if_neg (by omega), w64 (off + a) (by omega), Int.tmod_eq_emod_of_nonneg (by omega)]
          simp [zz]
  have fin := loop2 s u t off a b l l1 l2 (a + b) a ⟨by omega, by omega⟩ hu (by omega) hend l2 [] 0 kk2 (by simp) g2 (by omega) (by simp) (by omega)
  simp only [List.nil_append, List.length_nil, Int.ofNat_zero, Int.natCast_zero, Int.cast_ofNat_Int, Int.add_zero] at q2 q4 fin
  exact (q2.trans q4).trans fin

theorem pure_true (s u t off a b : Int) (hv : -9223372036854775808 ≤ off ∧ off ≤ 9223372036854775807) : lamellalaw06_StripeJoins.f 9010 s u t off a b = some true := by
  unfold lamellalaw06_StripeJoins.f
  rw [alive_true 9010 (by omega)]
  simp only [Option.bind_some, if_true]
  have fin : lamellalaw06_StripeJoins.j0 9010 off a b true s u t = some true := by
    simp only [lamellalaw06_StripeJoins.j0, if_true]
    rw [alive_true _ (by omega)]; rfl
  by_cases c1 : a < 0
  · rw [if_pos c1]; exact fin
  rw [if_neg c1]
  by_cases c2 : a > 1024
  · rw [if_pos c2]; exact fin
  rw [if_neg c2]
  by_cases c3 : b < 0
  · rw [if_pos c3]; exact fin
  rw [if_neg c3]
  by_cases c4 : b > 1024
  · rw [decide_eq_true c4]; exact fin
  rw [decide_eq_false c4]
  by_cases c : MayReq s u t off (a + b)
  · exact joined s u t off a b c (by omega) (by omega)
  · simp only [lamellalaw06_StripeJoins.j0, Bool.false_eq_true, if_false]
    rw [w64 (a + b) (by omega), frags_no s u t off (a + b) c hv _ (by omega)]
    simp only [Option.bind_some]
    rw [if_neg (by decide), alive_true _ (by omega)]; rfl

theorem stripeJoins_walk (a0 : Array Value) (a1 : Int) (a2 : Int) (a3 : Int) (w : World) (w0 : Sees Try.prog w 140737488351232 5 23 a0.toList) (w1 : (Lit.int .i64 a1).wf = true) (w2 : (Lit.int .i64 a2).wf = true) (w3 : (Lit.int .i64 a3).wf = true) :
    Calls Try.prog 8 #[.agg a0, .int .i64 a1, .int .i64 a2, .int .i64 a3] w fun e w' => e = .returned (.bool true) ∧ Below w.heap.size w w' := by
  obtain ⟨s, u, t, rfl, h1, h2, h3⟩ := openA23 (k := 3) w0
  exact lamellalaw06_StripeJoins.calls 9010 s u t a1 a2 a3 true w (pure_true s u t a1 a2 a3 (bounds_i64 w1))
end Go.Proofs.Ytaipmnelcpilaaa.stripeJoins
