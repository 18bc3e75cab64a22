/- Layer stripe: the plain laws of where bytes lie; no Go in sight. -/
import Derived.Test.YtaipmnelcpilaaaStripe
namespace Go.Proofs.Ytaipmnelcpilaaa.Stripe
set_option linter.unusedVariables false

theorem divmod (x u : Int) : x / u * u + x % u = x := by rw [Int.mul_comm]; exact Int.mul_ediv_add_emod x u
theorem div_of (q r u : Int) (h0 : 0 ≤ r) (h1 : r < u) : (q * u + r) / u = q ∧ (q * u + r) % u = r :=
  (Int.ediv_emod_unique (by omega)).2 ⟨by rw [Int.mul_comm u q]; omega, h0, h1⟩
theorem mod_bd (x u : Int) (h : 1 ≤ u) : 0 ≤ x % u ∧ x % u < u := ⟨Int.emod_nonneg x (by omega), Int.emod_lt_of_pos x (by omega)⟩

/-- bytes of one unit -/
theorem in_unit (x u k : Int) (hu : 1 ≤ u) (hk : 0 ≤ k) (h : x % u + k < u) : (x + k) / u = x / u ∧ (x + k) % u = x % u + k := by
  have e := divmod x u
  have hr := mod_bd x u hu
  have := div_of (x / u) (x % u + k) u (by omega) h
  rwa [show x / u * u + (x % u + k) = x + k by omega] at this
theorem next_unit (x u : Int) (hu : 1 ≤ u) : (x + (u - x % u)) / u = x / u + 1 ∧ (x + (u - x % u)) % u = 0 := by
  have e := divmod x u
  have := div_of (x / u + 1) 0 u (by omega) (by omega)
  rwa [show (x / u + 1) * u + 0 = x + (u - x % u) by rw [Int.add_mul]; omega] at this

theorem srv_in (s u t x k : Int) (hu : 1 ≤ u) (hk : 0 ≤ k) (h : x % u + k < u) : srvOf s u t (x + k) = srvOf s u t x := by
  unfold srvOf; rw [(in_unit x u k hu hk h).1]
theorem at_in (s u x k : Int) (hu : 1 ≤ u) (hk : 0 ≤ k) (h : x % u + k < u) : atOf s u (x + k) = atOf s u x + k := by
  unfold atOf; rw [(in_unit x u k hu hk h).1, (in_unit x u k hu hk h).2]; omega

theorem mod_apart (a b n : Int) (h : a % n = b % n) (h0 : a ≤ b) (h1 : b - a < n) : a = b := by
  have : (b - a) % n = 0 := Int.emod_eq_emod_iff_emod_sub_eq_zero.1 h.symm
  rw [Int.emod_eq_of_lt (by omega) h1] at this
  omega

/-- one server: one column -/
theorem col_of_srv (s u t x y : Int) (hs : 1 ≤ s) (h : srvOf s u t x = srvOf s u t y) : x / u % s = y / u % s := by
  have h' : (x / u % s + t) % s = (y / u % s + t) % s := by unfold srvOf at h; omega
  have a := mod_bd (x / u) s hs
  have b := mod_bd (y / u) s hs
  rcases Int.le_total (x / u % s) (y / u % s) with g | g
  · have := mod_apart _ _ s h' (by omega) (by omega); omega
  · have := mod_apart _ _ s h'.symm (by omega) (by omega); omega

/-- units of one column: the later one lies a row further, at least -/
theorem row_lt (j k s : Int) (hs : 1 ≤ s) (h : j % s = k % s) (hl : j < k) : j / s + 1 ≤ k / s := by
  have e1 := divmod j s
  have e2 := divmod k s
  rcases Int.lt_or_le (j / s) (k / s) with g | g
  · omega
  · have : k / s * s ≤ j / s * s := Int.mul_le_mul_of_nonneg_right g (by omega)
    omega

theorem at_mono (s u t x y : Int) (hs : 1 ≤ s) (hu : 1 ≤ u) (hx : 0 ≤ x) (h : srvOf s u t x = srvOf s u t y) (hl : x < y) : atOf s u x < atOf s u y := by
  have hc := col_of_srv s u t x y hs h
  have e1 := divmod x u
  have e2 := divmod y u
  have m1 := mod_bd x u hu
  have m2 := mod_bd y u hu
  unfold atOf
  rcases Int.lt_trichotomy (x / u) (y / u) with g | g | g
  · have r := row_lt _ _ s hs hc g
    have : (x / u / s + 1) * u ≤ y / u / s * u := Int.mul_le_mul_of_nonneg_right r (by omega)
    rw [Int.add_mul] at this
    omega
  · rw [g] at e1 ⊢; omega
  · have : (y / u + 1) * u ≤ x / u * u := Int.mul_le_mul_of_nonneg_right (by omega) (by omega)
    rw [Int.add_mul] at this
    omega

theorem where_inj (s u t x y : Int) (hs : 1 ≤ s) (hu : 1 ≤ u) (hx : 0 ≤ x) (hy : 0 ≤ y) (h : srvOf s u t x = srvOf s u t y) (h2 : atOf s u x = atOf s u y) : x = y := by
  rcases Int.lt_trichotomy x y with g | g | g
  · have := at_mono s u t x y hs hu hx h g; omega
  · exact g
  · have := at_mono s u t y x hs hu hy h.symm g; omega

theorem back_col (c t n : Int) (h0 : 0 ≤ c) (h1 : c < n) : ((c - t) % n + t) % n = c := by
  have e : ((c - t) % n + t) % n = (c - t + t) % n := by simp
  rw [e, show c - t + t = c by omega, Int.emod_eq_of_lt h0 h1]

/-- the byte that lies there lies there -/
theorem where_back (s u t server at' : Int) (hs : 1 ≤ s) (hu : 1 ≤ u) (h1 : 1 ≤ server) (h2 : server ≤ s) (h3 : 0 ≤ at') :
    0 ≤ backOf s u t server at' ∧ srvOf s u t (backOf s u t server at') = server ∧ atOf s u (backOf s u t server at') = at' := by
  have m := mod_bd (server - 1 - t) s hs
  have ma := mod_bd at' u hu
  have d := div_of (at' / u * s + (server - 1 - t) % s) (at' % u) u ma.1 ma.2
  have d2 := div_of (at' / u) ((server - 1 - t) % s) s m.1 m.2
  have hq : 0 ≤ at' / u := Int.ediv_nonneg h3 (by omega)
  have h0 := Int.mul_nonneg hq (by omega : 0 ≤ s)
  have h00 := Int.mul_nonneg (show 0 ≤ at' / u * s + (server - 1 - t) % s by omega) (by omega : 0 ≤ u)
  refine ⟨by unfold backOf; omega, ?_, ?_⟩
  · unfold srvOf backOf
    rw [d.1, d2.2, back_col (server - 1) t s (by omega) (by omega)]; omega
  · unfold atOf backOf
    rw [d.1, d2.1, d.2]; exact divmod at' u

theorem back_where (s u t x : Int) (hr : RightM s u t) (hx : 0 ≤ x) : backOf s u t (srvOf s u t x) (atOf s u x) = x := by
  have b := srv_bd s u t x hr
  have a := at_bd s u t x hr hx
  have w := where_back s u t (srvOf s u t x) (atOf s u x) hr.1 hr.2.2.1 b.1 b.2 a.1
  exact where_inj s u t _ x hr.1 hr.2.2.1 w.1 hx w.2.1 w.2.2

/-- all bytes of a server lie below its object's length -/
theorem len_over (s u t server size x : Int) (hr : RightM s u t) (h1 : 1 ≤ server) (h2 : server ≤ s) (hx : 0 ≤ x) (hl : x < size) (hs : srvOf s u t x = server) : atOf s u x < lenOf s u t server size := by
  obtain ⟨s1, s2, u1, u2, t1, t2⟩ := hr
  have e := divmod x u
  have m := mod_bd x u u1
  have hk : x / u ≤ (size - 1) / u := Int.ediv_le_ediv (by omega) (by omega)
  have hb : 0 ≤ backBy s u t server size ∧ backBy s u t server size < s := mod_bd _ s s1
  have mc := mod_bd ((size - 1) / u % s + t) s s1
  -- the column of the last unit of the server
  have hcol : (x / u) % s = ((size - 1) / u - backBy s u t server size) % s := by
    have g1 : (x / u % s + t) % s = server - 1 := by unfold srvOf at hs; omega
    have g2 : (((size - 1) / u - backBy s u t server size) % s + t) % s = server - 1 := by
      unfold backBy
      have q : ((((size - 1) / u - (((size - 1) / u % s + t) % s - (server - 1)) % s)) % s + t) % s = (server - 1) % s := by
        have z1 : ((((size - 1) / u - (((size - 1) / u % s + t) % s - (server - 1)) % s)) % s + t) % s = ((size - 1) / u - (((size - 1) / u % s + t) % s - (server - 1)) + t) % s := by
          rw [Int.emod_add_emod, Int.add_emod, Int.sub_emod_emod, ← Int.add_emod]
        rw [z1, show (size - 1) / u - (((size - 1) / u % s + t) % s - (server - 1)) + t = ((size - 1) / u + t + (server - 1)) - ((size - 1) / u % s + t) % s by omega, Int.sub_emod_emod]
        rw [show (size - 1) / u + t + (server - 1) - ((size - 1) / u % s + t) = ((size - 1) / u - (size - 1) / u % s) + (server - 1) by omega]
        rw [Int.add_emod, show ((size - 1) / u - (size - 1) / u % s) % s = 0 by rw [Int.sub_emod_emod]; simp]
        simp
      rw [q, Int.emod_eq_of_lt (by omega) (by omega)]
    have g := g1.trans g2.symm
    have a := mod_bd (x / u) s s1
    have b := mod_bd ((size - 1) / u - backBy s u t server size) s s1
    rcases Int.le_total (x / u % s) (((size - 1) / u - backBy s u t server size) % s) with h | h
    · have := mod_apart _ _ s g (by omega) (by omega); omega
    · have := mod_apart _ _ s g.symm (by omega) (by omega); omega
  -- it is that unit or an elder one
  have hle : x / u ≤ (size - 1) / u - backBy s u t server size := by
    rcases Int.lt_or_le ((size - 1) / u - backBy s u t server size) (x / u) with h | h
    · have := mod_apart _ _ s hcol.symm (by omega) (by omega); omega
    · exact h
  have hq0 : 0 ≤ x / u := Int.ediv_nonneg hx (by omega)
  unfold lenOf
  rw [if_neg (by omega), if_neg (by omega)]
  generalize hU : (size - 1) / u - backBy s u t server size = U at *
  have hUl : U * u ≤ (size - 1) / u * u := Int.mul_le_mul_of_nonneg_right (by omega) (by omega)
  have hz := Int.ediv_mul_le (size - 1) (by omega : u ≠ 0)
  unfold atOf
  rcases Int.lt_or_eq_of_le hle with h | h
  · have r := row_lt _ _ s s1 hcol h
    have : (x / u / s + 1) * u ≤ U / s * u := Int.mul_le_mul_of_nonneg_right r (by omega)
    rw [Int.add_mul] at this
    have : 0 < min u (size - U * u) := by omega
    omega
  · rw [← h] at hU hUl ⊢
    omega

/-- .. and it is no longer than to the last of them -/
theorem len_met (s u t server size : Int) (hr : RightM s u t) (h1 : 1 ≤ server) (h2 : server ≤ s) (h0 : 0 ≤ size) :
    lenOf s u t server size = 0 ∨ ∃ x, 0 ≤ x ∧ x < size ∧ srvOf s u t x = server ∧ atOf s u x = lenOf s u t server size - 1 := by
  obtain ⟨s1, s2, u1, u2, t1, t2⟩ := hr
  by_cases hz : size = 0
  · left; unfold lenOf; rw [if_pos hz]
  by_cases hb : (size - 1) / u < backBy s u t server size
  · left; unfold lenOf; rw [if_neg hz, if_pos hb]
  right
  have hb0 : 0 ≤ backBy s u t server size ∧ backBy s u t server size < s := mod_bd _ s s1
  have mc := mod_bd ((size - 1) / u % s + t) s s1
  have g2 : (((size - 1) / u - backBy s u t server size) % s + t) % s = server - 1 := by
    unfold backBy
    have q : ((((size - 1) / u - (((size - 1) / u % s + t) % s - (server - 1)) % s)) % s + t) % s = (server - 1) % s := by
      have z1 : ((((size - 1) / u - (((size - 1) / u % s + t) % s - (server - 1)) % s)) % s + t) % s = ((size - 1) / u - (((size - 1) / u % s + t) % s - (server - 1)) + t) % s := by
        rw [Int.emod_add_emod, Int.add_emod, Int.sub_emod_emod, ← Int.add_emod]
      rw [z1, show (size - 1) / u - (((size - 1) / u % s + t) % s - (server - 1)) + t = ((size - 1) / u + t + (server - 1)) - ((size - 1) / u % s + t) % s by omega, Int.sub_emod_emod]
      rw [show (size - 1) / u + t + (server - 1) - ((size - 1) / u % s + t) = ((size - 1) / u - (size - 1) / u % s) + (server - 1) by omega]
      rw [Int.add_emod, show ((size - 1) / u - (size - 1) / u % s) % s = 0 by rw [Int.sub_emod_emod]; simp]
      simp
    rw [q, Int.emod_eq_of_lt (by omega) (by omega)]
  generalize hU : (size - 1) / u - backBy s u t server size = U at *
  have hUl : U * u ≤ (size - 1) / u * u := Int.mul_le_mul_of_nonneg_right (by omega) (by omega)
  have hzz := Int.ediv_mul_le (size - 1) (by omega : u ≠ 0)
  have hU0 := Int.mul_nonneg (by omega : 0 ≤ U) (by omega : 0 ≤ u)
  have hn : 1 ≤ min u (size - U * u) := by omega
  have d := div_of U (min u (size - U * u) - 1) u (by omega) (by omega)
  refine ⟨U * u + (min u (size - U * u) - 1), by omega, by omega, ?_, ?_⟩
  · unfold srvOf; rw [d.1, g2]; omega
  · unfold atOf lenOf
    rw [d.1, d.2, if_neg hz, if_neg hb, hU]; omega

theorem len_bd (s u t server size : Int) (hr : RightM s u t) (h1 : 1 ≤ server) (h2 : server ≤ s) (h0 : 0 ≤ size) : 0 ≤ lenOf s u t server size ∧ lenOf s u t server size ≤ size := by
  rcases len_met s u t server size hr h1 h2 h0 with h | ⟨x, a, b, c, d⟩
  · omega
  · have := at_bd s u t x hr a; omega

theorem len_mono (s u t server a b : Int) (hr : RightM s u t) (h1 : 1 ≤ server) (h2 : server ≤ s) (h0 : 0 ≤ a) (hab : a ≤ b) : lenOf s u t server a ≤ lenOf s u t server b := by
  rcases len_met s u t server a hr h1 h2 h0 with h | ⟨x, xa, xb, c, d⟩
  · have := len_bd s u t server b hr h1 h2 (by omega); omega
  · have := len_over s u t server b x hr h1 h2 xa (by omega) c; omega

/-- one byte more makes its server's object longer -/
theorem len_step (s u t x : Int) (hr : RightM s u t) (hx : 0 ≤ x) : lenOf s u t (srvOf s u t x) x + 1 ≤ lenOf s u t (srvOf s u t x) (x + 1) := by
  have b := srv_bd s u t x hr
  have o := len_over s u t _ (x + 1) x hr b.1 b.2 hx (by omega) rfl
  have ab := at_bd s u t x hr hx
  rcases len_met s u t (srvOf s u t x) x hr b.1 b.2 hx with h | ⟨y, ya, yb, c, d⟩
  · omega
  · have := at_mono s u t y x hr.1 hr.2.2.1 ya c yb; omega

/-- the objects' lengths together -/
def lens (s u t size : Int) : Nat → Int
  | 0 => 0
  | k + 1 => lens s u t size k + lenOf s u t (k + 1) size
theorem lens_mono (s u t a b : Int) (hr : RightM s u t) (h0 : 0 ≤ a) (hab : a ≤ b) : ∀ k : Nat, (k : Int) ≤ s → lens s u t a k ≤ lens s u t b k
  | 0, _ => Int.le_refl _
  | k + 1, h => by
    have := lens_mono s u t a b hr h0 hab k (by omega)
    have := len_mono s u t (k + 1) a b hr (by omega) (by omega) h0 hab
    simp only [lens]; omega
theorem lens_step (s u t x : Int) (hr : RightM s u t) (hx : 0 ≤ x) : ∀ k : Nat, (k : Int) ≤ s → srvOf s u t x ≤ k → lens s u t x k + 1 ≤ lens s u t (x + 1) k
  | 0, _, h => by have := (srv_bd s u t x hr).1; omega
  | k + 1, h, h2 => by
    simp only [lens]
    by_cases g : srvOf s u t x ≤ k
    · have := lens_step s u t x hr hx k (by omega) g
      have := len_mono s u t (k + 1) x (x + 1) hr (by omega) (by omega) hx (by omega)
      omega
    · have e : ((k : Nat) : Int) + 1 = srvOf s u t x := by push_cast at h2; omega
      have := lens_mono s u t x (x + 1) hr hx (by omega) k (by omega)
      have := len_step s u t x hr hx
      rw [e]; omega
theorem lens_all (s u t : Int) (hr : RightM s u t) : ∀ size : Nat, (size : Int) ≤ lens s u t size s.toNat
  | 0 => by
    have : ∀ k : Nat, 0 ≤ lens s u t 0 k ∨ ¬ (k : Int) ≤ s := by
      intro k
      by_cases h : (k : Int) ≤ s
      · left
        induction k with
        | zero => exact Int.le_refl _
        | succ k ih =>
          simp only [lens]
          have := ih (by omega)
          have := (len_bd s u t (k + 1) 0 hr (by omega) (by omega) (by omega)).1
          omega
      · exact .inr h
    have := this s.toNat
    have := hr.1
    push_cast; omega
  | n + 1 => by
    have ih := lens_all s u t hr n
    have b := srv_bd s u t n hr
    have := lens_step s u t n hr (by omega) s.toNat (by have := hr.1; omega) (by have := hr.1; omega)
    push_cast
    omega
end Go.Proofs.Ytaipmnelcpilaaa.Stripe
