import Derived.Laws.ComplexArith
namespace Go.FInt
open Ieee

/-- the datum 'number s m p' is the whole number n -/
def Val (s : Bool) (m : Nat) (p n : Int) : Prop := signed s m p.toNat = n * 2 ^ (-p).toNat

def IsInt (x : Nat) (n : Int) : Prop := ∃ s m p, Ieee.double.read x = .number s m p ∧ Val s m p n

theorem signed_mul (s : Bool) (m a b : Nat) : signed s m (a + b) = signed s m a * 2 ^ b := by
  unfold signed
  cases s <;> simp [Nat.shiftLeft_eq, Nat.pow_add, Int.neg_mul, Int.mul_assoc]

theorem two_pos (k : Nat) : (0 : Int) < 2 ^ k := Int.pow_pos (by decide)

theorem val_at {s : Bool} {m : Nat} {p n base : Int} (h : Val s m p n) (hb : base ≤ p) (h0 : base ≤ 0) : signed s m (p - base).toNat = n * 2 ^ (-base).toNat := by
  unfold Val at h
  by_cases hp : 0 ≤ p
  · have e1 : (p - base).toNat = p.toNat + (-base).toNat := by omega
    have e2 : (-p).toNat = 0 := by omega
    rw [e2] at h; rw [e1, signed_mul, h]; simp
  · have e1 : (-base).toNat = (-p).toNat + (p - base).toNat := by omega
    have e2 : p.toNat = 0 := by omega
    rw [e2] at h
    have e3 := signed_mul s m 0 (p - base).toNat
    rw [Nat.zero_add] at e3
    rw [e3, h, e1, Int.pow_add]; simp [Int.mul_assoc]

theorem val_pos {s : Bool} {m : Nat} {p n base : Int} (h : Val s m p n) (hb : base ≤ p) (h0 : 0 ≤ base) : signed s m (p - base).toNat * 2 ^ base.toNat = n := by
  unfold Val at h
  have e1 : p.toNat = (p - base).toNat + base.toNat := by omega
  have e2 : (-p).toNat = 0 := by omega
  rw [e2, e1, signed_mul] at h; simpa using h

theorem cmp_mul (a b c : Int) (hc : 0 < c) : compare (a * c) (b * c) = compare a b := by
  rcases Int.lt_trichotomy a b with h | h | h
  · rw [Int.compare_eq_lt.2 h, Int.compare_eq_lt.2 (Int.mul_lt_mul_of_pos_right h hc)]
  · subst h; simp
  · rw [Int.compare_eq_gt.2 h, Int.compare_eq_gt.2 (Int.mul_lt_mul_of_pos_right h hc)]

theorem order_int {x y : Nat} {n k : Int} (hx : IsInt x n) (hy : IsInt y k) : Ieee.double.order x y = some (compare n k) := by
  obtain ⟨s, m, p, ex, vx⟩ := hx
  obtain ⟨t, q, r, ey, vy⟩ := hy
  unfold Format.order
  rw [ex, ey]
  simp only [Datum.order]
  congr 1
  by_cases h : min p r ≤ 0
  · rw [val_at vx (by omega) h, val_at vy (by omega) h, cmp_mul _ _ _ (two_pos _)]
  · have a := val_pos vx (base := min p r) (by omega) (by omega)
    have b := val_pos vy (base := min p r) (by omega) (by omega)
    rw [← a, ← b, cmp_mul _ _ _ (two_pos _)]

/-- an exact cut -/
theorem cut_exact (neg : Bool) (k drop : Nat) (hk : 0 < k) : Toward.even.cut neg (k * 2 ^ drop) drop = k := by
  unfold Toward.cut
  have hl : drop ≤ (k * 2 ^ drop).log2 := by
    rw [Nat.le_log2 (by have := Nat.two_pow_pos drop; exact Nat.ne_of_gt (Nat.mul_pos hk this))]
    exact Nat.le_mul_of_pos_left _ hk
  have hm : min drop ((k * 2 ^ drop).log2 + 2) = drop := by omega
  simp only [hm, Nat.one_shiftLeft]
  have hp := Nat.two_pow_pos drop
  rw [Nat.mul_div_cancel _ hp, Nat.mul_mod_left]
  simp

theorem read_word (s : Bool) (e k : Nat) (h1 : 2 ^ 52 ≤ k) (h2 : k < 2 ^ 53) (he : e < 2045) :
    Ieee.double.read (Ieee.double.word s (e * 2 ^ 52 + k)) = .number s k (Ieee.double.leastPlace + e) := by
  have hs : Ieee.double.signWeight = 2 ^ 63 := rfl
  have hb : Ieee.double.binade = 2 ^ 52 := rfl
  have hi : Ieee.double.infRung = 2047 * 2 ^ 52 := rfl
  have h0 : e * 2 ^ 52 + k < 2046 * 2 ^ 52 := by omega
  have h00 : 2 ^ 52 ≤ e * 2 ^ 52 + k := by omega
  have hmod : (Ieee.double.word s (e * 2 ^ 52 + k)) % 2 ^ 63 = e * 2 ^ 52 + k := by
    unfold Format.word; rw [hs]; cases s <;> simp <;> omega
  have hsg : ((Ieee.double.word s (e * 2 ^ 52 + k)) / 2 ^ 63 % 2 == 1) = s := by
    unfold Format.word; rw [hs]; cases s <;> simp <;> omega
  unfold Format.read
  simp only [hs, hb, hi, hmod, hsg]
  rw [if_neg (by omega), if_pos (by omega)]
  congr 1
  · omega
  · have : (e * 2 ^ 52 + k) / 2 ^ 52 - 1 = e := by omega
    rw [this]

theorem read_zero (s : Bool) : Ieee.double.read (Ieee.double.word s 0) = .number s 0 Ieee.double.leastPlace := by
  cases s <;> rfl

theorem signed_abs (s : Bool) (m a : Nat) : (signed s m a).natAbs = m * 2 ^ a := by
  unfold signed; cases s <;> simp [Nat.shiftLeft_eq, Int.natAbs_mul, Int.natAbs_pow]

theorem signed_of (s : Bool) (m a : Nat) : signed s m a = if s then -((m * 2 ^ a : Nat) : Int) else ((m * 2 ^ a : Nat) : Int) := by
  unfold signed; cases s <;> simp [Nat.shiftLeft_eq]

theorem log2_mul (m k : Nat) (h : 0 < m) : (m * 2 ^ k).log2 = m.log2 + k := by
  have hp := Nat.two_pow_pos k
  have h1 : m * 2 ^ k ≠ 0 := Nat.ne_of_gt (Nat.mul_pos h hp)
  have h2 : m ≠ 0 := Nat.ne_of_gt h
  apply Nat.le_antisymm
  · apply Nat.le_of_lt_succ
    rw [Nat.log2_lt h1, Nat.succ_eq_add_one, Nat.add_right_comm, Nat.pow_add]
    exact Nat.mul_lt_mul_of_pos_right ((Nat.log2_lt h2).1 (Nat.lt_succ_self _)) hp
  · rw [Nat.le_log2 h1, Nat.pow_add]
    exact Nat.mul_le_mul_right _ ((Nat.le_log2 h2).1 (Nat.le_refl _))

/-- the magnitude, either way -/
theorem val_abs {s : Bool} {m : Nat} {p n : Int} (h : Val s m p n) : m * 2 ^ p.toNat = n.natAbs * 2 ^ (-p).toNat := by
  unfold Val at h
  have := congrArg Int.natAbs h
  rw [signed_abs, Int.natAbs_mul, Int.natAbs_pow] at this
  simpa using this

theorem val_sign {s : Bool} {m : Nat} {p n : Int} (h : Val s m p n) : n = if s then -(n.natAbs : Int) else (n.natAbs : Int) := by
  unfold Val at h
  rw [signed_of] at h
  have hp := two_pos (-p).toNat
  cases s
  · simp only [Bool.false_eq_true, if_false] at h ⊢
    have : 0 ≤ n := by
      rcases Int.lt_or_le n 0 with hn | hn
      · have := Int.mul_neg_of_neg_of_pos hn hp
        omega
      · exact hn
    omega
  · simp only [if_true] at h ⊢
    have : n ≤ 0 := by
      rcases Int.lt_or_le 0 n with hn | hn
      · have := Int.mul_pos hn hp
        omega
      · exact hn
    omega

/-- whatever stands for a whole number below 2^53 is written as that number -/
theorem nearest_int (s : Bool) (m : Nat) (p : Int) (n : Int) (h : Val s m p n) (hn : n.natAbs < 2 ^ 53) (hp : -1074 ≤ p) : IsInt (Ieee.double.nearest s m p) n := by
  unfold Format.nearest
  by_cases hm : m = 0
  · subst hm
    rw [if_pos rfl]
    refine ⟨s, 0, _, read_zero s, ?_⟩
    unfold Val at h ⊢
    have hz : ∀ k, signed s 0 k = 0 := fun k => by unfold signed; cases s <;> simp
    rw [hz] at h ⊢
    have : n = 0 := by
      have := two_pos (-p).toNat
      rcases Int.mul_eq_zero.1 h.symm with h' | h'
      · exact h'
      · omega
    subst this; simp
  · rw [if_neg hm]
    have hm0 : 0 < m := by omega
    have ha := val_abs h
    have hN : 0 < n.natAbs := by
      rcases Nat.eq_zero_or_pos n.natAbs with e | e
      · rw [e, Nat.zero_mul] at ha
        have := Nat.mul_pos hm0 (Nat.two_pow_pos p.toNat)
        omega
      · exact e
    have hl := congrArg Nat.log2 ha
    rw [log2_mul _ _ hm0, log2_mul _ _ hN] at hl
    have hL : n.natAbs.log2 < 53 := (Nat.log2_lt (by omega)).2 hn
    have hf : (Ieee.double.fractionBits : Int) = 52 := rfl
    have hlp : Ieee.double.leastPlace = -1074 := rfl
    have hb : Ieee.double.binade = 2 ^ 52 := rfl
    have hi : Ieee.double.infRung = 2047 * 2 ^ 52 := rfl
    have elast : max (p + (m.log2 : Int) - (Ieee.double.fractionBits : Int)) Ieee.double.leastPlace = (n.natAbs.log2 : Int) - 52 := by
      rw [hf, hlp]; omega
    simp only [elast]
    simp only [hlp, hb, hi]
    have hkept : Toward.even.cut s (m <<< (p - ((n.natAbs.log2 : Int) - 52)).toNat) (((n.natAbs.log2 : Int) - 52) - p).toNat = n.natAbs * 2 ^ (52 - n.natAbs.log2) := by
      rw [Nat.shiftLeft_eq]
      by_cases hq : (n.natAbs.log2 : Int) - 52 ≤ p
      · have e0 : (((n.natAbs.log2 : Int) - 52) - p).toNat = 0 := by omega
        rw [e0]
        have := cut_exact s (m * 2 ^ (p - ((n.natAbs.log2 : Int) - 52)).toNat) 0 (Nat.mul_pos hm0 (Nat.two_pow_pos _))
        rw [Nat.pow_zero, Nat.mul_one] at this
        rw [this]
        by_cases hp0 : 0 ≤ p
        · have e1 : (p - ((n.natAbs.log2 : Int) - 52)).toNat = p.toNat + (52 - n.natAbs.log2) := by omega
          have e2 : (-p).toNat = 0 := by omega
          rw [e2, Nat.pow_zero, Nat.mul_one] at ha
          rw [e1, Nat.pow_add, ← Nat.mul_assoc, ha]
        · have e1 : (52 - n.natAbs.log2) = (-p).toNat + (p - ((n.natAbs.log2 : Int) - 52)).toNat := by omega
          have e2 : p.toNat = 0 := by omega
          rw [e2, Nat.pow_zero, Nat.mul_one] at ha
          rw [e1, Nat.pow_add, ← Nat.mul_assoc, ha]
      · have e0 : (p - ((n.natAbs.log2 : Int) - 52)).toNat = 0 := by omega
        have e2 : p.toNat = 0 := by omega
        have e1 : (-p).toNat = (52 - n.natAbs.log2) + (((n.natAbs.log2 : Int) - 52) - p).toNat := by omega
        rw [e2, Nat.pow_zero, Nat.mul_one, e1, Nat.pow_add, ← Nat.mul_assoc] at ha
        rw [e0, Nat.pow_zero, Nat.mul_one, ha]
        exact cut_exact s _ _ (Nat.mul_pos hN (Nat.two_pow_pos _))
    rw [hkept]
    have hk1 : 2 ^ 52 ≤ n.natAbs * 2 ^ (52 - n.natAbs.log2) := by
      have e : 52 = n.natAbs.log2 + (52 - n.natAbs.log2) := by omega
      have := Nat.mul_le_mul_right (2 ^ (52 - n.natAbs.log2)) ((Nat.le_log2 (n := n.natAbs) (by omega)).1 (Nat.le_refl _))
      rw [← Nat.pow_add, ← e] at this
      exact this
    have hk2 : n.natAbs * 2 ^ (52 - n.natAbs.log2) < 2 ^ 53 := by
      have e : 53 = (n.natAbs.log2 + 1) + (52 - n.natAbs.log2) := by omega
      have := Nat.mul_lt_mul_of_pos_right ((Nat.log2_lt (n := n.natAbs) (by omega)).1 (Nat.lt_succ_self _)) (Nat.two_pow_pos (52 - n.natAbs.log2))
      rw [Nat.succ_eq_add_one, ← Nat.pow_add, ← e] at this
      exact this
    have el : ((n.natAbs.log2 : Int) - 52 - -1074).toNat = n.natAbs.log2 + 1022 := by omega
    rw [el]
    generalize hK : n.natAbs * 2 ^ (52 - n.natAbs.log2) = K at *
    rw [Nat.min_eq_left (by omega)]
    refine ⟨s, K, _, read_word s _ K hk1 hk2 (by omega), ?_⟩
    have ep : Ieee.double.leastPlace + ((n.natAbs.log2 + 1022 : Nat) : Int) = (n.natAbs.log2 : Int) - 52 := by rw [hlp]; omega
    rw [ep]
    unfold Val
    have z1 : ((n.natAbs.log2 : Int) - 52).toNat = 0 := by omega
    have z2 : (-((n.natAbs.log2 : Int) - 52)).toNat = 52 - n.natAbs.log2 := by omega
    rw [z1, z2, signed_of, Nat.pow_zero, Nat.mul_one, ← hK, val_sign h]
    cases s <;> simp [Int.neg_mul]

theorem read_place {x m : Nat} {s : Bool} {p : Int} (h : Ieee.double.read x = .number s m p) : -1074 ≤ p := by
  have hlp : Ieee.double.leastPlace = -1074 := rfl
  unfold Format.read at h
  simp only at h
  split at h
  · cases h; rw [hlp]; omega
  · split at h
    · cases h; rw [hlp]; omega
    · split at h <;> cases h

theorem ofInt (n : Int) (hn : n.natAbs < 2 ^ 53) : IsInt (FloatKind.f64.nearest n) n := by
  refine nearest_int (decide (n < 0)) n.natAbs 0 n ?_ hn (by omega)
  unfold Val
  rw [signed_of]
  by_cases h : n < 0
  · simp [h]; omega
  · simp [h]; omega

theorem opp_int {n : Int} {s : Bool} {m : Nat} {p : Int} (v : Val s m p n) : Val (!s) m p (-n) := by
  unfold Val at v ⊢
  rw [signed_of] at v ⊢
  cases s <;> simp at v ⊢ <;> rw [Int.neg_mul, ← v]
  omega

theorem sum_int {s t : Bool} {m q : Nat} {p r n k : Int} (vx : Val s m p n) (vy : Val t q r k) (hp : -1074 ≤ p) (hr : -1074 ≤ r) (h : (n + k).natAbs < 2 ^ 53) :
    ∃ d, (Datum.number s m p).sum (Datum.number t q r) = some d ∧ IsInt (Ieee.double.write d) (n + k) := by
  refine ⟨_, rfl, ?_⟩
  have hpr : -1074 ≤ min p r := by omega
  refine nearest_int _ _ _ _ ?_ h hpr
  unfold Val
  rw [signed_of]
  by_cases hb : min p r ≤ 0
  · rw [val_at vx (by omega) hb, val_at vy (by omega) hb, ← Int.add_mul]
    have h2 := two_pos (-min p r).toNat
    have e0 : (min p r).toNat = 0 := by omega
    rw [e0, Nat.pow_zero, Nat.mul_one]
    generalize (n + k) * 2 ^ (-min p r).toNat = A
    by_cases hz : A = 0
    · subst hz; simp
    · rw [if_neg hz]; by_cases hA : A < 0 <;> simp [hA] <;> omega
  · have a := val_pos vx (base := min p r) (by omega) (by omega)
    have b := val_pos vy (base := min p r) (by omega) (by omega)
    have e0 : (-min p r).toNat = 0 := by omega
    rw [e0, Int.pow_zero, Int.mul_one]
    conv => rhs; rw [← a, ← b, ← Int.add_mul]
    generalize signed s m (p - min p r).toNat + signed t q (r - min p r).toNat = A
    by_cases hz : A = 0
    · subst hz; simp
    · rw [if_neg hz]; by_cases hA : A < 0
      · simp only [hA, decide_true, if_true]; rw [Int.natCast_mul, ← Int.neg_mul]; rw [Int.natCast_pow]; show _ * _ = A * _; congr 1; omega
      · simp only [hA, decide_false, Bool.false_eq_true, if_false]; rw [Int.natCast_mul]; rw [Int.natCast_pow]; show _ * _ = A * _; congr 1; omega

theorem add_int {x y : Nat} {n k : Int} (hx : IsInt x n) (hy : IsInt y k) (h : (n + k).natAbs < 2 ^ 53) : ∃ r, floatBits .add .f64 x y = some r ∧ IsInt r (n + k) := by
  obtain ⟨s, m, p, ex, vx⟩ := hx
  obtain ⟨t, q, r, ey, vy⟩ := hy
  obtain ⟨d, ed, hd⟩ := sum_int vx vy (read_place ex) (read_place ey) h
  refine ⟨Ieee.double.write d, ?_, hd⟩
  show Ieee.double.add x y = _
  unfold Format.add
  rw [ex, ey, ed]; rfl

theorem sub_int {x y : Nat} {n k : Int} (hx : IsInt x n) (hy : IsInt y k) (h : (n - k).natAbs < 2 ^ 53) : ∃ r, floatBits .sub .f64 x y = some r ∧ IsInt r (n - k) := by
  obtain ⟨s, m, p, ex, vx⟩ := hx
  obtain ⟨t, q, r, ey, vy⟩ := hy
  obtain ⟨d, ed, hd⟩ := sum_int vx (opp_int vy) (read_place ex) (read_place ey) (by rw [← Int.sub_eq_add_neg]; exact h)
  rw [← Int.sub_eq_add_neg] at hd
  refine ⟨Ieee.double.write d, ?_, hd⟩
  show Ieee.double.sub x y = _
  unfold Format.sub
  rw [ex, ey]
  show ((Datum.number s m p).sum (Datum.number (!t) q r)).map _ = _
  rw [ed]; rfl

theorem cut_zero (s : Bool) (n drop : Nat) : Toward.zero.cut s n drop = n / 2 ^ drop := by
  unfold Toward.cut
  simp only [Nat.one_shiftLeft, Bool.toNat_false, Nat.add_zero]
  by_cases h : drop ≤ n.log2 + 2
  · rw [Nat.min_eq_left h]
  · rw [Nat.min_eq_right (by omega)]
    have a : n < 2 ^ (n.log2 + 1) := Nat.lt_log2_self
    have b : 2 ^ (n.log2 + 1) ≤ 2 ^ (n.log2 + 2) := Nat.pow_le_pow_right (by decide) (by omega)
    have c : 2 ^ (n.log2 + 1) ≤ 2 ^ drop := Nat.pow_le_pow_right (by decide) (by omega)
    rw [Nat.div_eq_of_lt (by omega), Nat.div_eq_of_lt (by omega)]

theorem toInt_number {x m : Nat} {s : Bool} {p : Int} (h : Ieee.double.read x = .number s m p) :
    (FloatKind.f64.decode x).toInt .zero = some (signed s (m * 2 ^ p.toNat / 2 ^ (-p).toNat) 0) := by
  show (Ieee.double.read x).toInt .zero = _
  rw [h]
  simp only [Datum.toInt, Datum.integral, cut_zero, Nat.shiftLeft_eq]

theorem toInt_int {x : Nat} {n : Int} (hx : IsInt x n) (h : -9223372036854775808 ≤ n) (h' : n ≤ 9223372036854775807) : floatToIntVal .f64 x .i64 = some n := by
  obtain ⟨s, m, p, ex, vx⟩ := hx
  unfold floatToIntVal
  rw [toInt_number ex, val_abs vx, Nat.mul_div_cancel _ (Nat.two_pow_pos _), signed_of, Nat.pow_zero, Nat.mul_one, ← val_sign vx]
  simp only
  rw [if_pos]
  exact ⟨h, h'⟩

theorem isInt_zero : IsInt 0 0 := ⟨false, 0, -1074, rfl, by unfold Val; rw [Int.zero_mul]; simp [signed]⟩

/-- a float from 0 to below a whole number is cut to a whole number from 0 to below it -/
theorem trunc_lt {x y : Nat} {n : Int} (h0 : Ieee.double.order x 0 = some .gt ∨ Ieee.double.order x 0 = some .eq) (hy : IsInt y n) (h : Ieee.double.order x y = some .lt) (hn : n ≤ 9223372036854775807) :
    ∃ c, floatToIntVal .f64 x .i64 = some c ∧ 0 ≤ c ∧ c < n := by
  obtain ⟨t, q, r, ey, vy⟩ := hy
  unfold Format.order at h0 h
  have e0 : Ieee.double.read 0 = .number false 0 (-1074) := rfl
  rw [e0] at h0
  rw [ey] at h
  cases ex : Ieee.double.read x with
  | nan a b => rw [ex] at h0; simp [Datum.order] at h0
  | infinity a =>
    rw [ex] at h0 h
    cases a <;> simp [Datum.order] at h0 h
  | number s m p =>
    rw [ex] at h0 h
    simp only [Datum.order, Option.some.injEq] at h0 h
    have hz : ∀ k, signed false 0 k = 0 := fun k => by simp [signed]
    rw [hz] at h0
    have hA : 0 ≤ signed s m (p - min p (-1074)).toNat := by
      rcases h0 with h0 | h0
      · have := Int.compare_eq_gt.1 h0; omega
      · have := Int.compare_eq_eq.1 h0; omega
    have hB := Int.compare_eq_lt.1 h
    have hs : ∀ k, signed s m k = ((m * 2 ^ k : Nat) : Int) := by
      intro k
      rw [signed_of] at hA ⊢
      cases s
      · simp
      · simp only [if_true] at hA ⊢
        have hm : m = 0 := by
          rcases Nat.eq_zero_or_pos m with e | e
          · exact e
          · have := Nat.mul_pos e (Nat.two_pow_pos (p - min p (-1074)).toNat); omega
        subst hm; simp
    have hC : (m : Int) * 2 ^ p.toNat < n * 2 ^ (-p).toNat := by
      by_cases hb : min p r ≤ 0
      · rw [val_at vy (by omega) hb, hs] at hB
        by_cases hp : 0 ≤ p
        · have e1 : (p - min p r).toNat = p.toNat + (-min p r).toNat := by omega
          have e2 : (-p).toNat = 0 := by omega
          rw [e1, Nat.pow_add, ← Nat.mul_assoc] at hB
          rw [e2]
          have := Int.lt_of_mul_lt_mul_right (a := (-min p r).toNat |> fun k => (2 : Int) ^ k) (b := (m : Int) * 2 ^ p.toNat) (c := n) (by simpa using hB) (Int.le_of_lt (two_pos _))
          simpa using this
        · have e1 : (-min p r).toNat = (-p).toNat + (p - min p r).toNat := by omega
          have e2 : p.toNat = 0 := by omega
          rw [e1, Int.pow_add, ← Int.mul_assoc] at hB
          rw [e2]
          have := Int.lt_of_mul_lt_mul_right (a := (2 : Int) ^ (p - min p r).toNat) (b := (m : Int)) (c := n * 2 ^ (-p).toNat) (by simpa using hB) (Int.le_of_lt (two_pos _))
          simpa using this
      · have b := val_pos vy (base := min p r) (by omega) (by omega)
        have e2 : (-p).toNat = 0 := by omega
        have e1 : p.toNat = (p - min p r).toNat + (min p r).toNat := by omega
        rw [hs] at hB
        rw [e2, ← b, e1, Int.pow_add, ← Int.mul_assoc]
        simpa using Int.mul_lt_mul_of_pos_right hB (two_pos (min p r).toNat)
    unfold floatToIntVal
    rw [toInt_number ex]
    have hq : signed s (m * 2 ^ p.toNat / 2 ^ (-p).toNat) 0 = ((m * 2 ^ p.toNat / 2 ^ (-p).toNat : Nat) : Int) := by
      rw [signed_of]
      cases s
      · simp
      · have := hs 0
        rw [signed_of] at this
        simp only [if_true, Nat.pow_zero, Nat.mul_one] at this
        have hm : m = 0 := by omega
        subst hm; simp
    rw [hq]
    simp only
    have hD : m * 2 ^ p.toNat / 2 ^ (-p).toNat < n.toNat := by
      rw [Nat.div_lt_iff_lt_mul (Nat.two_pow_pos _)]
      have hn0 : 0 ≤ n := by
        rcases Int.lt_or_le n 0 with hn0 | hn0
        · have := Int.mul_neg_of_neg_of_pos hn0 (two_pos (-p).toNat)
          have : (0 : Int) ≤ (m : Int) * 2 ^ p.toNat := Int.mul_nonneg (by omega) (Int.le_of_lt (two_pos _))
          omega
        · exact hn0
      have : ((n.toNat : Nat) : Int) = n := by omega
      have hC' : ((m * 2 ^ p.toNat : Nat) : Int) < ((n.toNat * 2 ^ (-p).toNat : Nat) : Int) := by
        simpa [this] using hC
      omega
    generalize m * 2 ^ p.toNat / 2 ^ (-p).toNat = c at hD
    refine ⟨(c : Int), ?_, by omega, by omega⟩
    rw [if_pos]
    exact ⟨by show (-9223372036854775808 : Int) ≤ _; omega, by show _ ≤ (9223372036854775807 : Int); omega⟩

/-- a float that is its own whole part -/
theorem isInt_of_eq {x : Nat} {c : Int} (hc : c.natAbs < 2 ^ 53) (h : Ieee.double.order (FloatKind.f64.nearest c) x = some .eq) : IsInt x c := by
  obtain ⟨s, m, p, ex, vx⟩ := ofInt c hc
  unfold Format.order at h
  rw [ex] at h
  cases ey : Ieee.double.read x with
  | nan a b => rw [ey] at h; simp [Datum.order] at h
  | infinity a => rw [ey] at h; cases a <;> simp [Datum.order] at h
  | number t q r =>
    rw [ey] at h
    simp only [Datum.order, Option.some.injEq] at h
    have h := Int.compare_eq_eq.1 h
    refine ⟨t, q, r, ey, ?_⟩
    unfold Val
    by_cases hb : min p r ≤ 0
    · rw [val_at vx (by omega) hb] at h
      by_cases hp : 0 ≤ r
      · have e1 : (r - min p r).toNat = r.toNat + (-min p r).toNat := by omega
        have e2 : (-r).toNat = 0 := by omega
        rw [e1, signed_mul] at h
        rw [e2, ← Int.eq_of_mul_eq_mul_right (Int.ne_of_gt (two_pos _)) h]; simp
      · have e1 : (-min p r).toNat = (-r).toNat + (r - min p r).toNat := by omega
        have e2 : r.toNat = 0 := by omega
        have e3 := signed_mul t q 0 (r - min p r).toNat
        rw [Nat.zero_add] at e3
        rw [e1, Int.pow_add, ← Int.mul_assoc, e3] at h
        rw [e2]
        exact (Int.eq_of_mul_eq_mul_right (Int.ne_of_gt (two_pos _)) h).symm
    · have a := val_pos vx (base := min p r) (by omega) (by omega)
      have e1 : r.toNat = (r - min p r).toNat + (min p r).toNat := by omega
      have e2 : (-r).toNat = 0 := by omega
      rw [e1, e2, signed_mul, ← h, a]; simp
end Go.FInt
