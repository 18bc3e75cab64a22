/- Layer stripe: what the document's own functions come to; no memory in sight. -/
import Derived.Test.YtaipmnelcpilaaaStripeFrags
import Derived.Test.YtaipmnelcpilaaaP06x9
namespace Go.Proofs.Ytaipmnelcpilaaa.P06
open Go.RowKit Go.Proofs.Ytaipmnelcpilaaa.Stripe Go.Proofs.YtaipmnelcpilaaaW.PrintWords Go.Proofs.YtaipmnelcpilaaaW.PrintLast Go.Proofs.YtaipmnelcpilaaaW.PrintMore
set_option linter.unusedVariables false
set_option linter.unusedSimpArgs false

theorem w64 (x : Int) (h : -9223372036854775808 ≤ x ∧ x ≤ 9223372036854775807) : wrap64 x = x := by unfold wrap64; omega

theorem rest_f (t n : Int) (h : 1 ≤ n) (hn : n ≤ 16) (ht : 0 ≤ t) : lamellaref01_Rest.f t n = some (t % n) := by
  have m := mod_bd t n h
  unfold lamellaref01_Rest.f
  rw [if_neg (by omega), Int.tmod_eq_emod_of_nonneg ht, if_neg (by omega)]

theorem refWhere_f (s u t x : Int) (hr : RightM s u t) (hx : 0 ≤ x) (hx2 : x ≤ 4096) : lamellaref06_Where.f s u t x = some (srvOf s u t x, atOf s u x) := by
  have ab := at_bd s u t x hr hx
  obtain ⟨s1, s2, u1, u2, t1, t2⟩ := hr
  have d := div_small x u u1 hx
  have d2 := div_small (x / u) s s1 d.1
  have m := mod_bd (x / u) s s1
  have mt := mod_bd t s s1
  have mr := mod_bd x u u1
  have m2 := mod_bd (x / u % s + t) s s1
  have e1 : x.tdiv u = x / u := Int.tdiv_eq_ediv_of_nonneg hx
  have e2 : (x / u).tdiv s = x / u / s := Int.tdiv_eq_ediv_of_nonneg d.1
  have e3 : x.tmod u = x % u := Int.tmod_eq_emod_of_nonneg hx
  have e4 : (x / u).tmod s = x / u % s := Int.tmod_eq_emod_of_nonneg d.1
  have e5 : t % s = t := Int.emod_eq_of_lt t1 t2
  have hp : 0 ≤ x / u / s * u := Int.mul_nonneg d2.1 (by omega)
  have hq : x / u / s * u ≤ 4096 := by unfold atOf at ab; omega
  unfold lamellaref06_Where.f lamellaref01_Server.f
  rw [if_neg (by omega), e1, w64 _ (by omega), if_neg (by omega), rest_f t s s1 s2 t1, e4, e5]
  simp only [Option.bind_some]
  rw [w64 _ (by omega), rest_f _ s s1 s2 (by omega)]
  simp only [Option.bind_some]
  rw [w64 _ (by omega), if_neg (by omega), e2, w64 (x / u / s) (by omega), w64 (x / u / s * u) (by omega), e3, w64 _ (by omega)]
  rfl

/-- 'Back' -/
theorem refBack_loop (s u t server a : Int) (hr : RightM s u t) :
    ∀ (d k : Nat) (x : Int), 0 ≤ x → x ≤ 1024 → (1024 - x).toNat ≤ d → d < k →
      (∃ y, x ≤ y ∧ y < 1024 ∧ srvOf s u t y = server ∧ atOf s u y = a ∧ lamellaref06_Back.l0 k server a x s u t = some y) ∨
      ((∀ y, x ≤ y → y < 1024 → ¬ (srvOf s u t y = server ∧ atOf s u y = a)) ∧ lamellaref06_Back.l0 k server a x s u t = some (-1)) := by
  intro d
  induction d with
  | zero =>
    intro k x h0 h1 hd hk
    obtain ⟨k, rfl⟩ : ∃ m, k = m + 1 := ⟨k - 1, by omega⟩
    right
    refine ⟨fun y a b => by omega, ?_⟩
    simp only [lamellaref06_Back.l0]
    rw [if_neg (by omega)]
  | succ d ih =>
    intro k x h0 h1 hd hk
    obtain ⟨k, rfl⟩ : ∃ m, k = m + 1 := ⟨k - 1, by omega⟩
    simp only [lamellaref06_Back.l0]
    by_cases hlt : x < 1024
    · rw [if_pos hlt, refWhere_f s u t x hr h0 (by omega), w64 _ (by omega)]
      simp only [Option.bind_some]
      by_cases c : srvOf s u t x = server ∧ atOf s u x = a
      · left
        rw [if_pos c.1, if_pos c.2]
        exact ⟨x, by omega, hlt, c.1, c.2, rfl⟩
      · have e : (if srvOf s u t x = server then (if atOf s u x = a then some x else lamellaref06_Back.l0 k server a (x + 1) s u t) else lamellaref06_Back.l0 k server a (x + 1) s u t) = lamellaref06_Back.l0 k server a (x + 1) s u t := by
          split
          · rename_i c1
            rw [if_neg (fun c2 => c ⟨c1, c2⟩)]
          · rfl
        rw [e]
        rcases ih k (x + 1) (by omega) (by omega) (by omega) (by omega) with ⟨y, a1, a2, a3, a4, a5⟩ | ⟨a1, a2⟩
        · exact .inl ⟨y, by omega, a2, a3, a4, a5⟩
        · refine .inr ⟨fun y b1 b2 => ?_, a2⟩
          by_cases g : y = x
          · subst g; exact c
          · exact a1 y (by omega) b2
    · right
      refine ⟨fun y a b => by omega, ?_⟩
      rw [if_neg hlt]

theorem refBack_f (s u t server a : Int) (hr : RightM s u t) (k : Nat) (hk : 1030 ≤ k) :
    lamellaref06_Back.f k s u t server a = some (if MayAt s u t server a ∧ backOf s u t server a < 1024 then backOf s u t server a else -1) := by
  unfold lamellaref06_Back.f
  rcases refBack_loop s u t server a hr 1024 k 0 (by omega) (by omega) (by omega) (by omega) with ⟨y, a1, a2, a3, a4, a5⟩ | ⟨a1, a2⟩
  · have e := back_where s u t y hr a1
    rw [a3, a4] at e
    have b := srv_bd s u t y hr
    have c := at_bd s u t y hr a1
    rw [a5, e, if_pos ⟨⟨hr, by omega, by omega, by omega, by omega⟩, a2⟩]
  · rw [a2, if_neg]
    rintro ⟨⟨_, b1, b2, b3, b4⟩, b5⟩
    have w := where_back s u t server a hr.1 hr.2.2.1 b1 b2 b3
    exact a1 _ w.1 b5 w.2

/-- 'Length' -/
theorem refLength_loop (s u t server size : Int) (hr : RightM s u t) (h1 : 1 ≤ server) (h2 : server ≤ s) (hs : size ≤ 1024) :
    ∀ (d k : Nat) (x n : Int), 0 ≤ x → x ≤ size → (size - x).toNat ≤ d → d < k → n = lenOf s u t server x → lamellaref06_Length.l0 k server size n x s u t = some (lenOf s u t server size) := by
  intro d
  induction d with
  | zero =>
    intro k x n h0 hx hd hk hn
    obtain ⟨k, rfl⟩ : ∃ m, k = m + 1 := ⟨k - 1, by omega⟩
    obtain rfl : x = size := by omega
    simp only [lamellaref06_Length.l0]
    rw [if_neg (by omega), hn]
  | succ d ih =>
    intro k x n h0 hx hd hk hn
    obtain ⟨k, rfl⟩ : ∃ m, k = m + 1 := ⟨k - 1, by omega⟩
    simp only [lamellaref06_Length.l0]
    by_cases hlt : x < size
    · have ab := at_bd s u t x hr h0
      rw [if_pos hlt, refWhere_f s u t x hr h0 (by omega), w64 (x + 1) (by omega)]
      simp only [Option.bind_some]
      rw [w64 (atOf s u x + 1) (by omega)]
      have hm := len_mono s u t server x (x + 1) hr h1 h2 h0 (by omega)
      by_cases c : srvOf s u t x = server
      · have o := len_over s u t server (x + 1) x hr h1 h2 h0 (by omega) c
        have hle : lenOf s u t server x ≤ atOf s u x := by
          rcases len_met s u t server x hr h1 h2 h0 with g | ⟨y, y1, y2, y3, y4⟩
          · omega
          · have := at_mono s u t y x hr.1 hr.2.2.1 y1 (y3.trans c.symm) y2; omega
        have heq : lenOf s u t server (x + 1) = atOf s u x + 1 := by
          rcases len_met s u t server (x + 1) hr h1 h2 (by omega) with g | ⟨y, y1, y2, y3, y4⟩
          · omega
          · rcases Int.lt_or_le y x with g | g
            · have := at_mono s u t y x hr.1 hr.2.2.1 y1 (y3.trans c.symm) g; omega
            · obtain rfl : y = x := by omega
              omega
        rw [if_pos c, if_pos (by omega)]
        exact ih k (x + 1) _ (by omega) (by omega) (by omega) (by omega) heq.symm
      · rw [if_neg c]
        refine ih k (x + 1) n (by omega) (by omega) (by omega) (by omega) ?_
        rw [hn]
        rcases len_met s u t server (x + 1) hr h1 h2 (by omega) with g | ⟨y, y1, y2, y3, y4⟩
        · have := (len_bd s u t server x hr h1 h2 h0).1; omega
        · have hy : y ≠ x := fun e => c (e ▸ y3)
          have := len_over s u t server x y hr h1 h2 y1 (by omega) y3; omega
    · obtain rfl : x = size := by omega
      rw [if_neg hlt, hn]

theorem refLength_f (s u t server size : Int) (hr : RightM s u t) (h1 : 1 ≤ server) (h2 : server ≤ s) (h0 : 0 ≤ size) (hs : size ≤ 1024) (k : Nat) (hk : 1030 ≤ k) : lamellaref06_Length.f k s u t server size = some (lenOf s u t server size) := by
  unfold lamellaref06_Length.f
  exact refLength_loop s u t server size hr h1 h2 hs 1024 k 0 0 (by omega) h0 (by omega) (by omega) (by unfold lenOf; rw [if_pos rfl])

/-! ### the fragments byte by byte -/
theorem rd_T38_append (l : List S38) (x : S38) : rd_T38 (l ++ [x]) (((l ++ [x]).length : Int) - 1) = x := by
  unfold rd_T38
  have : ((((l ++ [x]).length : Nat) : Int) - 1).toNat = l.length := by simp
  rw [this]; simp [List.getD]

theorem Good.at_len {s u t off len : Int} {at' : Int} {l : List S38} (h : Good s u t off len at' l) : at' ≤ len := by
  cases h with
  | nil => exact Int.le_refl _
  | cons _ _ _ h _ => omega

/-- one byte more in the last unit -/
theorem good_grow (s u t off len : Int) (hu : 1 ≤ u) (hm : ¬ (off + len) % u = 0) : ∀ (l : List S38) (at' : Int) (x : S38), Good s u t off len at' (l ++ [x]) → Good s u t off (len + 1) at' (l ++ [⟨x.f0, x.f1, x.f2, x.f3 + 1⟩]) ∧ 0 ≤ x.f3 ∧ x.f3 ≤ len
  | [], at', x, h => by
    cases h with
    | cons _ _ h0 h1 h2 =>
      have m := mod_bd (off + at') u hu
      have m2 := mod_bd (off + len) u hu
      have hend : at' + min (u - (off + at') % u) (len - at') = len := by
        generalize hz : at' + min (u - (off + at') % u) (len - at') = z at h2
        cases h2; rfl
      have hlt : len - at' < u - (off + at') % u := by
        rcases Int.lt_or_le (len - at') (u - (off + at') % u) with g | g
        · exact g
        · have g2 : len - at' = u - (off + at') % u := by omega
          have := (next_unit (off + at') u hu).2
          rw [← g2, show off + at' + (len - at') = off + len by omega] at this
          exact absurd this hm
      refine ⟨?_, by simp [frag]; omega, by simp [frag]; omega⟩
      have g := Good.cons (s := s) (u := u) (t := t) (off := off) (len := len + 1) at' [] h0 (by omega) (by rw [show at' + min (u - (off + at') % u) (len + 1 - at') = len + 1 by omega]; exact Good.nil)
      have e : frag s u t off (len + 1) at' = ⟨(frag s u t off len at').f0, (frag s u t off len at').f1, (frag s u t off len at').f2, (frag s u t off len at').f3 + 1⟩ := by
        simp only [frag, S38.mk.injEq, true_and]; omega
      rw [e] at g
      exact g
  | y :: l, at', x, h => by
    cases h with
    | cons _ _ h0 h1 h2 =>
      have m := mod_bd (off + at') u hu
      have hl := h2.at_len
      have ne : at' + min (u - (off + at') % u) (len - at') < len := by
        generalize hz : at' + min (u - (off + at') % u) (len - at') = z at h2
        cases l with
        | nil => cases h2 with | cons _ _ _ q _ => exact q
        | cons _ _ => cases h2 with | cons _ _ _ q _ => exact q
      have ih := good_grow s u t off len hu hm l _ x h2
      have e : frag s u t off len at' = frag s u t off (len + 1) at' := by simp only [frag, S38.mk.injEq, true_and]; omega
      refine ⟨?_, ih.2⟩
      show Good s u t off (len + 1) at' (frag s u t off len at' :: (l ++ [_]))
      rw [e]
      refine Good.cons at' _ h0 (by omega) ?_
      rw [show min (u - (off + at') % u) (len + 1 - at') = min (u - (off + at') % u) (len - at') by omega]
      exact ih.1

/-- one byte more begins a unit -/
theorem good_snoc (s u t off len : Int) (hu : 1 ≤ u) : ∀ (l : List S38) (at' : Int), 0 ≤ at' → Good s u t off len at' l → (l ≠ [] → (off + len) % u = 0) → Good s u t off (len + 1) at' (l ++ [⟨srvOf s u t (off + len), atOf s u (off + len), len, 1⟩])
  | [], at', h0, h, hz => by
    cases h with
    | nil =>
      have m := mod_bd (off + len) u hu
      have e : frag s u t off (len + 1) len = ⟨srvOf s u t (off + len), atOf s u (off + len), len, 1⟩ := by simp only [frag, S38.mk.injEq, true_and]; omega
      rw [List.nil_append, ← e]
      refine Good.cons len [] h0 (by omega) ?_
      rw [show len + min (u - (off + len) % u) (len + 1 - len) = len + 1 by omega]
      exact Good.nil
  | y :: l, at', h0, h, hz0 => by
    have hz := hz0 (List.cons_ne_nil _ _)
    cases h with
    | cons _ _ _ h1 h2 =>
      have m := mod_bd (off + at') u hu
      have hl := h2.at_len
      have hn : u - (off + at') % u ≤ len - at' := by
        rcases Int.lt_or_le (len - at') (u - (off + at') % u) with g | g
        · have := (in_unit (off + at') u (len - at') hu (by omega) (by omega)).2
          rw [show off + at' + (len - at') = off + len by omega, hz] at this
          omega
        · exact g
      have e : frag s u t off len at' = frag s u t off (len + 1) at' := by simp only [frag, S38.mk.injEq, true_and]; omega
      rw [List.cons_append, e]
      refine Good.cons at' _ h0 (by omega) ?_
      rw [show min (u - (off + at') % u) (len + 1 - at') = min (u - (off + at') % u) (len - at') by omega]
      exact good_snoc s u t off len hu l _ (by omega) h2 (fun _ => hz)

theorem good_empty {s u t off len at' : Int} {l : List S38} (h : Good s u t off len at' l) (hl : at' < len) : l ≠ [] := by
  cases h with
  | nil => omega
  | cons => simp

theorem good_len {s u t off len : Int} (hu : 1 ≤ u) : ∀ {at' : Int} {l : List S38}, Good s u t off len at' l → (l.length : Int) ≤ len - at' := by
  intro at' l h
  induction h with
  | nil => simp
  | cons at' l h0 h1 h2 ih =>
    have m := mod_bd (off + at') u hu
    simp only [List.length_cons]; push_cast; omega

theorem refFrags_loop (s u t off len : Int) (hr : RightM s u t) (ho : 0 ≤ off) (hol : off + len ≤ 1024) :
    ∀ (d k : Nat) (i : Int) (out : List S38), 0 ≤ i → i ≤ len → (len - i).toNat ≤ d → d < k → Good s u t off i 0 out →
      ∃ l, lamellaref06_Frags.l0 k off len out i s u t = some l ∧ Good s u t off len 0 l := by
  have hu := hr.2.2.1
  intro d
  induction d with
  | zero =>
    intro k i out h0 h1 hd hk g
    obtain ⟨k, rfl⟩ : ∃ m, k = m + 1 := ⟨k - 1, by omega⟩
    obtain rfl : i = len := by omega
    refine ⟨out, ?_, g⟩
    simp only [lamellaref06_Frags.l0]
    rw [if_neg (by omega)]
  | succ d ih =>
    intro k i out h0 h1 hd hk g
    obtain ⟨k, rfl⟩ : ∃ m, k = m + 1 := ⟨k - 1, by omega⟩
    simp only [lamellaref06_Frags.l0]
    by_cases hlt : i < len
    · have gl := good_len hu g
      have e1 : wrap64 (off + i) = off + i := w64 _ (by omega)
      have e2 : (off + i).tmod u = (off + i) % u := Int.tmod_eq_emod_of_nonneg (by omega)
      rw [if_pos hlt, e1, e2, refWhere_f s u t (off + i) hr (by omega) (by omega), w64 (i + 1) (by omega)]
      simp only [Option.bind_some]
      have stepS : (out ≠ [] → (off + i) % u = 0) → ∃ l, lamellaref06_Frags.l0 k off len (out ++ [⟨srvOf s u t (off + i), atOf s u (off + i), i, 1⟩]) (i + 1) s u t = some l ∧ Good s u t off len 0 l := fun hz =>
        ih k (i + 1) _ (by omega) (by omega) (by omega) (by omega) (good_snoc s u t off i hu out 0 (by omega) g hz)
      rcases List.eq_nil_or_concat out with rfl | ⟨l, x, rfl⟩
      · rw [if_neg (by simp), if_pos (by simp)]
        exact stepS (fun h => absurd rfl h)
      · rw [List.concat_eq_append] at *
        rw [if_pos (by simp), if_neg (by omega)]
        by_cases hz : (off + i) % u = 0
        · rw [if_pos hz, if_pos (by omega)]
          exact stepS (fun _ => hz)
        · have gg := good_grow s u t off i hu hz l 0 x g
          have e3 : wrap64 ((((l ++ [x]).length : Nat) : Int) - 1) = (((l ++ [x]).length : Nat) : Int) - 1 := w64 _ (by omega)
          rw [if_neg hz, e3, if_pos (by simp), if_pos (by omega), rd_T38_append, w64 (x.f3 + 1) (by omega)]
          have e4 : (l ++ [x]).set ((((l ++ [x]).length : Nat) : Int) - 1).toNat ⟨x.f0, x.f1, x.f2, x.f3 + 1⟩ = l ++ [⟨x.f0, x.f1, x.f2, x.f3 + 1⟩] := by
            have : ((((l ++ [x]).length : Nat) : Int) - 1).toNat = l.length := by simp
            rw [this, List.set_append_right _ _ (Nat.le_refl _)]; simp
          rw [e4]
          exact ih k (i + 1) _ (by omega) (by omega) (by omega) (by omega) gg.1
    · obtain rfl : i = len := by omega
      refine ⟨out, ?_, g⟩
      rw [if_neg hlt]

theorem refFrags_f (s u t off len : Int) (h : MayReq s u t off len) (k : Nat) (hk : 1030 ≤ k) : ∃ l, lamellaref06_Frags.f k s u t off len = some l ∧ Good s u t off len 0 l := by
  obtain ⟨hr, h1, h2, h3, h4⟩ := h
  unfold lamellaref06_Frags.f
  exact refFrags_loop s u t off len hr h1 (by omega) 1024 k 0 [] (by omega) h2 (by omega) (by omega) Good.nil

theorem same_loop (l : List S38) (hl : l.length ≤ 4096) : ∀ (d k : Nat) (i : Int), 0 ≤ i → (l.length - i).toNat ≤ d → d < k → lamellaref06_Same.l0 k l l i = some true := by
  intro d
  induction d with
  | zero =>
    intro k i h0 hd hk
    obtain ⟨k, rfl⟩ : ∃ m, k = m + 1 := ⟨k - 1, by omega⟩
    simp only [lamellaref06_Same.l0]
    rw [if_neg (by omega)]
  | succ d ih =>
    intro k i h0 hd hk
    obtain ⟨k, rfl⟩ : ∃ m, k = m + 1 := ⟨k - 1, by omega⟩
    simp only [lamellaref06_Same.l0]
    by_cases hlt : i < (l.length : Int)
    · rw [if_pos hlt, if_pos h0, if_pos hlt, if_neg (by simp), w64 (i + 1) (by omega)]
      exact ih k (i + 1) (by omega) (by omega) (by omega)
    · rw [if_neg hlt]
theorem same_f (l : List S38) (hl : l.length ≤ 4096) (k : Nat) (hk : 5000 ≤ k) : lamellaref06_Same.f k l l = some true := by
  unfold lamellaref06_Same.f
  rw [if_pos rfl]
  exact same_loop l hl 4096 k 0 (by omega) (by omega) (by omega)

theorem refOk_f (off len : Int) : lamellaref06_Ok.f off len = some (decide (0 ≤ off ∧ 0 ≤ len ∧ off ≤ 1024 ∧ len ≤ 1024 - off)) := by
  unfold lamellaref06_Ok.f
  by_cases h : 0 ≤ off ∧ 0 ≤ len ∧ off ≤ 1024 ∧ len ≤ 1024 - off
  · rw [decide_eq_true h, if_pos (by omega), if_pos (by omega), if_pos (by omega), w64 (1024 - off) (by omega), decide_eq_true (by omega)]
  · rw [decide_eq_false h]
    split
    · split
      · split
        · rw [w64 (1024 - off) (by omega), decide_eq_false (by omega)]
        · rfl
      · rfl
    · rfl
end Go.Proofs.Ytaipmnelcpilaaa.P06
