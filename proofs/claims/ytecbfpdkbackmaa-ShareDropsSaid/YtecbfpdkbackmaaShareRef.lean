/- Layer share: what the document's own functions come to; no memory in sight. -/
import Derived.Test.YtecbfpdkbackmaaShareOpen
import Derived.Test.YtecbfpdkbackmaaP11x4
namespace Go.Proofs.Ytecbfpdkbackmaa.Share
open Go.RowKit Go.Proofs.Ytecbfpdkbackmaa.P11 Go.Proofs.YtecbfpdkbackmaaW.PrintWords Go.Proofs.YtecbfpdkbackmaaW.PrintLast Go.Proofs.YtecbfpdkbackmaaW.PrintMore
set_option linter.unusedVariables false
set_option linter.unusedSimpArgs false

theorem refOne_f (x : S27) (h : Nn x) : lamellaref11_One.f x.f0 x.f1 x.f2 x.f3 x.f4 = some (oneB x) := by
  obtain ⟨h0, h1, h2, h3, h4⟩ := h
  unfold lamellaref11_One.f oneB
  by_cases c0 : x.f0 = 0
  · rw [if_pos c0, decide_eq_false (by omega)]
  rw [if_neg c0]
  by_cases c2 : x.f2 = 0
  · rw [if_pos c2, decide_eq_false (by omega)]
  rw [if_neg c2]
  by_cases c3 : x.f3 ≥ 1
  · rw [if_pos c3]
    by_cases c4 : x.f3 ≤ 3
    · rw [if_pos c4]; congr 1; rw [Bool.eq_iff_iff]; simp; omega
    · rw [if_neg c4, decide_eq_false (by omega)]
  · rw [if_neg c3, decide_eq_false (by omega)]
theorem refLess_f (x y : S27) : lamellaref11_Less.f x.f0 x.f1 x.f2 x.f3 x.f4 y.f0 y.f1 y.f2 y.f3 y.f4 = some (lt x y) := by
  unfold lamellaref11_Less.f lt
  rw [lt_iff]
  by_cases h1 : x.f0 < y.f0
  · rw [if_pos h1, decide_eq_true (Or.inl h1)]
  · rw [if_neg h1]
    by_cases h2 : x.f0 = y.f0
    · rw [if_pos h2]; congr 1; rw [Bool.eq_iff_iff]; simp; omega
    · rw [if_neg h2, decide_eq_false (by omega)]
theorem bit_small (a b : Int) (ha : 0 ≤ a ∧ a ≤ 3) (hb : 0 ≤ b ∧ b ≤ 3) : lamellaref11_bit.f a b = some (!(Go.bits .and .u32 a b == 0)) := by
  obtain ⟨h1, h2⟩ := ha
  obtain ⟨h3, h4⟩ := hb
  have ea : a = 0 ∨ a = 1 ∨ a = 2 ∨ a = 3 := by omega
  have eb : b = 0 ∨ b = 1 ∨ b = 2 ∨ b = 3 := by omega
  rcases ea with rfl | rfl | rfl | rfl <;> rcases eb with rfl | rfl | rfl | rfl <;> decide +kernel
theorem one_bd {x : S27} (h : oneB x = true) (hn : Nn x) : (0 ≤ x.f3 ∧ x.f3 ≤ 3) ∧ (0 ≤ x.f4 ∧ x.f4 ≤ 3) := by
  unfold oneB at h
  simp only [decide_eq_true_eq] at h
  have := hn.2.2.2.2
  omega
theorem refClash_f (x y : S27) (hx : oneB x = true) (hy : oneB y = true) (nx : Nn x) (ny : Nn y) : lamellaref11_Clash.f x.f0 x.f1 x.f2 x.f3 x.f4 y.f0 y.f1 y.f2 y.f3 y.f4 = some (clashB x y) := by
  unfold lamellaref11_Clash.f clashB
  have bx := one_bd hx nx
  have b' := one_bd hy ny
  rw [bit_small _ _ bx.1 b'.2, bit_small _ _ b'.1 bx.2]
  simp only [Option.bind_some]
  by_cases h : x.f2 = y.f2
  · rw [if_pos h, beq_iff_eq.2 h]
    cases (!(Go.bits .and .u32 x.f3 y.f4 == 0)) <;> simp
  · rw [if_neg h, beq_eq_false_iff_ne.2 h]; rfl

theorem mine_loop (l : List S27) (hl : l.length ≤ 4096) (c : Int) : ∀ (n k i : Nat), i ≤ l.length → l.length - i ≤ n → n < k → lamellaref11_Mine.l0 k l c (((l.take i).countP (fun x => x.f0 == c) : Nat) : Int) i = some ((l.countP (fun x => x.f0 == c) : Nat) : Int) := by
  intro n
  induction n with
  | zero =>
    intro k i hi hn hk
    obtain ⟨k, rfl⟩ : ∃ m, k = m + 1 := ⟨k - 1, by omega⟩
    simp only [lamellaref11_Mine.l0]
    rw [if_neg (by omega), List.take_of_length_le (by omega)]
  | succ n ih =>
    intro k i hi hn hk
    by_cases hlt : i < l.length
    · obtain ⟨k, rfl⟩ : ∃ m, k = m + 1 := ⟨k - 1, by omega⟩
      have e := take_count (fun x => x.f0 == c) l i hlt
      have b : (l.take i).countP (fun x => x.f0 == c) ≤ i := Nat.le_trans List.countP_le_length (by simp; omega)
      have nx := ih k (i + 1) (by omega) (by omega) (by omega)
      simp only [lamellaref11_Mine.l0]
      rw [if_pos (by omega), if_pos (by omega), w64 ((i : Int) + 1) (by omega)]
      by_cases h : (rd_T27 l i).f0 = c
      · rw [if_pos h, w64 _ (by omega)]
        rw [e, if_pos (by simpa using h)] at nx
        exact nx
      · rw [if_neg h]
        rw [e, if_neg (by simpa using h)] at nx
        exact nx
    · exact ih k i hi (by omega) (by omega)
theorem refMine_f (l : List S27) (hl : l.length ≤ 4096) (c : Int) (k : Nat) (hk : 4100 ≤ k) : lamellaref11_Mine.f k l c = some ((l.countP (fun x => x.f0 == c) : Nat) : Int) := by
  unfold lamellaref11_Mine.f
  exact mine_loop l hl c 4096 k 0 (Nat.zero_le _) (by omega) (by omega)

/-- the inner loop: no clash with those ahead -/
theorem clash_loop (l : List S27) (hl : l.length ≤ 12) (hn : ∀ x ∈ l, Nn x) (i : Nat) (hi : i < l.length) (h1 : ∀ j : Nat, j ≤ i → oneB (rd_T27 l j) = true) : ∀ (n k j : Nat), j ≤ i → i - j ≤ n → n < k → (∀ t : Nat, t < j → clashB (rd_T27 l t) (rd_T27 l i) = false) →
    ∃ k', k ≤ k' + n + 1 ∧ lamellaref11_Right.l1 k l i j = (if (l.take i).any (fun x => clashB x (rd_T27 l i)) = true then some false else lamellaref11_Right.l0 k' l ((i + 1 : Nat) : Int)) := by
  have hm : ∀ t : Nat, t < l.length → Nn (rd_T27 l t) := fun t ht => by rw [rd_get l t ht]; exact hn _ (List.getElem_mem ht)
  have last : ∀ (k j : Nat), ¬ j < i → j ≤ i → (∀ t : Nat, t < j → clashB (rd_T27 l t) (rd_T27 l i) = false) → lamellaref11_Right.l1 (k + 1) l i j = (if (l.take i).any (fun x => clashB x (rd_T27 l i)) = true then some false else lamellaref11_Right.l0 k l ((i + 1 : Nat) : Int)) := by
    intro k j hj hji hall
    have e : (l.take i).any (fun x => clashB x (rd_T27 l i)) = false := by
      rw [List.any_eq_false]
      intro x hx
      rw [List.mem_take_iff_getElem] at hx
      obtain ⟨t, ht, rfl⟩ := hx
      have := hall t (by omega)
      rw [rd_get l t (by omega)] at this
      rw [this]; simp
    rw [e, if_neg (by decide)]
    simp only [lamellaref11_Right.l1]
    rw [if_neg (by omega), w64 _ (by omega)]; rfl
  intro n
  induction n with
  | zero =>
    intro k j hji hn0 hk hall
    obtain ⟨k, rfl⟩ : ∃ m, k = m + 1 := ⟨k - 1, by omega⟩
    exact ⟨k, by omega, last k j (by omega) hji hall⟩
  | succ n ih =>
    intro k j hji hn0 hk hall
    obtain ⟨k, rfl⟩ : ∃ m, k = m + 1 := ⟨k - 1, by omega⟩
    by_cases hj : j < i
    · have hc := refClash_f (rd_T27 l j) (rd_T27 l i) (h1 j (by omega)) (h1 i (Nat.le_refl _)) (hm j (by omega)) (hm i hi)
      by_cases c : clashB (rd_T27 l j) (rd_T27 l i) = true
      · refine ⟨k, by omega, ?_⟩
        have e : (l.take i).any (fun x => clashB x (rd_T27 l i)) = true := by
          rw [List.any_eq_true]
          refine ⟨l[j], ?_, ?_⟩
          · rw [List.mem_take_iff_getElem]; exact ⟨j, by omega, rfl⟩
          · rw [rd_get l j (by omega)] at c; exact c
        rw [e, if_pos rfl]
        simp only [lamellaref11_Right.l1]
        rw [if_pos (by omega), if_pos (by omega), if_pos (by omega), if_pos (by omega), if_pos (by omega), hc]
        simp only [Option.bind_some]
        rw [if_pos c]
      · have c' : clashB (rd_T27 l j) (rd_T27 l i) = false := by simpa using c
        obtain ⟨k', b1, b2⟩ := ih k (j + 1) (by omega) (by omega) (by omega) (fun t ht => by
          by_cases htj : t = j
          · subst htj; exact c'
          · exact hall t (by omega))
        refine ⟨k', by omega, ?_⟩
        rw [← b2]
        simp only [lamellaref11_Right.l1]
        rw [if_pos (by omega), if_pos (by omega), if_pos (by omega), if_pos (by omega), if_pos (by omega), hc]
        simp only [Option.bind_some]
        rw [if_neg c, w64 _ (by omega)]; rfl
    · exact ⟨k, by omega, last k j hj hji hall⟩

theorem right_loop (l : List S27) (hl : l.length ≤ 12) (hn : ∀ x ∈ l, Nn x) : ∀ (n k i : Nat), i ≤ l.length → l.length - i ≤ n → n * 20 + 5000 < k → (∀ j : Nat, j < i → rightAt l j = true) → lamellaref11_Right.l0 k l i = some (rightB l) := by
  have hm : ∀ t : Nat, t < l.length → Nn (rd_T27 l t) := fun t ht => by rw [rd_get l t ht]; exact hn _ (List.getElem_mem ht)
  intro n
  induction n with
  | zero =>
    intro k i hi hn0 hk hall
    obtain ⟨k, rfl⟩ : ∃ m, k = m + 1 := ⟨k - 1, by omega⟩
    simp only [lamellaref11_Right.l0]
    rw [if_neg (by omega), right_yes l hl (fun j hj => hall j (by omega))]
  | succ n ih =>
    intro k i hi hn0 hk hall
    obtain ⟨k, rfl⟩ : ∃ m, k = m + 2 := ⟨k - 2, by omega⟩
    by_cases hlt : i < l.length
    · have no : rightAt l i = false → rightB l = false := right_no l i hlt
      have jt : ∀ kk, lamellaref11_Right.j1 (kk + 1) l i true = some false := fun kk => by simp only [lamellaref11_Right.j1, if_true]
      simp only [lamellaref11_Right.l0]
      rw [if_pos (by omega), if_pos (by omega), refOne_f _ (hm i hlt)]
      simp only [Option.bind_some]
      by_cases c1 : oneB (rd_T27 l i) = true
      · rw [if_pos c1, refMine_f l (by omega) _ (k + 1) (by omega)]
        simp only [Option.bind_some]
        by_cases c2 : ((l.countP (fun x => x.f0 == (rd_T27 l i).f0) : Nat) : Int) > 4
        · rw [if_pos c2, jt, no (by unfold rightAt; rw [decide_eq_false (p := l.countP _ ≤ 4) (by omega)]; simp)]
        · rw [if_neg c2]
          have d2 : decide (l.countP (fun x => x.f0 == (rd_T27 l i).f0) ≤ 4) = true := decide_eq_true (by omega)
          have h1 : ∀ j : Nat, j ≤ i → oneB (rd_T27 l j) = true := fun j hj => by
            by_cases hji : j = i
            · subst hji; exact c1
            · have := hall j (by omega)
              unfold rightAt at this
              simp only [Bool.and_eq_true] at this
              exact this.1.1.1
          have fin : (decide (i = 0) || decide (cmpB (rd_T27 l ((i : Int) - 1)) (rd_T27 l i) < 0)) = true → lamellaref11_Right.j1 (k + 1) l i false = some (rightB l) := by
            intro d3
            simp only [lamellaref11_Right.j1, Bool.false_eq_true, if_false]
            obtain ⟨k', b1, b2⟩ := clash_loop l hl hn i hlt h1 12 k 0 (Nat.zero_le _) (by omega) (by omega) (fun t ht => by omega)
            have b2' : lamellaref11_Right.l1 k l i 0 = _ := b2
            rw [b2']
            by_cases c4 : (l.take i).any (fun x => clashB x (rd_T27 l i)) = true
            · rw [if_pos c4, no (by unfold rightAt; rw [c4]; simp)]
            · rw [if_neg c4]
              refine ih k' (i + 1) (by omega) (by omega) (by omega) (fun j hj => ?_)
              by_cases hji : j = i
              · subst hji
                unfold rightAt
                rw [c1, d2, d3, show (l.take j).any (fun x => clashB x (rd_T27 l j)) = false by simpa using c4]; rfl
              · exact hall j (by omega)
          by_cases c3 : (i : Int) > 0
          · rw [if_pos c3, w64 ((i : Int) - 1) (by omega), if_pos (by omega), if_pos (by omega), refLess_f]
            simp only [Option.bind_some]
            by_cases c5 : lt (rd_T27 l ((i : Int) - 1)) (rd_T27 l i) = true
            · rw [c5]
              refine fin ?_
              have : cmpB (rd_T27 l ((i : Int) - 1)) (rd_T27 l i) < 0 := by unfold lt ltOf at c5; simpa using c5
              rw [decide_eq_true this]; simp
            · have c5' : lt (rd_T27 l ((i : Int) - 1)) (rd_T27 l i) = false := by simpa using c5
              rw [c5']
              show lamellaref11_Right.j1 (k + 1) l i true = _
              have : ¬ cmpB (rd_T27 l ((i : Int) - 1)) (rd_T27 l i) < 0 := by unfold lt ltOf at c5'; simpa using c5'
              rw [jt, no (by unfold rightAt; rw [decide_eq_false this, decide_eq_false (p := i = 0) (by omega)]; simp)]
          · rw [if_neg c3]
            exact fin (by rw [decide_eq_true (p := i = 0) (by omega)]; rfl)
      · rw [if_neg c1, jt, no (by unfold rightAt; rw [show oneB (rd_T27 l i) = false by simpa using c1]; rfl)]
    · exact ih (k + 2) i hi (by omega) (by omega) hall
theorem refRight_f (l : List S27) (hn : ∀ x ∈ l, Nn x) (k : Nat) (hk : 5500 ≤ k) : lamellaref11_Right.f k l = some (rightB l) := by
  unfold lamellaref11_Right.f
  by_cases h : (l.length : Int) > 12
  · rw [if_pos h]
    have : rightB l = false := by unfold rightB; rw [decide_eq_false (by omega)]; rfl
    rw [this]
  · rw [if_neg h]
    exact right_loop l (by omega) hn 12 k 0 (Nat.zero_le _) (by omega) (by omega) (fun j hj => by omega)
theorem refFind_loop (l : List S27) (hl : l.length ≤ 4096) (c h : Int) : ∀ (n k i : Nat), i ≤ l.length → l.length - i ≤ n → n < k → (∀ x ∈ l.take i, keyB c h x = false) →
    (lamellaref11_Find.l0 k l c h i = some (-1) ∧ ∀ x ∈ l, keyB c h x = false) ∨ ∃ t, ∃ ht : t < l.length, lamellaref11_Find.l0 k l c h i = some (t : Int) ∧ keyB c h l[t] = true ∧ ∀ x ∈ l.take t, keyB c h x = false := by
  intro n
  induction n with
  | zero =>
    intro k i hi hn hk hall
    obtain ⟨k, rfl⟩ : ∃ m, k = m + 1 := ⟨k - 1, by omega⟩
    left
    refine ⟨?_, fun x hx => hall x (by rw [List.take_of_length_le (by omega)]; exact hx)⟩
    simp only [lamellaref11_Find.l0]
    rw [if_neg (by omega)]
  | succ n ih =>
    intro k i hi hn hk hall
    by_cases hlt : i < l.length
    · obtain ⟨k, rfl⟩ : ∃ m, k = m + 1 := ⟨k - 1, by omega⟩
      simp only [lamellaref11_Find.l0]
      rw [if_pos (by omega), if_pos (by omega), rd_get l i hlt, w64 ((i : Int) + 1) (by omega)]
      by_cases hk : keyB c h l[i] = true
      · have hk' := hk
        unfold keyB at hk'
        simp only [Bool.and_eq_true, beq_iff_eq] at hk'
        rw [if_pos hk'.1, if_pos hk'.2]
        exact .inr ⟨i, hlt, rfl, hk, hall⟩
      · have hk2 : keyB c h l[i] = false := by simpa using hk
        have next := ih k (i + 1) (by omega) (by omega) (by omega) (fun x hx => by
          rw [List.take_succ_eq_append_getElem hlt, List.mem_append] at hx
          rcases hx with hx | hx
          · exact hall x hx
          · rw [List.mem_singleton.1 hx]; exact hk2)
        have e : (if l[i].f0 = c then if l[i].f1 = h then some (i : Int) else lamellaref11_Find.l0 k l c h ((i : Int) + 1) else lamellaref11_Find.l0 k l c h ((i : Int) + 1)) = lamellaref11_Find.l0 k l c h ((i + 1 : Nat) : Int) := by
          by_cases h1 : l[i].f0 = c
          · rw [if_pos h1]
            by_cases h2 : l[i].f1 = h
            · exfalso; unfold keyB at hk2; rw [h1, h2] at hk2; simp at hk2
            · rw [if_neg h2]; rfl
          · rw [if_neg h1]; rfl
        rw [e]; exact next
    · exact ih k i hi (by omega) (by omega) hall
theorem refFind_f (l : List S27) (hl : l.length ≤ 4096) (c h : Int) (k : Nat) (hk : 4100 ≤ k) :
    (lamellaref11_Find.f k l c h = some (-1) ∧ (found l c h).2 = false) ∨ ∃ t, ∃ ht : t < l.length, lamellaref11_Find.f k l c h = some (t : Int) ∧ found l c h = (l[t], true) ∧ ∀ x ∈ l.take t, keyB c h x = false := by
  unfold lamellaref11_Find.f
  rcases refFind_loop l hl c h 4096 k 0 (Nat.zero_le _) (by omega) (by omega) (fun x hx => by simp at hx) with ⟨e, g⟩ | ⟨t, ht, e, g, g2⟩
  · exact .inl ⟨e, found_yes g⟩
  · refine .inr ⟨t, ht, e, ?_, g2⟩
    unfold found
    have : l.find? (keyB c h) = some l[t] := by
      rw [List.find?_eq_some_iff_getElem]
      refine ⟨g, t, ht, rfl, fun j hj => ?_⟩
      rw [g2 _ (by rw [List.mem_take_iff_getElem]; exact ⟨j, by omega, rfl⟩)]; rfl
    rw [this]

end Go.Proofs.Ytecbfpdkbackmaa.Share
