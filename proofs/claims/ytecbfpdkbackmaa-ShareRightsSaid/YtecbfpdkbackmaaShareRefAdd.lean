/- Layer share: the document's own Add; no memory in sight. -/
import Derived.Test.YtecbfpdkbackmaaShareRef
import Derived.Test.YtecbfpdkbackmaaP11x7
namespace Go.Proofs.Ytecbfpdkbackmaa.Share
open Go.RowKit Go.Proofs.Ytecbfpdkbackmaa.P11 Go.Proofs.YtecbfpdkbackmaaW.PrintWords Go.Proofs.YtecbfpdkbackmaaW.PrintLast Go.Proofs.YtecbfpdkbackmaaW.PrintMore
set_option linter.unusedVariables false
set_option linter.unusedSimpArgs false

theorem refFind_loop (l : List S27) (hl : l.length ≤ 4096) (c h : Int) : ∀ (n k i : Nat), i ≤ l.length → l.length - i ≤ n → n < k → (∀ x ∈ l.take i, keyB c h x = false) →
    (lamellaref11_Find.l0 k l c h i = some (-1) ∧ ∀ x ∈ l, keyB c h x = false) ∨ ∃ t, ∃ ht : t < l.length, lamellaref11_Find.l0 k l c h i = some (t : Int) ∧ keyB c h l[t] = true ∧ ∀ x ∈ l.take t, keyB c h x = false := by
  intro n
  induction n with
  | zero =>
    intro k i hi hn hk hall
    obtain ⟨k, rfl⟩ : ∃ m, k = m + 1 := ⟨k - 1, by omega⟩
    left
    refine ⟨?_, fun x hx => hall x (by rw [List.take_of_length_le (by omega)]; exact hx)⟩
    simp only [lamellaref11_Find.l0]
    rw [if_neg (by omega)]
  | succ n ih =>
    intro k i hi hn hk hall
    by_cases hlt : i < l.length
    · obtain ⟨k, rfl⟩ : ∃ m, k = m + 1 := ⟨k - 1, by omega⟩
      simp only [lamellaref11_Find.l0]
      rw [if_pos (by omega), if_pos (by omega), rd_get l i hlt, w64 ((i : Int) + 1) (by omega)]
      by_cases hk : keyB c h l[i] = true
      · have hk' := hk
        unfold keyB at hk'
        simp only [Bool.and_eq_true, beq_iff_eq] at hk'
        rw [if_pos hk'.1, if_pos hk'.2]
        exact .inr ⟨i, hlt, rfl, hk, hall⟩
      · have hk2 : keyB c h l[i] = false := by simpa using hk
        have next := ih k (i + 1) (by omega) (by omega) (by omega) (fun x hx => by
          rw [List.take_succ_eq_append_getElem hlt, List.mem_append] at hx
          rcases hx with hx | hx
          · exact hall x hx
          · rw [List.mem_singleton.1 hx]; exact hk2)
        have e : (if l[i].f0 = c then if l[i].f1 = h then some (i : Int) else lamellaref11_Find.l0 k l c h ((i : Int) + 1) else lamellaref11_Find.l0 k l c h ((i : Int) + 1)) = lamellaref11_Find.l0 k l c h ((i + 1 : Nat) : Int) := by
          by_cases h1 : l[i].f0 = c
          · rw [if_pos h1]
            by_cases h2 : l[i].f1 = h
            · exfalso; unfold keyB at hk2; rw [h1, h2] at hk2; simp at hk2
            · rw [if_neg h2]; rfl
          · rw [if_neg h1]; rfl
        rw [e]; exact next
    · exact ih k i hi (by omega) (by omega) hall
theorem refFind_f (l : List S27) (hl : l.length ≤ 4096) (c h : Int) (k : Nat) (hk : 4100 ≤ k) :
    (lamellaref11_Find.f k l c h = some (-1) ∧ (found l c h).2 = false) ∨ ∃ t, ∃ ht : t < l.length, lamellaref11_Find.f k l c h = some (t : Int) ∧ found l c h = (l[t], true) ∧ ∀ x ∈ l.take t, keyB c h x = false := by
  unfold lamellaref11_Find.f
  rcases refFind_loop l hl c h 4096 k 0 (Nat.zero_le _) (by omega) (by omega) (fun x hx => by simp at hx) with ⟨e, g⟩ | ⟨t, ht, e, g, g2⟩
  · exact .inl ⟨e, found_yes g⟩
  · refine .inr ⟨t, ht, e, ?_, g2⟩
    unfold found
    have : l.find? (keyB c h) = some l[t] := by
      rw [List.find?_eq_some_iff_getElem]
      refine ⟨g, t, ht, rfl, fun j hj => ?_⟩
      rw [g2 _ (by rw [List.mem_take_iff_getElem]; exact ⟨j, by omega, rfl⟩)]; rfl
    rw [this]

/-- where it goes -/
theorem ins_at {l : List S27} {o : S27} (hs : Strict l) (t : Nat) (ht : t ≤ l.length) (h1 : ∀ j (hj : j < l.length), j < t → lt l[j] o = true) (h2 : ∀ h : t < l.length, lt l[t] o = false) : insO l o = l.take t ++ o :: l.drop t := by
  have ha : (l.take t).filter (fun x => lt x o) = l.take t := List.filter_eq_self.2 (fun x hx => by
    rw [List.mem_take_iff_getElem] at hx
    obtain ⟨j, hj, rfl⟩ := hx
    exact h1 j (by omega) (by omega))
  have hb0 : ∀ x ∈ l.drop t, lt x o = false := fun x hx => by
    rw [List.mem_drop_iff_getElem] at hx
    obtain ⟨j, hj, rfl⟩ := hx
    cases e : lt l[t + j] o with
    | false => rfl
    | true =>
      have h3 := h2 (by omega)
      by_cases hj0 : j = 0
      · subst hj0; simp only [Nat.add_zero] at e; rw [h3] at e; cases e
      · unfold Strict at hs
        rw [List.pairwise_iff_getElem] at hs
        have := lt_trans (hs t (t + j) (by omega) (by omega) (by omega)) e
        rw [h3] at this; cases this
  have hb : (l.drop t).filter (fun x => lt x o) = [] := List.filter_eq_nil_iff.2 (fun x hx => by rw [hb0 x hx]; simp)
  have hc : (l.take t).filter (fun x => !lt x o) = [] := List.filter_eq_nil_iff.2 (fun x hx => by
    rw [List.mem_take_iff_getElem] at hx
    obtain ⟨j, hj, rfl⟩ := hx
    rw [h1 j (by omega) (by omega)]; simp)
  have hd : (l.drop t).filter (fun x => !lt x o) = l.drop t := List.filter_eq_self.2 (fun x hx => by rw [hb0 x hx]; rfl)
  unfold insO
  conv => lhs; rw [← List.take_append_drop t l]
  rw [List.filter_append, List.filter_append, ha, hb, hc, hd]; simp

section
variable (l : List S27) (o : S27) (hl : l.length ≤ 12)
include hl
theorem place_loop (hs : Strict l) : ∀ (n k t : Nat), t ≤ l.length → l.length - t ≤ n → n < k → (∀ j (hj : j < l.length), j < t → lt l[j] o = true) → lamellaref11_Add.l1 k l t o.f0 o.f1 o.f2 o.f3 o.f4 = some (insO l o, 0) := by
  have fin : ∀ t : Nat, t ≤ l.length → insO l o = l.take t ++ o :: l.drop t → ((some (l.take (t : Int).toNat : List S27)).bind fun y183 => (if ([] : List S27).length + y183.length < 7036874417766 then ((some (([] : List S27) ++ y183 : List S27)).bind fun y187 => (if y187.length < 7036874417766 then ((some (y187 ++ [(⟨o.f0, o.f1, o.f2, o.f3, o.f4⟩ : S27)] : List S27)).bind fun y190 => ((some (l.drop (t : Int).toNat : List S27)).bind fun y193 => (if y190.length + y193.length < 7036874417766 then (some ((y190 ++ y193), (0 : Int))) else (none)))) else (none))) else (none))) = some (insO l o, 0) := by
    intro t ht e
    have htl : (l.take t).length = t := by simp; omega
    simp only [Option.bind_some, Int.toNat_natCast, List.nil_append, List.length_nil, Nat.zero_add]
    rw [if_pos (by omega), if_pos (by omega), if_pos (by simp; omega), e]
    simp
  have last : ∀ (k t : Nat), ¬ t < l.length → t ≤ l.length → (∀ j (hj : j < l.length), j < t → lt l[j] o = true) → lamellaref11_Add.l1 (k + 1) l t o.f0 o.f1 o.f2 o.f3 o.f4 = some (insO l o, 0) := by
    intro k t ht htl hall
    simp only [lamellaref11_Add.l1]
    rw [if_neg (by omega), if_pos (by omega), if_pos (by omega)]
    exact fin t htl (ins_at hs t htl hall (fun h => absurd h ht))
  intro n
  induction n with
  | zero =>
    intro k t htl hn hk hall
    obtain ⟨k, rfl⟩ : ∃ m, k = m + 1 := ⟨k - 1, by omega⟩
    exact last k t (by omega) htl hall
  | succ n ih =>
    intro k t htl hn hk hall
    obtain ⟨k, rfl⟩ : ∃ m, k = m + 1 := ⟨k - 1, by omega⟩
    by_cases hlt : t < l.length
    · simp only [lamellaref11_Add.l1]
      rw [if_pos (by omega), if_pos (by omega), refLess_f, rd_get l t hlt]
      simp only [Option.bind_some]
      by_cases c : lt l[t] o = true
      · rw [if_pos c, w64 _ (by omega)]
        exact ih k (t + 1) (by omega) (by omega) (by omega) (fun j hj hjt => by
          by_cases e : j = t
          · subst e; exact c
          · exact hall j hj (by omega))
      · rw [if_neg c, if_pos (by omega)]
        exact fin t htl (ins_at hs t htl hall (fun _ => by simpa using c))
    · exact last k t hlt htl hall
theorem deny_loop (hr : RightL l) (hn : ∀ x ∈ l, Nn x) (no : Nn o) (h1 : oneB o = true) : ∀ (n k t : Nat), t ≤ l.length → l.length - t ≤ n → n + 20 < k → (∀ x ∈ l.take t, clashB x o = false) →
    lamellaref11_Add.l0 k l t o.f0 o.f1 o.f2 o.f3 o.f4 = some (if l.any (fun x => clashB x o) = true then ([], 13) else (insO l o, 0)) := by
  have last : ∀ (k t : Nat), ¬ t < l.length → t ≤ l.length → 15 < k → (∀ x ∈ l.take t, clashB x o = false) → lamellaref11_Add.l0 (k + 1) l t o.f0 o.f1 o.f2 o.f3 o.f4 = some (if l.any (fun x => clashB x o) = true then ([], 13) else (insO l o, 0)) := by
    intro k t ht htl hk hall
    have e : l.any (fun x => clashB x o) = false := by
      rw [List.any_eq_false]
      intro x hx
      rw [hall x (by rw [List.take_of_length_le (by omega)]; exact hx)]; simp
    rw [e, if_neg (by decide)]
    simp only [lamellaref11_Add.l0]
    rw [if_neg (by omega)]
    exact place_loop l o hl hr.strict 12 k 0 (Nat.zero_le _) (by omega) (by omega) (fun j hj hj0 => by omega)
  intro n
  induction n with
  | zero =>
    intro k t htl hn0 hk hall
    obtain ⟨k, rfl⟩ : ∃ m, k = m + 1 := ⟨k - 1, by omega⟩
    exact last k t (by omega) htl (by omega) hall
  | succ n ih =>
    intro k t htl hn0 hk hall
    obtain ⟨k, rfl⟩ : ∃ m, k = m + 1 := ⟨k - 1, by omega⟩
    by_cases hlt : t < l.length
    · have hm := List.getElem_mem hlt
      simp only [lamellaref11_Add.l0]
      rw [if_pos (by omega), if_pos (by omega), rd_get l t hlt, refClash_f _ _ (hr.one _ hm) h1 (hn _ hm) no]
      simp only [Option.bind_some]
      by_cases c : clashB l[t] o = true
      · rw [if_pos c, if_pos (by rw [List.any_eq_true]; exact ⟨_, hm, c⟩)]
      · rw [if_neg c, w64 _ (by omega)]
        exact ih k (t + 1) (by omega) (by omega) (by omega) (fun x hx => by
          rw [List.take_succ_eq_append_getElem hlt, List.mem_append] at hx
          rcases hx with hx | hx
          · exact hall x hx
          · rw [List.mem_singleton.1 hx]; simpa using c)
    · exact last k t hlt htl (by omega) hall
end

theorem refAdd_f (l : List S27) (o : S27) (hn : ∀ x ∈ l, Nn x) (no : Nn o) (k : Nat) (hk : 6000 ≤ k) : lamellaref11_Add.f (k + 2) l o.f0 o.f1 o.f2 o.f3 o.f4 = some (addF l o) := by
  unfold lamellaref11_Add.f
  rw [refRight_f l hn (k + 2) (by omega)]
  simp only [Option.bind_some]
  have bad : lamellaref11_Add.j0 (k + 2) l true o.f0 o.f1 o.f2 o.f3 o.f4 = some ([], 1) := by simp only [lamellaref11_Add.j0, if_true]
  unfold addF
  by_cases hr : rightB l = true
  · have hR := rightL_of hr
    have hl := hR.len
    rw [if_pos hr, if_pos hr, refOne_f o no]
    simp only [Option.bind_some]
    by_cases h1 : oneB o = true
    · rw [if_pos h1, h1]
      simp only [lamellaref11_Add.j0, Bool.not_true, Bool.false_eq_true, if_false]
      rcases refFind_f l (by omega) o.f0 o.f1 (k + 1) (by omega) with ⟨e, g⟩ | ⟨t, ht, e, g, _⟩
      · rw [e]
        simp only [Option.bind_some]
        rw [if_neg (show ¬ (-1 : Int) ≥ 0 by decide), if_neg (show ¬ (found l o.f0 o.f1).2 = true by rw [g]; decide)]
        have jt : lamellaref11_Add.j1 (k + 1) l true o.f0 o.f1 o.f2 o.f3 o.f4 = some ([], 16) := by simp only [lamellaref11_Add.j1, if_true]
        by_cases h12 : l.length = 12
        · rw [if_pos (by omega), if_pos h12, jt]
        · rw [if_neg (by omega), if_neg h12, refMine_f l (by omega) _ (k + 1) (by omega)]
          simp only [Option.bind_some]
          by_cases h4 : l.countP (fun x => x.f0 == o.f0) = 4
          · rw [if_pos h4, h4]; exact jt
          · rw [if_neg h4, beq_eq_false_iff_ne.2 (by omega)]
            simp only [lamellaref11_Add.j1, Bool.false_eq_true, if_false]
            exact deny_loop l o hl hR hn no h1 12 k 0 (Nat.zero_le _) (by omega) (by omega) (fun x hx => by simp at hx)
      · rw [e]
        simp only [Option.bind_some]
        rw [if_pos (show (t : Int) ≥ 0 by omega), if_pos (show (found l o.f0 o.f1).2 = true by rw [g])]
    · rw [if_neg h1, show oneB o = false by simpa using h1]; exact bad
  · rw [if_neg hr, if_neg hr]; exact bad
end Go.Proofs.Ytecbfpdkbackmaa.Share
