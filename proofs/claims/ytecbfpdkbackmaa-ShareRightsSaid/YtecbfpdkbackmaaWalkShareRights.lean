/- Whether every list may be, and all that is asked of it, are the document's: the call returns true whatever the input. No condition. -/
import Derived.Test.YtecbfpdkbackmaaShareRefAdd
import Derived.Test.YtecbfpdkbackmaaP11x6
namespace Go.Proofs.Ytecbfpdkbackmaa.shareRights
open Go.RowKit Go.Sees Go.Proofs.Ytecbfpdkbackmaa.Share Go.Proofs.Ytecbfpdkbackmaa.P11 Go.Proofs.Ytecbfpdkbackmaa.Opens Go.Proofs.YtecbfpdkbackmaaW.PrintWords Go.Proofs.YtecbfpdkbackmaaW.PrintLast Go.Proofs.YtecbfpdkbackmaaW.PrintMore
set_option linter.unusedVariables false
set_option linter.unusedSimpArgs false

theorem uses_loop (l : List S27) (hl : l.length ≤ 4096) (c : Int) : ∀ (n k i : Nat), i ≤ l.length → l.length - i ≤ n → n < k → lamellaref11_Uses.l0 k l 0 c (((l.take i).countP (fun x => x.f2 == c) : Nat) : Int) i = some ((l.countP (fun x => x.f2 == c) : Nat) : Int) := by
  intro n
  induction n with
  | zero =>
    intro k i hi hn hk
    obtain ⟨k, rfl⟩ : ∃ m, k = m + 1 := ⟨k - 1, by omega⟩
    simp only [lamellaref11_Uses.l0]
    rw [if_neg (by omega), List.take_of_length_le (by omega)]
  | succ n ih =>
    intro k i hi hn hk
    by_cases hlt : i < l.length
    · obtain ⟨k, rfl⟩ : ∃ m, k = m + 1 := ⟨k - 1, by omega⟩
      have e := take_count (fun x => x.f2 == c) l i hlt
      have b : (l.take i).countP (fun x => x.f2 == c) ≤ i := Nat.le_trans List.countP_le_length (by simp; omega)
      have nx := ih k (i + 1) (by omega) (by omega) (by omega)
      simp only [lamellaref11_Uses.l0]
      rw [if_pos (by omega), if_pos (by omega), w64 ((i : Int) + 1) (by omega)]
      by_cases h : (rd_T27 l i).f2 = c
      · rw [if_pos h, w64 _ (by omega), if_pos trivial]
        rw [e, if_pos (by simpa using h)] at nx
        exact nx
      · rw [if_neg h]
        rw [e, if_neg (by simpa using h)] at nx
        exact nx
    · exact ih k i hi (by omega) (by omega)
theorem refUses_f (l : List S27) (hl : l.length ≤ 4096) (c : Int) (k : Nat) (hk : 4100 ≤ k) : lamellaref11_Uses.f k l 0 c = some ((l.countP (fun x => x.f2 == c) : Nat) : Int) := by
  unfold lamellaref11_Uses.f
  exact uses_loop l hl c 4096 k 0 (Nat.zero_le _) (by omega) (by omega)
theorem find_f (l : List S27) (c h : Int) (hl : l.length ≤ 4096) (k : Nat) (hk : 5000 ≤ k) : share_Find.f k l c h = some ((found l c h).1.f0, (found l c h).1.f1, (found l c h).1.f2, (found l c h).1.f3, (found l c h).1.f4, (found l c h).2) :=
  find_loop l c h hl 4096 k 0 (Nat.zero_le _) (by omega) (by omega) (fun x hx => by simp at hx)

set_option linter.unusedSectionVars false
section
variable (l : List S27) (hl : l.length ≤ 100) (hn : ∀ x ∈ l, Nn x) (c h f : Int) (r : Int)
  (hr : (r = -1 ∧ found l c h = (z27, false)) ∨ ∃ t, ∃ ht : t < l.length, r = (t : Int) ∧ found l c h = (l[t], true))
include hl hn hr
theorem last (k : Nat) : lamellalaw11_ShareRights.j1 (k + 1) l (found l c h).2 r false (found l c h).1.f0 (found l c h).1.f1 (found l c h).1.f2 (found l c h).1.f3 (found l c h).1.f4 = some true := by
  simp only [lamellalaw11_ShareRights.j1, Bool.false_eq_true, if_false]
  rcases hr with ⟨rfl, e⟩ | ⟨t, ht, rfl, e⟩
  · rw [e]; simp [z27]
  · rw [e, if_pos rfl, if_pos (by omega), if_pos (by omega), rd_get l t ht]; simp
theorem has_loop : ∀ (n k i : Nat), i ≤ l.length → l.length - i ≤ n → n + 6000 < k → lamellalaw11_ShareRights.l0 k l c f (found l c h).2 r ((l.take i).any (fun x => x.f0 == c && x.f2 == f)) i (found l c h).1.f0 (found l c h).1.f1 (found l c h).1.f2 (found l c h).1.f3 (found l c h).1.f4 = some true := by
  have fin : ∀ (k i : Nat), i ≤ l.length → ¬ i < l.length → 5990 < k → lamellalaw11_ShareRights.l0 (k + 2) l c f (found l c h).2 r ((l.take i).any (fun x => x.f0 == c && x.f2 == f)) i (found l c h).1.f0 (found l c h).1.f1 (found l c h).1.f2 (found l c h).1.f3 (found l c h).1.f4 = some true := by
    intro k i hi hni hk
    have e : decide (0 < l.countP (fun x => x.f0 == c && x.f2 == f)) = (l.take i).any (fun x => x.f0 == c && x.f2 == f) := by
      rw [List.take_of_length_le (by omega), Bool.eq_iff_iff, decide_eq_true_eq, List.countP_pos_iff, List.any_eq_true]
    have er : (found l c h).2 = decide (r ≥ 0) := by
      rcases hr with ⟨rfl, e⟩ | ⟨t, ht, rfl, e⟩
      · rw [e]; rfl
      · rw [e, decide_eq_true (by omega)]
    simp only [lamellalaw11_ShareRights.l0]
    rw [if_neg (by omega), alive_true, refRight_f l hn (k + 1) (by omega), refUses_f l (by omega) f (k + 1) (by omega)]
    unfold share_Right.f share_Uses.f share_Has.f
    simp only [Option.bind_some, if_true, bne_self_eq_false, Bool.false_eq_true, if_false]
    rw [e]
    simp only [bne_self_eq_false, Bool.false_eq_true, if_false]
    have e2 : ((found l c h).2 != decide (r ≥ 0)) = false := by rw [er]; simp
    rw [e2]
    exact last l hl hn c h r hr k
  intro n
  induction n with
  | zero =>
    intro k i hi hn0 hk
    obtain ⟨k, rfl⟩ : ∃ m, k = m + 2 := ⟨k - 2, by omega⟩
    exact fin k i hi (by omega) (by omega)
  | succ n ih =>
    intro k i hi hn0 hk
    obtain ⟨k, rfl⟩ : ∃ m, k = m + 2 := ⟨k - 2, by omega⟩
    by_cases hlt : i < l.length
    · have nx := ih (k + 1) (i + 1) (by omega) (by omega) (by omega)
      have et : (l.take (i + 1)).any (fun x => x.f0 == c && x.f2 == f) = ((l.take i).any (fun x => x.f0 == c && x.f2 == f) || (l[i].f0 == c && l[i].f2 == f)) := by
        rw [List.take_succ_eq_append_getElem hlt, List.any_append]; simp
      rw [et] at nx
      simp only [lamellalaw11_ShareRights.l0]
      rw [if_pos (by omega), w64 ((i : Int) + 1) (by omega), rd_get l i hlt]
      by_cases b : (l.take i).any (fun x => x.f0 == c && x.f2 == f) = true
      · rw [if_pos b]
        rw [b, Bool.true_or] at nx
        exact nx
      · rw [if_neg b, if_pos (by omega)]
        rw [show (l.take i).any (fun x => x.f0 == c && x.f2 == f) = false by simpa using b, Bool.false_or] at nx
        by_cases h1 : l[i].f0 = c
        · rw [if_pos h1]
          rw [beq_iff_eq.2 h1, Bool.true_and] at nx
          exact nx
        · rw [if_neg h1]
          rw [beq_eq_false_iff_ne.2 h1, Bool.false_and] at nx
          exact nx
    · exact fin k i hi hlt (by omega)
end
theorem pure_true (l : List S27) (hn : ∀ x ∈ l, Nn x) (c h f : Int) (k : Nat) (hk : 6200 ≤ k) : lamellalaw11_ShareRights.f k l c h f = some true := by
  unfold lamellalaw11_ShareRights.f
  rw [alive_true]
  simp only [Option.bind_some, if_true]
  by_cases h1 : (l.length : Int) > 100
  · rw [if_pos h1]
    unfold share_Right.f
    have : rightB l = false := by unfold rightB; rw [decide_eq_false (by omega)]; rfl
    rw [this]; rfl
  rw [if_neg h1, find_f l c h (by omega) k (by omega)]
  simp only [Option.bind_some]
  rcases refFind_f l (by omega) c h k (by omega) with ⟨e, g⟩ | ⟨t, ht, e, g, _⟩
  · rw [e]
    have g2 : found l c h = (z27, false) := by
      unfold found at *
      cases e2 : l.find? (keyB c h) with
      | none => rfl
      | some y => rw [e2] at g; cases g
    exact has_loop l (by omega) hn c h f (-1) (.inl ⟨rfl, g2⟩) 100 k 0 (Nat.zero_le _) (by omega) (by omega)
  · rw [e]
    exact has_loop l (by omega) hn c h f t (.inr ⟨t, ht, rfl, g⟩) 100 k 0 (Nat.zero_le _) (by omega) (by omega)
theorem shareRights_walk (a0 : Option Addr) (len0 cap0 : Nat) (a1 : Int) (a2 : Int) (a3 : Int) (w : World) (w0 : Sees Try.prog w 140737488351232 5 22 [.slice a0 len0 cap0]) (w1 : (Lit.int .u32 a1).wf = true) (w2 : (Lit.int .u32 a2).wf = true) (w3 : (Lit.int .u32 a3).wf = true) :
    Calls Try.prog 3 #[.slice a0 len0 cap0, .int .u32 a1, .int .u32 a2, .int .u32 a3] w fun e w' => e = .returned (.bool true) ∧ Below w.heap.size w w' := by
  obtain ⟨l, rfl, hc, hC, hn⟩ := sees_list (k := 2) w0
  exact lamellalaw11_ShareRights.calls (6200 + 2) a0 cap0 l a1 a2 a3 true w hC hc (pure_true l hn a1 a2 a3 _ (by omega))
end Go.Proofs.Ytecbfpdkbackmaa.shareRights
