/- Layer stripe: the plain laws of fragments; no Go in sight, but the printed functions that make them. -/
import Derived.Test.YtaipmnelcpilaaaStripePlain
import Derived.Test.YtaipmnelcpilaaaStripeGiven
import Derived.Test.YtaipmnelcpilaaaP06x2
import Derived.Test.YtaipmnelcpilaaaP06x3
namespace Go.Proofs.Ytaipmnelcpilaaa.P06
open Go.RowKit Go.Proofs.Ytaipmnelcpilaaa.Stripe Go.Proofs.YtaipmnelcpilaaaW.PrintWords Go.Proofs.YtaipmnelcpilaaaW.PrintLast Go.Proofs.YtaipmnelcpilaaaW.PrintMore
set_option linter.unusedVariables false
set_option linter.unusedSimpArgs false

/-- the fragment that begins at 'at'' -/
def frag (s u t off len at' : Int) : S38 := ⟨srvOf s u t (off + at'), atOf s u (off + at'), at', min (u - (off + at') % u) (len - at')⟩

/-- a request's fragments from a place on -/
inductive Good (s u t off len : Int) : Int → List S38 → Prop
  | nil : Good s u t off len len []
  | cons (at' : Int) (l : List S38) : 0 ≤ at' → at' < len → Good s u t off len (at' + min (u - (off + at') % u) (len - at')) l → Good s u t off len at' (frag s u t off len at' :: l)

theorem Good.eq {s u t off len : Int} : ∀ {at' : Int} {l l' : List S38}, 1 ≤ u → Good s u t off len at' l → Good s u t off len at' l' → l = l' := by
  intro at' l l' hu h
  induction h generalizing l' with
  | nil =>
    intro h'
    cases h' with
    | nil => rfl
    | cons _ _ h1 h2 h3 => omega
  | cons at' l h1 h2 h3 ih =>
    intro h'
    cases h' with
    | nil => omega
    | cons _ l' k1 k2 k3 => rw [ih k3]

/-- the program's loop -/
theorem frags_loop (s u t off len : Int) (hr : RightM s u t) (ho : 0 ≤ off) (hl : 0 ≤ len) (hol : off + len ≤ 1024) :
    ∀ (d k : Nat) (at' : Int) (out : List S38), 0 ≤ at' → at' ≤ len → (len - at').toNat ≤ d → d < k → out.length ≤ at' →
      ∃ l, stripe_Frags.l0 k off len out at' s u t = some (out ++ l, 0) ∧ Good s u t off len at' l := by
  intro d
  induction d with
  | zero =>
    intro k at' out h0 h1 hd hk ho
    obtain ⟨k, rfl⟩ : ∃ m, k = m + 1 := ⟨k - 1, by omega⟩
    obtain rfl : at' = len := by omega
    refine ⟨[], ?_, Good.nil⟩
    simp only [stripe_Frags.l0]
    rw [if_neg (by omega)]; simp
  | succ d ih =>
    intro k at' out h0 h1 hd hk hlen
    obtain ⟨k, rfl⟩ : ∃ m, k = m + 1 := ⟨k - 1, by omega⟩
    simp only [stripe_Frags.l0]
    by_cases hlt : at' < len
    · have m := mod_bd (off + at') u hr.2.2.1
      have hu := hr.2.2.1
      have hu2 := hr.2.2.2.1
      have e1 : wrap64 (off + at') = off + at' := by unfold wrap64; omega
      have e2 : (off + at').tmod u = (off + at') % u := Int.tmod_eq_emod_of_nonneg (by omega)
      have e3 : wrap64 (u - (off + at') % u) = u - (off + at') % u := by unfold wrap64; omega
      have e4 : wrap64 (len - at') = len - at' := by unfold wrap64; omega
      have e5 : mn (u - (off + at') % u) (len - at') = min (u - (off + at') % u) (len - at') := by unfold mn; omega
      have hn : 1 ≤ min (u - (off + at') % u) (len - at') ∧ min (u - (off + at') % u) (len - at') ≤ len - at' := by omega
      have e6 : wrap64 (at' + min (u - (off + at') % u) (len - at')) = at' + min (u - (off + at') % u) (len - at') := by unfold wrap64; omega
      have ew : stripe_Where.f s u t (off + at') = some (srvOf s u t (off + at'), atOf s u (off + at'), 0) := by
        unfold stripe_Where.f; rw [if_pos ⟨hr, by omega, by omega⟩]
      rw [if_pos hlt, if_neg (by omega), e1, e2, e3, e4, e5, e6, ew]
      simp only [Option.bind_some]
      rw [if_pos (by omega)]
      obtain ⟨l, e, g⟩ := ih k (at' + min (u - (off + at') % u) (len - at')) (out ++ [frag s u t off len at']) (by omega) (by omega) (by omega) (by omega) (by simp; omega)
      refine ⟨frag s u t off len at' :: l, ?_, Good.cons at' l h0 hlt g⟩
      rw [show out ++ frag s u t off len at' :: l = (out ++ [frag s u t off len at']) ++ l by simp]
      exact e
    · obtain rfl : at' = len := by omega
      refine ⟨[], ?_, Good.nil⟩
      rw [if_neg hlt]; simp

theorem right_f (s u t : Int) : stripe_Right.f s u t = some (decide (RightM s u t)) := by
  by_cases h : RightM s u t
  · rw [decide_eq_true h]
    obtain ⟨h1, h2, h3, h4, h5, h6⟩ := h
    unfold stripe_Right.f
    rw [if_pos (by omega), if_pos (by omega), if_pos (by omega), if_pos (by omega), if_pos (by omega), decide_eq_true h6]
  · rw [decide_eq_false h]
    unfold stripe_Right.f
    repeat' split
    all_goals first
      | rfl
      | (congr 1; rw [decide_eq_false_iff_not]; intro h6; exact h ⟨by omega, by omega, by omega, by omega, by omega, h6⟩)
theorem refRight_f (s u t : Int) : lamellaref06_Right.f s u t = some (decide (RightM s u t)) := by
  by_cases h : RightM s u t
  · rw [decide_eq_true h]
    obtain ⟨h1, h2, h3, h4, h5, h6⟩ := h
    unfold lamellaref06_Right.f
    rw [if_pos (by omega), if_pos (by omega), if_pos (by omega), if_pos (by omega), if_pos (by omega), decide_eq_true h6]
  · rw [decide_eq_false h]
    unfold lamellaref06_Right.f
    repeat' split
    all_goals first
      | rfl
      | (congr 1; rw [decide_eq_false_iff_not]; intro h6; exact h ⟨by omega, by omega, by omega, by omega, by omega, h6⟩)

/-- may the request be? -/
def MayReq (s u t off len : Int) : Prop := RightM s u t ∧ 0 ≤ off ∧ 0 ≤ len ∧ off ≤ 1024 ∧ len ≤ 1024 - off
instance (s u t a b : Int) : Decidable (MayReq s u t a b) := by unfold MayReq; infer_instance

theorem frags_yes (s u t off len : Int) (h : MayReq s u t off len) (k : Nat) (hk : 1030 ≤ k) : ∃ l, stripe_Frags.f k s u t off len = some (l, 0) ∧ Good s u t off len 0 l := by
  obtain ⟨hr, h1, h2, h3, h4⟩ := h
  obtain ⟨k, rfl⟩ : ∃ m, k = m + 1 := ⟨k - 1, by omega⟩
  unfold stripe_Frags.f
  rw [right_f, decide_eq_true hr]
  simp only [Option.bind_some, if_true]
  rw [if_neg (by omega), if_neg (by omega), if_neg (by omega), show wrap64 (1024 - off) = 1024 - off by unfold wrap64; omega, decide_eq_false (by omega)]
  simp only [stripe_Frags.j0, Bool.false_eq_true, if_false]
  obtain ⟨l, e, g⟩ := frags_loop s u t off len hr h1 h2 (by omega) 1024 k 0 [] (by omega) h2 (by omega) (by omega) (by simp)
  exact ⟨l, by simpa using e, g⟩
theorem frags_no (s u t off len : Int) (h : ¬ MayReq s u t off len) (hb : (-9223372036854775808 ≤ off ∧ off ≤ 9223372036854775807)) (k : Nat) (hk : 1 ≤ k) : stripe_Frags.f k s u t off len = some ([], 1) := by
  obtain ⟨k, rfl⟩ : ∃ m, k = m + 1 := ⟨k - 1, by omega⟩
  unfold stripe_Frags.f
  rw [right_f]
  simp only [Option.bind_some]
  by_cases hr : RightM s u t
  · rw [decide_eq_true hr, if_pos rfl]
    split
    · simp [stripe_Frags.j0]
    · split
      · simp [stripe_Frags.j0]
      · split
        · simp [stripe_Frags.j0]
        · rename_i a b c
          rw [show wrap64 (1024 - off) = 1024 - off by unfold wrap64; omega]
          have : len > 1024 - off := by
            rcases Int.lt_or_le (1024 - off) len with g | g
            · exact g
            · exact absurd ⟨hr, by omega, by omega, by omega, g⟩ h
          rw [decide_eq_true this]
          simp [stripe_Frags.j0]
  · rw [decide_eq_false hr]
    simp [stripe_Frags.j0]

theorem alive_true (k : Nat) (hk : 1030 ≤ k) : lamellalaw06_alive.f k = some true := by
  unfold lamellalaw06_alive.f
  have e1 : stripe_Where.f 3 4 1 13 = some (2, 5, 0) := by decide
  have e2 : stripe_Length.f 3 4 1 2 13 = some (5, 0) := by decide
  obtain ⟨l, e3, g⟩ := frags_yes 3 4 1 2 4 (by decide) k hk
  have e4 : l = [⟨2, 2, 0, 2⟩, ⟨3, 0, 2, 2⟩] := by
    refine g.eq (by omega) ?_
    have a := Good.nil (s := 3) (u := 4) (t := 1) (off := 2) (len := 4)
    have b := Good.cons (s := 3) (u := 4) (t := 1) (off := 2) (len := 4) 2 [] (by omega) (by omega) a
    exact Good.cons (s := 3) (u := 4) (t := 1) (off := 2) (len := 4) 0 _ (by omega) (by omega) b
  rw [e1, e2, e3, e4, right_f]
  simp [rd_T38]
  decide
end Go.Proofs.Ytaipmnelcpilaaa.P06
