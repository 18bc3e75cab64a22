/- Layer hold: the plain law of a script of asks and returns: what stays true whatever is done. No memory in sight. -/
import Derived.Test.YtkcacfnefhakbaaHoldLaws
namespace Go.Proofs.Ytkcacfnefhakbaa.HoldL
open Go.RowKit Go.Proofs.Ytkcacfnefhakbaa.P12 Go.Proofs.YtkcacfnefhakbaaW.PrintWords Go.Proofs.YtkcacfnefhakbaaW.PrintLast Go.Proofs.YtkcacfnefhakbaaW.PrintMore
set_option linter.unusedVariables false
set_option linter.unusedSimpArgs false

def rightX (x : S25) : Bool := rightB x.f2 x.f3 x.f4 x.f5 x.f6
/-- a lock and the grants so far: client, mode, epoch -/
structure Inv (x : S25) (gs : List (Int × Int × Int)) : Prop where
  right : rightX x = true
  gone : x.f5 = false
  nn : ∀ y ∈ x.f6, Nn y
  ep : 0 ≤ x.f1 ∧ x.f1 ≤ 4294967295
  used : 0 ≤ x.f2
  old : ∀ h ∈ gs, h.2.2 ≤ x.f1
  mode : ∀ h ∈ gs, h.2.2 = x.f1 → 1 ≤ h.2.1 ∧ h.2.1 ≤ x.f2
  one : x.f2 = 2 → ∃ z, (∀ h ∈ gs, h.2.2 = x.f1 → h.1 = z) ∧ ∀ y ∈ x.f6, y.f0 = z
  apart : ∀ h ∈ gs, ∀ k ∈ gs, h.2.2 = k.2.2 → h.2.1 = 2 → h.1 = k.1
theorem Inv.rows {x : S25} {gs : List (Int × Int × Int)} (h : Inv x gs) : x.f2 ≤ 2 ∧ x.f3 ≤ 1024 ∧ x.f6.length ≤ 4 ∧ (x.f6.length = 0 ∨ x.f4 = true ∧ x.f5 = false) ∧ rowsOk x.f2 x.f6 = true := right_rows h.right
/-- the epoch as it was, and no holder that wasn't there -/
theorem Inv.same {x x' : S25} {gs : List (Int × Int × Int)} (h : Inv x gs) (hr : rightX x' = true) (hg : x'.f5 = false) (he : x'.f1 = x.f1) (hu : x'.f2 = x.f2) (hs : ∀ y ∈ x'.f6, y ∈ x.f6) : Inv x' gs where
  right := hr
  gone := hg
  nn := fun y hy => h.nn y (hs y hy)
  ep := by rw [he]; exact h.ep
  used := by rw [hu]; exact h.used
  old := by rw [he]; exact h.old
  mode := by rw [he, hu]; exact h.mode
  one := fun h2 => by
    obtain ⟨z, h3, h4⟩ := h.one (by rw [← hu]; exact h2)
    exact ⟨z, by rw [he]; exact h3, fun y hy => h4 y (hs y hy)⟩
  apart := h.apart
/-- another epoch -/
theorem Inv.turn {x x' : S25} {gs : List (Int × Int × Int)} (h : Inv x gs) (hr : rightX x' = true) (hg : x'.f5 = false) (he : x'.f1 = x.f1 + 1) (hb : x'.f1 ≤ 4294967295) (hu : x'.f2 = 0) (hs : x'.f6 = []) : Inv x' gs where
  right := hr
  gone := hg
  nn := fun y hy => by rw [hs] at hy; cases hy
  ep := ⟨by have := h.ep.1; omega, hb⟩
  used := by omega
  old := fun k hk => by have := h.old k hk; omega
  mode := fun k hk e => by have := h.old k hk; omega
  one := fun h2 => by omega
  apart := h.apart
theorem right_sub {u c : Int} {fc g : Bool} {l l' : List S40} (h : rightB u c fc g l = true) (hs : l'.Sublist l) : rightB u c fc g l' = true := by
  obtain ⟨h1, h2, h3, h4, h5⟩ := right_rows h
  have hl := hs.length_le
  refine right_of h1 h2 (by omega) ?_ (rows_of (fun x hx => ?_) (List.Pairwise.sublist hs (rows_strict h5)))
  · rcases h4 with h4 | h4
    · exact .inl (by omega)
    · exact .inr h4
  · obtain ⟨a, b, c⟩ := rows_mem h5 x (hs.subset hx)
    exact ⟨a, b, fun e => by have := c e; omega⟩
theorem without_sub (l : List S40) (cl : Int) : (withoutF l cl).Sublist l := List.filter_sublist
/-- one more grant in this epoch -/
theorem Inv.grant {x : S25} {gs : List (Int × Int × Int)} {cl md : Int} (h : Inv x gs) (h1 : 1 ≤ md) (h2 : md ≤ x.f2) (hz : x.f2 = 2 → ∃ z, cl = z ∧ (∀ k ∈ gs, k.2.2 = x.f1 → k.1 = z) ∧ ∀ y ∈ x.f6, y.f0 = z) : Inv x (gs ++ [(cl, md, x.f1)]) where
  right := h.right
  gone := h.gone
  nn := h.nn
  ep := h.ep
  used := h.used
  old := fun k hk => by
    rcases List.mem_append.1 hk with hk | hk
    · exact h.old k hk
    · rw [List.mem_singleton.1 hk]; exact Int.le_refl _
  mode := fun k hk e => by
    rcases List.mem_append.1 hk with hk | hk
    · exact h.mode k hk e
    · rw [List.mem_singleton.1 hk]; exact ⟨h1, h2⟩
  one := fun e2 => by
    obtain ⟨z, hc, hk, hy⟩ := hz e2
    refine ⟨z, fun k hk' e => ?_, hy⟩
    rcases List.mem_append.1 hk' with hk' | hk'
    · exact hk k hk' e
    · rw [List.mem_singleton.1 hk']; exact hc
  apart := fun k hk j hj e e2 => by
    have hu := h.rows.1
    rcases List.mem_append.1 hk with hk | hk <;> rcases List.mem_append.1 hj with hj | hj
    · exact h.apart k hk j hj e e2
    · rw [List.mem_singleton.1 hj] at e ⊢
      have := h.mode k hk e
      obtain ⟨z, hc, hkz, -⟩ := hz (by omega)
      rw [hkz k hk e, hc]
    · rw [List.mem_singleton.1 hk] at e e2 ⊢
      simp only at e e2
      obtain ⟨z, hc, hkz, -⟩ := hz (by omega)
      rw [hkz j hj e.symm, hc]
    · rw [List.mem_singleton.1 hk, List.mem_singleton.1 hj]

/-! ### what is done -/
def turnX (x : S25) : S25 := if x.f1 = 4294967295 then x else ⟨x.f0, (x.f1 + 1) % 4294967296, 0, x.f3, false, x.f5, []⟩
theorem turnT_X (x : S25) : turnT x.f0 x.f1 x.f2 x.f3 x.f4 x.f5 x.f6 = ((turnX x).f0, (turnX x).f1, (turnX x).f2, (turnX x).f3, (turnX x).f4, (turnX x).f5, (turnX x).f6) := by
  unfold turnT turnX; split <;> rfl
theorem Inv.turnX {x : S25} {gs : List (Int × Int × Int)} (h : Inv x gs) : Inv (turnX x) gs ∧ x.f1 ≤ (HoldL.turnX x).f1 ∧ (HoldL.turnX x).f3 = x.f3 := by
  obtain ⟨a, b, c, d, e⟩ := h.rows
  have h1 := h.ep
  unfold HoldL.turnX
  split
  · exact ⟨h, Int.le_refl _, rfl⟩
  · rename_i hn
    have e1 : (x.f1 + 1) % 4294967296 = x.f1 + 1 := by omega
    refine ⟨h.turn (x' := ⟨x.f0, (x.f1 + 1) % 4294967296, 0, x.f3, false, x.f5, []⟩) ?_ h.gone e1 (by show (x.f1 + 1) % 4294967296 ≤ 4294967295; omega) rfl rfl, by show x.f1 ≤ (x.f1 + 1) % 4294967296; omega, rfl⟩
    exact right_of (show (0 : Int) ≤ 2 by decide) b (show ([] : List S40).length ≤ 4 by decide) (.inl rfl) (rows_yes (fun i hi => absurd hi (Nat.not_lt_zero _)))
def retX (x : S25) (cl : Int) : S25 := ⟨x.f0, x.f1, x.f2, x.f3, x.f4, x.f5, withoutF x.f6 cl⟩
theorem Inv.retX {x : S25} {gs : List (Int × Int × Int)} (h : Inv x gs) (cl : Int) : Inv (retX x cl) gs :=
  h.same (x' := HoldL.retX x cl) (right_sub h.right (without_sub _ _)) h.gone rfl rfl (fun y hy => (without_sub _ _).subset hy)
def setX (x : S25) (sz : Int) : S25 := if x.f4 = true then x else ⟨x.f0, x.f1, x.f2, sz, true, x.f5, x.f6⟩
theorem Inv.setX {x : S25} {gs : List (Int × Int × Int)} (h : Inv x gs) {sz : Int} (hs : sz ≤ 1024) : Inv (setX x sz) gs ∧ (HoldL.setX x sz).f1 = x.f1 := by
  obtain ⟨a, b, c, d, e⟩ := h.rows
  unfold HoldL.setX
  split
  · exact ⟨h, rfl⟩
  · exact ⟨h.same (x' := ⟨x.f0, x.f1, x.f2, sz, true, x.f5, x.f6⟩) (right_of a hs c (.inr ⟨rfl, h.gone⟩) e) h.gone rfl rfl (fun y hy => hy), rfl⟩
def shrX (x : S25) (sz : Int) : S25 := ⟨x.f0, x.f1, x.f2, (if sz < x.f3 then sz else x.f3), x.f4, x.f5, x.f6⟩
theorem Inv.shrX {x : S25} {gs : List (Int × Int × Int)} (h : Inv x gs) (sz : Int) : Inv (shrX x sz) gs ∧ (HoldL.shrX x sz).f3 ≤ x.f3 := by
  obtain ⟨a, b, c, d, e⟩ := h.rows
  have hm : (if sz < x.f3 then sz else x.f3) ≤ x.f3 := by split <;> omega
  exact ⟨h.same (x' := HoldL.shrX x sz) (right_of a (by show (if sz < x.f3 then sz else x.f3) ≤ 1024; omega) c d e) h.gone rfl rfl (fun y hy => hy), hm⟩

theorem Inv.ask {x : S25} {gs : List (Int × Int × Int)} (h : Inv x gs) {cl md : Int} (hcl : 0 ≤ cl ∧ cl ≤ 4294967295) (hm : md = 1 ∨ md = 2) :
    ∃ (x' : S25) (told : Int), askF x.f0 x.f1 x.f2 x.f3 x.f4 x.f5 x.f6 cl md = (x'.f0, x'.f1, x'.f2, x'.f3, x'.f4, x'.f5, x'.f6, told, 0) ∧ x.f1 ≤ x'.f1 ∧ x'.f3 = x.f3 ∧ (told = 1 → Inv x' (gs ++ [(cl, md, x'.f1)])) ∧ (¬ told = 1 → Inv x' gs) := by
  obtain ⟨hu, hc, h4, -, hrows⟩ := h.rows
  have hr : rightB x.f2 x.f3 x.f4 x.f5 x.f6 = true := h.right
  have hg := h.gone
  have hmem := rows_mem hrows
  have hst := rows_strict hrows
  unfold askF
  rw [if_pos ⟨hr, by omega, by omega⟩, if_neg (by rw [hg]; decide)]
  split
  · exact ⟨x, 2, rfl, Int.le_refl _, rfl, fun e => by omega, fun _ => h⟩
  · split
    · rename_i hh
      refine ⟨x, 1, rfl, Int.le_refl _, rfl, fun _ => ?_, fun e => absurd rfl e⟩
      rcases mode_cases x.f6 cl with ⟨hz, -⟩ | ⟨y, hy, hyc, hym⟩
      · omega
      · have hyu := (hmem y hy).2.1
        refine h.grant (by omega) (by omega) (fun h2 => ?_)
        obtain ⟨z, h3, h5⟩ := h.one h2
        exact ⟨z, by rw [← hyc]; exact h5 y hy, h3, h5⟩
    · have hw := h.retX cl
      split
      · exact ⟨HoldL.retX x cl, 3, rfl, Int.le_refl _, rfl, fun e => by omega, fun _ => hw⟩
      · rename_i hfc
        have hfc' : x.f4 = true := by simpa using hfc
        split
        · have ht := hw.turnX
          have e1 := turnT_X (HoldL.retX x cl)
          have e2 : turnT x.f0 x.f1 x.f2 x.f3 x.f4 x.f5 (withoutF x.f6 cl) = turnT (HoldL.retX x cl).f0 (HoldL.retX x cl).f1 (HoldL.retX x cl).f2 (HoldL.retX x cl).f3 (HoldL.retX x cl).f4 (HoldL.retX x cl).f5 (HoldL.retX x cl).f6 := rfl
          rw [e2, e1]
          exact ⟨HoldL.turnX (HoldL.retX x cl), 3, rfl, ht.2.1, ht.2.2, fun e => by omega, fun _ => ht.1⟩
        · rename_i ht
          split
          · exact ⟨HoldL.retX x cl, 2, rfl, Int.le_refl _, rfl, fun e => by omega, fun _ => hw⟩
          · rename_i hn4
            have hwl : (withoutF x.f6 cl).length ≤ x.f6.length := List.length_filter_le _ _
            have hu0 := h.used
            have hwm : ∀ y ∈ withoutF x.f6 cl, y ∈ x.f6 := fun y hy => (without_sub _ _).subset hy
            have hmx : md ≤ (if x.f2 < md then md else x.f2) ∧ x.f2 ≤ (if x.f2 < md then md else x.f2) ∧ (if x.f2 < md then md else x.f2) ≤ 2 := by split <;> omega
            generalize hM : (if x.f2 < md then md else x.f2) = M at hmx ⊢
            have hlow : md = 2 → withoutF x.f6 cl = [] := fun e => by
              have hx0 : x.f2 = 0 := by omega
              cases hwx : withoutF x.f6 cl with
              | nil => rfl
              | cons y r =>
                have := hmem y (hwm y (by rw [hwx]; exact List.mem_cons_self))
                omega
            have hins : (insH (withoutF x.f6 cl) ⟨cl, md⟩).length = (withoutF x.f6 cl).length + 1 := len_ins _ _
            have hrx : rightB M x.f3 x.f4 x.f5 (insH (withoutF x.f6 cl) ⟨cl, md⟩) = true := by
              refine right_of hmx.2.2 hc (by omega) (.inr ⟨hfc', hg⟩) (rows_of (fun y hy => ?_) (insH_strict (without_strict hst cl) without_ne))
              rcases mem_ins.1 hy with hy | rfl
              · have h6 := hmem y (hwm y hy)
                refine ⟨h6.1, by omega, fun e => ?_⟩
                have : x.f2 = 2 := by omega
                omega
              · refine ⟨by show 1 ≤ md; omega, hmx.1, fun e => ?_⟩
                rw [hins, hlow e]; simp
            have base : Inv ⟨x.f0, x.f1, M, x.f3, x.f4, x.f5, insH (withoutF x.f6 cl) ⟨cl, md⟩⟩ gs := {
              right := hrx
              gone := hg
              nn := fun y hy => by
                rcases mem_ins.1 hy with hy | rfl
                · exact h.nn y (hwm y hy)
                · exact hcl
              ep := h.ep
              used := by show 0 ≤ M; omega
              old := h.old
              mode := fun k hk e => by
                have := h.mode k hk e
                exact ⟨this.1, Int.le_trans this.2 hmx.2.1⟩
              one := fun e => by
                have e' : M = 2 := e
                by_cases hm2 : md = 2
                · have hx0 : x.f2 = 0 := by omega
                  refine ⟨cl, fun k hk e3 => ?_, fun y hy => ?_⟩
                  · have := h.mode k hk e3; omega
                  · rcases mem_ins.1 hy with hy | rfl
                    · rw [hlow hm2] at hy; cases hy
                    · rfl
                · exfalso
                  rw [← hM] at e'
                  split at e' <;> omega
              apart := h.apart }
            refine ⟨⟨x.f0, x.f1, M, x.f3, x.f4, x.f5, insH (withoutF x.f6 cl) ⟨cl, md⟩⟩, 1, rfl, Int.le_refl _, rfl, fun _ => ?_, fun e => absurd rfl e⟩
            refine base.grant (by omega) hmx.1 (fun e => ?_)
            have e' : M = 2 := e
            have hm2 : md = 2 := by
              by_cases hm2 : md = 2
              · exact hm2
              · exfalso
                rw [← hM] at e'
                split at e' <;> omega
            have hx0 : x.f2 = 0 := by omega
            refine ⟨cl, rfl, fun k hk e3 => ?_, fun y hy => ?_⟩
            · have := h.mode k hk e3; omega
            · rcases mem_ins.1 hy with hy | rfl
              · rw [hlow hm2] at hy; cases hy
              · rfl
end Go.Proofs.Ytkcacfnefhakbaa.HoldL
