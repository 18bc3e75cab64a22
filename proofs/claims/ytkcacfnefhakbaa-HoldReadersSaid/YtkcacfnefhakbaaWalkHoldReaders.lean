/- Readers don't disturb one another: the call returns true whatever the input. No condition. -/
import Derived.Test.YtkcacfnefhakbaaHoldOpen
import Derived.Test.YtkcacfnefhakbaaHoldLaws
import Derived.Test.YtkcacfnefhakbaaP12x10
namespace Go.Proofs.Ytkcacfnefhakbaa.holdReaders
open Go.RowKit Go.Sees Go.Proofs.Ytkcacfnefhakbaa.HoldL Go.Proofs.Ytkcacfnefhakbaa.P12 Go.Proofs.Ytkcacfnefhakbaa.Opens Go.Proofs.YtkcacfnefhakbaaW.PrintWords Go.Proofs.YtkcacfnefhakbaaW.PrintLast Go.Proofs.YtkcacfnefhakbaaW.PrintMore
set_option linter.unusedVariables false
set_option linter.unusedSimpArgs false

theorem alive_true : lamellalaw12_alive.f = some true := rfl
section
variable (f e u c : Int) (fc g : Bool) (l : List S40) (f' e' u' c' : Int) (fc' g' : Bool) (l' : List S40) (cl told : Int)
theorem last_in (k : Nat) (hk : 4300 ≤ k) (h4 : ¬ (l.length = 4 ∧ modeF l cl = 0)) (hr : rightB u c fc g l = true) (hl : l.length ≤ 4) (hr' : rightB u' c' fc' g' l' = true) (hl' : l'.length ≤ 4096) (hm : modeF l' cl = 1) (he : e' = e) :
    (if (l.length : Int) = 4 then ((hold_Mode.f k f e u c fc g l cl).bind fun t => lamellalaw12_HoldReaders.j2 k cl 1 (t == 0) f e u c fc g l f' e' u' c' fc' g' l') else lamellalaw12_HoldReaders.j2 k cl 1 false f e u c fc g l f' e' u' c' fc' g' l') = some true := by
  obtain ⟨k, rfl⟩ : ∃ m, k = m + 1 := ⟨k - 1, by omega⟩
  have fin : lamellalaw12_HoldReaders.j2 (k + 1) cl 1 false f e u c fc g l f' e' u' c' fc' g' l' = some true := by
    simp only [lamellalaw12_HoldReaders.j2, Bool.false_eq_true, if_false]
    rw [alive_true, mode_f f' e' u' c' fc' g' l' cl hl' k (by omega), if_pos hr', hm, he]
    simp
  by_cases h : (l.length : Int) = 4
  · rw [if_pos h, mode_f f e u c fc g l cl (by omega) (k + 1) (by omega), if_pos hr]
    simp only [Option.bind_some]
    rw [show (modeF l cl == 0) = false from beq_eq_false_iff_ne.2 (fun h0 => h4 ⟨by omega, h0⟩)]
    exact fin
  · rw [if_neg h]; exact fin
theorem last_full (k : Nat) (hk : 4300 ≤ k) (h4 : l.length = 4) (h0 : modeF l cl = 0) (hr : rightB u c fc g l = true) :
    (if (l.length : Int) = 4 then ((hold_Mode.f k f e u c fc g l cl).bind fun t => lamellalaw12_HoldReaders.j2 k cl 2 (t == 0) f e u c fc g l f' e' u' c' fc' g' l') else lamellalaw12_HoldReaders.j2 k cl 2 false f e u c fc g l f' e' u' c' fc' g' l') = some true := by
  obtain ⟨k, rfl⟩ : ∃ m, k = m + 1 := ⟨k - 1, by omega⟩
  rw [if_pos (by omega), mode_f f e u c fc g l cl (by omega) (k + 1) (by omega), if_pos hr, h0]
  simp only [Option.bind_some]
  simp [lamellalaw12_HoldReaders.j2, alive_true]
theorem loop (hr' : rightB u' c' fc' g' l' = true) (hl' : l'.length ≤ 4096) (hl : l.length ≤ 4) (hall : ∀ x ∈ l, modeF l' x.f0 = x.f1)
    (fin : ∀ k, 4300 ≤ k → (if (l.length : Int) = 4 then ((hold_Mode.f k f e u c fc g l cl).bind fun t => lamellalaw12_HoldReaders.j2 k cl told (t == 0) f e u c fc g l f' e' u' c' fc' g' l') else lamellalaw12_HoldReaders.j2 k cl told false f e u c fc g l f' e' u' c' fc' g' l') = some true) :
    ∀ (d k i : Nat), l.length - i ≤ d → 4301 + d ≤ k → i ≤ l.length → lamellalaw12_HoldReaders.l0 k cl (l.length : Int) told i f e u c fc g l f' e' u' c' fc' g' l' = some true := by
  intro d
  induction d with
  | zero =>
    intro k i hd hk hi
    obtain ⟨k, rfl⟩ : ∃ m, k = m + 1 := ⟨k - 1, by omega⟩
    simp only [lamellalaw12_HoldReaders.l0]
    rw [if_neg (by omega)]
    exact fin k (by omega)
  | succ d ih =>
    intro k i hd hk hi
    by_cases hlt : i < l.length
    · obtain ⟨k, rfl⟩ : ∃ m, k = m + 1 := ⟨k - 1, by omega⟩
      simp only [lamellalaw12_HoldReaders.l0]
      rw [if_pos (by omega), if_pos (by omega), if_pos (by omega), rd_get l i hlt, mode_f f' e' u' c' fc' g' l' _ hl' k (by omega), if_pos hr', hall _ (List.getElem_mem hlt)]
      simp only [Option.bind_some, if_true]
      rw [show wrap64 ((i : Int) + 1) = ((i + 1 : Nat) : Int) by rw [w64 _ (by omega)]; omega]
      exact ih k (i + 1) (by omega) (by omega) (by omega)
    · exact ih k i (by omega) (by omega) hi
end
theorem pure_true (f e u c : Int) (fc g : Bool) (l : List S40) (cl : Int) (hn : ∀ x ∈ l, Nn x) (hcl : 0 ≤ cl ∧ cl ≤ 4294967295) : lamellalaw12_HoldReaders.f 5000 f e u c fc g l cl = some true := by
  have let_go : lamellalaw12_HoldReaders.j0 5000 cl true f e u c fc g l = some true := by simp [lamellalaw12_HoldReaders.j0, alive_true]
  unfold lamellalaw12_HoldReaders.f
  rw [alive_true]
  simp only [Option.bind_some, if_true]
  by_cases h : (l.length : Int) > 100
  · rw [if_pos h]; exact let_go
  rw [if_neg h, right_f f e u c fc g l (by omega) 5000 (by omega)]
  simp only [Option.bind_some]
  by_cases hr : rightB u c fc g l = true
  rotate_left
  · rw [if_neg hr]; exact let_go
  rw [if_pos hr]
  cases fc with
  | false => simp only [Bool.false_eq_true, if_false]; exact let_go
  | true =>
  simp only [if_true]
  cases g with
  | true => simp only [if_true]; exact let_go
  | false =>
  simp only [Bool.false_eq_true, if_false]
  by_cases hu2 : u = 2
  · subst hu2; exact let_go
  rw [show (u == 2) = false from beq_eq_false_iff_ne.2 hu2]
  obtain ⟨hu, hc, hl4, -, hrows⟩ := right_rows hr
  have hs := rows_strict hrows
  have hm := rows_mem hrows
  have hone : ∀ x ∈ l, x.f1 = 1 := fun x hx => by have := hm x hx; omega
  have hoth : othersF l cl 1 = [] := by
    unfold othersF
    rw [List.filter_eq_nil_iff.2 (fun x hx => by unfold othP; simp [hone x hx])]; rfl
  have hok : okH l cl = true := (okH_iff l cl).2 ⟨by omega, hn, hcl.1, hcl.2⟩
  simp only [lamellalaw12_HoldReaders.j0, Bool.false_eq_true, if_false]
  unfold hold_Ask.f
  rw [if_pos hok]
  simp only [Option.bind_some]
  have hA0 : askF f e u c true false l cl 1 = if 1 ≤ modeF l cl then (f, e, u, c, true, false, l, 1, 0) else if (withoutF l cl).length = 4 then (f, e, u, c, true, false, withoutF l cl, 2, 0) else (f, e, (if u < 1 then 1 else u), c, true, false, insH (withoutF l cl) ⟨cl, 1⟩, 1, 0) := by
    unfold askF
    rw [if_pos ⟨hr, by decide, by decide⟩, if_neg (by decide), hoth, if_neg (by simp), if_neg (show ¬ (true = false) by decide), if_neg (show ¬ (((1 : Int) = 2 ∨ u = 2) ∧ ¬ u = 0) by omega)]
  rw [hA0]
  rcases mode_cases l cl with ⟨hz, hno⟩ | ⟨y, hy, hyc, hym⟩
  · rw [hz, if_neg (show ¬ ((1 : Int) ≤ 0) by decide), without_self hno]
    by_cases h4 : l.length = 4
    · rw [if_pos h4]
      simp only [if_true]
      exact loop f e u c true false l f e u c true false l cl 2 hr (by omega) hl4 (fun x hx => mode_mem hs hx) (fun k hk => last_full f e u c true false l f e u c true false l cl k hk h4 hz hr) 4 4999 0 (by omega) (by omega) (Nat.zero_le _)
    · rw [if_neg h4]
      have hs' : Strict (insH l ⟨cl, 1⟩) := insH_strict hs hno
      have hmx : (if u < 1 then 1 else u) = 1 := by split <;> omega
      have hr' : rightB 1 c true false (insH l ⟨cl, 1⟩) = true := right_of (by decide) hc (by rw [len_ins]; omega) (.inr ⟨rfl, rfl⟩) (rows_of (fun x hx => by
        rcases mem_ins.1 hx with hx | rfl
        · have := hone x hx; omega
        · exact ⟨Int.le_refl 1, Int.le_refl 1, fun h => absurd (show (1 : Int) = 2 from h) (by decide)⟩) hs')
      have hmc : modeF (insH l ⟨cl, 1⟩) cl = 1 := mode_mem hs' (x := ⟨cl, 1⟩) (mem_ins.2 (.inr rfl))
      rw [hmx]
      simp only [if_true]
      exact loop f e u c true false l f e 1 c true false (insH l ⟨cl, 1⟩) cl 1 hr' (by rw [len_ins]; omega) hl4 (fun x hx => mode_mem hs' (mem_ins.2 (.inl hx))) (fun k hk => last_in f e u c true false l f e 1 c true false (insH l ⟨cl, 1⟩) cl k hk (fun h => h4 h.1) hr hl4 hr' (by rw [len_ins]; omega) hmc rfl) 4 4999 0 (by omega) (by omega) (Nat.zero_le _)
  · have hm1 : modeF l cl = 1 := by rw [hym]; exact hone y hy
    rw [hm1, if_pos (show (1 : Int) ≤ 1 by decide)]
    simp only [if_true]
    exact loop f e u c true false l f e u c true false l cl 1 hr (by omega) hl4 (fun x hx => mode_mem hs hx) (fun k hk => last_in f e u c true false l f e u c true false l cl k hk (fun h => by omega) hr hl4 hr (by omega) hm1 rfl) 4 4999 0 (by omega) (by omega) (Nat.zero_le _)
theorem holdReaders_walk (a0 : Array Value) (a1 : Int) (w : World) (w0 : Sees Try.prog w 140737488351232 5 25 a0.toList) (w1 : (Lit.int .u32 a1).wf = true) :
    Calls Try.prog 5 #[.agg a0, .int .u32 a1] w fun e w' => e = .returned (.bool true) ∧ Below w.heap.size w w' := by
  obtain ⟨f, e, u, c, fc, g, A, cp, l, rfl, hc, hC, hn, -, -⟩ := sees_lock w0
  exact lamellalaw12_HoldReaders.calls 5000 f e u c fc g A cp l a1 true w hC hc (pure_true f e u c fc g l a1 hn ⟨(bounds_u32 w1).1, by have := (bounds_u32 w1).2; omega⟩)
end Go.Proofs.Ytkcacfnefhakbaa.holdReaders
