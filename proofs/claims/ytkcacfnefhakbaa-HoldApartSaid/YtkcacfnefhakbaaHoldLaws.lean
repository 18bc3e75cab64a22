/- Layer hold: plain laws of lists of holders. -/
import Derived.Test.YtkcacfnefhakbaaHoldAsk
namespace Go.Proofs.Ytkcacfnefhakbaa.HoldL
open Go.RowKit Go.Proofs.Ytkcacfnefhakbaa.P12 Go.Proofs.YtkcacfnefhakbaaW.PrintWords Go.Proofs.YtkcacfnefhakbaaW.PrintLast Go.Proofs.YtkcacfnefhakbaaW.PrintMore
set_option linter.unusedVariables false
set_option linter.unusedSimpArgs false

theorem rows_mem {u : Int} {l : List S40} (h : rowsOk u l = true) : ∀ x ∈ l, 1 ≤ x.f1 ∧ x.f1 ≤ u ∧ (x.f1 = 2 → l.length ≤ 1) := by
  intro x hx
  obtain ⟨i, hi, rfl⟩ := List.getElem_of_mem hx
  have := rows_at h i hi
  unfold rowOk at this
  rw [rd_get l i hi] at this
  simp only [Bool.and_eq_true, Bool.or_eq_true, Bool.not_eq_true', decide_eq_true_eq, decide_eq_false_iff_not] at this
  exact ⟨this.1, this.2.1, fun h2 => this.2.2.1.resolve_left (fun h3 => h3 h2)⟩
theorem rows_of {u : Int} {l : List S40} (h : ∀ x ∈ l, 1 ≤ x.f1 ∧ x.f1 ≤ u ∧ (x.f1 = 2 → l.length ≤ 1)) (hs : Strict l) : rowsOk u l = true := by
  refine rows_yes (fun i hi => ?_)
  obtain ⟨h1, h2, h3⟩ := h _ (List.getElem_mem hi)
  unfold rowOk
  rw [rd_get l i hi, decide_eq_true h1, decide_eq_true h2]
  have e1 : (!decide (l[i].f1 = 2) || decide (l.length ≤ 1)) = true := by
    by_cases h : l[i].f1 = 2
    · simp [h, h3 h]
    · simp [h]
  have e2 : (decide (i = 0) || decide ((rd_T40 l ((i : Int) - 1)).f0 < l[i].f0)) = true := by
    by_cases h0 : i = 0
    · simp [h0]
    · obtain ⟨j, rfl⟩ : ∃ j, i = j + 1 := ⟨i - 1, by omega⟩
      rw [show (((j + 1 : Nat) : Int) - 1) = ((j : Nat) : Int) by omega, rd_get l j (by omega)]
      unfold Strict at hs
      rw [List.pairwise_iff_getElem] at hs
      have := hs j (j + 1) (by omega) hi (by omega)
      simp [this]
  rw [e1, e2]; rfl
theorem right_of {u c : Int} {fc g : Bool} {l : List S40} (h1 : u ≤ 2) (h2 : c ≤ 1024) (h3 : l.length ≤ 4) (h4 : l.length = 0 ∨ fc = true ∧ g = false) (h5 : rowsOk u l = true) : rightB u c fc g l = true := by
  unfold rightB
  simp only [Bool.and_eq_true, Bool.or_eq_true, decide_eq_true_eq, Bool.not_eq_true']
  exact ⟨h1, h2, h3, h4, h5⟩
theorem mode_mem {l : List S40} (hs : Strict l) {x : S40} (hx : x ∈ l) : modeF l x.f0 = x.f1 := by
  unfold modeF
  cases e : l.find? (fun h => h.f0 == x.f0) with
  | none => have := List.find?_eq_none.1 e x hx; simp at this
  | some y =>
    have h1 := List.find?_some e
    have hy := List.mem_of_find?_eq_some e
    have h2 : y.f0 = x.f0 := by simpa using h1
    have : x = y := strict_apart hs hx hy (by omega) (by omega)
    rw [this]
theorem mode_cases (l : List S40) (cl : Int) : (modeF l cl = 0 ∧ ∀ x ∈ l, ¬ x.f0 = cl) ∨ ∃ x ∈ l, x.f0 = cl ∧ modeF l cl = x.f1 := by
  unfold modeF
  cases e : l.find? (fun h => h.f0 == cl) with
  | none => exact .inl ⟨rfl, fun x hx h => by have := List.find?_eq_none.1 e x hx; simp [h] at this⟩
  | some y => exact .inr ⟨y, List.mem_of_find?_eq_some e, by simpa using List.find?_some e, rfl⟩
theorem without_self {l : List S40} {cl : Int} (h : ∀ x ∈ l, ¬ x.f0 = cl) : withoutF l cl = l := by
  unfold withoutF
  exact List.filter_eq_self.2 (fun x hx => by simp [h x hx])
theorem mem_ins {l : List S40} {x y : S40} : y ∈ insH l x ↔ y ∈ l ∨ y = x := by rw [(insH_perm l x).mem_iff]; simp
theorem len_ins (l : List S40) (x : S40) : (insH l x).length = l.length + 1 := by rw [(insH_perm l x).length_eq]; simp
end Go.Proofs.Ytkcacfnefhakbaa.HoldL
