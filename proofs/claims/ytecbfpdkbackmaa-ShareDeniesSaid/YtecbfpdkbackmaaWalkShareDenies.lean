/- Whoever has an access that another one denies isn't there: the call returns true whatever the input. No condition. -/
import Derived.Test.YtecbfpdkbackmaaShareOpen
import Derived.Test.YtecbfpdkbackmaaP11x9
namespace Go.Proofs.Ytecbfpdkbackmaa.shareDenies
open Go.RowKit Go.Sees Go.Proofs.Ytecbfpdkbackmaa.Share Go.Proofs.Ytecbfpdkbackmaa.P11 Go.Proofs.Ytecbfpdkbackmaa.Opens Go.Proofs.YtecbfpdkbackmaaW.PrintWords Go.Proofs.YtecbfpdkbackmaaW.PrintLast Go.Proofs.YtecbfpdkbackmaaW.PrintMore
set_option linter.unusedVariables false
set_option linter.unusedSimpArgs false

theorem add_some (l : List S27) (o : S27) (h : l.length ≤ 100) : share_Add.f l o.f0 o.f1 o.f2 o.f3 o.f4 = some (addF l o) := by
  unfold share_Add.f; rw [if_pos h]
theorem deny {L : List S27} (h : RightL L) (i j : Nat) (hi : i < L.length) (hj : j < L.length) (hne : i ≠ j) (hf : L[i].f2 = L[j].f2) : Go.bits .and .u32 L[i].f3 L[j].f4 = 0 := by
  have hc : clashB L[i] L[j] = false := by
    have ha := h.apart
    rw [List.pairwise_iff_getElem] at ha
    rcases Nat.lt_or_gt_of_ne hne with g | g
    · exact ha i j hi hj g
    · rw [clash_comm]; exact ha j i hj hi g
  unfold clashB at hc
  rw [hf] at hc
  simp at hc
  exact hc.1
theorem l2_end (L : List S27) (h : RightL L) (i : Nat) (hi : i < L.length) : ∀ (n k j : Nat), L.length - j ≤ n → n < k → ∃ k', k ≤ k' + n + 1 ∧ lamellalaw11_ShareDenies.l2 k L i j = lamellalaw11_ShareDenies.l1 k' L ((i + 1 : Nat) : Int) := by
  have hL := h.len
  intro n
  induction n with
  | zero =>
    intro k j hj hk
    obtain ⟨k, rfl⟩ : ∃ m, k = m + 1 := ⟨k - 1, by omega⟩
    refine ⟨k, by omega, ?_⟩
    simp only [lamellalaw11_ShareDenies.l2]
    rw [if_neg (by omega), w64 _ (by omega)]; rfl
  | succ n ih =>
    intro k j hj hk
    obtain ⟨k, rfl⟩ : ∃ m, k = m + 1 := ⟨k - 1, by omega⟩
    by_cases hlt : j < L.length
    · obtain ⟨k', h1, h2⟩ := ih k (j + 1) (by omega) (by omega)
      refine ⟨k', by omega, ?_⟩
      have nx : lamellalaw11_ShareDenies.l2 k L i (wrap64 ((j : Int) + 1)) = lamellalaw11_ShareDenies.l1 k' L ((i + 1 : Nat) : Int) := by
        rw [w64 _ (by omega)]; exact h2
      simp only [lamellalaw11_ShareDenies.l2]
      rw [if_pos (by omega)]
      by_cases e : (i : Int) = j
      · rw [if_pos e]; exact nx
      · rw [if_neg e, if_pos (by omega), if_pos (by omega), if_pos (by omega), rd_get L i hi, rd_get L j hlt]
        by_cases hf : L[i].f2 = L[j].f2
        · rw [if_pos hf, if_pos (deny h i j hi hlt (by omega) hf)]; exact nx
        · rw [if_neg hf]; exact nx
    · refine ⟨k, by omega, ?_⟩
      simp only [lamellalaw11_ShareDenies.l2]
      rw [if_neg (by omega), w64 _ (by omega)]; rfl
theorem l1_end (L : List S27) (h : RightL L) : ∀ (n k i : Nat), L.length - i ≤ n → n * 20 + 100 < k → lamellalaw11_ShareDenies.l1 k L i = some true := by
  have hL := h.len
  have last : ∀ (k i : Nat), ¬ i < L.length → lamellalaw11_ShareDenies.l1 (k + 1) L i = some true := by
    intro k i hi
    simp only [lamellalaw11_ShareDenies.l1]
    rw [if_neg (by omega), alive_true]
    unfold share_Right.f
    rw [rightL_to h]
    simp only [Option.bind_some, if_true]
    rw [decide_eq_true (by omega)]
  intro n
  induction n with
  | zero =>
    intro k i hi hk
    obtain ⟨k, rfl⟩ : ∃ m, k = m + 1 := ⟨k - 1, by omega⟩
    exact last k i (by omega)
  | succ n ih =>
    intro k i hi hk
    obtain ⟨k, rfl⟩ : ∃ m, k = m + 1 := ⟨k - 1, by omega⟩
    by_cases hlt : i < L.length
    · obtain ⟨k', h1, h2⟩ := l2_end L h i hlt 12 k 0 (by omega) (by omega)
      simp only [lamellalaw11_ShareDenies.l1]
      rw [if_pos (by omega)]
      have h2' : lamellalaw11_ShareDenies.l2 k L i 0 = lamellalaw11_ShareDenies.l1 k' L ((i + 1 : Nat) : Int) := h2
      rw [h2']
      exact ih k' (i + 1) (by omega) (by omega)
    · exact last k i hlt
theorem l0_end (x0 : List S27) : ∀ (n k i : Nat) (L : List S27), RightL L → i ≤ 60 → 60 - i ≤ n → 2 * n + 500 < k → lamellalaw11_ShareDenies.l0 k x0 L i = some true := by
  have last : ∀ (k i : Nat) (L : List S27), RightL L → 450 < k → lamellalaw11_ShareDenies.j1 (k + 1) x0 L i false = some true := by
    intro k i L h hk
    simp only [lamellalaw11_ShareDenies.j1, Bool.false_eq_true, if_false]
    exact l1_end L h 12 k 0 (by have := h.len; omega) (by omega)
  intro n
  induction n with
  | zero =>
    intro k i L h hi0 hi hk
    obtain ⟨k, rfl⟩ : ∃ m, k = m + 2 := ⟨k - 2, by omega⟩
    simp only [lamellalaw11_ShareDenies.l0]
    split
    · rw [decide_eq_false (by omega)]; exact last k i L h (by omega)
    · exact last k i L h (by omega)
  | succ n ih =>
    intro k i L h hi0 hi hk
    obtain ⟨k, rfl⟩ : ∃ m, k = m + 2 := ⟨k - 2, by omega⟩
    simp only [lamellalaw11_ShareDenies.l0]
    by_cases hlt : (i : Int) < (x0.length : Int)
    · rw [if_pos hlt]
      by_cases h60 : i < 60
      · rw [decide_eq_true (by omega)]
        simp only [lamellalaw11_ShareDenies.j1, if_true]
        rw [if_pos (by omega), if_pos hlt, add_some L _ (by have := h.len; omega), w64 ((i : Int) + 1) (by omega)]
        simp only [Option.bind_some]
        by_cases h0 : (addF L (rd_T27 x0 i)).2 = 0
        · have ha := add_zero h0
          rw [if_pos h0, add_yes ha]
          exact ih k (i + 1) _ (ins_right ha) (by omega) (by omega) (by omega)
        · rw [if_neg h0]
          exact ih k (i + 1) L h (by omega) (by omega) (by omega)
      · rw [decide_eq_false (by omega)]; exact last k i L h (by omega)
    · rw [if_neg hlt]; exact last k i L h (by omega)
theorem pure_true (l : List S27) (k : Nat) (hk : 1000 ≤ k) : lamellalaw11_ShareDenies.f k l = some true := by
  unfold lamellalaw11_ShareDenies.f
  rw [alive_true]
  simp only [Option.bind_some, if_true]
  exact l0_end l 60 k 0 [] ⟨by simp, by simp, by simp, List.Pairwise.nil, List.Pairwise.nil⟩ (by omega) (by omega) (by omega)

theorem shareDenies_walk (a0 : Option Addr) (len0 cap0 : Nat) (w : World) (w0 : Sees Try.prog w 140737488351232 5 22 [.slice a0 len0 cap0]) :
    Calls Try.prog 5 #[.slice a0 len0 cap0] w fun e w' => e = .returned (.bool true) ∧ Below w.heap.size w w' := by
  obtain ⟨l, rfl, hc, hC, hn⟩ := sees_list (k := 2) w0
  exact lamellalaw11_ShareDenies.calls (1000 + 1) a0 cap0 l true w hC hc (pure_true l _ (by omega))
end Go.Proofs.Ytecbfpdkbackmaa.shareDenies
