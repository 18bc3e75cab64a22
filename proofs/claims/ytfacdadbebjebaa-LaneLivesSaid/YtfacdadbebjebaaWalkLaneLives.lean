/- When a greater life was heard, no request of a lesser one is new any more: the call returns true whatever the input. No condition. -/
import Derived.Test.YtfacdadbebjebaaPLaneLivesx
import Derived.Test.YtfacdadbebjebaaOpens
import Derived.Test.YtfacdadbebjebaaInts
namespace Go.Proofs.Ytfacdadbebjebaa.laneLives
set_option linter.unusedVariables false
set_option linter.unusedSimpArgs false
open Go.RowKit Go.Sees Go.Proofs.Ytfacdadbebjebaa.PLaneLives Go.Proofs.Ytfacdadbebjebaa.Opens Go.Proofs.YtfacdadbebjebaaW.PrintWords

theorem alive_true (k : Nat) : lamellalaw08_alive.f (k + 3) = some true := by
  simp [lamellalaw08_alive.f, lane_Ask.f, lane_Tick.f, lane_Hear.f, lane_Hear.j0, lane_Judge.f, lane_Judge.j0, lane_Judge.j1, lane_Done.f, mn, mx]

/-- a lesser life is old -/
theorem judge_old (k : Nat) (l q : Int) (s : ByteArray) (x y : Int) (h : x < l) : lane_Judge.f (k + 3) l q s x y = some 3 := by
  unfold lane_Judge.f
  rw [if_pos h]
  simp [lane_Judge.j0]

/-- a seat behind a request of its own life -/
theorem done_own (k : Nat) (l q : Int) (s : ByteArray) (y : Int) (t : ByteArray) (hq : 0 ≤ q ∧ q ≤ 4294967295) (hy : 0 ≤ y ∧ y ≤ 4294967295) (hl : l ≠ 0) :
    ∃ q' s', lane_Done.f (k + 3) l q s l y t = some (l, q', s') ∧ q ≤ q' ∧ (q' = q ∨ q' = q + 1) ∧ q' ≤ 4294967295 := by
  unfold lane_Done.f lane_Judge.f
  rw [if_neg (by omega), if_neg hl]
  simp only [lane_Judge.j0, lane_Judge.j1, beq_iff_eq]
  repeat' split
  all_goals first
    | exact ⟨_, _, rfl, by omega, by omega, by omega⟩
    | (rename_i h; simp at h)
  all_goals first
    | exact ⟨_, _, rfl, by omega, by omega, by omega⟩
    | omega
    | simp_all

theorem loop_true (x1 x2 x3 : Int) (l : List Int) (hb : ∀ n ∈ l, (Lit.int .u32 n).wf = true) (h0 : x2 < x1) (h00 : x1 ≠ 0) :
    ∀ (d k : Nat) (i q : Int) (s : ByteArray), 0 ≤ i → i ≤ 100 → (100 - i).toNat = d → 2 * d + 8 ≤ k → 0 ≤ q → q ≤ i + 1 →
      lamellalaw08_LaneLives.l0 k x1 x2 x3 l i x1 q s = some true := by
  intro d
  induction d with
  | zero =>
    intro k i q s hi hi2 hd hk hq hq2
    obtain ⟨k, rfl⟩ : ∃ m, k = m + 5 := ⟨k - 5, by omega⟩
    simp only [lamellalaw08_LaneLives.l0, lamellalaw08_LaneLives.j3]
    rw [decide_eq_false (by omega : ¬ i < 100)]
    simp [alive_true]
  | succ d ih =>
    intro k i q s hi hi2 hd hk hq hq2
    obtain ⟨k, rfl⟩ : ∃ m, k = m + 5 := ⟨k - 5, by omega⟩
    simp only [lamellalaw08_LaneLives.l0, lamellalaw08_LaneLives.j3]
    rw [decide_eq_true (by omega : i < 100)]
    by_cases hlt : i < (l.length : Int)
    · have hy : 0 ≤ rd l i ∧ rd l i ≤ 4294967295 := by
        have := range_u32 hb i.toNat
        simpa [rd, List.getD] using this
      obtain ⟨q', s', e, g1, g2, g3⟩ := done_own k x1 q s (rd l i) ⟨#[110, 101, 120, 116]⟩ ⟨hq, by omega⟩ hy h00
      rw [if_pos hlt, if_pos rfl, if_pos hi, if_pos hlt, e]
      simp only [Option.bind_some, if_true]
      rw [if_neg (by omega), if_neg (by omega), judge_old k x1 q' s' x2 x3 h0]
      simp only [Option.bind_some, if_true]
      rw [show wrap64 (i + 1) = i + 1 by unfold wrap64; omega]
      exact ih (k + 3) (i + 1) q' s' (by omega) (by omega) (by omega) (by omega) (by omega) (by omega)
    · rw [if_neg hlt]
      simp [alive_true]

theorem pure_true (l q : Int) (s : ByteArray) (x1 x2 x3 : Int) (m : List Int) (hl : 0 ≤ l) (h2 : 0 ≤ x2) (hb : ∀ n ∈ m, (Lit.int .u32 n).wf = true) :
    lamellalaw08_LaneLives.f 300 l q s x1 x2 x3 m = some true := by
  unfold lamellalaw08_LaneLives.f
  rw [alive_true 297]
  simp only [Option.bind_some, if_true]
  by_cases h : x1 ≤ l
  · rw [if_pos h]
    simp only [lamellalaw08_LaneLives.j0, if_true]
    rw [alive_true 296]; rfl
  · rw [if_neg h]
    by_cases g : x2 ≥ x1
    · simp only [lamellalaw08_LaneLives.j0, decide_eq_true g, if_true]
      rw [alive_true 296]; rfl
    · simp only [lamellalaw08_LaneLives.j0, decide_eq_false g, Bool.false_eq_true, if_false]
      have e : lane_Done.f 299 l q s x1 1 ⟨#[102, 105, 114, 115, 116]⟩ = some (x1, 1, ⟨#[102, 105, 114, 115, 116]⟩) := by
        unfold lane_Done.f lane_Judge.f
        rw [if_neg (by omega), if_neg (by omega)]
        simp only [lane_Judge.j0, lane_Judge.j1]
        rw [if_neg (by decide), if_pos (show x1 > l by omega)]
        rfl
      rw [e]
      simp only [Option.bind_some, if_true]
      rw [if_pos (by simp), judge_old 296 x1 1 _ x2 x3 (by omega)]
      simp only [Option.bind_some, lamellalaw08_LaneLives.j1, bne_self_eq_false, Bool.false_eq_true, if_false]
      exact loop_true x1 x2 x3 m hb (by omega) (by omega) 100 298 0 1 _ (by omega) (by omega) (by omega) (by omega) (by omega) (by omega)

theorem laneLives_walk (a0 : Array Value) (a1 : Int) (a2 : Int) (a3 : Int) (a4 : Option Addr) (len4 cap4 : Nat) (w : World) (w0 : Sees Try.prog w 140737488351232 5 24 a0.toList) (w1 : (Lit.int .u32 a1).wf = true) (w2 : (Lit.int .u32 a2).wf = true) (w3 : (Lit.int .u32 a3).wf = true) (w4 : Sees Try.prog w 140737488351232 5 36 [.slice a4 len4 cap4]) :
    Calls Try.prog 7 #[.agg a0, .int .u32 a1, .int .u32 a2, .int .u32 a3, .slice a4 len4 cap4] w fun e w' => e = .returned (.bool true) ∧ Below w.heap.size w w' := by
  obtain ⟨l, q, s, rfl, h1, h2, -⟩ := openA24 (k := 3) w0
  obtain ⟨m, rfl, hr, hc, hb⟩ := ints_of_sees Try.underlying36 Try.underlying22 (by kernel_rfl) w4
  exact lamellalaw08_LaneLives.calls 300 l q s a1 a2 a3 a4 cap4 m true w hr hc (pure_true l q s a1 a2 a3 m (bounds_u32 h1).1 (bounds_u32 w2).1 hb)
end Go.Proofs.Ytfacdadbebjebaa.laneLives
