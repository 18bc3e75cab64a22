/- Turned there and back a place is where it was, and so many units one behind the other as there are columns are on unlike servers: the call returns true whatever the input. No condition. -/
import Derived.Test.YteijghkhbfhmhaaPlaneMore
import Derived.Test.YteijghkhbfhmhaaSees
import Derived.Test.YteijghkhbfhmhaaBlk
namespace Go.Proofs.Yteijghkhbfhmhaa.planeApart
open Go.RowKit Go.FInt Go.Sees Go.Blk Go.Proofs.Yteijghkhbfhmhaa.Plane
set_option linter.unusedVariables false
set_option linter.unusedSimpArgs false

/-- the server of the unit i further -/
def srv (k t n i : Int) : Int := 1 + ((k + i) % n + t) % n
theorem srv_bd (k t n i : Int) (h1 : 1 ≤ n) : 1 ≤ srv k t n i ∧ srv k t n i ≤ n := by
  have a := Int.emod_nonneg ((k + i) % n + t) (by omega : n ≠ 0)
  have b := Int.emod_lt_of_pos ((k + i) % n + t) (by omega : 0 < n)
  unfold srv; omega
theorem mod_apart (a b n : Int) (h : a % n = b % n) (h0 : a ≤ b) (h1 : b - a < n) : a = b := by
  have : (b - a) % n = 0 := Int.emod_eq_emod_iff_emod_sub_eq_zero.1 h.symm
  rw [Int.emod_eq_of_lt (by omega) h1] at this
  omega
theorem srv_apart (k t n i j : Int) (h1 : 1 ≤ n) (hi : 0 ≤ i ∧ i < n) (hj : 0 ≤ j ∧ j < n) (h : srv k t n i = srv k t n j) : i = j := by
  unfold srv at h
  have h : ((k + i) + t) % n = ((k + j) + t) % n := by
    have e : ∀ x : Int, (x % n + t) % n = (x + t) % n := fun x => by simp
    rw [e, e] at h; omega
  rcases Int.le_total i j with g | g
  · have := mod_apart _ _ n h (by omega) (by omega); omega
  · have := mod_apart _ _ n h.symm (by omega) (by omega); omega

theorem back_col (c t n : Int) (h0 : 0 ≤ c) (h1 : c < n) : ((c + t) % n + -t) % n = c := by
  have e : ((c + t) % n + -t) % n = (c + t + -t) % n := by simp
  rw [e, show c + t + -t = c by omega, Int.emod_eq_of_lt h0 h1]

/-- the cells that may be set -/
def Marks (k t n i : Int) (cs : Array Value) : Prop :=
  cs.size = 17 ∧ ∃ f : Nat → Bool, (∀ j, j < 17 → cs[j]? = some (.bool (f j))) ∧ ∀ j, f j = true → ∃ i', 0 ≤ i' ∧ i' < i ∧ (j : Int) = srv k t n i'

theorem marks_new (k t n : Int) : Marks k t n 0 #[.bool false, .bool false, .bool false, .bool false, .bool false, .bool false, .bool false, .bool false, .bool false, .bool false, .bool false, .bool false, .bool false, .bool false, .bool false, .bool false, .bool false] := by
  refine ⟨rfl, fun _ => false, fun j hj => ?_, fun j h => by simp at h⟩
  match j, hj with
  | 0, _ => rfl | 1, _ => rfl | 2, _ => rfl | 3, _ => rfl | 4, _ => rfl | 5, _ => rfl | 6, _ => rfl | 7, _ => rfl | 8, _ => rfl | 9, _ => rfl | 10, _ => rfl | 11, _ => rfl | 12, _ => rfl | 13, _ => rfl | 14, _ => rfl | 15, _ => rfl | 16, _ => rfl
  | j + 17, h => omega

theorem marks_at {k t n i : Int} {cs : Array Value} (h : Marks k t n i cs) (h1 : 1 ≤ n) (h2 : n ≤ 16) (hi : 0 ≤ i ∧ i < n) (s : Nat) (hs : (s : Int) = srv k t n i) : cs[s]? = some (.bool false) := by
  obtain ⟨_, f, h3, h4⟩ := h
  have hb := srv_bd k t n i h1
  rw [h3 s (by omega)]
  cases e : f s with
  | false => rfl
  | true =>
    obtain ⟨i', a, b, c⟩ := h4 s e
    have := srv_apart k t n i i' h1 hi ⟨a, by omega⟩ (by omega)
    omega

theorem marks_next {k t n i : Int} {cs : Array Value} (h : Marks k t n i cs) (hi : 0 ≤ i) (s : Nat) (hs : (s : Int) = srv k t n i) (hs2 : s < 17) : Marks k t n (i + 1) (cs.setIfInBounds s (.bool true)) := by
  obtain ⟨h0, f, h3, h4⟩ := h
  refine ⟨by simpa using h0, fun j => if j = s then true else f j, fun j hj => ?_, fun j hj => ?_⟩
  · rw [Array.getElem?_setIfInBounds]
    by_cases e : s = j
    · subst e; simp [h0, hs2]
    · have e2 : ¬ j = s := fun e' => e e'.symm
      simp [e, e2, h3 j hj]
  · simp only at hj
    by_cases e : j = s
    · subst e; exact ⟨i, by omega, by omega, hs⟩
    · rw [if_neg e] at hj
      obtain ⟨i', a, b, c⟩ := h4 j hj
      exact ⟨i', a, by omega, c⟩

theorem apart (k t n c r : Int) (p q : Nat) (er : Int) (w : World) (h1 : 1 ≤ n) (h2 : n ≤ 16) (h3 : 0 ≤ k) (h5 : k ≤ 4294967295) (ht1 : -9223372036854775808 ≤ t) (ht2 : t ≤ 9223372036854775807) (ht3 : (t == -9223372036854775808) = false)
    (hpl : ∀ W, Calls Try.prog 9 #[.int .i64 k, .int .i64 n] W fun e w' => ∃ p q, e = .returned (.tuple #[.complex .f64 p q, .int .i64 er]) ∧ At p q n c r ∧ ∃ m, w' = W.drewN m) :
    Calls Try.prog 5 #[.int .u32 k, .int .i64 t, .int .i64 n] w fun e w' => e = .returned (.bool true) ∧ Below w.heap.size w w' := by
  have HPL := Lib.hid hpl
  have ht4 : -9223372036854775807 ≤ t := by have := ht3; simp at this; omega
  clear hpl
  go_enter Try.func5, Try.ntmps5
  go_wp2_with fail
  refine (alive_any _).mono ?_
  rintro e wA ⟨rfl, mA, rfl⟩
  go_wp2_with fail
  refine (HPL.out _).mono ?_
  rintro e w1 ⟨p, q, rfl, hz, m1, rfl⟩
  have HZ := Lib.hid hz
  clear hz
  go_wp2_with fail
  refine (turn_yes _ _ n c r t _ HZ.out ⟨ht1, ht2⟩).mono ?_
  rintro e w2 ⟨a, b, rfl, ia, ib, rfl⟩
  obtain ⟨-, -, z3, z4, z5, z6, z7, z8⟩ := HZ.out
  have HY : Hid (At a b n ((c + t) % n) r) := Lib.hid ⟨h1, h2, ia, ib, Int.emod_nonneg _ (by omega), Int.emod_lt_of_pos _ (by omega), z7, z8⟩
  clear ia ib
  go_wp2_with fail
  refine (turn_yes _ _ n _ r (-t) _ HY.out ⟨by omega, by omega⟩).mono ?_
  rintro e w3 ⟨a2, b2, rfl, ia, ib, rfl⟩
  rw [back_col c t n z5 z6] at ia
  have e1 := eql_int ia z3 rfl
  have e2 := eql_int ib z4 rfl
  clear ia ib z3 z4
  go_wp2_with fail
  go_loopw [14] (fun v wr => ∃ (i : Int) (cs : Array Value), v = .int .i64 i ∧ 0 ≤ i ∧ i ≤ n ∧ Hid (wr.heap[w.heap.size]? = some (.cells cs 39 (0, 0))) ∧ Hid (Marks k t n i cs) ∧ Hid (Below w.heap.size w wr)) (fun v _ => (n - intOf v).toNat)
  case atStart => exact ⟨0, _, rfl, by omega, by omega, Lib.hid (by first | exact alloc_at _ _ | exact alloc_at (w.drewN _) _), Lib.hid (marks_new k t n), Lib.hid ((bl (Below.refl _ _) _).alloc (Nat.le_refl _) _)⟩
  case round =>
    obtain ⟨i, cs, rfl, hi0, hi1, HC, HM, HB⟩ := hrel
    by_cases hlt : i < n
    · by_cases hk : (k + i) / n < 2147483648
      · have HS := Lib.hid (fun W => server_yes (k + i) t n W h1 h2 (by omega) hk (by omega) ⟨ht1, ht2⟩)
        clear hk
        obtain ⟨s, hs⟩ : ∃ s : Nat, (s : Int) = srv k t n i := ⟨(srv k t n i).toNat, by have := srv_bd k t n i h1; omega⟩
        have hb := srv_bd k t n i h1
        rw [← hs] at hb
        have e17 : s % 17 = s := Nat.mod_eq_of_lt (by omega)
        have hc : wr.cell? ⟨w.heap.size, s % 17, none⟩ = some (.bool false) := by rw [e17]; exact (cell_at HC.out s).trans (marks_at HM.out h1 h2 ⟨hi0, hlt⟩ s hs)
        have hf : wr.frozen? ⟨w.heap.size, s % 17, none⟩ = false := free_at HC.out (s % 17)
        have HN := Lib.hid (marks_next HM.out hi0 s hs (by omega))
        have E17 := Lib.hid e17
        clear e17
        have HS2 : Hid (∀ W, Calls Try.prog 17 #[.int .i64 (k + i), .int .i64 t, .int .i64 n] W fun e w' => e = .returned (.tuple #[.int .i64 (s : Int), .int .i64 0]) ∧ ∃ m, w' = W.drewN m) := Lib.hid (by rw [hs]; exact HS.out)
        clear HS hs
        obtain ⟨hb1, hb2⟩ := hb
        go_wp2_with (go_at_call 17; refine (HS2.out _).mono ?_; rintro e w2 ⟨rfl, m2, rfl⟩)
        go_roundw
        case rel =>
          refine ⟨i + 1, _, rfl, by omega, by omega, Lib.hid ?_, HN, Lib.hid ?_⟩
          · rw [E17.out]; exact set_at HC.out s _
          · exact (bl HB.out _).setCell (Nat.le_refl _) _
        case measure => simp [intOf]; omega
      · have HN := Lib.hid (fun (hh : 1 ≤ n ∧ n ≤ 16 ∧ 0 ≤ k + i ∧ (k + i) / n < 2147483648) => hk hh.2.2.2)
        have hbig : decide (2147483647 < k) = true := by
          have : 2147483648 * n ≤ k + i := (Int.le_ediv_iff_mul_le (by omega)).1 (by omega)
          simp; omega
        clear hk
        go_wp2_with (first | (go_at_call 17; refine (server_no (k + i) t n _ HN.out (by omega)).mono ?_; rintro e w2 ⟨rfl, rfl⟩) | (go_at_call 8; refine (alive_any _).mono ?_; rintro e wB ⟨rfl, mB, rfl⟩))
        go_ret
        exact ⟨rfl, bl HB.out _⟩
    · go_wp2_with (go_at_call 8; refine (alive_any _).mono ?_; rintro e wB ⟨rfl, mB, rfl⟩)
      go_ret
      exact ⟨rfl, bl HB.out _⟩
theorem planeApart_walk (a0 : Int) (a1 : Int) (a2 : Int) (w : World) (w0 : (Lit.int .u32 a0).wf = true) (w1 : (Lit.int .i64 a1).wf = true) (w2 : (Lit.int .i64 a2).wf = true) :
    Calls Try.prog 5 #[.int .u32 a0, .int .i64 a1, .int .i64 a2] w fun e w' => e = .returned (.bool true) ∧ Below w.heap.size w w' := by
  have b0 := bounds_u32 w0
  have b1 := bounds_i64 w1
  by_cases h3 : a1 = -9223372036854775808
  · have c4 : (a1 == -9223372036854775808) = true := by simp [h3]
    clear h3
    by_cases h1 : 1 ≤ a2
    · by_cases h2 : a2 ≤ 16
      · go_enter Try.func5, Try.ntmps5
        go_wp2_with (go_at_call 8; refine (alive_any _).mono ?_; rintro e wA ⟨rfl, mA, rfl⟩)
        go_ret
        exact ⟨rfl, by repeat (first | exact Below.refl _ _ | apply bl)⟩
      · have c5 : decide (16 < a2) = true := by simp; omega
        go_enter Try.func5, Try.ntmps5
        go_wp2_with (go_at_call 8; refine (alive_any _).mono ?_; rintro e wA ⟨rfl, mA, rfl⟩)
        go_ret
        exact ⟨rfl, by repeat (first | exact Below.refl _ _ | apply bl)⟩
    · have c5 : decide (a2 < 1) = true := by simp; omega
      go_enter Try.func5, Try.ntmps5
      go_wp2_with (go_at_call 8; refine (alive_any _).mono ?_; rintro e wA ⟨rfl, mA, rfl⟩)
      go_ret
      exact ⟨rfl, by repeat (first | exact Below.refl _ _ | apply bl)⟩
  · have c4 : (a1 == -9223372036854775808) = false := by simp [h3]
    have h4 : -9223372036854775807 ≤ a1 := by omega
    clear h3
    by_cases h1 : 1 ≤ a2
    · by_cases h2 : a2 ≤ 16
      · by_cases hk : a0 / a2 < 2147483648
        · exact apart a0 a1 a2 (a0 % a2) (a0 / a2) 0 0 0 w h1 h2 b0.1 b0.2 b1.1 b1.2 c4 (fun W => by
            refine (place_here a0 a2 W h1 h2 b0.1 hk (by omega)).mono ?_
            rintro e w' ⟨re, im, rfl, hh, m, rfl⟩
            exact ⟨re, im, rfl, hh.at, m, rfl⟩)
        · exact apart a0 a1 a2 0 0 0 0 1 w h1 h2 b0.1 b0.2 b1.1 b1.2 c4 (fun W => by
            refine (place_no a0 a2 W (fun hh => hk hh.2.2.2) (by omega)).mono ?_
            rintro e w' ⟨rfl, rfl⟩
            exact ⟨0, 0, rfl, ⟨h1, h2, isInt_zero, isInt_zero, by omega, by omega, by omega, by omega⟩, 0, rfl⟩)
      · have c5 : decide (16 < a2) = true := by simp; omega
        go_enter Try.func5, Try.ntmps5
        go_wp2_with (go_at_call 8; refine (alive_any _).mono ?_; rintro e wA ⟨rfl, mA, rfl⟩)
        go_ret
        exact ⟨rfl, by repeat (first | exact Below.refl _ _ | apply bl)⟩
    · have c5 : decide (a2 < 1) = true := by simp; omega
      go_enter Try.func5, Try.ntmps5
      go_wp2_with (go_at_call 8; refine (alive_any _).mono ?_; rintro e wA ⟨rfl, mA, rfl⟩)
      go_ret
      exact ⟨rfl, by repeat (first | exact Below.refl _ _ | apply bl)⟩
end Go.Proofs.Yteijghkhbfhmhaa.planeApart
