/- Layer device: behind a crash each block is as it was settled, or as some write since then left it. -/
import Derived.Test.YtmphnfkohilojaaDevMay
namespace Go.Proofs.Ytmphnfkohilojaa.Dev
open Go.RowKit Go.Own Go.DevL Go.Blk Go.Sees Go.Proofs.YtmphnfkohilojaaW.PrintLast Go.Proofs.YtmphnfkohilojaaW.PrintWords
set_option linter.unusedVariables false
set_option linter.unusedSimpArgs false
set_option maxRecDepth 100000
theorem May.moreX {w0 w : World} {G : Nat} {X Y : List Nat} {M : Nat → List ByteArray} {v : Nat → Value} (h : May w0 w G X M v) (hY : ∀ b, b ∈ X → b ∈ Y) : May w0 w G Y M v :=
  { h with inX := fun k hk b hb => ⟨hY b (h.inX k hk b hb).1, (h.inX k hk b hb).2⟩, gX := hY G h.gX }
theorem row_cell {α : Type} {w : World} {base n : Nat} {e : TypeId} {v : Value} {f : α → Value} {xs : List α} (h : w.ownsRow base e 1 v n (xs.map f)) (i : Nat) (hi : i < xs.length) :
    ∃ g cap, v = .slice (some ⟨g, 0, none⟩) n cap ∧ w.cell? ⟨g, i, none⟩ = some (f xs[i]) := by
  have hlen : xs.length = n := by have := h.1; simpa using this
  rcases row_some h with ⟨_, h0⟩ | ⟨g, cap, hv, _⟩
  · omega
  · subst hv
    refine ⟨g, cap, rfl, ?_⟩
    have := h.cells (g := g) rfl i (f xs[i]) (by rw [List.getElem?_map, List.getElem?_eq_getElem hi]; rfl)
    have e : (⟨g, 0, none⟩ : Addr).add i = ⟨g, i, none⟩ := by unfold Addr.add; split <;> simp_all
    rwa [e] at this
theorem str_inj {a b : ByteArray} (h : a.toList = b.toList) : a = b := by
  rw [ByteArray.toList_eq, ByteArray.toList_eq] at h
  exact ByteArray.ext (Array.toList_inj.1 h)
theorem mz_step {M : Nat → List ByteArray} (k : Nat) (h : ∀ j, j < 4 → M j = if j < k then [Z] else []) (hk : k < 4) : ∀ j, j < 4 → (if j = k then M k ++ [Z] else M j) = if j < k + 1 then [Z] else [] := fun j hj => by
  by_cases e : j = k
  · subst e
    rw [if_pos rfl, h j hj, if_neg (Nat.lt_irrefl _), if_pos (Nat.lt_succ_self _)]; rfl
  · rw [if_neg e, h j hj]
    by_cases h1 : j < k
    · rw [if_pos h1, if_pos (by omega)]
    · rw [if_neg h1, if_neg (by omega)]
theorem cov_step {M : Nat → List ByteArray} {d d' : Dv} (h : ∀ k, k < 4 → Cov k (M k) d) (i : Nat) (s : ByteArray) (hf : d'.firm = d.firm) (hl : d'.late = d.late ++ [(i, s)]) : ∀ q, q < 4 → Cov q (if q = i then M i ++ [s] else M q) d' := fun q hq => by
  have h2 := (h q hq).more hf i s hl
  by_cases e : q = i
  · subst e; simpa using h2
  · simpa [e] using h2
theorem len_step {M : Nat → List ByteArray} {j : Nat} (h : ∀ k, k < 4 → (M k).length ≤ j + 1) (i : Nat) (hi : i < 4) (s : ByteArray) : ∀ q, q < 4 → (if q = i then M i ++ [s] else M q).length ≤ j + 1 + 1 := fun q hq => by
  have h1 := h q hq
  have h2 := h i hi
  by_cases e : q = i
  · rw [if_pos e, List.length_append]; simp; omega
  · rw [if_neg e]; omega
theorem new_step {M M' : Nat → List ByteArray} {d' : Dv} (k : Nat) (h : ∀ q, q < 4 → if q < k then Cov q (M' q) d' ∧ (M' q).length = 1 else M' q = M q) (hk : k < 4) {s : ByteArray} (hs : d'.firm[k]? = some s) (hl : d'.late = []) :
    ∀ q, q < 4 → if q < k + 1 then Cov q (if q = k then [] ++ [s] else M' q) d' ∧ (if q = k then [] ++ [s] else M' q).length = 1 else (if q = k then [] ++ [s] else M' q) = M q := fun q hq => by
  have h1 := h q hq
  by_cases e : q = k
  · subst e
    rw [if_pos (Nat.lt_succ_self _), if_pos rfl]
    exact ⟨cov_new hs hl, rfl⟩
  · rw [if_neg e]
    by_cases e2 : q < k
    · rw [if_pos e2] at h1; rw [if_pos (by omega)]; exact h1
    · rw [if_neg e2] at h1; rw [if_neg (by omega)]; exact h1
set_option maxHeartbeats 16000000 in
theorem some_law (A : Option Addr) (ca : Nat) (l : List SAct) (keep : Int) (hk0 : 0 ≤ keep) (hk1 : keep < 18446744073709551616) (w : World) (hA : ArrAt w A acells 4 l) (hl : ∀ x ∈ l, x.OK) (ll : l.length ≤ 9223372036854775807) :
    Calls Try.prog 6 #[.slice A l.length ca, .int .u64 keep] w fun e w' => e = .returned (.bool true) ∧ Below w.heap.size w w' := by
  have HA := Lib.hid hA
  have HOl := Lib.hid hl
  have HBL := Lib.hid (show ∀ (b : UInt8) W, Calls Try.prog 11 #[.int .u8 (b.toNat : Int), .int .i64 256] W fun e w' => e = .returned (.string (rep8 b 256)) ∧ Below W.heap.size W w' from fun b W => block_any b 256 (by decide) W)
  clear hA hl
  go_enter Try.func6, Try.ntmps6
  go_wp2_with fail
  refine (alive_calls w).mono ?_
  rintro e w1 ⟨rfl, hb⟩
  have HB1 := Lib.hid hb
  clear hb
  go_wp2_with fail
  refine (has_new 4 w w1 (X := []) HB1.out (fun k hk => by simp at hk)).mono ?_
  rintro e w2 ⟨⟨p, rfl, h2⟩, _⟩
  have H2 := Lib.hid h2
  clear h2 HB1
  go_wp2_with fail
  have H5 := Lib.hid (H2.out.alloc (.cells #[.slice none 0 0, .slice none 0 0, .slice none 0 0, .slice none 0 0] 45))
  have HM5 : Hid (May w (w2.alloc (.cells #[.slice none 0 0, .slice none 0 0, .slice none 0 0, .slice none 0 0] 45)) w2.heap.size [w2.heap.size] (fun _ => []) (fun _ => .slice none 0 0)) :=
    ⟨alloc_at w2 _, fun k hk => World.ownsRow_nil _ _ _ _, fun k hk b hb => by simp [Value.ownBlock] at hb, fun k hk l hl hkl b hb => by simp [Value.ownBlock] at hb, by simp, H2.out.bel.size⟩
  obtain ⟨G, hG⟩ : ∃ G, w2.heap.size = G := ⟨_, rfl⟩
  rw [hG] at H5 HM5 ⊢
  generalize w2.alloc (.cells #[.slice none 0 0, .slice none 0 0, .slice none 0 0, .slice none 0 0] 45) = w5 at H5 HM5 ⊢
  clear H2 hG
  go_loopw [7] (fun s7 wr => ∃ (k : Nat) (X : List Nat) (M : Nat → List ByteArray) (v : Nat → Value), s7 = .int .i64 k ∧ k ≤ 4 ∧ Hid (Has w wr p (fresh 4) X) ∧ Hid (May w wr G X M v) ∧ Hid (∀ j, j < 4 → M j = if j < k then [Z] else [])) (fun s7 _ => 4 - (intOf s7).toNat)
  case atStart => exact ⟨0, [G], fun _ => [], fun _ => .slice none 0 0, by simp, by omega, H5, HM5, Lib.hid (fun j hj => by simp)⟩
  case round =>
    clear H5 HM5
    obtain ⟨k, X, M, v, rfl, hk, HH, HM, HV⟩ := hrel
    have HLM := Lib.hid (show ∀ j, j < 4 → (M j).length ≤ 1 from fun j hj => by rw [HV.out j hj]; split <;> simp)
    have hk5 : k = 0 ∨ k = 1 ∨ k = 2 ∨ k = 3 ∨ k = 4 := by omega
    clear hk
    rcases hk5 with rfl | rfl | rfl | rfl | rfl
    · have hx := blk4 HM.out.blk
      go_wp2
      clear hx
      refine start_ (n := 11) (S := fun w' => w'.heap[G]? = some (.cells #[v 0, v 1, v 2, v 3] 45 (0, 0))) (ds := [10]) #[false, false, false, false, false, false, false, false, false, false, false] (by kernel_rfl) rfl rfl (HM.out.blk) (fun hHeld => ?_)
      have HHa := Lib.hid HH.out.drew
      have HMa := Lib.hid (HM.out.below (Below.refl _ _).drew HH.out.ltX)
      generalize wr.drew = wa at HHa HMa hHeld ⊢
      clear HH HM
      refine pure_ (i := 0) (N := some 26) (v := ?_) (a' := ?_) #[true, false, false, false, false, false, false, false, false, false, false] rfl rfl (by kernel_rfl) (fun _ _ _ h => h) (Or.inl ⟨by rfl, ?_⟩) ?_ ?_
      rotate_left
      · intro w'
        go_simp
        with_reducible rfl
      rotate_left
      · simp only [Act.put, List.setIfInBounds_toArray, List.set_cons_zero, List.set_cons_succ, i64_w, i32_w]
        rfl
      refine pure_ (i := 1) (N := some 27) (v := ?_) (a' := ?_) #[true, true, false, false, false, false, false, false, false, false, false] rfl rfl (by kernel_rfl) (fun _ _ _ h => h) (Or.inl ⟨by rfl, ?_⟩) ?_ ?_
      rotate_left
      · intro w'
        go_simp
        with_reducible rfl
      rotate_left
      · simp only [Act.put, List.setIfInBounds_toArray, List.set_cons_zero, List.set_cons_succ, i64_w, i32_w]
        rfl
      refine pure_ (i := 2) (N := some 28) (v := ?_) (a' := ?_) #[true, true, true, false, false, false, false, false, false, false, false] rfl rfl (by kernel_rfl) (fun _ _ _ h => h) (Or.inl ⟨by rfl, ?_⟩) ?_ ?_
      rotate_left
      · intro w'
        go_simp
        with_reducible rfl
      rotate_left
      · simp only [Act.put, List.setIfInBounds_toArray, List.set_cons_zero, List.set_cons_succ, i64_w, i32_w]
        rfl
      refine take_ (i := 3) (N := some 29) (v := ?_) (a' := ?_) #[true, true, true, true, false, false, false, false, false, false, false] rfl rfl (by kernel_rfl) (fun _ _ _ h => h) (Or.inl ⟨by rfl, ?_⟩) hHeld ?_ ?_
      rotate_left
      · intro w' hS
        have s5 := blk4 hS
        obtain ⟨z0, _, z1, _, z2, _, z3, _⟩ := s5
        go_simp
        with_reducible rfl
      rotate_left
      · simp only [Act.put, List.setIfInBounds_toArray, List.set_cons_zero, List.set_cons_succ, i64_w, i32_w]
        rfl
      refine pure_ (i := 4) (N := some 30) (v := ?_) (a' := ?_) #[true, true, true, true, true, false, false, false, false, false, false] rfl rfl (by kernel_rfl) (fun _ _ _ h => h) (Or.inl ⟨by rfl, ?_⟩) ?_ ?_
      rotate_left
      · intro w'
        go_simp
        with_reducible rfl
      rotate_left
      · simp only [Act.put, List.setIfInBounds_toArray, List.set_cons_zero, List.set_cons_succ, i64_w, i32_w]
        rfl
      refine pure_ (i := 5) (N := some 31) (v := ?_) (a' := ?_) #[true, true, true, true, true, true, false, false, false, false, false] rfl rfl (by kernel_rfl) (fun _ _ _ h => h) (Or.inl ⟨by rfl, ?_⟩) ?_ ?_
      rotate_left
      · intro w'
        go_simp
        with_reducible rfl
      rotate_left
      · simp only [Act.put, List.setIfInBounds_toArray, List.set_cons_zero, List.set_cons_succ, i64_w, i32_w]
        rfl
      refine one_ (i := 6) (N := some 32) #[true, true, true, true, true, true, true, false, false, false, false] rfl rfl (by kernel_rfl) (by decide) (fun K hK => ?_)
      refine goes_ Try.func19 (by kernel_rfl) rfl #[.pointer (some ⟨p, 0, none⟩), .int .i64 0] (by rfl) rfl rfl (by (try simp only [List.map_toArray, List.map_cons, List.map_nil]); first | done | rfl) ?_
      refine (has_settled HHa.out 0).mono ?_
      rw [show (fresh 4).settled 0 = Z from rfl]
      rintro e w6 ⟨rfl, rfl⟩
      refine ⟨_, rfl, ?_⟩
      refine hK.out _ _ HMa.out.blk (fun hHeld => ?_)
      clear hK K
      refine norm_ (a' := ?_) ?_ ?_
      rotate_left
      · show Act.put _ (some 32) _ = _
        simp only [Act.put, List.setIfInBounds_toArray, List.set_cons_zero, List.set_cons_succ, i64_w, i32_w]
        rfl
      refine one_ (i := 7) (N := some 33) #[true, true, true, true, true, true, true, true, false, false, false] rfl rfl (by kernel_rfl) (by decide) (fun K hK => ?_)
      refine value_ (by rfl) rfl (execOp_buildSlice (ps := #[(0, .string (Z))]) rfl rfl (run_bs wa (Z))) ?_
      have HHb := Lib.hid (HHa.out.alloc (.cells #[.string (Z)] 9))
      have HMb := Lib.hid ((HMa.out.below ((Below.refl _ _).alloc (Nat.le_refl _) (.cells #[.string (Z)] 9)) HHa.out.ltX).moreX (Y := wa.heap.size :: _) (fun b hb => List.mem_cons_of_mem _ hb))
      have HNb := Lib.hid (alloc_at wa (.cells #[.string (Z)] 9))
      obtain ⟨N, hN⟩ : ∃ N, wa.heap.size = N := ⟨_, rfl⟩
      rw [hN] at HHb HMb HNb ⊢
      clear hN
      generalize wa.alloc (.cells #[.string (Z)] 9) = wb at HHb HMb HNb  ⊢
      clear hHeld HHa HMa
      refine hK.out _ _ HMb.out.blk (fun hHeld => ?_)
      clear hK K
      refine norm_ (a' := ?_) ?_ ?_
      rotate_left
      · show Act.put _ (some 33) _ = _
        simp only [Act.put, List.setIfInBounds_toArray, List.set_cons_zero, List.set_cons_succ, i64_w, i32_w]
        rfl
      refine one_ (i := 8) (N := some 34) #[true, true, true, true, true, true, true, true, true, false, false] rfl rfl (by kernel_rfl) (by decide) (fun K hK => ?_)
      obtain ⟨v', w9, hr, ⟨Av, nv, cv, hv'⟩, hG9, hs9, hkp9, X9, hm9, hh9⟩ := may_append HMb.out HHb.out 0 (by omega) (Z) N (v 0) (M 0) (by have := HLM.out 0 (by omega); omega) (HMb.out.row 0 (by omega)) (fun b hb => ⟨(HMb.out.inX 0 (by omega) b hb).1, (HMb.out.inX 0 (by omega) b hb).2, fun l hl hlk => HMb.out.two 0 (by omega) l hl (fun e => hlk e.symm) b hb⟩) HNb.out
      subst hv'
      refine value_ (by rfl) rfl (execOp_append rfl rfl rfl hr) ?_
      have HG9 := Lib.hid hG9
      have HM9 := Lib.hid hm9
      have HH9 := Lib.hid hh9
      clear hr hs9 hkp9 hG9 hm9 hh9
      refine hK.out _ _ HG9.out (fun hHeld => ?_)
      clear hK K
      refine norm_ (a' := ?_) ?_ ?_
      rotate_left
      · show Act.put _ (some 34) _ = _
        simp only [Act.put, List.setIfInBounds_toArray, List.set_cons_zero, List.set_cons_succ, i64_w, i32_w]
        rfl
      refine pure_ (i := 9) (N := some 35) (v := ?_) (a' := ?_) #[true, true, true, true, true, true, true, true, true, true, false] rfl rfl (by kernel_rfl) (fun _ _ _ h => h) (Or.inl ⟨by rfl, ?_⟩) ?_ ?_
      rotate_left
      · intro w'
        go_simp
        with_reducible rfl
      rotate_left
      · simp only [Act.put, List.setIfInBounds_toArray, List.set_cons_zero, List.set_cons_succ, i64_w, i32_w]
        rfl
      refine last_ (i := 10) (N := none) #[true, true, true, true, true, true, true, true, true, true, true] rfl rfl (by kernel_rfl) (by decide) (fun K hK => ?_)
      have s5 := blk4 HG9.out
      obtain ⟨z0, f0, z1, f1, z2, f2, z3, f3⟩ := s5
      refine skip_ (w1 := ?_) (by rfl) rfl ?_ ?_
      rotate_left
      · go_simp
        rfl
      clear z0 f0 z1 f1 z2 f2 z3 f3
      refine hK.out _ _ ?_
      clear hK K
      refine done_ (by kernel_rfl) ?_
      go_wp2
      go_roundw
      case rel => exact ⟨1, X9, _, _, by simp, by omega, HH9, HM9, Lib.hid (mz_step 0 HV.out (by omega))⟩
      case measure => simp [intOf]
    · have hx := blk4 HM.out.blk
      go_wp2
      clear hx
      refine start_ (n := 11) (S := fun w' => w'.heap[G]? = some (.cells #[v 0, v 1, v 2, v 3] 45 (0, 0))) (ds := [10]) #[false, false, false, false, false, false, false, false, false, false, false] (by kernel_rfl) rfl rfl (HM.out.blk) (fun hHeld => ?_)
      have HHa := Lib.hid HH.out.drew
      have HMa := Lib.hid (HM.out.below (Below.refl _ _).drew HH.out.ltX)
      generalize wr.drew = wa at HHa HMa hHeld ⊢
      clear HH HM
      refine pure_ (i := 0) (N := some 26) (v := ?_) (a' := ?_) #[true, false, false, false, false, false, false, false, false, false, false] rfl rfl (by kernel_rfl) (fun _ _ _ h => h) (Or.inl ⟨by rfl, ?_⟩) ?_ ?_
      rotate_left
      · intro w'
        go_simp
        with_reducible rfl
      rotate_left
      · simp only [Act.put, List.setIfInBounds_toArray, List.set_cons_zero, List.set_cons_succ, i64_w, i32_w]
        rfl
      refine pure_ (i := 1) (N := some 27) (v := ?_) (a' := ?_) #[true, true, false, false, false, false, false, false, false, false, false] rfl rfl (by kernel_rfl) (fun _ _ _ h => h) (Or.inl ⟨by rfl, ?_⟩) ?_ ?_
      rotate_left
      · intro w'
        go_simp
        with_reducible rfl
      rotate_left
      · simp only [Act.put, List.setIfInBounds_toArray, List.set_cons_zero, List.set_cons_succ, i64_w, i32_w]
        rfl
      refine pure_ (i := 2) (N := some 28) (v := ?_) (a' := ?_) #[true, true, true, false, false, false, false, false, false, false, false] rfl rfl (by kernel_rfl) (fun _ _ _ h => h) (Or.inl ⟨by rfl, ?_⟩) ?_ ?_
      rotate_left
      · intro w'
        go_simp
        with_reducible rfl
      rotate_left
      · simp only [Act.put, List.setIfInBounds_toArray, List.set_cons_zero, List.set_cons_succ, i64_w, i32_w]
        rfl
      refine take_ (i := 3) (N := some 29) (v := ?_) (a' := ?_) #[true, true, true, true, false, false, false, false, false, false, false] rfl rfl (by kernel_rfl) (fun _ _ _ h => h) (Or.inl ⟨by rfl, ?_⟩) hHeld ?_ ?_
      rotate_left
      · intro w' hS
        have s5 := blk4 hS
        obtain ⟨z0, _, z1, _, z2, _, z3, _⟩ := s5
        go_simp
        with_reducible rfl
      rotate_left
      · simp only [Act.put, List.setIfInBounds_toArray, List.set_cons_zero, List.set_cons_succ, i64_w, i32_w]
        rfl
      refine pure_ (i := 4) (N := some 30) (v := ?_) (a' := ?_) #[true, true, true, true, true, false, false, false, false, false, false] rfl rfl (by kernel_rfl) (fun _ _ _ h => h) (Or.inl ⟨by rfl, ?_⟩) ?_ ?_
      rotate_left
      · intro w'
        go_simp
        with_reducible rfl
      rotate_left
      · simp only [Act.put, List.setIfInBounds_toArray, List.set_cons_zero, List.set_cons_succ, i64_w, i32_w]
        rfl
      refine pure_ (i := 5) (N := some 31) (v := ?_) (a' := ?_) #[true, true, true, true, true, true, false, false, false, false, false] rfl rfl (by kernel_rfl) (fun _ _ _ h => h) (Or.inl ⟨by rfl, ?_⟩) ?_ ?_
      rotate_left
      · intro w'
        go_simp
        with_reducible rfl
      rotate_left
      · simp only [Act.put, List.setIfInBounds_toArray, List.set_cons_zero, List.set_cons_succ, i64_w, i32_w]
        rfl
      refine one_ (i := 6) (N := some 32) #[true, true, true, true, true, true, true, false, false, false, false] rfl rfl (by kernel_rfl) (by decide) (fun K hK => ?_)
      refine goes_ Try.func19 (by kernel_rfl) rfl #[.pointer (some ⟨p, 0, none⟩), .int .i64 1] (by rfl) rfl rfl (by (try simp only [List.map_toArray, List.map_cons, List.map_nil]); first | done | rfl) ?_
      refine (has_settled HHa.out 1).mono ?_
      rw [show (fresh 4).settled 1 = Z from rfl]
      rintro e w6 ⟨rfl, rfl⟩
      refine ⟨_, rfl, ?_⟩
      refine hK.out _ _ HMa.out.blk (fun hHeld => ?_)
      clear hK K
      refine norm_ (a' := ?_) ?_ ?_
      rotate_left
      · show Act.put _ (some 32) _ = _
        simp only [Act.put, List.setIfInBounds_toArray, List.set_cons_zero, List.set_cons_succ, i64_w, i32_w]
        rfl
      refine one_ (i := 7) (N := some 33) #[true, true, true, true, true, true, true, true, false, false, false] rfl rfl (by kernel_rfl) (by decide) (fun K hK => ?_)
      refine value_ (by rfl) rfl (execOp_buildSlice (ps := #[(0, .string (Z))]) rfl rfl (run_bs wa (Z))) ?_
      have HHb := Lib.hid (HHa.out.alloc (.cells #[.string (Z)] 9))
      have HMb := Lib.hid ((HMa.out.below ((Below.refl _ _).alloc (Nat.le_refl _) (.cells #[.string (Z)] 9)) HHa.out.ltX).moreX (Y := wa.heap.size :: _) (fun b hb => List.mem_cons_of_mem _ hb))
      have HNb := Lib.hid (alloc_at wa (.cells #[.string (Z)] 9))
      obtain ⟨N, hN⟩ : ∃ N, wa.heap.size = N := ⟨_, rfl⟩
      rw [hN] at HHb HMb HNb ⊢
      clear hN
      generalize wa.alloc (.cells #[.string (Z)] 9) = wb at HHb HMb HNb  ⊢
      clear hHeld HHa HMa
      refine hK.out _ _ HMb.out.blk (fun hHeld => ?_)
      clear hK K
      refine norm_ (a' := ?_) ?_ ?_
      rotate_left
      · show Act.put _ (some 33) _ = _
        simp only [Act.put, List.setIfInBounds_toArray, List.set_cons_zero, List.set_cons_succ, i64_w, i32_w]
        rfl
      refine one_ (i := 8) (N := some 34) #[true, true, true, true, true, true, true, true, true, false, false] rfl rfl (by kernel_rfl) (by decide) (fun K hK => ?_)
      obtain ⟨v', w9, hr, ⟨Av, nv, cv, hv'⟩, hG9, hs9, hkp9, X9, hm9, hh9⟩ := may_append HMb.out HHb.out 1 (by omega) (Z) N (v 1) (M 1) (by have := HLM.out 1 (by omega); omega) (HMb.out.row 1 (by omega)) (fun b hb => ⟨(HMb.out.inX 1 (by omega) b hb).1, (HMb.out.inX 1 (by omega) b hb).2, fun l hl hlk => HMb.out.two 1 (by omega) l hl (fun e => hlk e.symm) b hb⟩) HNb.out
      subst hv'
      refine value_ (by rfl) rfl (execOp_append rfl rfl rfl hr) ?_
      have HG9 := Lib.hid hG9
      have HM9 := Lib.hid hm9
      have HH9 := Lib.hid hh9
      clear hr hs9 hkp9 hG9 hm9 hh9
      refine hK.out _ _ HG9.out (fun hHeld => ?_)
      clear hK K
      refine norm_ (a' := ?_) ?_ ?_
      rotate_left
      · show Act.put _ (some 34) _ = _
        simp only [Act.put, List.setIfInBounds_toArray, List.set_cons_zero, List.set_cons_succ, i64_w, i32_w]
        rfl
      refine pure_ (i := 9) (N := some 35) (v := ?_) (a' := ?_) #[true, true, true, true, true, true, true, true, true, true, false] rfl rfl (by kernel_rfl) (fun _ _ _ h => h) (Or.inl ⟨by rfl, ?_⟩) ?_ ?_
      rotate_left
      · intro w'
        go_simp
        with_reducible rfl
      rotate_left
      · simp only [Act.put, List.setIfInBounds_toArray, List.set_cons_zero, List.set_cons_succ, i64_w, i32_w]
        rfl
      refine last_ (i := 10) (N := none) #[true, true, true, true, true, true, true, true, true, true, true] rfl rfl (by kernel_rfl) (by decide) (fun K hK => ?_)
      have s5 := blk4 HG9.out
      obtain ⟨z0, f0, z1, f1, z2, f2, z3, f3⟩ := s5
      refine skip_ (w1 := ?_) (by rfl) rfl ?_ ?_
      rotate_left
      · go_simp
        rfl
      clear z0 f0 z1 f1 z2 f2 z3 f3
      refine hK.out _ _ ?_
      clear hK K
      refine done_ (by kernel_rfl) ?_
      go_wp2
      go_roundw
      case rel => exact ⟨2, X9, _, _, by simp, by omega, HH9, HM9, Lib.hid (mz_step 1 HV.out (by omega))⟩
      case measure => simp [intOf]
    · have hx := blk4 HM.out.blk
      go_wp2
      clear hx
      refine start_ (n := 11) (S := fun w' => w'.heap[G]? = some (.cells #[v 0, v 1, v 2, v 3] 45 (0, 0))) (ds := [10]) #[false, false, false, false, false, false, false, false, false, false, false] (by kernel_rfl) rfl rfl (HM.out.blk) (fun hHeld => ?_)
      have HHa := Lib.hid HH.out.drew
      have HMa := Lib.hid (HM.out.below (Below.refl _ _).drew HH.out.ltX)
      generalize wr.drew = wa at HHa HMa hHeld ⊢
      clear HH HM
      refine pure_ (i := 0) (N := some 26) (v := ?_) (a' := ?_) #[true, false, false, false, false, false, false, false, false, false, false] rfl rfl (by kernel_rfl) (fun _ _ _ h => h) (Or.inl ⟨by rfl, ?_⟩) ?_ ?_
      rotate_left
      · intro w'
        go_simp
        with_reducible rfl
      rotate_left
      · simp only [Act.put, List.setIfInBounds_toArray, List.set_cons_zero, List.set_cons_succ, i64_w, i32_w]
        rfl
      refine pure_ (i := 1) (N := some 27) (v := ?_) (a' := ?_) #[true, true, false, false, false, false, false, false, false, false, false] rfl rfl (by kernel_rfl) (fun _ _ _ h => h) (Or.inl ⟨by rfl, ?_⟩) ?_ ?_
      rotate_left
      · intro w'
        go_simp
        with_reducible rfl
      rotate_left
      · simp only [Act.put, List.setIfInBounds_toArray, List.set_cons_zero, List.set_cons_succ, i64_w, i32_w]
        rfl
      refine pure_ (i := 2) (N := some 28) (v := ?_) (a' := ?_) #[true, true, true, false, false, false, false, false, false, false, false] rfl rfl (by kernel_rfl) (fun _ _ _ h => h) (Or.inl ⟨by rfl, ?_⟩) ?_ ?_
      rotate_left
      · intro w'
        go_simp
        with_reducible rfl
      rotate_left
      · simp only [Act.put, List.setIfInBounds_toArray, List.set_cons_zero, List.set_cons_succ, i64_w, i32_w]
        rfl
      refine take_ (i := 3) (N := some 29) (v := ?_) (a' := ?_) #[true, true, true, true, false, false, false, false, false, false, false] rfl rfl (by kernel_rfl) (fun _ _ _ h => h) (Or.inl ⟨by rfl, ?_⟩) hHeld ?_ ?_
      rotate_left
      · intro w' hS
        have s5 := blk4 hS
        obtain ⟨z0, _, z1, _, z2, _, z3, _⟩ := s5
        go_simp
        with_reducible rfl
      rotate_left
      · simp only [Act.put, List.setIfInBounds_toArray, List.set_cons_zero, List.set_cons_succ, i64_w, i32_w]
        rfl
      refine pure_ (i := 4) (N := some 30) (v := ?_) (a' := ?_) #[true, true, true, true, true, false, false, false, false, false, false] rfl rfl (by kernel_rfl) (fun _ _ _ h => h) (Or.inl ⟨by rfl, ?_⟩) ?_ ?_
      rotate_left
      · intro w'
        go_simp
        with_reducible rfl
      rotate_left
      · simp only [Act.put, List.setIfInBounds_toArray, List.set_cons_zero, List.set_cons_succ, i64_w, i32_w]
        rfl
      refine pure_ (i := 5) (N := some 31) (v := ?_) (a' := ?_) #[true, true, true, true, true, true, false, false, false, false, false] rfl rfl (by kernel_rfl) (fun _ _ _ h => h) (Or.inl ⟨by rfl, ?_⟩) ?_ ?_
      rotate_left
      · intro w'
        go_simp
        with_reducible rfl
      rotate_left
      · simp only [Act.put, List.setIfInBounds_toArray, List.set_cons_zero, List.set_cons_succ, i64_w, i32_w]
        rfl
      refine one_ (i := 6) (N := some 32) #[true, true, true, true, true, true, true, false, false, false, false] rfl rfl (by kernel_rfl) (by decide) (fun K hK => ?_)
      refine goes_ Try.func19 (by kernel_rfl) rfl #[.pointer (some ⟨p, 0, none⟩), .int .i64 2] (by rfl) rfl rfl (by (try simp only [List.map_toArray, List.map_cons, List.map_nil]); first | done | rfl) ?_
      refine (has_settled HHa.out 2).mono ?_
      rw [show (fresh 4).settled 2 = Z from rfl]
      rintro e w6 ⟨rfl, rfl⟩
      refine ⟨_, rfl, ?_⟩
      refine hK.out _ _ HMa.out.blk (fun hHeld => ?_)
      clear hK K
      refine norm_ (a' := ?_) ?_ ?_
      rotate_left
      · show Act.put _ (some 32) _ = _
        simp only [Act.put, List.setIfInBounds_toArray, List.set_cons_zero, List.set_cons_succ, i64_w, i32_w]
        rfl
      refine one_ (i := 7) (N := some 33) #[true, true, true, true, true, true, true, true, false, false, false] rfl rfl (by kernel_rfl) (by decide) (fun K hK => ?_)
      refine value_ (by rfl) rfl (execOp_buildSlice (ps := #[(0, .string (Z))]) rfl rfl (run_bs wa (Z))) ?_
      have HHb := Lib.hid (HHa.out.alloc (.cells #[.string (Z)] 9))
      have HMb := Lib.hid ((HMa.out.below ((Below.refl _ _).alloc (Nat.le_refl _) (.cells #[.string (Z)] 9)) HHa.out.ltX).moreX (Y := wa.heap.size :: _) (fun b hb => List.mem_cons_of_mem _ hb))
      have HNb := Lib.hid (alloc_at wa (.cells #[.string (Z)] 9))
      obtain ⟨N, hN⟩ : ∃ N, wa.heap.size = N := ⟨_, rfl⟩
      rw [hN] at HHb HMb HNb ⊢
      clear hN
      generalize wa.alloc (.cells #[.string (Z)] 9) = wb at HHb HMb HNb  ⊢
      clear hHeld HHa HMa
      refine hK.out _ _ HMb.out.blk (fun hHeld => ?_)
      clear hK K
      refine norm_ (a' := ?_) ?_ ?_
      rotate_left
      · show Act.put _ (some 33) _ = _
        simp only [Act.put, List.setIfInBounds_toArray, List.set_cons_zero, List.set_cons_succ, i64_w, i32_w]
        rfl
      refine one_ (i := 8) (N := some 34) #[true, true, true, true, true, true, true, true, true, false, false] rfl rfl (by kernel_rfl) (by decide) (fun K hK => ?_)
      obtain ⟨v', w9, hr, ⟨Av, nv, cv, hv'⟩, hG9, hs9, hkp9, X9, hm9, hh9⟩ := may_append HMb.out HHb.out 2 (by omega) (Z) N (v 2) (M 2) (by have := HLM.out 2 (by omega); omega) (HMb.out.row 2 (by omega)) (fun b hb => ⟨(HMb.out.inX 2 (by omega) b hb).1, (HMb.out.inX 2 (by omega) b hb).2, fun l hl hlk => HMb.out.two 2 (by omega) l hl (fun e => hlk e.symm) b hb⟩) HNb.out
      subst hv'
      refine value_ (by rfl) rfl (execOp_append rfl rfl rfl hr) ?_
      have HG9 := Lib.hid hG9
      have HM9 := Lib.hid hm9
      have HH9 := Lib.hid hh9
      clear hr hs9 hkp9 hG9 hm9 hh9
      refine hK.out _ _ HG9.out (fun hHeld => ?_)
      clear hK K
      refine norm_ (a' := ?_) ?_ ?_
      rotate_left
      · show Act.put _ (some 34) _ = _
        simp only [Act.put, List.setIfInBounds_toArray, List.set_cons_zero, List.set_cons_succ, i64_w, i32_w]
        rfl
      refine pure_ (i := 9) (N := some 35) (v := ?_) (a' := ?_) #[true, true, true, true, true, true, true, true, true, true, false] rfl rfl (by kernel_rfl) (fun _ _ _ h => h) (Or.inl ⟨by rfl, ?_⟩) ?_ ?_
      rotate_left
      · intro w'
        go_simp
        with_reducible rfl
      rotate_left
      · simp only [Act.put, List.setIfInBounds_toArray, List.set_cons_zero, List.set_cons_succ, i64_w, i32_w]
        rfl
      refine last_ (i := 10) (N := none) #[true, true, true, true, true, true, true, true, true, true, true] rfl rfl (by kernel_rfl) (by decide) (fun K hK => ?_)
      have s5 := blk4 HG9.out
      obtain ⟨z0, f0, z1, f1, z2, f2, z3, f3⟩ := s5
      refine skip_ (w1 := ?_) (by rfl) rfl ?_ ?_
      rotate_left
      · go_simp
        rfl
      clear z0 f0 z1 f1 z2 f2 z3 f3
      refine hK.out _ _ ?_
      clear hK K
      refine done_ (by kernel_rfl) ?_
      go_wp2
      go_roundw
      case rel => exact ⟨3, X9, _, _, by simp, by omega, HH9, HM9, Lib.hid (mz_step 2 HV.out (by omega))⟩
      case measure => simp [intOf]
    · have hx := blk4 HM.out.blk
      go_wp2
      clear hx
      refine start_ (n := 11) (S := fun w' => w'.heap[G]? = some (.cells #[v 0, v 1, v 2, v 3] 45 (0, 0))) (ds := [10]) #[false, false, false, false, false, false, false, false, false, false, false] (by kernel_rfl) rfl rfl (HM.out.blk) (fun hHeld => ?_)
      have HHa := Lib.hid HH.out.drew
      have HMa := Lib.hid (HM.out.below (Below.refl _ _).drew HH.out.ltX)
      generalize wr.drew = wa at HHa HMa hHeld ⊢
      clear HH HM
      refine pure_ (i := 0) (N := some 26) (v := ?_) (a' := ?_) #[true, false, false, false, false, false, false, false, false, false, false] rfl rfl (by kernel_rfl) (fun _ _ _ h => h) (Or.inl ⟨by rfl, ?_⟩) ?_ ?_
      rotate_left
      · intro w'
        go_simp
        with_reducible rfl
      rotate_left
      · simp only [Act.put, List.setIfInBounds_toArray, List.set_cons_zero, List.set_cons_succ, i64_w, i32_w]
        rfl
      refine pure_ (i := 1) (N := some 27) (v := ?_) (a' := ?_) #[true, true, false, false, false, false, false, false, false, false, false] rfl rfl (by kernel_rfl) (fun _ _ _ h => h) (Or.inl ⟨by rfl, ?_⟩) ?_ ?_
      rotate_left
      · intro w'
        go_simp
        with_reducible rfl
      rotate_left
      · simp only [Act.put, List.setIfInBounds_toArray, List.set_cons_zero, List.set_cons_succ, i64_w, i32_w]
        rfl
      refine pure_ (i := 2) (N := some 28) (v := ?_) (a' := ?_) #[true, true, true, false, false, false, false, false, false, false, false] rfl rfl (by kernel_rfl) (fun _ _ _ h => h) (Or.inl ⟨by rfl, ?_⟩) ?_ ?_
      rotate_left
      · intro w'
        go_simp
        with_reducible rfl
      rotate_left
      · simp only [Act.put, List.setIfInBounds_toArray, List.set_cons_zero, List.set_cons_succ, i64_w, i32_w]
        rfl
      refine take_ (i := 3) (N := some 29) (v := ?_) (a' := ?_) #[true, true, true, true, false, false, false, false, false, false, false] rfl rfl (by kernel_rfl) (fun _ _ _ h => h) (Or.inl ⟨by rfl, ?_⟩) hHeld ?_ ?_
      rotate_left
      · intro w' hS
        have s5 := blk4 hS
        obtain ⟨z0, _, z1, _, z2, _, z3, _⟩ := s5
        go_simp
        with_reducible rfl
      rotate_left
      · simp only [Act.put, List.setIfInBounds_toArray, List.set_cons_zero, List.set_cons_succ, i64_w, i32_w]
        rfl
      refine pure_ (i := 4) (N := some 30) (v := ?_) (a' := ?_) #[true, true, true, true, true, false, false, false, false, false, false] rfl rfl (by kernel_rfl) (fun _ _ _ h => h) (Or.inl ⟨by rfl, ?_⟩) ?_ ?_
      rotate_left
      · intro w'
        go_simp
        with_reducible rfl
      rotate_left
      · simp only [Act.put, List.setIfInBounds_toArray, List.set_cons_zero, List.set_cons_succ, i64_w, i32_w]
        rfl
      refine pure_ (i := 5) (N := some 31) (v := ?_) (a' := ?_) #[true, true, true, true, true, true, false, false, false, false, false] rfl rfl (by kernel_rfl) (fun _ _ _ h => h) (Or.inl ⟨by rfl, ?_⟩) ?_ ?_
      rotate_left
      · intro w'
        go_simp
        with_reducible rfl
      rotate_left
      · simp only [Act.put, List.setIfInBounds_toArray, List.set_cons_zero, List.set_cons_succ, i64_w, i32_w]
        rfl
      refine one_ (i := 6) (N := some 32) #[true, true, true, true, true, true, true, false, false, false, false] rfl rfl (by kernel_rfl) (by decide) (fun K hK => ?_)
      refine goes_ Try.func19 (by kernel_rfl) rfl #[.pointer (some ⟨p, 0, none⟩), .int .i64 3] (by rfl) rfl rfl (by (try simp only [List.map_toArray, List.map_cons, List.map_nil]); first | done | rfl) ?_
      refine (has_settled HHa.out 3).mono ?_
      rw [show (fresh 4).settled 3 = Z from rfl]
      rintro e w6 ⟨rfl, rfl⟩
      refine ⟨_, rfl, ?_⟩
      refine hK.out _ _ HMa.out.blk (fun hHeld => ?_)
      clear hK K
      refine norm_ (a' := ?_) ?_ ?_
      rotate_left
      · show Act.put _ (some 32) _ = _
        simp only [Act.put, List.setIfInBounds_toArray, List.set_cons_zero, List.set_cons_succ, i64_w, i32_w]
        rfl
      refine one_ (i := 7) (N := some 33) #[true, true, true, true, true, true, true, true, false, false, false] rfl rfl (by kernel_rfl) (by decide) (fun K hK => ?_)
      refine value_ (by rfl) rfl (execOp_buildSlice (ps := #[(0, .string (Z))]) rfl rfl (run_bs wa (Z))) ?_
      have HHb := Lib.hid (HHa.out.alloc (.cells #[.string (Z)] 9))
      have HMb := Lib.hid ((HMa.out.below ((Below.refl _ _).alloc (Nat.le_refl _) (.cells #[.string (Z)] 9)) HHa.out.ltX).moreX (Y := wa.heap.size :: _) (fun b hb => List.mem_cons_of_mem _ hb))
      have HNb := Lib.hid (alloc_at wa (.cells #[.string (Z)] 9))
      obtain ⟨N, hN⟩ : ∃ N, wa.heap.size = N := ⟨_, rfl⟩
      rw [hN] at HHb HMb HNb ⊢
      clear hN
      generalize wa.alloc (.cells #[.string (Z)] 9) = wb at HHb HMb HNb  ⊢
      clear hHeld HHa HMa
      refine hK.out _ _ HMb.out.blk (fun hHeld => ?_)
      clear hK K
      refine norm_ (a' := ?_) ?_ ?_
      rotate_left
      · show Act.put _ (some 33) _ = _
        simp only [Act.put, List.setIfInBounds_toArray, List.set_cons_zero, List.set_cons_succ, i64_w, i32_w]
        rfl
      refine one_ (i := 8) (N := some 34) #[true, true, true, true, true, true, true, true, true, false, false] rfl rfl (by kernel_rfl) (by decide) (fun K hK => ?_)
      obtain ⟨v', w9, hr, ⟨Av, nv, cv, hv'⟩, hG9, hs9, hkp9, X9, hm9, hh9⟩ := may_append HMb.out HHb.out 3 (by omega) (Z) N (v 3) (M 3) (by have := HLM.out 3 (by omega); omega) (HMb.out.row 3 (by omega)) (fun b hb => ⟨(HMb.out.inX 3 (by omega) b hb).1, (HMb.out.inX 3 (by omega) b hb).2, fun l hl hlk => HMb.out.two 3 (by omega) l hl (fun e => hlk e.symm) b hb⟩) HNb.out
      subst hv'
      refine value_ (by rfl) rfl (execOp_append rfl rfl rfl hr) ?_
      have HG9 := Lib.hid hG9
      have HM9 := Lib.hid hm9
      have HH9 := Lib.hid hh9
      clear hr hs9 hkp9 hG9 hm9 hh9
      refine hK.out _ _ HG9.out (fun hHeld => ?_)
      clear hK K
      refine norm_ (a' := ?_) ?_ ?_
      rotate_left
      · show Act.put _ (some 34) _ = _
        simp only [Act.put, List.setIfInBounds_toArray, List.set_cons_zero, List.set_cons_succ, i64_w, i32_w]
        rfl
      refine pure_ (i := 9) (N := some 35) (v := ?_) (a' := ?_) #[true, true, true, true, true, true, true, true, true, true, false] rfl rfl (by kernel_rfl) (fun _ _ _ h => h) (Or.inl ⟨by rfl, ?_⟩) ?_ ?_
      rotate_left
      · intro w'
        go_simp
        with_reducible rfl
      rotate_left
      · simp only [Act.put, List.setIfInBounds_toArray, List.set_cons_zero, List.set_cons_succ, i64_w, i32_w]
        rfl
      refine last_ (i := 10) (N := none) #[true, true, true, true, true, true, true, true, true, true, true] rfl rfl (by kernel_rfl) (by decide) (fun K hK => ?_)
      have s5 := blk4 HG9.out
      obtain ⟨z0, f0, z1, f1, z2, f2, z3, f3⟩ := s5
      refine skip_ (w1 := ?_) (by rfl) rfl ?_ ?_
      rotate_left
      · go_simp
        rfl
      clear z0 f0 z1 f1 z2 f2 z3 f3
      refine hK.out _ _ ?_
      clear hK K
      refine done_ (by kernel_rfl) ?_
      go_wp2
      go_roundw
      case rel => exact ⟨4, X9, _, _, by simp, by omega, HH9, HM9, Lib.hid (mz_step 3 HV.out (by omega))⟩
      case measure => simp [intOf]
    · rw [show ((4 : Nat) : Int) = 4 from rfl]
      have HC0 := Lib.hid (show ∀ j, j < 4 → Cov j (M j) (fresh 4) from fun j hj => by
        rw [HV.out j hj, if_pos hj]
        exact cov_new (show (List.replicate 4 Z)[j]? = some Z by rw [List.getElem?_replicate, if_pos hj]) rfl)
      clear HV
      go_wp2_with fail
      go_loopg [8] 100 (fun gg s8 wq => ∃ (j : Nat) (X : List Nat) (M : Nat → List ByteArray) (v : Nat → Value) (d : Dv), s8 = .int .i64 j ∧ j ≤ l.length ∧ j ≤ 100 ∧ 100 - j ≤ gg ∧ Hid (Has w wq p d X) ∧ Hid (May w wq G X M v) ∧ Hid (∀ k, k < 4 → Cov k (M k) d) ∧ Hid (∀ k, k < 4 → (M k).length ≤ j + 1) ∧ Hid (d.late.length ≤ j ∧ d.firm.length = 4))
      case atStart => exact ⟨0, X, M, v, fresh 4, by simp, Nat.zero_le _, by omega, by omega, HH, HM, HC0, HLM, Lib.hid ⟨Nat.le_refl _, rfl⟩⟩
      case round =>
        clear HH HM HC0 HLM
        obtain ⟨wq, rfl⟩ : ∃ wq : World, wq = wr := ⟨_, rfl⟩
        obtain ⟨j, X, M, v, d, rfl, hj1, hj2, hjg, HH, HM, HC, HLM, HLA⟩ := hrel
        by_cases hc2 : j < l.length ∧ j < 100
        · obtain ⟨hd1, hd2⟩ := hc2
          obtain ⟨blk, off, rfl, hbw, hcs0⟩ := HA.out j hd1
          obtain ⟨x, hx⟩ : ∃ x, l[j] = x := ⟨_, rfl⟩
          rw [hx] at hcs0
          have HX := Lib.hid (HOl.out x (hx ▸ List.getElem_mem hd1))
          have HCS : Hid (∀ W, Below w.heap.size w W → ∀ i u, (acells x)[i]? = some u → W.cell? ⟨blk, off + j * 4 + i, none⟩ = some u) := fun W hb i u hu => (hb.cell (p := ⟨blk, _, none⟩) hbw).trans (hcs0 i u hu)
          clear hcs0 hx
          have c0 := HCS.out _ HH.out.bel 0 _ rfl
          have c1 := HCS.out _ HH.out.bel 1 _ rfl
          have c2 := HCS.out _ HH.out.bel 2 _ rfl
          have c3 := HCS.out _ HH.out.bel 3 _ rfl
          simp only [Nat.add_zero] at c0
          obtain ⟨k1, k2⟩ := HX.out.1
          have HWY := Lib.hid (act_ways d x HLA.out.2)
          have HL1 := Lib.hid (show (d.act x).2.late.length ≤ j + 1 ∧ (d.act x).2.firm.length = 4 from ⟨by have := act_late d x; have := HLA.out.1; omega, by rw [act_len]; exact HLA.out.2⟩)
          go_wp2_with fail
          have HH6 := Lib.hid (HH.out.alloc (.cells #[.int .i64 x.k, .int .i64 x.at_, .int .u8 (x.b.toNat : Int), .int .u64 x.keep] 30))
          have HM6 := Lib.hid ((HM.out.below ((Below.refl _ _).alloc (Nat.le_refl _) (.cells #[.int .i64 x.k, .int .i64 x.at_, .int .u8 (x.b.toNat : Int), .int .u64 x.keep] 30)) HH.out.ltX).moreX (Y := wq.heap.size :: X) (fun b hb => List.mem_cons_of_mem _ hb))
          have HT6 := Lib.hid (alloc_at wq (.cells #[.int .i64 x.k, .int .i64 x.at_, .int .u8 (x.b.toNat : Int), .int .u64 x.keep] 30))
          have HTV := Lib.hid (show ∀ q, q < 4 → (v q).ownBlock ≠ some wq.heap.size from fun q hq e => by have := ((HM.out.row q hq).lt _ e).2; omega)
          obtain ⟨T, hT⟩ : ∃ T, wq.heap.size = T := ⟨_, rfl⟩
          rw [hT] at HH6 HM6 HT6 HTV ⊢
          generalize wq.alloc (.cells #[.int .i64 x.k, .int .i64 x.at_, .int .u8 (x.b.toNat : Int), .int .u64 x.keep] 30) = w6 at HH6 HM6 HT6 ⊢
          clear HH HM hT c0 c1 c2 c3
          have HDO := Lib.hid (has_do HH6.out x HX.out (by have := HLA.out.1; omega))
          obtain ⟨d', hd'⟩ : ∃ d', (d.act x).2 = d' := ⟨_, rfl⟩
          obtain ⟨er, her⟩ : ∃ er, (d.act x).1 = er := ⟨_, rfl⟩
          rw [hd', her] at HWY HDO
          rw [hd'] at HL1
          clear hd' her
          refine HDO.out.mono ?_
          rintro e w7 ⟨rfl, h7, hs7, _⟩
          have HH7 := Lib.hid h7
          have HM7 := Lib.hid (HM6.out.same hs7)
          have HT7 := Lib.hid (hs7.at (by simp) HT6.out)
          clear h7 hs7 HH6 HM6 HT6 HDO
          rcases HWY.out with ⟨hz, i, hi, hat, he, hf, hlt⟩ | ⟨hz, he, hf, hlt⟩ | ⟨hz, he, hlt, hdd, hln⟩ | ⟨hz, he, hf, hlt⟩ | ⟨hz, hlt, hdd, hln⟩ | ⟨hz0, hz1, hz3, hf, hlt⟩
          · have HZ := Lib.hid hz
            have HFI := Lib.hid hf
            have HLT := Lib.hid hlt
            have HAT := Lib.hid hat
            subst he
            clear hf hlt hat
            have hi4 : i = 0 ∨ i = 1 ∨ i = 2 ∨ i = 3 := by omega
            clear hi
            rcases hi4 with rfl | rfl | rfl | rfl
            · have HT7' := HT7.out
              rw [show x.at_ = 0 from HAT.out] at HT7'
              clear HT7
              have HT7 := Lib.hid HT7'
              clear HT7'
              have hx := blk4 HT7.out
              have hy := blk4 HM7.out.blk
              go_wp2
              clear hx hy
              refine start_ (n := 13) (S := fun w' => w'.heap[T]? = some (.cells #[.int .i64 x.k, .int .i64 0, .int .u8 (x.b.toNat : Int), .int .u64 x.keep] 30 (0, 0)) ∧ w'.heap[G]? = some (.cells #[v 0, v 1, v 2, v 3] 45 (0, 0))) (ds := [12]) #[false, false, false, false, false, false, false, false, false, false, false, false, false] (by kernel_rfl) rfl rfl (⟨HT7.out, HM7.out.blk⟩) (fun hHeld => ?_)
              have HHx := Lib.hid HH7.out.drew
              have HMx := Lib.hid (HM7.out.below (Below.refl _ _).drew HH7.out.ltX)
              have HTx := Lib.hid (show w7.drew.heap[T]? = _ from HT7.out)
              generalize w7.drew = wx at HHx HMx HTx hHeld ⊢
              clear HH7 HM7 HT7
              refine pure_ (i := 0) (N := some 72) (v := ?_) (a' := ?_) #[true, false, false, false, false, false, false, false, false, false, false, false, false] rfl rfl (by kernel_rfl) (fun _ _ _ h => h) (Or.inl ⟨by rfl, ?_⟩) ?_ ?_
              rotate_left
              · intro w'
                go_simp
                with_reducible rfl
              rotate_left
              · simp only [Act.put, List.setIfInBounds_toArray, List.set_cons_zero, List.set_cons_succ, i64_w, i32_w]
                rfl
              refine take_ (i := 1) (N := some 73) (v := ?_) (a' := ?_) #[true, true, false, false, false, false, false, false, false, false, false, false, false] rfl rfl (by kernel_rfl) (fun _ _ _ h => h) (Or.inl ⟨by rfl, ?_⟩) hHeld ?_ ?_
              rotate_left
              · intro w' hS
                have s5 := blk4 hS.1
                obtain ⟨z0, _, z1, _, z2, _, z3, _⟩ := s5
                go_simp
                with_reducible rfl
              rotate_left
              · simp only [Act.put, List.setIfInBounds_toArray, List.set_cons_zero, List.set_cons_succ, i64_w, i32_w]
                rfl
              refine pure_ (i := 2) (N := some 74) (v := ?_) (a' := ?_) #[true, true, true, false, false, false, false, false, false, false, false, false, false] rfl rfl (by kernel_rfl) (fun _ _ _ h => h) (Or.inl ⟨by rfl, ?_⟩) ?_ ?_
              rotate_left
              · intro w'
                go_simp
                with_reducible rfl
              rotate_left
              · simp only [Act.put, List.setIfInBounds_toArray, List.set_cons_zero, List.set_cons_succ, i64_w, i32_w]
                rfl
              refine take_ (i := 3) (N := some 75) (v := ?_) (a' := ?_) #[true, true, true, true, false, false, false, false, false, false, false, false, false] rfl rfl (by kernel_rfl) (fun _ _ _ h => h) (Or.inl ⟨by rfl, ?_⟩) hHeld ?_ ?_
              rotate_left
              · intro w' hS
                have s5 := blk4 hS.1
                obtain ⟨z0, _, z1, _, z2, _, z3, _⟩ := s5
                go_simp
                with_reducible rfl
              rotate_left
              · simp only [Act.put, List.setIfInBounds_toArray, List.set_cons_zero, List.set_cons_succ, i64_w, i32_w]
                rfl
              refine pure_ (i := 4) (N := some 76) (v := ?_) (a' := ?_) #[true, true, true, true, true, false, false, false, false, false, false, false, false] rfl rfl (by kernel_rfl) (fun _ _ _ h => h) (Or.inl ⟨by rfl, ?_⟩) ?_ ?_
              rotate_left
              · intro w'
                go_simp
                with_reducible rfl
              rotate_left
              · simp only [Act.put, List.setIfInBounds_toArray, List.set_cons_zero, List.set_cons_succ, i64_w, i32_w]
                rfl
              refine take_ (i := 5) (N := some 77) (v := ?_) (a' := ?_) #[true, true, true, true, true, true, false, false, false, false, false, false, false] rfl rfl (by kernel_rfl) (fun _ _ _ h => h) (Or.inl ⟨by rfl, ?_⟩) hHeld ?_ ?_
              rotate_left
              · intro w' hS
                have s5 := blk4 hS.2
                obtain ⟨z0, _, z1, _, z2, _, z3, _⟩ := s5
                go_simp
                with_reducible rfl
              rotate_left
              · simp only [Act.put, List.setIfInBounds_toArray, List.set_cons_zero, List.set_cons_succ, i64_w, i32_w]
                rfl
              refine pure_ (i := 6) (N := some 78) (v := ?_) (a' := ?_) #[true, true, true, true, true, true, true, false, false, false, false, false, false] rfl rfl (by kernel_rfl) (fun _ _ _ h => h) (Or.inl ⟨by rfl, ?_⟩) ?_ ?_
              rotate_left
              · intro w'
                go_simp
                with_reducible rfl
              rotate_left
              · simp only [Act.put, List.setIfInBounds_toArray, List.set_cons_zero, List.set_cons_succ, i64_w, i32_w]
                rfl
              refine take_ (i := 7) (N := some 79) (v := ?_) (a' := ?_) #[true, true, true, true, true, true, true, true, false, false, false, false, false] rfl rfl (by kernel_rfl) (fun _ _ _ h => h) (Or.inl ⟨by rfl, ?_⟩) hHeld ?_ ?_
              rotate_left
              · intro w' hS
                have s5 := blk4 hS.1
                obtain ⟨z0, _, z1, _, z2, _, z3, _⟩ := s5
                go_simp
                with_reducible rfl
              rotate_left
              · simp only [Act.put, List.setIfInBounds_toArray, List.set_cons_zero, List.set_cons_succ, i64_w, i32_w]
                rfl
              refine one_ (i := 8) (N := some 80) #[true, true, true, true, true, true, true, true, true, false, false, false, false] rfl rfl (by kernel_rfl) (by decide) (fun K hK => ?_)
              refine goes_ Try.func11 (by kernel_rfl) rfl #[.int .u8 (x.b.toNat : Int), .int .i64 256] (by rfl) rfl rfl (by (try simp only [List.map_toArray, List.map_cons, List.map_nil]); first | done | rfl) ?_
              refine (HBL.out x.b wx).mono ?_
              rintro e wa ⟨rfl, hb⟩
              refine ⟨_, rfl, ?_⟩
              have HHa := Lib.hid (HHx.out.below hb)
              have HMa := Lib.hid (HMx.out.below hb HHx.out.ltX)
              have HTa := Lib.hid (below_old HTx.out hb)
              clear hb HHx HMx HTx
              refine hK.out _ _ ⟨HTa.out, HMa.out.blk⟩ (fun hHeld => ?_)
              clear hK K
              refine norm_ (a' := ?_) ?_ ?_
              rotate_left
              · show Act.put _ (some 80) _ = _
                simp only [Act.put, List.setIfInBounds_toArray, List.set_cons_zero, List.set_cons_succ, i64_w, i32_w]
                rfl
              refine one_ (i := 9) (N := some 81) #[true, true, true, true, true, true, true, true, true, true, false, false, false] rfl rfl (by kernel_rfl) (by decide) (fun K hK => ?_)
              refine value_ (by rfl) rfl (execOp_buildSlice (ps := #[(0, .string (rep8 x.b 256))]) rfl rfl (run_bs wa (rep8 x.b 256))) ?_
              have HHb := Lib.hid (HHa.out.alloc (.cells #[.string (rep8 x.b 256)] 9))
              have HMb := Lib.hid ((HMa.out.below ((Below.refl _ _).alloc (Nat.le_refl _) (.cells #[.string (rep8 x.b 256)] 9)) HHa.out.ltX).moreX (Y := wa.heap.size :: _) (fun b hb => List.mem_cons_of_mem _ hb))
              have HNb := Lib.hid (alloc_at wa (.cells #[.string (rep8 x.b 256)] 9))
              have HTb := Lib.hid (alloc_old HTa.out (.cells #[.string (rep8 x.b 256)] 9))
              clear HTa
              obtain ⟨N, hN⟩ : ∃ N, wa.heap.size = N := ⟨_, rfl⟩
              rw [hN] at HHb HMb HNb ⊢
              clear hN
              generalize wa.alloc (.cells #[.string (rep8 x.b 256)] 9) = wb at HHb HMb HNb HTb ⊢
              clear hHeld HHa HMa
              refine hK.out _ _ ⟨HTb.out, HMb.out.blk⟩ (fun hHeld => ?_)
              clear hK K
              refine norm_ (a' := ?_) ?_ ?_
              rotate_left
              · show Act.put _ (some 81) _ = _
                simp only [Act.put, List.setIfInBounds_toArray, List.set_cons_zero, List.set_cons_succ, i64_w, i32_w]
                rfl
              refine one_ (i := 10) (N := some 82) #[true, true, true, true, true, true, true, true, true, true, true, false, false] rfl rfl (by kernel_rfl) (by decide) (fun K hK => ?_)
              obtain ⟨v', w9, hr, ⟨Av, nv, cv, hv'⟩, hG9, hs9, hkp9, X9, hm9, hh9⟩ := may_append HMb.out HHb.out 0 (by omega) (rep8 x.b 256) N (v 0) (M 0) (by have := HLM.out 0 (by omega); omega) (HMb.out.row 0 (by omega)) (fun b hb => ⟨(HMb.out.inX 0 (by omega) b hb).1, (HMb.out.inX 0 (by omega) b hb).2, fun l hl hlk => HMb.out.two 0 (by omega) l hl (fun e => hlk e.symm) b hb⟩) HNb.out
              subst hv'
              refine value_ (by rfl) rfl (execOp_append rfl rfl rfl hr) ?_
              have HG9 := Lib.hid hG9
              have HM9 := Lib.hid hm9
              have HH9 := Lib.hid hh9
              have HT9 := Lib.hid ((hkp9 T (lt_of HTb.out) (HTV.out 0 (by omega))).trans HTb.out)
              clear hr hs9 hkp9 hG9 hm9 hh9
              refine hK.out _ _ ⟨HT9.out, HG9.out⟩ (fun hHeld => ?_)
              clear hK K
              refine norm_ (a' := ?_) ?_ ?_
              rotate_left
              · show Act.put _ (some 82) _ = _
                simp only [Act.put, List.setIfInBounds_toArray, List.set_cons_zero, List.set_cons_succ, i64_w, i32_w]
                rfl
              refine pure_ (i := 11) (N := some 83) (v := ?_) (a' := ?_) #[true, true, true, true, true, true, true, true, true, true, true, true, false] rfl rfl (by kernel_rfl) (fun _ _ _ h => h) (Or.inl ⟨by rfl, ?_⟩) ?_ ?_
              rotate_left
              · intro w'
                go_simp
                with_reducible rfl
              rotate_left
              · simp only [Act.put, List.setIfInBounds_toArray, List.set_cons_zero, List.set_cons_succ, i64_w, i32_w]
                rfl
              refine last_ (i := 12) (N := none) #[true, true, true, true, true, true, true, true, true, true, true, true, true] rfl rfl (by kernel_rfl) (by decide) (fun K hK => ?_)
              have s5 := blk4 HG9.out
              obtain ⟨z0, f0, z1, f1, z2, f2, z3, f3⟩ := s5
              refine skip_ (w1 := ?_) (by rfl) rfl ?_ ?_
              rotate_left
              · go_simp
                rfl
              clear z0 f0 z1 f1 z2 f2 z3 f3
              refine hK.out _ _ ?_
              clear hK K
              refine done_ (by kernel_rfl) ?_
              go_wp2
              go_roundg (100 - (j + 1))
              case measure => omega
              case rel => exact ⟨j + 1, X9, _, _, d', by go_num, by omega, by omega, by omega, HH9, HM9, Lib.hid (cov_step HC.out 0 (rep8 x.b 256) HFI.out HLT.out), Lib.hid (len_step HLM.out 0 (by omega) (rep8 x.b 256)), HL1⟩
            · have HT7' := HT7.out
              rw [show x.at_ = 1 from HAT.out] at HT7'
              clear HT7
              have HT7 := Lib.hid HT7'
              clear HT7'
              have hx := blk4 HT7.out
              have hy := blk4 HM7.out.blk
              go_wp2
              clear hx hy
              refine start_ (n := 13) (S := fun w' => w'.heap[T]? = some (.cells #[.int .i64 x.k, .int .i64 1, .int .u8 (x.b.toNat : Int), .int .u64 x.keep] 30 (0, 0)) ∧ w'.heap[G]? = some (.cells #[v 0, v 1, v 2, v 3] 45 (0, 0))) (ds := [12]) #[false, false, false, false, false, false, false, false, false, false, false, false, false] (by kernel_rfl) rfl rfl (⟨HT7.out, HM7.out.blk⟩) (fun hHeld => ?_)
              have HHx := Lib.hid HH7.out.drew
              have HMx := Lib.hid (HM7.out.below (Below.refl _ _).drew HH7.out.ltX)
              have HTx := Lib.hid (show w7.drew.heap[T]? = _ from HT7.out)
              generalize w7.drew = wx at HHx HMx HTx hHeld ⊢
              clear HH7 HM7 HT7
              refine pure_ (i := 0) (N := some 72) (v := ?_) (a' := ?_) #[true, false, false, false, false, false, false, false, false, false, false, false, false] rfl rfl (by kernel_rfl) (fun _ _ _ h => h) (Or.inl ⟨by rfl, ?_⟩) ?_ ?_
              rotate_left
              · intro w'
                go_simp
                with_reducible rfl
              rotate_left
              · simp only [Act.put, List.setIfInBounds_toArray, List.set_cons_zero, List.set_cons_succ, i64_w, i32_w]
                rfl
              refine take_ (i := 1) (N := some 73) (v := ?_) (a' := ?_) #[true, true, false, false, false, false, false, false, false, false, false, false, false] rfl rfl (by kernel_rfl) (fun _ _ _ h => h) (Or.inl ⟨by rfl, ?_⟩) hHeld ?_ ?_
              rotate_left
              · intro w' hS
                have s5 := blk4 hS.1
                obtain ⟨z0, _, z1, _, z2, _, z3, _⟩ := s5
                go_simp
                with_reducible rfl
              rotate_left
              · simp only [Act.put, List.setIfInBounds_toArray, List.set_cons_zero, List.set_cons_succ, i64_w, i32_w]
                rfl
              refine pure_ (i := 2) (N := some 74) (v := ?_) (a' := ?_) #[true, true, true, false, false, false, false, false, false, false, false, false, false] rfl rfl (by kernel_rfl) (fun _ _ _ h => h) (Or.inl ⟨by rfl, ?_⟩) ?_ ?_
              rotate_left
              · intro w'
                go_simp
                with_reducible rfl
              rotate_left
              · simp only [Act.put, List.setIfInBounds_toArray, List.set_cons_zero, List.set_cons_succ, i64_w, i32_w]
                rfl
              refine take_ (i := 3) (N := some 75) (v := ?_) (a' := ?_) #[true, true, true, true, false, false, false, false, false, false, false, false, false] rfl rfl (by kernel_rfl) (fun _ _ _ h => h) (Or.inl ⟨by rfl, ?_⟩) hHeld ?_ ?_
              rotate_left
              · intro w' hS
                have s5 := blk4 hS.1
                obtain ⟨z0, _, z1, _, z2, _, z3, _⟩ := s5
                go_simp
                with_reducible rfl
              rotate_left
              · simp only [Act.put, List.setIfInBounds_toArray, List.set_cons_zero, List.set_cons_succ, i64_w, i32_w]
                rfl
              refine pure_ (i := 4) (N := some 76) (v := ?_) (a' := ?_) #[true, true, true, true, true, false, false, false, false, false, false, false, false] rfl rfl (by kernel_rfl) (fun _ _ _ h => h) (Or.inl ⟨by rfl, ?_⟩) ?_ ?_
              rotate_left
              · intro w'
                go_simp
                with_reducible rfl
              rotate_left
              · simp only [Act.put, List.setIfInBounds_toArray, List.set_cons_zero, List.set_cons_succ, i64_w, i32_w]
                rfl
              refine take_ (i := 5) (N := some 77) (v := ?_) (a' := ?_) #[true, true, true, true, true, true, false, false, false, false, false, false, false] rfl rfl (by kernel_rfl) (fun _ _ _ h => h) (Or.inl ⟨by rfl, ?_⟩) hHeld ?_ ?_
              rotate_left
              · intro w' hS
                have s5 := blk4 hS.2
                obtain ⟨z0, _, z1, _, z2, _, z3, _⟩ := s5
                go_simp
                with_reducible rfl
              rotate_left
              · simp only [Act.put, List.setIfInBounds_toArray, List.set_cons_zero, List.set_cons_succ, i64_w, i32_w]
                rfl
              refine pure_ (i := 6) (N := some 78) (v := ?_) (a' := ?_) #[true, true, true, true, true, true, true, false, false, false, false, false, false] rfl rfl (by kernel_rfl) (fun _ _ _ h => h) (Or.inl ⟨by rfl, ?_⟩) ?_ ?_
              rotate_left
              · intro w'
                go_simp
                with_reducible rfl
              rotate_left
              · simp only [Act.put, List.setIfInBounds_toArray, List.set_cons_zero, List.set_cons_succ, i64_w, i32_w]
                rfl
              refine take_ (i := 7) (N := some 79) (v := ?_) (a' := ?_) #[true, true, true, true, true, true, true, true, false, false, false, false, false] rfl rfl (by kernel_rfl) (fun _ _ _ h => h) (Or.inl ⟨by rfl, ?_⟩) hHeld ?_ ?_
              rotate_left
              · intro w' hS
                have s5 := blk4 hS.1
                obtain ⟨z0, _, z1, _, z2, _, z3, _⟩ := s5
                go_simp
                with_reducible rfl
              rotate_left
              · simp only [Act.put, List.setIfInBounds_toArray, List.set_cons_zero, List.set_cons_succ, i64_w, i32_w]
                rfl
              refine one_ (i := 8) (N := some 80) #[true, true, true, true, true, true, true, true, true, false, false, false, false] rfl rfl (by kernel_rfl) (by decide) (fun K hK => ?_)
              refine goes_ Try.func11 (by kernel_rfl) rfl #[.int .u8 (x.b.toNat : Int), .int .i64 256] (by rfl) rfl rfl (by (try simp only [List.map_toArray, List.map_cons, List.map_nil]); first | done | rfl) ?_
              refine (HBL.out x.b wx).mono ?_
              rintro e wa ⟨rfl, hb⟩
              refine ⟨_, rfl, ?_⟩
              have HHa := Lib.hid (HHx.out.below hb)
              have HMa := Lib.hid (HMx.out.below hb HHx.out.ltX)
              have HTa := Lib.hid (below_old HTx.out hb)
              clear hb HHx HMx HTx
              refine hK.out _ _ ⟨HTa.out, HMa.out.blk⟩ (fun hHeld => ?_)
              clear hK K
              refine norm_ (a' := ?_) ?_ ?_
              rotate_left
              · show Act.put _ (some 80) _ = _
                simp only [Act.put, List.setIfInBounds_toArray, List.set_cons_zero, List.set_cons_succ, i64_w, i32_w]
                rfl
              refine one_ (i := 9) (N := some 81) #[true, true, true, true, true, true, true, true, true, true, false, false, false] rfl rfl (by kernel_rfl) (by decide) (fun K hK => ?_)
              refine value_ (by rfl) rfl (execOp_buildSlice (ps := #[(0, .string (rep8 x.b 256))]) rfl rfl (run_bs wa (rep8 x.b 256))) ?_
              have HHb := Lib.hid (HHa.out.alloc (.cells #[.string (rep8 x.b 256)] 9))
              have HMb := Lib.hid ((HMa.out.below ((Below.refl _ _).alloc (Nat.le_refl _) (.cells #[.string (rep8 x.b 256)] 9)) HHa.out.ltX).moreX (Y := wa.heap.size :: _) (fun b hb => List.mem_cons_of_mem _ hb))
              have HNb := Lib.hid (alloc_at wa (.cells #[.string (rep8 x.b 256)] 9))
              have HTb := Lib.hid (alloc_old HTa.out (.cells #[.string (rep8 x.b 256)] 9))
              clear HTa
              obtain ⟨N, hN⟩ : ∃ N, wa.heap.size = N := ⟨_, rfl⟩
              rw [hN] at HHb HMb HNb ⊢
              clear hN
              generalize wa.alloc (.cells #[.string (rep8 x.b 256)] 9) = wb at HHb HMb HNb HTb ⊢
              clear hHeld HHa HMa
              refine hK.out _ _ ⟨HTb.out, HMb.out.blk⟩ (fun hHeld => ?_)
              clear hK K
              refine norm_ (a' := ?_) ?_ ?_
              rotate_left
              · show Act.put _ (some 81) _ = _
                simp only [Act.put, List.setIfInBounds_toArray, List.set_cons_zero, List.set_cons_succ, i64_w, i32_w]
                rfl
              refine one_ (i := 10) (N := some 82) #[true, true, true, true, true, true, true, true, true, true, true, false, false] rfl rfl (by kernel_rfl) (by decide) (fun K hK => ?_)
              obtain ⟨v', w9, hr, ⟨Av, nv, cv, hv'⟩, hG9, hs9, hkp9, X9, hm9, hh9⟩ := may_append HMb.out HHb.out 1 (by omega) (rep8 x.b 256) N (v 1) (M 1) (by have := HLM.out 1 (by omega); omega) (HMb.out.row 1 (by omega)) (fun b hb => ⟨(HMb.out.inX 1 (by omega) b hb).1, (HMb.out.inX 1 (by omega) b hb).2, fun l hl hlk => HMb.out.two 1 (by omega) l hl (fun e => hlk e.symm) b hb⟩) HNb.out
              subst hv'
              refine value_ (by rfl) rfl (execOp_append rfl rfl rfl hr) ?_
              have HG9 := Lib.hid hG9
              have HM9 := Lib.hid hm9
              have HH9 := Lib.hid hh9
              have HT9 := Lib.hid ((hkp9 T (lt_of HTb.out) (HTV.out 1 (by omega))).trans HTb.out)
              clear hr hs9 hkp9 hG9 hm9 hh9
              refine hK.out _ _ ⟨HT9.out, HG9.out⟩ (fun hHeld => ?_)
              clear hK K
              refine norm_ (a' := ?_) ?_ ?_
              rotate_left
              · show Act.put _ (some 82) _ = _
                simp only [Act.put, List.setIfInBounds_toArray, List.set_cons_zero, List.set_cons_succ, i64_w, i32_w]
                rfl
              refine pure_ (i := 11) (N := some 83) (v := ?_) (a' := ?_) #[true, true, true, true, true, true, true, true, true, true, true, true, false] rfl rfl (by kernel_rfl) (fun _ _ _ h => h) (Or.inl ⟨by rfl, ?_⟩) ?_ ?_
              rotate_left
              · intro w'
                go_simp
                with_reducible rfl
              rotate_left
              · simp only [Act.put, List.setIfInBounds_toArray, List.set_cons_zero, List.set_cons_succ, i64_w, i32_w]
                rfl
              refine last_ (i := 12) (N := none) #[true, true, true, true, true, true, true, true, true, true, true, true, true] rfl rfl (by kernel_rfl) (by decide) (fun K hK => ?_)
              have s5 := blk4 HG9.out
              obtain ⟨z0, f0, z1, f1, z2, f2, z3, f3⟩ := s5
              refine skip_ (w1 := ?_) (by rfl) rfl ?_ ?_
              rotate_left
              · go_simp
                rfl
              clear z0 f0 z1 f1 z2 f2 z3 f3
              refine hK.out _ _ ?_
              clear hK K
              refine done_ (by kernel_rfl) ?_
              go_wp2
              go_roundg (100 - (j + 1))
              case measure => omega
              case rel => exact ⟨j + 1, X9, _, _, d', by go_num, by omega, by omega, by omega, HH9, HM9, Lib.hid (cov_step HC.out 1 (rep8 x.b 256) HFI.out HLT.out), Lib.hid (len_step HLM.out 1 (by omega) (rep8 x.b 256)), HL1⟩
            · have HT7' := HT7.out
              rw [show x.at_ = 2 from HAT.out] at HT7'
              clear HT7
              have HT7 := Lib.hid HT7'
              clear HT7'
              have hx := blk4 HT7.out
              have hy := blk4 HM7.out.blk
              go_wp2
              clear hx hy
              refine start_ (n := 13) (S := fun w' => w'.heap[T]? = some (.cells #[.int .i64 x.k, .int .i64 2, .int .u8 (x.b.toNat : Int), .int .u64 x.keep] 30 (0, 0)) ∧ w'.heap[G]? = some (.cells #[v 0, v 1, v 2, v 3] 45 (0, 0))) (ds := [12]) #[false, false, false, false, false, false, false, false, false, false, false, false, false] (by kernel_rfl) rfl rfl (⟨HT7.out, HM7.out.blk⟩) (fun hHeld => ?_)
              have HHx := Lib.hid HH7.out.drew
              have HMx := Lib.hid (HM7.out.below (Below.refl _ _).drew HH7.out.ltX)
              have HTx := Lib.hid (show w7.drew.heap[T]? = _ from HT7.out)
              generalize w7.drew = wx at HHx HMx HTx hHeld ⊢
              clear HH7 HM7 HT7
              refine pure_ (i := 0) (N := some 72) (v := ?_) (a' := ?_) #[true, false, false, false, false, false, false, false, false, false, false, false, false] rfl rfl (by kernel_rfl) (fun _ _ _ h => h) (Or.inl ⟨by rfl, ?_⟩) ?_ ?_
              rotate_left
              · intro w'
                go_simp
                with_reducible rfl
              rotate_left
              · simp only [Act.put, List.setIfInBounds_toArray, List.set_cons_zero, List.set_cons_succ, i64_w, i32_w]
                rfl
              refine take_ (i := 1) (N := some 73) (v := ?_) (a' := ?_) #[true, true, false, false, false, false, false, false, false, false, false, false, false] rfl rfl (by kernel_rfl) (fun _ _ _ h => h) (Or.inl ⟨by rfl, ?_⟩) hHeld ?_ ?_
              rotate_left
              · intro w' hS
                have s5 := blk4 hS.1
                obtain ⟨z0, _, z1, _, z2, _, z3, _⟩ := s5
                go_simp
                with_reducible rfl
              rotate_left
              · simp only [Act.put, List.setIfInBounds_toArray, List.set_cons_zero, List.set_cons_succ, i64_w, i32_w]
                rfl
              refine pure_ (i := 2) (N := some 74) (v := ?_) (a' := ?_) #[true, true, true, false, false, false, false, false, false, false, false, false, false] rfl rfl (by kernel_rfl) (fun _ _ _ h => h) (Or.inl ⟨by rfl, ?_⟩) ?_ ?_
              rotate_left
              · intro w'
                go_simp
                with_reducible rfl
              rotate_left
              · simp only [Act.put, List.setIfInBounds_toArray, List.set_cons_zero, List.set_cons_succ, i64_w, i32_w]
                rfl
              refine take_ (i := 3) (N := some 75) (v := ?_) (a' := ?_) #[true, true, true, true, false, false, false, false, false, false, false, false, false] rfl rfl (by kernel_rfl) (fun _ _ _ h => h) (Or.inl ⟨by rfl, ?_⟩) hHeld ?_ ?_
              rotate_left
              · intro w' hS
                have s5 := blk4 hS.1
                obtain ⟨z0, _, z1, _, z2, _, z3, _⟩ := s5
                go_simp
                with_reducible rfl
              rotate_left
              · simp only [Act.put, List.setIfInBounds_toArray, List.set_cons_zero, List.set_cons_succ, i64_w, i32_w]
                rfl
              refine pure_ (i := 4) (N := some 76) (v := ?_) (a' := ?_) #[true, true, true, true, true, false, false, false, false, false, false, false, false] rfl rfl (by kernel_rfl) (fun _ _ _ h => h) (Or.inl ⟨by rfl, ?_⟩) ?_ ?_
              rotate_left
              · intro w'
                go_simp
                with_reducible rfl
              rotate_left
              · simp only [Act.put, List.setIfInBounds_toArray, List.set_cons_zero, List.set_cons_succ, i64_w, i32_w]
                rfl
              refine take_ (i := 5) (N := some 77) (v := ?_) (a' := ?_) #[true, true, true, true, true, true, false, false, false, false, false, false, false] rfl rfl (by kernel_rfl) (fun _ _ _ h => h) (Or.inl ⟨by rfl, ?_⟩) hHeld ?_ ?_
              rotate_left
              · intro w' hS
                have s5 := blk4 hS.2
                obtain ⟨z0, _, z1, _, z2, _, z3, _⟩ := s5
                go_simp
                with_reducible rfl
              rotate_left
              · simp only [Act.put, List.setIfInBounds_toArray, List.set_cons_zero, List.set_cons_succ, i64_w, i32_w]
                rfl
              refine pure_ (i := 6) (N := some 78) (v := ?_) (a' := ?_) #[true, true, true, true, true, true, true, false, false, false, false, false, false] rfl rfl (by kernel_rfl) (fun _ _ _ h => h) (Or.inl ⟨by rfl, ?_⟩) ?_ ?_
              rotate_left
              · intro w'
                go_simp
                with_reducible rfl
              rotate_left
              · simp only [Act.put, List.setIfInBounds_toArray, List.set_cons_zero, List.set_cons_succ, i64_w, i32_w]
                rfl
              refine take_ (i := 7) (N := some 79) (v := ?_) (a' := ?_) #[true, true, true, true, true, true, true, true, false, false, false, false, false] rfl rfl (by kernel_rfl) (fun _ _ _ h => h) (Or.inl ⟨by rfl, ?_⟩) hHeld ?_ ?_
              rotate_left
              · intro w' hS
                have s5 := blk4 hS.1
                obtain ⟨z0, _, z1, _, z2, _, z3, _⟩ := s5
                go_simp
                with_reducible rfl
              rotate_left
              · simp only [Act.put, List.setIfInBounds_toArray, List.set_cons_zero, List.set_cons_succ, i64_w, i32_w]
                rfl
              refine one_ (i := 8) (N := some 80) #[true, true, true, true, true, true, true, true, true, false, false, false, false] rfl rfl (by kernel_rfl) (by decide) (fun K hK => ?_)
              refine goes_ Try.func11 (by kernel_rfl) rfl #[.int .u8 (x.b.toNat : Int), .int .i64 256] (by rfl) rfl rfl (by (try simp only [List.map_toArray, List.map_cons, List.map_nil]); first | done | rfl) ?_
              refine (HBL.out x.b wx).mono ?_
              rintro e wa ⟨rfl, hb⟩
              refine ⟨_, rfl, ?_⟩
              have HHa := Lib.hid (HHx.out.below hb)
              have HMa := Lib.hid (HMx.out.below hb HHx.out.ltX)
              have HTa := Lib.hid (below_old HTx.out hb)
              clear hb HHx HMx HTx
              refine hK.out _ _ ⟨HTa.out, HMa.out.blk⟩ (fun hHeld => ?_)
              clear hK K
              refine norm_ (a' := ?_) ?_ ?_
              rotate_left
              · show Act.put _ (some 80) _ = _
                simp only [Act.put, List.setIfInBounds_toArray, List.set_cons_zero, List.set_cons_succ, i64_w, i32_w]
                rfl
              refine one_ (i := 9) (N := some 81) #[true, true, true, true, true, true, true, true, true, true, false, false, false] rfl rfl (by kernel_rfl) (by decide) (fun K hK => ?_)
              refine value_ (by rfl) rfl (execOp_buildSlice (ps := #[(0, .string (rep8 x.b 256))]) rfl rfl (run_bs wa (rep8 x.b 256))) ?_
              have HHb := Lib.hid (HHa.out.alloc (.cells #[.string (rep8 x.b 256)] 9))
              have HMb := Lib.hid ((HMa.out.below ((Below.refl _ _).alloc (Nat.le_refl _) (.cells #[.string (rep8 x.b 256)] 9)) HHa.out.ltX).moreX (Y := wa.heap.size :: _) (fun b hb => List.mem_cons_of_mem _ hb))
              have HNb := Lib.hid (alloc_at wa (.cells #[.string (rep8 x.b 256)] 9))
              have HTb := Lib.hid (alloc_old HTa.out (.cells #[.string (rep8 x.b 256)] 9))
              clear HTa
              obtain ⟨N, hN⟩ : ∃ N, wa.heap.size = N := ⟨_, rfl⟩
              rw [hN] at HHb HMb HNb ⊢
              clear hN
              generalize wa.alloc (.cells #[.string (rep8 x.b 256)] 9) = wb at HHb HMb HNb HTb ⊢
              clear hHeld HHa HMa
              refine hK.out _ _ ⟨HTb.out, HMb.out.blk⟩ (fun hHeld => ?_)
              clear hK K
              refine norm_ (a' := ?_) ?_ ?_
              rotate_left
              · show Act.put _ (some 81) _ = _
                simp only [Act.put, List.setIfInBounds_toArray, List.set_cons_zero, List.set_cons_succ, i64_w, i32_w]
                rfl
              refine one_ (i := 10) (N := some 82) #[true, true, true, true, true, true, true, true, true, true, true, false, false] rfl rfl (by kernel_rfl) (by decide) (fun K hK => ?_)
              obtain ⟨v', w9, hr, ⟨Av, nv, cv, hv'⟩, hG9, hs9, hkp9, X9, hm9, hh9⟩ := may_append HMb.out HHb.out 2 (by omega) (rep8 x.b 256) N (v 2) (M 2) (by have := HLM.out 2 (by omega); omega) (HMb.out.row 2 (by omega)) (fun b hb => ⟨(HMb.out.inX 2 (by omega) b hb).1, (HMb.out.inX 2 (by omega) b hb).2, fun l hl hlk => HMb.out.two 2 (by omega) l hl (fun e => hlk e.symm) b hb⟩) HNb.out
              subst hv'
              refine value_ (by rfl) rfl (execOp_append rfl rfl rfl hr) ?_
              have HG9 := Lib.hid hG9
              have HM9 := Lib.hid hm9
              have HH9 := Lib.hid hh9
              have HT9 := Lib.hid ((hkp9 T (lt_of HTb.out) (HTV.out 2 (by omega))).trans HTb.out)
              clear hr hs9 hkp9 hG9 hm9 hh9
              refine hK.out _ _ ⟨HT9.out, HG9.out⟩ (fun hHeld => ?_)
              clear hK K
              refine norm_ (a' := ?_) ?_ ?_
              rotate_left
              · show Act.put _ (some 82) _ = _
                simp only [Act.put, List.setIfInBounds_toArray, List.set_cons_zero, List.set_cons_succ, i64_w, i32_w]
                rfl
              refine pure_ (i := 11) (N := some 83) (v := ?_) (a' := ?_) #[true, true, true, true, true, true, true, true, true, true, true, true, false] rfl rfl (by kernel_rfl) (fun _ _ _ h => h) (Or.inl ⟨by rfl, ?_⟩) ?_ ?_
              rotate_left
              · intro w'
                go_simp
                with_reducible rfl
              rotate_left
              · simp only [Act.put, List.setIfInBounds_toArray, List.set_cons_zero, List.set_cons_succ, i64_w, i32_w]
                rfl
              refine last_ (i := 12) (N := none) #[true, true, true, true, true, true, true, true, true, true, true, true, true] rfl rfl (by kernel_rfl) (by decide) (fun K hK => ?_)
              have s5 := blk4 HG9.out
              obtain ⟨z0, f0, z1, f1, z2, f2, z3, f3⟩ := s5
              refine skip_ (w1 := ?_) (by rfl) rfl ?_ ?_
              rotate_left
              · go_simp
                rfl
              clear z0 f0 z1 f1 z2 f2 z3 f3
              refine hK.out _ _ ?_
              clear hK K
              refine done_ (by kernel_rfl) ?_
              go_wp2
              go_roundg (100 - (j + 1))
              case measure => omega
              case rel => exact ⟨j + 1, X9, _, _, d', by go_num, by omega, by omega, by omega, HH9, HM9, Lib.hid (cov_step HC.out 2 (rep8 x.b 256) HFI.out HLT.out), Lib.hid (len_step HLM.out 2 (by omega) (rep8 x.b 256)), HL1⟩
            · have HT7' := HT7.out
              rw [show x.at_ = 3 from HAT.out] at HT7'
              clear HT7
              have HT7 := Lib.hid HT7'
              clear HT7'
              have hx := blk4 HT7.out
              have hy := blk4 HM7.out.blk
              go_wp2
              clear hx hy
              refine start_ (n := 13) (S := fun w' => w'.heap[T]? = some (.cells #[.int .i64 x.k, .int .i64 3, .int .u8 (x.b.toNat : Int), .int .u64 x.keep] 30 (0, 0)) ∧ w'.heap[G]? = some (.cells #[v 0, v 1, v 2, v 3] 45 (0, 0))) (ds := [12]) #[false, false, false, false, false, false, false, false, false, false, false, false, false] (by kernel_rfl) rfl rfl (⟨HT7.out, HM7.out.blk⟩) (fun hHeld => ?_)
              have HHx := Lib.hid HH7.out.drew
              have HMx := Lib.hid (HM7.out.below (Below.refl _ _).drew HH7.out.ltX)
              have HTx := Lib.hid (show w7.drew.heap[T]? = _ from HT7.out)
              generalize w7.drew = wx at HHx HMx HTx hHeld ⊢
              clear HH7 HM7 HT7
              refine pure_ (i := 0) (N := some 72) (v := ?_) (a' := ?_) #[true, false, false, false, false, false, false, false, false, false, false, false, false] rfl rfl (by kernel_rfl) (fun _ _ _ h => h) (Or.inl ⟨by rfl, ?_⟩) ?_ ?_
              rotate_left
              · intro w'
                go_simp
                with_reducible rfl
              rotate_left
              · simp only [Act.put, List.setIfInBounds_toArray, List.set_cons_zero, List.set_cons_succ, i64_w, i32_w]
                rfl
              refine take_ (i := 1) (N := some 73) (v := ?_) (a' := ?_) #[true, true, false, false, false, false, false, false, false, false, false, false, false] rfl rfl (by kernel_rfl) (fun _ _ _ h => h) (Or.inl ⟨by rfl, ?_⟩) hHeld ?_ ?_
              rotate_left
              · intro w' hS
                have s5 := blk4 hS.1
                obtain ⟨z0, _, z1, _, z2, _, z3, _⟩ := s5
                go_simp
                with_reducible rfl
              rotate_left
              · simp only [Act.put, List.setIfInBounds_toArray, List.set_cons_zero, List.set_cons_succ, i64_w, i32_w]
                rfl
              refine pure_ (i := 2) (N := some 74) (v := ?_) (a' := ?_) #[true, true, true, false, false, false, false, false, false, false, false, false, false] rfl rfl (by kernel_rfl) (fun _ _ _ h => h) (Or.inl ⟨by rfl, ?_⟩) ?_ ?_
              rotate_left
              · intro w'
                go_simp
                with_reducible rfl
              rotate_left
              · simp only [Act.put, List.setIfInBounds_toArray, List.set_cons_zero, List.set_cons_succ, i64_w, i32_w]
                rfl
              refine take_ (i := 3) (N := some 75) (v := ?_) (a' := ?_) #[true, true, true, true, false, false, false, false, false, false, false, false, false] rfl rfl (by kernel_rfl) (fun _ _ _ h => h) (Or.inl ⟨by rfl, ?_⟩) hHeld ?_ ?_
              rotate_left
              · intro w' hS
                have s5 := blk4 hS.1
                obtain ⟨z0, _, z1, _, z2, _, z3, _⟩ := s5
                go_simp
                with_reducible rfl
              rotate_left
              · simp only [Act.put, List.setIfInBounds_toArray, List.set_cons_zero, List.set_cons_succ, i64_w, i32_w]
                rfl
              refine pure_ (i := 4) (N := some 76) (v := ?_) (a' := ?_) #[true, true, true, true, true, false, false, false, false, false, false, false, false] rfl rfl (by kernel_rfl) (fun _ _ _ h => h) (Or.inl ⟨by rfl, ?_⟩) ?_ ?_
              rotate_left
              · intro w'
                go_simp
                with_reducible rfl
              rotate_left
              · simp only [Act.put, List.setIfInBounds_toArray, List.set_cons_zero, List.set_cons_succ, i64_w, i32_w]
                rfl
              refine take_ (i := 5) (N := some 77) (v := ?_) (a' := ?_) #[true, true, true, true, true, true, false, false, false, false, false, false, false] rfl rfl (by kernel_rfl) (fun _ _ _ h => h) (Or.inl ⟨by rfl, ?_⟩) hHeld ?_ ?_
              rotate_left
              · intro w' hS
                have s5 := blk4 hS.2
                obtain ⟨z0, _, z1, _, z2, _, z3, _⟩ := s5
                go_simp
                with_reducible rfl
              rotate_left
              · simp only [Act.put, List.setIfInBounds_toArray, List.set_cons_zero, List.set_cons_succ, i64_w, i32_w]
                rfl
              refine pure_ (i := 6) (N := some 78) (v := ?_) (a' := ?_) #[true, true, true, true, true, true, true, false, false, false, false, false, false] rfl rfl (by kernel_rfl) (fun _ _ _ h => h) (Or.inl ⟨by rfl, ?_⟩) ?_ ?_
              rotate_left
              · intro w'
                go_simp
                with_reducible rfl
              rotate_left
              · simp only [Act.put, List.setIfInBounds_toArray, List.set_cons_zero, List.set_cons_succ, i64_w, i32_w]
                rfl
              refine take_ (i := 7) (N := some 79) (v := ?_) (a' := ?_) #[true, true, true, true, true, true, true, true, false, false, false, false, false] rfl rfl (by kernel_rfl) (fun _ _ _ h => h) (Or.inl ⟨by rfl, ?_⟩) hHeld ?_ ?_
              rotate_left
              · intro w' hS
                have s5 := blk4 hS.1
                obtain ⟨z0, _, z1, _, z2, _, z3, _⟩ := s5
                go_simp
                with_reducible rfl
              rotate_left
              · simp only [Act.put, List.setIfInBounds_toArray, List.set_cons_zero, List.set_cons_succ, i64_w, i32_w]
                rfl
              refine one_ (i := 8) (N := some 80) #[true, true, true, true, true, true, true, true, true, false, false, false, false] rfl rfl (by kernel_rfl) (by decide) (fun K hK => ?_)
              refine goes_ Try.func11 (by kernel_rfl) rfl #[.int .u8 (x.b.toNat : Int), .int .i64 256] (by rfl) rfl rfl (by (try simp only [List.map_toArray, List.map_cons, List.map_nil]); first | done | rfl) ?_
              refine (HBL.out x.b wx).mono ?_
              rintro e wa ⟨rfl, hb⟩
              refine ⟨_, rfl, ?_⟩
              have HHa := Lib.hid (HHx.out.below hb)
              have HMa := Lib.hid (HMx.out.below hb HHx.out.ltX)
              have HTa := Lib.hid (below_old HTx.out hb)
              clear hb HHx HMx HTx
              refine hK.out _ _ ⟨HTa.out, HMa.out.blk⟩ (fun hHeld => ?_)
              clear hK K
              refine norm_ (a' := ?_) ?_ ?_
              rotate_left
              · show Act.put _ (some 80) _ = _
                simp only [Act.put, List.setIfInBounds_toArray, List.set_cons_zero, List.set_cons_succ, i64_w, i32_w]
                rfl
              refine one_ (i := 9) (N := some 81) #[true, true, true, true, true, true, true, true, true, true, false, false, false] rfl rfl (by kernel_rfl) (by decide) (fun K hK => ?_)
              refine value_ (by rfl) rfl (execOp_buildSlice (ps := #[(0, .string (rep8 x.b 256))]) rfl rfl (run_bs wa (rep8 x.b 256))) ?_
              have HHb := Lib.hid (HHa.out.alloc (.cells #[.string (rep8 x.b 256)] 9))
              have HMb := Lib.hid ((HMa.out.below ((Below.refl _ _).alloc (Nat.le_refl _) (.cells #[.string (rep8 x.b 256)] 9)) HHa.out.ltX).moreX (Y := wa.heap.size :: _) (fun b hb => List.mem_cons_of_mem _ hb))
              have HNb := Lib.hid (alloc_at wa (.cells #[.string (rep8 x.b 256)] 9))
              have HTb := Lib.hid (alloc_old HTa.out (.cells #[.string (rep8 x.b 256)] 9))
              clear HTa
              obtain ⟨N, hN⟩ : ∃ N, wa.heap.size = N := ⟨_, rfl⟩
              rw [hN] at HHb HMb HNb ⊢
              clear hN
              generalize wa.alloc (.cells #[.string (rep8 x.b 256)] 9) = wb at HHb HMb HNb HTb ⊢
              clear hHeld HHa HMa
              refine hK.out _ _ ⟨HTb.out, HMb.out.blk⟩ (fun hHeld => ?_)
              clear hK K
              refine norm_ (a' := ?_) ?_ ?_
              rotate_left
              · show Act.put _ (some 81) _ = _
                simp only [Act.put, List.setIfInBounds_toArray, List.set_cons_zero, List.set_cons_succ, i64_w, i32_w]
                rfl
              refine one_ (i := 10) (N := some 82) #[true, true, true, true, true, true, true, true, true, true, true, false, false] rfl rfl (by kernel_rfl) (by decide) (fun K hK => ?_)
              obtain ⟨v', w9, hr, ⟨Av, nv, cv, hv'⟩, hG9, hs9, hkp9, X9, hm9, hh9⟩ := may_append HMb.out HHb.out 3 (by omega) (rep8 x.b 256) N (v 3) (M 3) (by have := HLM.out 3 (by omega); omega) (HMb.out.row 3 (by omega)) (fun b hb => ⟨(HMb.out.inX 3 (by omega) b hb).1, (HMb.out.inX 3 (by omega) b hb).2, fun l hl hlk => HMb.out.two 3 (by omega) l hl (fun e => hlk e.symm) b hb⟩) HNb.out
              subst hv'
              refine value_ (by rfl) rfl (execOp_append rfl rfl rfl hr) ?_
              have HG9 := Lib.hid hG9
              have HM9 := Lib.hid hm9
              have HH9 := Lib.hid hh9
              have HT9 := Lib.hid ((hkp9 T (lt_of HTb.out) (HTV.out 3 (by omega))).trans HTb.out)
              clear hr hs9 hkp9 hG9 hm9 hh9
              refine hK.out _ _ ⟨HT9.out, HG9.out⟩ (fun hHeld => ?_)
              clear hK K
              refine norm_ (a' := ?_) ?_ ?_
              rotate_left
              · show Act.put _ (some 82) _ = _
                simp only [Act.put, List.setIfInBounds_toArray, List.set_cons_zero, List.set_cons_succ, i64_w, i32_w]
                rfl
              refine pure_ (i := 11) (N := some 83) (v := ?_) (a' := ?_) #[true, true, true, true, true, true, true, true, true, true, true, true, false] rfl rfl (by kernel_rfl) (fun _ _ _ h => h) (Or.inl ⟨by rfl, ?_⟩) ?_ ?_
              rotate_left
              · intro w'
                go_simp
                with_reducible rfl
              rotate_left
              · simp only [Act.put, List.setIfInBounds_toArray, List.set_cons_zero, List.set_cons_succ, i64_w, i32_w]
                rfl
              refine last_ (i := 12) (N := none) #[true, true, true, true, true, true, true, true, true, true, true, true, true] rfl rfl (by kernel_rfl) (by decide) (fun K hK => ?_)
              have s5 := blk4 HG9.out
              obtain ⟨z0, f0, z1, f1, z2, f2, z3, f3⟩ := s5
              refine skip_ (w1 := ?_) (by rfl) rfl ?_ ?_
              rotate_left
              · go_simp
                rfl
              clear z0 f0 z1 f1 z2 f2 z3 f3
              refine hK.out _ _ ?_
              clear hK K
              refine done_ (by kernel_rfl) ?_
              go_wp2
              go_roundg (100 - (j + 1))
              case measure => omega
              case rel => exact ⟨j + 1, X9, _, _, d', by go_num, by omega, by omega, by omega, HH9, HM9, Lib.hid (cov_step HC.out 3 (rep8 x.b 256) HFI.out HLT.out), Lib.hid (len_step HLM.out 3 (by omega) (rep8 x.b 256)), HL1⟩
          · have HZ := Lib.hid hz
            have HFI := Lib.hid hf
            have HLT := Lib.hid hlt
            have n0 : (er == 0) = false := by rw [beq_eq_false_iff_ne]; exact he
            clear hf hlt he
            have hx := blk4 HT7.out
            go_wp2
            go_roundg (100 - (j + 1))
            case measure => omega
            case rel => exact ⟨j + 1, _, M, v, d', by go_num, by omega, by omega, by omega, HH7, HM7, Lib.hid (fun q hq => (HC.out q hq).keep HFI.out HLT.out), Lib.hid (fun q hq => by have h := HLM.out q hq; omega), HL1⟩
          · have HZ := Lib.hid hz
            subst he
            have HR : Hid (∀ q : Nat, q < 4 → ∃ s, d'.firm[q]? = some s ∧ readE d' q = .returned (.tuple #[.string s, .int .i64 0])) := fun q hq => ⟨d'.firm[q]'(by rw [hln]; exact hq), List.getElem?_eq_getElem _, readE_live (List.getElem?_eq_getElem _) hlt hdd⟩
            have HLT := Lib.hid hlt
            clear hlt hdd hln
            have hx := blk4 HT7.out
            go_wp2_with fail
            go_loopw [11] (fun s11 wz => ∃ (k : Nat) (X : List Nat) (M' : Nat → List ByteArray) (v : Nat → Value), s11 = .int .i64 k ∧ k ≤ 4 ∧ Hid (Has w wz p d' X) ∧ Hid (May w wz G X M' v) ∧ Hid (∀ q, q < 4 → if q < k then Cov q (M' q) d' ∧ (M' q).length = 1 else M' q = M q)) (fun s11 _ => 4 - (intOf s11).toNat)
            case atStart => exact ⟨0, _, M, v, by simp, by omega, HH7, HM7, Lib.hid (fun q hq => by simp)⟩
            case round =>
              clear HH7 HM7 hx HT7
              obtain ⟨k, X, M', v, rfl, hk, HH, HM, HV⟩ := hrel
              have hk5 : k = 0 ∨ k = 1 ∨ k = 2 ∨ k = 3 ∨ k = 4 := by omega
              clear hk
              rcases hk5 with rfl | rfl | rfl | rfl | rfl
              · have hy := blk4 HM.out.blk
                obtain ⟨s, hs1, hs2⟩ := HR.out 0 (by omega)
                have HS1 := Lib.hid hs1
                have HS2 := Lib.hid (show readE d' 0 = _ from hs2)
                clear hs1 hs2
                go_wp2_with (first | (go_at_call 14; refine (has_read HH.out 0).mono ?_; rw [HS2.out]; rintro e w8 ⟨rfl, rfl⟩) | ((with_reducible refine gate_dst (N := 110) rfl ?_); refine wpList_val rfl rfl (execOp_buildSlice (ps := #[]) rfl rfl (run_bs0 _)) ?_) | ((with_reducible refine gate_dst (N := 112) rfl ?_); refine wpList_val rfl rfl (execOp_buildSlice (ps := #[(0, .string s)]) rfl rfl (run_bs _ _)) ?_) | ((with_reducible refine gate_dst (N := 113) rfl ?_); refine stop_here ?_))
                refine Lib.hid ?_
                clear hy
                have HHb := Lib.hid ((HH.out.alloc (.cells #[] 9)).alloc (.cells #[.string s] 9))
                have hbb : Below wr.heap.size wr ((wr.alloc (.cells #[] 9)).alloc (.cells #[.string s] 9)) := ((Below.refl _ _).alloc (Nat.le_refl _) _).alloc (by simp) _
                have HMb := Lib.hid ((HM.out.below hbb HH.out.ltX).moreX (Y := (wr.alloc (.cells #[] 9)).heap.size :: wr.heap.size :: X) (fun b hb => List.mem_cons_of_mem _ (List.mem_cons_of_mem _ hb)))
                have hsz : (wr.alloc (.cells #[] 9)).heap.size = wr.heap.size + 1 := by simp
                have HNb := Lib.hid (alloc_at (wr.alloc (.cells #[] 9)) (.cells #[.string s] 9))
                have HO0 : Hid (((wr.alloc (.cells #[] 9)).alloc (.cells #[.string s] 9)).ownsRow w.heap.size 9 1 (.slice (some ⟨wr.heap.size, 0, none⟩) 0 0) 0 []) := (World.ownsRow_made wr #[] 0 HH.out.bel.size (Nat.zero_le _) rfl).alloc _
                have HVB := Lib.hid (show ∀ l, l < 4 → (v l).ownBlock ≠ some wr.heap.size from fun l hl e => by have := ((HM.out.row l hl).lt _ e).2; omega)
                have HGN := Lib.hid (show wr.heap.size ≠ G by have := lt_of HM.out.blk; omega)
                rw [hsz] at HHb HMb HNb ⊢
                clear hbb hsz
                generalize (wr.alloc (.cells #[] 9)).alloc (.cells #[.string s] 9) = wb at HHb HMb HNb HO0 ⊢
                obtain ⟨v', w9, hr, ⟨Av, nv, cv, hv'⟩, hG9, hs9, hkp9, X9, hm9, hh9⟩ := may_append HMb.out HHb.out 0 (by omega) s (wr.heap.size + 1) (.slice (some ⟨wr.heap.size, 0, none⟩) 0 0) [] (by simp) HO0.out (fun b hb => by simp only [Value.ownBlock, Option.some.injEq] at hb; subst hb; exact ⟨by simp, HGN.out, fun l hl _ => HVB.out l hl⟩) HNb.out
                subst hv'
                refine wpList_val rfl rfl (execOp_append rfl rfl rfl hr) ?_
                have HG9 := Lib.hid hG9
                have HM9 := Lib.hid hm9
                have HH9 := Lib.hid hh9
                clear hr hs9 hkp9 hG9 hm9 hh9 HHb HMb HNb HO0 HH HM HVB HGN
                have hy := blk4 HG9.out
                go_wp2
                go_roundw
                case rel => exact ⟨1, X9, _, _, by simp, by omega, HH9, HM9, Lib.hid (new_step 0 HV.out (by omega) HS1.out HLT.out)⟩
                case measure => simp [intOf]
              · have hy := blk4 HM.out.blk
                obtain ⟨s, hs1, hs2⟩ := HR.out 1 (by omega)
                have HS1 := Lib.hid hs1
                have HS2 := Lib.hid (show readE d' 1 = _ from hs2)
                clear hs1 hs2
                go_wp2_with (first | (go_at_call 14; refine (has_read HH.out 1).mono ?_; rw [HS2.out]; rintro e w8 ⟨rfl, rfl⟩) | ((with_reducible refine gate_dst (N := 110) rfl ?_); refine wpList_val rfl rfl (execOp_buildSlice (ps := #[]) rfl rfl (run_bs0 _)) ?_) | ((with_reducible refine gate_dst (N := 112) rfl ?_); refine wpList_val rfl rfl (execOp_buildSlice (ps := #[(0, .string s)]) rfl rfl (run_bs _ _)) ?_) | ((with_reducible refine gate_dst (N := 113) rfl ?_); refine stop_here ?_))
                refine Lib.hid ?_
                clear hy
                have HHb := Lib.hid ((HH.out.alloc (.cells #[] 9)).alloc (.cells #[.string s] 9))
                have hbb : Below wr.heap.size wr ((wr.alloc (.cells #[] 9)).alloc (.cells #[.string s] 9)) := ((Below.refl _ _).alloc (Nat.le_refl _) _).alloc (by simp) _
                have HMb := Lib.hid ((HM.out.below hbb HH.out.ltX).moreX (Y := (wr.alloc (.cells #[] 9)).heap.size :: wr.heap.size :: X) (fun b hb => List.mem_cons_of_mem _ (List.mem_cons_of_mem _ hb)))
                have hsz : (wr.alloc (.cells #[] 9)).heap.size = wr.heap.size + 1 := by simp
                have HNb := Lib.hid (alloc_at (wr.alloc (.cells #[] 9)) (.cells #[.string s] 9))
                have HO0 : Hid (((wr.alloc (.cells #[] 9)).alloc (.cells #[.string s] 9)).ownsRow w.heap.size 9 1 (.slice (some ⟨wr.heap.size, 0, none⟩) 0 0) 0 []) := (World.ownsRow_made wr #[] 0 HH.out.bel.size (Nat.zero_le _) rfl).alloc _
                have HVB := Lib.hid (show ∀ l, l < 4 → (v l).ownBlock ≠ some wr.heap.size from fun l hl e => by have := ((HM.out.row l hl).lt _ e).2; omega)
                have HGN := Lib.hid (show wr.heap.size ≠ G by have := lt_of HM.out.blk; omega)
                rw [hsz] at HHb HMb HNb ⊢
                clear hbb hsz
                generalize (wr.alloc (.cells #[] 9)).alloc (.cells #[.string s] 9) = wb at HHb HMb HNb HO0 ⊢
                obtain ⟨v', w9, hr, ⟨Av, nv, cv, hv'⟩, hG9, hs9, hkp9, X9, hm9, hh9⟩ := may_append HMb.out HHb.out 1 (by omega) s (wr.heap.size + 1) (.slice (some ⟨wr.heap.size, 0, none⟩) 0 0) [] (by simp) HO0.out (fun b hb => by simp only [Value.ownBlock, Option.some.injEq] at hb; subst hb; exact ⟨by simp, HGN.out, fun l hl _ => HVB.out l hl⟩) HNb.out
                subst hv'
                refine wpList_val rfl rfl (execOp_append rfl rfl rfl hr) ?_
                have HG9 := Lib.hid hG9
                have HM9 := Lib.hid hm9
                have HH9 := Lib.hid hh9
                clear hr hs9 hkp9 hG9 hm9 hh9 HHb HMb HNb HO0 HH HM HVB HGN
                have hy := blk4 HG9.out
                go_wp2
                go_roundw
                case rel => exact ⟨2, X9, _, _, by simp, by omega, HH9, HM9, Lib.hid (new_step 1 HV.out (by omega) HS1.out HLT.out)⟩
                case measure => simp [intOf]
              · have hy := blk4 HM.out.blk
                obtain ⟨s, hs1, hs2⟩ := HR.out 2 (by omega)
                have HS1 := Lib.hid hs1
                have HS2 := Lib.hid (show readE d' 2 = _ from hs2)
                clear hs1 hs2
                go_wp2_with (first | (go_at_call 14; refine (has_read HH.out 2).mono ?_; rw [HS2.out]; rintro e w8 ⟨rfl, rfl⟩) | ((with_reducible refine gate_dst (N := 110) rfl ?_); refine wpList_val rfl rfl (execOp_buildSlice (ps := #[]) rfl rfl (run_bs0 _)) ?_) | ((with_reducible refine gate_dst (N := 112) rfl ?_); refine wpList_val rfl rfl (execOp_buildSlice (ps := #[(0, .string s)]) rfl rfl (run_bs _ _)) ?_) | ((with_reducible refine gate_dst (N := 113) rfl ?_); refine stop_here ?_))
                refine Lib.hid ?_
                clear hy
                have HHb := Lib.hid ((HH.out.alloc (.cells #[] 9)).alloc (.cells #[.string s] 9))
                have hbb : Below wr.heap.size wr ((wr.alloc (.cells #[] 9)).alloc (.cells #[.string s] 9)) := ((Below.refl _ _).alloc (Nat.le_refl _) _).alloc (by simp) _
                have HMb := Lib.hid ((HM.out.below hbb HH.out.ltX).moreX (Y := (wr.alloc (.cells #[] 9)).heap.size :: wr.heap.size :: X) (fun b hb => List.mem_cons_of_mem _ (List.mem_cons_of_mem _ hb)))
                have hsz : (wr.alloc (.cells #[] 9)).heap.size = wr.heap.size + 1 := by simp
                have HNb := Lib.hid (alloc_at (wr.alloc (.cells #[] 9)) (.cells #[.string s] 9))
                have HO0 : Hid (((wr.alloc (.cells #[] 9)).alloc (.cells #[.string s] 9)).ownsRow w.heap.size 9 1 (.slice (some ⟨wr.heap.size, 0, none⟩) 0 0) 0 []) := (World.ownsRow_made wr #[] 0 HH.out.bel.size (Nat.zero_le _) rfl).alloc _
                have HVB := Lib.hid (show ∀ l, l < 4 → (v l).ownBlock ≠ some wr.heap.size from fun l hl e => by have := ((HM.out.row l hl).lt _ e).2; omega)
                have HGN := Lib.hid (show wr.heap.size ≠ G by have := lt_of HM.out.blk; omega)
                rw [hsz] at HHb HMb HNb ⊢
                clear hbb hsz
                generalize (wr.alloc (.cells #[] 9)).alloc (.cells #[.string s] 9) = wb at HHb HMb HNb HO0 ⊢
                obtain ⟨v', w9, hr, ⟨Av, nv, cv, hv'⟩, hG9, hs9, hkp9, X9, hm9, hh9⟩ := may_append HMb.out HHb.out 2 (by omega) s (wr.heap.size + 1) (.slice (some ⟨wr.heap.size, 0, none⟩) 0 0) [] (by simp) HO0.out (fun b hb => by simp only [Value.ownBlock, Option.some.injEq] at hb; subst hb; exact ⟨by simp, HGN.out, fun l hl _ => HVB.out l hl⟩) HNb.out
                subst hv'
                refine wpList_val rfl rfl (execOp_append rfl rfl rfl hr) ?_
                have HG9 := Lib.hid hG9
                have HM9 := Lib.hid hm9
                have HH9 := Lib.hid hh9
                clear hr hs9 hkp9 hG9 hm9 hh9 HHb HMb HNb HO0 HH HM HVB HGN
                have hy := blk4 HG9.out
                go_wp2
                go_roundw
                case rel => exact ⟨3, X9, _, _, by simp, by omega, HH9, HM9, Lib.hid (new_step 2 HV.out (by omega) HS1.out HLT.out)⟩
                case measure => simp [intOf]
              · have hy := blk4 HM.out.blk
                obtain ⟨s, hs1, hs2⟩ := HR.out 3 (by omega)
                have HS1 := Lib.hid hs1
                have HS2 := Lib.hid (show readE d' 3 = _ from hs2)
                clear hs1 hs2
                go_wp2_with (first | (go_at_call 14; refine (has_read HH.out 3).mono ?_; rw [HS2.out]; rintro e w8 ⟨rfl, rfl⟩) | ((with_reducible refine gate_dst (N := 110) rfl ?_); refine wpList_val rfl rfl (execOp_buildSlice (ps := #[]) rfl rfl (run_bs0 _)) ?_) | ((with_reducible refine gate_dst (N := 112) rfl ?_); refine wpList_val rfl rfl (execOp_buildSlice (ps := #[(0, .string s)]) rfl rfl (run_bs _ _)) ?_) | ((with_reducible refine gate_dst (N := 113) rfl ?_); refine stop_here ?_))
                refine Lib.hid ?_
                clear hy
                have HHb := Lib.hid ((HH.out.alloc (.cells #[] 9)).alloc (.cells #[.string s] 9))
                have hbb : Below wr.heap.size wr ((wr.alloc (.cells #[] 9)).alloc (.cells #[.string s] 9)) := ((Below.refl _ _).alloc (Nat.le_refl _) _).alloc (by simp) _
                have HMb := Lib.hid ((HM.out.below hbb HH.out.ltX).moreX (Y := (wr.alloc (.cells #[] 9)).heap.size :: wr.heap.size :: X) (fun b hb => List.mem_cons_of_mem _ (List.mem_cons_of_mem _ hb)))
                have hsz : (wr.alloc (.cells #[] 9)).heap.size = wr.heap.size + 1 := by simp
                have HNb := Lib.hid (alloc_at (wr.alloc (.cells #[] 9)) (.cells #[.string s] 9))
                have HO0 : Hid (((wr.alloc (.cells #[] 9)).alloc (.cells #[.string s] 9)).ownsRow w.heap.size 9 1 (.slice (some ⟨wr.heap.size, 0, none⟩) 0 0) 0 []) := (World.ownsRow_made wr #[] 0 HH.out.bel.size (Nat.zero_le _) rfl).alloc _
                have HVB := Lib.hid (show ∀ l, l < 4 → (v l).ownBlock ≠ some wr.heap.size from fun l hl e => by have := ((HM.out.row l hl).lt _ e).2; omega)
                have HGN := Lib.hid (show wr.heap.size ≠ G by have := lt_of HM.out.blk; omega)
                rw [hsz] at HHb HMb HNb ⊢
                clear hbb hsz
                generalize (wr.alloc (.cells #[] 9)).alloc (.cells #[.string s] 9) = wb at HHb HMb HNb HO0 ⊢
                obtain ⟨v', w9, hr, ⟨Av, nv, cv, hv'⟩, hG9, hs9, hkp9, X9, hm9, hh9⟩ := may_append HMb.out HHb.out 3 (by omega) s (wr.heap.size + 1) (.slice (some ⟨wr.heap.size, 0, none⟩) 0 0) [] (by simp) HO0.out (fun b hb => by simp only [Value.ownBlock, Option.some.injEq] at hb; subst hb; exact ⟨by simp, HGN.out, fun l hl _ => HVB.out l hl⟩) HNb.out
                subst hv'
                refine wpList_val rfl rfl (execOp_append rfl rfl rfl hr) ?_
                have HG9 := Lib.hid hG9
                have HM9 := Lib.hid hm9
                have HH9 := Lib.hid hh9
                clear hr hs9 hkp9 hG9 hm9 hh9 HHb HMb HNb HO0 HH HM HVB HGN
                have hy := blk4 HG9.out
                go_wp2
                go_roundw
                case rel => exact ⟨4, X9, _, _, by simp, by omega, HH9, HM9, Lib.hid (new_step 3 HV.out (by omega) HS1.out HLT.out)⟩
                case measure => simp [intOf]
              · rw [show ((4 : Nat) : Int) = 4 from rfl]
                have HC2 := Lib.hid (show ∀ q, q < 4 → Cov q (M' q) d' from fun q hq => by have h := HV.out q hq; rw [if_pos hq] at h; exact h.1)
                have HL2 := Lib.hid (show ∀ q, q < 4 → (M' q).length ≤ j + 1 + 1 from fun q hq => by have h := HV.out q hq; rw [if_pos hq] at h; omega)
                go_wp2
                go_roundg (100 - (j + 1))
                case measure => omega
                case rel => exact ⟨j + 1, X, M', v, d', by go_num, by omega, by omega, by omega, HH, HM, HC2, HL2, HL1⟩
          · have HZ := Lib.hid hz
            have HFI := Lib.hid hf
            have HLT := Lib.hid hlt
            have n0 : (er == 0) = false := by rw [beq_eq_false_iff_ne]; exact he
            clear hf hlt he
            have hx := blk4 HT7.out
            go_wp2
            go_roundg (100 - (j + 1))
            case measure => omega
            case rel => exact ⟨j + 1, _, M, v, d', by go_num, by omega, by omega, by omega, HH7, HM7, Lib.hid (fun q hq => (HC.out q hq).keep HFI.out HLT.out), Lib.hid (fun q hq => by have h := HLM.out q hq; omega), HL1⟩
          · have HZ := Lib.hid hz
            have HR : Hid (∀ q : Nat, q < 4 → ∃ s, d'.firm[q]? = some s ∧ readE d' q = .returned (.tuple #[.string s, .int .i64 0])) := fun q hq => ⟨d'.firm[q]'(by rw [hln]; exact hq), List.getElem?_eq_getElem _, readE_live (List.getElem?_eq_getElem _) hlt hdd⟩
            have HLT := Lib.hid hlt
            clear hlt hdd hln
            have hx := blk4 HT7.out
            go_wp2_with fail
            go_loopw [11] (fun s11 wz => ∃ (k : Nat) (X : List Nat) (M' : Nat → List ByteArray) (v : Nat → Value), s11 = .int .i64 k ∧ k ≤ 4 ∧ Hid (Has w wz p d' X) ∧ Hid (May w wz G X M' v) ∧ Hid (∀ q, q < 4 → if q < k then Cov q (M' q) d' ∧ (M' q).length = 1 else M' q = M q)) (fun s11 _ => 4 - (intOf s11).toNat)
            case atStart => exact ⟨0, _, M, v, by simp, by omega, HH7, HM7, Lib.hid (fun q hq => by simp)⟩
            case round =>
              clear HH7 HM7 hx HT7
              obtain ⟨k, X, M', v, rfl, hk, HH, HM, HV⟩ := hrel
              have hk5 : k = 0 ∨ k = 1 ∨ k = 2 ∨ k = 3 ∨ k = 4 := by omega
              clear hk
              rcases hk5 with rfl | rfl | rfl | rfl | rfl
              · have hy := blk4 HM.out.blk
                obtain ⟨s, hs1, hs2⟩ := HR.out 0 (by omega)
                have HS1 := Lib.hid hs1
                have HS2 := Lib.hid (show readE d' 0 = _ from hs2)
                clear hs1 hs2
                go_wp2_with (first | (go_at_call 14; refine (has_read HH.out 0).mono ?_; rw [HS2.out]; rintro e w8 ⟨rfl, rfl⟩) | ((with_reducible refine gate_dst (N := 110) rfl ?_); refine wpList_val rfl rfl (execOp_buildSlice (ps := #[]) rfl rfl (run_bs0 _)) ?_) | ((with_reducible refine gate_dst (N := 112) rfl ?_); refine wpList_val rfl rfl (execOp_buildSlice (ps := #[(0, .string s)]) rfl rfl (run_bs _ _)) ?_) | ((with_reducible refine gate_dst (N := 113) rfl ?_); refine stop_here ?_))
                refine Lib.hid ?_
                clear hy
                have HHb := Lib.hid ((HH.out.alloc (.cells #[] 9)).alloc (.cells #[.string s] 9))
                have hbb : Below wr.heap.size wr ((wr.alloc (.cells #[] 9)).alloc (.cells #[.string s] 9)) := ((Below.refl _ _).alloc (Nat.le_refl _) _).alloc (by simp) _
                have HMb := Lib.hid ((HM.out.below hbb HH.out.ltX).moreX (Y := (wr.alloc (.cells #[] 9)).heap.size :: wr.heap.size :: X) (fun b hb => List.mem_cons_of_mem _ (List.mem_cons_of_mem _ hb)))
                have hsz : (wr.alloc (.cells #[] 9)).heap.size = wr.heap.size + 1 := by simp
                have HNb := Lib.hid (alloc_at (wr.alloc (.cells #[] 9)) (.cells #[.string s] 9))
                have HO0 : Hid (((wr.alloc (.cells #[] 9)).alloc (.cells #[.string s] 9)).ownsRow w.heap.size 9 1 (.slice (some ⟨wr.heap.size, 0, none⟩) 0 0) 0 []) := (World.ownsRow_made wr #[] 0 HH.out.bel.size (Nat.zero_le _) rfl).alloc _
                have HVB := Lib.hid (show ∀ l, l < 4 → (v l).ownBlock ≠ some wr.heap.size from fun l hl e => by have := ((HM.out.row l hl).lt _ e).2; omega)
                have HGN := Lib.hid (show wr.heap.size ≠ G by have := lt_of HM.out.blk; omega)
                rw [hsz] at HHb HMb HNb ⊢
                clear hbb hsz
                generalize (wr.alloc (.cells #[] 9)).alloc (.cells #[.string s] 9) = wb at HHb HMb HNb HO0 ⊢
                obtain ⟨v', w9, hr, ⟨Av, nv, cv, hv'⟩, hG9, hs9, hkp9, X9, hm9, hh9⟩ := may_append HMb.out HHb.out 0 (by omega) s (wr.heap.size + 1) (.slice (some ⟨wr.heap.size, 0, none⟩) 0 0) [] (by simp) HO0.out (fun b hb => by simp only [Value.ownBlock, Option.some.injEq] at hb; subst hb; exact ⟨by simp, HGN.out, fun l hl _ => HVB.out l hl⟩) HNb.out
                subst hv'
                refine wpList_val rfl rfl (execOp_append rfl rfl rfl hr) ?_
                have HG9 := Lib.hid hG9
                have HM9 := Lib.hid hm9
                have HH9 := Lib.hid hh9
                clear hr hs9 hkp9 hG9 hm9 hh9 HHb HMb HNb HO0 HH HM HVB HGN
                have hy := blk4 HG9.out
                go_wp2
                go_roundw
                case rel => exact ⟨1, X9, _, _, by simp, by omega, HH9, HM9, Lib.hid (new_step 0 HV.out (by omega) HS1.out HLT.out)⟩
                case measure => simp [intOf]
              · have hy := blk4 HM.out.blk
                obtain ⟨s, hs1, hs2⟩ := HR.out 1 (by omega)
                have HS1 := Lib.hid hs1
                have HS2 := Lib.hid (show readE d' 1 = _ from hs2)
                clear hs1 hs2
                go_wp2_with (first | (go_at_call 14; refine (has_read HH.out 1).mono ?_; rw [HS2.out]; rintro e w8 ⟨rfl, rfl⟩) | ((with_reducible refine gate_dst (N := 110) rfl ?_); refine wpList_val rfl rfl (execOp_buildSlice (ps := #[]) rfl rfl (run_bs0 _)) ?_) | ((with_reducible refine gate_dst (N := 112) rfl ?_); refine wpList_val rfl rfl (execOp_buildSlice (ps := #[(0, .string s)]) rfl rfl (run_bs _ _)) ?_) | ((with_reducible refine gate_dst (N := 113) rfl ?_); refine stop_here ?_))
                refine Lib.hid ?_
                clear hy
                have HHb := Lib.hid ((HH.out.alloc (.cells #[] 9)).alloc (.cells #[.string s] 9))
                have hbb : Below wr.heap.size wr ((wr.alloc (.cells #[] 9)).alloc (.cells #[.string s] 9)) := ((Below.refl _ _).alloc (Nat.le_refl _) _).alloc (by simp) _
                have HMb := Lib.hid ((HM.out.below hbb HH.out.ltX).moreX (Y := (wr.alloc (.cells #[] 9)).heap.size :: wr.heap.size :: X) (fun b hb => List.mem_cons_of_mem _ (List.mem_cons_of_mem _ hb)))
                have hsz : (wr.alloc (.cells #[] 9)).heap.size = wr.heap.size + 1 := by simp
                have HNb := Lib.hid (alloc_at (wr.alloc (.cells #[] 9)) (.cells #[.string s] 9))
                have HO0 : Hid (((wr.alloc (.cells #[] 9)).alloc (.cells #[.string s] 9)).ownsRow w.heap.size 9 1 (.slice (some ⟨wr.heap.size, 0, none⟩) 0 0) 0 []) := (World.ownsRow_made wr #[] 0 HH.out.bel.size (Nat.zero_le _) rfl).alloc _
                have HVB := Lib.hid (show ∀ l, l < 4 → (v l).ownBlock ≠ some wr.heap.size from fun l hl e => by have := ((HM.out.row l hl).lt _ e).2; omega)
                have HGN := Lib.hid (show wr.heap.size ≠ G by have := lt_of HM.out.blk; omega)
                rw [hsz] at HHb HMb HNb ⊢
                clear hbb hsz
                generalize (wr.alloc (.cells #[] 9)).alloc (.cells #[.string s] 9) = wb at HHb HMb HNb HO0 ⊢
                obtain ⟨v', w9, hr, ⟨Av, nv, cv, hv'⟩, hG9, hs9, hkp9, X9, hm9, hh9⟩ := may_append HMb.out HHb.out 1 (by omega) s (wr.heap.size + 1) (.slice (some ⟨wr.heap.size, 0, none⟩) 0 0) [] (by simp) HO0.out (fun b hb => by simp only [Value.ownBlock, Option.some.injEq] at hb; subst hb; exact ⟨by simp, HGN.out, fun l hl _ => HVB.out l hl⟩) HNb.out
                subst hv'
                refine wpList_val rfl rfl (execOp_append rfl rfl rfl hr) ?_
                have HG9 := Lib.hid hG9
                have HM9 := Lib.hid hm9
                have HH9 := Lib.hid hh9
                clear hr hs9 hkp9 hG9 hm9 hh9 HHb HMb HNb HO0 HH HM HVB HGN
                have hy := blk4 HG9.out
                go_wp2
                go_roundw
                case rel => exact ⟨2, X9, _, _, by simp, by omega, HH9, HM9, Lib.hid (new_step 1 HV.out (by omega) HS1.out HLT.out)⟩
                case measure => simp [intOf]
              · have hy := blk4 HM.out.blk
                obtain ⟨s, hs1, hs2⟩ := HR.out 2 (by omega)
                have HS1 := Lib.hid hs1
                have HS2 := Lib.hid (show readE d' 2 = _ from hs2)
                clear hs1 hs2
                go_wp2_with (first | (go_at_call 14; refine (has_read HH.out 2).mono ?_; rw [HS2.out]; rintro e w8 ⟨rfl, rfl⟩) | ((with_reducible refine gate_dst (N := 110) rfl ?_); refine wpList_val rfl rfl (execOp_buildSlice (ps := #[]) rfl rfl (run_bs0 _)) ?_) | ((with_reducible refine gate_dst (N := 112) rfl ?_); refine wpList_val rfl rfl (execOp_buildSlice (ps := #[(0, .string s)]) rfl rfl (run_bs _ _)) ?_) | ((with_reducible refine gate_dst (N := 113) rfl ?_); refine stop_here ?_))
                refine Lib.hid ?_
                clear hy
                have HHb := Lib.hid ((HH.out.alloc (.cells #[] 9)).alloc (.cells #[.string s] 9))
                have hbb : Below wr.heap.size wr ((wr.alloc (.cells #[] 9)).alloc (.cells #[.string s] 9)) := ((Below.refl _ _).alloc (Nat.le_refl _) _).alloc (by simp) _
                have HMb := Lib.hid ((HM.out.below hbb HH.out.ltX).moreX (Y := (wr.alloc (.cells #[] 9)).heap.size :: wr.heap.size :: X) (fun b hb => List.mem_cons_of_mem _ (List.mem_cons_of_mem _ hb)))
                have hsz : (wr.alloc (.cells #[] 9)).heap.size = wr.heap.size + 1 := by simp
                have HNb := Lib.hid (alloc_at (wr.alloc (.cells #[] 9)) (.cells #[.string s] 9))
                have HO0 : Hid (((wr.alloc (.cells #[] 9)).alloc (.cells #[.string s] 9)).ownsRow w.heap.size 9 1 (.slice (some ⟨wr.heap.size, 0, none⟩) 0 0) 0 []) := (World.ownsRow_made wr #[] 0 HH.out.bel.size (Nat.zero_le _) rfl).alloc _
                have HVB := Lib.hid (show ∀ l, l < 4 → (v l).ownBlock ≠ some wr.heap.size from fun l hl e => by have := ((HM.out.row l hl).lt _ e).2; omega)
                have HGN := Lib.hid (show wr.heap.size ≠ G by have := lt_of HM.out.blk; omega)
                rw [hsz] at HHb HMb HNb ⊢
                clear hbb hsz
                generalize (wr.alloc (.cells #[] 9)).alloc (.cells #[.string s] 9) = wb at HHb HMb HNb HO0 ⊢
                obtain ⟨v', w9, hr, ⟨Av, nv, cv, hv'⟩, hG9, hs9, hkp9, X9, hm9, hh9⟩ := may_append HMb.out HHb.out 2 (by omega) s (wr.heap.size + 1) (.slice (some ⟨wr.heap.size, 0, none⟩) 0 0) [] (by simp) HO0.out (fun b hb => by simp only [Value.ownBlock, Option.some.injEq] at hb; subst hb; exact ⟨by simp, HGN.out, fun l hl _ => HVB.out l hl⟩) HNb.out
                subst hv'
                refine wpList_val rfl rfl (execOp_append rfl rfl rfl hr) ?_
                have HG9 := Lib.hid hG9
                have HM9 := Lib.hid hm9
                have HH9 := Lib.hid hh9
                clear hr hs9 hkp9 hG9 hm9 hh9 HHb HMb HNb HO0 HH HM HVB HGN
                have hy := blk4 HG9.out
                go_wp2
                go_roundw
                case rel => exact ⟨3, X9, _, _, by simp, by omega, HH9, HM9, Lib.hid (new_step 2 HV.out (by omega) HS1.out HLT.out)⟩
                case measure => simp [intOf]
              · have hy := blk4 HM.out.blk
                obtain ⟨s, hs1, hs2⟩ := HR.out 3 (by omega)
                have HS1 := Lib.hid hs1
                have HS2 := Lib.hid (show readE d' 3 = _ from hs2)
                clear hs1 hs2
                go_wp2_with (first | (go_at_call 14; refine (has_read HH.out 3).mono ?_; rw [HS2.out]; rintro e w8 ⟨rfl, rfl⟩) | ((with_reducible refine gate_dst (N := 110) rfl ?_); refine wpList_val rfl rfl (execOp_buildSlice (ps := #[]) rfl rfl (run_bs0 _)) ?_) | ((with_reducible refine gate_dst (N := 112) rfl ?_); refine wpList_val rfl rfl (execOp_buildSlice (ps := #[(0, .string s)]) rfl rfl (run_bs _ _)) ?_) | ((with_reducible refine gate_dst (N := 113) rfl ?_); refine stop_here ?_))
                refine Lib.hid ?_
                clear hy
                have HHb := Lib.hid ((HH.out.alloc (.cells #[] 9)).alloc (.cells #[.string s] 9))
                have hbb : Below wr.heap.size wr ((wr.alloc (.cells #[] 9)).alloc (.cells #[.string s] 9)) := ((Below.refl _ _).alloc (Nat.le_refl _) _).alloc (by simp) _
                have HMb := Lib.hid ((HM.out.below hbb HH.out.ltX).moreX (Y := (wr.alloc (.cells #[] 9)).heap.size :: wr.heap.size :: X) (fun b hb => List.mem_cons_of_mem _ (List.mem_cons_of_mem _ hb)))
                have hsz : (wr.alloc (.cells #[] 9)).heap.size = wr.heap.size + 1 := by simp
                have HNb := Lib.hid (alloc_at (wr.alloc (.cells #[] 9)) (.cells #[.string s] 9))
                have HO0 : Hid (((wr.alloc (.cells #[] 9)).alloc (.cells #[.string s] 9)).ownsRow w.heap.size 9 1 (.slice (some ⟨wr.heap.size, 0, none⟩) 0 0) 0 []) := (World.ownsRow_made wr #[] 0 HH.out.bel.size (Nat.zero_le _) rfl).alloc _
                have HVB := Lib.hid (show ∀ l, l < 4 → (v l).ownBlock ≠ some wr.heap.size from fun l hl e => by have := ((HM.out.row l hl).lt _ e).2; omega)
                have HGN := Lib.hid (show wr.heap.size ≠ G by have := lt_of HM.out.blk; omega)
                rw [hsz] at HHb HMb HNb ⊢
                clear hbb hsz
                generalize (wr.alloc (.cells #[] 9)).alloc (.cells #[.string s] 9) = wb at HHb HMb HNb HO0 ⊢
                obtain ⟨v', w9, hr, ⟨Av, nv, cv, hv'⟩, hG9, hs9, hkp9, X9, hm9, hh9⟩ := may_append HMb.out HHb.out 3 (by omega) s (wr.heap.size + 1) (.slice (some ⟨wr.heap.size, 0, none⟩) 0 0) [] (by simp) HO0.out (fun b hb => by simp only [Value.ownBlock, Option.some.injEq] at hb; subst hb; exact ⟨by simp, HGN.out, fun l hl _ => HVB.out l hl⟩) HNb.out
                subst hv'
                refine wpList_val rfl rfl (execOp_append rfl rfl rfl hr) ?_
                have HG9 := Lib.hid hG9
                have HM9 := Lib.hid hm9
                have HH9 := Lib.hid hh9
                clear hr hs9 hkp9 hG9 hm9 hh9 HHb HMb HNb HO0 HH HM HVB HGN
                have hy := blk4 HG9.out
                go_wp2
                go_roundw
                case rel => exact ⟨4, X9, _, _, by simp, by omega, HH9, HM9, Lib.hid (new_step 3 HV.out (by omega) HS1.out HLT.out)⟩
                case measure => simp [intOf]
              · rw [show ((4 : Nat) : Int) = 4 from rfl]
                have HC2 := Lib.hid (show ∀ q, q < 4 → Cov q (M' q) d' from fun q hq => by have h := HV.out q hq; rw [if_pos hq] at h; exact h.1)
                have HL2 := Lib.hid (show ∀ q, q < 4 → (M' q).length ≤ j + 1 + 1 from fun q hq => by have h := HV.out q hq; rw [if_pos hq] at h; omega)
                go_wp2
                go_roundg (100 - (j + 1))
                case measure => omega
                case rel => exact ⟨j + 1, X, M', v, d', by go_num, by omega, by omega, by omega, HH, HM, HC2, HL2, HL1⟩
          · have HFI := Lib.hid hf
            have HLT := Lib.hid hlt
            have n0 : (x.k.tmod 5 == 0) = false := by rw [beq_eq_false_iff_ne]; exact hz0
            have n1 : (x.k.tmod 5 == 1) = false := by rw [beq_eq_false_iff_ne]; exact hz1
            have n3 : (x.k.tmod 5 == 3) = false := by rw [beq_eq_false_iff_ne]; exact hz3
            clear hf hlt hz0 hz1 hz3
            have hx := blk4 HT7.out
            go_wp2
            go_roundg (100 - (j + 1))
            case measure => omega
            case rel => exact ⟨j + 1, _, M, v, d', by go_num, by omega, by omega, by omega, HH7, HM7, Lib.hid (fun q hq => (HC.out q hq).keep HFI.out HLT.out), Lib.hid (fun q hq => by have h := HLM.out q hq; omega), HL1⟩
        · have HLN := Lib.hid (show d.late.length ≤ 1000000 by have := HLA.out.1; omega)
          have hc' : ¬ j < l.length ∨ (j < l.length ∧ ¬ j < 100) := by omega
          clear hc2
          rcases hc' with he | ⟨he, he2⟩
          all_goals
            go_wp2_with fail
            refine (has_crash HH.out keep hk0 hk1 HLN.out).mono ?_
            rintro e w8 ⟨rfl, h8, hs8, _⟩
            have HH8 := Lib.hid h8
            have HM8 := Lib.hid (HM.out.same hs8)
            clear h8 hs8 HH HM
            obtain ⟨d2, hd2⟩ : ∃ d2, d.crash keep = d2 := ⟨_, rfl⟩
            have HR : Hid (∀ k : Nat, k < 4 → ∃ s, readE d2 k = .returned (.tuple #[.string s, .int .i64 0]) ∧ d2.settled k = s ∧ s ∈ M k) := fun k hk => by
              obtain ⟨s, h1, h2⟩ := kept_cov keep k (M k) d.late 0 d.firm (HC.out k hk).firm (HC.out k hk).late
              have h3 : d2.firm[k]? = some s := by rw [← hd2]; exact h1
              exact ⟨s, readE_live h3 (by rw [← hd2]; rfl) (by rw [← hd2]; rfl), settled_at h3, h2⟩
            have HLL := Lib.hid (show d2.late.length = 0 by rw [← hd2]; rfl)
            rw [hd2] at HH8
            clear hd2 HC
            go_wp2_with fail
            go_loopw [14] (fun s14 wz => ∃ k : Nat, s14 = .int .i64 k ∧ k ≤ 4 ∧ Hid (wz = w8)) (fun s14 _ => 4 - (intOf s14).toNat)
            case atStart => exact ⟨0, by simp, by omega, Lib.hid rfl⟩
            case round =>
              obtain ⟨k, rfl, hk, hw⟩ := hrel
              obtain rfl := hw.out
              clear hw
              have hk5 : k = 0 ∨ k = 1 ∨ k = 2 ∨ k = 3 ∨ k = 4 := by omega
              clear hk
              rcases hk5 with rfl | rfl | rfl | rfl | rfl
              · obtain ⟨s, hs1, hs2, hs3⟩ := HR.out 0 (by omega)
                have HS1 := Lib.hid (show readE d2 0 = _ from hs1)
                have HS2 := Lib.hid (show d2.settled 0 = _ from hs2)
                have HS3 := Lib.hid hs3
                clear hs1 hs2 hs3
                obtain ⟨a0, c0, e0, hc0, hm0⟩ := row_form (HM8.out.row 0 (by omega))
                have hblk := HM8.out.blk
                rw [e0] at hblk
                have HBK := Lib.hid hblk
                have HEK := Lib.hid e0
                clear hblk e0
                unfold maxLen at hm0
                have hy := blk4 HBK.out
                go_wp2_with (go_at_call 14; refine (has_read HH8.out 0).mono ?_; rw [HS1.out]; rintro e w9 ⟨rfl, rfl⟩)
                go_loopw [17, 18] (fun s17 s18 wz => ∃ (i : Nat) (b : Bool), s18 = .int .i64 i ∧ s17 = .bool b ∧ Hid (b = true ↔ s ∈ (M 0).take i) ∧ i ≤ (M 0).length ∧ Hid (wz = wr)) (fun _ s18 _ => (M 0).length - (intOf s18).toNat)
                case atStart => exact ⟨0, false, by simp, by simp, Lib.hid (by simp), Nat.zero_le _, Lib.hid rfl⟩
                case round =>
                  clear hy
                  obtain ⟨wy, rfl⟩ : ∃ wy : World, wy = wr := ⟨_, rfl⟩
                  obtain ⟨i, b, rfl, rfl, HBI, hi, hwy⟩ := hrel
                  obtain rfl := hwy.out
                  clear hwy
                  have hy := blk4 HBK.out
                  by_cases hlt : i < (M 0).length
                  · obtain ⟨g, cap, e3, hcell⟩ := row_cell (HM8.out.row 0 (by omega)) i hlt
                    rw [HEK.out] at e3
                    simp only [Value.slice.injEq, true_and] at e3
                    obtain ⟨rfl, rfl⟩ := e3
                    have HTS := Lib.hid (show s ∈ (M 0).take (i + 1) ↔ (s ∈ (M 0).take i ∨ (M 0)[i] = s) by rw [List.take_succ_eq_append_getElem hlt, List.mem_append, List.mem_singleton]; exact or_congr Iff.rfl eq_comm)
                    cases b with
                    | true =>
                      go_wp2
                      go_roundw
                      case rel => exact ⟨i + 1, true, by go_num, rfl, Lib.hid ⟨fun _ => HTS.out.2 (.inl (HBI.out.1 rfl)), fun _ => rfl⟩, by omega, by first | exact Lib.hid rfl | exact Lib.hid trivial⟩
                      case measure => simp [intOf]; omega
                    | false =>
                      by_cases hq : (M 0)[i] = s
                      · rw [hq] at hcell
                        have HQ := Lib.hid hq
                        clear hq
                        go_wp2
                        go_roundw
                        case rel => exact ⟨i + 1, true, by go_num, rfl, Lib.hid ⟨fun _ => HTS.out.2 (.inr HQ.out), fun _ => rfl⟩, by omega, by first | exact Lib.hid rfl | exact Lib.hid trivial⟩
                        case measure => simp [intOf]; omega
                      · have hq1 : ((M 0)[i].toList == s.toList) = false := by rw [beq_eq_false_iff_ne]; exact fun e => hq (str_inj e)
                        have HQ := Lib.hid hq
                        clear hq
                        go_wp2
                        go_roundw
                        case rel => exact ⟨i + 1, false, by go_num, rfl, Lib.hid ⟨fun h => by simp at h, fun h => (by rcases HTS.out.1 h with h | h; exact HBI.out.2 h; exact absurd h HQ.out)⟩, by omega, by first | exact Lib.hid rfl | exact Lib.hid trivial⟩
                        case measure => simp [intOf]; omega
                  · obtain rfl : i = (M 0).length := by omega
                    rw [List.take_length] at HBI
                    obtain rfl := HBI.out.2 HS3.out
                    clear hi
                    go_wp2_with fail
                    refine (has_settled HH8.out 0).mono ?_
                    rw [HS2.out]
                    rintro e w9 ⟨rfl, rfl⟩
                    go_wp2
                    go_roundw
                    case rel => exact ⟨1, by simp, by omega, by first | exact Lib.hid rfl | exact Lib.hid trivial⟩
                    case measure => simp [intOf]
              · obtain ⟨s, hs1, hs2, hs3⟩ := HR.out 1 (by omega)
                have HS1 := Lib.hid (show readE d2 1 = _ from hs1)
                have HS2 := Lib.hid (show d2.settled 1 = _ from hs2)
                have HS3 := Lib.hid hs3
                clear hs1 hs2 hs3
                obtain ⟨a1, c1, e1, hc1, hm1⟩ := row_form (HM8.out.row 1 (by omega))
                have hblk := HM8.out.blk
                rw [e1] at hblk
                have HBK := Lib.hid hblk
                have HEK := Lib.hid e1
                clear hblk e1
                unfold maxLen at hm1
                have hy := blk4 HBK.out
                go_wp2_with (go_at_call 14; refine (has_read HH8.out 1).mono ?_; rw [HS1.out]; rintro e w9 ⟨rfl, rfl⟩)
                go_loopw [17, 18] (fun s17 s18 wz => ∃ (i : Nat) (b : Bool), s18 = .int .i64 i ∧ s17 = .bool b ∧ Hid (b = true ↔ s ∈ (M 1).take i) ∧ i ≤ (M 1).length ∧ Hid (wz = wr)) (fun _ s18 _ => (M 1).length - (intOf s18).toNat)
                case atStart => exact ⟨0, false, by simp, by simp, Lib.hid (by simp), Nat.zero_le _, Lib.hid rfl⟩
                case round =>
                  clear hy
                  obtain ⟨wy, rfl⟩ : ∃ wy : World, wy = wr := ⟨_, rfl⟩
                  obtain ⟨i, b, rfl, rfl, HBI, hi, hwy⟩ := hrel
                  obtain rfl := hwy.out
                  clear hwy
                  have hy := blk4 HBK.out
                  by_cases hlt : i < (M 1).length
                  · obtain ⟨g, cap, e3, hcell⟩ := row_cell (HM8.out.row 1 (by omega)) i hlt
                    rw [HEK.out] at e3
                    simp only [Value.slice.injEq, true_and] at e3
                    obtain ⟨rfl, rfl⟩ := e3
                    have HTS := Lib.hid (show s ∈ (M 1).take (i + 1) ↔ (s ∈ (M 1).take i ∨ (M 1)[i] = s) by rw [List.take_succ_eq_append_getElem hlt, List.mem_append, List.mem_singleton]; exact or_congr Iff.rfl eq_comm)
                    cases b with
                    | true =>
                      go_wp2
                      go_roundw
                      case rel => exact ⟨i + 1, true, by go_num, rfl, Lib.hid ⟨fun _ => HTS.out.2 (.inl (HBI.out.1 rfl)), fun _ => rfl⟩, by omega, by first | exact Lib.hid rfl | exact Lib.hid trivial⟩
                      case measure => simp [intOf]; omega
                    | false =>
                      by_cases hq : (M 1)[i] = s
                      · rw [hq] at hcell
                        have HQ := Lib.hid hq
                        clear hq
                        go_wp2
                        go_roundw
                        case rel => exact ⟨i + 1, true, by go_num, rfl, Lib.hid ⟨fun _ => HTS.out.2 (.inr HQ.out), fun _ => rfl⟩, by omega, by first | exact Lib.hid rfl | exact Lib.hid trivial⟩
                        case measure => simp [intOf]; omega
                      · have hq1 : ((M 1)[i].toList == s.toList) = false := by rw [beq_eq_false_iff_ne]; exact fun e => hq (str_inj e)
                        have HQ := Lib.hid hq
                        clear hq
                        go_wp2
                        go_roundw
                        case rel => exact ⟨i + 1, false, by go_num, rfl, Lib.hid ⟨fun h => by simp at h, fun h => (by rcases HTS.out.1 h with h | h; exact HBI.out.2 h; exact absurd h HQ.out)⟩, by omega, by first | exact Lib.hid rfl | exact Lib.hid trivial⟩
                        case measure => simp [intOf]; omega
                  · obtain rfl : i = (M 1).length := by omega
                    rw [List.take_length] at HBI
                    obtain rfl := HBI.out.2 HS3.out
                    clear hi
                    go_wp2_with fail
                    refine (has_settled HH8.out 1).mono ?_
                    rw [HS2.out]
                    rintro e w9 ⟨rfl, rfl⟩
                    go_wp2
                    go_roundw
                    case rel => exact ⟨2, by simp, by omega, by first | exact Lib.hid rfl | exact Lib.hid trivial⟩
                    case measure => simp [intOf]
              · obtain ⟨s, hs1, hs2, hs3⟩ := HR.out 2 (by omega)
                have HS1 := Lib.hid (show readE d2 2 = _ from hs1)
                have HS2 := Lib.hid (show d2.settled 2 = _ from hs2)
                have HS3 := Lib.hid hs3
                clear hs1 hs2 hs3
                obtain ⟨a2, c2, e2, hc2, hm2⟩ := row_form (HM8.out.row 2 (by omega))
                have hblk := HM8.out.blk
                rw [e2] at hblk
                have HBK := Lib.hid hblk
                have HEK := Lib.hid e2
                clear hblk e2
                unfold maxLen at hm2
                have hy := blk4 HBK.out
                go_wp2_with (go_at_call 14; refine (has_read HH8.out 2).mono ?_; rw [HS1.out]; rintro e w9 ⟨rfl, rfl⟩)
                go_loopw [17, 18] (fun s17 s18 wz => ∃ (i : Nat) (b : Bool), s18 = .int .i64 i ∧ s17 = .bool b ∧ Hid (b = true ↔ s ∈ (M 2).take i) ∧ i ≤ (M 2).length ∧ Hid (wz = wr)) (fun _ s18 _ => (M 2).length - (intOf s18).toNat)
                case atStart => exact ⟨0, false, by simp, by simp, Lib.hid (by simp), Nat.zero_le _, Lib.hid rfl⟩
                case round =>
                  clear hy
                  obtain ⟨wy, rfl⟩ : ∃ wy : World, wy = wr := ⟨_, rfl⟩
                  obtain ⟨i, b, rfl, rfl, HBI, hi, hwy⟩ := hrel
                  obtain rfl := hwy.out
                  clear hwy
                  have hy := blk4 HBK.out
                  by_cases hlt : i < (M 2).length
                  · obtain ⟨g, cap, e3, hcell⟩ := row_cell (HM8.out.row 2 (by omega)) i hlt
                    rw [HEK.out] at e3
                    simp only [Value.slice.injEq, true_and] at e3
                    obtain ⟨rfl, rfl⟩ := e3
                    have HTS := Lib.hid (show s ∈ (M 2).take (i + 1) ↔ (s ∈ (M 2).take i ∨ (M 2)[i] = s) by rw [List.take_succ_eq_append_getElem hlt, List.mem_append, List.mem_singleton]; exact or_congr Iff.rfl eq_comm)
                    cases b with
                    | true =>
                      go_wp2
                      go_roundw
                      case rel => exact ⟨i + 1, true, by go_num, rfl, Lib.hid ⟨fun _ => HTS.out.2 (.inl (HBI.out.1 rfl)), fun _ => rfl⟩, by omega, by first | exact Lib.hid rfl | exact Lib.hid trivial⟩
                      case measure => simp [intOf]; omega
                    | false =>
                      by_cases hq : (M 2)[i] = s
                      · rw [hq] at hcell
                        have HQ := Lib.hid hq
                        clear hq
                        go_wp2
                        go_roundw
                        case rel => exact ⟨i + 1, true, by go_num, rfl, Lib.hid ⟨fun _ => HTS.out.2 (.inr HQ.out), fun _ => rfl⟩, by omega, by first | exact Lib.hid rfl | exact Lib.hid trivial⟩
                        case measure => simp [intOf]; omega
                      · have hq1 : ((M 2)[i].toList == s.toList) = false := by rw [beq_eq_false_iff_ne]; exact fun e => hq (str_inj e)
                        have HQ := Lib.hid hq
                        clear hq
                        go_wp2
                        go_roundw
                        case rel => exact ⟨i + 1, false, by go_num, rfl, Lib.hid ⟨fun h => by simp at h, fun h => (by rcases HTS.out.1 h with h | h; exact HBI.out.2 h; exact absurd h HQ.out)⟩, by omega, by first | exact Lib.hid rfl | exact Lib.hid trivial⟩
                        case measure => simp [intOf]; omega
                  · obtain rfl : i = (M 2).length := by omega
                    rw [List.take_length] at HBI
                    obtain rfl := HBI.out.2 HS3.out
                    clear hi
                    go_wp2_with fail
                    refine (has_settled HH8.out 2).mono ?_
                    rw [HS2.out]
                    rintro e w9 ⟨rfl, rfl⟩
                    go_wp2
                    go_roundw
                    case rel => exact ⟨3, by simp, by omega, by first | exact Lib.hid rfl | exact Lib.hid trivial⟩
                    case measure => simp [intOf]
              · obtain ⟨s, hs1, hs2, hs3⟩ := HR.out 3 (by omega)
                have HS1 := Lib.hid (show readE d2 3 = _ from hs1)
                have HS2 := Lib.hid (show d2.settled 3 = _ from hs2)
                have HS3 := Lib.hid hs3
                clear hs1 hs2 hs3
                obtain ⟨a3, c3, e3, hc3, hm3⟩ := row_form (HM8.out.row 3 (by omega))
                have hblk := HM8.out.blk
                rw [e3] at hblk
                have HBK := Lib.hid hblk
                have HEK := Lib.hid e3
                clear hblk e3
                unfold maxLen at hm3
                have hy := blk4 HBK.out
                go_wp2_with (go_at_call 14; refine (has_read HH8.out 3).mono ?_; rw [HS1.out]; rintro e w9 ⟨rfl, rfl⟩)
                go_loopw [17, 18] (fun s17 s18 wz => ∃ (i : Nat) (b : Bool), s18 = .int .i64 i ∧ s17 = .bool b ∧ Hid (b = true ↔ s ∈ (M 3).take i) ∧ i ≤ (M 3).length ∧ Hid (wz = wr)) (fun _ s18 _ => (M 3).length - (intOf s18).toNat)
                case atStart => exact ⟨0, false, by simp, by simp, Lib.hid (by simp), Nat.zero_le _, Lib.hid rfl⟩
                case round =>
                  clear hy
                  obtain ⟨wy, rfl⟩ : ∃ wy : World, wy = wr := ⟨_, rfl⟩
                  obtain ⟨i, b, rfl, rfl, HBI, hi, hwy⟩ := hrel
                  obtain rfl := hwy.out
                  clear hwy
                  have hy := blk4 HBK.out
                  by_cases hlt : i < (M 3).length
                  · obtain ⟨g, cap, e3, hcell⟩ := row_cell (HM8.out.row 3 (by omega)) i hlt
                    rw [HEK.out] at e3
                    simp only [Value.slice.injEq, true_and] at e3
                    obtain ⟨rfl, rfl⟩ := e3
                    have HTS := Lib.hid (show s ∈ (M 3).take (i + 1) ↔ (s ∈ (M 3).take i ∨ (M 3)[i] = s) by rw [List.take_succ_eq_append_getElem hlt, List.mem_append, List.mem_singleton]; exact or_congr Iff.rfl eq_comm)
                    cases b with
                    | true =>
                      go_wp2
                      go_roundw
                      case rel => exact ⟨i + 1, true, by go_num, rfl, Lib.hid ⟨fun _ => HTS.out.2 (.inl (HBI.out.1 rfl)), fun _ => rfl⟩, by omega, by first | exact Lib.hid rfl | exact Lib.hid trivial⟩
                      case measure => simp [intOf]; omega
                    | false =>
                      by_cases hq : (M 3)[i] = s
                      · rw [hq] at hcell
                        have HQ := Lib.hid hq
                        clear hq
                        go_wp2
                        go_roundw
                        case rel => exact ⟨i + 1, true, by go_num, rfl, Lib.hid ⟨fun _ => HTS.out.2 (.inr HQ.out), fun _ => rfl⟩, by omega, by first | exact Lib.hid rfl | exact Lib.hid trivial⟩
                        case measure => simp [intOf]; omega
                      · have hq1 : ((M 3)[i].toList == s.toList) = false := by rw [beq_eq_false_iff_ne]; exact fun e => hq (str_inj e)
                        have HQ := Lib.hid hq
                        clear hq
                        go_wp2
                        go_roundw
                        case rel => exact ⟨i + 1, false, by go_num, rfl, Lib.hid ⟨fun h => by simp at h, fun h => (by rcases HTS.out.1 h with h | h; exact HBI.out.2 h; exact absurd h HQ.out)⟩, by omega, by first | exact Lib.hid rfl | exact Lib.hid trivial⟩
                        case measure => simp [intOf]; omega
                  · obtain rfl : i = (M 3).length := by omega
                    rw [List.take_length] at HBI
                    obtain rfl := HBI.out.2 HS3.out
                    clear hi
                    go_wp2_with fail
                    refine (has_settled HH8.out 3).mono ?_
                    rw [HS2.out]
                    rintro e w9 ⟨rfl, rfl⟩
                    go_wp2
                    go_roundw
                    case rel => exact ⟨4, by simp, by omega, by first | exact Lib.hid rfl | exact Lib.hid trivial⟩
                    case measure => simp [intOf]
              · go_wp2_with fail
                refine (alive_calls wr).mono ?_
                rintro e w9 ⟨rfl, hb⟩
                have H9 := Lib.hid (HH8.out.below hb)
                clear hb
                go_wp2_with fail
                refine (has_unsettled H9.out).mono ?_
                rw [HLL.out]
                rintro e w9 ⟨rfl, rfl⟩
                go_wp2
                go_ret
                exact ⟨rfl, H9.out.bel⟩
end Go.Proofs.Ytmphnfkohilojaa.Dev
namespace Go.Proofs.Ytmphnfkohilojaa.deviceSome
open Go.RowKit Go.Sees
set_option linter.unusedVariables false
theorem deviceSome_walk (a0 : Option Addr) (len0 cap0 : Nat) (a1 : Int) (w : World) (w0 : Sees Try.prog w 140737488351232 5 22 [.slice a0 len0 cap0]) (w1 : (Lit.int .u64 a1).wf = true) :
    Calls Try.prog 6 #[.slice a0 len0 cap0, .int .u64 a1] w fun e w' => e = .returned (.bool true) ∧ Below w.heap.size w w' := by
  obtain ⟨l, rfl, _, h1, _, hA, hO⟩ := Dev.sees_acts (k := 2) w0
  have b1 := bounds_u64 w1
  exact Dev.some_law a0 cap0 l a1 b1.1 (by omega) w hA hO h1
end Go.Proofs.Ytmphnfkohilojaa.deviceSome
