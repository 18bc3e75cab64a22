/- Layer share: the order of opens, in whatever world: it draws and lays, and turns nothing. -/
import Derived.Test.YtecbfpdkbackmaaShareClear
import Derived.Sort.Grow
namespace Go.Proofs.Ytecbfpdkbackmaa.Share
open Go.RowKit Go.Shelf Go.Sort Go.Lib Go.Blk Go.Proofs.Ytecbfpdkbackmaa.P11 Go.Proofs.YtecbfpdkbackmaaW.PrintWords Go.Proofs.YtecbfpdkbackmaaW.PrintLast Go.Proofs.YtecbfpdkbackmaaW.PrintMore
set_option linter.unusedVariables false
set_option linter.unusedSimpArgs false

/-- draws and blocks, no more -/
def Lays (W w' : World) : Prop := ∃ q os, w' = grow (W.drewN q) os
theorem Lays.refl (W : World) : Lays W W := ⟨0, #[], by simp [World.drewN]⟩
theorem Lays.drewN {W w : World} (h : Lays W w) (n : Nat) : Lays W (w.drewN n) := by
  obtain ⟨q, os, rfl⟩ := h
  exact ⟨q + n, os, by simp [grow, World.drewN, Nat.add_assoc]⟩
theorem Lays.drew {W w : World} (h : Lays W w) : Lays W w.drew := h.drewN 1
theorem Lays.alloc {W w : World} (h : Lays W w) (o : Obj) : Lays W (w.alloc o) := by
  obtain ⟨q, os, rfl⟩ := h
  exact ⟨q, os ++ #[o], by rw [alloc_eq_grow, grow_grow]⟩
abbrev OHeld (W : World) (x y : S27) (w' : World) : Prop := (w'.cell? ⟨W.heap.size, 0, none⟩ = some (.int .u32 x.f0) ∧ w'.cell? ⟨W.heap.size, 1, none⟩ = some (.int .u32 x.f1)) ∧ (w'.cell? ⟨(W.heap.size + 1), 0, none⟩ = some (.int .u32 y.f0) ∧ w'.cell? ⟨(W.heap.size + 1), 1, none⟩ = some (.int .u32 y.f1)) ∧ Lays W w'
theorem OHeld.drewN {W w : World} {x y : S27} (h : OHeld W x y w) (n : Nat) : OHeld W x y (w.drewN n) := ⟨h.1, h.2.1, h.2.2.drewN n⟩
theorem OHeld.drawn {W w w1 : World} {x y : S27} (h : OHeld W x y w) (hd : Drawn0 w w1) : OHeld W x y w1 := by
  obtain ⟨n, rfl⟩ := hd.out
  exact OHeld.drewN h n
theorem OHeld.drew {W w : World} {x y : S27} (h : OHeld W x y w) : OHeld W x y w.drew := ⟨h.1, h.2.1, h.2.2.drew⟩
theorem OHeld.alloc {W w : World} {x y : S27} (h : OHeld W x y w) (o : Obj) : OHeld W x y (w.alloc o) := by
  obtain ⟨⟨a0, a1⟩, ⟨b0, b1⟩, l⟩ := h
  exact ⟨⟨kept (boxed w o) a0, kept (boxed w o) a1⟩, ⟨kept (boxed w o) b0, kept (boxed w o) b1⟩, l.alloc o⟩

def cmp1 (x y : Int) : Int := if x < y then -1 else if y < x then 1 else 0
theorem cmp1_f (x y : Int) : cmp_Compare_uint32.f x y = some (cmp1 x y) := by
  unfold cmp_Compare_uint32.f cmp_isNaN_uint32.f cmp1
  simp only [bne_self_eq_false, Option.bind_some, Bool.false_eq_true, if_false, gt_iff_lt]
  repeat' split
  all_goals rfl
def or2 (a b : Int) : Int := if a = 0 then b else a
theorem or2_f (a b : Int) : cmp_Or_int.f 5 [a, b] = some (or2 a b) := by
  unfold cmp_Or_int.f or2
  by_cases h : a = 0
  · rw [if_pos h]
    by_cases h2 : b = 0
    · simp [cmp_Or_int.l0, Go.Proofs.YtecbfpdkbackmaaW.PrintWords.rd, h, h2, wrap64]
    · simp [cmp_Or_int.l0, Go.Proofs.YtecbfpdkbackmaaW.PrintWords.rd, h, h2, wrap64]
  · rw [if_neg h]; simp [cmp_Or_int.l0, Go.Proofs.YtecbfpdkbackmaaW.PrintWords.rd, h]
theorem or2_cmp (x y : S27) : or2 (cmp1 x.f0 y.f0) (cmp1 x.f1 y.f1) = cmpB x y := by
  unfold or2 cmp1 cmpB
  by_cases h1 : x.f0 < y.f0
  · rw [if_pos h1, if_pos h1]; rfl
  · rw [if_neg h1, if_neg h1]
    by_cases h2 : y.f0 < x.f0
    · rw [if_pos h2, if_pos h2]; rfl
    · rw [if_neg h2, if_neg h2]; rfl
theorem or_calls (a b : Int) (gb : Nat) (w : World) (h : w.heap[gb]? = some (.cells #[.int .i64 a, .int .i64 b] 3 (0, 0))) :
    Calls Try.prog 45 #[.slice (some ⟨gb, 0, none⟩) 2 2] w fun e w' => e = .returned (.int .i64 (or2 a b)) ∧ Drawn0 w w' := by
  refine cmp_Or_int.calls 5 (some ⟨gb, 0, none⟩) 2 [a, b] (or2 a b) w ?_ (Nat.le_refl _) (or2_f a b)
  refine ⟨rfl, by simp, fun _ => ⟨_, rfl, fun j p hj => ?_⟩⟩
  have c := blk2 h
  match j, hj with
  | 0, hj =>
    obtain rfl : a = p := by simpa using hj
    refine ⟨[.int .i64 a], rfl, rfl, fun i u hi => ?_⟩
    match i, hi with
    | 0, hi =>
      obtain rfl : Value.int .i64 a = u := by simpa using hi
      exact c.1
  | 1, hj =>
    obtain rfl : b = p := by simpa using hj
    refine ⟨[.int .i64 b], rfl, rfl, fun i u hi => ?_⟩
    match i, hi with
    | 0, hi =>
      obtain rfl : Value.int .i64 b = u := by simpa using hi
      exact c.2.2.1

set_option maxHeartbeats 4000000 in
theorem order_lay (x y : S27) (W : World) : Calls Try.prog 27 #[opn x, opn y] W fun e w' => e = .returned (.int .i64 (cmpB x y)) ∧ Lays W w' := by
  have HC0 := Lib.hid (fun W => cmp_Compare_uint32.calls x.f0 y.f0 _ W (cmp1_f x.f0 y.f0))
  have HC1 := Lib.hid (fun W => cmp_Compare_uint32.calls x.f1 y.f1 _ W (cmp1_f x.f1 y.f1))
  obtain ⟨a, ha⟩ : ∃ a, cmp1 x.f0 y.f0 = a := ⟨_, rfl⟩
  obtain ⟨b, hb⟩ : ∃ b, cmp1 x.f1 y.f1 = b := ⟨_, rfl⟩
  have HV := Lib.hid (or2_cmp x y)
  rw [ha, hb] at HV
  rw [ha] at HC0
  rw [hb] at HC1
  clear ha hb
  have START := Lib.hid (show OHeld W x y ((W.alloc (.cells (cellsOf x) 27)).alloc (.cells (cellsOf y) 27)) from by
    have c := blk5 (alloc_old (alloc_at W (.cells (cellsOf x) 27)) (.cells (cellsOf y) 27))
    have d := blk5 (alloc_at (W.alloc (.cells (cellsOf x) 27)) (.cells (cellsOf y) 27))
    have e : (W.alloc (.cells (cellsOf x) 27)).heap.size = W.heap.size + 1 := by simp
    rw [e] at d
    exact ⟨⟨c.1, c.2.2.1⟩, ⟨d.1, d.2.2.1⟩, ((Lays.refl W).alloc _).alloc _⟩)
  go_enter Try.func27, Try.ntmps27
  go_wp2_with fail
  refine start_ (n := 13) (S := (fun w' => (w'.cell? ⟨W.heap.size, 0, none⟩ = some (.int .u32 x.f0) ∧ w'.cell? ⟨W.heap.size, 1, none⟩ = some (.int .u32 x.f1)) ∧ (w'.cell? ⟨(W.heap.size + 1), 0, none⟩ = some (.int .u32 y.f0) ∧ w'.cell? ⟨(W.heap.size + 1), 1, none⟩ = some (.int .u32 y.f1)) ∧ Lays W w')) (ds := []) #[false, false, false, false, false, false, false, false, false, false, false, false, false] (by kernel_rfl) rfl rfl (OHeld.drew START.out) (fun hHeld => ?_)
  refine pure_ (i := 0) (N := some 5) (v := ?_) (a' := ?_) #[true, false, false, false, false, false, false, false, false, false, false, false, false] rfl rfl (by kernel_rfl) (fun _ _ _ h => h) (Or.inl ⟨by rfl, ?_⟩) ?_ ?_
  rotate_left
  · intro w'
    go_simp
    with_reducible rfl
  rotate_left
  · simp only [Act.put, List.setIfInBounds_toArray, List.set_cons_zero, List.set_cons_succ, i64_w, i32_w]
    rfl
  refine take_ (i := 1) (N := some 6) (v := ?_) (a' := ?_) #[true, true, false, false, false, false, false, false, false, false, false, false, false] rfl rfl (by kernel_rfl) (fun _ _ _ h => h) (Or.inl ⟨by rfl, ?_⟩) hHeld ?_ ?_
  rotate_left
  · rintro w' ⟨⟨s0, s1⟩, ⟨s2, s3⟩, s4⟩
    go_simp
    with_reducible rfl
  rotate_left
  · simp only [Act.put, List.setIfInBounds_toArray, List.set_cons_zero, List.set_cons_succ, i64_w, i32_w]
    rfl
  refine pure_ (i := 2) (N := some 7) (v := ?_) (a' := ?_) #[true, true, true, false, false, false, false, false, false, false, false, false, false] rfl rfl (by kernel_rfl) (fun _ _ _ h => h) (Or.inl ⟨by rfl, ?_⟩) ?_ ?_
  rotate_left
  · intro w'
    go_simp
    with_reducible rfl
  rotate_left
  · simp only [Act.put, List.setIfInBounds_toArray, List.set_cons_zero, List.set_cons_succ, i64_w, i32_w]
    rfl
  refine take_ (i := 3) (N := some 8) (v := ?_) (a' := ?_) #[true, true, true, true, false, false, false, false, false, false, false, false, false] rfl rfl (by kernel_rfl) (fun _ _ _ h => h) (Or.inl ⟨by rfl, ?_⟩) hHeld ?_ ?_
  rotate_left
  · rintro w' ⟨⟨s0, s1⟩, ⟨s2, s3⟩, s4⟩
    go_simp
    with_reducible rfl
  rotate_left
  · simp only [Act.put, List.setIfInBounds_toArray, List.set_cons_zero, List.set_cons_succ, i64_w, i32_w]
    rfl
  refine pure_ (i := 5) (N := some 10) (v := ?_) (a' := ?_) #[true, true, true, true, false, true, false, false, false, false, false, false, false] rfl rfl (by kernel_rfl) (fun _ _ _ h => h) (Or.inl ⟨by rfl, ?_⟩) ?_ ?_
  rotate_left
  · intro w'
    go_simp
    with_reducible rfl
  rotate_left
  · simp only [Act.put, List.setIfInBounds_toArray, List.set_cons_zero, List.set_cons_succ, i64_w, i32_w]
    rfl
  refine take_ (i := 6) (N := some 11) (v := ?_) (a' := ?_) #[true, true, true, true, false, true, true, false, false, false, false, false, false] rfl rfl (by kernel_rfl) (fun _ _ _ h => h) (Or.inl ⟨by rfl, ?_⟩) hHeld ?_ ?_
  rotate_left
  · rintro w' ⟨⟨s0, s1⟩, ⟨s2, s3⟩, s4⟩
    go_simp
    with_reducible rfl
  rotate_left
  · simp only [Act.put, List.setIfInBounds_toArray, List.set_cons_zero, List.set_cons_succ, i64_w, i32_w]
    rfl
  refine pure_ (i := 7) (N := some 12) (v := ?_) (a' := ?_) #[true, true, true, true, false, true, true, true, false, false, false, false, false] rfl rfl (by kernel_rfl) (fun _ _ _ h => h) (Or.inl ⟨by rfl, ?_⟩) ?_ ?_
  rotate_left
  · intro w'
    go_simp
    with_reducible rfl
  rotate_left
  · simp only [Act.put, List.setIfInBounds_toArray, List.set_cons_zero, List.set_cons_succ, i64_w, i32_w]
    rfl
  refine take_ (i := 8) (N := some 13) (v := ?_) (a' := ?_) #[true, true, true, true, false, true, true, true, true, false, false, false, false] rfl rfl (by kernel_rfl) (fun _ _ _ h => h) (Or.inl ⟨by rfl, ?_⟩) hHeld ?_ ?_
  rotate_left
  · rintro w' ⟨⟨s0, s1⟩, ⟨s2, s3⟩, s4⟩
    go_simp
    with_reducible rfl
  rotate_left
  · simp only [Act.put, List.setIfInBounds_toArray, List.set_cons_zero, List.set_cons_succ, i64_w, i32_w]
    rfl
  refine one_ (i := 4) (N := some 9) #[true, true, true, true, true, true, true, true, true, false, false, false, false] rfl rfl (by kernel_rfl) (by decide) (fun K hK => ?_)
  refine goes_ Try.func46 (by kernel_rfl) rfl #[.int .u32 x.f0, .int .u32 y.f0] (by rfl) rfl rfl (by (try simp only [List.map_toArray, List.map_cons, List.map_nil]); first | done | rfl) ?_
  refine (HC0.out _).mono ?_
  rintro e w2 ⟨rfl, hd⟩
  refine ⟨_, rfl, ?_⟩
  refine hK.out _ _ (OHeld.drawn hHeld hd) (fun hHeld => ?_)
  clear hd
  clear hK K
  refine norm_ (a' := ?_) ?_ ?_
  rotate_left
  · show Act.put _ (some 9) _ = _
    simp only [Act.put, List.setIfInBounds_toArray, List.set_cons_zero, List.set_cons_succ, i64_w, i32_w]
    rfl
  refine one_ (i := 9) (N := some 14) #[true, true, true, true, true, true, true, true, true, true, false, false, false] rfl rfl (by kernel_rfl) (by decide) (fun K hK => ?_)
  refine goes_ Try.func46 (by kernel_rfl) rfl #[.int .u32 x.f1, .int .u32 y.f1] (by rfl) rfl rfl (by (try simp only [List.map_toArray, List.map_cons, List.map_nil]); first | done | rfl) ?_
  refine (HC1.out _).mono ?_
  rintro e w2 ⟨rfl, hd⟩
  refine ⟨_, rfl, ?_⟩
  refine hK.out _ _ (OHeld.drawn hHeld hd) (fun hHeld => ?_)
  clear hd
  clear hK K
  refine norm_ (a' := ?_) ?_ ?_
  rotate_left
  · show Act.put _ (some 14) _ = _
    simp only [Act.put, List.setIfInBounds_toArray, List.set_cons_zero, List.set_cons_succ, i64_w, i32_w]
    rfl
  refine one_ (i := 10) (N := some 15) #[true, true, true, true, true, true, true, true, true, true, true, false, false] rfl rfl (by kernel_rfl) (by decide) (fun K hK => ?_)
  go_simp
  have HGB := Lib.hid (alloc_at w2 (.cells #[.int .i64 a, .int .i64 b] 3))
  refine hK.out _ _ (OHeld.alloc hHeld _) (fun hHeld => ?_)
  clear hK K
  obtain ⟨gb, hgb⟩ : ∃ gb, w2.heap.size = gb := ⟨_, rfl⟩
  rw [hgb] at HGB ⊢
  refine one_ (i := 11) (N := some 16) #[true, true, true, true, true, true, true, true, true, true, true, true, false] rfl rfl (by kernel_rfl) (by decide) (fun K hK => ?_)
  refine goes_ Try.func45 (by kernel_rfl) rfl #[.slice (some ⟨gb, 0, none⟩) 2 2] (by rfl) rfl rfl (by (try simp only [List.map_toArray, List.map_cons, List.map_nil]); first | done | rfl) ?_
  refine (or_calls a b gb _ HGB.out).mono ?_
  rintro e w3 ⟨rfl, hd⟩
  refine ⟨_, rfl, ?_⟩
  refine hK.out _ _ (OHeld.drawn hHeld hd) (fun hHeld => ?_)
  clear hK K
  refine norm_ (a' := ?_) ?_ ?_
  rotate_left
  · show Act.put _ (some 16) _ = _
    simp only [Act.put, List.setIfInBounds_toArray, List.set_cons_zero, List.set_cons_succ, i64_w, i32_w]
    rfl
  refine pure_ (i := 12) (N := some 4) (v := ?_) (a' := ?_) #[true, true, true, true, true, true, true, true, true, true, true, true, true] rfl rfl (by kernel_rfl) (fun _ _ _ h => h) (Or.inl ⟨by rfl, ?_⟩) ?_ ?_
  rotate_left
  · intro w'
    go_simp
    with_reducible rfl
  rotate_left
  · simp only [Act.put, List.setIfInBounds_toArray, List.set_cons_zero, List.set_cons_succ, i64_w, i32_w]
    rfl
  refine done_ (by kernel_rfl) ?_
  have HF := Lib.hid hHeld.2.2
  clear hHeld
  go_wp2
  go_ret
  exact ⟨by rw [HV.out]; rfl, HF.out⟩
end Go.Proofs.Ytecbfpdkbackmaa.Share
