/- Layer share: one less open. -/
import Derived.Test.YtecbfpdkbackmaaShareAdd
namespace Go.Proofs.Ytecbfpdkbackmaa.Share
open Go.RowKit Go.Shelf Go.Blk Go.Proofs.Ytecbfpdkbackmaa.P11 Go.Proofs.YtecbfpdkbackmaaW.PrintWords Go.Proofs.YtecbfpdkbackmaaW.PrintLast Go.Proofs.YtecbfpdkbackmaaW.PrintMore
set_option linter.unusedVariables false
set_option linter.unusedSimpArgs false

def dropF (l : List S27) (o : S27) : List S27 := l.filter (fun x => !(sameB x o))
theorem R_low {w : World} {base b o : Nat} {v : Value} {xs : List S27} (h : Kd.R k27 27 w base (fun _ => True) v xs) (hb : b < base) (u : Value) : Kd.R k27 27 (w.setCell ⟨b, o, none⟩ u) base (fun _ => True) v xs :=
  Kd.R_mono (Kd.R_far (Kd.R_bound h) (p := ⟨b, o, none⟩) (fun k hk => by have := hk.2.1; show k ≠ b; omega) u) (fun _ _ => trivial)

set_option maxHeartbeats 2000000 in
theorem drop_1 (A0 : Option Addr) (c0 : Nat) (l0 : List S27) (c h : Int) (w : World) (hr0 : Kd.C k27 w A0 l0.length l0) (hc0 : l0.length ≤ c0) (hr : rightB l0 = false) :
    Calls Try.prog 21 #[.slice A0 l0.length c0, .int .u32 c, .int .u32 h] w fun e w' => e = .returned (.tuple #[.slice none 0 0, opn z27, .int .i64 1]) ∧ Below w.heap.size w w' := by
  have HC := Lib.hid (fun W h => right_calls A0 c0 l0 W h hc0)
  have HR := Lib.hid hr0
  have BX := Lib.hid (alloc_at w (.cells (cellsOf z27) 27))
  rw [hr] at HC
  clear hr
  clear hr0 hc0
  have hmf : ∀ (fn : Fn) (first cap : Array Value) (w : World), (Instr.makeFunc fn first cap).run Try.prog w = .ok (.func fn first cap) w := fun _ _ _ _ => rfl
  go_enter Try.func21, Try.ntmps21
  go_wp2_with (first | (go_at_call 11; refine (HC.out _ (Kd.C_below HR.out (boxed w _))).mono ?_; rintro e w2 ⟨rfl, hb⟩; have HB2 := Lib.hid ((boxed w _).trans (hb.mono (by simp))); have BX2 := Lib.hid (below_old BX.out hb); have hx := blk5 BX2.out; clear hb))
  refine bodyPost_ret (results_list (rs := [.tmp 6, .cell 7 27, .tmp 8]) rfl (by simp) (.tmp (.cell w.heap.size 27 (cellsOf z27) (0, 0) _ rfl (put5 BX2.out) Try.underlying27 rfl (by kernel_rfl) (.tmp .nil)))) rfl ?_
  exact ⟨rfl, (((((HB2.out.setCell (Nat.le_refl _) _).setCell (Nat.le_refl _) _).setCell (Nat.le_refl _) _).setCell (Nat.le_refl _) _).setCell (Nat.le_refl _) _)⟩

set_option maxHeartbeats 2000000 in
theorem drop_2 (A0 : Option Addr) (c0 : Nat) (l0 : List S27) (c h : Int) (w : World) (hr0 : Kd.C k27 w A0 l0.length l0) (hc0 : l0.length ≤ c0) (hr : rightB l0 = true) (h2 : (found l0 c h).2 = false) :
    Calls Try.prog 21 #[.slice A0 l0.length c0, .int .u32 c, .int .u32 h] w fun e w' => e = .returned (.tuple #[.slice none 0 0, opn z27, .int .i64 14]) ∧ Below w.heap.size w w' := by
  have HC := Lib.hid (fun W h => right_calls A0 c0 l0 W h hc0)
  have HR := Lib.hid hr0
  have BX := Lib.hid (alloc_at w (.cells (cellsOf z27) 27))
  have HF := Lib.hid (fun W h' => find_calls A0 c0 l0 c h W h' hc0 (by have := right_len hr; omega))
  have HL := Lib.hid (right_len hr)
  rw [h2] at HF
  clear h2
  rw [hr] at HC
  clear hr
  clear hr0 hc0
  have hmf : ∀ (fn : Fn) (first cap : Array Value) (w : World), (Instr.makeFunc fn first cap).run Try.prog w = .ok (.func fn first cap) w := fun _ _ _ _ => rfl
  go_enter Try.func21, Try.ntmps21
  go_wp2_with (first | (go_at_call 11; refine (HC.out _ (Kd.C_below HR.out (boxed w _))).mono ?_; rintro e w2 ⟨rfl, hb⟩; have HB2 := Lib.hid ((boxed w _).trans (hb.mono (by simp))); have BX2 := Lib.hid (below_old BX.out hb); have hx := blk5 BX2.out; clear hb) | (go_at_call 12; refine (HF.out _ (Kd.C_below HR.out HB2.out)).mono ?_; rintro e w3 ⟨rfl, hb⟩; have HB3 := Lib.hid (HB2.out.trans (hb.mono HB2.out.size)); have BX3 := Lib.hid (below_old BX2.out hb); clear hx hb; have hx := fun o' => blk5 (alloc_old BX3.out o')))
  refine bodyPost_ret (results_list (rs := [.tmp 6, .cell 7 27, .tmp 8]) rfl (by simp) (.tmp (.cell w.heap.size 27 (cellsOf z27) (0, 0) _ rfl (put5 (alloc_old BX3.out _)) Try.underlying27 rfl (by kernel_rfl) (.tmp .nil)))) rfl ?_
  exact ⟨rfl, ((((((HB3.out.alloc HB3.out.size _).setCell (Nat.le_refl _) _).setCell (Nat.le_refl _) _).setCell (Nat.le_refl _) _).setCell (Nat.le_refl _) _).setCell (Nat.le_refl _) _)⟩

set_option maxHeartbeats 2000000 in
theorem drop_ok (A0 : Option Addr) (c0 : Nat) (l0 : List S27) (c h : Int) (w : World) (hr0 : Kd.C k27 w A0 l0.length l0) (hc0 : l0.length ≤ c0) (hr : rightB l0 = true) (h2 : (found l0 c h).2 = true) :
    Calls Try.prog 21 #[.slice A0 l0.length c0, .int .u32 c, .int .u32 h] w fun e w' => ∃ v0, e = .returned (.tuple #[v0, opn (found l0 c h).1, .int .i64 0]) ∧ Kd.R k27 27 w' w.heap.size (fun _ => True) v0 (dropF l0 (found l0 c h).1) ∧ Below w.heap.size w w' := by
  have HC := Lib.hid (fun W h => right_calls A0 c0 l0 W h hc0)
  have HR := Lib.hid hr0
  have BX := Lib.hid (alloc_at w (.cells (cellsOf z27) 27))
  have HF := Lib.hid (fun W h' => find_calls A0 c0 l0 c h W h' hc0 (by have := right_len hr; omega))
  have HL := Lib.hid (right_len hr)
  rw [h2] at HF
  clear h2
  rw [hr] at HC
  clear hr
  obtain ⟨fo, hfo⟩ : ∃ fo : S27, (found l0 c h).1 = fo := ⟨_, rfl⟩
  rw [hfo] at HF ⊢
  clear hfo
  clear hr0 hc0
  have hmf : ∀ (fn : Fn) (first cap : Array Value) (w : World), (Instr.makeFunc fn first cap).run Try.prog w = .ok (.func fn first cap) w := fun _ _ _ _ => rfl
  go_enter Try.func21, Try.ntmps21
  go_wp2_with (first | (go_at_call 11; refine (HC.out _ (Kd.C_below HR.out (boxed w _))).mono ?_; rintro e w2 ⟨rfl, hb⟩; have HB2 := Lib.hid ((boxed w _).trans (hb.mono (by simp))); have BX2 := Lib.hid (below_old BX.out hb); have hx := blk5 BX2.out; clear hb) | (go_at_call 12; refine (HF.out _ (Kd.C_below HR.out HB2.out)).mono ?_; rintro e w3 ⟨rfl, hb⟩; have HB3 := Lib.hid (HB2.out.trans (hb.mono HB2.out.size)); have BX3 := Lib.hid (below_old BX2.out hb); clear hx hb; have hx := fun o' => blk5 (alloc_old BX3.out o')))
  clear hx
  have HB4 := Lib.hid (HB3.out.alloc HB3.out.size (.cells (cellsOf fo) 27))
  have BX4 := Lib.hid (alloc_old BX3.out (.cells (cellsOf fo) 27))
  have BX9 := Lib.hid (alloc_at w3 (.cells (cellsOf fo) 27))
  have HP := Lib.hid (drop_predF fo w3.heap.size (w3.alloc (.cells (cellsOf fo) 27)) BX9.out)
  have hlt : w.heap.size < (w3.alloc (.cells (cellsOf fo) 27)).heap.size := lt_of BX4.out
  have HLT := Lib.hid hlt
  clear hlt
  have START := Lib.hid (show H5 (w3.alloc (.cells (cellsOf fo) 27)) w3.heap.size fo (w3.alloc (.cells (cellsOf fo) 27)) from by have c := blk5 BX9.out; exact ⟨⟨c.1, c.2.2.1, c.2.2.2.2.1, c.2.2.2.2.2.2.1, c.2.2.2.2.2.2.2.2.1⟩, Below.refl _ _⟩)
  refine start_ (n := 8) (S := (fun w' => (w'.cell? ⟨w3.heap.size, 0, none⟩ = some (.int .u32 fo.f0) ∧ w'.cell? ⟨w3.heap.size, 1, none⟩ = some (.int .u32 fo.f1) ∧ w'.cell? ⟨w3.heap.size, 2, none⟩ = some (.int .u32 fo.f2) ∧ w'.cell? ⟨w3.heap.size, 3, none⟩ = some (.int .u32 fo.f3) ∧ w'.cell? ⟨w3.heap.size, 4, none⟩ = some (.int .u32 fo.f4)) ∧ Below (w3.alloc (.cells (cellsOf fo) 27)).heap.size (w3.alloc (.cells (cellsOf fo) 27)) w')) (ds := [6, 7]) #[false, false, false, false, false, false, false, false] (by kernel_rfl) rfl rfl (H5.drew START.out) (fun hHeld => ?_)
  refine pure_ (i := 0) (N := some 25) (v := ?_) (a' := ?_) #[true, false, false, false, false, false, false, false] rfl rfl (by kernel_rfl) (fun _ _ _ h => h) (Or.inl ⟨by rfl, ?_⟩) ?_ ?_
  rotate_left
  · intro w'
    go_simp
    with_reducible rfl
  rotate_left
  · simp only [Act.put, List.setIfInBounds_toArray, List.set_cons_zero, List.set_cons_succ, i64_w, i32_w]
    rfl
  refine pure_ (i := 2) (N := some 27) (v := ?_) (a' := ?_) #[true, false, true, false, false, false, false, false] rfl rfl (by kernel_rfl) (fun _ _ _ h => h) (Or.inl ⟨by rfl, ?_⟩) ?_ ?_
  rotate_left
  · intro w'
    go_simp
    with_reducible rfl
  rotate_left
  · simp only [Act.put, List.setIfInBounds_toArray, List.set_cons_zero, List.set_cons_succ, i64_w, i32_w]
    rfl
  refine take_ (i := 4) (N := some 29) (v := ?_) (a' := ?_) #[true, false, true, false, true, false, false, false] rfl rfl (by kernel_rfl) (fun _ _ _ h => h) (Or.inl ⟨by rfl, ?_⟩) hHeld ?_ ?_
  rotate_left
  · rintro w' ⟨⟨s0, s1, s2, s3, s4⟩, s10⟩
    go_simp
    with_reducible rfl
  rotate_left
  · simp only [Act.put, List.setIfInBounds_toArray, List.set_cons_zero, List.set_cons_succ, i64_w, i32_w]
    rfl
  refine one_ (i := 1) (N := some 26) #[true, true, true, false, true, false, false, false] rfl rfl (by kernel_rfl) (by decide) (fun K hK => ?_)
  refine goes_ Try.func39 (by kernel_rfl) rfl #[.slice A0 l0.length c0] (by rfl) rfl rfl (by (try simp only [List.map_toArray, List.map_cons, List.map_nil]); first | done | rfl) ?_
  refine (clone_calls A0 c0 l0 _ (Kd.C_below HR.out (HB4.out.trans (hHeld.2.mono HB4.out.size))) (by have := HL.out; omega)).mono ?_
  rintro e w6 ⟨v, rfl, ho, hb⟩
  refine ⟨_, rfl, ?_⟩
  have HO6 := Lib.hid (Kd.R_lower ho hHeld.2.size)
  refine hK.out _ _ (H5.kept hb hHeld) (fun hHeld => ?_)
  clear ho hb
  clear hK K
  refine norm_ (a' := ?_) ?_ ?_
  rotate_left
  · show Act.put _ (some 26) _ = _
    simp only [Act.put, List.setIfInBounds_toArray, List.set_cons_zero, List.set_cons_succ, i64_w, i32_w]
    rfl
  refine one_ (i := 3) (N := some 28) #[true, true, true, true, true, false, false, false] rfl rfl (by kernel_rfl) (by decide) (fun K hK => ?_)
  refine goes_ Try.func41 (by kernel_rfl) rfl #[v, .func (.func 42) #[] #[.pointer (some ⟨w3.heap.size, 0, none⟩)]] (by rfl) rfl rfl (by (try simp only [List.map_toArray, List.map_cons, List.map_nil]); first | done | rfl) ?_
  refine (delete_calls (w3.alloc (.cells (cellsOf fo) 27)) _ _ l0 _ _ _ hHeld.2 HO6.out (by have := HL.out; omega) (enters_of Try.func42 (by kernel_rfl) rfl) HP.out).mono ?_
  rintro e w7 ⟨v', rfl, ho, hb⟩
  refine ⟨_, rfl, ?_⟩
  have HO7 := Lib.hid ho
  have HB7 := Lib.hid hb
  have BX7 := Lib.hid (below_old BX4.out hb)
  refine hK.out _ _ (by have c := blk5 (below_old BX9.out hb); exact ⟨⟨c.1, c.2.2.1, c.2.2.2.2.1, c.2.2.2.2.2.2.1, c.2.2.2.2.2.2.2.2.1⟩, hb⟩) (fun hHeld => ?_)
  clear ho hb
  clear hK K
  refine norm_ (a' := ?_) ?_ ?_
  rotate_left
  · show Act.put _ (some 28) _ = _
    simp only [Act.put, List.setIfInBounds_toArray, List.set_cons_zero, List.set_cons_succ, i64_w, i32_w]
    rfl
  refine pure_ (i := 5) (N := some 6) (v := ?_) (a' := ?_) #[true, true, true, true, true, true, false, false] rfl rfl (by kernel_rfl) (fun _ _ _ h => h) (Or.inl ⟨by rfl, ?_⟩) ?_ ?_
  rotate_left
  · intro w'
    go_simp
    with_reducible rfl
  rotate_left
  · simp only [Act.put, List.setIfInBounds_toArray, List.set_cons_zero, List.set_cons_succ, i64_w, i32_w]
    rfl
  have hx := blk5 BX7.out
  have HF7 := Lib.hid (show H5 (w3.alloc (.cells (cellsOf fo) 27)) w3.heap.size fo w7 from hHeld)
  clear hHeld
  refine last_ (i := 6) (N := none) #[true, true, true, true, true, true, true, false] rfl rfl (by kernel_rfl) (by decide) (fun K hK => ?_)
  go_simp
  refine hK.out _ _ ?_
  clear hK K
  refine pure_ (i := 7) (N := some 8) (v := ?_) (a' := ?_) #[true, true, true, true, true, true, true, true] rfl rfl (by kernel_rfl) (fun _ _ _ h => h) (Or.inl ⟨by rfl, ?_⟩) ?_ ?_
  rotate_left
  · intro w'
    go_simp
    with_reducible rfl
  rotate_left
  · simp only [Act.put, List.setIfInBounds_toArray, List.set_cons_zero, List.set_cons_succ, i64_w, i32_w]
    rfl
  refine done_ (by kernel_rfl) ?_
  clear hx
  go_wp2
  refine bodyPost_ret (results_list (rs := [.tmp 6, .cell 7 27, .tmp 8]) rfl (by simp) (.tmp (.cell w.heap.size 27 (cellsOf fo) (0, 0) _ rfl (put5 BX7.out) Try.underlying27 rfl (by kernel_rfl) (.tmp .nil)))) rfl ?_
  exact ⟨_, rfl, Kd.R_lower (R_low (R_low (R_low (R_low (R_low HO7.out HLT.out _) HLT.out _) HLT.out _) HLT.out _) HLT.out _) (Nat.le_of_lt HLT.out), ((((((HB4.out.trans (HB7.out.mono HB4.out.size)).setCell (Nat.le_refl _) _).setCell (Nat.le_refl _) _).setCell (Nat.le_refl _) _).setCell (Nat.le_refl _) _).setCell (Nat.le_refl _) _)⟩
end Go.Proofs.Ytecbfpdkbackmaa.Share
