/- Layer share: may a list be? By a contract over what the list reads as. -/
import Derived.Test.YtecbfpdkbackmaaShareClash
namespace Go.Proofs.Ytecbfpdkbackmaa.Share
open Go.RowKit Go.Shelf Go.Blk Go.Proofs.Ytecbfpdkbackmaa.P11 Go.Proofs.YtecbfpdkbackmaaW.PrintWords Go.Proofs.YtecbfpdkbackmaaW.PrintLast Go.Proofs.YtecbfpdkbackmaaW.PrintMore
set_option linter.unusedVariables false
set_option linter.unusedSimpArgs false

/-- may the open at a place be? -/
def rightAt (l : List S27) (i : Nat) : Bool :=
  oneB (rd_T27 l i) && decide (l.countP (fun x => x.f0 == (rd_T27 l i).f0) ≤ 4) && (decide (i = 0) || decide (cmpB (rd_T27 l ((i : Int) - 1)) (rd_T27 l i) < 0)) && !((l.take i).any (fun x => clashB x (rd_T27 l i)))
def rightB (l : List S27) : Bool := decide (l.length ≤ 12) && (List.range l.length).all (rightAt l)

theorem kept {w w1 : World} {p : Addr} {v : Value} (hb : Below w.heap.size w w1) (h : w.cell? p = some v) : w1.cell? p = some v := by
  obtain ⟨b, o, e⟩ := p
  exact (hb.cell (p := ⟨b, o, e⟩) (World.block_lt_of_cell? w _ h)).trans h
theorem ud {w w2 : World} (h : Below w.drew.heap.size w.drew w2) : Below w.heap.size w w2 := ⟨h.os, h.tape, h.output, h.size, h.block⟩

/-- the cells that a round reads -/
abbrev H5 (w : World) (B : Nat) (o : S27) (w' : World) : Prop := (w'.cell? ⟨B, 0, none⟩ = some (.int .u32 o.f0) ∧ w'.cell? ⟨B, 1, none⟩ = some (.int .u32 o.f1) ∧ w'.cell? ⟨B, 2, none⟩ = some (.int .u32 o.f2) ∧ w'.cell? ⟨B, 3, none⟩ = some (.int .u32 o.f3) ∧ w'.cell? ⟨B, 4, none⟩ = some (.int .u32 o.f4)) ∧ Below w.heap.size w w'
abbrev H10 (w : World) (B : Nat) (o : S27) (q : Addr) (x : S27) (w' : World) : Prop := (w'.cell? ⟨B, 0, none⟩ = some (.int .u32 o.f0) ∧ w'.cell? ⟨B, 1, none⟩ = some (.int .u32 o.f1) ∧ w'.cell? ⟨B, 2, none⟩ = some (.int .u32 o.f2) ∧ w'.cell? ⟨B, 3, none⟩ = some (.int .u32 o.f3) ∧ w'.cell? ⟨B, 4, none⟩ = some (.int .u32 o.f4)) ∧ (w'.cell? q = some (.int .u32 x.f0) ∧ w'.cell? ⟨q.block, q.off + 1, none⟩ = some (.int .u32 x.f1) ∧ w'.cell? ⟨q.block, q.off + 2, none⟩ = some (.int .u32 x.f2) ∧ w'.cell? ⟨q.block, q.off + 3, none⟩ = some (.int .u32 x.f3) ∧ w'.cell? ⟨q.block, q.off + 4, none⟩ = some (.int .u32 x.f4)) ∧ Below w.heap.size w w'
theorem H5.kept {w w1 w2 : World} {B : Nat} {o : S27} (hb : Below w1.heap.size w1 w2) (h : H5 w B o w1) : H5 w B o w2 := by
  obtain ⟨⟨a0, a1, a2, a3, a4⟩, b⟩ := h
  exact ⟨⟨Share.kept hb a0, Share.kept hb a1, Share.kept hb a2, Share.kept hb a3, Share.kept hb a4⟩, b.trans (hb.mono b.size)⟩
theorem H10.kept {w w1 w2 : World} {B : Nat} {o : S27} {q : Addr} {x : S27} (hb : Below w1.heap.size w1 w2) (h : H10 w B o q x w1) : H10 w B o q x w2 := by
  obtain ⟨⟨a0, a1, a2, a3, a4⟩, ⟨c0, c1, c2, c3, c4⟩, b⟩ := h
  exact ⟨⟨Share.kept hb a0, Share.kept hb a1, Share.kept hb a2, Share.kept hb a3, Share.kept hb a4⟩, ⟨Share.kept hb c0, Share.kept hb c1, Share.kept hb c2, Share.kept hb c3, Share.kept hb c4⟩, b.trans (hb.mono b.size)⟩
theorem H5.below {w w1 : World} {B : Nat} {o : S27} (h : H5 w B o w1) : Below w.heap.size w w1 := h.2
theorem H10.below {w w1 : World} {B : Nat} {o : S27} {q : Addr} {x : S27} (h : H10 w B o q x w1) : Below w.heap.size w w1 := h.2.2
theorem H5.drew {w w1 : World} {B : Nat} {o : S27} (h : H5 w B o w1) : H5 w B o w1.drew := ⟨h.1, h.2.drew⟩
theorem H10.drew {w w1 : World} {B : Nat} {o : S27} {q : Addr} {x : S27} (h : H10 w B o q x w1) : H10 w B o q x w1.drew := ⟨h.1, h.2.1, h.2.2.drew⟩

theorem right_no (l : List S27) (i : Nat) (hi : i < l.length) (h : rightAt l i = false) : rightB l = false := by
  unfold rightB
  have : (List.range l.length).all (rightAt l) = false := by
    rw [List.all_eq_false]
    exact ⟨i, List.mem_range.2 hi, by simp [h]⟩
  rw [this]; simp
theorem right_yes (l : List S27) (hl : l.length ≤ 12) (h : ∀ j : Nat, j < l.length → rightAt l j = true) : rightB l = true := by
  unfold rightB
  rw [decide_eq_true hl, List.all_eq_true.2 (fun j hj => h j (List.mem_range.1 hj))]; rfl

set_option maxHeartbeats 4000000 in
theorem right_calls (A0 : Option Addr) (c0 : Nat) (l0 : List S27) (w : World) (hr0 : Kd.C k27 w A0 l0.length l0) (hc0 : l0.length ≤ c0) :
    Calls Try.prog 11 #[.slice A0 l0.length c0] w fun e w' => e = .returned (.bool (rightB l0)) ∧ Below w.heap.size w w' := by
  have HR := Lib.hid hr0
  have HC0 := Lib.hid hc0
  clear hr0 hc0
  have hu27 := Try.underlying27
  by_cases hlen : 12 < l0.length
  · have HL := Lib.hid hlen
    have hq : decide ((l0.length : Int) > 12) = true := decide_eq_true (by omega)
    clear hlen
    go_enter Try.func11, Try.ntmps11
    go_wp2
    go_ret
    exact ⟨by have := HL.out; simp [rightB]; omega, Below.refl _ _⟩
  · have hq : decide ((l0.length : Int) > 12) = false := decide_eq_false (by omega)
    have HL := Lib.hid (show l0.length ≤ 12 by omega)
    clear hlen
    go_enter Try.func11, Try.ntmps11
    go_wp2
    go_loopg [10] l0.length (fun gg s10 wr => ∃ kk : Nat, kk ≤ l0.length ∧ l0.length - kk ≤ gg ∧ s10 = .int .i64 kk ∧ Hid (Below w.heap.size w wr) ∧ Hid (∀ j : Nat, j < kk → rightAt l0 j = true))
    case atStart => exact ⟨0, Nat.zero_le _, by omega, by simp, Lib.hid (Below.refl _ w), Lib.hid (fun j hj => absurd hj (Nat.not_lt_zero _))⟩
    case round =>
      obtain ⟨kk, hkk, hg, rfl, HB, HN⟩ := hrel
      by_cases hlt : kk < l0.length
      · have hltz : decide ((kk : Int) < (l0.length : Int)) = true := decide_eq_true (by omega)
        obtain ⟨ad, rfl, h0, h1, h2, h3, h4⟩ := at_T27 HR.out kk (by omega) (by omega)
        simp only [Int.toNat_natCast] at h0 h1 h2 h3 h4
        replace h0 := kept HB.out h0
        replace h1 := kept HB.out h1
        replace h2 := kept HB.out h2
        replace h3 := kept HB.out h3
        replace h4 := kept HB.out h4
        have hq0 : (0 ≤ (kk : Int)) = True := eq_true (by omega)
        have hq1 : ((kk : Int) < (l0.length : Int)) = True := eq_true (by omega)
        have hq8 : ((kk : Int) ≤ (c0 : Int)) = True := eq_true (by have := HC0.out; omega)
        have hq9 : (kk ≤ c0) = True := eq_true (by have := HC0.out; omega)
        have HC1 := Lib.hid (fun W => one_calls (rd_T27 l0 kk) W)
        have HC2 := Lib.hid (fun W hW => mine_calls (some ad) c0 l0 (rd_T27 l0 kk).f0 W hW (by have := HL.out; omega))
        have HR1 := Lib.hid (Kd.C_below HR.out (HB.out.alloc HB.out.size (.cells (cellsOf (rd_T27 l0 kk)) 27)))
        have CC := Lib.hid (show (wr.alloc (.cells (cellsOf (rd_T27 l0 kk)) 27)).cell? ⟨wr.heap.size, 0, none⟩ = some (.int .u32 (rd_T27 l0 kk).f0) ∧ (wr.alloc (.cells (cellsOf (rd_T27 l0 kk)) 27)).cell? ⟨wr.heap.size, 1, none⟩ = some (.int .u32 (rd_T27 l0 kk).f1) ∧ (wr.alloc (.cells (cellsOf (rd_T27 l0 kk)) 27)).cell? ⟨wr.heap.size, 2, none⟩ = some (.int .u32 (rd_T27 l0 kk).f2) ∧ (wr.alloc (.cells (cellsOf (rd_T27 l0 kk)) 27)).cell? ⟨wr.heap.size, 3, none⟩ = some (.int .u32 (rd_T27 l0 kk).f3) ∧ (wr.alloc (.cells (cellsOf (rd_T27 l0 kk)) 27)).cell? ⟨wr.heap.size, 4, none⟩ = some (.int .u32 (rd_T27 l0 kk).f4) by
          have c := blk5 (alloc_at wr (.cells (cellsOf (rd_T27 l0 kk)) 27)); exact ⟨c.1, c.2.2.1, c.2.2.2.2.1, c.2.2.2.2.2.2.1, c.2.2.2.2.2.2.2.2.1⟩)
        cases hone : oneB (rd_T27 l0 kk) with
        | false =>
          have HONE := Lib.hid hone
          rw [hone] at HC1
          clear hone
          go_wp2_with fail
          have START := Lib.hid (show H5 (wr.alloc (.cells (cellsOf (rd_T27 l0 kk)) 27)) wr.heap.size (rd_T27 l0 kk) (wr.alloc (.cells (cellsOf (rd_T27 l0 kk)) 27)) from ⟨CC.out, Below.refl _ _⟩)
          refine start_ (n := 24) (S := (fun w' => (w'.cell? ⟨wr.heap.size, 0, none⟩ = some (.int .u32 (rd_T27 l0 kk).f0) ∧ w'.cell? ⟨wr.heap.size, 1, none⟩ = some (.int .u32 (rd_T27 l0 kk).f1) ∧ w'.cell? ⟨wr.heap.size, 2, none⟩ = some (.int .u32 (rd_T27 l0 kk).f2) ∧ w'.cell? ⟨wr.heap.size, 3, none⟩ = some (.int .u32 (rd_T27 l0 kk).f3) ∧ w'.cell? ⟨wr.heap.size, 4, none⟩ = some (.int .u32 (rd_T27 l0 kk).f4)) ∧ Below (wr.alloc (.cells (cellsOf (rd_T27 l0 kk)) 27)).heap.size (wr.alloc (.cells (cellsOf (rd_T27 l0 kk)) 27)) w')) (ds := []) #[false, false, false, false, false, false, false, false, false, false, false, false, false, false, false, false, false, false, false, false, false, false, false, false] (by kernel_rfl) rfl rfl (H5.drew START.out) (fun hHeld => ?_)
          refine take_ (i := 0) (N := some 15) (v := ?_) (a' := ?_) #[true, false, false, false, false, false, false, false, false, false, false, false, false, false, false, false, false, false, false, false, false, false, false, false] rfl rfl (by kernel_rfl) (fun _ _ _ h => h) (Or.inl ⟨by rfl, ?_⟩) hHeld ?_ ?_
          rotate_left
          · rintro w' ⟨⟨s0, s1, s2, s3, s4⟩, s10⟩
            go_simp
            with_reducible rfl
          rotate_left
          · simp only [Act.put, List.setIfInBounds_toArray, List.set_cons_zero, List.set_cons_succ, i64_w, i32_w]
            rfl
          refine one_ (i := 1) (N := some 16) #[true, true, false, false, false, false, false, false, false, false, false, false, false, false, false, false, false, false, false, false, false, false, false, false] rfl rfl (by kernel_rfl) (by decide) (fun K hK => ?_)
          refine goes_ Try.func25 (by kernel_rfl) rfl #[.agg #[.int .u32 (rd_T27 l0 kk).f0, .int .u32 (rd_T27 l0 kk).f1, .int .u32 (rd_T27 l0 kk).f2, .int .u32 (rd_T27 l0 kk).f3, .int .u32 (rd_T27 l0 kk).f4]] (by rfl) rfl rfl (by (try simp only [List.map_toArray, List.map_cons, List.map_nil]); first | done | rfl) ?_
          refine (HC1.out _).mono ?_
          rintro e w2 ⟨rfl, hb⟩
          refine ⟨_, rfl, ?_⟩
          refine hK.out _ _ (H5.kept hb hHeld) (fun hHeld => ?_)
          clear hK K
          refine norm_ (a' := ?_) ?_ ?_
          rotate_left
          · show Act.put _ (some 16) _ = _
            simp only [Act.put, List.setIfInBounds_toArray, List.set_cons_zero, List.set_cons_succ, i64_w, i32_w]
            rfl
          refine pure_ (i := 2) (N := some 17) (v := ?_) (a' := ?_) #[true, true, true, false, false, false, false, false, false, false, false, false, false, false, false, false, false, false, false, false, false, false, false, false] rfl rfl (by kernel_rfl) (fun _ _ _ h => h) (Or.inl ⟨by rfl, ?_⟩) ?_ ?_
          rotate_left
          · intro w'
            go_simp
            with_reducible rfl
          rotate_left
          · simp only [Act.put, List.setIfInBounds_toArray, List.set_cons_zero, List.set_cons_succ, i64_w, i32_w]
            rfl
          refine pure_ (i := 3) (N := some 18) (v := ?_) (a' := ?_) #[true, true, true, true, false, false, false, false, false, false, false, false, false, false, false, false, false, false, false, false, false, false, false, false] rfl rfl (by kernel_rfl) (fun _ _ _ h => h) (Or.inl ⟨by rfl, ?_⟩) ?_ ?_
          rotate_left
          · intro w'
            go_simp
            with_reducible rfl
          rotate_left
          · simp only [Act.put, List.setIfInBounds_toArray, List.set_cons_zero, List.set_cons_succ, i64_w, i32_w]
            rfl
          refine pure_ (i := 4) (N := some 19) (v := undef) (a' := ?_) #[true, true, true, true, true, false, false, false, false, false, false, false, false, false, false, false, false, false, false, false, false, false, false, false] rfl rfl (by kernel_rfl) (fun _ _ _ h => h) (Or.inr ⟨by rfl, rfl⟩) ?_ ?_
          rotate_left
          · simp only [Act.put, List.setIfInBounds_toArray, List.set_cons_zero, List.set_cons_succ, i64_w, i32_w]
            rfl
          refine pure_ (i := 5) (N := some 20) (v := undef) (a' := ?_) #[true, true, true, true, true, true, false, false, false, false, false, false, false, false, false, false, false, false, false, false, false, false, false, false] rfl rfl (by kernel_rfl) (fun _ _ _ h => h) (Or.inr ⟨by rfl, rfl⟩) ?_ ?_
          rotate_left
          · simp only [Act.put, List.setIfInBounds_toArray, List.set_cons_zero, List.set_cons_succ, i64_w, i32_w]
            rfl
          refine pure_ (i := 6) (N := some 21) (v := undef) (a' := ?_) #[true, true, true, true, true, true, true, false, false, false, false, false, false, false, false, false, false, false, false, false, false, false, false, false] rfl rfl (by kernel_rfl) (fun _ _ _ h => h) (Or.inr ⟨by rfl, rfl⟩) ?_ ?_
          rotate_left
          · simp only [Act.put, List.setIfInBounds_toArray, List.set_cons_zero, List.set_cons_succ, i64_w, i32_w]
            rfl
          refine pure_ (i := 7) (N := some 22) (v := undef) (a' := ?_) #[true, true, true, true, true, true, true, true, false, false, false, false, false, false, false, false, false, false, false, false, false, false, false, false] rfl rfl (by kernel_rfl) (fun _ _ _ h => h) (Or.inr ⟨by rfl, rfl⟩) ?_ ?_
          rotate_left
          · simp only [Act.put, List.setIfInBounds_toArray, List.set_cons_zero, List.set_cons_succ, i64_w, i32_w]
            rfl
          refine pure_ (i := 8) (N := some 23) (v := undef) (a' := ?_) #[true, true, true, true, true, true, true, true, true, false, false, false, false, false, false, false, false, false, false, false, false, false, false, false] rfl rfl (by kernel_rfl) (fun _ _ _ h => h) (Or.inr ⟨by rfl, rfl⟩) ?_ ?_
          rotate_left
          · simp only [Act.put, List.setIfInBounds_toArray, List.set_cons_zero, List.set_cons_succ, i64_w, i32_w]
            rfl
          refine pure_ (i := 9) (N := some 24) (v := ?_) (a' := ?_) #[true, true, true, true, true, true, true, true, true, true, false, false, false, false, false, false, false, false, false, false, false, false, false, false] rfl rfl (by kernel_rfl) (fun _ _ _ h => h) (Or.inl ⟨by rfl, ?_⟩) ?_ ?_
          rotate_left
          · intro w'
            go_simp
            with_reducible rfl
          rotate_left
          · simp only [Act.put, List.setIfInBounds_toArray, List.set_cons_zero, List.set_cons_succ, i64_w, i32_w]
            rfl
          refine pure_ (i := 10) (N := some 25) (v := ?_) (a' := ?_) #[true, true, true, true, true, true, true, true, true, true, true, false, false, false, false, false, false, false, false, false, false, false, false, false] rfl rfl (by kernel_rfl) (fun _ _ _ h => h) (Or.inl ⟨by rfl, ?_⟩) ?_ ?_
          rotate_left
          · intro w'
            go_simp
            with_reducible rfl
          rotate_left
          · simp only [Act.put, List.setIfInBounds_toArray, List.set_cons_zero, List.set_cons_succ, i64_w, i32_w]
            rfl
          refine pure_ (i := 11) (N := some 26) (v := undef) (a' := ?_) #[true, true, true, true, true, true, true, true, true, true, true, true, false, false, false, false, false, false, false, false, false, false, false, false] rfl rfl (by kernel_rfl) (fun _ _ _ h => h) (Or.inr ⟨by rfl, rfl⟩) ?_ ?_
          rotate_left
          · simp only [Act.put, List.setIfInBounds_toArray, List.set_cons_zero, List.set_cons_succ, i64_w, i32_w]
            rfl
          refine pure_ (i := 12) (N := some 27) (v := undef) (a' := ?_) #[true, true, true, true, true, true, true, true, true, true, true, true, true, false, false, false, false, false, false, false, false, false, false, false] rfl rfl (by kernel_rfl) (fun _ _ _ h => h) (Or.inr ⟨by rfl, rfl⟩) ?_ ?_
          rotate_left
          · simp only [Act.put, List.setIfInBounds_toArray, List.set_cons_zero, List.set_cons_succ, i64_w, i32_w]
            rfl
          refine pure_ (i := 13) (N := some 28) (v := undef) (a' := ?_) #[true, true, true, true, true, true, true, true, true, true, true, true, true, true, false, false, false, false, false, false, false, false, false, false] rfl rfl (by kernel_rfl) (fun _ _ _ h => h) (Or.inr ⟨by rfl, rfl⟩) ?_ ?_
          rotate_left
          · simp only [Act.put, List.setIfInBounds_toArray, List.set_cons_zero, List.set_cons_succ, i64_w, i32_w]
            rfl
          refine pure_ (i := 14) (N := some 29) (v := undef) (a' := ?_) #[true, true, true, true, true, true, true, true, true, true, true, true, true, true, true, false, false, false, false, false, false, false, false, false] rfl rfl (by kernel_rfl) (fun _ _ _ h => h) (Or.inr ⟨by rfl, rfl⟩) ?_ ?_
          rotate_left
          · simp only [Act.put, List.setIfInBounds_toArray, List.set_cons_zero, List.set_cons_succ, i64_w, i32_w]
            rfl
          refine pure_ (i := 15) (N := some 30) (v := undef) (a' := ?_) #[true, true, true, true, true, true, true, true, true, true, true, true, true, true, true, true, false, false, false, false, false, false, false, false] rfl rfl (by kernel_rfl) (fun _ _ _ h => h) (Or.inr ⟨by rfl, rfl⟩) ?_ ?_
          rotate_left
          · simp only [Act.put, List.setIfInBounds_toArray, List.set_cons_zero, List.set_cons_succ, i64_w, i32_w]
            rfl
          refine pure_ (i := 16) (N := some 31) (v := undef) (a' := ?_) #[true, true, true, true, true, true, true, true, true, true, true, true, true, true, true, true, true, false, false, false, false, false, false, false] rfl rfl (by kernel_rfl) (fun _ _ _ h => h) (Or.inr ⟨by rfl, rfl⟩) ?_ ?_
          rotate_left
          · simp only [Act.put, List.setIfInBounds_toArray, List.set_cons_zero, List.set_cons_succ, i64_w, i32_w]
            rfl
          refine pure_ (i := 17) (N := some 32) (v := undef) (a' := ?_) #[true, true, true, true, true, true, true, true, true, true, true, true, true, true, true, true, true, true, false, false, false, false, false, false] rfl rfl (by kernel_rfl) (fun _ _ _ h => h) (Or.inr ⟨by rfl, rfl⟩) ?_ ?_
          rotate_left
          · simp only [Act.put, List.setIfInBounds_toArray, List.set_cons_zero, List.set_cons_succ, i64_w, i32_w]
            rfl
          refine pure_ (i := 18) (N := some 33) (v := undef) (a' := ?_) #[true, true, true, true, true, true, true, true, true, true, true, true, true, true, true, true, true, true, true, false, false, false, false, false] rfl rfl (by kernel_rfl) (fun _ _ _ h => h) (Or.inr ⟨by rfl, rfl⟩) ?_ ?_
          rotate_left
          · simp only [Act.put, List.setIfInBounds_toArray, List.set_cons_zero, List.set_cons_succ, i64_w, i32_w]
            rfl
          refine pure_ (i := 19) (N := some 34) (v := undef) (a' := ?_) #[true, true, true, true, true, true, true, true, true, true, true, true, true, true, true, true, true, true, true, true, false, false, false, false] rfl rfl (by kernel_rfl) (fun _ _ _ h => h) (Or.inr ⟨by rfl, rfl⟩) ?_ ?_
          rotate_left
          · simp only [Act.put, List.setIfInBounds_toArray, List.set_cons_zero, List.set_cons_succ, i64_w, i32_w]
            rfl
          refine pure_ (i := 20) (N := some 35) (v := undef) (a' := ?_) #[true, true, true, true, true, true, true, true, true, true, true, true, true, true, true, true, true, true, true, true, true, false, false, false] rfl rfl (by kernel_rfl) (fun _ _ _ h => h) (Or.inr ⟨by rfl, rfl⟩) ?_ ?_
          rotate_left
          · simp only [Act.put, List.setIfInBounds_toArray, List.set_cons_zero, List.set_cons_succ, i64_w, i32_w]
            rfl
          refine pure_ (i := 21) (N := some 36) (v := undef) (a' := ?_) #[true, true, true, true, true, true, true, true, true, true, true, true, true, true, true, true, true, true, true, true, true, true, false, false] rfl rfl (by kernel_rfl) (fun _ _ _ h => h) (Or.inr ⟨by rfl, rfl⟩) ?_ ?_
          rotate_left
          · simp only [Act.put, List.setIfInBounds_toArray, List.set_cons_zero, List.set_cons_succ, i64_w, i32_w]
            rfl
          refine pure_ (i := 22) (N := some 37) (v := undef) (a' := ?_) #[true, true, true, true, true, true, true, true, true, true, true, true, true, true, true, true, true, true, true, true, true, true, true, false] rfl rfl (by kernel_rfl) (fun _ _ _ h => h) (Or.inr ⟨by rfl, rfl⟩) ?_ ?_
          rotate_left
          · simp only [Act.put, List.setIfInBounds_toArray, List.set_cons_zero, List.set_cons_succ, i64_w, i32_w]
            rfl
          refine pure_ (i := 23) (N := some 38) (v := ?_) (a' := ?_) #[true, true, true, true, true, true, true, true, true, true, true, true, true, true, true, true, true, true, true, true, true, true, true, true] rfl rfl (by kernel_rfl) (fun _ _ _ h => h) (Or.inl ⟨by rfl, ?_⟩) ?_ ?_
          rotate_left
          · intro w'
            go_simp
            with_reducible rfl
          rotate_left
          · simp only [Act.put, List.setIfInBounds_toArray, List.set_cons_zero, List.set_cons_succ, i64_w, i32_w]
            rfl
          refine done_ (by kernel_rfl) ?_
          have HS := Lib.hid (show H5 (wr.alloc (.cells (cellsOf (rd_T27 l0 kk)) 27)) wr.heap.size (rd_T27 l0 kk) w2 from hHeld)
          have HB2 : Hid (Below w.heap.size w w2) := Lib.hid ((HB.out.alloc HB.out.size _).trans (HS.out.below.mono (by have := HB.out.size; simp; omega)))
          clear hHeld
          go_wp2
          go_ret
          exact ⟨by rw [right_no l0 kk hlt (by unfold rightAt; rw [HONE.out]; rfl)]; rfl, HB2.out⟩
        | true =>
          have HONE := Lib.hid hone
          rw [hone] at HC1
          clear hone
          obtain ⟨cn, hcn⟩ : ∃ cn : Int, (((l0.countP (fun x => x.f0 == (rd_T27 l0 kk).f0) : Nat) : Int)) = cn := ⟨_, rfl⟩
          have HCN := Lib.hid hcn
          rw [hcn] at HC2
          clear hcn
          by_cases hmn : cn > 4
          · have HM : Hid (decide (l0.countP (fun x => x.f0 == (rd_T27 l0 kk).f0) ≤ 4) = false) := Lib.hid (decide_eq_false (by have := HCN.out; omega))
            have hmd : decide (cn > 4) = true := decide_eq_true hmn
            clear hmn
            go_wp2_with fail
            have START := Lib.hid (show H5 (wr.alloc (.cells (cellsOf (rd_T27 l0 kk)) 27)) wr.heap.size (rd_T27 l0 kk) (wr.alloc (.cells (cellsOf (rd_T27 l0 kk)) 27)) from ⟨CC.out, Below.refl _ _⟩)
            refine start_ (n := 24) (S := (fun w' => (w'.cell? ⟨wr.heap.size, 0, none⟩ = some (.int .u32 (rd_T27 l0 kk).f0) ∧ w'.cell? ⟨wr.heap.size, 1, none⟩ = some (.int .u32 (rd_T27 l0 kk).f1) ∧ w'.cell? ⟨wr.heap.size, 2, none⟩ = some (.int .u32 (rd_T27 l0 kk).f2) ∧ w'.cell? ⟨wr.heap.size, 3, none⟩ = some (.int .u32 (rd_T27 l0 kk).f3) ∧ w'.cell? ⟨wr.heap.size, 4, none⟩ = some (.int .u32 (rd_T27 l0 kk).f4)) ∧ Below (wr.alloc (.cells (cellsOf (rd_T27 l0 kk)) 27)).heap.size (wr.alloc (.cells (cellsOf (rd_T27 l0 kk)) 27)) w')) (ds := []) #[false, false, false, false, false, false, false, false, false, false, false, false, false, false, false, false, false, false, false, false, false, false, false, false] (by kernel_rfl) rfl rfl (H5.drew START.out) (fun hHeld => ?_)
            refine take_ (i := 0) (N := some 15) (v := ?_) (a' := ?_) #[true, false, false, false, false, false, false, false, false, false, false, false, false, false, false, false, false, false, false, false, false, false, false, false] rfl rfl (by kernel_rfl) (fun _ _ _ h => h) (Or.inl ⟨by rfl, ?_⟩) hHeld ?_ ?_
            rotate_left
            · rintro w' ⟨⟨s0, s1, s2, s3, s4⟩, s10⟩
              go_simp
              with_reducible rfl
            rotate_left
            · simp only [Act.put, List.setIfInBounds_toArray, List.set_cons_zero, List.set_cons_succ, i64_w, i32_w]
              rfl
            refine one_ (i := 1) (N := some 16) #[true, true, false, false, false, false, false, false, false, false, false, false, false, false, false, false, false, false, false, false, false, false, false, false] rfl rfl (by kernel_rfl) (by decide) (fun K hK => ?_)
            refine goes_ Try.func25 (by kernel_rfl) rfl #[.agg #[.int .u32 (rd_T27 l0 kk).f0, .int .u32 (rd_T27 l0 kk).f1, .int .u32 (rd_T27 l0 kk).f2, .int .u32 (rd_T27 l0 kk).f3, .int .u32 (rd_T27 l0 kk).f4]] (by rfl) rfl rfl (by (try simp only [List.map_toArray, List.map_cons, List.map_nil]); first | done | rfl) ?_
            refine (HC1.out _).mono ?_
            rintro e w2 ⟨rfl, hb⟩
            refine ⟨_, rfl, ?_⟩
            refine hK.out _ _ (H5.kept hb hHeld) (fun hHeld => ?_)
            clear hK K
            refine norm_ (a' := ?_) ?_ ?_
            rotate_left
            · show Act.put _ (some 16) _ = _
              simp only [Act.put, List.setIfInBounds_toArray, List.set_cons_zero, List.set_cons_succ, i64_w, i32_w]
              rfl
            refine pure_ (i := 2) (N := some 17) (v := ?_) (a' := ?_) #[true, true, true, false, false, false, false, false, false, false, false, false, false, false, false, false, false, false, false, false, false, false, false, false] rfl rfl (by kernel_rfl) (fun _ _ _ h => h) (Or.inl ⟨by rfl, ?_⟩) ?_ ?_
            rotate_left
            · intro w'
              go_simp
              with_reducible rfl
            rotate_left
            · simp only [Act.put, List.setIfInBounds_toArray, List.set_cons_zero, List.set_cons_succ, i64_w, i32_w]
              rfl
            refine pure_ (i := 3) (N := some 18) (v := ?_) (a' := ?_) #[true, true, true, true, false, false, false, false, false, false, false, false, false, false, false, false, false, false, false, false, false, false, false, false] rfl rfl (by kernel_rfl) (fun _ _ _ h => h) (Or.inl ⟨by rfl, ?_⟩) ?_ ?_
            rotate_left
            · intro w'
              go_simp
              with_reducible rfl
            rotate_left
            · simp only [Act.put, List.setIfInBounds_toArray, List.set_cons_zero, List.set_cons_succ, i64_w, i32_w]
              rfl
            refine pure_ (i := 4) (N := some 19) (v := ?_) (a' := ?_) #[true, true, true, true, true, false, false, false, false, false, false, false, false, false, false, false, false, false, false, false, false, false, false, false] rfl rfl (by kernel_rfl) (fun _ _ _ h => h) (Or.inl ⟨by rfl, ?_⟩) ?_ ?_
            rotate_left
            · intro w'
              go_simp
              with_reducible rfl
            rotate_left
            · simp only [Act.put, List.setIfInBounds_toArray, List.set_cons_zero, List.set_cons_succ, i64_w, i32_w]
              rfl
            refine pure_ (i := 5) (N := some 20) (v := ?_) (a' := ?_) #[true, true, true, true, true, true, false, false, false, false, false, false, false, false, false, false, false, false, false, false, false, false, false, false] rfl rfl (by kernel_rfl) (fun _ _ _ h => h) (Or.inl ⟨by rfl, ?_⟩) ?_ ?_
            rotate_left
            · intro w'
              go_simp
              with_reducible rfl
            rotate_left
            · simp only [Act.put, List.setIfInBounds_toArray, List.set_cons_zero, List.set_cons_succ, i64_w, i32_w]
              rfl
            refine take_ (i := 6) (N := some 21) (v := ?_) (a' := ?_) #[true, true, true, true, true, true, true, false, false, false, false, false, false, false, false, false, false, false, false, false, false, false, false, false] rfl rfl (by kernel_rfl) (fun _ _ _ h => h) (Or.inl ⟨by rfl, ?_⟩) hHeld ?_ ?_
            rotate_left
            · rintro w' ⟨⟨s0, s1, s2, s3, s4⟩, s10⟩
              go_simp
              with_reducible rfl
            rotate_left
            · simp only [Act.put, List.setIfInBounds_toArray, List.set_cons_zero, List.set_cons_succ, i64_w, i32_w]
              rfl
            refine one_ (i := 7) (N := some 22) #[true, true, true, true, true, true, true, true, false, false, false, false, false, false, false, false, false, false, false, false, false, false, false, false] rfl rfl (by kernel_rfl) (by decide) (fun K hK => ?_)
            refine goes_ Try.func26 (by kernel_rfl) rfl #[.slice (some ad) l0.length c0, .int .u32 (rd_T27 l0 kk).f0] (by rfl) rfl rfl (by (try simp only [List.map_toArray, List.map_cons, List.map_nil]); first | done | rfl) ?_
            refine (HC2.out _ (Kd.C_below HR1.out (H5.below hHeld))).mono ?_
            rintro e w2 ⟨rfl, hb⟩
            refine ⟨_, rfl, ?_⟩
            refine hK.out _ _ (H5.kept hb hHeld) (fun hHeld => ?_)
            clear hK K
            refine norm_ (a' := ?_) ?_ ?_
            rotate_left
            · show Act.put _ (some 22) _ = _
              simp only [Act.put, List.setIfInBounds_toArray, List.set_cons_zero, List.set_cons_succ, i64_w, i32_w]
              rfl
            refine pure_ (i := 8) (N := some 23) (v := ?_) (a' := ?_) #[true, true, true, true, true, true, true, true, true, false, false, false, false, false, false, false, false, false, false, false, false, false, false, false] rfl rfl (by kernel_rfl) (fun _ _ _ h => h) (Or.inl ⟨by rfl, ?_⟩) ?_ ?_
            rotate_left
            · intro w'
              go_simp
              with_reducible rfl
            rotate_left
            · simp only [Act.put, List.setIfInBounds_toArray, List.set_cons_zero, List.set_cons_succ, i64_w, i32_w]
              rfl
            refine pure_ (i := 9) (N := some 24) (v := ?_) (a' := ?_) #[true, true, true, true, true, true, true, true, true, true, false, false, false, false, false, false, false, false, false, false, false, false, false, false] rfl rfl (by kernel_rfl) (fun _ _ _ h => h) (Or.inl ⟨by rfl, ?_⟩) ?_ ?_
            rotate_left
            · intro w'
              go_simp
              with_reducible rfl
            rotate_left
            · simp only [Act.put, List.setIfInBounds_toArray, List.set_cons_zero, List.set_cons_succ, i64_w, i32_w]
              rfl
            refine pure_ (i := 10) (N := some 25) (v := ?_) (a' := ?_) #[true, true, true, true, true, true, true, true, true, true, true, false, false, false, false, false, false, false, false, false, false, false, false, false] rfl rfl (by kernel_rfl) (fun _ _ _ h => h) (Or.inl ⟨by rfl, ?_⟩) ?_ ?_
            rotate_left
            · intro w'
              go_simp
              with_reducible rfl
            rotate_left
            · simp only [Act.put, List.setIfInBounds_toArray, List.set_cons_zero, List.set_cons_succ, i64_w, i32_w]
              rfl
            refine pure_ (i := 11) (N := some 26) (v := undef) (a' := ?_) #[true, true, true, true, true, true, true, true, true, true, true, true, false, false, false, false, false, false, false, false, false, false, false, false] rfl rfl (by kernel_rfl) (fun _ _ _ h => h) (Or.inr ⟨by rfl, rfl⟩) ?_ ?_
            rotate_left
            · simp only [Act.put, List.setIfInBounds_toArray, List.set_cons_zero, List.set_cons_succ, i64_w, i32_w]
              rfl
            refine pure_ (i := 12) (N := some 27) (v := undef) (a' := ?_) #[true, true, true, true, true, true, true, true, true, true, true, true, true, false, false, false, false, false, false, false, false, false, false, false] rfl rfl (by kernel_rfl) (fun _ _ _ h => h) (Or.inr ⟨by rfl, rfl⟩) ?_ ?_
            rotate_left
            · simp only [Act.put, List.setIfInBounds_toArray, List.set_cons_zero, List.set_cons_succ, i64_w, i32_w]
              rfl
            refine pure_ (i := 13) (N := some 28) (v := undef) (a' := ?_) #[true, true, true, true, true, true, true, true, true, true, true, true, true, true, false, false, false, false, false, false, false, false, false, false] rfl rfl (by kernel_rfl) (fun _ _ _ h => h) (Or.inr ⟨by rfl, rfl⟩) ?_ ?_
            rotate_left
            · simp only [Act.put, List.setIfInBounds_toArray, List.set_cons_zero, List.set_cons_succ, i64_w, i32_w]
              rfl
            refine pure_ (i := 14) (N := some 29) (v := undef) (a' := ?_) #[true, true, true, true, true, true, true, true, true, true, true, true, true, true, true, false, false, false, false, false, false, false, false, false] rfl rfl (by kernel_rfl) (fun _ _ _ h => h) (Or.inr ⟨by rfl, rfl⟩) ?_ ?_
            rotate_left
            · simp only [Act.put, List.setIfInBounds_toArray, List.set_cons_zero, List.set_cons_succ, i64_w, i32_w]
              rfl
            refine pure_ (i := 15) (N := some 30) (v := undef) (a' := ?_) #[true, true, true, true, true, true, true, true, true, true, true, true, true, true, true, true, false, false, false, false, false, false, false, false] rfl rfl (by kernel_rfl) (fun _ _ _ h => h) (Or.inr ⟨by rfl, rfl⟩) ?_ ?_
            rotate_left
            · simp only [Act.put, List.setIfInBounds_toArray, List.set_cons_zero, List.set_cons_succ, i64_w, i32_w]
              rfl
            refine pure_ (i := 16) (N := some 31) (v := undef) (a' := ?_) #[true, true, true, true, true, true, true, true, true, true, true, true, true, true, true, true, true, false, false, false, false, false, false, false] rfl rfl (by kernel_rfl) (fun _ _ _ h => h) (Or.inr ⟨by rfl, rfl⟩) ?_ ?_
            rotate_left
            · simp only [Act.put, List.setIfInBounds_toArray, List.set_cons_zero, List.set_cons_succ, i64_w, i32_w]
              rfl
            refine pure_ (i := 17) (N := some 32) (v := undef) (a' := ?_) #[true, true, true, true, true, true, true, true, true, true, true, true, true, true, true, true, true, true, false, false, false, false, false, false] rfl rfl (by kernel_rfl) (fun _ _ _ h => h) (Or.inr ⟨by rfl, rfl⟩) ?_ ?_
            rotate_left
            · simp only [Act.put, List.setIfInBounds_toArray, List.set_cons_zero, List.set_cons_succ, i64_w, i32_w]
              rfl
            refine pure_ (i := 18) (N := some 33) (v := undef) (a' := ?_) #[true, true, true, true, true, true, true, true, true, true, true, true, true, true, true, true, true, true, true, false, false, false, false, false] rfl rfl (by kernel_rfl) (fun _ _ _ h => h) (Or.inr ⟨by rfl, rfl⟩) ?_ ?_
            rotate_left
            · simp only [Act.put, List.setIfInBounds_toArray, List.set_cons_zero, List.set_cons_succ, i64_w, i32_w]
              rfl
            refine pure_ (i := 19) (N := some 34) (v := undef) (a' := ?_) #[true, true, true, true, true, true, true, true, true, true, true, true, true, true, true, true, true, true, true, true, false, false, false, false] rfl rfl (by kernel_rfl) (fun _ _ _ h => h) (Or.inr ⟨by rfl, rfl⟩) ?_ ?_
            rotate_left
            · simp only [Act.put, List.setIfInBounds_toArray, List.set_cons_zero, List.set_cons_succ, i64_w, i32_w]
              rfl
            refine pure_ (i := 20) (N := some 35) (v := undef) (a' := ?_) #[true, true, true, true, true, true, true, true, true, true, true, true, true, true, true, true, true, true, true, true, true, false, false, false] rfl rfl (by kernel_rfl) (fun _ _ _ h => h) (Or.inr ⟨by rfl, rfl⟩) ?_ ?_
            rotate_left
            · simp only [Act.put, List.setIfInBounds_toArray, List.set_cons_zero, List.set_cons_succ, i64_w, i32_w]
              rfl
            refine pure_ (i := 21) (N := some 36) (v := undef) (a' := ?_) #[true, true, true, true, true, true, true, true, true, true, true, true, true, true, true, true, true, true, true, true, true, true, false, false] rfl rfl (by kernel_rfl) (fun _ _ _ h => h) (Or.inr ⟨by rfl, rfl⟩) ?_ ?_
            rotate_left
            · simp only [Act.put, List.setIfInBounds_toArray, List.set_cons_zero, List.set_cons_succ, i64_w, i32_w]
              rfl
            refine pure_ (i := 22) (N := some 37) (v := undef) (a' := ?_) #[true, true, true, true, true, true, true, true, true, true, true, true, true, true, true, true, true, true, true, true, true, true, true, false] rfl rfl (by kernel_rfl) (fun _ _ _ h => h) (Or.inr ⟨by rfl, rfl⟩) ?_ ?_
            rotate_left
            · simp only [Act.put, List.setIfInBounds_toArray, List.set_cons_zero, List.set_cons_succ, i64_w, i32_w]
              rfl
            refine pure_ (i := 23) (N := some 38) (v := ?_) (a' := ?_) #[true, true, true, true, true, true, true, true, true, true, true, true, true, true, true, true, true, true, true, true, true, true, true, true] rfl rfl (by kernel_rfl) (fun _ _ _ h => h) (Or.inl ⟨by rfl, ?_⟩) ?_ ?_
            rotate_left
            · intro w'
              go_simp
              with_reducible rfl
            rotate_left
            · simp only [Act.put, List.setIfInBounds_toArray, List.set_cons_zero, List.set_cons_succ, i64_w, i32_w]
              rfl
            refine done_ (by kernel_rfl) ?_
            have HS := Lib.hid (show H5 (wr.alloc (.cells (cellsOf (rd_T27 l0 kk)) 27)) wr.heap.size (rd_T27 l0 kk) w2 from hHeld)
            have HB2 : Hid (Below w.heap.size w w2) := Lib.hid ((HB.out.alloc HB.out.size _).trans (HS.out.below.mono (by have := HB.out.size; simp; omega)))
            clear hHeld
            go_wp2
            go_ret
            exact ⟨by rw [right_no l0 kk hlt (by unfold rightAt; rw [HM.out]; simp)]; rfl, HB2.out⟩
          · have HM : Hid (decide (l0.countP (fun x => x.f0 == (rd_T27 l0 kk).f0) ≤ 4) = true) := Lib.hid (decide_eq_true (by have := HCN.out; omega))
            have hmd : decide (cn > 4) = false := decide_eq_false hmn
            clear hmn
            by_cases hk0 : kk = 0
            · have HOK : Hid ((l0.take kk).any (fun x => clashB x (rd_T27 l0 kk)) = false → rightAt l0 kk = true) := Lib.hid (fun h => by unfold rightAt; rw [HONE.out, HM.out, h]; simp [hk0])
              have hkd : (0 < kk) = False := eq_false (by omega)
              have hkd2 : ((0 : Int) < kk) = False := eq_false (by omega)
              clear hk0
              go_wp2_with fail
              have START := Lib.hid (show H5 (wr.alloc (.cells (cellsOf (rd_T27 l0 kk)) 27)) wr.heap.size (rd_T27 l0 kk) (wr.alloc (.cells (cellsOf (rd_T27 l0 kk)) 27)) from ⟨CC.out, Below.refl _ _⟩)
              refine start_ (n := 24) (S := (fun w' => (w'.cell? ⟨wr.heap.size, 0, none⟩ = some (.int .u32 (rd_T27 l0 kk).f0) ∧ w'.cell? ⟨wr.heap.size, 1, none⟩ = some (.int .u32 (rd_T27 l0 kk).f1) ∧ w'.cell? ⟨wr.heap.size, 2, none⟩ = some (.int .u32 (rd_T27 l0 kk).f2) ∧ w'.cell? ⟨wr.heap.size, 3, none⟩ = some (.int .u32 (rd_T27 l0 kk).f3) ∧ w'.cell? ⟨wr.heap.size, 4, none⟩ = some (.int .u32 (rd_T27 l0 kk).f4)) ∧ Below (wr.alloc (.cells (cellsOf (rd_T27 l0 kk)) 27)).heap.size (wr.alloc (.cells (cellsOf (rd_T27 l0 kk)) 27)) w')) (ds := []) #[false, false, false, false, false, false, false, false, false, false, false, false, false, false, false, false, false, false, false, false, false, false, false, false] (by kernel_rfl) rfl rfl (H5.drew START.out) (fun hHeld => ?_)
              refine take_ (i := 0) (N := some 15) (v := ?_) (a' := ?_) #[true, false, false, false, false, false, false, false, false, false, false, false, false, false, false, false, false, false, false, false, false, false, false, false] rfl rfl (by kernel_rfl) (fun _ _ _ h => h) (Or.inl ⟨by rfl, ?_⟩) hHeld ?_ ?_
              rotate_left
              · rintro w' ⟨⟨s0, s1, s2, s3, s4⟩, s10⟩
                go_simp
                with_reducible rfl
              rotate_left
              · simp only [Act.put, List.setIfInBounds_toArray, List.set_cons_zero, List.set_cons_succ, i64_w, i32_w]
                rfl
              refine one_ (i := 1) (N := some 16) #[true, true, false, false, false, false, false, false, false, false, false, false, false, false, false, false, false, false, false, false, false, false, false, false] rfl rfl (by kernel_rfl) (by decide) (fun K hK => ?_)
              refine goes_ Try.func25 (by kernel_rfl) rfl #[.agg #[.int .u32 (rd_T27 l0 kk).f0, .int .u32 (rd_T27 l0 kk).f1, .int .u32 (rd_T27 l0 kk).f2, .int .u32 (rd_T27 l0 kk).f3, .int .u32 (rd_T27 l0 kk).f4]] (by rfl) rfl rfl (by (try simp only [List.map_toArray, List.map_cons, List.map_nil]); first | done | rfl) ?_
              refine (HC1.out _).mono ?_
              rintro e w2 ⟨rfl, hb⟩
              refine ⟨_, rfl, ?_⟩
              refine hK.out _ _ (H5.kept hb hHeld) (fun hHeld => ?_)
              clear hK K
              refine norm_ (a' := ?_) ?_ ?_
              rotate_left
              · show Act.put _ (some 16) _ = _
                simp only [Act.put, List.setIfInBounds_toArray, List.set_cons_zero, List.set_cons_succ, i64_w, i32_w]
                rfl
              refine pure_ (i := 2) (N := some 17) (v := ?_) (a' := ?_) #[true, true, true, false, false, false, false, false, false, false, false, false, false, false, false, false, false, false, false, false, false, false, false, false] rfl rfl (by kernel_rfl) (fun _ _ _ h => h) (Or.inl ⟨by rfl, ?_⟩) ?_ ?_
              rotate_left
              · intro w'
                go_simp
                with_reducible rfl
              rotate_left
              · simp only [Act.put, List.setIfInBounds_toArray, List.set_cons_zero, List.set_cons_succ, i64_w, i32_w]
                rfl
              refine pure_ (i := 3) (N := some 18) (v := ?_) (a' := ?_) #[true, true, true, true, false, false, false, false, false, false, false, false, false, false, false, false, false, false, false, false, false, false, false, false] rfl rfl (by kernel_rfl) (fun _ _ _ h => h) (Or.inl ⟨by rfl, ?_⟩) ?_ ?_
              rotate_left
              · intro w'
                go_simp
                with_reducible rfl
              rotate_left
              · simp only [Act.put, List.setIfInBounds_toArray, List.set_cons_zero, List.set_cons_succ, i64_w, i32_w]
                rfl
              refine pure_ (i := 4) (N := some 19) (v := ?_) (a' := ?_) #[true, true, true, true, true, false, false, false, false, false, false, false, false, false, false, false, false, false, false, false, false, false, false, false] rfl rfl (by kernel_rfl) (fun _ _ _ h => h) (Or.inl ⟨by rfl, ?_⟩) ?_ ?_
              rotate_left
              · intro w'
                go_simp
                with_reducible rfl
              rotate_left
              · simp only [Act.put, List.setIfInBounds_toArray, List.set_cons_zero, List.set_cons_succ, i64_w, i32_w]
                rfl
              refine pure_ (i := 5) (N := some 20) (v := ?_) (a' := ?_) #[true, true, true, true, true, true, false, false, false, false, false, false, false, false, false, false, false, false, false, false, false, false, false, false] rfl rfl (by kernel_rfl) (fun _ _ _ h => h) (Or.inl ⟨by rfl, ?_⟩) ?_ ?_
              rotate_left
              · intro w'
                go_simp
                with_reducible rfl
              rotate_left
              · simp only [Act.put, List.setIfInBounds_toArray, List.set_cons_zero, List.set_cons_succ, i64_w, i32_w]
                rfl
              refine take_ (i := 6) (N := some 21) (v := ?_) (a' := ?_) #[true, true, true, true, true, true, true, false, false, false, false, false, false, false, false, false, false, false, false, false, false, false, false, false] rfl rfl (by kernel_rfl) (fun _ _ _ h => h) (Or.inl ⟨by rfl, ?_⟩) hHeld ?_ ?_
              rotate_left
              · rintro w' ⟨⟨s0, s1, s2, s3, s4⟩, s10⟩
                go_simp
                with_reducible rfl
              rotate_left
              · simp only [Act.put, List.setIfInBounds_toArray, List.set_cons_zero, List.set_cons_succ, i64_w, i32_w]
                rfl
              refine one_ (i := 7) (N := some 22) #[true, true, true, true, true, true, true, true, false, false, false, false, false, false, false, false, false, false, false, false, false, false, false, false] rfl rfl (by kernel_rfl) (by decide) (fun K hK => ?_)
              refine goes_ Try.func26 (by kernel_rfl) rfl #[.slice (some ad) l0.length c0, .int .u32 (rd_T27 l0 kk).f0] (by rfl) rfl rfl (by (try simp only [List.map_toArray, List.map_cons, List.map_nil]); first | done | rfl) ?_
              refine (HC2.out _ (Kd.C_below HR1.out (H5.below hHeld))).mono ?_
              rintro e w2 ⟨rfl, hb⟩
              refine ⟨_, rfl, ?_⟩
              refine hK.out _ _ (H5.kept hb hHeld) (fun hHeld => ?_)
              clear hK K
              refine norm_ (a' := ?_) ?_ ?_
              rotate_left
              · show Act.put _ (some 22) _ = _
                simp only [Act.put, List.setIfInBounds_toArray, List.set_cons_zero, List.set_cons_succ, i64_w, i32_w]
                rfl
              refine pure_ (i := 8) (N := some 23) (v := ?_) (a' := ?_) #[true, true, true, true, true, true, true, true, true, false, false, false, false, false, false, false, false, false, false, false, false, false, false, false] rfl rfl (by kernel_rfl) (fun _ _ _ h => h) (Or.inl ⟨by rfl, ?_⟩) ?_ ?_
              rotate_left
              · intro w'
                go_simp
                with_reducible rfl
              rotate_left
              · simp only [Act.put, List.setIfInBounds_toArray, List.set_cons_zero, List.set_cons_succ, i64_w, i32_w]
                rfl
              refine pure_ (i := 9) (N := some 24) (v := ?_) (a' := ?_) #[true, true, true, true, true, true, true, true, true, true, false, false, false, false, false, false, false, false, false, false, false, false, false, false] rfl rfl (by kernel_rfl) (fun _ _ _ h => h) (Or.inl ⟨by rfl, ?_⟩) ?_ ?_
              rotate_left
              · intro w'
                go_simp
                with_reducible rfl
              rotate_left
              · simp only [Act.put, List.setIfInBounds_toArray, List.set_cons_zero, List.set_cons_succ, i64_w, i32_w]
                rfl
              refine pure_ (i := 10) (N := some 25) (v := ?_) (a' := ?_) #[true, true, true, true, true, true, true, true, true, true, true, false, false, false, false, false, false, false, false, false, false, false, false, false] rfl rfl (by kernel_rfl) (fun _ _ _ h => h) (Or.inl ⟨by rfl, ?_⟩) ?_ ?_
              rotate_left
              · intro w'
                go_simp
                with_reducible rfl
              rotate_left
              · simp only [Act.put, List.setIfInBounds_toArray, List.set_cons_zero, List.set_cons_succ, i64_w, i32_w]
                rfl
              refine pure_ (i := 11) (N := some 26) (v := ?_) (a' := ?_) #[true, true, true, true, true, true, true, true, true, true, true, true, false, false, false, false, false, false, false, false, false, false, false, false] rfl rfl (by kernel_rfl) (fun _ _ _ h => h) (Or.inl ⟨by rfl, ?_⟩) ?_ ?_
              rotate_left
              · intro w'
                go_simp
                with_reducible rfl
              rotate_left
              · simp only [Act.put, List.setIfInBounds_toArray, List.set_cons_zero, List.set_cons_succ, i64_w, i32_w]
                rfl
              refine pure_ (i := 12) (N := some 27) (v := ?_) (a' := ?_) #[true, true, true, true, true, true, true, true, true, true, true, true, true, false, false, false, false, false, false, false, false, false, false, false] rfl rfl (by kernel_rfl) (fun _ _ _ h => h) (Or.inl ⟨by rfl, ?_⟩) ?_ ?_
              rotate_left
              · intro w'
                go_simp
                with_reducible rfl
              rotate_left
              · simp only [Act.put, List.setIfInBounds_toArray, List.set_cons_zero, List.set_cons_succ, i64_w, i32_w]
                rfl
              refine pure_ (i := 13) (N := some 28) (v := ?_) (a' := ?_) #[true, true, true, true, true, true, true, true, true, true, true, true, true, true, false, false, false, false, false, false, false, false, false, false] rfl rfl (by kernel_rfl) (fun _ _ _ h => h) (Or.inl ⟨by rfl, ?_⟩) ?_ ?_
              rotate_left
              · intro w'
                go_simp
                with_reducible rfl
              rotate_left
              · simp only [Act.put, List.setIfInBounds_toArray, List.set_cons_zero, List.set_cons_succ, i64_w, i32_w]
                rfl
              refine pure_ (i := 14) (N := some 29) (v := undef) (a' := ?_) #[true, true, true, true, true, true, true, true, true, true, true, true, true, true, true, false, false, false, false, false, false, false, false, false] rfl rfl (by kernel_rfl) (fun _ _ _ h => h) (Or.inr ⟨by rfl, rfl⟩) ?_ ?_
              rotate_left
              · simp only [Act.put, List.setIfInBounds_toArray, List.set_cons_zero, List.set_cons_succ, i64_w, i32_w]
                rfl
              refine pure_ (i := 15) (N := some 30) (v := undef) (a' := ?_) #[true, true, true, true, true, true, true, true, true, true, true, true, true, true, true, true, false, false, false, false, false, false, false, false] rfl rfl (by kernel_rfl) (fun _ _ _ h => h) (Or.inr ⟨by rfl, rfl⟩) ?_ ?_
              rotate_left
              · simp only [Act.put, List.setIfInBounds_toArray, List.set_cons_zero, List.set_cons_succ, i64_w, i32_w]
                rfl
              refine pure_ (i := 16) (N := some 31) (v := undef) (a' := ?_) #[true, true, true, true, true, true, true, true, true, true, true, true, true, true, true, true, true, false, false, false, false, false, false, false] rfl rfl (by kernel_rfl) (fun _ _ _ h => h) (Or.inr ⟨by rfl, rfl⟩) ?_ ?_
              rotate_left
              · simp only [Act.put, List.setIfInBounds_toArray, List.set_cons_zero, List.set_cons_succ, i64_w, i32_w]
                rfl
              refine pure_ (i := 17) (N := some 32) (v := undef) (a' := ?_) #[true, true, true, true, true, true, true, true, true, true, true, true, true, true, true, true, true, true, false, false, false, false, false, false] rfl rfl (by kernel_rfl) (fun _ _ _ h => h) (Or.inr ⟨by rfl, rfl⟩) ?_ ?_
              rotate_left
              · simp only [Act.put, List.setIfInBounds_toArray, List.set_cons_zero, List.set_cons_succ, i64_w, i32_w]
                rfl
              refine pure_ (i := 18) (N := some 33) (v := undef) (a' := ?_) #[true, true, true, true, true, true, true, true, true, true, true, true, true, true, true, true, true, true, true, false, false, false, false, false] rfl rfl (by kernel_rfl) (fun _ _ _ h => h) (Or.inr ⟨by rfl, rfl⟩) ?_ ?_
              rotate_left
              · simp only [Act.put, List.setIfInBounds_toArray, List.set_cons_zero, List.set_cons_succ, i64_w, i32_w]
                rfl
              refine pure_ (i := 19) (N := some 34) (v := undef) (a' := ?_) #[true, true, true, true, true, true, true, true, true, true, true, true, true, true, true, true, true, true, true, true, false, false, false, false] rfl rfl (by kernel_rfl) (fun _ _ _ h => h) (Or.inr ⟨by rfl, rfl⟩) ?_ ?_
              rotate_left
              · simp only [Act.put, List.setIfInBounds_toArray, List.set_cons_zero, List.set_cons_succ, i64_w, i32_w]
                rfl
              refine pure_ (i := 20) (N := some 35) (v := undef) (a' := ?_) #[true, true, true, true, true, true, true, true, true, true, true, true, true, true, true, true, true, true, true, true, true, false, false, false] rfl rfl (by kernel_rfl) (fun _ _ _ h => h) (Or.inr ⟨by rfl, rfl⟩) ?_ ?_
              rotate_left
              · simp only [Act.put, List.setIfInBounds_toArray, List.set_cons_zero, List.set_cons_succ, i64_w, i32_w]
                rfl
              refine pure_ (i := 21) (N := some 36) (v := undef) (a' := ?_) #[true, true, true, true, true, true, true, true, true, true, true, true, true, true, true, true, true, true, true, true, true, true, false, false] rfl rfl (by kernel_rfl) (fun _ _ _ h => h) (Or.inr ⟨by rfl, rfl⟩) ?_ ?_
              rotate_left
              · simp only [Act.put, List.setIfInBounds_toArray, List.set_cons_zero, List.set_cons_succ, i64_w, i32_w]
                rfl
              refine pure_ (i := 22) (N := some 37) (v := ?_) (a' := ?_) #[true, true, true, true, true, true, true, true, true, true, true, true, true, true, true, true, true, true, true, true, true, true, true, false] rfl rfl (by kernel_rfl) (fun _ _ _ h => h) (Or.inl ⟨by rfl, ?_⟩) ?_ ?_
              rotate_left
              · intro w'
                go_simp
                with_reducible rfl
              rotate_left
              · simp only [Act.put, List.setIfInBounds_toArray, List.set_cons_zero, List.set_cons_succ, i64_w, i32_w]
                rfl
              refine pure_ (i := 23) (N := some 38) (v := ?_) (a' := ?_) #[true, true, true, true, true, true, true, true, true, true, true, true, true, true, true, true, true, true, true, true, true, true, true, true] rfl rfl (by kernel_rfl) (fun _ _ _ h => h) (Or.inl ⟨by rfl, ?_⟩) ?_ ?_
              rotate_left
              · intro w'
                go_simp
                with_reducible rfl
              rotate_left
              · simp only [Act.put, List.setIfInBounds_toArray, List.set_cons_zero, List.set_cons_succ, i64_w, i32_w]
                rfl
              refine done_ (by kernel_rfl) ?_
              have HS := Lib.hid (show H5 (wr.alloc (.cells (cellsOf (rd_T27 l0 kk)) 27)) wr.heap.size (rd_T27 l0 kk) w2 from hHeld)
              have HB2 : Hid (Below w.heap.size w w2) := Lib.hid ((HB.out.alloc HB.out.size _).trans (HS.out.below.mono (by have := HB.out.size; simp; omega)))
              clear hHeld
              have HK := Lib.hid (below_old (alloc_at wr (.cells (cellsOf (rd_T27 l0 kk)) 27)) HS.out.below)
              have HC4 := Lib.hid (contains_calls (some ad) c0 (l0.take kk) 29 #[.pointer (some ⟨wr.heap.size, 0, none⟩)] (fun x => clashB x (rd_T27 l0 kk)) w2 (Kd.C_take (Kd.C_below HR.out HB2.out) hkk) (by have := HL.out; simp; omega) (enters_of Try.func29 (by kernel_rfl) rfl) (right_pred (rd_T27 l0 kk) wr.heap.size w2 HK.out))
              have hlt0 : (l0.take kk).length = kk := by simp; omega
              rw [hlt0] at HC4
              clear hlt0
              cases hany : (l0.take kk).any (fun x => clashB x (rd_T27 l0 kk)) with
              | true =>
                have HA := Lib.hid hany
                rw [hany] at HC4
                clear hany
                go_wp2_with (go_at_call 28; refine HC4.out.mono ?_; rintro e w3 ⟨rfl, hb3⟩; have HB3 : Hid (Below w.heap.size w w3) := Lib.hid (HB2.out.trans (hb3.mono HB2.out.size)); clear hb3)
                go_ret
                exact ⟨by rw [right_no l0 kk hlt (by unfold rightAt; rw [HA.out]; simp)]; rfl, HB3.out⟩
              | false =>
                have HA := Lib.hid hany
                rw [hany] at HC4
                clear hany
                have hw2 : IntKind.i64.wrap ((kk : Int) + 1) = kk + 1 := IntWalk.i64_in _ (by have := HL.out; omega)
                go_wp2_with (go_at_call 28; refine HC4.out.mono ?_; rintro e w3 ⟨rfl, hb3⟩; have HB3 : Hid (Below w.heap.size w w3) := Lib.hid (HB2.out.trans (hb3.mono HB2.out.size)); clear hb3)
                go_roundg (l0.length - (kk + 1))
                case measure => omega
                case rel =>
                  refine ⟨kk + 1, by omega, by omega, by simp, HB3, Lib.hid (fun j hj => ?_)⟩
                  by_cases hjk : j = kk
                  · subst hjk
                    exact HOK.out HA.out
                  · exact HN.out j (by omega)
            · have hkd : (0 < kk) = True := eq_true (by omega)
              have hwk : IntKind.i64.wrap ((kk : Int) - 1) = kk - 1 := IntWalk.i64_in _ (by have := HL.out; omega)
              have HC3 := Lib.hid (fun W => order_calls (rd_T27 l0 ((kk : Int) - 1)) (rd_T27 l0 kk) W)
              obtain ⟨ad', e', g0, g1, g2, g3, g4⟩ := at_T27 HR.out ((kk : Int) - 1) (by omega) (by omega)
              cases e'
              have ek : ((kk : Int) - 1).toNat = kk - 1 := by omega
              rw [ek] at g0 g1 g2 g3 g4
              replace g0 := kept HB.out g0
              replace g1 := kept HB.out g1
              replace g2 := kept HB.out g2
              replace g3 := kept HB.out g3
              replace g4 := kept HB.out g4
              have hq2 : (0 ≤ (kk : Int) - 1) = True := eq_true (by omega)
              have hq3 : ((kk : Int) - 1 < (l0.length : Int)) = True := eq_true (by omega)
              have hq4 : (1 ≤ (kk : Int)) = True := eq_true (by omega)
              have hq5 : (1 ≤ kk) = True := eq_true (by omega)
              have hq6 : ((kk : Int) ≤ (l0.length : Int)) = True := eq_true (by omega)
              have hq7 : (kk ≤ l0.length) = True := eq_true (by omega)
              have HK0 := Lib.hid hk0
              clear hk0
              obtain ⟨cm, hcm⟩ : ∃ cm : Int, cmpB (rd_T27 l0 ((kk : Int) - 1)) (rd_T27 l0 kk) = cm := ⟨_, rfl⟩
              have HCM := Lib.hid hcm
              rw [hcm] at HC3
              clear hcm
              by_cases hord : cm ≥ 0
              · have HO : Hid (decide (cmpB (rd_T27 l0 ((kk : Int) - 1)) (rd_T27 l0 kk) < 0) = false) := Lib.hid (decide_eq_false (by rw [HCM.out]; omega))
                have hod : decide (cm ≥ 0) = true := decide_eq_true hord
                clear hord
                go_wp2_with fail
                have START := Lib.hid (show H10 (wr.alloc (.cells (cellsOf (rd_T27 l0 kk)) 27)) wr.heap.size (rd_T27 l0 kk) (ad.add ((kk - 1) * 5)) (rd_T27 l0 ((kk : Int) - 1)) (wr.alloc (.cells (cellsOf (rd_T27 l0 kk)) 27)) from ⟨CC.out, ⟨kept (boxed wr _) g0, kept (boxed wr _) g1, kept (boxed wr _) g2, kept (boxed wr _) g3, kept (boxed wr _) g4⟩, Below.refl _ _⟩)
                refine start_ (n := 24) (S := (fun w' => (w'.cell? ⟨wr.heap.size, 0, none⟩ = some (.int .u32 (rd_T27 l0 kk).f0) ∧ w'.cell? ⟨wr.heap.size, 1, none⟩ = some (.int .u32 (rd_T27 l0 kk).f1) ∧ w'.cell? ⟨wr.heap.size, 2, none⟩ = some (.int .u32 (rd_T27 l0 kk).f2) ∧ w'.cell? ⟨wr.heap.size, 3, none⟩ = some (.int .u32 (rd_T27 l0 kk).f3) ∧ w'.cell? ⟨wr.heap.size, 4, none⟩ = some (.int .u32 (rd_T27 l0 kk).f4)) ∧ (w'.cell? (ad.add ((kk - 1) * 5)) = some (.int .u32 (rd_T27 l0 ((kk : Int) - 1)).f0) ∧ w'.cell? ⟨(ad.add ((kk - 1) * 5)).block, (ad.add ((kk - 1) * 5)).off + 1, none⟩ = some (.int .u32 (rd_T27 l0 ((kk : Int) - 1)).f1) ∧ w'.cell? ⟨(ad.add ((kk - 1) * 5)).block, (ad.add ((kk - 1) * 5)).off + 2, none⟩ = some (.int .u32 (rd_T27 l0 ((kk : Int) - 1)).f2) ∧ w'.cell? ⟨(ad.add ((kk - 1) * 5)).block, (ad.add ((kk - 1) * 5)).off + 3, none⟩ = some (.int .u32 (rd_T27 l0 ((kk : Int) - 1)).f3) ∧ w'.cell? ⟨(ad.add ((kk - 1) * 5)).block, (ad.add ((kk - 1) * 5)).off + 4, none⟩ = some (.int .u32 (rd_T27 l0 ((kk : Int) - 1)).f4)) ∧ Below (wr.alloc (.cells (cellsOf (rd_T27 l0 kk)) 27)).heap.size (wr.alloc (.cells (cellsOf (rd_T27 l0 kk)) 27)) w')) (ds := []) #[false, false, false, false, false, false, false, false, false, false, false, false, false, false, false, false, false, false, false, false, false, false, false, false] (by kernel_rfl) rfl rfl (H10.drew START.out) (fun hHeld => ?_)
                refine take_ (i := 0) (N := some 15) (v := ?_) (a' := ?_) #[true, false, false, false, false, false, false, false, false, false, false, false, false, false, false, false, false, false, false, false, false, false, false, false] rfl rfl (by kernel_rfl) (fun _ _ _ h => h) (Or.inl ⟨by rfl, ?_⟩) hHeld ?_ ?_
                rotate_left
                · rintro w' ⟨⟨s0, s1, s2, s3, s4⟩, ⟨s5, s6, s7, s8, s9⟩, s10⟩
                  go_simp
                  with_reducible rfl
                rotate_left
                · simp only [Act.put, List.setIfInBounds_toArray, List.set_cons_zero, List.set_cons_succ, i64_w, i32_w]
                  rfl
                refine one_ (i := 1) (N := some 16) #[true, true, false, false, false, false, false, false, false, false, false, false, false, false, false, false, false, false, false, false, false, false, false, false] rfl rfl (by kernel_rfl) (by decide) (fun K hK => ?_)
                refine goes_ Try.func25 (by kernel_rfl) rfl #[.agg #[.int .u32 (rd_T27 l0 kk).f0, .int .u32 (rd_T27 l0 kk).f1, .int .u32 (rd_T27 l0 kk).f2, .int .u32 (rd_T27 l0 kk).f3, .int .u32 (rd_T27 l0 kk).f4]] (by rfl) rfl rfl (by (try simp only [List.map_toArray, List.map_cons, List.map_nil]); first | done | rfl) ?_
                refine (HC1.out _).mono ?_
                rintro e w2 ⟨rfl, hb⟩
                refine ⟨_, rfl, ?_⟩
                refine hK.out _ _ (H10.kept hb hHeld) (fun hHeld => ?_)
                clear hK K
                refine norm_ (a' := ?_) ?_ ?_
                rotate_left
                · show Act.put _ (some 16) _ = _
                  simp only [Act.put, List.setIfInBounds_toArray, List.set_cons_zero, List.set_cons_succ, i64_w, i32_w]
                  rfl
                refine pure_ (i := 2) (N := some 17) (v := ?_) (a' := ?_) #[true, true, true, false, false, false, false, false, false, false, false, false, false, false, false, false, false, false, false, false, false, false, false, false] rfl rfl (by kernel_rfl) (fun _ _ _ h => h) (Or.inl ⟨by rfl, ?_⟩) ?_ ?_
                rotate_left
                · intro w'
                  go_simp
                  with_reducible rfl
                rotate_left
                · simp only [Act.put, List.setIfInBounds_toArray, List.set_cons_zero, List.set_cons_succ, i64_w, i32_w]
                  rfl
                refine pure_ (i := 3) (N := some 18) (v := ?_) (a' := ?_) #[true, true, true, true, false, false, false, false, false, false, false, false, false, false, false, false, false, false, false, false, false, false, false, false] rfl rfl (by kernel_rfl) (fun _ _ _ h => h) (Or.inl ⟨by rfl, ?_⟩) ?_ ?_
                rotate_left
                · intro w'
                  go_simp
                  with_reducible rfl
                rotate_left
                · simp only [Act.put, List.setIfInBounds_toArray, List.set_cons_zero, List.set_cons_succ, i64_w, i32_w]
                  rfl
                refine pure_ (i := 4) (N := some 19) (v := ?_) (a' := ?_) #[true, true, true, true, true, false, false, false, false, false, false, false, false, false, false, false, false, false, false, false, false, false, false, false] rfl rfl (by kernel_rfl) (fun _ _ _ h => h) (Or.inl ⟨by rfl, ?_⟩) ?_ ?_
                rotate_left
                · intro w'
                  go_simp
                  with_reducible rfl
                rotate_left
                · simp only [Act.put, List.setIfInBounds_toArray, List.set_cons_zero, List.set_cons_succ, i64_w, i32_w]
                  rfl
                refine pure_ (i := 5) (N := some 20) (v := ?_) (a' := ?_) #[true, true, true, true, true, true, false, false, false, false, false, false, false, false, false, false, false, false, false, false, false, false, false, false] rfl rfl (by kernel_rfl) (fun _ _ _ h => h) (Or.inl ⟨by rfl, ?_⟩) ?_ ?_
                rotate_left
                · intro w'
                  go_simp
                  with_reducible rfl
                rotate_left
                · simp only [Act.put, List.setIfInBounds_toArray, List.set_cons_zero, List.set_cons_succ, i64_w, i32_w]
                  rfl
                refine take_ (i := 6) (N := some 21) (v := ?_) (a' := ?_) #[true, true, true, true, true, true, true, false, false, false, false, false, false, false, false, false, false, false, false, false, false, false, false, false] rfl rfl (by kernel_rfl) (fun _ _ _ h => h) (Or.inl ⟨by rfl, ?_⟩) hHeld ?_ ?_
                rotate_left
                · rintro w' ⟨⟨s0, s1, s2, s3, s4⟩, ⟨s5, s6, s7, s8, s9⟩, s10⟩
                  go_simp
                  with_reducible rfl
                rotate_left
                · simp only [Act.put, List.setIfInBounds_toArray, List.set_cons_zero, List.set_cons_succ, i64_w, i32_w]
                  rfl
                refine one_ (i := 7) (N := some 22) #[true, true, true, true, true, true, true, true, false, false, false, false, false, false, false, false, false, false, false, false, false, false, false, false] rfl rfl (by kernel_rfl) (by decide) (fun K hK => ?_)
                refine goes_ Try.func26 (by kernel_rfl) rfl #[.slice (some ad) l0.length c0, .int .u32 (rd_T27 l0 kk).f0] (by rfl) rfl rfl (by (try simp only [List.map_toArray, List.map_cons, List.map_nil]); first | done | rfl) ?_
                refine (HC2.out _ (Kd.C_below HR1.out (H10.below hHeld))).mono ?_
                rintro e w2 ⟨rfl, hb⟩
                refine ⟨_, rfl, ?_⟩
                refine hK.out _ _ (H10.kept hb hHeld) (fun hHeld => ?_)
                clear hK K
                refine norm_ (a' := ?_) ?_ ?_
                rotate_left
                · show Act.put _ (some 22) _ = _
                  simp only [Act.put, List.setIfInBounds_toArray, List.set_cons_zero, List.set_cons_succ, i64_w, i32_w]
                  rfl
                refine pure_ (i := 8) (N := some 23) (v := ?_) (a' := ?_) #[true, true, true, true, true, true, true, true, true, false, false, false, false, false, false, false, false, false, false, false, false, false, false, false] rfl rfl (by kernel_rfl) (fun _ _ _ h => h) (Or.inl ⟨by rfl, ?_⟩) ?_ ?_
                rotate_left
                · intro w'
                  go_simp
                  with_reducible rfl
                rotate_left
                · simp only [Act.put, List.setIfInBounds_toArray, List.set_cons_zero, List.set_cons_succ, i64_w, i32_w]
                  rfl
                refine pure_ (i := 9) (N := some 24) (v := ?_) (a' := ?_) #[true, true, true, true, true, true, true, true, true, true, false, false, false, false, false, false, false, false, false, false, false, false, false, false] rfl rfl (by kernel_rfl) (fun _ _ _ h => h) (Or.inl ⟨by rfl, ?_⟩) ?_ ?_
                rotate_left
                · intro w'
                  go_simp
                  with_reducible rfl
                rotate_left
                · simp only [Act.put, List.setIfInBounds_toArray, List.set_cons_zero, List.set_cons_succ, i64_w, i32_w]
                  rfl
                refine pure_ (i := 10) (N := some 25) (v := ?_) (a' := ?_) #[true, true, true, true, true, true, true, true, true, true, true, false, false, false, false, false, false, false, false, false, false, false, false, false] rfl rfl (by kernel_rfl) (fun _ _ _ h => h) (Or.inl ⟨by rfl, ?_⟩) ?_ ?_
                rotate_left
                · intro w'
                  go_simp
                  with_reducible rfl
                rotate_left
                · simp only [Act.put, List.setIfInBounds_toArray, List.set_cons_zero, List.set_cons_succ, i64_w, i32_w]
                  rfl
                refine pure_ (i := 11) (N := some 26) (v := ?_) (a' := ?_) #[true, true, true, true, true, true, true, true, true, true, true, true, false, false, false, false, false, false, false, false, false, false, false, false] rfl rfl (by kernel_rfl) (fun _ _ _ h => h) (Or.inl ⟨by rfl, ?_⟩) ?_ ?_
                rotate_left
                · intro w'
                  go_simp
                  with_reducible rfl
                rotate_left
                · simp only [Act.put, List.setIfInBounds_toArray, List.set_cons_zero, List.set_cons_succ, i64_w, i32_w]
                  rfl
                refine pure_ (i := 12) (N := some 27) (v := ?_) (a' := ?_) #[true, true, true, true, true, true, true, true, true, true, true, true, true, false, false, false, false, false, false, false, false, false, false, false] rfl rfl (by kernel_rfl) (fun _ _ _ h => h) (Or.inl ⟨by rfl, ?_⟩) ?_ ?_
                rotate_left
                · intro w'
                  go_simp
                  with_reducible rfl
                rotate_left
                · simp only [Act.put, List.setIfInBounds_toArray, List.set_cons_zero, List.set_cons_succ, i64_w, i32_w]
                  rfl
                refine pure_ (i := 13) (N := some 28) (v := ?_) (a' := ?_) #[true, true, true, true, true, true, true, true, true, true, true, true, true, true, false, false, false, false, false, false, false, false, false, false] rfl rfl (by kernel_rfl) (fun _ _ _ h => h) (Or.inl ⟨by rfl, ?_⟩) ?_ ?_
                rotate_left
                · intro w'
                  go_simp
                  with_reducible rfl
                rotate_left
                · simp only [Act.put, List.setIfInBounds_toArray, List.set_cons_zero, List.set_cons_succ, i64_w, i32_w]
                  rfl
                refine pure_ (i := 14) (N := some 29) (v := ?_) (a' := ?_) #[true, true, true, true, true, true, true, true, true, true, true, true, true, true, true, false, false, false, false, false, false, false, false, false] rfl rfl (by kernel_rfl) (fun _ _ _ h => h) (Or.inl ⟨by rfl, ?_⟩) ?_ ?_
                rotate_left
                · intro w'
                  go_simp
                  with_reducible rfl
                rotate_left
                · simp only [Act.put, List.setIfInBounds_toArray, List.set_cons_zero, List.set_cons_succ, i64_w, i32_w]
                  rfl
                refine pure_ (i := 15) (N := some 30) (v := ?_) (a' := ?_) #[true, true, true, true, true, true, true, true, true, true, true, true, true, true, true, true, false, false, false, false, false, false, false, false] rfl rfl (by kernel_rfl) (fun _ _ _ h => h) (Or.inl ⟨by rfl, ?_⟩) ?_ ?_
                rotate_left
                · intro w'
                  go_simp
                  with_reducible rfl
                rotate_left
                · simp only [Act.put, List.setIfInBounds_toArray, List.set_cons_zero, List.set_cons_succ, i64_w, i32_w]
                  rfl
                refine pure_ (i := 16) (N := some 31) (v := ?_) (a' := ?_) #[true, true, true, true, true, true, true, true, true, true, true, true, true, true, true, true, true, false, false, false, false, false, false, false] rfl rfl (by kernel_rfl) (fun _ _ _ h => h) (Or.inl ⟨by rfl, ?_⟩) ?_ ?_
                rotate_left
                · intro w'
                  go_simp
                  with_reducible rfl
                rotate_left
                · simp only [Act.put, List.setIfInBounds_toArray, List.set_cons_zero, List.set_cons_succ, i64_w, i32_w]
                  rfl
                refine pure_ (i := 17) (N := some 32) (v := ?_) (a' := ?_) #[true, true, true, true, true, true, true, true, true, true, true, true, true, true, true, true, true, true, false, false, false, false, false, false] rfl rfl (by kernel_rfl) (fun _ _ _ h => h) (Or.inl ⟨by rfl, ?_⟩) ?_ ?_
                rotate_left
                · intro w'
                  go_simp
                  with_reducible rfl
                rotate_left
                · simp only [Act.put, List.setIfInBounds_toArray, List.set_cons_zero, List.set_cons_succ, i64_w, i32_w]
                  rfl
                refine take_ (i := 18) (N := some 33) (v := ?_) (a' := ?_) #[true, true, true, true, true, true, true, true, true, true, true, true, true, true, true, true, true, true, true, false, false, false, false, false] rfl rfl (by kernel_rfl) (fun _ _ _ h => h) (Or.inl ⟨by rfl, ?_⟩) hHeld ?_ ?_
                rotate_left
                · rintro w' ⟨⟨s0, s1, s2, s3, s4⟩, ⟨s5, s6, s7, s8, s9⟩, s10⟩
                  go_simp
                  with_reducible rfl
                rotate_left
                · simp only [Act.put, List.setIfInBounds_toArray, List.set_cons_zero, List.set_cons_succ, i64_w, i32_w]
                  rfl
                refine take_ (i := 19) (N := some 34) (v := ?_) (a' := ?_) #[true, true, true, true, true, true, true, true, true, true, true, true, true, true, true, true, true, true, true, true, false, false, false, false] rfl rfl (by kernel_rfl) (fun _ _ _ h => h) (Or.inl ⟨by rfl, ?_⟩) hHeld ?_ ?_
                rotate_left
                · rintro w' ⟨⟨s0, s1, s2, s3, s4⟩, ⟨s5, s6, s7, s8, s9⟩, s10⟩
                  go_simp
                  with_reducible rfl
                rotate_left
                · simp only [Act.put, List.setIfInBounds_toArray, List.set_cons_zero, List.set_cons_succ, i64_w, i32_w]
                  rfl
                refine one_ (i := 20) (N := some 35) #[true, true, true, true, true, true, true, true, true, true, true, true, true, true, true, true, true, true, true, true, true, false, false, false] rfl rfl (by kernel_rfl) (by decide) (fun K hK => ?_)
                refine goes_ Try.func27 (by kernel_rfl) rfl #[.agg #[.int .u32 (rd_T27 l0 ((kk : Int) - 1)).f0, .int .u32 (rd_T27 l0 ((kk : Int) - 1)).f1, .int .u32 (rd_T27 l0 ((kk : Int) - 1)).f2, .int .u32 (rd_T27 l0 ((kk : Int) - 1)).f3, .int .u32 (rd_T27 l0 ((kk : Int) - 1)).f4], .agg #[.int .u32 (rd_T27 l0 kk).f0, .int .u32 (rd_T27 l0 kk).f1, .int .u32 (rd_T27 l0 kk).f2, .int .u32 (rd_T27 l0 kk).f3, .int .u32 (rd_T27 l0 kk).f4]] (by rfl) rfl rfl (by (try simp only [List.map_toArray, List.map_cons, List.map_nil]); first | done | rfl) ?_
                refine (HC3.out _).mono ?_
                rintro e w2 ⟨rfl, hb⟩
                refine ⟨_, rfl, ?_⟩
                refine hK.out _ _ (H10.kept hb hHeld) (fun hHeld => ?_)
                clear hK K
                refine norm_ (a' := ?_) ?_ ?_
                rotate_left
                · show Act.put _ (some 35) _ = _
                  simp only [Act.put, List.setIfInBounds_toArray, List.set_cons_zero, List.set_cons_succ, i64_w, i32_w]
                  rfl
                refine pure_ (i := 21) (N := some 36) (v := ?_) (a' := ?_) #[true, true, true, true, true, true, true, true, true, true, true, true, true, true, true, true, true, true, true, true, true, true, false, false] rfl rfl (by kernel_rfl) (fun _ _ _ h => h) (Or.inl ⟨by rfl, ?_⟩) ?_ ?_
                rotate_left
                · intro w'
                  go_simp
                  with_reducible rfl
                rotate_left
                · simp only [Act.put, List.setIfInBounds_toArray, List.set_cons_zero, List.set_cons_succ, i64_w, i32_w]
                  rfl
                refine pure_ (i := 22) (N := some 37) (v := ?_) (a' := ?_) #[true, true, true, true, true, true, true, true, true, true, true, true, true, true, true, true, true, true, true, true, true, true, true, false] rfl rfl (by kernel_rfl) (fun _ _ _ h => h) (Or.inl ⟨by rfl, ?_⟩) ?_ ?_
                rotate_left
                · intro w'
                  go_simp
                  with_reducible rfl
                rotate_left
                · simp only [Act.put, List.setIfInBounds_toArray, List.set_cons_zero, List.set_cons_succ, i64_w, i32_w]
                  rfl
                refine pure_ (i := 23) (N := some 38) (v := ?_) (a' := ?_) #[true, true, true, true, true, true, true, true, true, true, true, true, true, true, true, true, true, true, true, true, true, true, true, true] rfl rfl (by kernel_rfl) (fun _ _ _ h => h) (Or.inl ⟨by rfl, ?_⟩) ?_ ?_
                rotate_left
                · intro w'
                  go_simp
                  with_reducible rfl
                rotate_left
                · simp only [Act.put, List.setIfInBounds_toArray, List.set_cons_zero, List.set_cons_succ, i64_w, i32_w]
                  rfl
                refine done_ (by kernel_rfl) ?_
                have HS := Lib.hid (show H10 (wr.alloc (.cells (cellsOf (rd_T27 l0 kk)) 27)) wr.heap.size (rd_T27 l0 kk) (ad.add ((kk - 1) * 5)) (rd_T27 l0 ((kk : Int) - 1)) w2 from hHeld)
                have HB2 : Hid (Below w.heap.size w w2) := Lib.hid ((HB.out.alloc HB.out.size _).trans (HS.out.below.mono (by have := HB.out.size; simp; omega)))
                clear hHeld
                go_wp2
                go_ret
                exact ⟨by rw [right_no l0 kk hlt (by unfold rightAt; rw [HO.out, decide_eq_false HK0.out]; simp)]; rfl, HB2.out⟩
              · have HO : Hid (decide (cmpB (rd_T27 l0 ((kk : Int) - 1)) (rd_T27 l0 kk) < 0) = true) := Lib.hid (decide_eq_true (by rw [HCM.out]; omega))
                have hod : decide (cm ≥ 0) = false := decide_eq_false hord
                have HOK : Hid ((l0.take kk).any (fun x => clashB x (rd_T27 l0 kk)) = false → rightAt l0 kk = true) := Lib.hid (fun h => by unfold rightAt; rw [HONE.out, HM.out, h, HO.out]; simp)
                clear hord
                go_wp2_with fail
                have START := Lib.hid (show H10 (wr.alloc (.cells (cellsOf (rd_T27 l0 kk)) 27)) wr.heap.size (rd_T27 l0 kk) (ad.add ((kk - 1) * 5)) (rd_T27 l0 ((kk : Int) - 1)) (wr.alloc (.cells (cellsOf (rd_T27 l0 kk)) 27)) from ⟨CC.out, ⟨kept (boxed wr _) g0, kept (boxed wr _) g1, kept (boxed wr _) g2, kept (boxed wr _) g3, kept (boxed wr _) g4⟩, Below.refl _ _⟩)
                refine start_ (n := 24) (S := (fun w' => (w'.cell? ⟨wr.heap.size, 0, none⟩ = some (.int .u32 (rd_T27 l0 kk).f0) ∧ w'.cell? ⟨wr.heap.size, 1, none⟩ = some (.int .u32 (rd_T27 l0 kk).f1) ∧ w'.cell? ⟨wr.heap.size, 2, none⟩ = some (.int .u32 (rd_T27 l0 kk).f2) ∧ w'.cell? ⟨wr.heap.size, 3, none⟩ = some (.int .u32 (rd_T27 l0 kk).f3) ∧ w'.cell? ⟨wr.heap.size, 4, none⟩ = some (.int .u32 (rd_T27 l0 kk).f4)) ∧ (w'.cell? (ad.add ((kk - 1) * 5)) = some (.int .u32 (rd_T27 l0 ((kk : Int) - 1)).f0) ∧ w'.cell? ⟨(ad.add ((kk - 1) * 5)).block, (ad.add ((kk - 1) * 5)).off + 1, none⟩ = some (.int .u32 (rd_T27 l0 ((kk : Int) - 1)).f1) ∧ w'.cell? ⟨(ad.add ((kk - 1) * 5)).block, (ad.add ((kk - 1) * 5)).off + 2, none⟩ = some (.int .u32 (rd_T27 l0 ((kk : Int) - 1)).f2) ∧ w'.cell? ⟨(ad.add ((kk - 1) * 5)).block, (ad.add ((kk - 1) * 5)).off + 3, none⟩ = some (.int .u32 (rd_T27 l0 ((kk : Int) - 1)).f3) ∧ w'.cell? ⟨(ad.add ((kk - 1) * 5)).block, (ad.add ((kk - 1) * 5)).off + 4, none⟩ = some (.int .u32 (rd_T27 l0 ((kk : Int) - 1)).f4)) ∧ Below (wr.alloc (.cells (cellsOf (rd_T27 l0 kk)) 27)).heap.size (wr.alloc (.cells (cellsOf (rd_T27 l0 kk)) 27)) w')) (ds := []) #[false, false, false, false, false, false, false, false, false, false, false, false, false, false, false, false, false, false, false, false, false, false, false, false] (by kernel_rfl) rfl rfl (H10.drew START.out) (fun hHeld => ?_)
                refine take_ (i := 0) (N := some 15) (v := ?_) (a' := ?_) #[true, false, false, false, false, false, false, false, false, false, false, false, false, false, false, false, false, false, false, false, false, false, false, false] rfl rfl (by kernel_rfl) (fun _ _ _ h => h) (Or.inl ⟨by rfl, ?_⟩) hHeld ?_ ?_
                rotate_left
                · rintro w' ⟨⟨s0, s1, s2, s3, s4⟩, ⟨s5, s6, s7, s8, s9⟩, s10⟩
                  go_simp
                  with_reducible rfl
                rotate_left
                · simp only [Act.put, List.setIfInBounds_toArray, List.set_cons_zero, List.set_cons_succ, i64_w, i32_w]
                  rfl
                refine one_ (i := 1) (N := some 16) #[true, true, false, false, false, false, false, false, false, false, false, false, false, false, false, false, false, false, false, false, false, false, false, false] rfl rfl (by kernel_rfl) (by decide) (fun K hK => ?_)
                refine goes_ Try.func25 (by kernel_rfl) rfl #[.agg #[.int .u32 (rd_T27 l0 kk).f0, .int .u32 (rd_T27 l0 kk).f1, .int .u32 (rd_T27 l0 kk).f2, .int .u32 (rd_T27 l0 kk).f3, .int .u32 (rd_T27 l0 kk).f4]] (by rfl) rfl rfl (by (try simp only [List.map_toArray, List.map_cons, List.map_nil]); first | done | rfl) ?_
                refine (HC1.out _).mono ?_
                rintro e w2 ⟨rfl, hb⟩
                refine ⟨_, rfl, ?_⟩
                refine hK.out _ _ (H10.kept hb hHeld) (fun hHeld => ?_)
                clear hK K
                refine norm_ (a' := ?_) ?_ ?_
                rotate_left
                · show Act.put _ (some 16) _ = _
                  simp only [Act.put, List.setIfInBounds_toArray, List.set_cons_zero, List.set_cons_succ, i64_w, i32_w]
                  rfl
                refine pure_ (i := 2) (N := some 17) (v := ?_) (a' := ?_) #[true, true, true, false, false, false, false, false, false, false, false, false, false, false, false, false, false, false, false, false, false, false, false, false] rfl rfl (by kernel_rfl) (fun _ _ _ h => h) (Or.inl ⟨by rfl, ?_⟩) ?_ ?_
                rotate_left
                · intro w'
                  go_simp
                  with_reducible rfl
                rotate_left
                · simp only [Act.put, List.setIfInBounds_toArray, List.set_cons_zero, List.set_cons_succ, i64_w, i32_w]
                  rfl
                refine pure_ (i := 3) (N := some 18) (v := ?_) (a' := ?_) #[true, true, true, true, false, false, false, false, false, false, false, false, false, false, false, false, false, false, false, false, false, false, false, false] rfl rfl (by kernel_rfl) (fun _ _ _ h => h) (Or.inl ⟨by rfl, ?_⟩) ?_ ?_
                rotate_left
                · intro w'
                  go_simp
                  with_reducible rfl
                rotate_left
                · simp only [Act.put, List.setIfInBounds_toArray, List.set_cons_zero, List.set_cons_succ, i64_w, i32_w]
                  rfl
                refine pure_ (i := 4) (N := some 19) (v := ?_) (a' := ?_) #[true, true, true, true, true, false, false, false, false, false, false, false, false, false, false, false, false, false, false, false, false, false, false, false] rfl rfl (by kernel_rfl) (fun _ _ _ h => h) (Or.inl ⟨by rfl, ?_⟩) ?_ ?_
                rotate_left
                · intro w'
                  go_simp
                  with_reducible rfl
                rotate_left
                · simp only [Act.put, List.setIfInBounds_toArray, List.set_cons_zero, List.set_cons_succ, i64_w, i32_w]
                  rfl
                refine pure_ (i := 5) (N := some 20) (v := ?_) (a' := ?_) #[true, true, true, true, true, true, false, false, false, false, false, false, false, false, false, false, false, false, false, false, false, false, false, false] rfl rfl (by kernel_rfl) (fun _ _ _ h => h) (Or.inl ⟨by rfl, ?_⟩) ?_ ?_
                rotate_left
                · intro w'
                  go_simp
                  with_reducible rfl
                rotate_left
                · simp only [Act.put, List.setIfInBounds_toArray, List.set_cons_zero, List.set_cons_succ, i64_w, i32_w]
                  rfl
                refine take_ (i := 6) (N := some 21) (v := ?_) (a' := ?_) #[true, true, true, true, true, true, true, false, false, false, false, false, false, false, false, false, false, false, false, false, false, false, false, false] rfl rfl (by kernel_rfl) (fun _ _ _ h => h) (Or.inl ⟨by rfl, ?_⟩) hHeld ?_ ?_
                rotate_left
                · rintro w' ⟨⟨s0, s1, s2, s3, s4⟩, ⟨s5, s6, s7, s8, s9⟩, s10⟩
                  go_simp
                  with_reducible rfl
                rotate_left
                · simp only [Act.put, List.setIfInBounds_toArray, List.set_cons_zero, List.set_cons_succ, i64_w, i32_w]
                  rfl
                refine one_ (i := 7) (N := some 22) #[true, true, true, true, true, true, true, true, false, false, false, false, false, false, false, false, false, false, false, false, false, false, false, false] rfl rfl (by kernel_rfl) (by decide) (fun K hK => ?_)
                refine goes_ Try.func26 (by kernel_rfl) rfl #[.slice (some ad) l0.length c0, .int .u32 (rd_T27 l0 kk).f0] (by rfl) rfl rfl (by (try simp only [List.map_toArray, List.map_cons, List.map_nil]); first | done | rfl) ?_
                refine (HC2.out _ (Kd.C_below HR1.out (H10.below hHeld))).mono ?_
                rintro e w2 ⟨rfl, hb⟩
                refine ⟨_, rfl, ?_⟩
                refine hK.out _ _ (H10.kept hb hHeld) (fun hHeld => ?_)
                clear hK K
                refine norm_ (a' := ?_) ?_ ?_
                rotate_left
                · show Act.put _ (some 22) _ = _
                  simp only [Act.put, List.setIfInBounds_toArray, List.set_cons_zero, List.set_cons_succ, i64_w, i32_w]
                  rfl
                refine pure_ (i := 8) (N := some 23) (v := ?_) (a' := ?_) #[true, true, true, true, true, true, true, true, true, false, false, false, false, false, false, false, false, false, false, false, false, false, false, false] rfl rfl (by kernel_rfl) (fun _ _ _ h => h) (Or.inl ⟨by rfl, ?_⟩) ?_ ?_
                rotate_left
                · intro w'
                  go_simp
                  with_reducible rfl
                rotate_left
                · simp only [Act.put, List.setIfInBounds_toArray, List.set_cons_zero, List.set_cons_succ, i64_w, i32_w]
                  rfl
                refine pure_ (i := 9) (N := some 24) (v := ?_) (a' := ?_) #[true, true, true, true, true, true, true, true, true, true, false, false, false, false, false, false, false, false, false, false, false, false, false, false] rfl rfl (by kernel_rfl) (fun _ _ _ h => h) (Or.inl ⟨by rfl, ?_⟩) ?_ ?_
                rotate_left
                · intro w'
                  go_simp
                  with_reducible rfl
                rotate_left
                · simp only [Act.put, List.setIfInBounds_toArray, List.set_cons_zero, List.set_cons_succ, i64_w, i32_w]
                  rfl
                refine pure_ (i := 10) (N := some 25) (v := ?_) (a' := ?_) #[true, true, true, true, true, true, true, true, true, true, true, false, false, false, false, false, false, false, false, false, false, false, false, false] rfl rfl (by kernel_rfl) (fun _ _ _ h => h) (Or.inl ⟨by rfl, ?_⟩) ?_ ?_
                rotate_left
                · intro w'
                  go_simp
                  with_reducible rfl
                rotate_left
                · simp only [Act.put, List.setIfInBounds_toArray, List.set_cons_zero, List.set_cons_succ, i64_w, i32_w]
                  rfl
                refine pure_ (i := 11) (N := some 26) (v := ?_) (a' := ?_) #[true, true, true, true, true, true, true, true, true, true, true, true, false, false, false, false, false, false, false, false, false, false, false, false] rfl rfl (by kernel_rfl) (fun _ _ _ h => h) (Or.inl ⟨by rfl, ?_⟩) ?_ ?_
                rotate_left
                · intro w'
                  go_simp
                  with_reducible rfl
                rotate_left
                · simp only [Act.put, List.setIfInBounds_toArray, List.set_cons_zero, List.set_cons_succ, i64_w, i32_w]
                  rfl
                refine pure_ (i := 12) (N := some 27) (v := ?_) (a' := ?_) #[true, true, true, true, true, true, true, true, true, true, true, true, true, false, false, false, false, false, false, false, false, false, false, false] rfl rfl (by kernel_rfl) (fun _ _ _ h => h) (Or.inl ⟨by rfl, ?_⟩) ?_ ?_
                rotate_left
                · intro w'
                  go_simp
                  with_reducible rfl
                rotate_left
                · simp only [Act.put, List.setIfInBounds_toArray, List.set_cons_zero, List.set_cons_succ, i64_w, i32_w]
                  rfl
                refine pure_ (i := 13) (N := some 28) (v := ?_) (a' := ?_) #[true, true, true, true, true, true, true, true, true, true, true, true, true, true, false, false, false, false, false, false, false, false, false, false] rfl rfl (by kernel_rfl) (fun _ _ _ h => h) (Or.inl ⟨by rfl, ?_⟩) ?_ ?_
                rotate_left
                · intro w'
                  go_simp
                  with_reducible rfl
                rotate_left
                · simp only [Act.put, List.setIfInBounds_toArray, List.set_cons_zero, List.set_cons_succ, i64_w, i32_w]
                  rfl
                refine pure_ (i := 14) (N := some 29) (v := ?_) (a' := ?_) #[true, true, true, true, true, true, true, true, true, true, true, true, true, true, true, false, false, false, false, false, false, false, false, false] rfl rfl (by kernel_rfl) (fun _ _ _ h => h) (Or.inl ⟨by rfl, ?_⟩) ?_ ?_
                rotate_left
                · intro w'
                  go_simp
                  with_reducible rfl
                rotate_left
                · simp only [Act.put, List.setIfInBounds_toArray, List.set_cons_zero, List.set_cons_succ, i64_w, i32_w]
                  rfl
                refine pure_ (i := 15) (N := some 30) (v := ?_) (a' := ?_) #[true, true, true, true, true, true, true, true, true, true, true, true, true, true, true, true, false, false, false, false, false, false, false, false] rfl rfl (by kernel_rfl) (fun _ _ _ h => h) (Or.inl ⟨by rfl, ?_⟩) ?_ ?_
                rotate_left
                · intro w'
                  go_simp
                  with_reducible rfl
                rotate_left
                · simp only [Act.put, List.setIfInBounds_toArray, List.set_cons_zero, List.set_cons_succ, i64_w, i32_w]
                  rfl
                refine pure_ (i := 16) (N := some 31) (v := ?_) (a' := ?_) #[true, true, true, true, true, true, true, true, true, true, true, true, true, true, true, true, true, false, false, false, false, false, false, false] rfl rfl (by kernel_rfl) (fun _ _ _ h => h) (Or.inl ⟨by rfl, ?_⟩) ?_ ?_
                rotate_left
                · intro w'
                  go_simp
                  with_reducible rfl
                rotate_left
                · simp only [Act.put, List.setIfInBounds_toArray, List.set_cons_zero, List.set_cons_succ, i64_w, i32_w]
                  rfl
                refine pure_ (i := 17) (N := some 32) (v := ?_) (a' := ?_) #[true, true, true, true, true, true, true, true, true, true, true, true, true, true, true, true, true, true, false, false, false, false, false, false] rfl rfl (by kernel_rfl) (fun _ _ _ h => h) (Or.inl ⟨by rfl, ?_⟩) ?_ ?_
                rotate_left
                · intro w'
                  go_simp
                  with_reducible rfl
                rotate_left
                · simp only [Act.put, List.setIfInBounds_toArray, List.set_cons_zero, List.set_cons_succ, i64_w, i32_w]
                  rfl
                refine take_ (i := 18) (N := some 33) (v := ?_) (a' := ?_) #[true, true, true, true, true, true, true, true, true, true, true, true, true, true, true, true, true, true, true, false, false, false, false, false] rfl rfl (by kernel_rfl) (fun _ _ _ h => h) (Or.inl ⟨by rfl, ?_⟩) hHeld ?_ ?_
                rotate_left
                · rintro w' ⟨⟨s0, s1, s2, s3, s4⟩, ⟨s5, s6, s7, s8, s9⟩, s10⟩
                  go_simp
                  with_reducible rfl
                rotate_left
                · simp only [Act.put, List.setIfInBounds_toArray, List.set_cons_zero, List.set_cons_succ, i64_w, i32_w]
                  rfl
                refine take_ (i := 19) (N := some 34) (v := ?_) (a' := ?_) #[true, true, true, true, true, true, true, true, true, true, true, true, true, true, true, true, true, true, true, true, false, false, false, false] rfl rfl (by kernel_rfl) (fun _ _ _ h => h) (Or.inl ⟨by rfl, ?_⟩) hHeld ?_ ?_
                rotate_left
                · rintro w' ⟨⟨s0, s1, s2, s3, s4⟩, ⟨s5, s6, s7, s8, s9⟩, s10⟩
                  go_simp
                  with_reducible rfl
                rotate_left
                · simp only [Act.put, List.setIfInBounds_toArray, List.set_cons_zero, List.set_cons_succ, i64_w, i32_w]
                  rfl
                refine one_ (i := 20) (N := some 35) #[true, true, true, true, true, true, true, true, true, true, true, true, true, true, true, true, true, true, true, true, true, false, false, false] rfl rfl (by kernel_rfl) (by decide) (fun K hK => ?_)
                refine goes_ Try.func27 (by kernel_rfl) rfl #[.agg #[.int .u32 (rd_T27 l0 ((kk : Int) - 1)).f0, .int .u32 (rd_T27 l0 ((kk : Int) - 1)).f1, .int .u32 (rd_T27 l0 ((kk : Int) - 1)).f2, .int .u32 (rd_T27 l0 ((kk : Int) - 1)).f3, .int .u32 (rd_T27 l0 ((kk : Int) - 1)).f4], .agg #[.int .u32 (rd_T27 l0 kk).f0, .int .u32 (rd_T27 l0 kk).f1, .int .u32 (rd_T27 l0 kk).f2, .int .u32 (rd_T27 l0 kk).f3, .int .u32 (rd_T27 l0 kk).f4]] (by rfl) rfl rfl (by (try simp only [List.map_toArray, List.map_cons, List.map_nil]); first | done | rfl) ?_
                refine (HC3.out _).mono ?_
                rintro e w2 ⟨rfl, hb⟩
                refine ⟨_, rfl, ?_⟩
                refine hK.out _ _ (H10.kept hb hHeld) (fun hHeld => ?_)
                clear hK K
                refine norm_ (a' := ?_) ?_ ?_
                rotate_left
                · show Act.put _ (some 35) _ = _
                  simp only [Act.put, List.setIfInBounds_toArray, List.set_cons_zero, List.set_cons_succ, i64_w, i32_w]
                  rfl
                refine pure_ (i := 21) (N := some 36) (v := ?_) (a' := ?_) #[true, true, true, true, true, true, true, true, true, true, true, true, true, true, true, true, true, true, true, true, true, true, false, false] rfl rfl (by kernel_rfl) (fun _ _ _ h => h) (Or.inl ⟨by rfl, ?_⟩) ?_ ?_
                rotate_left
                · intro w'
                  go_simp
                  with_reducible rfl
                rotate_left
                · simp only [Act.put, List.setIfInBounds_toArray, List.set_cons_zero, List.set_cons_succ, i64_w, i32_w]
                  rfl
                refine pure_ (i := 22) (N := some 37) (v := ?_) (a' := ?_) #[true, true, true, true, true, true, true, true, true, true, true, true, true, true, true, true, true, true, true, true, true, true, true, false] rfl rfl (by kernel_rfl) (fun _ _ _ h => h) (Or.inl ⟨by rfl, ?_⟩) ?_ ?_
                rotate_left
                · intro w'
                  go_simp
                  with_reducible rfl
                rotate_left
                · simp only [Act.put, List.setIfInBounds_toArray, List.set_cons_zero, List.set_cons_succ, i64_w, i32_w]
                  rfl
                refine pure_ (i := 23) (N := some 38) (v := ?_) (a' := ?_) #[true, true, true, true, true, true, true, true, true, true, true, true, true, true, true, true, true, true, true, true, true, true, true, true] rfl rfl (by kernel_rfl) (fun _ _ _ h => h) (Or.inl ⟨by rfl, ?_⟩) ?_ ?_
                rotate_left
                · intro w'
                  go_simp
                  with_reducible rfl
                rotate_left
                · simp only [Act.put, List.setIfInBounds_toArray, List.set_cons_zero, List.set_cons_succ, i64_w, i32_w]
                  rfl
                refine done_ (by kernel_rfl) ?_
                have HS := Lib.hid (show H10 (wr.alloc (.cells (cellsOf (rd_T27 l0 kk)) 27)) wr.heap.size (rd_T27 l0 kk) (ad.add ((kk - 1) * 5)) (rd_T27 l0 ((kk : Int) - 1)) w2 from hHeld)
                have HB2 : Hid (Below w.heap.size w w2) := Lib.hid ((HB.out.alloc HB.out.size _).trans (HS.out.below.mono (by have := HB.out.size; simp; omega)))
                clear hHeld
                have HK := Lib.hid (below_old (alloc_at wr (.cells (cellsOf (rd_T27 l0 kk)) 27)) HS.out.below)
                have HC4 := Lib.hid (contains_calls (some ad) c0 (l0.take kk) 29 #[.pointer (some ⟨wr.heap.size, 0, none⟩)] (fun x => clashB x (rd_T27 l0 kk)) w2 (Kd.C_take (Kd.C_below HR.out HB2.out) hkk) (by have := HL.out; simp; omega) (enters_of Try.func29 (by kernel_rfl) rfl) (right_pred (rd_T27 l0 kk) wr.heap.size w2 HK.out))
                have hlt0 : (l0.take kk).length = kk := by simp; omega
                rw [hlt0] at HC4
                clear hlt0
                cases hany : (l0.take kk).any (fun x => clashB x (rd_T27 l0 kk)) with
                | true =>
                  have HA := Lib.hid hany
                  rw [hany] at HC4
                  clear hany
                  go_wp2_with (go_at_call 28; refine HC4.out.mono ?_; rintro e w3 ⟨rfl, hb3⟩; have HB3 : Hid (Below w.heap.size w w3) := Lib.hid (HB2.out.trans (hb3.mono HB2.out.size)); clear hb3)
                  go_ret
                  exact ⟨by rw [right_no l0 kk hlt (by unfold rightAt; rw [HA.out]; simp)]; rfl, HB3.out⟩
                | false =>
                  have HA := Lib.hid hany
                  rw [hany] at HC4
                  clear hany
                  have hw2 : IntKind.i64.wrap ((kk : Int) + 1) = kk + 1 := IntWalk.i64_in _ (by have := HL.out; omega)
                  go_wp2_with (go_at_call 28; refine HC4.out.mono ?_; rintro e w3 ⟨rfl, hb3⟩; have HB3 : Hid (Below w.heap.size w w3) := Lib.hid (HB2.out.trans (hb3.mono HB2.out.size)); clear hb3)
                  go_roundg (l0.length - (kk + 1))
                  case measure => omega
                  case rel =>
                    refine ⟨kk + 1, by omega, by omega, by simp, HB3, Lib.hid (fun j hj => ?_)⟩
                    by_cases hjk : j = kk
                    · subst hjk
                      exact HOK.out HA.out
                    · exact HN.out j (by omega)
      · have hltz : decide ((kk : Int) < (l0.length : Int)) = false := decide_eq_false (by omega)
        have hk : kk = l0.length := by omega
        go_wp2
        go_ret
        exact ⟨by rw [right_yes l0 HL.out (fun j hj => HN.out j (by omega))]; rfl, HB.out⟩
end Go.Proofs.Ytecbfpdkbackmaa.Share
