/- Layer hold: the document's ask for a hold, of a lock that came in: the walk, a theorem for each way. -/
import Derived.Test.YtkcacfnefhakbaaHoldLaws
import Derived.Test.YtkcacfnefhakbaaHoldRefs
import Derived.Test.YtkcacfnefhakbaaP12x11
import Derived.Test.YtkcacfnefhakbaaHoldTurn
namespace Go.Proofs.Ytkcacfnefhakbaa.HoldL
open Go.RowKit Go.Shelf Go.Blk Go.Proofs.Ytkcacfnefhakbaa.P12 Go.Proofs.YtkcacfnefhakbaaW.PrintWords Go.Proofs.YtkcacfnefhakbaaW.PrintLast Go.Proofs.YtkcacfnefhakbaaW.PrintMore
set_option linter.unusedVariables false
set_option linter.unusedSimpArgs false

def doneB (l : List S40) (cl : Int) (i : Nat) : Bool := (l.take i).any (fun y => decide (cl < y.f0))
def outF (l : List S40) (x : S40) (i : Nat) : List S40 := if doneB l x.f0 i = true then insH (l.take i) x else l.take i
theorem out_zero (l : List S40) (x : S40) : outF l x 0 = [] := by unfold outF doneB; simp
theorem out_len (l : List S40) (x : S40) (i : Nat) : (outF l x i).length ≤ l.length + 1 := by
  unfold outF
  split
  · rw [len_ins]; simp; omega
  · simp; omega
theorem done_next {l : List S40} {i : Nat} (h : i < l.length) (cl : Int) : doneB l cl (i + 1) = (doneB l cl i || decide (cl < l[i].f0)) := by
  unfold doneB
  rw [List.take_succ_eq_append_getElem h, List.any_append]
  simp
theorem ins_snoc (l : List S40) (x y : S40) (h : ¬ y.f0 < x.f0) : insH (l ++ [y]) x = insH l x ++ [y] := by
  unfold insH
  simp [List.filter_append, List.filter_cons, h]
theorem ins_low {l : List S40} {x : S40} (h : ∀ y ∈ l, y.f0 < x.f0) : insH l x = l ++ [x] := by
  unfold insH
  rw [List.filter_eq_self.2 (fun y hy => by simp [h y hy]), List.filter_eq_nil_iff.2 (fun y hy => by simp [h y hy])]
theorem low_of {l : List S40} {x : S40} {i : Nat} (hd : doneB l x.f0 i = false) (hne : ∀ y ∈ l, ¬ y.f0 = x.f0) : ∀ y ∈ l.take i, y.f0 < x.f0 := by
  intro y hy
  unfold doneB at hd
  rw [List.any_eq_false] at hd
  have h1 := hd y hy
  have h2 := hne y (List.mem_of_mem_take hy)
  simp at h1; omega
theorem out_done {l : List S40} {x : S40} {i : Nat} (h : i < l.length) (hs : Strict l) (hd : doneB l x.f0 i = true) : outF l x (i + 1) = outF l x i ++ [l[i]] ∧ doneB l x.f0 (i + 1) = true := by
  have hd2 : doneB l x.f0 (i + 1) = true := by rw [done_next h, hd]; rfl
  refine ⟨?_, hd2⟩
  unfold outF
  rw [if_pos hd2, if_pos hd, List.take_succ_eq_append_getElem h]
  refine ins_snoc _ _ _ ?_
  unfold doneB at hd
  rw [List.any_eq_true] at hd
  obtain ⟨y, hy, hyx⟩ := hd
  simp only [decide_eq_true_eq] at hyx
  rw [List.mem_take_iff_getElem] at hy
  obtain ⟨j, hj, rfl⟩ := hy
  unfold Strict at hs
  rw [List.pairwise_iff_getElem] at hs
  have := hs j i (by omega) h (by omega)
  omega
theorem out_put {l : List S40} {x : S40} {i : Nat} (h : i < l.length) (hne : ∀ y ∈ l, ¬ y.f0 = x.f0) (hd : doneB l x.f0 i = false) (hy : x.f0 < l[i].f0) : outF l x (i + 1) = (outF l x i ++ [x]) ++ [l[i]] ∧ doneB l x.f0 (i + 1) = true := by
  have hd2 : doneB l x.f0 (i + 1) = true := by rw [done_next h, hd, decide_eq_true hy]; rfl
  refine ⟨?_, hd2⟩
  unfold outF
  rw [if_pos hd2, hd, if_neg (by decide), List.take_succ_eq_append_getElem h, ins_snoc _ _ _ (by omega), ins_low (low_of hd hne)]
theorem out_skip {l : List S40} {x : S40} {i : Nat} (h : i < l.length) (hd : doneB l x.f0 i = false) (hy : ¬ x.f0 < l[i].f0) : outF l x (i + 1) = outF l x i ++ [l[i]] ∧ doneB l x.f0 (i + 1) = false := by
  have hd2 : doneB l x.f0 (i + 1) = false := by rw [done_next h, hd, decide_eq_false hy]; rfl
  refine ⟨?_, hd2⟩
  unfold outF
  rw [hd2, hd, if_neg (by decide), if_neg (by decide), List.take_succ_eq_append_getElem h]
theorem out_end (l : List S40) (x : S40) (hne : ∀ y ∈ l, ¬ y.f0 = x.f0) : (doneB l x.f0 l.length = true ∧ outF l x l.length = insH l x) ∨ (doneB l x.f0 l.length = false ∧ outF l x l.length ++ [x] = insH l x) := by
  have ht : l.take l.length = l := List.take_of_length_le (Nat.le_refl _)
  cases hd : doneB l x.f0 l.length with
  | true => exact .inl ⟨rfl, by unfold outF; rw [if_pos hd, ht]⟩
  | false =>
    refine .inr ⟨rfl, ?_⟩
    have h1 := low_of hd hne
    rw [ht] at h1
    unfold outF
    rw [hd, if_neg (by decide), ht, ins_low h1]
theorem R_both {W : World} {base : Nat} {ok : Nat → Prop} {A : Option Addr} {n c' : Nat} {l : List S40} (h : Kd.R k40 40 W base ok (.slice A n c') l) : Kd.C k40 W A l.length l ∧ l.length ≤ c' := ⟨(Kd.R_reads' h).2.2, by have h1 := (Kd.R_reads' h).1; have h2 := (Kd.R_reads' h).2.1; omega⟩

set_option maxHeartbeats 4000000 in
theorem ref_no1 (f e u c : Int) (fc g : Bool) (A0 : Option Addr) (c0 : Nat) (l : List S40) (cl m : Int) (w : World) (hr0 : Kd.C k40 w A0 l.length l) (hc0 : l.length ≤ c0) (hl : l.length ≤ 100) (hr : rightB u c fc g l = false) :
    Calls Try.prog 18 #[.agg (lockA f e u c fc g (.slice A0 l.length c0)), .int .u32 cl, .int .u32 m] w fun ex w' => ∃ A' c', ex = .returned (.tuple #[.agg (lockA 0 0 0 0 false false (.slice A' ([] : List S40).length c')), .int .i64 0, .int .i64 1]) ∧ Kd.C k40 w' A' ([] : List S40).length ([] : List S40) ∧ ([] : List S40).length ≤ c' ∧ Below w.heap.size w w' := by
  obtain ⟨w2, hw2⟩ : ∃ w2, (w.alloc (.cells (lockA f e u c fc g (.slice A0 l.length c0)) 25)).alloc (.cells zlock 25) = w2 := ⟨_, rfl⟩
  have hs2 : w2.heap.size = w.heap.size + 2 := by rw [← hw2]; simp
  have HB2 := Lib.hid (show Below w.heap.size w w2 by rw [← hw2]; have h1 := boxed w (.cells (lockA f e u c fc g (.slice A0 l.length c0)) 25); exact h1.alloc h1.size _)
  have BL2 := Lib.hid (show w2.heap[w.heap.size]? = some (.cells (lockA f e u c fc g (.slice A0 l.length c0)) 25 (0, 0)) by rw [← hw2]; exact alloc_old (alloc_at w _) _)
  have BZ2 := Lib.hid (show w2.heap[w.heap.size + 1]? = some (.cells zlock 25 (0, 0)) by rw [← hw2]; have := alloc_at (w.alloc (.cells (lockA f e u c fc g (.slice A0 l.length c0)) 25)) (.cells zlock 25); simpa using this)
  have HRT := Lib.hid (fun W h => lamellaref12_Right.calls 4200 f e u c fc g A0 c0 l false W h hc0 (by rw [refRight_f f e u c fc g l (by omega) 4200 (by omega), hr]))
  have hne1 : ¬ w.heap.size + 1 = w.heap.size := by omega
  have hne2 : ¬ w.heap.size = w.heap.size + 1 := by omega
  have HR := Lib.hid hr0
  have HL := Lib.hid hl
  have hx := blk7 BL2.out
  have hz := blk7 BZ2.out
  have HS2 := Lib.hid (show w.heap.size + 2 ≤ w2.heap.size by omega)
  clear hs2
  clear hr0 hc0 hl hr
  go_enter Try.func18, Try.ntmps18
  go_wp2_with (first | (go_at_call 10; refine (HRT.out _ (Kd.C_below HR.out HB2.out)).mono ?_; rintro ex w3 ⟨rfl, hb⟩; clear hw2; have HB3 := Lib.hid (HB2.out.trans (hb.mono HB2.out.size)); have HS3 := Lib.hid (Nat.le_trans HS2.out hb.size); have BL3 := Lib.hid (below_old BL2.out hb); have BZ3 := Lib.hid (below_old BZ2.out hb); clear hx hz; have hx := blk7 BL3.out; have hz := blk7 BZ3.out; clear hb))
  refine bodyPost_ret (results_list (rs := [.cell 6 25, .tmp 7, .tmp 8]) rfl (by simp) (.cell (w.heap.size + 1) 25 (zlock) (0, 0) _ rfl (put7 BZ3.out) Try.underlying25 rfl (by kernel_rfl) (.tmp (.tmp .nil)))) rfl ?_
  exact ⟨none, 0, rfl, ⟨rfl, by decide, fun h => absurd h (Nat.lt_irrefl _)⟩, Nat.le_refl _, below7 HB3.out (by omega) _ _ _ _ _ _ _⟩

set_option maxHeartbeats 4000000 in
theorem ref_no2 (f e u c : Int) (fc g : Bool) (A0 : Option Addr) (c0 : Nat) (l : List S40) (cl m : Int) (w : World) (hr0 : Kd.C k40 w A0 l.length l) (hc0 : l.length ≤ c0) (hl : l.length ≤ 100) (hr : rightB u c fc g l = true) (hm1 : ¬ m = 1) (hm2 : ¬ m = 2) :
    Calls Try.prog 18 #[.agg (lockA f e u c fc g (.slice A0 l.length c0)), .int .u32 cl, .int .u32 m] w fun ex w' => ∃ A' c', ex = .returned (.tuple #[.agg (lockA 0 0 0 0 false false (.slice A' ([] : List S40).length c')), .int .i64 0, .int .i64 1]) ∧ Kd.C k40 w' A' ([] : List S40).length ([] : List S40) ∧ ([] : List S40).length ≤ c' ∧ Below w.heap.size w w' := by
  obtain ⟨w2, hw2⟩ : ∃ w2, (w.alloc (.cells (lockA f e u c fc g (.slice A0 l.length c0)) 25)).alloc (.cells zlock 25) = w2 := ⟨_, rfl⟩
  have hs2 : w2.heap.size = w.heap.size + 2 := by rw [← hw2]; simp
  have HB2 := Lib.hid (show Below w.heap.size w w2 by rw [← hw2]; have h1 := boxed w (.cells (lockA f e u c fc g (.slice A0 l.length c0)) 25); exact h1.alloc h1.size _)
  have BL2 := Lib.hid (show w2.heap[w.heap.size]? = some (.cells (lockA f e u c fc g (.slice A0 l.length c0)) 25 (0, 0)) by rw [← hw2]; exact alloc_old (alloc_at w _) _)
  have BZ2 := Lib.hid (show w2.heap[w.heap.size + 1]? = some (.cells zlock 25 (0, 0)) by rw [← hw2]; have := alloc_at (w.alloc (.cells (lockA f e u c fc g (.slice A0 l.length c0)) 25)) (.cells zlock 25); simpa using this)
  have HRT := Lib.hid (fun W h => lamellaref12_Right.calls 4200 f e u c fc g A0 c0 l true W h hc0 (by rw [refRight_f f e u c fc g l (by omega) 4200 (by omega), hr]))
  have hne1 : ¬ w.heap.size + 1 = w.heap.size := by omega
  have hne2 : ¬ w.heap.size = w.heap.size + 1 := by omega
  obtain ⟨os, hos⟩ : ∃ os, othersF l cl m = os := ⟨_, rfl⟩
  have HOT := Lib.hid (fun W h => lamellaref12_Others.calls 4200 f e u c fc g A0 c0 l cl m os W h hc0 (by rw [refOthers_f f e u c fc g l cl m (by omega) 4200 (by omega), hos]))
  obtain ⟨mo, hmo⟩ : ∃ mo, modeF l cl = mo := ⟨_, rfl⟩
  have HMO := Lib.hid (fun W h => lamellaref12_Mode.calls 4200 f e u c fc g A0 c0 l cl mo W h hc0 (by rw [refMode_f f e u c fc g l cl (by omega) 4200 (by omega), hmo]))
  obtain ⟨l5, hl5⟩ : ∃ l5, withoutF l cl = l5 := ⟨_, rfl⟩
  have hl5n : l5.length ≤ 100 := by rw [← hl5]; exact Nat.le_trans (List.length_filter_le _ _) hl
  have HWO := Lib.hid (fun W h => lamellaref12_Without.calls 4200 f e u c fc g A0 c0 l cl f e u c fc g l5 W h hc0 (by rw [refWithout_f f e u c fc g l cl (by omega) 4200 (by omega), hl5]))
  have HR := Lib.hid hr0
  have HL := Lib.hid hl
  have hx := blk7 BL2.out
  have hz := blk7 BZ2.out
  have HS2 := Lib.hid (show w.heap.size + 2 ≤ w2.heap.size by omega)
  clear hs2
  have hn1 : (m != 1) = true := bne_iff_ne.2 hm1
  have hn2 : (m != 2) = true := bne_iff_ne.2 hm2
  have hd1 : (m == 1) = false := beq_eq_false_iff_ne.2 hm1
  have hd2 : (m == 2) = false := beq_eq_false_iff_ne.2 hm2
  have hd1' : (m = 1) = False := eq_false hm1
  have hd2' : (m = 2) = False := eq_false hm2
  clear hr0 hc0 hl hr hm1 hm2 hos hmo hl5 hl5n
  go_enter Try.func18, Try.ntmps18
  go_wp2_with (first | (go_at_call 10; refine (HRT.out _ (Kd.C_below HR.out HB2.out)).mono ?_; rintro ex w3 ⟨rfl, hb⟩; clear hw2; have HB3 := Lib.hid (HB2.out.trans (hb.mono HB2.out.size)); have HS3 := Lib.hid (Nat.le_trans HS2.out hb.size); have BL3 := Lib.hid (below_old BL2.out hb); have BZ3 := Lib.hid (below_old BZ2.out hb); clear hx hz; have hx := blk7 BL3.out; have hz := blk7 BZ3.out; clear hb))
  refine bodyPost_ret (results_list (rs := [.cell 6 25, .tmp 7, .tmp 8]) rfl (by simp) (.cell (w.heap.size + 1) 25 (zlock) (0, 0) _ rfl (put7 BZ3.out) Try.underlying25 rfl (by kernel_rfl) (.tmp (.tmp .nil)))) rfl ?_
  exact ⟨none, 0, rfl, ⟨rfl, by decide, fun h => absurd h (Nat.lt_irrefl _)⟩, Nat.le_refl _, below7 HB3.out (by omega) _ _ _ _ _ _ _⟩

set_option maxHeartbeats 4000000 in
theorem ref_gone1 (f e u c : Int) (fc : Bool) (A0 : Option Addr) (c0 : Nat) (l : List S40) (cl m : Int) (w : World) (hr0 : Kd.C k40 w A0 l.length l) (hc0 : l.length ≤ c0) (hl : l.length ≤ 100) (hr : rightB u c fc true l = true) (hm : m = 1) :
    Calls Try.prog 18 #[.agg (lockA f e u c fc true (.slice A0 l.length c0)), .int .u32 cl, .int .u32 m] w fun ex w' => ∃ A' c', ex = .returned (.tuple #[.agg (lockA f e u c fc true (.slice A' l.length c')), .int .i64 4, .int .i64 0]) ∧ Kd.C k40 w' A' l.length l ∧ l.length ≤ c' ∧ Below w.heap.size w w' := by
  obtain ⟨w2, hw2⟩ : ∃ w2, (w.alloc (.cells (lockA f e u c fc true (.slice A0 l.length c0)) 25)).alloc (.cells zlock 25) = w2 := ⟨_, rfl⟩
  have hs2 : w2.heap.size = w.heap.size + 2 := by rw [← hw2]; simp
  have HB2 := Lib.hid (show Below w.heap.size w w2 by rw [← hw2]; have h1 := boxed w (.cells (lockA f e u c fc true (.slice A0 l.length c0)) 25); exact h1.alloc h1.size _)
  have BL2 := Lib.hid (show w2.heap[w.heap.size]? = some (.cells (lockA f e u c fc true (.slice A0 l.length c0)) 25 (0, 0)) by rw [← hw2]; exact alloc_old (alloc_at w _) _)
  have BZ2 := Lib.hid (show w2.heap[w.heap.size + 1]? = some (.cells zlock 25 (0, 0)) by rw [← hw2]; have := alloc_at (w.alloc (.cells (lockA f e u c fc true (.slice A0 l.length c0)) 25)) (.cells zlock 25); simpa using this)
  have HRT := Lib.hid (fun W h => lamellaref12_Right.calls 4200 f e u c fc true A0 c0 l true W h hc0 (by rw [refRight_f f e u c fc true l (by omega) 4200 (by omega), hr]))
  have hne1 : ¬ w.heap.size + 1 = w.heap.size := by omega
  have hne2 : ¬ w.heap.size = w.heap.size + 1 := by omega
  obtain ⟨os, hos⟩ : ∃ os, othersF l cl m = os := ⟨_, rfl⟩
  have HOT := Lib.hid (fun W h => lamellaref12_Others.calls 4200 f e u c fc true A0 c0 l cl m os W h hc0 (by rw [refOthers_f f e u c fc true l cl m (by omega) 4200 (by omega), hos]))
  obtain ⟨mo, hmo⟩ : ∃ mo, modeF l cl = mo := ⟨_, rfl⟩
  have HMO := Lib.hid (fun W h => lamellaref12_Mode.calls 4200 f e u c fc true A0 c0 l cl mo W h hc0 (by rw [refMode_f f e u c fc true l cl (by omega) 4200 (by omega), hmo]))
  obtain ⟨l5, hl5⟩ : ∃ l5, withoutF l cl = l5 := ⟨_, rfl⟩
  have hl5n : l5.length ≤ 100 := by rw [← hl5]; exact Nat.le_trans (List.length_filter_le _ _) hl
  have HWO := Lib.hid (fun W h => lamellaref12_Without.calls 4200 f e u c fc true A0 c0 l cl f e u c fc true l5 W h hc0 (by rw [refWithout_f f e u c fc true l cl (by omega) 4200 (by omega), hl5]))
  have HR := Lib.hid hr0
  have HL := Lib.hid hl
  have hx := blk7 BL2.out
  have hz := blk7 BZ2.out
  have HS2 := Lib.hid (show w.heap.size + 2 ≤ w2.heap.size by omega)
  clear hs2
  have hn1 : (m != 1) = false := by rw [hm]; rfl
  have hd1 : (m == 1) = true := by rw [hm]; rfl
  have hd1' : (m = 1) = True := eq_true hm
  have HC := Lib.hid hc0
  clear hr0 hc0 hl hr hm hos hmo hl5 hl5n
  go_enter Try.func18, Try.ntmps18
  go_wp2_with (first | (go_at_call 10; refine (HRT.out _ (Kd.C_below HR.out HB2.out)).mono ?_; rintro ex w3 ⟨rfl, hb⟩; clear hw2; have HB3 := Lib.hid (HB2.out.trans (hb.mono HB2.out.size)); have HS3 := Lib.hid (Nat.le_trans HS2.out hb.size); have BL3 := Lib.hid (below_old BL2.out hb); have BZ3 := Lib.hid (below_old BZ2.out hb); clear hx hz; have hx := blk7 BL3.out; have hz := blk7 BZ3.out; clear hb))
  refine bodyPost_ret (results_list (rs := [.cell 6 25, .tmp 7, .tmp 8]) rfl (by simp) (.cell (w.heap.size + 1) 25 (lockA f e u c fc true (.slice A0 l.length c0)) (0, 0) _ rfl (put7 BZ3.out) Try.underlying25 rfl (by kernel_rfl) (.tmp (.tmp .nil)))) rfl ?_
  exact ⟨_, _, rfl, Kd.C_below HR.out (below7 HB3.out (by omega) _ _ _ _ _ _ _), HC.out, below7 HB3.out (by omega) _ _ _ _ _ _ _⟩

set_option maxHeartbeats 4000000 in
theorem ref_others1 (f e u c : Int) (fc : Bool) (A0 : Option Addr) (c0 : Nat) (l : List S40) (cl m : Int) (w : World) (hr0 : Kd.C k40 w A0 l.length l) (hc0 : l.length ≤ c0) (hl : l.length ≤ 100) (hr : rightB u c fc false l = true) (hm : m = 1) (ho : 0 < (othersF l cl m).length) :
    Calls Try.prog 18 #[.agg (lockA f e u c fc false (.slice A0 l.length c0)), .int .u32 cl, .int .u32 m] w fun ex w' => ∃ A' c', ex = .returned (.tuple #[.agg (lockA f e u c fc false (.slice A' l.length c')), .int .i64 2, .int .i64 0]) ∧ Kd.C k40 w' A' l.length l ∧ l.length ≤ c' ∧ Below w.heap.size w w' := by
  obtain ⟨w2, hw2⟩ : ∃ w2, (w.alloc (.cells (lockA f e u c fc false (.slice A0 l.length c0)) 25)).alloc (.cells zlock 25) = w2 := ⟨_, rfl⟩
  have hs2 : w2.heap.size = w.heap.size + 2 := by rw [← hw2]; simp
  have HB2 := Lib.hid (show Below w.heap.size w w2 by rw [← hw2]; have h1 := boxed w (.cells (lockA f e u c fc false (.slice A0 l.length c0)) 25); exact h1.alloc h1.size _)
  have BL2 := Lib.hid (show w2.heap[w.heap.size]? = some (.cells (lockA f e u c fc false (.slice A0 l.length c0)) 25 (0, 0)) by rw [← hw2]; exact alloc_old (alloc_at w _) _)
  have BZ2 := Lib.hid (show w2.heap[w.heap.size + 1]? = some (.cells zlock 25 (0, 0)) by rw [← hw2]; have := alloc_at (w.alloc (.cells (lockA f e u c fc false (.slice A0 l.length c0)) 25)) (.cells zlock 25); simpa using this)
  have HRT := Lib.hid (fun W h => lamellaref12_Right.calls 4200 f e u c fc false A0 c0 l true W h hc0 (by rw [refRight_f f e u c fc false l (by omega) 4200 (by omega), hr]))
  have hne1 : ¬ w.heap.size + 1 = w.heap.size := by omega
  have hne2 : ¬ w.heap.size = w.heap.size + 1 := by omega
  obtain ⟨os, hos⟩ : ∃ os, othersF l cl m = os := ⟨_, rfl⟩
  have HOT := Lib.hid (fun W h => lamellaref12_Others.calls 4200 f e u c fc false A0 c0 l cl m os W h hc0 (by rw [refOthers_f f e u c fc false l cl m (by omega) 4200 (by omega), hos]))
  obtain ⟨mo, hmo⟩ : ∃ mo, modeF l cl = mo := ⟨_, rfl⟩
  have HMO := Lib.hid (fun W h => lamellaref12_Mode.calls 4200 f e u c fc false A0 c0 l cl mo W h hc0 (by rw [refMode_f f e u c fc false l cl (by omega) 4200 (by omega), hmo]))
  obtain ⟨l5, hl5⟩ : ∃ l5, withoutF l cl = l5 := ⟨_, rfl⟩
  have hl5n : l5.length ≤ 100 := by rw [← hl5]; exact Nat.le_trans (List.length_filter_le _ _) hl
  have HWO := Lib.hid (fun W h => lamellaref12_Without.calls 4200 f e u c fc false A0 c0 l cl f e u c fc false l5 W h hc0 (by rw [refWithout_f f e u c fc false l cl (by omega) 4200 (by omega), hl5]))
  have HR := Lib.hid hr0
  have HL := Lib.hid hl
  have hx := blk7 BL2.out
  have hz := blk7 BZ2.out
  have HS2 := Lib.hid (show w.heap.size + 2 ≤ w2.heap.size by omega)
  clear hs2
  have hn1 : (m != 1) = false := by rw [hm]; rfl
  have hd1 : (m == 1) = true := by rw [hm]; rfl
  have hd1' : (m = 1) = True := eq_true hm
  have HC := Lib.hid hc0
  have hos1 : decide (0 < os.length) = true := decide_eq_true (by rw [← hos]; omega)
  clear hr0 hc0 hl hr ho hm hos hmo hl5 hl5n
  go_enter Try.func18, Try.ntmps18
  go_wp2_with (first | (go_at_call 10; refine (HRT.out _ (Kd.C_below HR.out HB2.out)).mono ?_; rintro ex w3 ⟨rfl, hb⟩; clear hw2; have HB3 := Lib.hid (HB2.out.trans (hb.mono HB2.out.size)); have HS3 := Lib.hid (Nat.le_trans HS2.out hb.size); have BL3 := Lib.hid (below_old BL2.out hb); have BZ3 := Lib.hid (below_old BZ2.out hb); clear hx hz; have hx := blk7 BL3.out; have hz := blk7 BZ3.out; clear hb) | (go_at_call 15; refine (HOT.out _ (Kd.C_below HR.out HB3.out)).mono ?_; rintro ex w4 ⟨vo, rfl, ho, hb⟩; obtain ⟨Ao, co, rfl⟩ := Kd.R_slice ho; clear ho; have HB4 := Lib.hid (HB3.out.trans (hb.mono HB3.out.size)); have HS4 := Lib.hid (Nat.le_trans HS3.out hb.size); have BL4 := Lib.hid (below_old BL3.out hb); have BZ4 := Lib.hid (below_old BZ3.out hb); clear hx hz; have hx := blk7 BL4.out; have hz := blk7 BZ4.out; clear hb))
  refine bodyPost_ret (results_list (rs := [.cell 6 25, .tmp 7, .tmp 8]) rfl (by simp) (.cell (w.heap.size + 1) 25 (lockA f e u c fc false (.slice A0 l.length c0)) (0, 0) _ rfl (put7 BZ4.out) Try.underlying25 rfl (by kernel_rfl) (.tmp (.tmp .nil)))) rfl ?_
  exact ⟨_, _, rfl, Kd.C_below HR.out (below7 HB4.out (by omega) _ _ _ _ _ _ _), HC.out, below7 HB4.out (by omega) _ _ _ _ _ _ _⟩

set_option maxHeartbeats 4000000 in
theorem ref_has1 (f e u c : Int) (fc : Bool) (A0 : Option Addr) (c0 : Nat) (l : List S40) (cl m : Int) (w : World) (hr0 : Kd.C k40 w A0 l.length l) (hc0 : l.length ≤ c0) (hl : l.length ≤ 100) (hr : rightB u c fc false l = true) (hm : m = 1) (ho : (othersF l cl m).length = 0) (hh : m ≤ modeF l cl) :
    Calls Try.prog 18 #[.agg (lockA f e u c fc false (.slice A0 l.length c0)), .int .u32 cl, .int .u32 m] w fun ex w' => ∃ A' c', ex = .returned (.tuple #[.agg (lockA f e u c fc false (.slice A' l.length c')), .int .i64 1, .int .i64 0]) ∧ Kd.C k40 w' A' l.length l ∧ l.length ≤ c' ∧ Below w.heap.size w w' := by
  obtain ⟨w2, hw2⟩ : ∃ w2, (w.alloc (.cells (lockA f e u c fc false (.slice A0 l.length c0)) 25)).alloc (.cells zlock 25) = w2 := ⟨_, rfl⟩
  have hs2 : w2.heap.size = w.heap.size + 2 := by rw [← hw2]; simp
  have HB2 := Lib.hid (show Below w.heap.size w w2 by rw [← hw2]; have h1 := boxed w (.cells (lockA f e u c fc false (.slice A0 l.length c0)) 25); exact h1.alloc h1.size _)
  have BL2 := Lib.hid (show w2.heap[w.heap.size]? = some (.cells (lockA f e u c fc false (.slice A0 l.length c0)) 25 (0, 0)) by rw [← hw2]; exact alloc_old (alloc_at w _) _)
  have BZ2 := Lib.hid (show w2.heap[w.heap.size + 1]? = some (.cells zlock 25 (0, 0)) by rw [← hw2]; have := alloc_at (w.alloc (.cells (lockA f e u c fc false (.slice A0 l.length c0)) 25)) (.cells zlock 25); simpa using this)
  have HRT := Lib.hid (fun W h => lamellaref12_Right.calls 4200 f e u c fc false A0 c0 l true W h hc0 (by rw [refRight_f f e u c fc false l (by omega) 4200 (by omega), hr]))
  have hne1 : ¬ w.heap.size + 1 = w.heap.size := by omega
  have hne2 : ¬ w.heap.size = w.heap.size + 1 := by omega
  obtain ⟨os, hos⟩ : ∃ os, othersF l cl m = os := ⟨_, rfl⟩
  have HOT := Lib.hid (fun W h => lamellaref12_Others.calls 4200 f e u c fc false A0 c0 l cl m os W h hc0 (by rw [refOthers_f f e u c fc false l cl m (by omega) 4200 (by omega), hos]))
  obtain ⟨mo, hmo⟩ : ∃ mo, modeF l cl = mo := ⟨_, rfl⟩
  have HMO := Lib.hid (fun W h => lamellaref12_Mode.calls 4200 f e u c fc false A0 c0 l cl mo W h hc0 (by rw [refMode_f f e u c fc false l cl (by omega) 4200 (by omega), hmo]))
  obtain ⟨l5, hl5⟩ : ∃ l5, withoutF l cl = l5 := ⟨_, rfl⟩
  have hl5n : l5.length ≤ 100 := by rw [← hl5]; exact Nat.le_trans (List.length_filter_le _ _) hl
  have HWO := Lib.hid (fun W h => lamellaref12_Without.calls 4200 f e u c fc false A0 c0 l cl f e u c fc false l5 W h hc0 (by rw [refWithout_f f e u c fc false l cl (by omega) 4200 (by omega), hl5]))
  have HR := Lib.hid hr0
  have HL := Lib.hid hl
  have hx := blk7 BL2.out
  have hz := blk7 BZ2.out
  have HS2 := Lib.hid (show w.heap.size + 2 ≤ w2.heap.size by omega)
  clear hs2
  have hn1 : (m != 1) = false := by rw [hm]; rfl
  have hd1 : (m == 1) = true := by rw [hm]; rfl
  have hd1' : (m = 1) = True := eq_true hm
  have HC := Lib.hid hc0
  have hos1 : decide (0 < os.length) = false := decide_eq_false (by rw [← hos]; omega)
  have hmo1 : decide (m ≤ mo) = true := decide_eq_true (by rw [← hmo]; omega)
  clear hr0 hc0 hl hr ho hh hm hos hmo hl5 hl5n
  go_enter Try.func18, Try.ntmps18
  go_wp2_with (first | (go_at_call 10; refine (HRT.out _ (Kd.C_below HR.out HB2.out)).mono ?_; rintro ex w3 ⟨rfl, hb⟩; clear hw2; have HB3 := Lib.hid (HB2.out.trans (hb.mono HB2.out.size)); have HS3 := Lib.hid (Nat.le_trans HS2.out hb.size); have BL3 := Lib.hid (below_old BL2.out hb); have BZ3 := Lib.hid (below_old BZ2.out hb); clear hx hz; have hx := blk7 BL3.out; have hz := blk7 BZ3.out; clear hb) | (go_at_call 15; refine (HOT.out _ (Kd.C_below HR.out HB3.out)).mono ?_; rintro ex w4 ⟨vo, rfl, ho, hb⟩; obtain ⟨Ao, co, rfl⟩ := Kd.R_slice ho; clear ho; have HB4 := Lib.hid (HB3.out.trans (hb.mono HB3.out.size)); have HS4 := Lib.hid (Nat.le_trans HS3.out hb.size); have BL4 := Lib.hid (below_old BL3.out hb); have BZ4 := Lib.hid (below_old BZ3.out hb); clear hx hz; have hx := blk7 BL4.out; have hz := blk7 BZ4.out; clear hb) | (go_at_call 16; refine (HMO.out _ (Kd.C_below HR.out HB4.out)).mono ?_; rintro ex w5 ⟨rfl, hb⟩; have HB5 := Lib.hid (HB4.out.trans (hb.mono HB4.out.size)); have HS5 := Lib.hid (Nat.le_trans HS4.out hb.size); have BL5 := Lib.hid (below_old BL4.out hb); have BZ5 := Lib.hid (below_old BZ4.out hb); clear hx hz; have hx := blk7 BL5.out; have hz := blk7 BZ5.out; clear hb))
  refine bodyPost_ret (results_list (rs := [.cell 6 25, .tmp 7, .tmp 8]) rfl (by simp) (.cell (w.heap.size + 1) 25 (lockA f e u c fc false (.slice A0 l.length c0)) (0, 0) _ rfl (put7 BZ5.out) Try.underlying25 rfl (by kernel_rfl) (.tmp (.tmp .nil)))) rfl ?_
  exact ⟨_, _, rfl, Kd.C_below HR.out (below7 HB5.out (by omega) _ _ _ _ _ _ _), HC.out, below7 HB5.out (by omega) _ _ _ _ _ _ _⟩

set_option maxHeartbeats 4000000 in
theorem ref_wait1 (f e u c : Int)  (A0 : Option Addr) (c0 : Nat) (l : List S40) (cl m : Int) (w : World) (hr0 : Kd.C k40 w A0 l.length l) (hc0 : l.length ≤ c0) (hl : l.length ≤ 100) (hr : rightB u c false false l = true) (hm : m = 1) (ho : (othersF l cl m).length = 0) (hh : ¬ m ≤ modeF l cl) :
    Calls Try.prog 18 #[.agg (lockA f e u c false false (.slice A0 l.length c0)), .int .u32 cl, .int .u32 m] w fun ex w' => ∃ A' c', ex = .returned (.tuple #[.agg (lockA f e u c false false (.slice A' (withoutF l cl).length c')), .int .i64 3, .int .i64 0]) ∧ Kd.C k40 w' A' (withoutF l cl).length (withoutF l cl) ∧ (withoutF l cl).length ≤ c' ∧ Below w.heap.size w w' := by
  obtain ⟨w2, hw2⟩ : ∃ w2, (w.alloc (.cells (lockA f e u c false false (.slice A0 l.length c0)) 25)).alloc (.cells zlock 25) = w2 := ⟨_, rfl⟩
  have hs2 : w2.heap.size = w.heap.size + 2 := by rw [← hw2]; simp
  have HB2 := Lib.hid (show Below w.heap.size w w2 by rw [← hw2]; have h1 := boxed w (.cells (lockA f e u c false false (.slice A0 l.length c0)) 25); exact h1.alloc h1.size _)
  have BL2 := Lib.hid (show w2.heap[w.heap.size]? = some (.cells (lockA f e u c false false (.slice A0 l.length c0)) 25 (0, 0)) by rw [← hw2]; exact alloc_old (alloc_at w _) _)
  have BZ2 := Lib.hid (show w2.heap[w.heap.size + 1]? = some (.cells zlock 25 (0, 0)) by rw [← hw2]; have := alloc_at (w.alloc (.cells (lockA f e u c false false (.slice A0 l.length c0)) 25)) (.cells zlock 25); simpa using this)
  have HRT := Lib.hid (fun W h => lamellaref12_Right.calls 4200 f e u c false false A0 c0 l true W h hc0 (by rw [refRight_f f e u c false false l (by omega) 4200 (by omega), hr]))
  have hne1 : ¬ w.heap.size + 1 = w.heap.size := by omega
  have hne2 : ¬ w.heap.size = w.heap.size + 1 := by omega
  obtain ⟨os, hos⟩ : ∃ os, othersF l cl m = os := ⟨_, rfl⟩
  have HOT := Lib.hid (fun W h => lamellaref12_Others.calls 4200 f e u c false false A0 c0 l cl m os W h hc0 (by rw [refOthers_f f e u c false false l cl m (by omega) 4200 (by omega), hos]))
  obtain ⟨mo, hmo⟩ : ∃ mo, modeF l cl = mo := ⟨_, rfl⟩
  have HMO := Lib.hid (fun W h => lamellaref12_Mode.calls 4200 f e u c false false A0 c0 l cl mo W h hc0 (by rw [refMode_f f e u c false false l cl (by omega) 4200 (by omega), hmo]))
  obtain ⟨l5, hl5⟩ : ∃ l5, withoutF l cl = l5 := ⟨_, rfl⟩
  have hl5n : l5.length ≤ 100 := by rw [← hl5]; exact Nat.le_trans (List.length_filter_le _ _) hl
  have HWO := Lib.hid (fun W h => lamellaref12_Without.calls 4200 f e u c false false A0 c0 l cl f e u c false false l5 W h hc0 (by rw [refWithout_f f e u c false false l cl (by omega) 4200 (by omega), hl5]))
  have HR := Lib.hid hr0
  have HL := Lib.hid hl
  have hx := blk7 BL2.out
  have hz := blk7 BZ2.out
  have HS2 := Lib.hid (show w.heap.size + 2 ≤ w2.heap.size by omega)
  clear hs2
  have hn1 : (m != 1) = false := by rw [hm]; rfl
  have hd1 : (m == 1) = true := by rw [hm]; rfl
  have hd1' : (m = 1) = True := eq_true hm
  have hos1 : decide (0 < os.length) = false := decide_eq_false (by rw [← hos]; omega)
  have hmo1 : decide (m ≤ mo) = false := decide_eq_false (by rw [← hmo]; omega)
  rw [hl5]
  clear hr0 hc0 hl hr ho hh hm hos hmo hl5 hl5n
  go_enter Try.func18, Try.ntmps18
  go_wp2_with (first | (go_at_call 10; refine (HRT.out _ (Kd.C_below HR.out HB2.out)).mono ?_; rintro ex w3 ⟨rfl, hb⟩; clear hw2; have HB3 := Lib.hid (HB2.out.trans (hb.mono HB2.out.size)); have HS3 := Lib.hid (Nat.le_trans HS2.out hb.size); have BL3 := Lib.hid (below_old BL2.out hb); have BZ3 := Lib.hid (below_old BZ2.out hb); clear hx hz; have hx := blk7 BL3.out; have hz := blk7 BZ3.out; clear hb) | (go_at_call 15; refine (HOT.out _ (Kd.C_below HR.out HB3.out)).mono ?_; rintro ex w4 ⟨vo, rfl, ho, hb⟩; obtain ⟨Ao, co, rfl⟩ := Kd.R_slice ho; clear ho; have HB4 := Lib.hid (HB3.out.trans (hb.mono HB3.out.size)); have HS4 := Lib.hid (Nat.le_trans HS3.out hb.size); have BL4 := Lib.hid (below_old BL3.out hb); have BZ4 := Lib.hid (below_old BZ3.out hb); clear hx hz; have hx := blk7 BL4.out; have hz := blk7 BZ4.out; clear hb) | (go_at_call 16; refine (HMO.out _ (Kd.C_below HR.out HB4.out)).mono ?_; rintro ex w5 ⟨rfl, hb⟩; have HB5 := Lib.hid (HB4.out.trans (hb.mono HB4.out.size)); have HS5 := Lib.hid (Nat.le_trans HS4.out hb.size); have BL5 := Lib.hid (below_old BL4.out hb); have BZ5 := Lib.hid (below_old BZ4.out hb); clear hx hz; have hx := blk7 BL5.out; have hz := blk7 BZ5.out; clear hb) | (go_at_call 28; refine (HWO.out _ (Kd.C_below HR.out HB5.out)).mono ?_; rintro ex w6 ⟨v, rfl, ho, hb⟩; have HO6 := Lib.hid (Kd.R_lower ho HS5.out); obtain ⟨Av, cv, rfl⟩ := Kd.R_slice HO6.out; clear ho; have HB6 := Lib.hid (HB5.out.trans (hb.mono HB5.out.size)); have HS6 := Lib.hid (Nat.le_trans HS5.out hb.size); have BL6 := Lib.hid (below_old BL5.out hb); have BZ6 := Lib.hid (below_old BZ5.out hb); clear hx hz; have hx := blk7 BL6.out; have hz := blk7 BZ6.out; clear hb))
  refine bodyPost_ret (results_list (rs := [.cell 6 25, .tmp 7, .tmp 8]) rfl (by simp) (.cell (w.heap.size + 1) 25 (lockA f e u c false false (.slice Av l5.length cv)) (0, 0) _ rfl (put7 (far7 BZ6.out hne1 _ _ _ _ _ _ _)) Try.underlying25 rfl (by kernel_rfl) (.tmp (.tmp .nil)))) rfl ?_
  exact ⟨_, _, rfl, and_assoc.1 ⟨R_both (set7 (set7 HO6.out (show w.heap.size < w.heap.size + 2 by omega) _ _ _ _ _ _ _) (show w.heap.size + 1 < w.heap.size + 2 by omega) _ _ _ _ _ _ _), below7 (below7 HB6.out (Nat.le_refl _) _ _ _ _ _ _ _) (by omega) _ _ _ _ _ _ _⟩⟩

set_option maxHeartbeats 4000000 in
theorem ref_gone2 (f e u c : Int) (fc : Bool) (A0 : Option Addr) (c0 : Nat) (l : List S40) (cl m : Int) (w : World) (hr0 : Kd.C k40 w A0 l.length l) (hc0 : l.length ≤ c0) (hl : l.length ≤ 100) (hr : rightB u c fc true l = true) (hm : m = 2) :
    Calls Try.prog 18 #[.agg (lockA f e u c fc true (.slice A0 l.length c0)), .int .u32 cl, .int .u32 m] w fun ex w' => ∃ A' c', ex = .returned (.tuple #[.agg (lockA f e u c fc true (.slice A' l.length c')), .int .i64 4, .int .i64 0]) ∧ Kd.C k40 w' A' l.length l ∧ l.length ≤ c' ∧ Below w.heap.size w w' := by
  obtain ⟨w2, hw2⟩ : ∃ w2, (w.alloc (.cells (lockA f e u c fc true (.slice A0 l.length c0)) 25)).alloc (.cells zlock 25) = w2 := ⟨_, rfl⟩
  have hs2 : w2.heap.size = w.heap.size + 2 := by rw [← hw2]; simp
  have HB2 := Lib.hid (show Below w.heap.size w w2 by rw [← hw2]; have h1 := boxed w (.cells (lockA f e u c fc true (.slice A0 l.length c0)) 25); exact h1.alloc h1.size _)
  have BL2 := Lib.hid (show w2.heap[w.heap.size]? = some (.cells (lockA f e u c fc true (.slice A0 l.length c0)) 25 (0, 0)) by rw [← hw2]; exact alloc_old (alloc_at w _) _)
  have BZ2 := Lib.hid (show w2.heap[w.heap.size + 1]? = some (.cells zlock 25 (0, 0)) by rw [← hw2]; have := alloc_at (w.alloc (.cells (lockA f e u c fc true (.slice A0 l.length c0)) 25)) (.cells zlock 25); simpa using this)
  have HRT := Lib.hid (fun W h => lamellaref12_Right.calls 4200 f e u c fc true A0 c0 l true W h hc0 (by rw [refRight_f f e u c fc true l (by omega) 4200 (by omega), hr]))
  have hne1 : ¬ w.heap.size + 1 = w.heap.size := by omega
  have hne2 : ¬ w.heap.size = w.heap.size + 1 := by omega
  obtain ⟨os, hos⟩ : ∃ os, othersF l cl m = os := ⟨_, rfl⟩
  have HOT := Lib.hid (fun W h => lamellaref12_Others.calls 4200 f e u c fc true A0 c0 l cl m os W h hc0 (by rw [refOthers_f f e u c fc true l cl m (by omega) 4200 (by omega), hos]))
  obtain ⟨mo, hmo⟩ : ∃ mo, modeF l cl = mo := ⟨_, rfl⟩
  have HMO := Lib.hid (fun W h => lamellaref12_Mode.calls 4200 f e u c fc true A0 c0 l cl mo W h hc0 (by rw [refMode_f f e u c fc true l cl (by omega) 4200 (by omega), hmo]))
  obtain ⟨l5, hl5⟩ : ∃ l5, withoutF l cl = l5 := ⟨_, rfl⟩
  have hl5n : l5.length ≤ 100 := by rw [← hl5]; exact Nat.le_trans (List.length_filter_le _ _) hl
  have HWO := Lib.hid (fun W h => lamellaref12_Without.calls 4200 f e u c fc true A0 c0 l cl f e u c fc true l5 W h hc0 (by rw [refWithout_f f e u c fc true l cl (by omega) 4200 (by omega), hl5]))
  have HR := Lib.hid hr0
  have HL := Lib.hid hl
  have hx := blk7 BL2.out
  have hz := blk7 BZ2.out
  have HS2 := Lib.hid (show w.heap.size + 2 ≤ w2.heap.size by omega)
  clear hs2
  have hn1 : (m != 1) = true := by rw [hm]; rfl
  have hn2 : (m != 2) = false := by rw [hm]; rfl
  have hd1 : (m == 1) = false := by rw [hm]; rfl
  have hd1' : (m = 1) = False := eq_false (by omega)
  have hd2 : (m == 2) = true := by rw [hm]; rfl
  have hd2' : (m = 2) = True := eq_true hm
  have HC := Lib.hid hc0
  clear hr0 hc0 hl hr hm hos hmo hl5 hl5n
  go_enter Try.func18, Try.ntmps18
  go_wp2_with (first | (go_at_call 10; refine (HRT.out _ (Kd.C_below HR.out HB2.out)).mono ?_; rintro ex w3 ⟨rfl, hb⟩; clear hw2; have HB3 := Lib.hid (HB2.out.trans (hb.mono HB2.out.size)); have HS3 := Lib.hid (Nat.le_trans HS2.out hb.size); have BL3 := Lib.hid (below_old BL2.out hb); have BZ3 := Lib.hid (below_old BZ2.out hb); clear hx hz; have hx := blk7 BL3.out; have hz := blk7 BZ3.out; clear hb))
  refine bodyPost_ret (results_list (rs := [.cell 6 25, .tmp 7, .tmp 8]) rfl (by simp) (.cell (w.heap.size + 1) 25 (lockA f e u c fc true (.slice A0 l.length c0)) (0, 0) _ rfl (put7 BZ3.out) Try.underlying25 rfl (by kernel_rfl) (.tmp (.tmp .nil)))) rfl ?_
  exact ⟨_, _, rfl, Kd.C_below HR.out (below7 HB3.out (by omega) _ _ _ _ _ _ _), HC.out, below7 HB3.out (by omega) _ _ _ _ _ _ _⟩

set_option maxHeartbeats 4000000 in
theorem ref_others2 (f e u c : Int) (fc : Bool) (A0 : Option Addr) (c0 : Nat) (l : List S40) (cl m : Int) (w : World) (hr0 : Kd.C k40 w A0 l.length l) (hc0 : l.length ≤ c0) (hl : l.length ≤ 100) (hr : rightB u c fc false l = true) (hm : m = 2) (ho : 0 < (othersF l cl m).length) :
    Calls Try.prog 18 #[.agg (lockA f e u c fc false (.slice A0 l.length c0)), .int .u32 cl, .int .u32 m] w fun ex w' => ∃ A' c', ex = .returned (.tuple #[.agg (lockA f e u c fc false (.slice A' l.length c')), .int .i64 2, .int .i64 0]) ∧ Kd.C k40 w' A' l.length l ∧ l.length ≤ c' ∧ Below w.heap.size w w' := by
  obtain ⟨w2, hw2⟩ : ∃ w2, (w.alloc (.cells (lockA f e u c fc false (.slice A0 l.length c0)) 25)).alloc (.cells zlock 25) = w2 := ⟨_, rfl⟩
  have hs2 : w2.heap.size = w.heap.size + 2 := by rw [← hw2]; simp
  have HB2 := Lib.hid (show Below w.heap.size w w2 by rw [← hw2]; have h1 := boxed w (.cells (lockA f e u c fc false (.slice A0 l.length c0)) 25); exact h1.alloc h1.size _)
  have BL2 := Lib.hid (show w2.heap[w.heap.size]? = some (.cells (lockA f e u c fc false (.slice A0 l.length c0)) 25 (0, 0)) by rw [← hw2]; exact alloc_old (alloc_at w _) _)
  have BZ2 := Lib.hid (show w2.heap[w.heap.size + 1]? = some (.cells zlock 25 (0, 0)) by rw [← hw2]; have := alloc_at (w.alloc (.cells (lockA f e u c fc false (.slice A0 l.length c0)) 25)) (.cells zlock 25); simpa using this)
  have HRT := Lib.hid (fun W h => lamellaref12_Right.calls 4200 f e u c fc false A0 c0 l true W h hc0 (by rw [refRight_f f e u c fc false l (by omega) 4200 (by omega), hr]))
  have hne1 : ¬ w.heap.size + 1 = w.heap.size := by omega
  have hne2 : ¬ w.heap.size = w.heap.size + 1 := by omega
  obtain ⟨os, hos⟩ : ∃ os, othersF l cl m = os := ⟨_, rfl⟩
  have HOT := Lib.hid (fun W h => lamellaref12_Others.calls 4200 f e u c fc false A0 c0 l cl m os W h hc0 (by rw [refOthers_f f e u c fc false l cl m (by omega) 4200 (by omega), hos]))
  obtain ⟨mo, hmo⟩ : ∃ mo, modeF l cl = mo := ⟨_, rfl⟩
  have HMO := Lib.hid (fun W h => lamellaref12_Mode.calls 4200 f e u c fc false A0 c0 l cl mo W h hc0 (by rw [refMode_f f e u c fc false l cl (by omega) 4200 (by omega), hmo]))
  obtain ⟨l5, hl5⟩ : ∃ l5, withoutF l cl = l5 := ⟨_, rfl⟩
  have hl5n : l5.length ≤ 100 := by rw [← hl5]; exact Nat.le_trans (List.length_filter_le _ _) hl
  have HWO := Lib.hid (fun W h => lamellaref12_Without.calls 4200 f e u c fc false A0 c0 l cl f e u c fc false l5 W h hc0 (by rw [refWithout_f f e u c fc false l cl (by omega) 4200 (by omega), hl5]))
  have HR := Lib.hid hr0
  have HL := Lib.hid hl
  have hx := blk7 BL2.out
  have hz := blk7 BZ2.out
  have HS2 := Lib.hid (show w.heap.size + 2 ≤ w2.heap.size by omega)
  clear hs2
  have hn1 : (m != 1) = true := by rw [hm]; rfl
  have hn2 : (m != 2) = false := by rw [hm]; rfl
  have hd1 : (m == 1) = false := by rw [hm]; rfl
  have hd1' : (m = 1) = False := eq_false (by omega)
  have hd2 : (m == 2) = true := by rw [hm]; rfl
  have hd2' : (m = 2) = True := eq_true hm
  have HC := Lib.hid hc0
  have hos1 : decide (0 < os.length) = true := decide_eq_true (by rw [← hos]; omega)
  clear hr0 hc0 hl hr ho hm hos hmo hl5 hl5n
  go_enter Try.func18, Try.ntmps18
  go_wp2_with (first | (go_at_call 10; refine (HRT.out _ (Kd.C_below HR.out HB2.out)).mono ?_; rintro ex w3 ⟨rfl, hb⟩; clear hw2; have HB3 := Lib.hid (HB2.out.trans (hb.mono HB2.out.size)); have HS3 := Lib.hid (Nat.le_trans HS2.out hb.size); have BL3 := Lib.hid (below_old BL2.out hb); have BZ3 := Lib.hid (below_old BZ2.out hb); clear hx hz; have hx := blk7 BL3.out; have hz := blk7 BZ3.out; clear hb) | (go_at_call 15; refine (HOT.out _ (Kd.C_below HR.out HB3.out)).mono ?_; rintro ex w4 ⟨vo, rfl, ho, hb⟩; obtain ⟨Ao, co, rfl⟩ := Kd.R_slice ho; clear ho; have HB4 := Lib.hid (HB3.out.trans (hb.mono HB3.out.size)); have HS4 := Lib.hid (Nat.le_trans HS3.out hb.size); have BL4 := Lib.hid (below_old BL3.out hb); have BZ4 := Lib.hid (below_old BZ3.out hb); clear hx hz; have hx := blk7 BL4.out; have hz := blk7 BZ4.out; clear hb))
  refine bodyPost_ret (results_list (rs := [.cell 6 25, .tmp 7, .tmp 8]) rfl (by simp) (.cell (w.heap.size + 1) 25 (lockA f e u c fc false (.slice A0 l.length c0)) (0, 0) _ rfl (put7 BZ4.out) Try.underlying25 rfl (by kernel_rfl) (.tmp (.tmp .nil)))) rfl ?_
  exact ⟨_, _, rfl, Kd.C_below HR.out (below7 HB4.out (by omega) _ _ _ _ _ _ _), HC.out, below7 HB4.out (by omega) _ _ _ _ _ _ _⟩

set_option maxHeartbeats 4000000 in
theorem ref_has2 (f e u c : Int) (fc : Bool) (A0 : Option Addr) (c0 : Nat) (l : List S40) (cl m : Int) (w : World) (hr0 : Kd.C k40 w A0 l.length l) (hc0 : l.length ≤ c0) (hl : l.length ≤ 100) (hr : rightB u c fc false l = true) (hm : m = 2) (ho : (othersF l cl m).length = 0) (hh : m ≤ modeF l cl) :
    Calls Try.prog 18 #[.agg (lockA f e u c fc false (.slice A0 l.length c0)), .int .u32 cl, .int .u32 m] w fun ex w' => ∃ A' c', ex = .returned (.tuple #[.agg (lockA f e u c fc false (.slice A' l.length c')), .int .i64 1, .int .i64 0]) ∧ Kd.C k40 w' A' l.length l ∧ l.length ≤ c' ∧ Below w.heap.size w w' := by
  obtain ⟨w2, hw2⟩ : ∃ w2, (w.alloc (.cells (lockA f e u c fc false (.slice A0 l.length c0)) 25)).alloc (.cells zlock 25) = w2 := ⟨_, rfl⟩
  have hs2 : w2.heap.size = w.heap.size + 2 := by rw [← hw2]; simp
  have HB2 := Lib.hid (show Below w.heap.size w w2 by rw [← hw2]; have h1 := boxed w (.cells (lockA f e u c fc false (.slice A0 l.length c0)) 25); exact h1.alloc h1.size _)
  have BL2 := Lib.hid (show w2.heap[w.heap.size]? = some (.cells (lockA f e u c fc false (.slice A0 l.length c0)) 25 (0, 0)) by rw [← hw2]; exact alloc_old (alloc_at w _) _)
  have BZ2 := Lib.hid (show w2.heap[w.heap.size + 1]? = some (.cells zlock 25 (0, 0)) by rw [← hw2]; have := alloc_at (w.alloc (.cells (lockA f e u c fc false (.slice A0 l.length c0)) 25)) (.cells zlock 25); simpa using this)
  have HRT := Lib.hid (fun W h => lamellaref12_Right.calls 4200 f e u c fc false A0 c0 l true W h hc0 (by rw [refRight_f f e u c fc false l (by omega) 4200 (by omega), hr]))
  have hne1 : ¬ w.heap.size + 1 = w.heap.size := by omega
  have hne2 : ¬ w.heap.size = w.heap.size + 1 := by omega
  obtain ⟨os, hos⟩ : ∃ os, othersF l cl m = os := ⟨_, rfl⟩
  have HOT := Lib.hid (fun W h => lamellaref12_Others.calls 4200 f e u c fc false A0 c0 l cl m os W h hc0 (by rw [refOthers_f f e u c fc false l cl m (by omega) 4200 (by omega), hos]))
  obtain ⟨mo, hmo⟩ : ∃ mo, modeF l cl = mo := ⟨_, rfl⟩
  have HMO := Lib.hid (fun W h => lamellaref12_Mode.calls 4200 f e u c fc false A0 c0 l cl mo W h hc0 (by rw [refMode_f f e u c fc false l cl (by omega) 4200 (by omega), hmo]))
  obtain ⟨l5, hl5⟩ : ∃ l5, withoutF l cl = l5 := ⟨_, rfl⟩
  have hl5n : l5.length ≤ 100 := by rw [← hl5]; exact Nat.le_trans (List.length_filter_le _ _) hl
  have HWO := Lib.hid (fun W h => lamellaref12_Without.calls 4200 f e u c fc false A0 c0 l cl f e u c fc false l5 W h hc0 (by rw [refWithout_f f e u c fc false l cl (by omega) 4200 (by omega), hl5]))
  have HR := Lib.hid hr0
  have HL := Lib.hid hl
  have hx := blk7 BL2.out
  have hz := blk7 BZ2.out
  have HS2 := Lib.hid (show w.heap.size + 2 ≤ w2.heap.size by omega)
  clear hs2
  have hn1 : (m != 1) = true := by rw [hm]; rfl
  have hn2 : (m != 2) = false := by rw [hm]; rfl
  have hd1 : (m == 1) = false := by rw [hm]; rfl
  have hd1' : (m = 1) = False := eq_false (by omega)
  have hd2 : (m == 2) = true := by rw [hm]; rfl
  have hd2' : (m = 2) = True := eq_true hm
  have HC := Lib.hid hc0
  have hos1 : decide (0 < os.length) = false := decide_eq_false (by rw [← hos]; omega)
  have hmo1 : decide (m ≤ mo) = true := decide_eq_true (by rw [← hmo]; omega)
  clear hr0 hc0 hl hr ho hh hm hos hmo hl5 hl5n
  go_enter Try.func18, Try.ntmps18
  go_wp2_with (first | (go_at_call 10; refine (HRT.out _ (Kd.C_below HR.out HB2.out)).mono ?_; rintro ex w3 ⟨rfl, hb⟩; clear hw2; have HB3 := Lib.hid (HB2.out.trans (hb.mono HB2.out.size)); have HS3 := Lib.hid (Nat.le_trans HS2.out hb.size); have BL3 := Lib.hid (below_old BL2.out hb); have BZ3 := Lib.hid (below_old BZ2.out hb); clear hx hz; have hx := blk7 BL3.out; have hz := blk7 BZ3.out; clear hb) | (go_at_call 15; refine (HOT.out _ (Kd.C_below HR.out HB3.out)).mono ?_; rintro ex w4 ⟨vo, rfl, ho, hb⟩; obtain ⟨Ao, co, rfl⟩ := Kd.R_slice ho; clear ho; have HB4 := Lib.hid (HB3.out.trans (hb.mono HB3.out.size)); have HS4 := Lib.hid (Nat.le_trans HS3.out hb.size); have BL4 := Lib.hid (below_old BL3.out hb); have BZ4 := Lib.hid (below_old BZ3.out hb); clear hx hz; have hx := blk7 BL4.out; have hz := blk7 BZ4.out; clear hb) | (go_at_call 16; refine (HMO.out _ (Kd.C_below HR.out HB4.out)).mono ?_; rintro ex w5 ⟨rfl, hb⟩; have HB5 := Lib.hid (HB4.out.trans (hb.mono HB4.out.size)); have HS5 := Lib.hid (Nat.le_trans HS4.out hb.size); have BL5 := Lib.hid (below_old BL4.out hb); have BZ5 := Lib.hid (below_old BZ4.out hb); clear hx hz; have hx := blk7 BL5.out; have hz := blk7 BZ5.out; clear hb))
  refine bodyPost_ret (results_list (rs := [.cell 6 25, .tmp 7, .tmp 8]) rfl (by simp) (.cell (w.heap.size + 1) 25 (lockA f e u c fc false (.slice A0 l.length c0)) (0, 0) _ rfl (put7 BZ5.out) Try.underlying25 rfl (by kernel_rfl) (.tmp (.tmp .nil)))) rfl ?_
  exact ⟨_, _, rfl, Kd.C_below HR.out (below7 HB5.out (by omega) _ _ _ _ _ _ _), HC.out, below7 HB5.out (by omega) _ _ _ _ _ _ _⟩

set_option maxHeartbeats 4000000 in
theorem ref_wait2 (f e u c : Int)  (A0 : Option Addr) (c0 : Nat) (l : List S40) (cl m : Int) (w : World) (hr0 : Kd.C k40 w A0 l.length l) (hc0 : l.length ≤ c0) (hl : l.length ≤ 100) (hr : rightB u c false false l = true) (hm : m = 2) (ho : (othersF l cl m).length = 0) (hh : ¬ m ≤ modeF l cl) :
    Calls Try.prog 18 #[.agg (lockA f e u c false false (.slice A0 l.length c0)), .int .u32 cl, .int .u32 m] w fun ex w' => ∃ A' c', ex = .returned (.tuple #[.agg (lockA f e u c false false (.slice A' (withoutF l cl).length c')), .int .i64 3, .int .i64 0]) ∧ Kd.C k40 w' A' (withoutF l cl).length (withoutF l cl) ∧ (withoutF l cl).length ≤ c' ∧ Below w.heap.size w w' := by
  obtain ⟨w2, hw2⟩ : ∃ w2, (w.alloc (.cells (lockA f e u c false false (.slice A0 l.length c0)) 25)).alloc (.cells zlock 25) = w2 := ⟨_, rfl⟩
  have hs2 : w2.heap.size = w.heap.size + 2 := by rw [← hw2]; simp
  have HB2 := Lib.hid (show Below w.heap.size w w2 by rw [← hw2]; have h1 := boxed w (.cells (lockA f e u c false false (.slice A0 l.length c0)) 25); exact h1.alloc h1.size _)
  have BL2 := Lib.hid (show w2.heap[w.heap.size]? = some (.cells (lockA f e u c false false (.slice A0 l.length c0)) 25 (0, 0)) by rw [← hw2]; exact alloc_old (alloc_at w _) _)
  have BZ2 := Lib.hid (show w2.heap[w.heap.size + 1]? = some (.cells zlock 25 (0, 0)) by rw [← hw2]; have := alloc_at (w.alloc (.cells (lockA f e u c false false (.slice A0 l.length c0)) 25)) (.cells zlock 25); simpa using this)
  have HRT := Lib.hid (fun W h => lamellaref12_Right.calls 4200 f e u c false false A0 c0 l true W h hc0 (by rw [refRight_f f e u c false false l (by omega) 4200 (by omega), hr]))
  have hne1 : ¬ w.heap.size + 1 = w.heap.size := by omega
  have hne2 : ¬ w.heap.size = w.heap.size + 1 := by omega
  obtain ⟨os, hos⟩ : ∃ os, othersF l cl m = os := ⟨_, rfl⟩
  have HOT := Lib.hid (fun W h => lamellaref12_Others.calls 4200 f e u c false false A0 c0 l cl m os W h hc0 (by rw [refOthers_f f e u c false false l cl m (by omega) 4200 (by omega), hos]))
  obtain ⟨mo, hmo⟩ : ∃ mo, modeF l cl = mo := ⟨_, rfl⟩
  have HMO := Lib.hid (fun W h => lamellaref12_Mode.calls 4200 f e u c false false A0 c0 l cl mo W h hc0 (by rw [refMode_f f e u c false false l cl (by omega) 4200 (by omega), hmo]))
  obtain ⟨l5, hl5⟩ : ∃ l5, withoutF l cl = l5 := ⟨_, rfl⟩
  have hl5n : l5.length ≤ 100 := by rw [← hl5]; exact Nat.le_trans (List.length_filter_le _ _) hl
  have HWO := Lib.hid (fun W h => lamellaref12_Without.calls 4200 f e u c false false A0 c0 l cl f e u c false false l5 W h hc0 (by rw [refWithout_f f e u c false false l cl (by omega) 4200 (by omega), hl5]))
  have HR := Lib.hid hr0
  have HL := Lib.hid hl
  have hx := blk7 BL2.out
  have hz := blk7 BZ2.out
  have HS2 := Lib.hid (show w.heap.size + 2 ≤ w2.heap.size by omega)
  clear hs2
  have hn1 : (m != 1) = true := by rw [hm]; rfl
  have hn2 : (m != 2) = false := by rw [hm]; rfl
  have hd1 : (m == 1) = false := by rw [hm]; rfl
  have hd1' : (m = 1) = False := eq_false (by omega)
  have hd2 : (m == 2) = true := by rw [hm]; rfl
  have hd2' : (m = 2) = True := eq_true hm
  have hos1 : decide (0 < os.length) = false := decide_eq_false (by rw [← hos]; omega)
  have hmo1 : decide (m ≤ mo) = false := decide_eq_false (by rw [← hmo]; omega)
  rw [hl5]
  clear hr0 hc0 hl hr ho hh hm hos hmo hl5 hl5n
  go_enter Try.func18, Try.ntmps18
  go_wp2_with (first | (go_at_call 10; refine (HRT.out _ (Kd.C_below HR.out HB2.out)).mono ?_; rintro ex w3 ⟨rfl, hb⟩; clear hw2; have HB3 := Lib.hid (HB2.out.trans (hb.mono HB2.out.size)); have HS3 := Lib.hid (Nat.le_trans HS2.out hb.size); have BL3 := Lib.hid (below_old BL2.out hb); have BZ3 := Lib.hid (below_old BZ2.out hb); clear hx hz; have hx := blk7 BL3.out; have hz := blk7 BZ3.out; clear hb) | (go_at_call 15; refine (HOT.out _ (Kd.C_below HR.out HB3.out)).mono ?_; rintro ex w4 ⟨vo, rfl, ho, hb⟩; obtain ⟨Ao, co, rfl⟩ := Kd.R_slice ho; clear ho; have HB4 := Lib.hid (HB3.out.trans (hb.mono HB3.out.size)); have HS4 := Lib.hid (Nat.le_trans HS3.out hb.size); have BL4 := Lib.hid (below_old BL3.out hb); have BZ4 := Lib.hid (below_old BZ3.out hb); clear hx hz; have hx := blk7 BL4.out; have hz := blk7 BZ4.out; clear hb) | (go_at_call 16; refine (HMO.out _ (Kd.C_below HR.out HB4.out)).mono ?_; rintro ex w5 ⟨rfl, hb⟩; have HB5 := Lib.hid (HB4.out.trans (hb.mono HB4.out.size)); have HS5 := Lib.hid (Nat.le_trans HS4.out hb.size); have BL5 := Lib.hid (below_old BL4.out hb); have BZ5 := Lib.hid (below_old BZ4.out hb); clear hx hz; have hx := blk7 BL5.out; have hz := blk7 BZ5.out; clear hb) | (go_at_call 28; refine (HWO.out _ (Kd.C_below HR.out HB5.out)).mono ?_; rintro ex w6 ⟨v, rfl, ho, hb⟩; have HO6 := Lib.hid (Kd.R_lower ho HS5.out); obtain ⟨Av, cv, rfl⟩ := Kd.R_slice HO6.out; clear ho; have HB6 := Lib.hid (HB5.out.trans (hb.mono HB5.out.size)); have HS6 := Lib.hid (Nat.le_trans HS5.out hb.size); have BL6 := Lib.hid (below_old BL5.out hb); have BZ6 := Lib.hid (below_old BZ5.out hb); clear hx hz; have hx := blk7 BL6.out; have hz := blk7 BZ6.out; clear hb))
  refine bodyPost_ret (results_list (rs := [.cell 6 25, .tmp 7, .tmp 8]) rfl (by simp) (.cell (w.heap.size + 1) 25 (lockA f e u c false false (.slice Av l5.length cv)) (0, 0) _ rfl (put7 (far7 BZ6.out hne1 _ _ _ _ _ _ _)) Try.underlying25 rfl (by kernel_rfl) (.tmp (.tmp .nil)))) rfl ?_
  exact ⟨_, _, rfl, and_assoc.1 ⟨R_both (set7 (set7 HO6.out (show w.heap.size < w.heap.size + 2 by omega) _ _ _ _ _ _ _) (show w.heap.size + 1 < w.heap.size + 2 by omega) _ _ _ _ _ _ _), below7 (below7 HB6.out (Nat.le_refl _) _ _ _ _ _ _ _) (by omega) _ _ _ _ _ _ _⟩⟩

set_option maxHeartbeats 4000000 in
theorem ref_turnmax1 (f u c : Int)  (A0 : Option Addr) (c0 : Nat) (l : List S40) (cl m : Int) (w : World) (hr0 : Kd.C k40 w A0 l.length l) (hc0 : l.length ≤ c0) (hl : l.length ≤ 100) (hr : rightB u c true false l = true) (hm : m = 1) (ho : (othersF l cl m).length = 0) (hh : ¬ m ≤ modeF l cl) (hu : u = 2) :
    Calls Try.prog 18 #[.agg (lockA f 4294967295 u c true false (.slice A0 l.length c0)), .int .u32 cl, .int .u32 m] w fun ex w' => ∃ A' c', ex = .returned (.tuple #[.agg (lockA f 4294967295 u c true false (.slice A' (withoutF l cl).length c')), .int .i64 3, .int .i64 0]) ∧ Kd.C k40 w' A' (withoutF l cl).length (withoutF l cl) ∧ (withoutF l cl).length ≤ c' ∧ Below w.heap.size w w' := by
  obtain ⟨w2, hw2⟩ : ∃ w2, (w.alloc (.cells (lockA f 4294967295 u c true false (.slice A0 l.length c0)) 25)).alloc (.cells zlock 25) = w2 := ⟨_, rfl⟩
  have hs2 : w2.heap.size = w.heap.size + 2 := by rw [← hw2]; simp
  have HB2 := Lib.hid (show Below w.heap.size w w2 by rw [← hw2]; have h1 := boxed w (.cells (lockA f 4294967295 u c true false (.slice A0 l.length c0)) 25); exact h1.alloc h1.size _)
  have BL2 := Lib.hid (show w2.heap[w.heap.size]? = some (.cells (lockA f 4294967295 u c true false (.slice A0 l.length c0)) 25 (0, 0)) by rw [← hw2]; exact alloc_old (alloc_at w _) _)
  have BZ2 := Lib.hid (show w2.heap[w.heap.size + 1]? = some (.cells zlock 25 (0, 0)) by rw [← hw2]; have := alloc_at (w.alloc (.cells (lockA f 4294967295 u c true false (.slice A0 l.length c0)) 25)) (.cells zlock 25); simpa using this)
  have HRT := Lib.hid (fun W h => lamellaref12_Right.calls 4200 f 4294967295 u c true false A0 c0 l true W h hc0 (by rw [refRight_f f 4294967295 u c true false l (by omega) 4200 (by omega), hr]))
  have hne1 : ¬ w.heap.size + 1 = w.heap.size := by omega
  have hne2 : ¬ w.heap.size = w.heap.size + 1 := by omega
  obtain ⟨os, hos⟩ : ∃ os, othersF l cl m = os := ⟨_, rfl⟩
  have HOT := Lib.hid (fun W h => lamellaref12_Others.calls 4200 f 4294967295 u c true false A0 c0 l cl m os W h hc0 (by rw [refOthers_f f 4294967295 u c true false l cl m (by omega) 4200 (by omega), hos]))
  obtain ⟨mo, hmo⟩ : ∃ mo, modeF l cl = mo := ⟨_, rfl⟩
  have HMO := Lib.hid (fun W h => lamellaref12_Mode.calls 4200 f 4294967295 u c true false A0 c0 l cl mo W h hc0 (by rw [refMode_f f 4294967295 u c true false l cl (by omega) 4200 (by omega), hmo]))
  obtain ⟨l5, hl5⟩ : ∃ l5, withoutF l cl = l5 := ⟨_, rfl⟩
  have hl5n : l5.length ≤ 100 := by rw [← hl5]; exact Nat.le_trans (List.length_filter_le _ _) hl
  have HWO := Lib.hid (fun W h => lamellaref12_Without.calls 4200 f 4294967295 u c true false A0 c0 l cl f 4294967295 u c true false l5 W h hc0 (by rw [refWithout_f f 4294967295 u c true false l cl (by omega) 4200 (by omega), hl5]))
  have HR := Lib.hid hr0
  have HL := Lib.hid hl
  have hx := blk7 BL2.out
  have hz := blk7 BZ2.out
  have HS2 := Lib.hid (show w.heap.size + 2 ≤ w2.heap.size by omega)
  clear hs2
  have hn1 : (m != 1) = false := by rw [hm]; rfl
  have hd1 : (m == 1) = true := by rw [hm]; rfl
  have hd1' : (m = 1) = True := eq_true hm
  have hu1 : (u != 2) = false := by rw [hu]; rfl
  have hu2 : (u == 0) = false := by rw [hu]; rfl
  have hu2' : (u = 0) = False := eq_false (by omega)
  have hos1 : decide (0 < os.length) = false := decide_eq_false (by rw [← hos]; omega)
  have hmo1 : decide (m ≤ mo) = false := decide_eq_false (by rw [← hmo]; omega)
  rw [hl5]
  clear hr0 hc0 hl hr ho hh hu hm hos hmo hl5 hl5n
  go_enter Try.func18, Try.ntmps18
  go_wp2_with (first | (go_at_call 10; refine (HRT.out _ (Kd.C_below HR.out HB2.out)).mono ?_; rintro ex w3 ⟨rfl, hb⟩; clear hw2; have HB3 := Lib.hid (HB2.out.trans (hb.mono HB2.out.size)); have HS3 := Lib.hid (Nat.le_trans HS2.out hb.size); have BL3 := Lib.hid (below_old BL2.out hb); have BZ3 := Lib.hid (below_old BZ2.out hb); clear hx hz; have hx := blk7 BL3.out; have hz := blk7 BZ3.out; clear hb) | (go_at_call 15; refine (HOT.out _ (Kd.C_below HR.out HB3.out)).mono ?_; rintro ex w4 ⟨vo, rfl, ho, hb⟩; obtain ⟨Ao, co, rfl⟩ := Kd.R_slice ho; clear ho; have HB4 := Lib.hid (HB3.out.trans (hb.mono HB3.out.size)); have HS4 := Lib.hid (Nat.le_trans HS3.out hb.size); have BL4 := Lib.hid (below_old BL3.out hb); have BZ4 := Lib.hid (below_old BZ3.out hb); clear hx hz; have hx := blk7 BL4.out; have hz := blk7 BZ4.out; clear hb) | (go_at_call 16; refine (HMO.out _ (Kd.C_below HR.out HB4.out)).mono ?_; rintro ex w5 ⟨rfl, hb⟩; have HB5 := Lib.hid (HB4.out.trans (hb.mono HB4.out.size)); have HS5 := Lib.hid (Nat.le_trans HS4.out hb.size); have BL5 := Lib.hid (below_old BL4.out hb); have BZ5 := Lib.hid (below_old BZ4.out hb); clear hx hz; have hx := blk7 BL5.out; have hz := blk7 BZ5.out; clear hb) | (go_at_call 28; refine (HWO.out _ (Kd.C_below HR.out HB5.out)).mono ?_; rintro ex w6 ⟨v, rfl, ho, hb⟩; have HO6 := Lib.hid (Kd.R_lower ho HS5.out); obtain ⟨Av, cv, rfl⟩ := Kd.R_slice HO6.out; clear ho; have HB6 := Lib.hid (HB5.out.trans (hb.mono HB5.out.size)); have HS6 := Lib.hid (Nat.le_trans HS5.out hb.size); have BL6 := Lib.hid (below_old BL5.out hb); have BZ6 := Lib.hid (below_old BZ5.out hb); clear hx hz; have hx := blk7 BL6.out; have hz := blk7 BZ6.out; clear hb) | (go_at_call 29; have h7 := below7 HB6.out (Nat.le_refl w.heap.size) (.int .u32 f) (.int .u32 4294967295) (.int .u32 u) (.int .u32 c) (.bool true) (.bool false) (.slice Av l5.length cv); have h6 := below7 (Below.refl w.heap.size w6) (Nat.le_refl w.heap.size) (.int .u32 f) (.int .u32 4294967295) (.int .u32 u) (.int .u32 c) (.bool true) (.bool false) (.slice Av l5.length cv); have z7 := far7 BZ6.out hne1 (.int .u32 f) (.int .u32 4294967295) (.int .u32 u) (.int .u32 c) (.bool true) (.bool false) (.slice Av l5.length cv); have o7 := set7 HO6.out (show w.heap.size < w.heap.size + 2 by omega) (.int .u32 f) (.int .u32 4294967295) (.int .u32 u) (.int .u32 c) (.bool true) (.bool false) (.slice Av l5.length cv); refine (refTurn_max f u c true false _ ⟨_, _, _, rfl⟩ _).mono ?_; rintro ex w8 ⟨rfl, hb⟩; have HB8 := Lib.hid (h7.trans (hb.mono h7.size)); have BZ8 := Lib.hid (below_old z7 hb); have HO8 := Lib.hid (Kd.R_below o7 hb); clear hb h6 h7 z7 o7 hx hz; have hz := blk7 BZ8.out))
  refine bodyPost_ret (results_list (rs := [.cell 6 25, .tmp 7, .tmp 8]) rfl (by simp) (.cell (w.heap.size + 1) 25 (lockA f 4294967295 u c true false (.slice Av l5.length cv)) (0, 0) _ rfl (put7 BZ8.out) Try.underlying25 rfl (by kernel_rfl) (.tmp (.tmp .nil)))) rfl ?_
  exact ⟨_, _, rfl, and_assoc.1 ⟨R_both (set7 HO8.out (show w.heap.size + 1 < w.heap.size + 2 by omega) _ _ _ _ _ _ _), below7 HB8.out (by omega) _ _ _ _ _ _ _⟩⟩

set_option maxHeartbeats 4000000 in
theorem ref_turnnext1 (f e u c : Int)  (A0 : Option Addr) (c0 : Nat) (l : List S40) (cl m : Int) (w : World) (hr0 : Kd.C k40 w A0 l.length l) (hc0 : l.length ≤ c0) (hl : l.length ≤ 100) (hr : rightB u c true false l = true) (hm : m = 1) (ho : (othersF l cl m).length = 0) (hh : ¬ m ≤ modeF l cl) (hu : u = 2) (he : ¬ e = 4294967295) :
    Calls Try.prog 18 #[.agg (lockA f e u c true false (.slice A0 l.length c0)), .int .u32 cl, .int .u32 m] w fun ex w' => ∃ A' c', ex = .returned (.tuple #[.agg (lockA f ((e + 1) % 4294967296) 0 c false false (.slice A' ([] : List S40).length c')), .int .i64 3, .int .i64 0]) ∧ Kd.C k40 w' A' ([] : List S40).length ([] : List S40) ∧ ([] : List S40).length ≤ c' ∧ Below w.heap.size w w' := by
  obtain ⟨w2, hw2⟩ : ∃ w2, (w.alloc (.cells (lockA f e u c true false (.slice A0 l.length c0)) 25)).alloc (.cells zlock 25) = w2 := ⟨_, rfl⟩
  have hs2 : w2.heap.size = w.heap.size + 2 := by rw [← hw2]; simp
  have HB2 := Lib.hid (show Below w.heap.size w w2 by rw [← hw2]; have h1 := boxed w (.cells (lockA f e u c true false (.slice A0 l.length c0)) 25); exact h1.alloc h1.size _)
  have BL2 := Lib.hid (show w2.heap[w.heap.size]? = some (.cells (lockA f e u c true false (.slice A0 l.length c0)) 25 (0, 0)) by rw [← hw2]; exact alloc_old (alloc_at w _) _)
  have BZ2 := Lib.hid (show w2.heap[w.heap.size + 1]? = some (.cells zlock 25 (0, 0)) by rw [← hw2]; have := alloc_at (w.alloc (.cells (lockA f e u c true false (.slice A0 l.length c0)) 25)) (.cells zlock 25); simpa using this)
  have HRT := Lib.hid (fun W h => lamellaref12_Right.calls 4200 f e u c true false A0 c0 l true W h hc0 (by rw [refRight_f f e u c true false l (by omega) 4200 (by omega), hr]))
  have hne1 : ¬ w.heap.size + 1 = w.heap.size := by omega
  have hne2 : ¬ w.heap.size = w.heap.size + 1 := by omega
  obtain ⟨os, hos⟩ : ∃ os, othersF l cl m = os := ⟨_, rfl⟩
  have HOT := Lib.hid (fun W h => lamellaref12_Others.calls 4200 f e u c true false A0 c0 l cl m os W h hc0 (by rw [refOthers_f f e u c true false l cl m (by omega) 4200 (by omega), hos]))
  obtain ⟨mo, hmo⟩ : ∃ mo, modeF l cl = mo := ⟨_, rfl⟩
  have HMO := Lib.hid (fun W h => lamellaref12_Mode.calls 4200 f e u c true false A0 c0 l cl mo W h hc0 (by rw [refMode_f f e u c true false l cl (by omega) 4200 (by omega), hmo]))
  obtain ⟨l5, hl5⟩ : ∃ l5, withoutF l cl = l5 := ⟨_, rfl⟩
  have hl5n : l5.length ≤ 100 := by rw [← hl5]; exact Nat.le_trans (List.length_filter_le _ _) hl
  have HWO := Lib.hid (fun W h => lamellaref12_Without.calls 4200 f e u c true false A0 c0 l cl f e u c true false l5 W h hc0 (by rw [refWithout_f f e u c true false l cl (by omega) 4200 (by omega), hl5]))
  have HR := Lib.hid hr0
  have HL := Lib.hid hl
  have hx := blk7 BL2.out
  have hz := blk7 BZ2.out
  have HS2 := Lib.hid (show w.heap.size + 2 ≤ w2.heap.size by omega)
  clear hs2
  have hn1 : (m != 1) = false := by rw [hm]; rfl
  have hd1 : (m == 1) = true := by rw [hm]; rfl
  have hd1' : (m = 1) = True := eq_true hm
  have hu1 : (u != 2) = false := by rw [hu]; rfl
  have hu2 : (u == 0) = false := by rw [hu]; rfl
  have hu2' : (u = 0) = False := eq_false (by omega)
  have hos1 : decide (0 < os.length) = false := decide_eq_false (by rw [← hos]; omega)
  have hmo1 : decide (m ≤ mo) = false := decide_eq_false (by rw [← hmo]; omega)
  have HE := Lib.hid he
  clear hr0 hc0 hl hr ho hh hu he hm hos hmo hl5 hl5n
  go_enter Try.func18, Try.ntmps18
  go_wp2_with (first | (go_at_call 10; refine (HRT.out _ (Kd.C_below HR.out HB2.out)).mono ?_; rintro ex w3 ⟨rfl, hb⟩; clear hw2; have HB3 := Lib.hid (HB2.out.trans (hb.mono HB2.out.size)); have HS3 := Lib.hid (Nat.le_trans HS2.out hb.size); have BL3 := Lib.hid (below_old BL2.out hb); have BZ3 := Lib.hid (below_old BZ2.out hb); clear hx hz; have hx := blk7 BL3.out; have hz := blk7 BZ3.out; clear hb) | (go_at_call 15; refine (HOT.out _ (Kd.C_below HR.out HB3.out)).mono ?_; rintro ex w4 ⟨vo, rfl, ho, hb⟩; obtain ⟨Ao, co, rfl⟩ := Kd.R_slice ho; clear ho; have HB4 := Lib.hid (HB3.out.trans (hb.mono HB3.out.size)); have HS4 := Lib.hid (Nat.le_trans HS3.out hb.size); have BL4 := Lib.hid (below_old BL3.out hb); have BZ4 := Lib.hid (below_old BZ3.out hb); clear hx hz; have hx := blk7 BL4.out; have hz := blk7 BZ4.out; clear hb) | (go_at_call 16; refine (HMO.out _ (Kd.C_below HR.out HB4.out)).mono ?_; rintro ex w5 ⟨rfl, hb⟩; have HB5 := Lib.hid (HB4.out.trans (hb.mono HB4.out.size)); have HS5 := Lib.hid (Nat.le_trans HS4.out hb.size); have BL5 := Lib.hid (below_old BL4.out hb); have BZ5 := Lib.hid (below_old BZ4.out hb); clear hx hz; have hx := blk7 BL5.out; have hz := blk7 BZ5.out; clear hb) | (go_at_call 28; refine (HWO.out _ (Kd.C_below HR.out HB5.out)).mono ?_; rintro ex w6 ⟨v, rfl, ho, hb⟩; have HO6 := Lib.hid (Kd.R_lower ho HS5.out); obtain ⟨Av, cv, rfl⟩ := Kd.R_slice HO6.out; clear ho; have HB6 := Lib.hid (HB5.out.trans (hb.mono HB5.out.size)); have HS6 := Lib.hid (Nat.le_trans HS5.out hb.size); have BL6 := Lib.hid (below_old BL5.out hb); have BZ6 := Lib.hid (below_old BZ5.out hb); clear hx hz; have hx := blk7 BL6.out; have hz := blk7 BZ6.out; clear hb) | (go_at_call 29; have h7 := below7 HB6.out (Nat.le_refl w.heap.size) (.int .u32 f) (.int .u32 e) (.int .u32 u) (.int .u32 c) (.bool true) (.bool false) (.slice Av l5.length cv); have h6 := below7 (Below.refl w.heap.size w6) (Nat.le_refl w.heap.size) (.int .u32 f) (.int .u32 e) (.int .u32 u) (.int .u32 c) (.bool true) (.bool false) (.slice Av l5.length cv); have z7 := far7 BZ6.out hne1 (.int .u32 f) (.int .u32 e) (.int .u32 u) (.int .u32 c) (.bool true) (.bool false) (.slice Av l5.length cv); have o7 := set7 HO6.out (show w.heap.size < w.heap.size + 2 by omega) (.int .u32 f) (.int .u32 e) (.int .u32 u) (.int .u32 c) (.bool true) (.bool false) (.slice Av l5.length cv); refine (refTurn_next f e u c true false _ ⟨_, _, _, rfl⟩ HE.out _).mono ?_; rintro ex w8 ⟨rfl, hb⟩; have HB8 := Lib.hid (h7.trans (hb.mono h7.size)); have BZ8 := Lib.hid (below_old z7 hb); have HO8 := Lib.hid (Kd.R_below o7 hb); clear hb h6 h7 z7 o7 hx hz; have hz := blk7 BZ8.out))
  refine bodyPost_ret (results_list (rs := [.cell 6 25, .tmp 7, .tmp 8]) rfl (by simp) (.cell (w.heap.size + 1) 25 (lockA f ((e + 1) % 4294967296) 0 c false false (.slice none 0 0)) (0, 0) _ rfl (put7 BZ8.out) Try.underlying25 rfl (by kernel_rfl) (.tmp (.tmp .nil)))) rfl ?_
  exact ⟨none, 0, rfl, ⟨rfl, by decide, fun h => absurd h (Nat.lt_irrefl _)⟩, Nat.le_refl _, below7 HB8.out (by omega) _ _ _ _ _ _ _⟩

set_option maxHeartbeats 4000000 in
theorem ref_turnmax2 (f u c : Int)  (A0 : Option Addr) (c0 : Nat) (l : List S40) (cl m : Int) (w : World) (hr0 : Kd.C k40 w A0 l.length l) (hc0 : l.length ≤ c0) (hl : l.length ≤ 100) (hr : rightB u c true false l = true) (hm : m = 2) (ho : (othersF l cl m).length = 0) (hh : ¬ m ≤ modeF l cl) (hu : ¬ u = 0) :
    Calls Try.prog 18 #[.agg (lockA f 4294967295 u c true false (.slice A0 l.length c0)), .int .u32 cl, .int .u32 m] w fun ex w' => ∃ A' c', ex = .returned (.tuple #[.agg (lockA f 4294967295 u c true false (.slice A' (withoutF l cl).length c')), .int .i64 3, .int .i64 0]) ∧ Kd.C k40 w' A' (withoutF l cl).length (withoutF l cl) ∧ (withoutF l cl).length ≤ c' ∧ Below w.heap.size w w' := by
  obtain ⟨w2, hw2⟩ : ∃ w2, (w.alloc (.cells (lockA f 4294967295 u c true false (.slice A0 l.length c0)) 25)).alloc (.cells zlock 25) = w2 := ⟨_, rfl⟩
  have hs2 : w2.heap.size = w.heap.size + 2 := by rw [← hw2]; simp
  have HB2 := Lib.hid (show Below w.heap.size w w2 by rw [← hw2]; have h1 := boxed w (.cells (lockA f 4294967295 u c true false (.slice A0 l.length c0)) 25); exact h1.alloc h1.size _)
  have BL2 := Lib.hid (show w2.heap[w.heap.size]? = some (.cells (lockA f 4294967295 u c true false (.slice A0 l.length c0)) 25 (0, 0)) by rw [← hw2]; exact alloc_old (alloc_at w _) _)
  have BZ2 := Lib.hid (show w2.heap[w.heap.size + 1]? = some (.cells zlock 25 (0, 0)) by rw [← hw2]; have := alloc_at (w.alloc (.cells (lockA f 4294967295 u c true false (.slice A0 l.length c0)) 25)) (.cells zlock 25); simpa using this)
  have HRT := Lib.hid (fun W h => lamellaref12_Right.calls 4200 f 4294967295 u c true false A0 c0 l true W h hc0 (by rw [refRight_f f 4294967295 u c true false l (by omega) 4200 (by omega), hr]))
  have hne1 : ¬ w.heap.size + 1 = w.heap.size := by omega
  have hne2 : ¬ w.heap.size = w.heap.size + 1 := by omega
  obtain ⟨os, hos⟩ : ∃ os, othersF l cl m = os := ⟨_, rfl⟩
  have HOT := Lib.hid (fun W h => lamellaref12_Others.calls 4200 f 4294967295 u c true false A0 c0 l cl m os W h hc0 (by rw [refOthers_f f 4294967295 u c true false l cl m (by omega) 4200 (by omega), hos]))
  obtain ⟨mo, hmo⟩ : ∃ mo, modeF l cl = mo := ⟨_, rfl⟩
  have HMO := Lib.hid (fun W h => lamellaref12_Mode.calls 4200 f 4294967295 u c true false A0 c0 l cl mo W h hc0 (by rw [refMode_f f 4294967295 u c true false l cl (by omega) 4200 (by omega), hmo]))
  obtain ⟨l5, hl5⟩ : ∃ l5, withoutF l cl = l5 := ⟨_, rfl⟩
  have hl5n : l5.length ≤ 100 := by rw [← hl5]; exact Nat.le_trans (List.length_filter_le _ _) hl
  have HWO := Lib.hid (fun W h => lamellaref12_Without.calls 4200 f 4294967295 u c true false A0 c0 l cl f 4294967295 u c true false l5 W h hc0 (by rw [refWithout_f f 4294967295 u c true false l cl (by omega) 4200 (by omega), hl5]))
  have HR := Lib.hid hr0
  have HL := Lib.hid hl
  have hx := blk7 BL2.out
  have hz := blk7 BZ2.out
  have HS2 := Lib.hid (show w.heap.size + 2 ≤ w2.heap.size by omega)
  clear hs2
  have hn1 : (m != 1) = true := by rw [hm]; rfl
  have hn2 : (m != 2) = false := by rw [hm]; rfl
  have hd1 : (m == 1) = false := by rw [hm]; rfl
  have hd1' : (m = 1) = False := eq_false (by omega)
  have hd2 : (m == 2) = true := by rw [hm]; rfl
  have hd2' : (m = 2) = True := eq_true hm
  have hu2 : (u == 0) = false := beq_eq_false_iff_ne.2 hu
  have hu2' : (u = 0) = False := eq_false hu
  have hos1 : decide (0 < os.length) = false := decide_eq_false (by rw [← hos]; omega)
  have hmo1 : decide (m ≤ mo) = false := decide_eq_false (by rw [← hmo]; omega)
  rw [hl5]
  clear hr0 hc0 hl hr ho hh hu hm hos hmo hl5 hl5n
  go_enter Try.func18, Try.ntmps18
  go_wp2_with (first | (go_at_call 10; refine (HRT.out _ (Kd.C_below HR.out HB2.out)).mono ?_; rintro ex w3 ⟨rfl, hb⟩; clear hw2; have HB3 := Lib.hid (HB2.out.trans (hb.mono HB2.out.size)); have HS3 := Lib.hid (Nat.le_trans HS2.out hb.size); have BL3 := Lib.hid (below_old BL2.out hb); have BZ3 := Lib.hid (below_old BZ2.out hb); clear hx hz; have hx := blk7 BL3.out; have hz := blk7 BZ3.out; clear hb) | (go_at_call 15; refine (HOT.out _ (Kd.C_below HR.out HB3.out)).mono ?_; rintro ex w4 ⟨vo, rfl, ho, hb⟩; obtain ⟨Ao, co, rfl⟩ := Kd.R_slice ho; clear ho; have HB4 := Lib.hid (HB3.out.trans (hb.mono HB3.out.size)); have HS4 := Lib.hid (Nat.le_trans HS3.out hb.size); have BL4 := Lib.hid (below_old BL3.out hb); have BZ4 := Lib.hid (below_old BZ3.out hb); clear hx hz; have hx := blk7 BL4.out; have hz := blk7 BZ4.out; clear hb) | (go_at_call 16; refine (HMO.out _ (Kd.C_below HR.out HB4.out)).mono ?_; rintro ex w5 ⟨rfl, hb⟩; have HB5 := Lib.hid (HB4.out.trans (hb.mono HB4.out.size)); have HS5 := Lib.hid (Nat.le_trans HS4.out hb.size); have BL5 := Lib.hid (below_old BL4.out hb); have BZ5 := Lib.hid (below_old BZ4.out hb); clear hx hz; have hx := blk7 BL5.out; have hz := blk7 BZ5.out; clear hb) | (go_at_call 28; refine (HWO.out _ (Kd.C_below HR.out HB5.out)).mono ?_; rintro ex w6 ⟨v, rfl, ho, hb⟩; have HO6 := Lib.hid (Kd.R_lower ho HS5.out); obtain ⟨Av, cv, rfl⟩ := Kd.R_slice HO6.out; clear ho; have HB6 := Lib.hid (HB5.out.trans (hb.mono HB5.out.size)); have HS6 := Lib.hid (Nat.le_trans HS5.out hb.size); have BL6 := Lib.hid (below_old BL5.out hb); have BZ6 := Lib.hid (below_old BZ5.out hb); clear hx hz; have hx := blk7 BL6.out; have hz := blk7 BZ6.out; clear hb) | (go_at_call 29; have h7 := below7 HB6.out (Nat.le_refl w.heap.size) (.int .u32 f) (.int .u32 4294967295) (.int .u32 u) (.int .u32 c) (.bool true) (.bool false) (.slice Av l5.length cv); have h6 := below7 (Below.refl w.heap.size w6) (Nat.le_refl w.heap.size) (.int .u32 f) (.int .u32 4294967295) (.int .u32 u) (.int .u32 c) (.bool true) (.bool false) (.slice Av l5.length cv); have z7 := far7 BZ6.out hne1 (.int .u32 f) (.int .u32 4294967295) (.int .u32 u) (.int .u32 c) (.bool true) (.bool false) (.slice Av l5.length cv); have o7 := set7 HO6.out (show w.heap.size < w.heap.size + 2 by omega) (.int .u32 f) (.int .u32 4294967295) (.int .u32 u) (.int .u32 c) (.bool true) (.bool false) (.slice Av l5.length cv); refine (refTurn_max f u c true false _ ⟨_, _, _, rfl⟩ _).mono ?_; rintro ex w8 ⟨rfl, hb⟩; have HB8 := Lib.hid (h7.trans (hb.mono h7.size)); have BZ8 := Lib.hid (below_old z7 hb); have HO8 := Lib.hid (Kd.R_below o7 hb); clear hb h6 h7 z7 o7 hx hz; have hz := blk7 BZ8.out))
  refine bodyPost_ret (results_list (rs := [.cell 6 25, .tmp 7, .tmp 8]) rfl (by simp) (.cell (w.heap.size + 1) 25 (lockA f 4294967295 u c true false (.slice Av l5.length cv)) (0, 0) _ rfl (put7 BZ8.out) Try.underlying25 rfl (by kernel_rfl) (.tmp (.tmp .nil)))) rfl ?_
  exact ⟨_, _, rfl, and_assoc.1 ⟨R_both (set7 HO8.out (show w.heap.size + 1 < w.heap.size + 2 by omega) _ _ _ _ _ _ _), below7 HB8.out (by omega) _ _ _ _ _ _ _⟩⟩

set_option maxHeartbeats 4000000 in
theorem ref_turnnext2 (f e u c : Int)  (A0 : Option Addr) (c0 : Nat) (l : List S40) (cl m : Int) (w : World) (hr0 : Kd.C k40 w A0 l.length l) (hc0 : l.length ≤ c0) (hl : l.length ≤ 100) (hr : rightB u c true false l = true) (hm : m = 2) (ho : (othersF l cl m).length = 0) (hh : ¬ m ≤ modeF l cl) (hu : ¬ u = 0) (he : ¬ e = 4294967295) :
    Calls Try.prog 18 #[.agg (lockA f e u c true false (.slice A0 l.length c0)), .int .u32 cl, .int .u32 m] w fun ex w' => ∃ A' c', ex = .returned (.tuple #[.agg (lockA f ((e + 1) % 4294967296) 0 c false false (.slice A' ([] : List S40).length c')), .int .i64 3, .int .i64 0]) ∧ Kd.C k40 w' A' ([] : List S40).length ([] : List S40) ∧ ([] : List S40).length ≤ c' ∧ Below w.heap.size w w' := by
  obtain ⟨w2, hw2⟩ : ∃ w2, (w.alloc (.cells (lockA f e u c true false (.slice A0 l.length c0)) 25)).alloc (.cells zlock 25) = w2 := ⟨_, rfl⟩
  have hs2 : w2.heap.size = w.heap.size + 2 := by rw [← hw2]; simp
  have HB2 := Lib.hid (show Below w.heap.size w w2 by rw [← hw2]; have h1 := boxed w (.cells (lockA f e u c true false (.slice A0 l.length c0)) 25); exact h1.alloc h1.size _)
  have BL2 := Lib.hid (show w2.heap[w.heap.size]? = some (.cells (lockA f e u c true false (.slice A0 l.length c0)) 25 (0, 0)) by rw [← hw2]; exact alloc_old (alloc_at w _) _)
  have BZ2 := Lib.hid (show w2.heap[w.heap.size + 1]? = some (.cells zlock 25 (0, 0)) by rw [← hw2]; have := alloc_at (w.alloc (.cells (lockA f e u c true false (.slice A0 l.length c0)) 25)) (.cells zlock 25); simpa using this)
  have HRT := Lib.hid (fun W h => lamellaref12_Right.calls 4200 f e u c true false A0 c0 l true W h hc0 (by rw [refRight_f f e u c true false l (by omega) 4200 (by omega), hr]))
  have hne1 : ¬ w.heap.size + 1 = w.heap.size := by omega
  have hne2 : ¬ w.heap.size = w.heap.size + 1 := by omega
  obtain ⟨os, hos⟩ : ∃ os, othersF l cl m = os := ⟨_, rfl⟩
  have HOT := Lib.hid (fun W h => lamellaref12_Others.calls 4200 f e u c true false A0 c0 l cl m os W h hc0 (by rw [refOthers_f f e u c true false l cl m (by omega) 4200 (by omega), hos]))
  obtain ⟨mo, hmo⟩ : ∃ mo, modeF l cl = mo := ⟨_, rfl⟩
  have HMO := Lib.hid (fun W h => lamellaref12_Mode.calls 4200 f e u c true false A0 c0 l cl mo W h hc0 (by rw [refMode_f f e u c true false l cl (by omega) 4200 (by omega), hmo]))
  obtain ⟨l5, hl5⟩ : ∃ l5, withoutF l cl = l5 := ⟨_, rfl⟩
  have hl5n : l5.length ≤ 100 := by rw [← hl5]; exact Nat.le_trans (List.length_filter_le _ _) hl
  have HWO := Lib.hid (fun W h => lamellaref12_Without.calls 4200 f e u c true false A0 c0 l cl f e u c true false l5 W h hc0 (by rw [refWithout_f f e u c true false l cl (by omega) 4200 (by omega), hl5]))
  have HR := Lib.hid hr0
  have HL := Lib.hid hl
  have hx := blk7 BL2.out
  have hz := blk7 BZ2.out
  have HS2 := Lib.hid (show w.heap.size + 2 ≤ w2.heap.size by omega)
  clear hs2
  have hn1 : (m != 1) = true := by rw [hm]; rfl
  have hn2 : (m != 2) = false := by rw [hm]; rfl
  have hd1 : (m == 1) = false := by rw [hm]; rfl
  have hd1' : (m = 1) = False := eq_false (by omega)
  have hd2 : (m == 2) = true := by rw [hm]; rfl
  have hd2' : (m = 2) = True := eq_true hm
  have hu2 : (u == 0) = false := beq_eq_false_iff_ne.2 hu
  have hu2' : (u = 0) = False := eq_false hu
  have hos1 : decide (0 < os.length) = false := decide_eq_false (by rw [← hos]; omega)
  have hmo1 : decide (m ≤ mo) = false := decide_eq_false (by rw [← hmo]; omega)
  have HE := Lib.hid he
  clear hr0 hc0 hl hr ho hh hu he hm hos hmo hl5 hl5n
  go_enter Try.func18, Try.ntmps18
  go_wp2_with (first | (go_at_call 10; refine (HRT.out _ (Kd.C_below HR.out HB2.out)).mono ?_; rintro ex w3 ⟨rfl, hb⟩; clear hw2; have HB3 := Lib.hid (HB2.out.trans (hb.mono HB2.out.size)); have HS3 := Lib.hid (Nat.le_trans HS2.out hb.size); have BL3 := Lib.hid (below_old BL2.out hb); have BZ3 := Lib.hid (below_old BZ2.out hb); clear hx hz; have hx := blk7 BL3.out; have hz := blk7 BZ3.out; clear hb) | (go_at_call 15; refine (HOT.out _ (Kd.C_below HR.out HB3.out)).mono ?_; rintro ex w4 ⟨vo, rfl, ho, hb⟩; obtain ⟨Ao, co, rfl⟩ := Kd.R_slice ho; clear ho; have HB4 := Lib.hid (HB3.out.trans (hb.mono HB3.out.size)); have HS4 := Lib.hid (Nat.le_trans HS3.out hb.size); have BL4 := Lib.hid (below_old BL3.out hb); have BZ4 := Lib.hid (below_old BZ3.out hb); clear hx hz; have hx := blk7 BL4.out; have hz := blk7 BZ4.out; clear hb) | (go_at_call 16; refine (HMO.out _ (Kd.C_below HR.out HB4.out)).mono ?_; rintro ex w5 ⟨rfl, hb⟩; have HB5 := Lib.hid (HB4.out.trans (hb.mono HB4.out.size)); have HS5 := Lib.hid (Nat.le_trans HS4.out hb.size); have BL5 := Lib.hid (below_old BL4.out hb); have BZ5 := Lib.hid (below_old BZ4.out hb); clear hx hz; have hx := blk7 BL5.out; have hz := blk7 BZ5.out; clear hb) | (go_at_call 28; refine (HWO.out _ (Kd.C_below HR.out HB5.out)).mono ?_; rintro ex w6 ⟨v, rfl, ho, hb⟩; have HO6 := Lib.hid (Kd.R_lower ho HS5.out); obtain ⟨Av, cv, rfl⟩ := Kd.R_slice HO6.out; clear ho; have HB6 := Lib.hid (HB5.out.trans (hb.mono HB5.out.size)); have HS6 := Lib.hid (Nat.le_trans HS5.out hb.size); have BL6 := Lib.hid (below_old BL5.out hb); have BZ6 := Lib.hid (below_old BZ5.out hb); clear hx hz; have hx := blk7 BL6.out; have hz := blk7 BZ6.out; clear hb) | (go_at_call 29; have h7 := below7 HB6.out (Nat.le_refl w.heap.size) (.int .u32 f) (.int .u32 e) (.int .u32 u) (.int .u32 c) (.bool true) (.bool false) (.slice Av l5.length cv); have h6 := below7 (Below.refl w.heap.size w6) (Nat.le_refl w.heap.size) (.int .u32 f) (.int .u32 e) (.int .u32 u) (.int .u32 c) (.bool true) (.bool false) (.slice Av l5.length cv); have z7 := far7 BZ6.out hne1 (.int .u32 f) (.int .u32 e) (.int .u32 u) (.int .u32 c) (.bool true) (.bool false) (.slice Av l5.length cv); have o7 := set7 HO6.out (show w.heap.size < w.heap.size + 2 by omega) (.int .u32 f) (.int .u32 e) (.int .u32 u) (.int .u32 c) (.bool true) (.bool false) (.slice Av l5.length cv); refine (refTurn_next f e u c true false _ ⟨_, _, _, rfl⟩ HE.out _).mono ?_; rintro ex w8 ⟨rfl, hb⟩; have HB8 := Lib.hid (h7.trans (hb.mono h7.size)); have BZ8 := Lib.hid (below_old z7 hb); have HO8 := Lib.hid (Kd.R_below o7 hb); clear hb h6 h7 z7 o7 hx hz; have hz := blk7 BZ8.out))
  refine bodyPost_ret (results_list (rs := [.cell 6 25, .tmp 7, .tmp 8]) rfl (by simp) (.cell (w.heap.size + 1) 25 (lockA f ((e + 1) % 4294967296) 0 c false false (.slice none 0 0)) (0, 0) _ rfl (put7 BZ8.out) Try.underlying25 rfl (by kernel_rfl) (.tmp (.tmp .nil)))) rfl ?_
  exact ⟨none, 0, rfl, ⟨rfl, by decide, fun h => absurd h (Nat.lt_irrefl _)⟩, Nat.le_refl _, below7 HB8.out (by omega) _ _ _ _ _ _ _⟩

set_option maxHeartbeats 4000000 in
theorem ref_full1 (f e u c : Int)  (A0 : Option Addr) (c0 : Nat) (l : List S40) (cl m : Int) (w : World) (hr0 : Kd.C k40 w A0 l.length l) (hc0 : l.length ≤ c0) (hl : l.length ≤ 100) (hr : rightB u c true false l = true) (hm : m = 1) (ho : (othersF l cl m).length = 0) (hh : ¬ m ≤ modeF l cl) (hu : ¬ u = 2) (hf : (withoutF l cl).length = 4) :
    Calls Try.prog 18 #[.agg (lockA f e u c true false (.slice A0 l.length c0)), .int .u32 cl, .int .u32 m] w fun ex w' => ∃ A' c', ex = .returned (.tuple #[.agg (lockA f e u c true false (.slice A' (withoutF l cl).length c')), .int .i64 2, .int .i64 0]) ∧ Kd.C k40 w' A' (withoutF l cl).length (withoutF l cl) ∧ (withoutF l cl).length ≤ c' ∧ Below w.heap.size w w' := by
  obtain ⟨w2, hw2⟩ : ∃ w2, (w.alloc (.cells (lockA f e u c true false (.slice A0 l.length c0)) 25)).alloc (.cells zlock 25) = w2 := ⟨_, rfl⟩
  have hs2 : w2.heap.size = w.heap.size + 2 := by rw [← hw2]; simp
  have HB2 := Lib.hid (show Below w.heap.size w w2 by rw [← hw2]; have h1 := boxed w (.cells (lockA f e u c true false (.slice A0 l.length c0)) 25); exact h1.alloc h1.size _)
  have BL2 := Lib.hid (show w2.heap[w.heap.size]? = some (.cells (lockA f e u c true false (.slice A0 l.length c0)) 25 (0, 0)) by rw [← hw2]; exact alloc_old (alloc_at w _) _)
  have BZ2 := Lib.hid (show w2.heap[w.heap.size + 1]? = some (.cells zlock 25 (0, 0)) by rw [← hw2]; have := alloc_at (w.alloc (.cells (lockA f e u c true false (.slice A0 l.length c0)) 25)) (.cells zlock 25); simpa using this)
  have HRT := Lib.hid (fun W h => lamellaref12_Right.calls 4200 f e u c true false A0 c0 l true W h hc0 (by rw [refRight_f f e u c true false l (by omega) 4200 (by omega), hr]))
  have hne1 : ¬ w.heap.size + 1 = w.heap.size := by omega
  have hne2 : ¬ w.heap.size = w.heap.size + 1 := by omega
  obtain ⟨os, hos⟩ : ∃ os, othersF l cl m = os := ⟨_, rfl⟩
  have HOT := Lib.hid (fun W h => lamellaref12_Others.calls 4200 f e u c true false A0 c0 l cl m os W h hc0 (by rw [refOthers_f f e u c true false l cl m (by omega) 4200 (by omega), hos]))
  obtain ⟨mo, hmo⟩ : ∃ mo, modeF l cl = mo := ⟨_, rfl⟩
  have HMO := Lib.hid (fun W h => lamellaref12_Mode.calls 4200 f e u c true false A0 c0 l cl mo W h hc0 (by rw [refMode_f f e u c true false l cl (by omega) 4200 (by omega), hmo]))
  obtain ⟨l5, hl5⟩ : ∃ l5, withoutF l cl = l5 := ⟨_, rfl⟩
  have hl5n : l5.length ≤ 100 := by rw [← hl5]; exact Nat.le_trans (List.length_filter_le _ _) hl
  have HWO := Lib.hid (fun W h => lamellaref12_Without.calls 4200 f e u c true false A0 c0 l cl f e u c true false l5 W h hc0 (by rw [refWithout_f f e u c true false l cl (by omega) 4200 (by omega), hl5]))
  have HR := Lib.hid hr0
  have HL := Lib.hid hl
  have hx := blk7 BL2.out
  have hz := blk7 BZ2.out
  have HS2 := Lib.hid (show w.heap.size + 2 ≤ w2.heap.size by omega)
  clear hs2
  have hn1 : (m != 1) = false := by rw [hm]; rfl
  have hd1 : (m == 1) = true := by rw [hm]; rfl
  have hd1' : (m = 1) = True := eq_true hm
  have hu1 : (u != 2) = true := bne_iff_ne.2 hu
  have hos1 : decide (0 < os.length) = false := decide_eq_false (by rw [← hos]; omega)
  have hmo1 : decide (m ≤ mo) = false := decide_eq_false (by rw [← hmo]; omega)
  have hf1 : ((l5.length : Int) == 4) = true := by rw [beq_iff_eq, ← hl5]; omega
  have hf2 : (l5.length == 4) = true := by rw [beq_iff_eq, ← hl5]; omega
  have hf3 : (l5.length = 4) = True := eq_true (by rw [← hl5]; omega)
  have hf4 : ((l5.length : Int) = 4) = True := eq_true (by rw [← hl5]; omega)
  rw [hl5]
  clear hr0 hc0 hl hr ho hh hu hf hm hos hmo hl5 hl5n
  go_enter Try.func18, Try.ntmps18
  go_wp2_with (first | (go_at_call 10; refine (HRT.out _ (Kd.C_below HR.out HB2.out)).mono ?_; rintro ex w3 ⟨rfl, hb⟩; clear hw2; have HB3 := Lib.hid (HB2.out.trans (hb.mono HB2.out.size)); have HS3 := Lib.hid (Nat.le_trans HS2.out hb.size); have BL3 := Lib.hid (below_old BL2.out hb); have BZ3 := Lib.hid (below_old BZ2.out hb); clear hx hz; have hx := blk7 BL3.out; have hz := blk7 BZ3.out; clear hb) | (go_at_call 15; refine (HOT.out _ (Kd.C_below HR.out HB3.out)).mono ?_; rintro ex w4 ⟨vo, rfl, ho, hb⟩; obtain ⟨Ao, co, rfl⟩ := Kd.R_slice ho; clear ho; have HB4 := Lib.hid (HB3.out.trans (hb.mono HB3.out.size)); have HS4 := Lib.hid (Nat.le_trans HS3.out hb.size); have BL4 := Lib.hid (below_old BL3.out hb); have BZ4 := Lib.hid (below_old BZ3.out hb); clear hx hz; have hx := blk7 BL4.out; have hz := blk7 BZ4.out; clear hb) | (go_at_call 16; refine (HMO.out _ (Kd.C_below HR.out HB4.out)).mono ?_; rintro ex w5 ⟨rfl, hb⟩; have HB5 := Lib.hid (HB4.out.trans (hb.mono HB4.out.size)); have HS5 := Lib.hid (Nat.le_trans HS4.out hb.size); have BL5 := Lib.hid (below_old BL4.out hb); have BZ5 := Lib.hid (below_old BZ4.out hb); clear hx hz; have hx := blk7 BL5.out; have hz := blk7 BZ5.out; clear hb) | (go_at_call 28; refine (HWO.out _ (Kd.C_below HR.out HB5.out)).mono ?_; rintro ex w6 ⟨v, rfl, ho, hb⟩; have HO6 := Lib.hid (Kd.R_lower ho HS5.out); obtain ⟨Av, cv, rfl⟩ := Kd.R_slice HO6.out; clear ho; have HB6 := Lib.hid (HB5.out.trans (hb.mono HB5.out.size)); have HS6 := Lib.hid (Nat.le_trans HS5.out hb.size); have BL6 := Lib.hid (below_old BL5.out hb); have BZ6 := Lib.hid (below_old BZ5.out hb); clear hx hz; have hx := blk7 BL6.out; have hz := blk7 BZ6.out; clear hb))
  refine bodyPost_ret (results_list (rs := [.cell 6 25, .tmp 7, .tmp 8]) rfl (by simp) (.cell (w.heap.size + 1) 25 (lockA f e u c true false (.slice Av l5.length cv)) (0, 0) _ rfl (put7 (far7 BZ6.out hne1 _ _ _ _ _ _ _)) Try.underlying25 rfl (by kernel_rfl) (.tmp (.tmp .nil)))) rfl ?_
  exact ⟨_, _, rfl, and_assoc.1 ⟨R_both (set7 (set7 HO6.out (show w.heap.size < w.heap.size + 2 by omega) _ _ _ _ _ _ _) (show w.heap.size + 1 < w.heap.size + 2 by omega) _ _ _ _ _ _ _), below7 (below7 HB6.out (Nat.le_refl _) _ _ _ _ _ _ _) (by omega) _ _ _ _ _ _ _⟩⟩

set_option maxHeartbeats 4000000 in
theorem ref_full2 (f e u c : Int)  (A0 : Option Addr) (c0 : Nat) (l : List S40) (cl m : Int) (w : World) (hr0 : Kd.C k40 w A0 l.length l) (hc0 : l.length ≤ c0) (hl : l.length ≤ 100) (hr : rightB u c true false l = true) (hm : m = 2) (ho : (othersF l cl m).length = 0) (hh : ¬ m ≤ modeF l cl) (hu : u = 0) (hf : (withoutF l cl).length = 4) :
    Calls Try.prog 18 #[.agg (lockA f e u c true false (.slice A0 l.length c0)), .int .u32 cl, .int .u32 m] w fun ex w' => ∃ A' c', ex = .returned (.tuple #[.agg (lockA f e u c true false (.slice A' (withoutF l cl).length c')), .int .i64 2, .int .i64 0]) ∧ Kd.C k40 w' A' (withoutF l cl).length (withoutF l cl) ∧ (withoutF l cl).length ≤ c' ∧ Below w.heap.size w w' := by
  obtain ⟨w2, hw2⟩ : ∃ w2, (w.alloc (.cells (lockA f e u c true false (.slice A0 l.length c0)) 25)).alloc (.cells zlock 25) = w2 := ⟨_, rfl⟩
  have hs2 : w2.heap.size = w.heap.size + 2 := by rw [← hw2]; simp
  have HB2 := Lib.hid (show Below w.heap.size w w2 by rw [← hw2]; have h1 := boxed w (.cells (lockA f e u c true false (.slice A0 l.length c0)) 25); exact h1.alloc h1.size _)
  have BL2 := Lib.hid (show w2.heap[w.heap.size]? = some (.cells (lockA f e u c true false (.slice A0 l.length c0)) 25 (0, 0)) by rw [← hw2]; exact alloc_old (alloc_at w _) _)
  have BZ2 := Lib.hid (show w2.heap[w.heap.size + 1]? = some (.cells zlock 25 (0, 0)) by rw [← hw2]; have := alloc_at (w.alloc (.cells (lockA f e u c true false (.slice A0 l.length c0)) 25)) (.cells zlock 25); simpa using this)
  have HRT := Lib.hid (fun W h => lamellaref12_Right.calls 4200 f e u c true false A0 c0 l true W h hc0 (by rw [refRight_f f e u c true false l (by omega) 4200 (by omega), hr]))
  have hne1 : ¬ w.heap.size + 1 = w.heap.size := by omega
  have hne2 : ¬ w.heap.size = w.heap.size + 1 := by omega
  obtain ⟨os, hos⟩ : ∃ os, othersF l cl m = os := ⟨_, rfl⟩
  have HOT := Lib.hid (fun W h => lamellaref12_Others.calls 4200 f e u c true false A0 c0 l cl m os W h hc0 (by rw [refOthers_f f e u c true false l cl m (by omega) 4200 (by omega), hos]))
  obtain ⟨mo, hmo⟩ : ∃ mo, modeF l cl = mo := ⟨_, rfl⟩
  have HMO := Lib.hid (fun W h => lamellaref12_Mode.calls 4200 f e u c true false A0 c0 l cl mo W h hc0 (by rw [refMode_f f e u c true false l cl (by omega) 4200 (by omega), hmo]))
  obtain ⟨l5, hl5⟩ : ∃ l5, withoutF l cl = l5 := ⟨_, rfl⟩
  have hl5n : l5.length ≤ 100 := by rw [← hl5]; exact Nat.le_trans (List.length_filter_le _ _) hl
  have HWO := Lib.hid (fun W h => lamellaref12_Without.calls 4200 f e u c true false A0 c0 l cl f e u c true false l5 W h hc0 (by rw [refWithout_f f e u c true false l cl (by omega) 4200 (by omega), hl5]))
  have HR := Lib.hid hr0
  have HL := Lib.hid hl
  have hx := blk7 BL2.out
  have hz := blk7 BZ2.out
  have HS2 := Lib.hid (show w.heap.size + 2 ≤ w2.heap.size by omega)
  clear hs2
  have hn1 : (m != 1) = true := by rw [hm]; rfl
  have hn2 : (m != 2) = false := by rw [hm]; rfl
  have hd1 : (m == 1) = false := by rw [hm]; rfl
  have hd1' : (m = 1) = False := eq_false (by omega)
  have hd2 : (m == 2) = true := by rw [hm]; rfl
  have hd2' : (m = 2) = True := eq_true hm
  have hu2 : (u == 0) = true := by rw [hu]; rfl
  have hu2' : (u = 0) = True := eq_true hu
  have hos1 : decide (0 < os.length) = false := decide_eq_false (by rw [← hos]; omega)
  have hmo1 : decide (m ≤ mo) = false := decide_eq_false (by rw [← hmo]; omega)
  have hf1 : ((l5.length : Int) == 4) = true := by rw [beq_iff_eq, ← hl5]; omega
  have hf2 : (l5.length == 4) = true := by rw [beq_iff_eq, ← hl5]; omega
  have hf3 : (l5.length = 4) = True := eq_true (by rw [← hl5]; omega)
  have hf4 : ((l5.length : Int) = 4) = True := eq_true (by rw [← hl5]; omega)
  rw [hl5]
  clear hr0 hc0 hl hr ho hh hu hf hm hos hmo hl5 hl5n
  go_enter Try.func18, Try.ntmps18
  go_wp2_with (first | (go_at_call 10; refine (HRT.out _ (Kd.C_below HR.out HB2.out)).mono ?_; rintro ex w3 ⟨rfl, hb⟩; clear hw2; have HB3 := Lib.hid (HB2.out.trans (hb.mono HB2.out.size)); have HS3 := Lib.hid (Nat.le_trans HS2.out hb.size); have BL3 := Lib.hid (below_old BL2.out hb); have BZ3 := Lib.hid (below_old BZ2.out hb); clear hx hz; have hx := blk7 BL3.out; have hz := blk7 BZ3.out; clear hb) | (go_at_call 15; refine (HOT.out _ (Kd.C_below HR.out HB3.out)).mono ?_; rintro ex w4 ⟨vo, rfl, ho, hb⟩; obtain ⟨Ao, co, rfl⟩ := Kd.R_slice ho; clear ho; have HB4 := Lib.hid (HB3.out.trans (hb.mono HB3.out.size)); have HS4 := Lib.hid (Nat.le_trans HS3.out hb.size); have BL4 := Lib.hid (below_old BL3.out hb); have BZ4 := Lib.hid (below_old BZ3.out hb); clear hx hz; have hx := blk7 BL4.out; have hz := blk7 BZ4.out; clear hb) | (go_at_call 16; refine (HMO.out _ (Kd.C_below HR.out HB4.out)).mono ?_; rintro ex w5 ⟨rfl, hb⟩; have HB5 := Lib.hid (HB4.out.trans (hb.mono HB4.out.size)); have HS5 := Lib.hid (Nat.le_trans HS4.out hb.size); have BL5 := Lib.hid (below_old BL4.out hb); have BZ5 := Lib.hid (below_old BZ4.out hb); clear hx hz; have hx := blk7 BL5.out; have hz := blk7 BZ5.out; clear hb) | (go_at_call 28; refine (HWO.out _ (Kd.C_below HR.out HB5.out)).mono ?_; rintro ex w6 ⟨v, rfl, ho, hb⟩; have HO6 := Lib.hid (Kd.R_lower ho HS5.out); obtain ⟨Av, cv, rfl⟩ := Kd.R_slice HO6.out; clear ho; have HB6 := Lib.hid (HB5.out.trans (hb.mono HB5.out.size)); have HS6 := Lib.hid (Nat.le_trans HS5.out hb.size); have BL6 := Lib.hid (below_old BL5.out hb); have BZ6 := Lib.hid (below_old BZ5.out hb); clear hx hz; have hx := blk7 BL6.out; have hz := blk7 BZ6.out; clear hb))
  refine bodyPost_ret (results_list (rs := [.cell 6 25, .tmp 7, .tmp 8]) rfl (by simp) (.cell (w.heap.size + 1) 25 (lockA f e u c true false (.slice Av l5.length cv)) (0, 0) _ rfl (put7 (far7 BZ6.out hne1 _ _ _ _ _ _ _)) Try.underlying25 rfl (by kernel_rfl) (.tmp (.tmp .nil)))) rfl ?_
  exact ⟨_, _, rfl, and_assoc.1 ⟨R_both (set7 (set7 HO6.out (show w.heap.size < w.heap.size + 2 by omega) _ _ _ _ _ _ _) (show w.heap.size + 1 < w.heap.size + 2 by omega) _ _ _ _ _ _ _), below7 (below7 HB6.out (Nat.le_refl _) _ _ _ _ _ _ _) (by omega) _ _ _ _ _ _ _⟩⟩

set_option maxHeartbeats 4000000 in
theorem ref_ok1 (f e u c : Int)  (A0 : Option Addr) (c0 : Nat) (l : List S40) (cl m : Int) (w : World) (hr0 : Kd.C k40 w A0 l.length l) (hc0 : l.length ≤ c0) (hl : l.length ≤ 100) (hr : rightB u c true false l = true) (hm : m = 1) (ho : (othersF l cl m).length = 0) (hh : ¬ m ≤ modeF l cl) (hu : ¬ u = 2) (hf : ¬ (withoutF l cl).length = 4) (hst : Strict l) :
    Calls Try.prog 18 #[.agg (lockA f e u c true false (.slice A0 l.length c0)), .int .u32 cl, .int .u32 m] w fun ex w' => ∃ A' c', ex = .returned (.tuple #[.agg (lockA f e (if u < m then m else u) c true false (.slice A' (insH (withoutF l cl) ⟨cl, m⟩).length c')), .int .i64 1, .int .i64 0]) ∧ Kd.C k40 w' A' (insH (withoutF l cl) ⟨cl, m⟩).length (insH (withoutF l cl) ⟨cl, m⟩) ∧ (insH (withoutF l cl) ⟨cl, m⟩).length ≤ c' ∧ Below w.heap.size w w' := by
  obtain ⟨w2, hw2⟩ : ∃ w2, (w.alloc (.cells (lockA f e u c true false (.slice A0 l.length c0)) 25)).alloc (.cells zlock 25) = w2 := ⟨_, rfl⟩
  have hs2 : w2.heap.size = w.heap.size + 2 := by rw [← hw2]; simp
  have HB2 := Lib.hid (show Below w.heap.size w w2 by rw [← hw2]; have h1 := boxed w (.cells (lockA f e u c true false (.slice A0 l.length c0)) 25); exact h1.alloc h1.size _)
  have BL2 := Lib.hid (show w2.heap[w.heap.size]? = some (.cells (lockA f e u c true false (.slice A0 l.length c0)) 25 (0, 0)) by rw [← hw2]; exact alloc_old (alloc_at w _) _)
  have BZ2 := Lib.hid (show w2.heap[w.heap.size + 1]? = some (.cells zlock 25 (0, 0)) by rw [← hw2]; have := alloc_at (w.alloc (.cells (lockA f e u c true false (.slice A0 l.length c0)) 25)) (.cells zlock 25); simpa using this)
  have HRT := Lib.hid (fun W h => lamellaref12_Right.calls 4200 f e u c true false A0 c0 l true W h hc0 (by rw [refRight_f f e u c true false l (by omega) 4200 (by omega), hr]))
  have hne1 : ¬ w.heap.size + 1 = w.heap.size := by omega
  have hne2 : ¬ w.heap.size = w.heap.size + 1 := by omega
  obtain ⟨os, hos⟩ : ∃ os, othersF l cl m = os := ⟨_, rfl⟩
  have HOT := Lib.hid (fun W h => lamellaref12_Others.calls 4200 f e u c true false A0 c0 l cl m os W h hc0 (by rw [refOthers_f f e u c true false l cl m (by omega) 4200 (by omega), hos]))
  obtain ⟨mo, hmo⟩ : ∃ mo, modeF l cl = mo := ⟨_, rfl⟩
  have HMO := Lib.hid (fun W h => lamellaref12_Mode.calls 4200 f e u c true false A0 c0 l cl mo W h hc0 (by rw [refMode_f f e u c true false l cl (by omega) 4200 (by omega), hmo]))
  obtain ⟨l5, hl5⟩ : ∃ l5, withoutF l cl = l5 := ⟨_, rfl⟩
  have hl5n : l5.length ≤ 100 := by rw [← hl5]; exact Nat.le_trans (List.length_filter_le _ _) hl
  have HWO := Lib.hid (fun W h => lamellaref12_Without.calls 4200 f e u c true false A0 c0 l cl f e u c true false l5 W h hc0 (by rw [refWithout_f f e u c true false l cl (by omega) 4200 (by omega), hl5]))
  have HR := Lib.hid hr0
  have HL := Lib.hid hl
  have hx := blk7 BL2.out
  have hz := blk7 BZ2.out
  have HS2 := Lib.hid (show w.heap.size + 2 ≤ w2.heap.size by omega)
  clear hs2
  have hn1 : (m != 1) = false := by rw [hm]; rfl
  have hd1 : (m == 1) = true := by rw [hm]; rfl
  have hd1' : (m = 1) = True := eq_true hm
  have hu1 : (u != 2) = true := bne_iff_ne.2 hu
  have hos1 : decide (0 < os.length) = false := decide_eq_false (by rw [← hos]; omega)
  have hmo1 : decide (m ≤ mo) = false := decide_eq_false (by rw [← hmo]; omega)
  have hf1 : ((l5.length : Int) == 4) = false := by rw [beq_eq_false_iff_ne, ← hl5]; omega
  have hf2 : (l5.length == 4) = false := by rw [beq_eq_false_iff_ne, ← hl5]; omega
  have hf3 : (l5.length = 4) = False := eq_false (by rw [← hl5]; omega)
  have hf4 : ((l5.length : Int) = 4) = False := eq_false (by rw [← hl5]; omega)
  have HL5n := Lib.hid hl5n
  have HST := Lib.hid (show Strict l5 by rw [← hl5]; exact without_strict hst cl)
  have HNE := Lib.hid (show ∀ y ∈ l5, ¬ y.f0 = (⟨cl, m⟩ : S40).f0 by rw [← hl5]; exact without_ne)
  rw [hl5]
  obtain ⟨mx, hmx⟩ : ∃ mx, (if u < m then m else u) = mx := ⟨_, rfl⟩
  have HMX := Lib.hid hmx
  rw [hmx]
  clear hr0 hc0 hl hr hmx ho hh hu hf hst hm hos hmo hl5 hl5n
  go_enter Try.func18, Try.ntmps18
  go_wp2_with (first | (go_at_call 10; refine (HRT.out _ (Kd.C_below HR.out HB2.out)).mono ?_; rintro ex w3 ⟨rfl, hb⟩; clear hw2; have HB3 := Lib.hid (HB2.out.trans (hb.mono HB2.out.size)); have HS3 := Lib.hid (Nat.le_trans HS2.out hb.size); have BL3 := Lib.hid (below_old BL2.out hb); have BZ3 := Lib.hid (below_old BZ2.out hb); clear hx hz; have hx := blk7 BL3.out; have hz := blk7 BZ3.out; clear hb) | (go_at_call 15; refine (HOT.out _ (Kd.C_below HR.out HB3.out)).mono ?_; rintro ex w4 ⟨vo, rfl, ho, hb⟩; obtain ⟨Ao, co, rfl⟩ := Kd.R_slice ho; clear ho; have HB4 := Lib.hid (HB3.out.trans (hb.mono HB3.out.size)); have HS4 := Lib.hid (Nat.le_trans HS3.out hb.size); have BL4 := Lib.hid (below_old BL3.out hb); have BZ4 := Lib.hid (below_old BZ3.out hb); clear hx hz; have hx := blk7 BL4.out; have hz := blk7 BZ4.out; clear hb) | (go_at_call 16; refine (HMO.out _ (Kd.C_below HR.out HB4.out)).mono ?_; rintro ex w5 ⟨rfl, hb⟩; have HB5 := Lib.hid (HB4.out.trans (hb.mono HB4.out.size)); have HS5 := Lib.hid (Nat.le_trans HS4.out hb.size); have BL5 := Lib.hid (below_old BL4.out hb); have BZ5 := Lib.hid (below_old BZ4.out hb); clear hx hz; have hx := blk7 BL5.out; have hz := blk7 BZ5.out; clear hb) | (go_at_call 28; refine (HWO.out _ (Kd.C_below HR.out HB5.out)).mono ?_; rintro ex w6 ⟨v, rfl, ho, hb⟩; have HO6 := Lib.hid (Kd.R_lower ho HS5.out); obtain ⟨Av, cv, rfl⟩ := Kd.R_slice HO6.out; clear ho; have HB6 := Lib.hid (HB5.out.trans (hb.mono HB5.out.size)); have HS6 := Lib.hid (Nat.le_trans HS5.out hb.size); have BL6 := Lib.hid (below_old BL5.out hb); have BZ6 := Lib.hid (below_old BZ5.out hb); clear hx hz; have hx := blk7 BL6.out; have hz := blk7 BZ6.out; clear hb))
  have h7 := below7 HB6.out (Nat.le_refl w.heap.size) (.int .u32 f) (.int .u32 e) (.int .u32 u) (.int .u32 c) (.bool true) (.bool false) (.slice Av l5.length cv)
  have h6 := below7 (Below.refl w.heap.size w6) (Nat.le_refl w.heap.size) (.int .u32 f) (.int .u32 e) (.int .u32 u) (.int .u32 c) (.bool true) (.bool false) (.slice Av l5.length cv)
  have z7 := far7 BZ6.out hne1 (.int .u32 f) (.int .u32 e) (.int .u32 u) (.int .u32 c) (.bool true) (.bool false) (.slice Av l5.length cv)
  have b7 : ((((((((w6.setCell ⟨w.heap.size, 0, none⟩ (.int .u32 f)).setCell ⟨w.heap.size, 1, none⟩ (.int .u32 e)).setCell ⟨w.heap.size, 2, none⟩ (.int .u32 u)).setCell ⟨w.heap.size, 3, none⟩ (.int .u32 c)).setCell ⟨w.heap.size, 4, none⟩ (.bool true)).setCell ⟨w.heap.size, 5, none⟩ (.bool false)).setCell ⟨w.heap.size, 6, none⟩ (.slice Av l5.length cv))).heap[w.heap.size]? = some (.cells (lockA f e u c true false (.slice Av l5.length cv)) 25 (0, 0)) := put7 BL6.out
  have o7 := set7 HO6.out (show w.heap.size < w.heap.size + 2 by omega) (.int .u32 f) (.int .u32 e) (.int .u32 u) (.int .u32 c) (.bool true) (.bool false) (.slice Av l5.length cv)
  generalize hw7 : ((((((((w6.setCell ⟨w.heap.size, 0, none⟩ (.int .u32 f)).setCell ⟨w.heap.size, 1, none⟩ (.int .u32 e)).setCell ⟨w.heap.size, 2, none⟩ (.int .u32 u)).setCell ⟨w.heap.size, 3, none⟩ (.int .u32 c)).setCell ⟨w.heap.size, 4, none⟩ (.bool true)).setCell ⟨w.heap.size, 5, none⟩ (.bool false)).setCell ⟨w.heap.size, 6, none⟩ (.slice Av l5.length cv))) = w7 at h7 h6 z7 b7 o7 ⊢
  have HB7 := Lib.hid h7
  have HS7 := Lib.hid (Nat.le_trans HS6.out h6.size)
  have BL7 := Lib.hid b7
  have BZ7 := Lib.hid z7
  have HO7 := Lib.hid o7
  clear hw7 h7 h6 z7 b7 o7 hx hz
  go_loopg [9, 10, 11] l5.length (fun gg s9 s10 s11 wr => ∃ i : Nat, s10 = .bool (doneB l5 cl i) ∧ s11 = .int .i64 i ∧ i ≤ l5.length ∧ l5.length - i ≤ gg ∧ Hid (Kd.R k40 40 wr w7.heap.size (fun _ => True) s9 (outF l5 (⟨cl, m⟩ : S40) i)) ∧ Hid (Below w7.heap.size w7 wr))
  case atStart => exact ⟨0, by simp [doneB], by simp, Nat.zero_le _, by omega, Lib.hid (by rw [out_zero]; exact Kd.R_nil _ _ _ _ _), Lib.hid (Below.refl _ _)⟩
  case round =>
    obtain ⟨i, rfl, rfl, hi, hgg, HM, HBW⟩ := hrel
    obtain ⟨out, hout⟩ : ∃ out, outF l5 (⟨cl, m⟩ : S40) i = out := ⟨_, rfl⟩
    have HOL := Lib.hid (show out.length ≤ l5.length + 1 by rw [← hout]; exact out_len l5 (⟨cl, m⟩ : S40) i)
    rw [hout] at HM
    have BLr := Lib.hid (below_old BL7.out HBW.out)
    have BZr := Lib.hid (below_old BZ7.out HBW.out)
    have hx := blk7 BLr.out
    obtain ⟨A9, c9, rfl⟩ := Kd.R_slice HM.out
    have hw2 : IntKind.i64.wrap ((i : Int) + 1) = i + 1 := IntWalk.i64_in _ (by have := HL5n.out; omega)
    by_cases hlt : i < l5.length
    · have hltz : decide ((i : Int) < (l5.length : Int)) = true := decide_eq_true (by omega)
      have hq2 : (0 ≤ (i : Int)) = True := eq_true (by omega)
      have hq3 : ((i : Int) < (l5.length : Int)) = True := eq_true (by omega)
      have HOr := Lib.hid (Kd.R_below HO7.out HBW.out)
      obtain ⟨ad, rfl, h0, h1⟩ := at_T40 (Kd.R_reads' HOr.out).2.2 i (by omega) (by omega)
      simp only [Int.toNat_natCast] at h0 h1
      obtain ⟨y, hyy⟩ : ∃ y, rd_T40 l5 i = y := ⟨_, rfl⟩
      have hyi : l5[i] = y := by rw [← hyy, rd_get l5 i hlt]
      rw [hyy] at h0 h1
      have HLT := Lib.hid hlt
      cases hd : doneB l5 cl i with
      | true =>
        obtain ⟨e1, e2⟩ := out_done (x := (⟨cl, m⟩ : S40)) hlt HST.out hd
        rw [hout, hyi] at e1
        have E1 := Lib.hid e1
        have E2 := Lib.hid e2
        have hal := fun o => boxed wr o
        clear e1 e2 hyi hout
        go_wp2_with (first
        | ((with_reducible refine gate_builtin (b := .append) (xs := #[.tmp 92, .tmp 98]) rfl ?_); at_builtin
           refine Kd.R_append_rows k40 (w0 := w7) w7.heap.size rfl (.tmp 92) (.tmp 98) 23 40 (.agg #[(.int .u32 0), (.int .u32 0)]) 8 rfl Try.underlying23 inf40 rfl (by decide) (by omega) _ out [y] (some ⟨wr.heap.size, 0, none⟩) 1 1 (fun _ => True) (fun _ => False) rfl rfl (Kd.R_below HM.out (boxed wr _)) (row_one (o := y) (alloc_at wr _)) (fun _ _ h => h) (fun _ h => h.elim) (fun _ _ => trivial) (HBW.out.alloc HBW.out.size _) (Nat.le_trans HBW.out.size (boxed wr (.cells (cellsOf y) 40)).size) (by have h1 := HOL.out; have h2 := HL5n.out; (try simp only [List.length_append, List.length_cons, List.length_nil]); omega) ?_
           intro v wB ho hb hg hat
           clear hg hat
           have HMB := Lib.hid ho
           have HBB := Lib.hid hb
           clear ho hb))
        go_roundg (l5.length - (i + 1))
        case measure => have := HLT.out; omega
        case rel => exact ⟨i + 1, by rw [E2.out], by simp, HLT.out, by omega, Lib.hid (by rw [E1.out]; exact HMB.out), HBB⟩
      | false =>
        by_cases hy : cl < y.f0
        · have hyz : decide (y.f0 > cl) = true := decide_eq_true hy
          have hyz' : decide (cl < y.f0) = true := decide_eq_true hy
          obtain ⟨e1, e2⟩ := out_put (x := (⟨cl, m⟩ : S40)) hlt HNE.out hd (by rw [hyi]; exact hy)
          rw [hout, hyi] at e1
          have E1' := e1
          have E2 := Lib.hid e2
          clear e1 e2 hy hyi hout
          go_wp2_with (first
        | ((with_reducible refine gate_builtin (b := .append) (xs := #[.tmp 86, .tmp 90]) rfl ?_); at_builtin
           refine Kd.R_append_rows k40 (w0 := w7) w7.heap.size rfl (.tmp 86) (.tmp 90) 23 40 (.agg #[(.int .u32 0), (.int .u32 0)]) 8 rfl Try.underlying23 inf40 rfl (by decide) (by omega) _ out [(⟨cl, m⟩ : S40)] (some ⟨wr.heap.size, 0, none⟩) 1 1 (fun _ => True) (fun _ => False) rfl rfl (Kd.R_below HM.out (boxed wr _)) (row_one (o := (⟨cl, m⟩ : S40)) (alloc_at wr _)) (fun _ _ h => h) (fun _ h => h.elim) (fun _ _ => trivial) (HBW.out.alloc HBW.out.size _) (Nat.le_trans HBW.out.size (boxed wr (.cells (cellsOf (⟨cl, m⟩ : S40)) 40)).size) (by have h1 := HOL.out; have h2 := HL5n.out; (try simp only [List.length_append, List.length_cons, List.length_nil]); omega) ?_
           intro v wA ho hb hg hat
           clear hg hat
           obtain ⟨oA, hoA⟩ : ∃ oA, out ++ [(⟨cl, m⟩ : S40)] = oA := ⟨_, rfl⟩
           rw [hoA] at ho E1'
           have HOLA := Lib.hid (show oA.length ≤ l5.length + 2 by rw [← hoA]; have := HOL.out; simp; omega)
           have E1 := Lib.hid E1'
           clear hoA E1'
           have HMA := Lib.hid ho
           have HBA := Lib.hid hb
           have BLA := Lib.hid (below_old BL7.out hb)
           clear hx h0 h1
           have hx := blk7 BLA.out
           obtain ⟨ad', e', h0, h1⟩ := at_T40 (Kd.R_reads' (Kd.R_below HO7.out hb)).2.2 i (by omega) (by have := HLT.out; omega)
           cases e'
           simp only [Int.toNat_natCast] at h0 h1
           rw [hyy] at h0 h1
           obtain ⟨AA, cA, rfl⟩ := Kd.R_slice HMA.out
           clear ho hb)
        | ((with_reducible refine gate_builtin (b := .append) (xs := #[.tmp 92, .tmp 98]) rfl ?_); at_builtin
           refine Kd.R_append_rows k40 (w0 := w7) w7.heap.size rfl (.tmp 92) (.tmp 98) 23 40 (.agg #[(.int .u32 0), (.int .u32 0)]) 8 rfl Try.underlying23 inf40 rfl (by decide) (by omega) _ oA [y] (some ⟨wA.heap.size, 0, none⟩) 1 1 (fun _ => True) (fun _ => False) rfl rfl (Kd.R_below HMA.out (boxed wA _)) (row_one (o := y) (alloc_at wA _)) (fun _ _ h => h) (fun _ h => h.elim) (fun _ _ => trivial) (HBA.out.alloc HBA.out.size _) (Nat.le_trans HBA.out.size (boxed wA (.cells (cellsOf y) 40)).size) (by have h1 := HOLA.out; have h2 := HL5n.out; (try simp only [List.length_append, List.length_cons, List.length_nil]); omega) ?_
           intro v wB ho hb hg hat
           clear hg hat
           have HMB := Lib.hid ho
           have HBB := Lib.hid hb
           clear ho hb))
          go_roundg (l5.length - (i + 1))
          case measure => have := HLT.out; omega
          case rel => exact ⟨i + 1, by rw [E2.out], by simp, HLT.out, by omega, Lib.hid (by rw [E1.out]; exact HMB.out), HBB⟩
        · have hyz : decide (y.f0 > cl) = false := decide_eq_false hy
          have hyz' : decide (cl < y.f0) = false := decide_eq_false hy
          obtain ⟨e1, e2⟩ := out_skip (x := (⟨cl, m⟩ : S40)) hlt hd (by rw [hyi]; exact hy)
          rw [hout, hyi] at e1
          have E1 := Lib.hid e1
          have E2 := Lib.hid e2
          clear e1 e2 hy hyi hout
          go_wp2_with (first
        | ((with_reducible refine gate_builtin (b := .append) (xs := #[.tmp 92, .tmp 98]) rfl ?_); at_builtin
           refine Kd.R_append_rows k40 (w0 := w7) w7.heap.size rfl (.tmp 92) (.tmp 98) 23 40 (.agg #[(.int .u32 0), (.int .u32 0)]) 8 rfl Try.underlying23 inf40 rfl (by decide) (by omega) _ out [y] (some ⟨wr.heap.size, 0, none⟩) 1 1 (fun _ => True) (fun _ => False) rfl rfl (Kd.R_below HM.out (boxed wr _)) (row_one (o := y) (alloc_at wr _)) (fun _ _ h => h) (fun _ h => h.elim) (fun _ _ => trivial) (HBW.out.alloc HBW.out.size _) (Nat.le_trans HBW.out.size (boxed wr (.cells (cellsOf y) 40)).size) (by have h1 := HOL.out; have h2 := HL5n.out; (try simp only [List.length_append, List.length_cons, List.length_nil]); omega) ?_
           intro v wB ho hb hg hat
           clear hg hat
           have HMB := Lib.hid ho
           have HBB := Lib.hid hb
           clear ho hb))
          go_roundg (l5.length - (i + 1))
          case measure => have := HLT.out; omega
          case rel => exact ⟨i + 1, by rw [E2.out], by simp, HLT.out, by omega, Lib.hid (by rw [E1.out]; exact HMB.out), HBB⟩
    · have hil : i = l5.length := by omega
      subst hil
      have hltz : decide ((l5.length : Int) < (l5.length : Int)) = false := decide_eq_false (by omega)
      have hz := blk7 BZr.out
      have HBr := Lib.hid (HB7.out.trans (HBW.out.mono HB7.out.size))
      have hs8 : w.heap.size + 2 ≤ w7.heap.size := HS7.out
      rcases out_end l5 (⟨cl, m⟩ : S40) HNE.out with ⟨hd, he⟩ | ⟨hd, he⟩
      · have hd' : doneB l5 cl l5.length = true := hd
        rw [hout] at he
        have HE := Lib.hid he
        clear he hd hout
        by_cases hum : u < m
        · have hu5 : decide (m > u) = true := decide_eq_true hum
          have hu6 : decide (u < m) = true := decide_eq_true hum
          have hmx2 : m = mx := by rw [← HMX.out, if_pos hum]
          subst hmx2
          clear hum
          go_wp2
          refine bodyPost_ret (results_list (rs := [.cell 6 25, .tmp 7, .tmp 8]) rfl (by simp) (.cell (w.heap.size + 1) 25 (lockA f e m c true false (.slice A9 out.length c9)) (0, 0) _ rfl (put7 (set_far (set_far BZr.out hne1 _) hne1 _)) Try.underlying25 rfl (by kernel_rfl) (.tmp (.tmp .nil)))) rfl ?_
          rw [← HE.out]
          exact ⟨_, _, rfl, and_assoc.1 ⟨R_both (set7 (R_low (R_low HM.out (show w.heap.size < w7.heap.size by omega) _) (show w.heap.size < w7.heap.size by omega) _) (show w.heap.size + 1 < w7.heap.size by omega) _ _ _ _ _ _ _), below7 ((HBr.out.setCell (Nat.le_refl w.heap.size) _).setCell (Nat.le_refl w.heap.size) _) (by omega) _ _ _ _ _ _ _⟩⟩
        · have hu5 : decide (m > u) = false := decide_eq_false hum
          have hu6 : decide (u < m) = false := decide_eq_false hum
          have hmx2 : u = mx := by rw [← HMX.out, if_neg hum]
          subst hmx2
          clear hum
          go_wp2
          refine bodyPost_ret (results_list (rs := [.cell 6 25, .tmp 7, .tmp 8]) rfl (by simp) (.cell (w.heap.size + 1) 25 (lockA f e u c true false (.slice A9 out.length c9)) (0, 0) _ rfl (put7 (set_far BZr.out hne1 _)) Try.underlying25 rfl (by kernel_rfl) (.tmp (.tmp .nil)))) rfl ?_
          rw [← HE.out]
          exact ⟨_, _, rfl, and_assoc.1 ⟨R_both (set7 (R_low HM.out (show w.heap.size < w7.heap.size by omega) _) (show w.heap.size + 1 < w7.heap.size by omega) _ _ _ _ _ _ _), below7 (HBr.out.setCell (Nat.le_refl w.heap.size) _) (by omega) _ _ _ _ _ _ _⟩⟩
      · have hd' : doneB l5 cl l5.length = false := hd
        rw [hout] at he
        obtain ⟨oC, hoC⟩ : ∃ oC, out ++ [(⟨cl, m⟩ : S40)] = oC := ⟨_, rfl⟩
        rw [hoC] at he
        have HOC := Lib.hid hoC
        clear hoC
        have HE := Lib.hid he
        clear he hd hout
        by_cases hum : u < m
        · have hu5 : decide (m > u) = true := decide_eq_true hum
          have hu6 : decide (u < m) = true := decide_eq_true hum
          have hmx2 : m = mx := by rw [← HMX.out, if_pos hum]
          subst hmx2
          clear hum
          go_wp2_with (first
          | ((with_reducible refine gate_builtin (b := .append) (xs := #[.tmp 102, .tmp 106]) rfl ?_); at_builtin
             refine Kd.R_append_rows k40 (w0 := w7) w7.heap.size rfl (.tmp 102) (.tmp 106) 23 40 (.agg #[(.int .u32 0), (.int .u32 0)]) 8 rfl Try.underlying23 inf40 rfl (by decide) (by omega) _ out [(⟨cl, m⟩ : S40)] (some ⟨wr.heap.size, 0, none⟩) 1 1 (fun _ => True) (fun _ => False) rfl rfl (Kd.R_below HM.out (boxed wr _)) (row_one (o := (⟨cl, m⟩ : S40)) (alloc_at wr _)) (fun _ _ h => h) (fun _ h => h.elim) (fun _ _ => trivial) (HBW.out.alloc HBW.out.size _) (Nat.le_trans HBW.out.size (boxed wr (.cells (cellsOf (⟨cl, m⟩ : S40)) 40)).size) (by have h1 := HOL.out; have h2 := HL5n.out; (try simp only [List.length_append, List.length_cons, List.length_nil]); omega) ?_
             intro v wC ho hb hg hat
             clear hg hat
             rw [HOC.out] at ho
             have HMC := Lib.hid ho
             have BLC := Lib.hid (below_old BL7.out hb)
             have BZC := Lib.hid (below_old BZ7.out hb)
             have HBC := Lib.hid (HB7.out.trans (hb.mono HB7.out.size))
             obtain ⟨AC, cC, rfl⟩ := Kd.R_slice HMC.out
             clear ho hb hx hz
             have hx := blk7 BLC.out
             have hz := blk7 BZC.out))
          refine bodyPost_ret (results_list (rs := [.cell 6 25, .tmp 7, .tmp 8]) rfl (by simp) (.cell (w.heap.size + 1) 25 (lockA f e m c true false (.slice AC oC.length cC)) (0, 0) _ rfl (put7 (set_far (set_far BZC.out hne1 _) hne1 _)) Try.underlying25 rfl (by kernel_rfl) (.tmp (.tmp .nil)))) rfl ?_
          rw [← HE.out]
          exact ⟨_, _, rfl, and_assoc.1 ⟨R_both (set7 (R_low (R_low HMC.out (show w.heap.size < w7.heap.size by omega) _) (show w.heap.size < w7.heap.size by omega) _) (show w.heap.size + 1 < w7.heap.size by omega) _ _ _ _ _ _ _), below7 ((HBC.out.setCell (Nat.le_refl w.heap.size) _).setCell (Nat.le_refl w.heap.size) _) (by omega) _ _ _ _ _ _ _⟩⟩
        · have hu5 : decide (m > u) = false := decide_eq_false hum
          have hu6 : decide (u < m) = false := decide_eq_false hum
          have hmx2 : u = mx := by rw [← HMX.out, if_neg hum]
          subst hmx2
          clear hum
          go_wp2_with (first
          | ((with_reducible refine gate_builtin (b := .append) (xs := #[.tmp 102, .tmp 106]) rfl ?_); at_builtin
             refine Kd.R_append_rows k40 (w0 := w7) w7.heap.size rfl (.tmp 102) (.tmp 106) 23 40 (.agg #[(.int .u32 0), (.int .u32 0)]) 8 rfl Try.underlying23 inf40 rfl (by decide) (by omega) _ out [(⟨cl, m⟩ : S40)] (some ⟨wr.heap.size, 0, none⟩) 1 1 (fun _ => True) (fun _ => False) rfl rfl (Kd.R_below HM.out (boxed wr _)) (row_one (o := (⟨cl, m⟩ : S40)) (alloc_at wr _)) (fun _ _ h => h) (fun _ h => h.elim) (fun _ _ => trivial) (HBW.out.alloc HBW.out.size _) (Nat.le_trans HBW.out.size (boxed wr (.cells (cellsOf (⟨cl, m⟩ : S40)) 40)).size) (by have h1 := HOL.out; have h2 := HL5n.out; (try simp only [List.length_append, List.length_cons, List.length_nil]); omega) ?_
             intro v wC ho hb hg hat
             clear hg hat
             rw [HOC.out] at ho
             have HMC := Lib.hid ho
             have BLC := Lib.hid (below_old BL7.out hb)
             have BZC := Lib.hid (below_old BZ7.out hb)
             have HBC := Lib.hid (HB7.out.trans (hb.mono HB7.out.size))
             obtain ⟨AC, cC, rfl⟩ := Kd.R_slice HMC.out
             clear ho hb hx hz
             have hx := blk7 BLC.out
             have hz := blk7 BZC.out))
          refine bodyPost_ret (results_list (rs := [.cell 6 25, .tmp 7, .tmp 8]) rfl (by simp) (.cell (w.heap.size + 1) 25 (lockA f e u c true false (.slice AC oC.length cC)) (0, 0) _ rfl (put7 (set_far BZC.out hne1 _)) Try.underlying25 rfl (by kernel_rfl) (.tmp (.tmp .nil)))) rfl ?_
          rw [← HE.out]
          exact ⟨_, _, rfl, and_assoc.1 ⟨R_both (set7 (R_low HMC.out (show w.heap.size < w7.heap.size by omega) _) (show w.heap.size + 1 < w7.heap.size by omega) _ _ _ _ _ _ _), below7 (HBC.out.setCell (Nat.le_refl w.heap.size) _) (by omega) _ _ _ _ _ _ _⟩⟩

set_option maxHeartbeats 4000000 in
theorem ref_ok2 (f e u c : Int)  (A0 : Option Addr) (c0 : Nat) (l : List S40) (cl m : Int) (w : World) (hr0 : Kd.C k40 w A0 l.length l) (hc0 : l.length ≤ c0) (hl : l.length ≤ 100) (hr : rightB u c true false l = true) (hm : m = 2) (ho : (othersF l cl m).length = 0) (hh : ¬ m ≤ modeF l cl) (hu : u = 0) (hf : ¬ (withoutF l cl).length = 4) (hst : Strict l) :
    Calls Try.prog 18 #[.agg (lockA f e u c true false (.slice A0 l.length c0)), .int .u32 cl, .int .u32 m] w fun ex w' => ∃ A' c', ex = .returned (.tuple #[.agg (lockA f e (if u < m then m else u) c true false (.slice A' (insH (withoutF l cl) ⟨cl, m⟩).length c')), .int .i64 1, .int .i64 0]) ∧ Kd.C k40 w' A' (insH (withoutF l cl) ⟨cl, m⟩).length (insH (withoutF l cl) ⟨cl, m⟩) ∧ (insH (withoutF l cl) ⟨cl, m⟩).length ≤ c' ∧ Below w.heap.size w w' := by
  obtain ⟨w2, hw2⟩ : ∃ w2, (w.alloc (.cells (lockA f e u c true false (.slice A0 l.length c0)) 25)).alloc (.cells zlock 25) = w2 := ⟨_, rfl⟩
  have hs2 : w2.heap.size = w.heap.size + 2 := by rw [← hw2]; simp
  have HB2 := Lib.hid (show Below w.heap.size w w2 by rw [← hw2]; have h1 := boxed w (.cells (lockA f e u c true false (.slice A0 l.length c0)) 25); exact h1.alloc h1.size _)
  have BL2 := Lib.hid (show w2.heap[w.heap.size]? = some (.cells (lockA f e u c true false (.slice A0 l.length c0)) 25 (0, 0)) by rw [← hw2]; exact alloc_old (alloc_at w _) _)
  have BZ2 := Lib.hid (show w2.heap[w.heap.size + 1]? = some (.cells zlock 25 (0, 0)) by rw [← hw2]; have := alloc_at (w.alloc (.cells (lockA f e u c true false (.slice A0 l.length c0)) 25)) (.cells zlock 25); simpa using this)
  have HRT := Lib.hid (fun W h => lamellaref12_Right.calls 4200 f e u c true false A0 c0 l true W h hc0 (by rw [refRight_f f e u c true false l (by omega) 4200 (by omega), hr]))
  have hne1 : ¬ w.heap.size + 1 = w.heap.size := by omega
  have hne2 : ¬ w.heap.size = w.heap.size + 1 := by omega
  obtain ⟨os, hos⟩ : ∃ os, othersF l cl m = os := ⟨_, rfl⟩
  have HOT := Lib.hid (fun W h => lamellaref12_Others.calls 4200 f e u c true false A0 c0 l cl m os W h hc0 (by rw [refOthers_f f e u c true false l cl m (by omega) 4200 (by omega), hos]))
  obtain ⟨mo, hmo⟩ : ∃ mo, modeF l cl = mo := ⟨_, rfl⟩
  have HMO := Lib.hid (fun W h => lamellaref12_Mode.calls 4200 f e u c true false A0 c0 l cl mo W h hc0 (by rw [refMode_f f e u c true false l cl (by omega) 4200 (by omega), hmo]))
  obtain ⟨l5, hl5⟩ : ∃ l5, withoutF l cl = l5 := ⟨_, rfl⟩
  have hl5n : l5.length ≤ 100 := by rw [← hl5]; exact Nat.le_trans (List.length_filter_le _ _) hl
  have HWO := Lib.hid (fun W h => lamellaref12_Without.calls 4200 f e u c true false A0 c0 l cl f e u c true false l5 W h hc0 (by rw [refWithout_f f e u c true false l cl (by omega) 4200 (by omega), hl5]))
  have HR := Lib.hid hr0
  have HL := Lib.hid hl
  have hx := blk7 BL2.out
  have hz := blk7 BZ2.out
  have HS2 := Lib.hid (show w.heap.size + 2 ≤ w2.heap.size by omega)
  clear hs2
  have hn1 : (m != 1) = true := by rw [hm]; rfl
  have hn2 : (m != 2) = false := by rw [hm]; rfl
  have hd1 : (m == 1) = false := by rw [hm]; rfl
  have hd1' : (m = 1) = False := eq_false (by omega)
  have hd2 : (m == 2) = true := by rw [hm]; rfl
  have hd2' : (m = 2) = True := eq_true hm
  have hu2 : (u == 0) = true := by rw [hu]; rfl
  have hu2' : (u = 0) = True := eq_true hu
  have hos1 : decide (0 < os.length) = false := decide_eq_false (by rw [← hos]; omega)
  have hmo1 : decide (m ≤ mo) = false := decide_eq_false (by rw [← hmo]; omega)
  have hf1 : ((l5.length : Int) == 4) = false := by rw [beq_eq_false_iff_ne, ← hl5]; omega
  have hf2 : (l5.length == 4) = false := by rw [beq_eq_false_iff_ne, ← hl5]; omega
  have hf3 : (l5.length = 4) = False := eq_false (by rw [← hl5]; omega)
  have hf4 : ((l5.length : Int) = 4) = False := eq_false (by rw [← hl5]; omega)
  have HL5n := Lib.hid hl5n
  have HST := Lib.hid (show Strict l5 by rw [← hl5]; exact without_strict hst cl)
  have HNE := Lib.hid (show ∀ y ∈ l5, ¬ y.f0 = (⟨cl, m⟩ : S40).f0 by rw [← hl5]; exact without_ne)
  rw [hl5]
  obtain ⟨mx, hmx⟩ : ∃ mx, (if u < m then m else u) = mx := ⟨_, rfl⟩
  have HMX := Lib.hid hmx
  rw [hmx]
  clear hr0 hc0 hl hr hmx ho hh hu hf hst hm hos hmo hl5 hl5n
  go_enter Try.func18, Try.ntmps18
  go_wp2_with (first | (go_at_call 10; refine (HRT.out _ (Kd.C_below HR.out HB2.out)).mono ?_; rintro ex w3 ⟨rfl, hb⟩; clear hw2; have HB3 := Lib.hid (HB2.out.trans (hb.mono HB2.out.size)); have HS3 := Lib.hid (Nat.le_trans HS2.out hb.size); have BL3 := Lib.hid (below_old BL2.out hb); have BZ3 := Lib.hid (below_old BZ2.out hb); clear hx hz; have hx := blk7 BL3.out; have hz := blk7 BZ3.out; clear hb) | (go_at_call 15; refine (HOT.out _ (Kd.C_below HR.out HB3.out)).mono ?_; rintro ex w4 ⟨vo, rfl, ho, hb⟩; obtain ⟨Ao, co, rfl⟩ := Kd.R_slice ho; clear ho; have HB4 := Lib.hid (HB3.out.trans (hb.mono HB3.out.size)); have HS4 := Lib.hid (Nat.le_trans HS3.out hb.size); have BL4 := Lib.hid (below_old BL3.out hb); have BZ4 := Lib.hid (below_old BZ3.out hb); clear hx hz; have hx := blk7 BL4.out; have hz := blk7 BZ4.out; clear hb) | (go_at_call 16; refine (HMO.out _ (Kd.C_below HR.out HB4.out)).mono ?_; rintro ex w5 ⟨rfl, hb⟩; have HB5 := Lib.hid (HB4.out.trans (hb.mono HB4.out.size)); have HS5 := Lib.hid (Nat.le_trans HS4.out hb.size); have BL5 := Lib.hid (below_old BL4.out hb); have BZ5 := Lib.hid (below_old BZ4.out hb); clear hx hz; have hx := blk7 BL5.out; have hz := blk7 BZ5.out; clear hb) | (go_at_call 28; refine (HWO.out _ (Kd.C_below HR.out HB5.out)).mono ?_; rintro ex w6 ⟨v, rfl, ho, hb⟩; have HO6 := Lib.hid (Kd.R_lower ho HS5.out); obtain ⟨Av, cv, rfl⟩ := Kd.R_slice HO6.out; clear ho; have HB6 := Lib.hid (HB5.out.trans (hb.mono HB5.out.size)); have HS6 := Lib.hid (Nat.le_trans HS5.out hb.size); have BL6 := Lib.hid (below_old BL5.out hb); have BZ6 := Lib.hid (below_old BZ5.out hb); clear hx hz; have hx := blk7 BL6.out; have hz := blk7 BZ6.out; clear hb))
  have h7 := below7 HB6.out (Nat.le_refl w.heap.size) (.int .u32 f) (.int .u32 e) (.int .u32 u) (.int .u32 c) (.bool true) (.bool false) (.slice Av l5.length cv)
  have h6 := below7 (Below.refl w.heap.size w6) (Nat.le_refl w.heap.size) (.int .u32 f) (.int .u32 e) (.int .u32 u) (.int .u32 c) (.bool true) (.bool false) (.slice Av l5.length cv)
  have z7 := far7 BZ6.out hne1 (.int .u32 f) (.int .u32 e) (.int .u32 u) (.int .u32 c) (.bool true) (.bool false) (.slice Av l5.length cv)
  have b7 : ((((((((w6.setCell ⟨w.heap.size, 0, none⟩ (.int .u32 f)).setCell ⟨w.heap.size, 1, none⟩ (.int .u32 e)).setCell ⟨w.heap.size, 2, none⟩ (.int .u32 u)).setCell ⟨w.heap.size, 3, none⟩ (.int .u32 c)).setCell ⟨w.heap.size, 4, none⟩ (.bool true)).setCell ⟨w.heap.size, 5, none⟩ (.bool false)).setCell ⟨w.heap.size, 6, none⟩ (.slice Av l5.length cv))).heap[w.heap.size]? = some (.cells (lockA f e u c true false (.slice Av l5.length cv)) 25 (0, 0)) := put7 BL6.out
  have o7 := set7 HO6.out (show w.heap.size < w.heap.size + 2 by omega) (.int .u32 f) (.int .u32 e) (.int .u32 u) (.int .u32 c) (.bool true) (.bool false) (.slice Av l5.length cv)
  generalize hw7 : ((((((((w6.setCell ⟨w.heap.size, 0, none⟩ (.int .u32 f)).setCell ⟨w.heap.size, 1, none⟩ (.int .u32 e)).setCell ⟨w.heap.size, 2, none⟩ (.int .u32 u)).setCell ⟨w.heap.size, 3, none⟩ (.int .u32 c)).setCell ⟨w.heap.size, 4, none⟩ (.bool true)).setCell ⟨w.heap.size, 5, none⟩ (.bool false)).setCell ⟨w.heap.size, 6, none⟩ (.slice Av l5.length cv))) = w7 at h7 h6 z7 b7 o7 ⊢
  have HB7 := Lib.hid h7
  have HS7 := Lib.hid (Nat.le_trans HS6.out h6.size)
  have BL7 := Lib.hid b7
  have BZ7 := Lib.hid z7
  have HO7 := Lib.hid o7
  clear hw7 h7 h6 z7 b7 o7 hx hz
  go_loopg [9, 10, 11] l5.length (fun gg s9 s10 s11 wr => ∃ i : Nat, s10 = .bool (doneB l5 cl i) ∧ s11 = .int .i64 i ∧ i ≤ l5.length ∧ l5.length - i ≤ gg ∧ Hid (Kd.R k40 40 wr w7.heap.size (fun _ => True) s9 (outF l5 (⟨cl, m⟩ : S40) i)) ∧ Hid (Below w7.heap.size w7 wr))
  case atStart => exact ⟨0, by simp [doneB], by simp, Nat.zero_le _, by omega, Lib.hid (by rw [out_zero]; exact Kd.R_nil _ _ _ _ _), Lib.hid (Below.refl _ _)⟩
  case round =>
    obtain ⟨i, rfl, rfl, hi, hgg, HM, HBW⟩ := hrel
    obtain ⟨out, hout⟩ : ∃ out, outF l5 (⟨cl, m⟩ : S40) i = out := ⟨_, rfl⟩
    have HOL := Lib.hid (show out.length ≤ l5.length + 1 by rw [← hout]; exact out_len l5 (⟨cl, m⟩ : S40) i)
    rw [hout] at HM
    have BLr := Lib.hid (below_old BL7.out HBW.out)
    have BZr := Lib.hid (below_old BZ7.out HBW.out)
    have hx := blk7 BLr.out
    obtain ⟨A9, c9, rfl⟩ := Kd.R_slice HM.out
    have hw2 : IntKind.i64.wrap ((i : Int) + 1) = i + 1 := IntWalk.i64_in _ (by have := HL5n.out; omega)
    by_cases hlt : i < l5.length
    · have hltz : decide ((i : Int) < (l5.length : Int)) = true := decide_eq_true (by omega)
      have hq2 : (0 ≤ (i : Int)) = True := eq_true (by omega)
      have hq3 : ((i : Int) < (l5.length : Int)) = True := eq_true (by omega)
      have HOr := Lib.hid (Kd.R_below HO7.out HBW.out)
      obtain ⟨ad, rfl, h0, h1⟩ := at_T40 (Kd.R_reads' HOr.out).2.2 i (by omega) (by omega)
      simp only [Int.toNat_natCast] at h0 h1
      obtain ⟨y, hyy⟩ : ∃ y, rd_T40 l5 i = y := ⟨_, rfl⟩
      have hyi : l5[i] = y := by rw [← hyy, rd_get l5 i hlt]
      rw [hyy] at h0 h1
      have HLT := Lib.hid hlt
      cases hd : doneB l5 cl i with
      | true =>
        obtain ⟨e1, e2⟩ := out_done (x := (⟨cl, m⟩ : S40)) hlt HST.out hd
        rw [hout, hyi] at e1
        have E1 := Lib.hid e1
        have E2 := Lib.hid e2
        have hal := fun o => boxed wr o
        clear e1 e2 hyi hout
        go_wp2_with (first
        | ((with_reducible refine gate_builtin (b := .append) (xs := #[.tmp 92, .tmp 98]) rfl ?_); at_builtin
           refine Kd.R_append_rows k40 (w0 := w7) w7.heap.size rfl (.tmp 92) (.tmp 98) 23 40 (.agg #[(.int .u32 0), (.int .u32 0)]) 8 rfl Try.underlying23 inf40 rfl (by decide) (by omega) _ out [y] (some ⟨wr.heap.size, 0, none⟩) 1 1 (fun _ => True) (fun _ => False) rfl rfl (Kd.R_below HM.out (boxed wr _)) (row_one (o := y) (alloc_at wr _)) (fun _ _ h => h) (fun _ h => h.elim) (fun _ _ => trivial) (HBW.out.alloc HBW.out.size _) (Nat.le_trans HBW.out.size (boxed wr (.cells (cellsOf y) 40)).size) (by have h1 := HOL.out; have h2 := HL5n.out; (try simp only [List.length_append, List.length_cons, List.length_nil]); omega) ?_
           intro v wB ho hb hg hat
           clear hg hat
           have HMB := Lib.hid ho
           have HBB := Lib.hid hb
           clear ho hb))
        go_roundg (l5.length - (i + 1))
        case measure => have := HLT.out; omega
        case rel => exact ⟨i + 1, by rw [E2.out], by simp, HLT.out, by omega, Lib.hid (by rw [E1.out]; exact HMB.out), HBB⟩
      | false =>
        by_cases hy : cl < y.f0
        · have hyz : decide (y.f0 > cl) = true := decide_eq_true hy
          have hyz' : decide (cl < y.f0) = true := decide_eq_true hy
          obtain ⟨e1, e2⟩ := out_put (x := (⟨cl, m⟩ : S40)) hlt HNE.out hd (by rw [hyi]; exact hy)
          rw [hout, hyi] at e1
          have E1' := e1
          have E2 := Lib.hid e2
          clear e1 e2 hy hyi hout
          go_wp2_with (first
        | ((with_reducible refine gate_builtin (b := .append) (xs := #[.tmp 86, .tmp 90]) rfl ?_); at_builtin
           refine Kd.R_append_rows k40 (w0 := w7) w7.heap.size rfl (.tmp 86) (.tmp 90) 23 40 (.agg #[(.int .u32 0), (.int .u32 0)]) 8 rfl Try.underlying23 inf40 rfl (by decide) (by omega) _ out [(⟨cl, m⟩ : S40)] (some ⟨wr.heap.size, 0, none⟩) 1 1 (fun _ => True) (fun _ => False) rfl rfl (Kd.R_below HM.out (boxed wr _)) (row_one (o := (⟨cl, m⟩ : S40)) (alloc_at wr _)) (fun _ _ h => h) (fun _ h => h.elim) (fun _ _ => trivial) (HBW.out.alloc HBW.out.size _) (Nat.le_trans HBW.out.size (boxed wr (.cells (cellsOf (⟨cl, m⟩ : S40)) 40)).size) (by have h1 := HOL.out; have h2 := HL5n.out; (try simp only [List.length_append, List.length_cons, List.length_nil]); omega) ?_
           intro v wA ho hb hg hat
           clear hg hat
           obtain ⟨oA, hoA⟩ : ∃ oA, out ++ [(⟨cl, m⟩ : S40)] = oA := ⟨_, rfl⟩
           rw [hoA] at ho E1'
           have HOLA := Lib.hid (show oA.length ≤ l5.length + 2 by rw [← hoA]; have := HOL.out; simp; omega)
           have E1 := Lib.hid E1'
           clear hoA E1'
           have HMA := Lib.hid ho
           have HBA := Lib.hid hb
           have BLA := Lib.hid (below_old BL7.out hb)
           clear hx h0 h1
           have hx := blk7 BLA.out
           obtain ⟨ad', e', h0, h1⟩ := at_T40 (Kd.R_reads' (Kd.R_below HO7.out hb)).2.2 i (by omega) (by have := HLT.out; omega)
           cases e'
           simp only [Int.toNat_natCast] at h0 h1
           rw [hyy] at h0 h1
           obtain ⟨AA, cA, rfl⟩ := Kd.R_slice HMA.out
           clear ho hb)
        | ((with_reducible refine gate_builtin (b := .append) (xs := #[.tmp 92, .tmp 98]) rfl ?_); at_builtin
           refine Kd.R_append_rows k40 (w0 := w7) w7.heap.size rfl (.tmp 92) (.tmp 98) 23 40 (.agg #[(.int .u32 0), (.int .u32 0)]) 8 rfl Try.underlying23 inf40 rfl (by decide) (by omega) _ oA [y] (some ⟨wA.heap.size, 0, none⟩) 1 1 (fun _ => True) (fun _ => False) rfl rfl (Kd.R_below HMA.out (boxed wA _)) (row_one (o := y) (alloc_at wA _)) (fun _ _ h => h) (fun _ h => h.elim) (fun _ _ => trivial) (HBA.out.alloc HBA.out.size _) (Nat.le_trans HBA.out.size (boxed wA (.cells (cellsOf y) 40)).size) (by have h1 := HOLA.out; have h2 := HL5n.out; (try simp only [List.length_append, List.length_cons, List.length_nil]); omega) ?_
           intro v wB ho hb hg hat
           clear hg hat
           have HMB := Lib.hid ho
           have HBB := Lib.hid hb
           clear ho hb))
          go_roundg (l5.length - (i + 1))
          case measure => have := HLT.out; omega
          case rel => exact ⟨i + 1, by rw [E2.out], by simp, HLT.out, by omega, Lib.hid (by rw [E1.out]; exact HMB.out), HBB⟩
        · have hyz : decide (y.f0 > cl) = false := decide_eq_false hy
          have hyz' : decide (cl < y.f0) = false := decide_eq_false hy
          obtain ⟨e1, e2⟩ := out_skip (x := (⟨cl, m⟩ : S40)) hlt hd (by rw [hyi]; exact hy)
          rw [hout, hyi] at e1
          have E1 := Lib.hid e1
          have E2 := Lib.hid e2
          clear e1 e2 hy hyi hout
          go_wp2_with (first
        | ((with_reducible refine gate_builtin (b := .append) (xs := #[.tmp 92, .tmp 98]) rfl ?_); at_builtin
           refine Kd.R_append_rows k40 (w0 := w7) w7.heap.size rfl (.tmp 92) (.tmp 98) 23 40 (.agg #[(.int .u32 0), (.int .u32 0)]) 8 rfl Try.underlying23 inf40 rfl (by decide) (by omega) _ out [y] (some ⟨wr.heap.size, 0, none⟩) 1 1 (fun _ => True) (fun _ => False) rfl rfl (Kd.R_below HM.out (boxed wr _)) (row_one (o := y) (alloc_at wr _)) (fun _ _ h => h) (fun _ h => h.elim) (fun _ _ => trivial) (HBW.out.alloc HBW.out.size _) (Nat.le_trans HBW.out.size (boxed wr (.cells (cellsOf y) 40)).size) (by have h1 := HOL.out; have h2 := HL5n.out; (try simp only [List.length_append, List.length_cons, List.length_nil]); omega) ?_
           intro v wB ho hb hg hat
           clear hg hat
           have HMB := Lib.hid ho
           have HBB := Lib.hid hb
           clear ho hb))
          go_roundg (l5.length - (i + 1))
          case measure => have := HLT.out; omega
          case rel => exact ⟨i + 1, by rw [E2.out], by simp, HLT.out, by omega, Lib.hid (by rw [E1.out]; exact HMB.out), HBB⟩
    · have hil : i = l5.length := by omega
      subst hil
      have hltz : decide ((l5.length : Int) < (l5.length : Int)) = false := decide_eq_false (by omega)
      have hz := blk7 BZr.out
      have HBr := Lib.hid (HB7.out.trans (HBW.out.mono HB7.out.size))
      have hs8 : w.heap.size + 2 ≤ w7.heap.size := HS7.out
      rcases out_end l5 (⟨cl, m⟩ : S40) HNE.out with ⟨hd, he⟩ | ⟨hd, he⟩
      · have hd' : doneB l5 cl l5.length = true := hd
        rw [hout] at he
        have HE := Lib.hid he
        clear he hd hout
        by_cases hum : u < m
        · have hu5 : decide (m > u) = true := decide_eq_true hum
          have hu6 : decide (u < m) = true := decide_eq_true hum
          have hmx2 : m = mx := by rw [← HMX.out, if_pos hum]
          subst hmx2
          clear hum
          go_wp2
          refine bodyPost_ret (results_list (rs := [.cell 6 25, .tmp 7, .tmp 8]) rfl (by simp) (.cell (w.heap.size + 1) 25 (lockA f e m c true false (.slice A9 out.length c9)) (0, 0) _ rfl (put7 (set_far (set_far BZr.out hne1 _) hne1 _)) Try.underlying25 rfl (by kernel_rfl) (.tmp (.tmp .nil)))) rfl ?_
          rw [← HE.out]
          exact ⟨_, _, rfl, and_assoc.1 ⟨R_both (set7 (R_low (R_low HM.out (show w.heap.size < w7.heap.size by omega) _) (show w.heap.size < w7.heap.size by omega) _) (show w.heap.size + 1 < w7.heap.size by omega) _ _ _ _ _ _ _), below7 ((HBr.out.setCell (Nat.le_refl w.heap.size) _).setCell (Nat.le_refl w.heap.size) _) (by omega) _ _ _ _ _ _ _⟩⟩
        · have hu5 : decide (m > u) = false := decide_eq_false hum
          have hu6 : decide (u < m) = false := decide_eq_false hum
          have hmx2 : u = mx := by rw [← HMX.out, if_neg hum]
          subst hmx2
          clear hum
          go_wp2
          refine bodyPost_ret (results_list (rs := [.cell 6 25, .tmp 7, .tmp 8]) rfl (by simp) (.cell (w.heap.size + 1) 25 (lockA f e u c true false (.slice A9 out.length c9)) (0, 0) _ rfl (put7 (set_far BZr.out hne1 _)) Try.underlying25 rfl (by kernel_rfl) (.tmp (.tmp .nil)))) rfl ?_
          rw [← HE.out]
          exact ⟨_, _, rfl, and_assoc.1 ⟨R_both (set7 (R_low HM.out (show w.heap.size < w7.heap.size by omega) _) (show w.heap.size + 1 < w7.heap.size by omega) _ _ _ _ _ _ _), below7 (HBr.out.setCell (Nat.le_refl w.heap.size) _) (by omega) _ _ _ _ _ _ _⟩⟩
      · have hd' : doneB l5 cl l5.length = false := hd
        rw [hout] at he
        obtain ⟨oC, hoC⟩ : ∃ oC, out ++ [(⟨cl, m⟩ : S40)] = oC := ⟨_, rfl⟩
        rw [hoC] at he
        have HOC := Lib.hid hoC
        clear hoC
        have HE := Lib.hid he
        clear he hd hout
        by_cases hum : u < m
        · have hu5 : decide (m > u) = true := decide_eq_true hum
          have hu6 : decide (u < m) = true := decide_eq_true hum
          have hmx2 : m = mx := by rw [← HMX.out, if_pos hum]
          subst hmx2
          clear hum
          go_wp2_with (first
          | ((with_reducible refine gate_builtin (b := .append) (xs := #[.tmp 102, .tmp 106]) rfl ?_); at_builtin
             refine Kd.R_append_rows k40 (w0 := w7) w7.heap.size rfl (.tmp 102) (.tmp 106) 23 40 (.agg #[(.int .u32 0), (.int .u32 0)]) 8 rfl Try.underlying23 inf40 rfl (by decide) (by omega) _ out [(⟨cl, m⟩ : S40)] (some ⟨wr.heap.size, 0, none⟩) 1 1 (fun _ => True) (fun _ => False) rfl rfl (Kd.R_below HM.out (boxed wr _)) (row_one (o := (⟨cl, m⟩ : S40)) (alloc_at wr _)) (fun _ _ h => h) (fun _ h => h.elim) (fun _ _ => trivial) (HBW.out.alloc HBW.out.size _) (Nat.le_trans HBW.out.size (boxed wr (.cells (cellsOf (⟨cl, m⟩ : S40)) 40)).size) (by have h1 := HOL.out; have h2 := HL5n.out; (try simp only [List.length_append, List.length_cons, List.length_nil]); omega) ?_
             intro v wC ho hb hg hat
             clear hg hat
             rw [HOC.out] at ho
             have HMC := Lib.hid ho
             have BLC := Lib.hid (below_old BL7.out hb)
             have BZC := Lib.hid (below_old BZ7.out hb)
             have HBC := Lib.hid (HB7.out.trans (hb.mono HB7.out.size))
             obtain ⟨AC, cC, rfl⟩ := Kd.R_slice HMC.out
             clear ho hb hx hz
             have hx := blk7 BLC.out
             have hz := blk7 BZC.out))
          refine bodyPost_ret (results_list (rs := [.cell 6 25, .tmp 7, .tmp 8]) rfl (by simp) (.cell (w.heap.size + 1) 25 (lockA f e m c true false (.slice AC oC.length cC)) (0, 0) _ rfl (put7 (set_far (set_far BZC.out hne1 _) hne1 _)) Try.underlying25 rfl (by kernel_rfl) (.tmp (.tmp .nil)))) rfl ?_
          rw [← HE.out]
          exact ⟨_, _, rfl, and_assoc.1 ⟨R_both (set7 (R_low (R_low HMC.out (show w.heap.size < w7.heap.size by omega) _) (show w.heap.size < w7.heap.size by omega) _) (show w.heap.size + 1 < w7.heap.size by omega) _ _ _ _ _ _ _), below7 ((HBC.out.setCell (Nat.le_refl w.heap.size) _).setCell (Nat.le_refl w.heap.size) _) (by omega) _ _ _ _ _ _ _⟩⟩
        · have hu5 : decide (m > u) = false := decide_eq_false hum
          have hu6 : decide (u < m) = false := decide_eq_false hum
          have hmx2 : u = mx := by rw [← HMX.out, if_neg hum]
          subst hmx2
          clear hum
          go_wp2_with (first
          | ((with_reducible refine gate_builtin (b := .append) (xs := #[.tmp 102, .tmp 106]) rfl ?_); at_builtin
             refine Kd.R_append_rows k40 (w0 := w7) w7.heap.size rfl (.tmp 102) (.tmp 106) 23 40 (.agg #[(.int .u32 0), (.int .u32 0)]) 8 rfl Try.underlying23 inf40 rfl (by decide) (by omega) _ out [(⟨cl, m⟩ : S40)] (some ⟨wr.heap.size, 0, none⟩) 1 1 (fun _ => True) (fun _ => False) rfl rfl (Kd.R_below HM.out (boxed wr _)) (row_one (o := (⟨cl, m⟩ : S40)) (alloc_at wr _)) (fun _ _ h => h) (fun _ h => h.elim) (fun _ _ => trivial) (HBW.out.alloc HBW.out.size _) (Nat.le_trans HBW.out.size (boxed wr (.cells (cellsOf (⟨cl, m⟩ : S40)) 40)).size) (by have h1 := HOL.out; have h2 := HL5n.out; (try simp only [List.length_append, List.length_cons, List.length_nil]); omega) ?_
             intro v wC ho hb hg hat
             clear hg hat
             rw [HOC.out] at ho
             have HMC := Lib.hid ho
             have BLC := Lib.hid (below_old BL7.out hb)
             have BZC := Lib.hid (below_old BZ7.out hb)
             have HBC := Lib.hid (HB7.out.trans (hb.mono HB7.out.size))
             obtain ⟨AC, cC, rfl⟩ := Kd.R_slice HMC.out
             clear ho hb hx hz
             have hx := blk7 BLC.out
             have hz := blk7 BZC.out))
          refine bodyPost_ret (results_list (rs := [.cell 6 25, .tmp 7, .tmp 8]) rfl (by simp) (.cell (w.heap.size + 1) 25 (lockA f e u c true false (.slice AC oC.length cC)) (0, 0) _ rfl (put7 (set_far BZC.out hne1 _)) Try.underlying25 rfl (by kernel_rfl) (.tmp (.tmp .nil)))) rfl ?_
          rw [← HE.out]
          exact ⟨_, _, rfl, and_assoc.1 ⟨R_both (set7 (R_low HMC.out (show w.heap.size < w7.heap.size by omega) _) (show w.heap.size + 1 < w7.heap.size by omega) _ _ _ _ _ _ _), below7 (HBC.out.setCell (Nat.le_refl w.heap.size) _) (by omega) _ _ _ _ _ _ _⟩⟩

theorem refAsk_calls (f e u c : Int) (fc g : Bool) (A0 : Option Addr) (c0 : Nat) (l : List S40) (cl m : Int) (w : World) (hr0 : Kd.C k40 w A0 l.length l) (hc0 : l.length ≤ c0) (hl : l.length ≤ 100) (r1 r2 r3 r4 : Int) (r5 r6 : Bool) (r7 : List S40) (r8 r9 : Int) (h' : askF f e u c fc g l cl m = (r1, r2, r3, r4, r5, r6, r7, r8, r9)) :
    Calls Try.prog 18 #[.agg (lockA f e u c fc g (.slice A0 l.length c0)), .int .u32 cl, .int .u32 m] w fun ex w' => ∃ A' c', ex = .returned (.tuple #[.agg (lockA r1 r2 r3 r4 r5 r6 (.slice A' r7.length c')), .int .i64 r8, .int .i64 r9]) ∧ Kd.C k40 w' A' r7.length r7 ∧ r7.length ≤ c' ∧ Below w.heap.size w w' := by
  unfold askF at h'
  split at h'
  · rename_i hr
    obtain ⟨hr, hm1, hm2⟩ := hr
    have hs := rows_strict (right_rows hr).2.2.2.2
    have hm : m = 1 ∨ m = 2 := by omega
    split at h'
    · rename_i hg
      subst hg
      simp only [Prod.mk.injEq] at h'
      obtain ⟨rfl, rfl, rfl, rfl, rfl, rfl, rfl, rfl, rfl⟩ := h'
      rcases hm with hm | hm
      · exact ref_gone1 _ _ _ _ _ A0 c0 l cl m w hr0 hc0 hl hr hm
      · exact ref_gone2 _ _ _ _ _ A0 c0 l cl m w hr0 hc0 hl hr hm
    · rename_i hg
      have hg' : g = false := by simpa using hg
      subst hg'
      clear hg
      split at h'
      · rename_i ho
        simp only [Prod.mk.injEq] at h'
        obtain ⟨rfl, rfl, rfl, rfl, rfl, rfl, rfl, rfl, rfl⟩ := h'
        rcases hm with hm | hm
        · exact ref_others1 _ _ _ _ _ A0 c0 l cl m w hr0 hc0 hl hr hm ho
        · exact ref_others2 _ _ _ _ _ A0 c0 l cl m w hr0 hc0 hl hr hm ho
      · rename_i ho
        have ho' : (othersF l cl m).length = 0 := by omega
        split at h'
        · rename_i hh
          simp only [Prod.mk.injEq] at h'
          obtain ⟨rfl, rfl, rfl, rfl, rfl, rfl, rfl, rfl, rfl⟩ := h'
          rcases hm with hm | hm
          · exact ref_has1 _ _ _ _ _ A0 c0 l cl m w hr0 hc0 hl hr hm ho' hh
          · exact ref_has2 _ _ _ _ _ A0 c0 l cl m w hr0 hc0 hl hr hm ho' hh
        · rename_i hh
          split at h'
          · rename_i hf
            subst hf
            simp only [Prod.mk.injEq] at h'
            obtain ⟨rfl, rfl, rfl, rfl, rfl, rfl, rfl, rfl, rfl⟩ := h'
            rcases hm with hm | hm
            · exact ref_wait1 _ _ _ _ A0 c0 l cl m w hr0 hc0 hl hr hm ho' hh
            · exact ref_wait2 _ _ _ _ A0 c0 l cl m w hr0 hc0 hl hr hm ho' hh
          · rename_i hf
            have hf' : fc = true := by simpa using hf
            subst hf'
            clear hf
            split at h'
            · rename_i ht
              by_cases he : e = 4294967295
              · subst he
                have e1 : turnT f 4294967295 u c true false (withoutF l cl) = (f, 4294967295, u, c, true, false, withoutF l cl) := by unfold turnT; rw [if_pos rfl]
                rw [e1] at h'
                simp only [Prod.mk.injEq] at h'
                obtain ⟨rfl, rfl, rfl, rfl, rfl, rfl, rfl, rfl, rfl⟩ := h'
                rcases hm with hm | hm
                · exact ref_turnmax1 _ _ _ A0 c0 l cl m w hr0 hc0 hl hr hm ho' hh (by omega)
                · exact ref_turnmax2 _ _ _ A0 c0 l cl m w hr0 hc0 hl hr hm ho' hh ht.2
              · have e1 : turnT f e u c true false (withoutF l cl) = (f, (e + 1) % 4294967296, 0, c, false, false, []) := by unfold turnT; rw [if_neg he]
                rw [e1] at h'
                simp only [Prod.mk.injEq] at h'
                obtain ⟨rfl, rfl, rfl, rfl, rfl, rfl, rfl, rfl, rfl⟩ := h'
                rcases hm with hm | hm
                · exact ref_turnnext1 _ _ _ _ A0 c0 l cl m w hr0 hc0 hl hr hm ho' hh (by omega) he
                · exact ref_turnnext2 _ _ _ _ A0 c0 l cl m w hr0 hc0 hl hr hm ho' hh ht.2 he
            · rename_i ht
              split at h'
              · rename_i h4
                simp only [Prod.mk.injEq] at h'
                obtain ⟨rfl, rfl, rfl, rfl, rfl, rfl, rfl, rfl, rfl⟩ := h'
                rcases hm with hm | hm
                · exact ref_full1 _ _ _ _ A0 c0 l cl m w hr0 hc0 hl hr hm ho' hh (by omega) h4
                · exact ref_full2 _ _ _ _ A0 c0 l cl m w hr0 hc0 hl hr hm ho' hh (by omega) h4
              · rename_i h4
                simp only [Prod.mk.injEq] at h'
                obtain ⟨rfl, rfl, rfl, rfl, rfl, rfl, rfl, rfl, rfl⟩ := h'
                rcases hm with hm | hm
                · exact ref_ok1 _ _ _ _ A0 c0 l cl m w hr0 hc0 hl hr hm ho' hh (by omega) h4 hs
                · exact ref_ok2 _ _ _ _ A0 c0 l cl m w hr0 hc0 hl hr hm ho' hh (by omega) h4 hs
  · rename_i hr
    simp only [Prod.mk.injEq] at h'
    obtain ⟨rfl, rfl, rfl, rfl, rfl, rfl, rfl, rfl, rfl⟩ := h'
    by_cases h1 : rightB u c fc g l = true
    · exact ref_no2 _ _ _ _ _ _ A0 c0 l cl m w hr0 hc0 hl h1 (fun h => hr ⟨h1, by omega, by omega⟩) (fun h => hr ⟨h1, by omega, by omega⟩)
    · exact ref_no1 _ _ _ _ _ _ A0 c0 l cl m w hr0 hc0 hl (by simpa using h1)
end Go.Proofs.Ytkcacfnefhakbaa.HoldL
