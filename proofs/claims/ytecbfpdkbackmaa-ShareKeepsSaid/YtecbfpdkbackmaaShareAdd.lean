/- Layer share: one more open. -/
import Derived.Test.YtecbfpdkbackmaaShareSort
namespace Go.Proofs.Ytecbfpdkbackmaa.Share
open Go.RowKit Go.Shelf Go.Blk Go.Proofs.Ytecbfpdkbackmaa.P11 Go.Proofs.YtecbfpdkbackmaaW.PrintWords Go.Proofs.YtecbfpdkbackmaaW.PrintLast Go.Proofs.YtecbfpdkbackmaaW.PrintMore
set_option linter.unusedVariables false
set_option linter.unusedSimpArgs false

def keyB (c h : Int) (x : S27) : Bool := x.f0 == c && x.f1 == h
/-- what Find answers -/
def found (l : List S27) (c h : Int) : S27 × Bool := match l.find? (keyB c h) with | some x => (x, true) | none => (z27, false)
theorem rd_get (l : List S27) (i : Nat) (h : i < l.length) : rd_T27 l i = l[i] := by unfold rd_T27; simp [List.getD, h]
theorem find_loop (l : List S27) (c h : Int) (hl : l.length ≤ 4096) : ∀ (d k i : Nat), i ≤ l.length → l.length - i ≤ d → d < k → (∀ x ∈ l.take i, keyB c h x = false) →
    share_Find.l0 k c h l (l.length : Int) i = some ((found l c h).1.f0, (found l c h).1.f1, (found l c h).1.f2, (found l c h).1.f3, (found l c h).1.f4, (found l c h).2) := by
  intro d
  induction d with
  | zero =>
    intro k i hi hd hk hall
    obtain ⟨k, rfl⟩ : ∃ m, k = m + 1 := ⟨k - 1, by omega⟩
    have e : found l c h = (z27, false) := by
      unfold found
      rw [List.find?_eq_none.2 (fun x hx => by
        have : l.take i = l := List.take_of_length_le (by omega)
        rw [hall x (by rw [this]; exact hx)]; simp)]
    rw [e]
    simp only [share_Find.l0]
    rw [if_neg (by omega)]; rfl
  | succ d ih =>
    intro k i hi hd hk hall
    obtain ⟨k, rfl⟩ : ∃ m, k = m + 1 := ⟨k - 1, by omega⟩
    by_cases hlt : i < l.length
    · simp only [share_Find.l0]
      rw [if_pos (by omega), if_pos (by omega), if_pos (by omega), rd_get l i hlt, show wrap64 ((i : Int) + 1) = ((i + 1 : Nat) : Int) by unfold wrap64; omega]
      by_cases hk : keyB c h l[i] = true
      · have hk' := hk
        unfold keyB at hk'
        simp only [Bool.and_eq_true, beq_iff_eq] at hk'
        rw [if_pos hk'.1, if_pos hk'.2]
        have e : found l c h = (l[i], true) := by
          unfold found
          have : l.find? (keyB c h) = some l[i] := by
            rw [List.find?_eq_some_iff_getElem]
            refine ⟨hk, i, hlt, rfl, fun j hj => ?_⟩
            rw [hall _ (by rw [List.mem_take_iff_getElem]; exact ⟨j, by omega, rfl⟩)]; rfl
          rw [this]
        rw [e]
      · have hk2 : keyB c h l[i] = false := by simpa using hk
        have next := ih k (i + 1) (by omega) (by omega) (by omega) (fun x hx => by
          rw [List.take_succ_eq_append_getElem hlt, List.mem_append] at hx
          rcases hx with hx | hx
          · exact hall x hx
          · rw [List.mem_singleton.1 hx]; exact hk2)
        by_cases h1 : l[i].f0 = c
        · rw [if_pos h1]
          by_cases h2 : l[i].f1 = h
          · exfalso; unfold keyB at hk2; rw [h1, h2] at hk2; simp at hk2
          · rw [if_neg h2]; exact next
        · rw [if_neg h1]; exact next
    · exact ih (k + 1) i hi (by omega) (by omega) hall
theorem find_calls (A0 : Option Addr) (c0 : Nat) (l0 : List S27) (c h : Int) (w : World) (hr0 : Kd.C k27 w A0 l0.length l0) (hc0 : l0.length ≤ c0) (hl : l0.length ≤ 4096) :
    Calls Try.prog 12 #[.slice A0 l0.length c0, .int .u32 c, .int .u32 h] w fun e w' => e = .returned (.tuple #[opn (found l0 c h).1, .bool (found l0 c h).2]) ∧ Below w.heap.size w w' :=
  share_Find.calls 4100 A0 c0 l0 c h _ _ _ _ _ _ w hr0 hc0 (find_loop l0 c h hl 4096 4100 0 (Nat.zero_le _) (by omega) (by omega) (fun x hx => by simp at hx))

theorem row_one {w : World} {g : Nat} {o : S27} (h : w.heap[g]? = some (.cells (cellsOf o) 27 (0, 0))) : Kd.C k27 w (some ⟨g, 0, none⟩) 1 [o] := by
  refine ⟨rfl, by decide, fun _ => ⟨_, rfl, fun j p hj => ?_⟩⟩
  have c := blk5 h
  match j, hj with
  | 0, hj =>
    obtain rfl : o = p := by simpa using hj
    refine ⟨_, rfl, k27_mk w o, fun i u hi => ?_⟩
    match i, hi with
    | 0, hi => obtain rfl : Value.int .u32 o.f0 = u := by simpa using hi
               exact c.1
    | 1, hi => obtain rfl : Value.int .u32 o.f1 = u := by simpa using hi
               exact c.2.2.1
    | 2, hi => obtain rfl : Value.int .u32 o.f2 = u := by simpa using hi
               exact c.2.2.2.2.1
    | 3, hi => obtain rfl : Value.int .u32 o.f3 = u := by simpa using hi
               exact c.2.2.2.2.2.2.1
    | 4, hi => obtain rfl : Value.int .u32 o.f4 = u := by simpa using hi
               exact c.2.2.2.2.2.2.2.2.1
def sameKey (l : List S27) (o : S27) : Bool := (found l o.f0 o.f1).2

set_option maxHeartbeats 2000000 in
theorem add_1 (A0 : Option Addr) (c0 : Nat) (l0 : List S27) (o : S27) (w : World) (hr0 : Kd.C k27 w A0 l0.length l0) (hc0 : l0.length ≤ c0) (hlen : l0.length ≤ 4096) (hr : rightB l0 = false) :
    Calls Try.prog 18 #[.slice A0 l0.length c0, opn o] w fun e w' => e = .returned (.tuple #[.slice none 0 0, .int .i64 1]) ∧ Below w.heap.size w w' := by
  have HF := Lib.hid (fun W h => find_calls A0 c0 l0 o.f0 o.f1 W h hc0 hlen)
  have HC := Lib.hid (fun W h => right_calls A0 c0 l0 W h hc0)
  have HO := Lib.hid (fun W => one_calls o W)
  have HM := Lib.hid (fun W h => mine_calls A0 c0 l0 o.f0 W h (by omega))
  have HR := Lib.hid hr0
  have BX := Lib.hid (alloc_at w (.cells (cellsOf o) 27))
  have hx := blk5 BX.out
  rw [hr] at HC
  clear hr
  have HLN := Lib.hid hlen
  clear hlen
  clear hr0 hc0
  go_enter Try.func18, Try.ntmps18
  go_wp2_with (first | (go_at_call 12; refine (HF.out _ (Kd.C_below HR.out (boxed w _))).mono ?_; rintro e w1 ⟨rfl, hb⟩; have HB1 := Lib.hid ((boxed w _).trans (hb.mono (by simp))); have BX1 := Lib.hid (below_old BX.out hb); clear hx; have hx := fun o' => blk5 (alloc_old BX1.out o'); clear hb) | (go_at_call 11; refine (HC.out _ (Kd.C_below HR.out (HB1.out.alloc HB1.out.size _))).mono ?_; rintro e w2 ⟨rfl, hb⟩; have HB2 := Lib.hid ((HB1.out.alloc HB1.out.size _).trans (hb.mono (by have := HB1.out.size; simp; omega))); have BX2 := Lib.hid (below_old (alloc_old BX1.out _) hb); clear hx hb; have hx := blk5 BX2.out))
  go_ret2
  exact ⟨rfl, HB2.out⟩

set_option maxHeartbeats 2000000 in
theorem add_2 (A0 : Option Addr) (c0 : Nat) (l0 : List S27) (o : S27) (w : World) (hr0 : Kd.C k27 w A0 l0.length l0) (hc0 : l0.length ≤ c0) (hlen : l0.length ≤ 4096) (hr : rightB l0 = true) (h1 : oneB o = false) :
    Calls Try.prog 18 #[.slice A0 l0.length c0, opn o] w fun e w' => e = .returned (.tuple #[.slice none 0 0, .int .i64 1]) ∧ Below w.heap.size w w' := by
  have HF := Lib.hid (fun W h => find_calls A0 c0 l0 o.f0 o.f1 W h hc0 hlen)
  have HC := Lib.hid (fun W h => right_calls A0 c0 l0 W h hc0)
  have HO := Lib.hid (fun W => one_calls o W)
  have HM := Lib.hid (fun W h => mine_calls A0 c0 l0 o.f0 W h (by omega))
  have HR := Lib.hid hr0
  have BX := Lib.hid (alloc_at w (.cells (cellsOf o) 27))
  have hx := blk5 BX.out
  rw [hr] at HC
  clear hr
  rw [h1] at HO
  clear h1
  have HLN := Lib.hid hlen
  clear hlen
  clear hr0 hc0
  go_enter Try.func18, Try.ntmps18
  go_wp2_with (first | (go_at_call 12; refine (HF.out _ (Kd.C_below HR.out (boxed w _))).mono ?_; rintro e w1 ⟨rfl, hb⟩; have HB1 := Lib.hid ((boxed w _).trans (hb.mono (by simp))); have BX1 := Lib.hid (below_old BX.out hb); clear hx; have hx := fun o' => blk5 (alloc_old BX1.out o'); clear hb) | (go_at_call 11; refine (HC.out _ (Kd.C_below HR.out (HB1.out.alloc HB1.out.size _))).mono ?_; rintro e w2 ⟨rfl, hb⟩; have HB2 := Lib.hid ((HB1.out.alloc HB1.out.size _).trans (hb.mono (by have := HB1.out.size; simp; omega))); have BX2 := Lib.hid (below_old (alloc_old BX1.out _) hb); clear hx hb; have hx := blk5 BX2.out) | (go_at_call 25; refine (HO.out _).mono ?_; rintro e w3 ⟨rfl, hb⟩; have HB3 := Lib.hid (HB2.out.trans (hb.mono HB2.out.size)); have BX3 := Lib.hid (below_old BX2.out hb); clear hx hb; have hx := blk5 BX3.out))
  go_ret2
  exact ⟨rfl, HB3.out⟩

set_option maxHeartbeats 2000000 in
theorem add_3 (A0 : Option Addr) (c0 : Nat) (l0 : List S27) (o : S27) (w : World) (hr0 : Kd.C k27 w A0 l0.length l0) (hc0 : l0.length ≤ c0) (hlen : l0.length ≤ 4096) (hr : rightB l0 = true) (h1 : oneB o = true) (h2 : (found l0 o.f0 o.f1).2 = true) :
    Calls Try.prog 18 #[.slice A0 l0.length c0, opn o] w fun e w' => e = .returned (.tuple #[.slice none 0 0, .int .i64 8]) ∧ Below w.heap.size w w' := by
  have HF := Lib.hid (fun W h => find_calls A0 c0 l0 o.f0 o.f1 W h hc0 hlen)
  have HC := Lib.hid (fun W h => right_calls A0 c0 l0 W h hc0)
  have HO := Lib.hid (fun W => one_calls o W)
  have HM := Lib.hid (fun W h => mine_calls A0 c0 l0 o.f0 W h (by omega))
  have HR := Lib.hid hr0
  have BX := Lib.hid (alloc_at w (.cells (cellsOf o) 27))
  have hx := blk5 BX.out
  rw [hr] at HC
  clear hr
  rw [h1] at HO
  clear h1
  rw [h2] at HF
  clear h2
  have HLN := Lib.hid hlen
  clear hlen
  clear hr0 hc0
  go_enter Try.func18, Try.ntmps18
  go_wp2_with (first | (go_at_call 12; refine (HF.out _ (Kd.C_below HR.out (boxed w _))).mono ?_; rintro e w1 ⟨rfl, hb⟩; have HB1 := Lib.hid ((boxed w _).trans (hb.mono (by simp))); have BX1 := Lib.hid (below_old BX.out hb); clear hx; have hx := fun o' => blk5 (alloc_old BX1.out o'); clear hb) | (go_at_call 11; refine (HC.out _ (Kd.C_below HR.out (HB1.out.alloc HB1.out.size _))).mono ?_; rintro e w2 ⟨rfl, hb⟩; have HB2 := Lib.hid ((HB1.out.alloc HB1.out.size _).trans (hb.mono (by have := HB1.out.size; simp; omega))); have BX2 := Lib.hid (below_old (alloc_old BX1.out _) hb); clear hx hb; have hx := blk5 BX2.out) | (go_at_call 25; refine (HO.out _).mono ?_; rintro e w3 ⟨rfl, hb⟩; have HB3 := Lib.hid (HB2.out.trans (hb.mono HB2.out.size)); have BX3 := Lib.hid (below_old BX2.out hb); clear hx hb; have hx := blk5 BX3.out))
  go_ret2
  exact ⟨rfl, HB3.out⟩

set_option maxHeartbeats 2000000 in
theorem add_4 (A0 : Option Addr) (c0 : Nat) (l0 : List S27) (o : S27) (w : World) (hr0 : Kd.C k27 w A0 l0.length l0) (hc0 : l0.length ≤ c0) (hlen : l0.length ≤ 4096) (hr : rightB l0 = true) (h1 : oneB o = true) (h2 : (found l0 o.f0 o.f1).2 = false) (h3 : l0.length = 12) :
    Calls Try.prog 18 #[.slice A0 l0.length c0, opn o] w fun e w' => e = .returned (.tuple #[.slice none 0 0, .int .i64 16]) ∧ Below w.heap.size w w' := by
  have HF := Lib.hid (fun W h => find_calls A0 c0 l0 o.f0 o.f1 W h hc0 hlen)
  have HC := Lib.hid (fun W h => right_calls A0 c0 l0 W h hc0)
  have HO := Lib.hid (fun W => one_calls o W)
  have HM := Lib.hid (fun W h => mine_calls A0 c0 l0 o.f0 W h (by omega))
  have HR := Lib.hid hr0
  have BX := Lib.hid (alloc_at w (.cells (cellsOf o) 27))
  have hx := blk5 BX.out
  rw [hr] at HC
  clear hr
  rw [h1] at HO
  clear h1
  rw [h2] at HF
  clear h2
  have HLN := Lib.hid hlen
  clear hlen
  have hq1 : ((l0.length : Int) == 12) = true := by rw [beq_iff_eq]; omega
  have hq2 : (l0.length == 12) = true := by rw [beq_iff_eq]; omega
  have hq3 : (l0.length = 12) = True := eq_true h3
  have hq4 : ((l0.length : Int) = 12) = True := eq_true (by omega)
  clear h3
  clear hr0 hc0
  go_enter Try.func18, Try.ntmps18
  go_wp2_with (first | (go_at_call 12; refine (HF.out _ (Kd.C_below HR.out (boxed w _))).mono ?_; rintro e w1 ⟨rfl, hb⟩; have HB1 := Lib.hid ((boxed w _).trans (hb.mono (by simp))); have BX1 := Lib.hid (below_old BX.out hb); clear hx; have hx := fun o' => blk5 (alloc_old BX1.out o'); clear hb) | (go_at_call 11; refine (HC.out _ (Kd.C_below HR.out (HB1.out.alloc HB1.out.size _))).mono ?_; rintro e w2 ⟨rfl, hb⟩; have HB2 := Lib.hid ((HB1.out.alloc HB1.out.size _).trans (hb.mono (by have := HB1.out.size; simp; omega))); have BX2 := Lib.hid (below_old (alloc_old BX1.out _) hb); clear hx hb; have hx := blk5 BX2.out) | (go_at_call 25; refine (HO.out _).mono ?_; rintro e w3 ⟨rfl, hb⟩; have HB3 := Lib.hid (HB2.out.trans (hb.mono HB2.out.size)); have BX3 := Lib.hid (below_old BX2.out hb); clear hx hb; have hx := blk5 BX3.out))
  go_ret2
  exact ⟨rfl, HB3.out⟩

set_option maxHeartbeats 2000000 in
theorem add_5 (A0 : Option Addr) (c0 : Nat) (l0 : List S27) (o : S27) (w : World) (hr0 : Kd.C k27 w A0 l0.length l0) (hc0 : l0.length ≤ c0) (hlen : l0.length ≤ 4096) (hr : rightB l0 = true) (h1 : oneB o = true) (h2 : (found l0 o.f0 o.f1).2 = false) (h3 : ¬ l0.length = 12) (h4 : l0.countP (fun x => x.f0 == o.f0) = 4) :
    Calls Try.prog 18 #[.slice A0 l0.length c0, opn o] w fun e w' => e = .returned (.tuple #[.slice none 0 0, .int .i64 16]) ∧ Below w.heap.size w w' := by
  have HF := Lib.hid (fun W h => find_calls A0 c0 l0 o.f0 o.f1 W h hc0 hlen)
  have HC := Lib.hid (fun W h => right_calls A0 c0 l0 W h hc0)
  have HO := Lib.hid (fun W => one_calls o W)
  have HM := Lib.hid (fun W h => mine_calls A0 c0 l0 o.f0 W h (by omega))
  have HR := Lib.hid hr0
  have BX := Lib.hid (alloc_at w (.cells (cellsOf o) 27))
  have hx := blk5 BX.out
  rw [hr] at HC
  clear hr
  rw [h1] at HO
  clear h1
  rw [h2] at HF
  clear h2
  have HLN := Lib.hid hlen
  clear hlen
  have hq1 : ((l0.length : Int) == 12) = false := by rw [beq_eq_false_iff_ne, ne_eq]; omega
  have hq2 : (l0.length == 12) = false := by rw [beq_eq_false_iff_ne, ne_eq]; omega
  have hq3 : (l0.length = 12) = False := eq_false h3
  have hq4 : ((l0.length : Int) = 12) = False := eq_false (by omega)
  clear h3
  obtain ⟨cn, hcn⟩ : ∃ cn : Int, (((l0.countP (fun x => x.f0 == o.f0) : Nat) : Int)) = cn := ⟨_, rfl⟩
  have hq5 : (cn == 4) = true := by rw [beq_iff_eq]; omega
  rw [hcn] at HM
  clear hcn h4
  clear hr0 hc0
  go_enter Try.func18, Try.ntmps18
  go_wp2_with (first | (go_at_call 12; refine (HF.out _ (Kd.C_below HR.out (boxed w _))).mono ?_; rintro e w1 ⟨rfl, hb⟩; have HB1 := Lib.hid ((boxed w _).trans (hb.mono (by simp))); have BX1 := Lib.hid (below_old BX.out hb); clear hx; have hx := fun o' => blk5 (alloc_old BX1.out o'); clear hb) | (go_at_call 11; refine (HC.out _ (Kd.C_below HR.out (HB1.out.alloc HB1.out.size _))).mono ?_; rintro e w2 ⟨rfl, hb⟩; have HB2 := Lib.hid ((HB1.out.alloc HB1.out.size _).trans (hb.mono (by have := HB1.out.size; simp; omega))); have BX2 := Lib.hid (below_old (alloc_old BX1.out _) hb); clear hx hb; have hx := blk5 BX2.out) | (go_at_call 25; refine (HO.out _).mono ?_; rintro e w3 ⟨rfl, hb⟩; have HB3 := Lib.hid (HB2.out.trans (hb.mono HB2.out.size)); have BX3 := Lib.hid (below_old BX2.out hb); clear hx hb; have hx := blk5 BX3.out) | (go_at_call 26; refine (HM.out _ (Kd.C_below HR.out HB3.out)).mono ?_; rintro e w4 ⟨rfl, hb⟩; have HB4 := Lib.hid (HB3.out.trans (hb.mono HB3.out.size)); have BX4 := Lib.hid (below_old BX3.out hb); clear hx hb; have hx := blk5 BX4.out))
  go_ret2
  exact ⟨rfl, HB4.out⟩

set_option maxHeartbeats 2000000 in
theorem add_6 (A0 : Option Addr) (c0 : Nat) (l0 : List S27) (o : S27) (w : World) (hr0 : Kd.C k27 w A0 l0.length l0) (hc0 : l0.length ≤ c0) (hlen : l0.length ≤ 4096) (hr : rightB l0 = true) (h1 : oneB o = true) (h2 : (found l0 o.f0 o.f1).2 = false) (h3 : ¬ l0.length = 12) (h4 : ¬ l0.countP (fun x => x.f0 == o.f0) = 4) (h5 : l0.any (fun x => clashB x o) = true) :
    Calls Try.prog 18 #[.slice A0 l0.length c0, opn o] w fun e w' => e = .returned (.tuple #[.slice none 0 0, .int .i64 13]) ∧ Below w.heap.size w w' := by
  have HF := Lib.hid (fun W h => find_calls A0 c0 l0 o.f0 o.f1 W h hc0 hlen)
  have HC := Lib.hid (fun W h => right_calls A0 c0 l0 W h hc0)
  have HO := Lib.hid (fun W => one_calls o W)
  have HM := Lib.hid (fun W h => mine_calls A0 c0 l0 o.f0 W h (by omega))
  have HR := Lib.hid hr0
  have BX := Lib.hid (alloc_at w (.cells (cellsOf o) 27))
  have hx := blk5 BX.out
  rw [hr] at HC
  clear hr
  rw [h1] at HO
  clear h1
  rw [h2] at HF
  clear h2
  have HLN := Lib.hid hlen
  clear hlen
  have hq1 : ((l0.length : Int) == 12) = false := by rw [beq_eq_false_iff_ne, ne_eq]; omega
  have hq2 : (l0.length == 12) = false := by rw [beq_eq_false_iff_ne, ne_eq]; omega
  have hq3 : (l0.length = 12) = False := eq_false h3
  have hq4 : ((l0.length : Int) = 12) = False := eq_false (by omega)
  clear h3
  obtain ⟨cn, hcn⟩ : ∃ cn : Int, (((l0.countP (fun x => x.f0 == o.f0) : Nat) : Int)) = cn := ⟨_, rfl⟩
  have hq5 : (cn == 4) = false := by rw [beq_eq_false_iff_ne, ne_eq]; omega
  rw [hcn] at HM
  clear hcn h4
  have HAN := Lib.hid h5
  clear h5
  clear hr0 hc0
  go_enter Try.func18, Try.ntmps18
  go_wp2_with (first | (go_at_call 12; refine (HF.out _ (Kd.C_below HR.out (boxed w _))).mono ?_; rintro e w1 ⟨rfl, hb⟩; have HB1 := Lib.hid ((boxed w _).trans (hb.mono (by simp))); have BX1 := Lib.hid (below_old BX.out hb); clear hx; have hx := fun o' => blk5 (alloc_old BX1.out o'); clear hb) | (go_at_call 11; refine (HC.out _ (Kd.C_below HR.out (HB1.out.alloc HB1.out.size _))).mono ?_; rintro e w2 ⟨rfl, hb⟩; have HB2 := Lib.hid ((HB1.out.alloc HB1.out.size _).trans (hb.mono (by have := HB1.out.size; simp; omega))); have BX2 := Lib.hid (below_old (alloc_old BX1.out _) hb); clear hx hb; have hx := blk5 BX2.out) | (go_at_call 25; refine (HO.out _).mono ?_; rintro e w3 ⟨rfl, hb⟩; have HB3 := Lib.hid (HB2.out.trans (hb.mono HB2.out.size)); have BX3 := Lib.hid (below_old BX2.out hb); clear hx hb; have hx := blk5 BX3.out) | (go_at_call 26; refine (HM.out _ (Kd.C_below HR.out HB3.out)).mono ?_; rintro e w4 ⟨rfl, hb⟩; have HB4 := Lib.hid (HB3.out.trans (hb.mono HB3.out.size)); have BX4 := Lib.hid (below_old BX3.out hb); clear hx hb; have hx := blk5 BX4.out) | (go_at_call 28; refine (contains_calls A0 c0 l0 38 #[.pointer (some ⟨w.heap.size, 0, none⟩)] (fun x => clashB x o) _ (Kd.C_below HR.out HB4.out) (by have := HLN.out; omega) (enters_of Try.func38 (by kernel_rfl) rfl) (add_pred o w.heap.size _ BX4.out)).mono ?_; rw [HAN.out]; rintro e w5 ⟨rfl, hb⟩; have HB5 := Lib.hid (HB4.out.trans (hb.mono HB4.out.size)); have BX5 := Lib.hid (below_old BX4.out hb); clear hx hb; have hx := blk5 BX5.out))
  go_ret2
  exact ⟨rfl, HB5.out⟩

set_option maxHeartbeats 2000000 in
theorem add_ok (A0 : Option Addr) (c0 : Nat) (l0 : List S27) (o : S27) (w : World) (hr0 : Kd.C k27 w A0 l0.length l0) (hc0 : l0.length ≤ c0) (hlen : l0.length ≤ 4096) (hr : rightB l0 = true) (h1 : oneB o = true) (h2 : (found l0 o.f0 o.f1).2 = false) (h3 : ¬ l0.length = 12) (h4 : ¬ l0.countP (fun x => x.f0 == o.f0) = 4) (h5 : l0.any (fun x => clashB x o) = false) :
    Calls Try.prog 18 #[.slice A0 l0.length c0, opn o] w fun e w' => ∃ v0 l', e = .returned (.tuple #[v0, .int .i64 0]) ∧ l'.Perm (l0 ++ [o]) ∧ SortedL l' ∧ Kd.R k27 27 w' w.heap.size (fun _ => True) v0 l' ∧ Below w.heap.size w w' := by
  have HF := Lib.hid (fun W h => find_calls A0 c0 l0 o.f0 o.f1 W h hc0 hlen)
  have HC := Lib.hid (fun W h => right_calls A0 c0 l0 W h hc0)
  have HO := Lib.hid (fun W => one_calls o W)
  have HM := Lib.hid (fun W h => mine_calls A0 c0 l0 o.f0 W h (by omega))
  have HR := Lib.hid hr0
  have BX := Lib.hid (alloc_at w (.cells (cellsOf o) 27))
  have hx := blk5 BX.out
  have HL12 := Lib.hid (right_len hr)
  rw [hr] at HC
  clear hr
  rw [h1] at HO
  clear h1
  rw [h2] at HF
  clear h2
  have HLN := Lib.hid hlen
  clear hlen
  have hq1 : ((l0.length : Int) == 12) = false := by rw [beq_eq_false_iff_ne, ne_eq]; omega
  have hq2 : (l0.length == 12) = false := by rw [beq_eq_false_iff_ne, ne_eq]; omega
  have hq3 : (l0.length = 12) = False := eq_false h3
  have hq4 : ((l0.length : Int) = 12) = False := eq_false (by omega)
  clear h3
  obtain ⟨cn, hcn⟩ : ∃ cn : Int, (((l0.countP (fun x => x.f0 == o.f0) : Nat) : Int)) = cn := ⟨_, rfl⟩
  have hq5 : (cn == 4) = false := by rw [beq_eq_false_iff_ne, ne_eq]; omega
  rw [hcn] at HM
  clear hcn h4
  have HAN := Lib.hid h5
  clear h5
  clear hr0 hc0
  go_enter Try.func18, Try.ntmps18
  go_wp2_with (first | (go_at_call 12; refine (HF.out _ (Kd.C_below HR.out (boxed w _))).mono ?_; rintro e w1 ⟨rfl, hb⟩; have HB1 := Lib.hid ((boxed w _).trans (hb.mono (by simp))); have BX1 := Lib.hid (below_old BX.out hb); clear hx; have hx := fun o' => blk5 (alloc_old BX1.out o'); clear hb) | (go_at_call 11; refine (HC.out _ (Kd.C_below HR.out (HB1.out.alloc HB1.out.size _))).mono ?_; rintro e w2 ⟨rfl, hb⟩; have HB2 := Lib.hid ((HB1.out.alloc HB1.out.size _).trans (hb.mono (by have := HB1.out.size; simp; omega))); have BX2 := Lib.hid (below_old (alloc_old BX1.out _) hb); clear hx hb; have hx := blk5 BX2.out) | (go_at_call 25; refine (HO.out _).mono ?_; rintro e w3 ⟨rfl, hb⟩; have HB3 := Lib.hid (HB2.out.trans (hb.mono HB2.out.size)); have BX3 := Lib.hid (below_old BX2.out hb); clear hx hb; have hx := blk5 BX3.out) | (go_at_call 26; refine (HM.out _ (Kd.C_below HR.out HB3.out)).mono ?_; rintro e w4 ⟨rfl, hb⟩; have HB4 := Lib.hid (HB3.out.trans (hb.mono HB3.out.size)); have BX4 := Lib.hid (below_old BX3.out hb); clear hx hb; have hx := blk5 BX4.out) | (go_at_call 28; refine (contains_calls A0 c0 l0 38 #[.pointer (some ⟨w.heap.size, 0, none⟩)] (fun x => clashB x o) _ (Kd.C_below HR.out HB4.out) (by have := HLN.out; omega) (enters_of Try.func38 (by kernel_rfl) rfl) (add_pred o w.heap.size _ BX4.out)).mono ?_; rw [HAN.out]; rintro e w5 ⟨rfl, hb⟩; have HB5 := Lib.hid (HB4.out.trans (hb.mono HB4.out.size)); have BX5 := Lib.hid (below_old BX4.out hb); clear hx hb; have hx := blk5 BX5.out))
  go_wp2_with fail
  have START := Lib.hid (show H5 w5 w.heap.size o w5 from ⟨⟨hx.1, hx.2.2.1, hx.2.2.2.2.1, hx.2.2.2.2.2.2.1, hx.2.2.2.2.2.2.2.2.1⟩, Below.refl _ _⟩)
  refine start_ (n := 6) (S := (fun w' => (w'.cell? ⟨w.heap.size, 0, none⟩ = some (.int .u32 o.f0) ∧ w'.cell? ⟨w.heap.size, 1, none⟩ = some (.int .u32 o.f1) ∧ w'.cell? ⟨w.heap.size, 2, none⟩ = some (.int .u32 o.f2) ∧ w'.cell? ⟨w.heap.size, 3, none⟩ = some (.int .u32 o.f3) ∧ w'.cell? ⟨w.heap.size, 4, none⟩ = some (.int .u32 o.f4)) ∧ Below w5.heap.size w5 w')) (ds := []) #[false, false, false, false, false, false] (by kernel_rfl) rfl rfl (H5.drew START.out) (fun hHeld => ?_)
  refine pure_ (i := 0) (N := some 44) (v := ?_) (a' := ?_) #[true, false, false, false, false, false] rfl rfl (by kernel_rfl) (fun _ _ _ h => h) (Or.inl ⟨by rfl, ?_⟩) ?_ ?_
  rotate_left
  · intro w'
    go_simp
    with_reducible rfl
  rotate_left
  · simp only [Act.put, List.setIfInBounds_toArray, List.set_cons_zero, List.set_cons_succ, i64_w, i32_w]
    rfl
  refine take_ (i := 2) (N := some 46) (v := ?_) (a' := ?_) #[true, false, true, false, false, false] rfl rfl (by kernel_rfl) (fun _ _ _ h => h) (Or.inl ⟨by rfl, ?_⟩) hHeld ?_ ?_
  rotate_left
  · rintro w' ⟨⟨s0, s1, s2, s3, s4⟩, s10⟩
    go_simp
    with_reducible rfl
  rotate_left
  · simp only [Act.put, List.setIfInBounds_toArray, List.set_cons_zero, List.set_cons_succ, i64_w, i32_w]
    rfl
  refine two_ (i := 1) (j := 3) (Ni := some 45) (Nj := some 47) #[true, true, true, false, false, false] #[true, false, true, true, false, false] rfl rfl rfl rfl (by kernel_rfl) (by decide) (by decide) (fun K hK => ?_) (fun K hK => ?_)
  · refine goes_ Try.func39 (by kernel_rfl) rfl #[.slice A0 l0.length c0] (by rfl) rfl rfl (by (try simp only [List.map_toArray, List.map_cons, List.map_nil]); first | done | rfl) ?_
    refine (clone_calls A0 c0 l0 _ (Kd.C_below HR.out (HB5.out.trans (hHeld.2.mono HB5.out.size))) (by have := HL12.out; omega)).mono ?_
    rintro e w6 ⟨v, rfl, ho, hb⟩
    refine ⟨_, rfl, ?_⟩
    have HO6 := Lib.hid (Kd.R_lower ho hHeld.2.size)
    refine hK.out _ _ (H5.kept hb hHeld) (fun hHeld => ?_)
    clear hK K ho hb
    refine norm_ (a' := ?_) ?_ ?_
    rotate_left
    · show Act.put _ (some 45) _ = _
      simp only [Act.put, List.setIfInBounds_toArray, List.set_cons_zero, List.set_cons_succ, i64_w, i32_w]
      rfl
    refine one_ (i := 3) (N := some 47) #[true, true, true, true, false, false] rfl rfl (by kernel_rfl) (by decide) (fun K hK => ?_)
    go_simp
    have HGB := Lib.hid (alloc_at w6 (.cells (cellsOf o) 27))
    have HO7 := Lib.hid (Kd.R_below HO6.out (boxed w6 (.cells (cellsOf o) 27)))
    refine hK.out _ _ (H5.kept (boxed w6 _) hHeld) (fun hHeld => ?_)
    clear hK K
    refine one_ (i := 4) (N := some 48) #[true, true, true, true, true, false] rfl rfl (by kernel_rfl) (by decide) (fun K hK => ?_)
    refine Kd.R_append_rows_step k27 (w0 := w5) w5.heap.size (by rfl) (.tmp 45) (.tmp 47) 22 27 (.agg #[(.int .u32 0), (.int .u32 0), (.int .u32 0), (.int .u32 0), (.int .u32 0)]) 20 rfl Try.underlying22 info27 rfl (by decide) (by omega) v l0 [o] (some ⟨w6.heap.size, 0, none⟩) 1 1 (fun _ => True) (fun _ => False) rfl rfl HO7.out (row_one HGB.out) (fun _ _ h => h) (fun _ h => h.elim) (fun _ _ => trivial) hHeld.2 hHeld.2.size (by have := HL12.out; simp; omega) ?_
    intro v1 w8 ho hb hg hat
    have HO8 := Lib.hid ho
    have HB8 := Lib.hid hb
    refine hK.out _ _ (by have c := blk5 (below_old BX5.out hb); exact ⟨⟨c.1, c.2.2.1, c.2.2.2.2.1, c.2.2.2.2.2.2.1, c.2.2.2.2.2.2.2.2.1⟩, hb⟩) (fun hHeld => ?_)
    clear hK K ho hb hg hat
    refine norm_ (a' := ?_) ?_ ?_
    rotate_left
    · show Act.put _ (some 48) _ = _
      simp only [Act.put, List.setIfInBounds_toArray, List.set_cons_zero, List.set_cons_succ, i64_w, i32_w]
      rfl
    refine pure_ (i := 5) (N := some 8) (v := ?_) (a' := ?_) #[true, true, true, true, true, true] rfl rfl (by kernel_rfl) (fun _ _ _ h => h) (Or.inl ⟨by rfl, ?_⟩) ?_ ?_
    rotate_left
    · intro w'
      go_simp
      with_reducible rfl
    rotate_left
    · simp only [Act.put, List.setIfInBounds_toArray, List.set_cons_zero, List.set_cons_succ, i64_w, i32_w]
      rfl
    refine done_ (by kernel_rfl) ?_
    clear hHeld hx
    go_wp2_with (go_at_call 40; refine (sort_calls w5 _ _ (l0 ++ [o]) HB8.out HO8.out (by have := HL12.out; simp; omega) (by simp)).mono ?_; rintro e w9 ⟨rfl, l', hp, hs, ho, hb⟩; have HP9 := Lib.hid hp; have HS9 := Lib.hid hs; have HO9 := Lib.hid ho; have HB9 := Lib.hid hb; clear hp hs ho hb)
    go_ret2
    exact ⟨_, l', rfl, HP9.out, HS9.out, Kd.R_lower HO9.out HB5.out.size, HB5.out.trans (HB9.out.mono HB5.out.size)⟩
  · go_simp
    have HG := Lib.hid (alloc_at w5.drew (.cells (cellsOf o) 27))
    refine hK.out _ _ (H5.kept (boxed w5.drew _) hHeld) (fun hHeld => ?_)
    clear hK K
    refine one_ (i := 1) (N := some 45) #[true, true, true, true, false, false] rfl rfl (by kernel_rfl) (by decide) (fun K hK => ?_)
    refine goes_ Try.func39 (by kernel_rfl) rfl #[.slice A0 l0.length c0] (by rfl) rfl rfl (by (try simp only [List.map_toArray, List.map_cons, List.map_nil]); first | done | rfl) ?_
    refine (clone_calls A0 c0 l0 _ (Kd.C_below HR.out (HB5.out.trans (hHeld.2.mono HB5.out.size))) (by have := HL12.out; omega)).mono ?_
    rintro e w6 ⟨v, rfl, ho, hb⟩
    refine ⟨_, rfl, ?_⟩
    have HO6 := Lib.hid (Kd.R_lower ho hHeld.2.size)
    have HGB := Lib.hid (below_old HG.out hb)
    refine hK.out _ _ (H5.kept hb hHeld) (fun hHeld => ?_)
    clear hK K ho hb
    refine norm_ (a' := ?_) ?_ ?_
    rotate_left
    · show Act.put _ (some 45) _ = _
      simp only [Act.put, List.setIfInBounds_toArray, List.set_cons_zero, List.set_cons_succ, i64_w, i32_w]
      rfl
    refine one_ (i := 4) (N := some 48) #[true, true, true, true, true, false] rfl rfl (by kernel_rfl) (by decide) (fun K hK => ?_)
    refine Kd.R_append_rows_step k27 (w0 := w5) w5.heap.size (by rfl) (.tmp 45) (.tmp 47) 22 27 (.agg #[(.int .u32 0), (.int .u32 0), (.int .u32 0), (.int .u32 0), (.int .u32 0)]) 20 rfl Try.underlying22 info27 rfl (by decide) (by omega) v l0 [o] (some ⟨w5.heap.size, 0, none⟩) 1 1 (fun _ => True) (fun _ => False) rfl rfl HO6.out (row_one HGB.out) (fun _ _ h => h) (fun _ h => h.elim) (fun _ _ => trivial) hHeld.2 hHeld.2.size (by have := HL12.out; simp; omega) ?_
    intro v1 w8 ho hb hg hat
    have HO8 := Lib.hid ho
    have HB8 := Lib.hid hb
    refine hK.out _ _ (by have c := blk5 (below_old BX5.out hb); exact ⟨⟨c.1, c.2.2.1, c.2.2.2.2.1, c.2.2.2.2.2.2.1, c.2.2.2.2.2.2.2.2.1⟩, hb⟩) (fun hHeld => ?_)
    clear hK K ho hb hg hat
    refine norm_ (a' := ?_) ?_ ?_
    rotate_left
    · show Act.put _ (some 48) _ = _
      simp only [Act.put, List.setIfInBounds_toArray, List.set_cons_zero, List.set_cons_succ, i64_w, i32_w]
      rfl
    refine pure_ (i := 5) (N := some 8) (v := ?_) (a' := ?_) #[true, true, true, true, true, true] rfl rfl (by kernel_rfl) (fun _ _ _ h => h) (Or.inl ⟨by rfl, ?_⟩) ?_ ?_
    rotate_left
    · intro w'
      go_simp
      with_reducible rfl
    rotate_left
    · simp only [Act.put, List.setIfInBounds_toArray, List.set_cons_zero, List.set_cons_succ, i64_w, i32_w]
      rfl
    refine done_ (by kernel_rfl) ?_
    clear hHeld hx
    go_wp2_with (go_at_call 40; refine (sort_calls w5 _ _ (l0 ++ [o]) HB8.out HO8.out (by have := HL12.out; simp; omega) (by simp)).mono ?_; rintro e w9 ⟨rfl, l', hp, hs, ho, hb⟩; have HP9 := Lib.hid hp; have HS9 := Lib.hid hs; have HO9 := Lib.hid ho; have HB9 := Lib.hid hb; clear hp hs ho hb)
    go_ret2
    exact ⟨_, l', rfl, HP9.out, HS9.out, Kd.R_lower HO9.out HB5.out.size, HB5.out.trans (HB9.out.mono HB5.out.size)⟩
end Go.Proofs.Ytecbfpdkbackmaa.Share
