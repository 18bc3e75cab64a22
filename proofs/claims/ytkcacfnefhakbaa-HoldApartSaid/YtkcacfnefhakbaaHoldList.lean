/- Layer hold: lists of holders: copied, struck from, sorted. -/
import Derived.Test.YtkcacfnefhakbaaP12x0
import Derived.Test.YtkcacfnefhakbaaBlk
import Derived.Lib.SliceRun
import Derived.Shelf.Abstract
namespace Go.Proofs.Ytkcacfnefhakbaa.HoldL
open Go.RowKit Go.Shelf Go.Sort Go.Lib Go.Blk Go.Proofs.Ytkcacfnefhakbaa.P12 Go.Proofs.YtkcacfnefhakbaaW.PrintWords Go.Proofs.YtkcacfnefhakbaaW.PrintLast Go.Proofs.YtkcacfnefhakbaaW.PrintMore
set_option linter.unusedVariables false
set_option linter.unusedSimpArgs false
/-- an open as a value -/
abbrev opn (x : S40) : Value := .agg #[.int .u32 x.f0, .int .u32 x.f1]

theorem inf40 : (Try.prog.info? 40).map (fun i => (i.zero, i.size, i.bytes)) = some (some (.agg #[(.int .u32 0), (.int .u32 0)]), 2, 8) := by kernel_rfl
abbrev cellsOf (x : S40) : Array Value := #[.int .u32 x.f0, .int .u32 x.f1]
/-- a predicate's function: it answers, and leaves what lay in w -/
def PredB (g : Nat) (lb : Array Value) (p : S40 → Bool) (w : World) : Prop :=
  ∀ (W : World) (x : S40), Below w.heap.size w W → Calls Try.prog g (#[opn x] ++ lb) W fun e w' => e = .returned (.bool (p x)) ∧ Below w.heap.size w w'

theorem boxed (w : World) (o : Obj) : Below w.heap.size w (w.alloc o) := (Below.refl w.heap.size w).alloc (Nat.le_refl _) o

theorem one_cell {w W : World} {B : Nat} {v : Value} (hB : B < w.heap.size) (hc : w.cell? ⟨B, 0, none⟩ = some v) (hb : Below w.heap.size w W) : ∀ o, (W.alloc o).cell? ⟨B, 0, none⟩ = some v :=
  fun o => (((Below.refl W.heap.size W).alloc (Nat.le_refl _) o).cell (p := ⟨B, 0, none⟩) (Nat.lt_of_lt_of_le hB hb.size)).trans ((hb.cell (p := ⟨B, 0, none⟩) hB).trans hc)

/-- the first place of a kind -/
def fst (p : S40 → Bool) (l : List S40) : Int := match l.findIdx? p with | some i => i | none => -1

set_option maxHeartbeats 2000000 in
theorem index_calls (A0 : Option Addr) (c0 : Nat) (l0 : List S40) (g : Nat) (lb : Array Value) (p : S40 → Bool) (w : World) (hr0 : Kd.C k40 w A0 l0.length l0) (hl : l0.length ≤ 9223372036854775807)
    (eg : ∀ args w, (callFunc g args).run Try.prog w = .ok (.enter g args) w) (hp : PredB g lb p w) :
    Calls Try.prog 35 #[.slice A0 l0.length c0, .func (.func g) #[] lb] w fun e w' => e = .returned (.int .i64 (fst p l0)) ∧ Below w.heap.size w w' := by
  have HR := Lib.hid hr0
  have HP := Lib.hid hp
  have HL := Lib.hid hl
  clear hr0 hp hl
  have hu27 := Try.underlying40
  go_enter Try.func35, Try.ntmps35
  go_wp2
  go_loopg [5, 8] l0.length (fun gg _ s8 wr => ∃ kk : Nat, kk ≤ l0.length ∧ l0.length - kk ≤ gg ∧ s8 = .int .i64 kk ∧ Hid (Below w.heap.size w wr) ∧ Hid (∀ j : Nat, j < kk → p (rd_T40 l0 j) = false))
  case atStart => exact ⟨0, Nat.zero_le _, by omega, by simp, Lib.hid (Below.refl _ w), Lib.hid (fun j hj => absurd hj (Nat.not_lt_zero _))⟩
  case round =>
    obtain ⟨kk, hkk, hg, rfl, HB, HN⟩ := hrel
    have HW : Hid (IntKind.i64.wrap ((kk : Int) + 1) = kk + 1 ∨ ¬ kk < l0.length) := Lib.hid (by
      have h3 := HL.out
      by_cases h : kk < l0.length
      · exact .inl (IntWalk.i64_in _ (by omega))
      · exact .inr h)
    by_cases hlt : kk < l0.length
    · have hltz : decide ((kk : Int) < (l0.length : Int)) = true := decide_eq_true (by omega)
      have hw2 := HW.out.resolve_right (fun h => h hlt)
      clear HW
      obtain ⟨ad, rfl, h0, h1⟩ := at_T40 HR.out kk (by omega) (by omega)
      simp only [Int.toNat_natCast] at h0 h1
      replace h0 := (HB.out.cell (World.block_lt_of_cell? w _ h0)).trans h0
      replace h1 := (HB.out.cell (World.block_lt_of_cell? w _ h1)).trans h1
      have HC := Lib.hid (fun W hW => HP.out W (rd_T40 l0 kk) hW)
      have hq0 : (0 ≤ (kk : Int)) = True := eq_true (by omega)
      have hq1 : ((kk : Int) < (l0.length : Int)) = True := eq_true (by omega)
      cases hpx : p (rd_T40 l0 kk) with
      | true =>
        have HX := Lib.hid hpx
        have HC2 : Hid (∀ W, Below w.heap.size w W → Calls Try.prog g (#[opn (rd_T40 l0 kk)] ++ lb) W fun e w' => e = .returned (.bool true) ∧ Below w.heap.size w w') := Lib.hid (fun W hW => by have := HC.out W hW; rw [HX.out] at this; exact this)
        clear hpx
        go_wp2_with fail
        refine (HC2.out _ HB.out).mono ?_; rintro e w1 ⟨rfl, hb1⟩; have HB1 := Lib.hid hb1; clear hb1
        dsimp only
        go_wp2
        go_ret
        refine ⟨?_, HB1.out⟩
        have e : l0.findIdx? p = some kk := by
          rw [List.findIdx?_eq_some_iff_getElem]
          refine ⟨hlt, ?_, fun j hj => ?_⟩
          · have := HX.out; unfold rd_T40 at this; simpa [List.getD, hlt] using this
          · have h := HN.out j hj
            have hj2 : j < l0.length := by omega
            unfold rd_T40 at h; simp only [Int.toNat_natCast, List.getD, List.getElem?_eq_getElem hj2, Option.getD_some] at h
            simp [h]
        unfold fst; rw [e]; rfl
      | false =>
        have HX := Lib.hid hpx
        have HC2 : Hid (∀ W, Below w.heap.size w W → Calls Try.prog g (#[opn (rd_T40 l0 kk)] ++ lb) W fun e w' => e = .returned (.bool false) ∧ Below w.heap.size w w') := Lib.hid (fun W hW => by have := HC.out W hW; rw [HX.out] at this; exact this)
        clear hpx
        go_wp2_with fail
        refine (HC2.out _ HB.out).mono ?_; rintro e w1 ⟨rfl, hb1⟩; have HB1 := Lib.hid hb1; clear hb1
        dsimp only
        go_wp2
        go_roundg (l0.length - (kk + 1))
        case measure => omega
        case rel =>
          refine ⟨kk + 1, by omega, by omega, by simp, HB1, Lib.hid (fun j hj => ?_)⟩
          by_cases hjk : j = kk
          · subst hjk; exact HX.out
          · exact HN.out j (by omega)
    · have hltz : decide ((kk : Int) < (l0.length : Int)) = false := decide_eq_false (by omega)
      have hk : kk = l0.length := by omega
      go_wp2
      go_ret
      refine ⟨?_, HB.out⟩
      have e : l0.findIdx? p = none := by
        rw [List.findIdx?_eq_none_iff]
        intro x hx
        obtain ⟨j, hj, rfl⟩ := List.getElem_of_mem hx
        have h := HN.out j (by omega)
        unfold rd_T40 at h; simpa [List.getD, hj] using h
      unfold fst; rw [e]; rfl

set_option maxHeartbeats 2000000 in
theorem clone_calls (A0 : Option Addr) (c0 : Nat) (l0 : List S40) (w : World) (hr0 : Kd.C k40 w A0 l0.length l0) (hl : l0.length ≤ 100) :
    Calls Try.prog 30 #[.slice A0 l0.length c0] w fun e w' => ∃ v, e = .returned v ∧ Kd.R k40 40 w' w.heap.size (fun _ => True) v l0 ∧ Below w.heap.size w w' := by
  have q22 : ∀ (w : World) (a : Option Addr) (n c n' c' : Nat), (binOp .eql 23 (.slice a n c) (.slice none n' c')).run Try.prog w = .ok (.bool a.isNone) w := fun w a n c n' c' => Lib.run_eql_slice_nil w _ _ a n c n' c' Try.underlying23
  have hu27 := Try.underlying40
  have HR := Lib.hid hr0
  have HL := Lib.hid hl
  clear hr0 hl
  cases A0 with
  | none =>
    have h0 : l0 = [] := by
      rcases Nat.eq_zero_or_pos l0.length with h | h
      · exact List.length_eq_zero_iff.1 h
      · obtain ⟨ad, h, _⟩ := HR.out.2.2 h
        cases h
    subst h0
    go_enter Try.func30, Try.ntmps30
    go_wp2
    go_ret
    exact ⟨_, rfl, Kd.R_nil _ _ _ _ _, Below.refl _ _⟩
  | some ad =>
    go_enter Try.func30, Try.ntmps30
    go_wp2_with ((with_reducible refine gate_builtin (b := .append) (xs := #[.tmp 5, .tmp 6]) rfl ?_); at_builtin; refine Kd.R_append_rows k40 (w0 := w) w.heap.size rfl (.tmp 5) (.tmp 6) 23 40 (.agg #[(.int .u32 0), (.int .u32 0)]) 8 rfl Try.underlying23 inf40 rfl (by decide) (by omega) (.slice (some ⟨w.heap.size, 0, none⟩) 0 0) ([] : List S40) l0 (some ad) _ _ (fun _ => True) (fun _ => False) rfl rfl ?aO ?aR (fun _ _ h => h) (fun _ h => h.elim) (fun _ _ => trivial) ?aB ?aS ?aL ?_)
    case aO => exact ⟨fun _ _ => trivial, [], World.ownsRow_made w #[] 0 (Nat.le_refl _) (Nat.zero_le _) (by simp), Reps.none _ _⟩
    case aR => exact Kd.C_below HR.out (boxed w _)
    case aB => exact boxed w _
    case aS => simp
    case aL => have := HL.out; simp; omega
    intro v1 w1 ho hb hg hat
    go_wp2
    go_ret
    exact ⟨_, rfl, by simpa using ho, hb⟩
/-- a predicate's function that leaves all as it was, from w on -/
def PredF (g : Nat) (lb : Array Value) (p : S40 → Bool) (w : World) : Prop :=
  ∀ (W : World) (x : S40), Below w.heap.size w W → Calls Try.prog g (#[opn x] ++ lb) W fun e w' => e = .returned (.bool (p x)) ∧ Below W.heap.size W w'
theorem PredF.on {g : Nat} {lb : Array Value} {p : S40 → Bool} {w w1 : World} (h : PredF g lb p w) (hb : Below w.heap.size w w1) : PredF g lb p w1 :=
  fun W x hW => h W x (hb.trans (hW.mono hb.size))
theorem PredF.pred {g : Nat} {lb : Array Value} {p : S40 → Bool} {w : World} (h : PredF g lb p w) : PredB g lb p w :=
  fun W x hW => (h W x hW).mono fun e w' ⟨he, hb⟩ => ⟨he, hW.trans (hb.mono hW.size)⟩

/-- clear on a run of opens -/
theorem run_clear2 (w : World) (ty : TypeId) (b o n c : Nat) (hn : 0 < n) (hc : ∀ j, j < n * 2 → (w.cell? ⟨b, o + j, none⟩).isSome = true) (hf : ∀ j, j < n * 2 → w.frozen? ⟨b, o + j, none⟩ = false) :
    ∃ L : List Value, L.length = n * 2 ∧ (Builtin.clear_ #[23] ty #[.slice (some ⟨b, o, none⟩) n c]).run Try.prog w = .ok (.tuple #[]) (w.setCells b o L) := by
  have hv : ∀ w, (zeroValue 40).run Try.prog w = .ok (.agg #[.int .u32 0, .int .u32 0]) w := fun w => Try.zeroValue40 w
  refine ⟨(Builtin.zeroCells (Value.agg #[.int .u32 0, .int .u32 0]).cells n).toList, by simp [Builtin.zeroCells, Value.cells], ?_⟩
  have hst := run_storeCells_cells (P := Try.prog) b o (Builtin.zeroCells (Value.agg #[.int .u32 0, .int .u32 0]).cells n).toList 0 w (by simpa [Builtin.zeroCells, Value.cells] using hc) (by simpa [Builtin.zeroCells, Value.cells] using hf) (by
    intro v hv'
    simp only [Builtin.zeroCells, Array.toList_map, List.mem_map] at hv'
    obtain ⟨i, hi, rfl⟩ := hv'
    simp only [Value.cells]
    have : i % 2 < 2 := Nat.mod_lt _ (by omega)
    show (#[Value.int .u32 0, .int .u32 0][i % 2]!).oneCell' = true
    generalize i % 2 = q at this
    match q, this with
    | 0, _ => rfl
    | 1, _ => rfl
    | 2, _ => rfl
    | 3, _ => rfl
    | 4, _ => rfl)
  simp only [Nat.add_zero] at hst
  obtain ⟨m, rfl⟩ : ∃ m, n = m + 1 := ⟨n - 1, by omega⟩
  have ht : Try.prog.underlying 23 = some (.slice 40) := Try.underlying23
  simp [Builtin.clear_, run_underlying ht, hv, hst]
theorem stop_here {p : Prop} (h : Hid p) : p := h.out
theorem R_own {w : World} {base : Nat} {ok : Nat → Prop} {g n cap : Nat} {xs : List S40} (h : Kd.R k40 40 w base ok (.slice (some ⟨g, 0, none⟩) n cap) xs) :
    ∃ cur : Array Value, w.heap[g]? = some (.cells cur 40 (0, 0)) ∧ n = xs.length ∧ n ≤ cap ∧ cur.size = cap * 2 ∧ base ≤ g := by
  obtain ⟨h0, inner, ⟨hl, hown⟩, hr⟩ := h
  rcases hown with ⟨hv, _⟩ | ⟨g', cap', cur, hv, hb, hh, hnc, hcm, hcs, htake⟩
  · cases hv
  · injection hv with ha hn hc
    injection ha with ha
    injection ha with hg
    subst hg hc hn
    exact ⟨cur, hh, rfl, hnc, hcs, hb⟩
theorem R_past1 {w : World} {base : Nat} {ok : Nat → Prop} {g i cap : Nat} {xs : List S40} (h : Kd.R k40 40 w base ok (.slice (some ⟨g, 0, none⟩) i cap) xs) (o : Nat) (u : Value) (ho : i * 2 ≤ o) :
    Kd.R k40 40 (w.setCell ⟨g, o, none⟩ u) base ok (.slice (some ⟨g, 0, none⟩) i cap) xs := by
  obtain ⟨h0, inner, ⟨hl, hown⟩, hr⟩ := h
  rcases hown with ⟨hv, _⟩ | ⟨g', cap', cur, hv, hb, hh, hnc, hcm, hcs, htake⟩
  · cases hv
  · injection hv with ha hn hc
    injection ha with ha
    injection ha with hg
    subst hg hc hn
    refine ⟨h0, inner, ⟨hl, .inr ⟨g, cap, cur.setIfInBounds o u, rfl, hb, set_at hh o u, hnc, hcm, by simpa using hcs, ?_⟩⟩, hr.imp_ (fun x cs hp => by have := k40_openM hp; subst this; exact k40_mkM _ _ _ _)⟩
    rw [← htake, Array.toList_setIfInBounds]
    exact List.take_set_of_le ho
theorem R_past {base : Nat} {ok : Nat → Prop} {g i cap : Nat} {xs : List S40} : ∀ (vs : List Value) (w : World) (o : Nat), Kd.R k40 40 w base ok (.slice (some ⟨g, 0, none⟩) i cap) xs → i * 2 ≤ o →
    Kd.R k40 40 (w.setCells g o vs) base ok (.slice (some ⟨g, 0, none⟩) i cap) xs
  | [], _, _, h, _ => h
  | v :: r, w, o, h, ho => by
    rw [World.setCells]
    exact R_past r _ (o + 1) (R_past1 h o v ho) (by omega)
theorem below_past {B g : Nat} {w0 : World} (hg : B ≤ g) : ∀ (vs : List Value) (w : World) (o : Nat), Below B w0 w → Below B w0 (w.setCells g o vs)
  | [], _, _, h => h
  | v :: r, w, o, h => by
    rw [World.setCells]
    exact below_past hg r _ (o + 1) (h.setCell hg _)

/-- what the list holds along the way -/
def Kept (l : List S40) (q : S40 → Bool) (j i : Nat) (m : List S40) : Prop :=
  m.length = l.length ∧ i < j ∧ i = ((l.take j).filter q).length ∧ m.take i = (l.take j).filter q ∧ ∀ t, j ≤ t → m[t]? = l[t]?
theorem Kept.rd {l : List S40} {q : S40 → Bool} {j i : Nat} {m : List S40} (h : Kept l q j i m) : rd_T40 m j = rd_T40 l j := by
  unfold rd_T40; simp only [Int.toNat_natCast, List.getD]; rw [h.2.2.2.2 j (Nat.le_refl _)]
theorem take_snoc (l : List S40) (j : Nat) (hj : j < l.length) : l.take (j + 1) = l.take j ++ [rd_T40 l j] := by
  unfold rd_T40; rw [List.take_succ_eq_append_getElem hj]; simp [List.getD, hj]
theorem Kept.keep {l : List S40} {q : S40 → Bool} {j i : Nat} {m : List S40} (h : Kept l q j i m) (hj : j < l.length) (hq : q (rd_T40 l j) = true) : Kept l q (j + 1) (i + 1) (m.set i (rd_T40 l j)) := by
  obtain ⟨h1, h2, h3, h4, h5⟩ := h
  have e : (l.take (j + 1)).filter q = (l.take j).filter q ++ [rd_T40 l j] := by rw [take_snoc l j hj, List.filter_append]; simp [hq]
  refine ⟨by simpa using h1, by omega, by rw [e]; simp; omega, ?_, fun t ht => ?_⟩
  · rw [e, ← h4, List.take_succ_eq_append_getElem (by simp; omega)]
    simp [List.take_set_of_le]
  · rw [List.getElem?_set_ne (by omega)]; exact h5 t (by omega)
theorem Kept.skip {l : List S40} {q : S40 → Bool} {j i : Nat} {m : List S40} (h : Kept l q j i m) (hj : j < l.length) (hq : q (rd_T40 l j) = false) : Kept l q (j + 1) i m := by
  obtain ⟨h1, h2, h3, h4, h5⟩ := h
  have e : (l.take (j + 1)).filter q = (l.take j).filter q := by rw [take_snoc l j hj, List.filter_append]; simp [hq]
  exact ⟨h1, by omega, by rw [e]; exact h3, by rw [e]; exact h4, fun t ht => h5 t (by omega)⟩
theorem Kept.start {l : List S40} {q : S40 → Bool} {k : Nat} (hk : k < l.length) (hq : q (rd_T40 l k) = false) (hall : ∀ x ∈ l.take k, q x = true) : Kept l q (k + 1) k l := by
  have e : (l.take (k + 1)).filter q = l.take k := by
    rw [take_snoc l k hk, List.filter_append, List.filter_eq_self.2 hall]; simp [hq]
  exact ⟨rfl, by omega, by rw [e]; simp; omega, by rw [e], fun _ _ => rfl⟩

set_option maxHeartbeats 4000000 in
theorem delete_calls (W0 w : World) (v : Value) (l : List S40) (g : Nat) (lb : Array Value) (p : S40 → Bool) (hb : Below W0.heap.size W0 w) (HO : Kd.R k40 40 w W0.heap.size (fun _ => True) v l) (hl : l.length ≤ 100)
    (eg : ∀ args w, (callFunc g args).run Try.prog w = .ok (.enter g args) w) (hp : PredF g lb p W0) :
    Calls Try.prog 31 #[v, .func (.func g) #[] lb] w fun e w' => ∃ v', e = .returned v' ∧ Kd.R k40 40 w' W0.heap.size (fun _ => True) v' (l.filter (fun x => !p x)) ∧ Below W0.heap.size W0 w' := by
  have HB := Lib.hid hb
  have HR := Lib.hid HO
  have HL := Lib.hid hl
  have HP := Lib.hid hp
  have hu27 := Try.underlying40
  obtain ⟨A, c, rfl⟩ := Kd.R_slice HO
  have HI := Lib.hid (index_calls A c l g lb p w (Kd.R_reads' HO).2.2 (by omega) eg (hp.on hb).pred)
  clear hb HO hl hp
  cases hf : l.findIdx? p with
  | none =>
    have e : fst p l = -1 := by unfold fst; rw [hf]
    rw [e] at HI
    rw [List.findIdx?_eq_none_iff] at hf
    have e2 : l.filter (fun x => !p x) = l := List.filter_eq_self.2 (fun x hx => by rw [hf x hx]; rfl)
    rw [e2]
    clear hf e e2
    go_enter Try.func31, Try.ntmps31
    go_wp2_with (go_at_call 35; refine HI.out.mono ?_; rintro e w1 ⟨rfl, hb1⟩; have HB1 := Lib.hid hb1; clear hb1)
    go_ret
    exact ⟨_, rfl, Kd.R_below HR.out HB1.out, HB.out.trans (HB1.out.mono HB.out.size)⟩
  | some k0 =>
    have e : fst p l = k0 := by unfold fst; rw [hf]
    rw [e] at HI
    rw [List.findIdx?_eq_some_iff_getElem] at hf
    obtain ⟨hk0, hk1, hk2⟩ := hf
    have HS := Lib.hid (show Kept l (fun x => !p x) (k0 + 1) k0 l from Kept.start hk0 (by unfold rd_T40; simp [List.getD, hk0, hk1]) (fun x hx => by
      obtain ⟨t, ht, rfl⟩ := List.getElem_of_mem hx
      simp only [List.length_take] at ht
      have := hk2 t (by omega)
      simpa using this))
    obtain ⟨g0, rfl⟩ : ∃ g0, A = some ⟨g0, 0, none⟩ := by
      obtain ⟨h0, inner, ⟨hl, hown⟩, hr⟩ := HR.out
      rcases hown with ⟨hv, hn⟩ | ⟨g', cap', cur, hv, _⟩
      · omega
      · injection hv with ha hn hc
        exact ⟨g', ha⟩
    have hne1 : ((k0 : Int) == -1) = false := beq_eq_false_iff_ne.2 (by omega)
    have hwk : IntKind.i64.wrap ((k0 : Int) + 1) = k0 + 1 := IntWalk.i64_in _ (by have := HL.out; omega)
    clear hk1 hk2 e
    have HK0 := Lib.hid hk0
    clear hk0
    go_enter Try.func31, Try.ntmps31
    go_wp2_with (go_at_call 35; refine HI.out.mono ?_; rintro e w1 ⟨rfl, hb1⟩; have HB1 := Lib.hid hb1; clear hb1)
    go_loopg [5, 6] l.length (fun gg s5 s6 wr => ∃ (i j : Nat) (m : List S40), s5 = .int .i64 i ∧ s6 = .int .i64 j ∧ j ≤ l.length ∧ l.length - j ≤ gg ∧ Hid (Kd.R k40 40 wr W0.heap.size (fun _ => True) (.slice (some ⟨g0, 0, none⟩) l.length c) m) ∧ Hid (Kept l (fun x => !p x) j i m) ∧ Hid (Below W0.heap.size W0 wr))
    case atStart => exact ⟨k0, k0 + 1, l, by simp, by simp, HK0.out, by omega, Lib.hid (Kd.R_below HR.out HB1.out), HS, Lib.hid (HB.out.trans (HB1.out.mono HB.out.size))⟩
    case round =>
      obtain ⟨i, j, m, rfl, rfl, hjl, hgg, HM, HKI, HBW⟩ := hrel
      by_cases hlt : j < l.length
      · have hltz : decide ((j : Int) < (l.length : Int)) = true := decide_eq_true (by omega)
        have HLM := Lib.hid HKI.out.1
        have HRD := Lib.hid HKI.out.rd
        obtain ⟨ad, e', h0, h1⟩ := at_T40 (Kd.R_reads' HM.out).2.2 j (by omega) (by have := HLM.out; omega)
        cases e'
        rw [HRD.out] at h0 h1
        simp only [Int.toNat_natCast, Addr.add_lit, Nat.zero_add] at h0 h1
        have hq0 : (0 ≤ (j : Int)) = True := eq_true (by omega)
        have hq1 : ((j : Int) < (l.length : Int)) = True := eq_true (by omega)
        have hw2 : IntKind.i64.wrap ((j : Int) + 1) = j + 1 := IntWalk.i64_in _ (by have := HL.out; omega)
        have HIJ := Lib.hid HKI.out.2.1
        have hw3 : IntKind.i64.wrap ((i : Int) + 1) = i + 1 := IntWalk.i64_in _ (by have := HL.out; have := HIJ.out; omega)
        have hq2 : (0 ≤ (i : Int)) = True := eq_true (by omega)
        have hq3 : ((i : Int) < (l.length : Int)) = True := eq_true (by have := HIJ.out; omega)
        have HC := Lib.hid (fun W hW => HP.out W (rd_T40 l j) hW)
        cases hpx : p (rd_T40 l j) with
        | true =>
          have HX := Lib.hid hpx
          have HC2 : Hid (∀ W, Below W0.heap.size W0 W → Calls Try.prog g (#[opn (rd_T40 l j)] ++ lb) W fun e w' => e = .returned (.bool true) ∧ Below W.heap.size W w') := Lib.hid (fun W hW => by have := HC.out W hW; rw [HX.out] at this; exact this)
          clear hpx
          go_wp2_with fail
          refine (HC2.out _ (HBW.out.alloc HBW.out.size _)).mono ?_; rintro e w2 ⟨rfl, hb2⟩; have HB2 := Lib.hid hb2; clear hb2
          have HM2 := Lib.hid (Kd.R_below HM.out ((boxed wr _).trans (HB2.out.mono (by simp))))
          have HBW2 := Lib.hid ((HBW.out.alloc HBW.out.size (.cells (cellsOf (rd_T40 l j)) 40)).trans (HB2.out.mono (by have := HBW.out.size; simp; omega)))
          dsimp only
          go_wp2
          go_roundg (l.length - (j + 1))
          case measure => omega
          case rel => exact ⟨i, j + 1, m, by simp, by simp, by omega, by omega, HM2, Lib.hid (HKI.out.skip hlt (by rw [HX.out]; rfl)), HBW2⟩
        | false =>
          have HX := Lib.hid hpx
          have HC2 : Hid (∀ W, Below W0.heap.size W0 W → Calls Try.prog g (#[opn (rd_T40 l j)] ++ lb) W fun e w' => e = .returned (.bool false) ∧ Below W.heap.size W w') := Lib.hid (fun W hW => by have := HC.out W hW; rw [HX.out] at this; exact this)
          clear hpx
          go_wp2_with fail
          refine (HC2.out _ (HBW.out.alloc HBW.out.size _)).mono ?_; rintro e w2 ⟨rfl, hb2⟩; have HB2 := Lib.hid hb2; clear hb2
          have HK2 := Lib.hid (below_old (alloc_at wr (.cells (cellsOf (rd_T40 l j)) 40)) HB2.out)
          have HM2 := Lib.hid (Kd.R_below HM.out ((boxed wr _).trans (HB2.out.mono (by simp))))
          have c2 := blk2 HK2.out
          have HBW2 := Lib.hid ((HBW.out.alloc HBW.out.size (.cells (cellsOf (rd_T40 l j)) 40)).trans (HB2.out.mono (by have := HBW.out.size; simp; omega)))
          obtain ⟨ad, cs, e', hcl, hK, hcc⟩ := Kd.C_get (Kd.R_reads' HM2.out).2.2 z40 (i : Int) (by omega) (by have := HLM.out; have := HIJ.out; omega)
          cases e'
          have HCC := Lib.hid hcc
          have HCL := Lib.hid hcl
          clear hcc hcl hK
          dsimp only
          go_wp2_with ((with_reducible refine gate_ (.store 40 (.tmp 33) (.tmp 32)) rfl ?_); refine stop_here ?_)
          refine Lib.hid ?_
          refine Kd.R_store k40 (w0 := W0) W0.heap.size rfl rfl 40 (.tmp 33) (.tmp 32) rfl 40 (i : Int) 0 m (rd_T40 l j) (opn (rd_T40 l j)) [.int .u32 (rd_T40 l j).f0, .int .u32 (rd_T40 l j).f1] cs (fun _ => True) (fun _ => False) rfl (by simp; rfl) rfl rfl ?ht ?h1 HM2.out ?h0 ?hi HCL.out ?hcc (Nat.le_of_eq rfl) ?hM (fun _ h => h.elim) HBW2.out ?_
          case ht => exact (by
            obtain ⟨i0, h1, h2⟩ := Option.map_eq_some_iff.1 inf40
            simp only [Prod.mk.injEq] at h2
            rw [h1]; simp [h2.2.1])
          case h1 =>
            intro q hq
            simp only [List.mem_cons, List.not_mem_nil, or_false] at hq
            rcases hq with rfl | rfl <;> rfl
          case h0 => omega
          case hi => have := HIJ.out; omega
          case hcc =>
            intro t u h
            have := HCC.out t u h
            rw [Addr.add_lit, Nat.zero_add] at this
            exact this
          case hM =>
            have e : cs.drop 2 = [] := List.drop_eq_nil_of_le (by rw [HCL.out]; decide)
            simp only [List.take_zero, List.nil_append, Nat.zero_add, List.length_cons, List.length_nil]
            rw [e, List.append_nil]
            exact k40_mkM _ _ _ _
          intro w3 ho3 hb3 hg3
          have HM3 := Lib.hid ho3
          have HB3 := Lib.hid hb3
          clear ho3 hb3 hg3
          clear c2
          go_wp2
          go_roundg (l.length - (j + 1))
          case measure => omega
          case rel => exact ⟨i + 1, j + 1, m.set i (rd_T40 l j), by simp, by simp, by omega, by omega, HM3, Lib.hid (HKI.out.keep hlt (by rw [HX.out]; rfl)), HB3⟩
      · have hltz : decide ((j : Int) < (l.length : Int)) = false := decide_eq_false (by omega)
        have HLM := Lib.hid HKI.out.1
        have HIJ := Lib.hid HKI.out.2.1
        obtain ⟨cur, hh, hn, hnc, hcs, hbg⟩ := R_own HM.out
        have hq2 : (0 ≤ (i : Int)) = True := eq_true (by omega)
        have hq3 : ((i : Int) ≤ (l.length : Int)) = True := eq_true (by have := HIJ.out; omega)
        have hq4 : (i ≤ l.length) = True := eq_true (by have := HIJ.out; omega)
        have hq5 : ((l.length : Int) ≤ (c : Int)) = True := eq_true (by omega)
        have hq6 : (l.length ≤ c) = True := eq_true hnc
        have hq7 : ((i : Int) ≤ (c : Int)) = True := eq_true (by have := HIJ.out; omega)
        have hq8 : (i ≤ c) = True := eq_true (by have := HIJ.out; omega)
        have hq9 : (c = i) = False := eq_false (by have := HIJ.out; omega)
        have hq10 : (i = c) = False := eq_false (by have := HIJ.out; omega)
        have hbd : i * 2 + (l.length - i) * 2 ≤ c * 2 := by have := HIJ.out; omega
        obtain ⟨L, hL, hrun⟩ := run_clear2 wr 0 g0 (i * 2) (l.length - i) (c - i) (by have := HIJ.out; omega) (fun t ht => by rw [cell_at hh]; simp; omega) (fun t ht => free_at hh _)
        have HH := Lib.hid hh
        have HBG := Lib.hid hbg
        clear hh hn hnc hcs hbg hbd
        have HFIN := Lib.hid (show Kd.R k40 40 (wr.setCells g0 (i * 2) L) W0.heap.size (fun _ => True) (.slice (some ⟨g0, 0, none⟩) i c) (l.filter (fun x => !p x)) by
          have h := R_past L wr (i * 2) (Kd.R_take (m := i) HM.out (by have := HLM.out; have := HIJ.out; omega)) (Nat.le_refl _)
          have e : m.take i = l.filter (fun x => !p x) := by
            have := HKI.out.2.2.2.1
            rwa [List.take_of_length_le (show l.length ≤ j by omega)] at this
          rwa [e] at h)
        go_wp2
        go_ret
        exact ⟨_, rfl, HFIN.out, below_past HBG.out L wr _ HBW.out⟩
end Go.Proofs.Ytkcacfnefhakbaa.HoldL

namespace Go.Proofs.Ytkcacfnefhakbaa.P12
open Go.RowKit Go.Shelf Go.Proofs.Ytkcacfnefhakbaa.HoldL Go.Proofs.YtkcacfnefhakbaaW.PrintWords Go.Proofs.YtkcacfnefhakbaaW.PrintLast Go.Proofs.YtkcacfnefhakbaaW.PrintMore
set_option linter.unusedVariables false

def api_Holder.f (l0 : List S40) : Option (List S40) := if l0.length ≤ 100 then some l0 else none
theorem api_Holder.calls (A0 : Option Addr) (c0 : Nat) (l0 : List S40) (r : List S40) (w : World) (hr0 : Kd.C k40 w A0 l0.length l0) (hc0 : l0.length ≤ c0) (h : api_Holder.f l0 = some r) :
    Calls Try.prog 30 #[.slice A0 l0.length c0] w fun e w' => ∃ v0_ : Value, e = .returned v0_ ∧ Kd.R k40 40 w' w.heap.size (fun _ => True) v0_ r ∧ Below w.heap.size w w' := by
  unfold api_Holder.f at h
  split at h
  · rename_i hl
    obtain rfl := Option.some.inj h
    exact clone_calls A0 c0 l0 w hr0 hl
  · cases h
end Go.Proofs.Ytkcacfnefhakbaa.P12
