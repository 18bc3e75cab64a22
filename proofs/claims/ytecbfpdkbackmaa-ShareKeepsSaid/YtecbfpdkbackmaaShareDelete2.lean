/- Layer share: slices.DeleteFunc on a list of the call's own: the walk. -/
import Derived.Test.YtecbfpdkbackmaaShareDelete
namespace Go.Proofs.Ytecbfpdkbackmaa.Share
open Go.RowKit Go.Shelf Go.Blk Go.Proofs.Ytecbfpdkbackmaa.P11 Go.Proofs.YtecbfpdkbackmaaW.PrintWords Go.Proofs.YtecbfpdkbackmaaW.PrintLast Go.Proofs.YtecbfpdkbackmaaW.PrintMore
set_option linter.unusedVariables false
set_option linter.unusedSimpArgs false

theorem stop_here {p : Prop} (h : Hid p) : p := h.out
theorem R_own {w : World} {base : Nat} {ok : Nat → Prop} {g n cap : Nat} {xs : List S27} (h : Kd.R k27 27 w base ok (.slice (some ⟨g, 0, none⟩) n cap) xs) :
    ∃ cur : Array Value, w.heap[g]? = some (.cells cur 27 (0, 0)) ∧ n = xs.length ∧ n ≤ cap ∧ cur.size = cap * 5 ∧ base ≤ g := by
  obtain ⟨h0, inner, ⟨hl, hown⟩, hr⟩ := h
  rcases hown with ⟨hv, _⟩ | ⟨g', cap', cur, hv, hb, hh, hnc, hcm, hcs, htake⟩
  · cases hv
  · injection hv with ha hn hc
    injection ha with ha
    injection ha with hg
    subst hg hc hn
    exact ⟨cur, hh, rfl, hnc, hcs, hb⟩
theorem R_past1 {w : World} {base : Nat} {ok : Nat → Prop} {g i cap : Nat} {xs : List S27} (h : Kd.R k27 27 w base ok (.slice (some ⟨g, 0, none⟩) i cap) xs) (o : Nat) (u : Value) (ho : i * 5 ≤ o) :
    Kd.R k27 27 (w.setCell ⟨g, o, none⟩ u) base ok (.slice (some ⟨g, 0, none⟩) i cap) xs := by
  obtain ⟨h0, inner, ⟨hl, hown⟩, hr⟩ := h
  rcases hown with ⟨hv, _⟩ | ⟨g', cap', cur, hv, hb, hh, hnc, hcm, hcs, htake⟩
  · cases hv
  · injection hv with ha hn hc
    injection ha with ha
    injection ha with hg
    subst hg hc hn
    refine ⟨h0, inner, ⟨hl, .inr ⟨g, cap, cur.setIfInBounds o u, rfl, hb, set_at hh o u, hnc, hcm, by simpa using hcs, ?_⟩⟩, hr.imp_ (fun x cs hp => by have := k27_openM hp; subst this; exact k27_mkM _ _ _ _)⟩
    rw [← htake, Array.toList_setIfInBounds]
    exact List.take_set_of_le ho
theorem R_past {base : Nat} {ok : Nat → Prop} {g i cap : Nat} {xs : List S27} : ∀ (vs : List Value) (w : World) (o : Nat), Kd.R k27 27 w base ok (.slice (some ⟨g, 0, none⟩) i cap) xs → i * 5 ≤ o →
    Kd.R k27 27 (w.setCells g o vs) base ok (.slice (some ⟨g, 0, none⟩) i cap) xs
  | [], _, _, h, _ => h
  | v :: r, w, o, h, ho => by
    rw [World.setCells]
    exact R_past r _ (o + 1) (R_past1 h o v ho) (by omega)
theorem below_past {B g : Nat} {w0 : World} (hg : B ≤ g) : ∀ (vs : List Value) (w : World) (o : Nat), Below B w0 w → Below B w0 (w.setCells g o vs)
  | [], _, _, h => h
  | v :: r, w, o, h => by
    rw [World.setCells]
    exact below_past hg r _ (o + 1) (h.setCell hg _)

/-- what the list holds along the way -/
def Kept (l : List S27) (q : S27 → Bool) (j i : Nat) (m : List S27) : Prop :=
  m.length = l.length ∧ i < j ∧ i = ((l.take j).filter q).length ∧ m.take i = (l.take j).filter q ∧ ∀ t, j ≤ t → m[t]? = l[t]?
theorem Kept.rd {l : List S27} {q : S27 → Bool} {j i : Nat} {m : List S27} (h : Kept l q j i m) : rd_T27 m j = rd_T27 l j := by
  unfold rd_T27; simp only [Int.toNat_natCast, List.getD]; rw [h.2.2.2.2 j (Nat.le_refl _)]
theorem take_snoc (l : List S27) (j : Nat) (hj : j < l.length) : l.take (j + 1) = l.take j ++ [rd_T27 l j] := by
  unfold rd_T27; rw [List.take_succ_eq_append_getElem hj]; simp [List.getD, hj]
theorem Kept.keep {l : List S27} {q : S27 → Bool} {j i : Nat} {m : List S27} (h : Kept l q j i m) (hj : j < l.length) (hq : q (rd_T27 l j) = true) : Kept l q (j + 1) (i + 1) (m.set i (rd_T27 l j)) := by
  obtain ⟨h1, h2, h3, h4, h5⟩ := h
  have e : (l.take (j + 1)).filter q = (l.take j).filter q ++ [rd_T27 l j] := by rw [take_snoc l j hj, List.filter_append]; simp [hq]
  refine ⟨by simpa using h1, by omega, by rw [e]; simp; omega, ?_, fun t ht => ?_⟩
  · rw [e, ← h4, List.take_succ_eq_append_getElem (by simp; omega)]
    simp [List.take_set_of_le]
  · rw [List.getElem?_set_ne (by omega)]; exact h5 t (by omega)
theorem Kept.skip {l : List S27} {q : S27 → Bool} {j i : Nat} {m : List S27} (h : Kept l q j i m) (hj : j < l.length) (hq : q (rd_T27 l j) = false) : Kept l q (j + 1) i m := by
  obtain ⟨h1, h2, h3, h4, h5⟩ := h
  have e : (l.take (j + 1)).filter q = (l.take j).filter q := by rw [take_snoc l j hj, List.filter_append]; simp [hq]
  exact ⟨h1, by omega, by rw [e]; exact h3, by rw [e]; exact h4, fun t ht => h5 t (by omega)⟩
theorem Kept.start {l : List S27} {q : S27 → Bool} {k : Nat} (hk : k < l.length) (hq : q (rd_T27 l k) = false) (hall : ∀ x ∈ l.take k, q x = true) : Kept l q (k + 1) k l := by
  have e : (l.take (k + 1)).filter q = l.take k := by
    rw [take_snoc l k hk, List.filter_append, List.filter_eq_self.2 hall]; simp [hq]
  exact ⟨rfl, by omega, by rw [e]; simp; omega, by rw [e], fun _ _ => rfl⟩

set_option maxHeartbeats 4000000 in
theorem delete_calls (W0 w : World) (v : Value) (l : List S27) (g : Nat) (lb : Array Value) (p : S27 → Bool) (hb : Below W0.heap.size W0 w) (HO : Kd.R k27 27 w W0.heap.size (fun _ => True) v l) (hl : l.length ≤ 100)
    (eg : ∀ args w, (callFunc g args).run Try.prog w = .ok (.enter g args) w) (hp : PredF g lb p W0) :
    Calls Try.prog 41 #[v, .func (.func g) #[] lb] w fun e w' => ∃ v', e = .returned v' ∧ Kd.R k27 27 w' W0.heap.size (fun _ => True) v' (l.filter (fun x => !p x)) ∧ Below W0.heap.size W0 w' := by
  have HB := Lib.hid hb
  have HR := Lib.hid HO
  have HL := Lib.hid hl
  have HP := Lib.hid hp
  have hu27 := Try.underlying27
  obtain ⟨A, c, rfl⟩ := Kd.R_slice HO
  have HI := Lib.hid (index_calls A c l g lb p w (Kd.R_reads' HO).2.2 (by omega) eg (hp.on hb).pred)
  clear hb HO hl hp
  cases hf : l.findIdx? p with
  | none =>
    have e : fst p l = -1 := by unfold fst; rw [hf]
    rw [e] at HI
    rw [List.findIdx?_eq_none_iff] at hf
    have e2 : l.filter (fun x => !p x) = l := List.filter_eq_self.2 (fun x hx => by rw [hf x hx]; rfl)
    rw [e2]
    clear hf e e2
    go_enter Try.func41, Try.ntmps41
    go_wp2_with (go_at_call 47; refine HI.out.mono ?_; rintro e w1 ⟨rfl, hb1⟩; have HB1 := Lib.hid hb1; clear hb1)
    go_ret
    exact ⟨_, rfl, Kd.R_below HR.out HB1.out, HB.out.trans (HB1.out.mono HB.out.size)⟩
  | some k0 =>
    have e : fst p l = k0 := by unfold fst; rw [hf]
    rw [e] at HI
    rw [List.findIdx?_eq_some_iff_getElem] at hf
    obtain ⟨hk0, hk1, hk2⟩ := hf
    have HS := Lib.hid (show Kept l (fun x => !p x) (k0 + 1) k0 l from Kept.start hk0 (by unfold rd_T27; simp [List.getD, hk0, hk1]) (fun x hx => by
      obtain ⟨t, ht, rfl⟩ := List.getElem_of_mem hx
      simp only [List.length_take] at ht
      have := hk2 t (by omega)
      simpa using this))
    obtain ⟨g0, rfl⟩ : ∃ g0, A = some ⟨g0, 0, none⟩ := by
      obtain ⟨h0, inner, ⟨hl, hown⟩, hr⟩ := HR.out
      rcases hown with ⟨hv, hn⟩ | ⟨g', cap', cur, hv, _⟩
      · omega
      · injection hv with ha hn hc
        exact ⟨g', ha⟩
    have hne1 : ((k0 : Int) == -1) = false := beq_eq_false_iff_ne.2 (by omega)
    have hwk : IntKind.i64.wrap ((k0 : Int) + 1) = k0 + 1 := IntWalk.i64_in _ (by have := HL.out; omega)
    clear hk1 hk2 e
    have HK0 := Lib.hid hk0
    clear hk0
    go_enter Try.func41, Try.ntmps41
    go_wp2_with (go_at_call 47; refine HI.out.mono ?_; rintro e w1 ⟨rfl, hb1⟩; have HB1 := Lib.hid hb1; clear hb1)
    go_loopg [5, 6] l.length (fun gg s5 s6 wr => ∃ (i j : Nat) (m : List S27), s5 = .int .i64 i ∧ s6 = .int .i64 j ∧ j ≤ l.length ∧ l.length - j ≤ gg ∧ Hid (Kd.R k27 27 wr W0.heap.size (fun _ => True) (.slice (some ⟨g0, 0, none⟩) l.length c) m) ∧ Hid (Kept l (fun x => !p x) j i m) ∧ Hid (Below W0.heap.size W0 wr))
    case atStart => exact ⟨k0, k0 + 1, l, by simp, by simp, HK0.out, by omega, Lib.hid (Kd.R_below HR.out HB1.out), HS, Lib.hid (HB.out.trans (HB1.out.mono HB.out.size))⟩
    case round =>
      obtain ⟨i, j, m, rfl, rfl, hjl, hgg, HM, HKI, HBW⟩ := hrel
      by_cases hlt : j < l.length
      · have hltz : decide ((j : Int) < (l.length : Int)) = true := decide_eq_true (by omega)
        have HLM := Lib.hid HKI.out.1
        have HRD := Lib.hid HKI.out.rd
        obtain ⟨ad, e', h0, h1, h2, h3, h4⟩ := at_T27 (Kd.R_reads' HM.out).2.2 j (by omega) (by have := HLM.out; omega)
        cases e'
        rw [HRD.out] at h0 h1 h2 h3 h4
        simp only [Int.toNat_natCast, Addr.add_lit, Nat.zero_add] at h0 h1 h2 h3 h4
        have hq0 : (0 ≤ (j : Int)) = True := eq_true (by omega)
        have hq1 : ((j : Int) < (l.length : Int)) = True := eq_true (by omega)
        have hw2 : IntKind.i64.wrap ((j : Int) + 1) = j + 1 := IntWalk.i64_in _ (by have := HL.out; omega)
        have HIJ := Lib.hid HKI.out.2.1
        have hw3 : IntKind.i64.wrap ((i : Int) + 1) = i + 1 := IntWalk.i64_in _ (by have := HL.out; have := HIJ.out; omega)
        have hq2 : (0 ≤ (i : Int)) = True := eq_true (by omega)
        have hq3 : ((i : Int) < (l.length : Int)) = True := eq_true (by have := HIJ.out; omega)
        have HC := Lib.hid (fun W hW => HP.out W (rd_T27 l j) hW)
        cases hpx : p (rd_T27 l j) with
        | true =>
          have HX := Lib.hid hpx
          have HC2 : Hid (∀ W, Below W0.heap.size W0 W → Calls Try.prog g (#[opn (rd_T27 l j)] ++ lb) W fun e w' => e = .returned (.bool true) ∧ Below W.heap.size W w') := Lib.hid (fun W hW => by have := HC.out W hW; rw [HX.out] at this; exact this)
          clear hpx
          go_wp2_with fail
          refine (HC2.out _ (HBW.out.alloc HBW.out.size _)).mono ?_; rintro e w2 ⟨rfl, hb2⟩; have HB2 := Lib.hid hb2; clear hb2
          have HM2 := Lib.hid (Kd.R_below HM.out ((boxed wr _).trans (HB2.out.mono (by simp))))
          have HBW2 := Lib.hid ((HBW.out.alloc HBW.out.size (.cells (cellsOf (rd_T27 l j)) 27)).trans (HB2.out.mono (by have := HBW.out.size; simp; omega)))
          dsimp only
          go_wp2
          go_roundg (l.length - (j + 1))
          case measure => omega
          case rel => exact ⟨i, j + 1, m, by simp, by simp, by omega, by omega, HM2, Lib.hid (HKI.out.skip hlt (by rw [HX.out]; rfl)), HBW2⟩
        | false =>
          have HX := Lib.hid hpx
          have HC2 : Hid (∀ W, Below W0.heap.size W0 W → Calls Try.prog g (#[opn (rd_T27 l j)] ++ lb) W fun e w' => e = .returned (.bool false) ∧ Below W.heap.size W w') := Lib.hid (fun W hW => by have := HC.out W hW; rw [HX.out] at this; exact this)
          clear hpx
          go_wp2_with fail
          refine (HC2.out _ (HBW.out.alloc HBW.out.size _)).mono ?_; rintro e w2 ⟨rfl, hb2⟩; have HB2 := Lib.hid hb2; clear hb2
          have HK2 := Lib.hid (below_old (alloc_at wr (.cells (cellsOf (rd_T27 l j)) 27)) HB2.out)
          have HM2 := Lib.hid (Kd.R_below HM.out ((boxed wr _).trans (HB2.out.mono (by simp))))
          have c2 := blk5 HK2.out
          have HBW2 := Lib.hid ((HBW.out.alloc HBW.out.size (.cells (cellsOf (rd_T27 l j)) 27)).trans (HB2.out.mono (by have := HBW.out.size; simp; omega)))
          obtain ⟨ad, cs, e', hcl, hK, hcc⟩ := Kd.C_get (Kd.R_reads' HM2.out).2.2 z27 (i : Int) (by omega) (by have := HLM.out; have := HIJ.out; omega)
          cases e'
          have HCC := Lib.hid hcc
          have HCL := Lib.hid hcl
          clear hcc hcl hK
          dsimp only
          go_wp2_with ((with_reducible refine gate_ (.store 27 (.tmp 33) (.tmp 32)) rfl ?_); refine stop_here ?_)
          refine Lib.hid ?_
          refine Kd.R_store k27 (w0 := W0) W0.heap.size rfl rfl 27 (.tmp 33) (.tmp 32) rfl 27 (i : Int) 0 m (rd_T27 l j) (opn (rd_T27 l j)) [.int .u32 (rd_T27 l j).f0, .int .u32 (rd_T27 l j).f1, .int .u32 (rd_T27 l j).f2, .int .u32 (rd_T27 l j).f3, .int .u32 (rd_T27 l j).f4] cs (fun _ => True) (fun _ => False) rfl (by simp; rfl) rfl rfl ?ht ?h1 HM2.out ?h0 ?hi HCL.out ?hcc (Nat.le_of_eq rfl) ?hM (fun _ h => h.elim) HBW2.out ?_
          case ht => exact (by
            obtain ⟨i0, h1, h2⟩ := Option.map_eq_some_iff.1 info27
            simp only [Prod.mk.injEq] at h2
            rw [h1]; simp [h2.2.1])
          case h1 =>
            intro q hq
            simp only [List.mem_cons, List.not_mem_nil, or_false] at hq
            rcases hq with rfl | rfl | rfl | rfl | rfl <;> rfl
          case h0 => omega
          case hi => have := HIJ.out; omega
          case hcc =>
            intro t u h
            have := HCC.out t u h
            rw [Addr.add_lit, Nat.zero_add] at this
            exact this
          case hM =>
            have e : cs.drop 5 = [] := List.drop_eq_nil_of_le (by rw [HCL.out]; decide)
            simp only [List.take_zero, List.nil_append, Nat.zero_add, List.length_cons, List.length_nil]
            rw [e, List.append_nil]
            exact k27_mkM _ _ _ _
          intro w3 ho3 hb3 hg3
          have HM3 := Lib.hid ho3
          have HB3 := Lib.hid hb3
          clear ho3 hb3 hg3
          clear c2
          go_wp2
          go_roundg (l.length - (j + 1))
          case measure => omega
          case rel => exact ⟨i + 1, j + 1, m.set i (rd_T27 l j), by simp, by simp, by omega, by omega, HM3, Lib.hid (HKI.out.keep hlt (by rw [HX.out]; rfl)), HB3⟩
      · have hltz : decide ((j : Int) < (l.length : Int)) = false := decide_eq_false (by omega)
        have HLM := Lib.hid HKI.out.1
        have HIJ := Lib.hid HKI.out.2.1
        obtain ⟨cur, hh, hn, hnc, hcs, hbg⟩ := R_own HM.out
        have hq2 : (0 ≤ (i : Int)) = True := eq_true (by omega)
        have hq3 : ((i : Int) ≤ (l.length : Int)) = True := eq_true (by have := HIJ.out; omega)
        have hq4 : (i ≤ l.length) = True := eq_true (by have := HIJ.out; omega)
        have hq5 : ((l.length : Int) ≤ (c : Int)) = True := eq_true (by omega)
        have hq6 : (l.length ≤ c) = True := eq_true hnc
        have hq7 : ((i : Int) ≤ (c : Int)) = True := eq_true (by have := HIJ.out; omega)
        have hq8 : (i ≤ c) = True := eq_true (by have := HIJ.out; omega)
        have hq9 : (c = i) = False := eq_false (by have := HIJ.out; omega)
        have hq10 : (i = c) = False := eq_false (by have := HIJ.out; omega)
        have hbd : i * 5 + (l.length - i) * 5 ≤ c * 5 := by have := HIJ.out; omega
        obtain ⟨L, hL, hrun⟩ := run_clear5 wr 0 g0 (i * 5) (l.length - i) (c - i) (by have := HIJ.out; omega) (fun t ht => by rw [cell_at hh]; simp; omega) (fun t ht => free_at hh _)
        have HH := Lib.hid hh
        have HBG := Lib.hid hbg
        clear hh hn hnc hcs hbg hbd
        have HFIN := Lib.hid (show Kd.R k27 27 (wr.setCells g0 (i * 5) L) W0.heap.size (fun _ => True) (.slice (some ⟨g0, 0, none⟩) i c) (l.filter (fun x => !p x)) by
          have h := R_past L wr (i * 5) (Kd.R_take (m := i) HM.out (by have := HLM.out; have := HIJ.out; omega)) (Nat.le_refl _)
          have e : m.take i = l.filter (fun x => !p x) := by
            have := HKI.out.2.2.2.1
            rwa [List.take_of_length_le (show l.length ≤ j by omega)] at this
          rwa [e] at h)
        go_wp2
        go_ret
        exact ⟨_, rfl, HFIN.out, below_past HBG.out L wr _ HBW.out⟩
end Go.Proofs.Ytecbfpdkbackmaa.Share
