/- Layer share: slices.SortFunc on a list of the call's own: a permutation of it, sorted. -/
import Derived.Test.YtecbfpdkbackmaaShareOrder
import Derived.Ground.SlsfProg
namespace Go.Proofs
open Go.Shelf Go.RowKit Go.Lib
shelf_lay_g SlLaysF0.n6 Slsf 6 at Try 40 as Try.sortOpens
end Go.Proofs
namespace Go.Proofs.Ytecbfpdkbackmaa.Share
open Go.RowKit Go.Shelf Go.Sort Go.Lib Go.Blk Go.Proofs.Ytecbfpdkbackmaa.P11 Go.Proofs.YtecbfpdkbackmaaW.PrintWords Go.Proofs.YtecbfpdkbackmaaW.PrintLast Go.Proofs.YtecbfpdkbackmaaW.PrintMore
set_option linter.unusedVariables false
set_option linter.unusedSimpArgs false

instance : Inhabited S27 := ⟨z27⟩
def enc27 (x : S27) : List Value := [.int .u32 x.f0, .int .u32 x.f1, .int .u32 x.f2, .int .u32 x.f3, .int .u32 x.f4]

theorem flat_at (d : Array S27) (j t : Nat) (hj : j < d.size) (ht : t < 5) : (flatK enc27 5 d)[j * 5 + t]! = (enc27 d[j]!)[t]! := by
  rw [get_flatK enc27 5 d (j * 5 + t) (by omega), show (j * 5 + t) / 5 = j by omega, show (j * 5 + t) % 5 = t by omega]
theorem flat_seg (d : Array S27) (j : Nat) (hj : j < d.size) : ((flatK enc27 5 d).toList.drop (j * 5)).take 5 = enc27 d[j]! := by
  refine List.ext_getElem ?_ (fun t h1 h2 => ?_)
  · simp [enc27]; omega
  · have ht : t < 5 := by simpa [enc27] using h2
    have := flat_at d j t hj ht
    rw [getElem!_pos (flatK enc27 5 d) (j * 5 + t) (by simp; omega), getElem!_pos (enc27 d[j]!) t h2] at this
    simpa using this

theorem order_lays (blk off size : Nat) (w : World) : CmpLays Try.prog 27 #[] enc27 5 cmpB blk off size w := fun _ _ _ _ x y => order_lay x y _
theorem lt_iff (x y : S27) : ltOf cmpB x y = decide (x.f0 < y.f0 ∨ x.f0 = y.f0 ∧ x.f1 < y.f1) := by
  unfold ltOf cmpB
  by_cases h1 : x.f0 < y.f0
  · rw [if_pos h1, decide_eq_true (Or.inl h1)]; rfl
  · rw [if_neg h1]
    by_cases h2 : y.f0 < x.f0
    · rw [if_pos h2, decide_eq_false (by omega), decide_eq_false (by omega)]
    · rw [if_neg h2]
      by_cases h3 : x.f1 < y.f1
      · rw [if_pos h3, decide_eq_true (Or.inr ⟨by omega, h3⟩)]; rfl
      · rw [if_neg h3, decide_eq_false (p := _ ∨ _) (by omega)]
        split <;> simp
theorem cmp_swo : SWO (ltOf cmpB) where
  irrefl x := by rw [lt_iff]; simp
  trans x y z h1 h2 := by rw [lt_iff] at *; simp at *; omega
  ntrans x y z h1 h2 := by rw [lt_iff] at *; simp at *; omega

theorem holds_own {w : World} {base : Nat} {ok : Nat → Prop} {g n cap : Nat} {xs : List S27} (h : Kd.R k27 27 w base ok (.slice (some ⟨g, 0, none⟩) n cap) xs) : HoldsK enc27 5 w g 0 xs.toArray := by
  obtain ⟨cur, hh, hn, hnc, hcs, hbg⟩ := R_own h
  intro j hj
  have hj' : j < xs.length * 5 := by simpa using hj
  refine ⟨?_, free_at hh _⟩
  obtain ⟨ad, c, e, hl, hK, hc⟩ := Kd.C_get (Kd.R_reads' h).2.2 z27 ((j / 5 : Nat) : Int) (by omega) (by omega)
  cases e
  have hk := k27_open hK
  have hq := hc (j % 5) (c[j % 5]!) (by
    have : j % 5 < c.length := by rw [hl]; exact Nat.mod_lt _ (by decide)
    rw [getElem!_pos c _ this]; exact List.getElem?_eq_getElem this)
  rw [Addr.add_lit, Nat.zero_add] at hq
  rw [Nat.zero_add]
  have e1 : (((j / 5 : Nat) : Int)).toNat * 5 + j % 5 = j := by simp; omega
  have e2 : ((j / 5 : Nat) : Int).toNat * k27.sz + j % 5 = j := e1
  rw [e2] at hq
  rw [hq, hk]
  have hjs : j / 5 < xs.toArray.size := by simp; omega
  have hf := flat_at xs.toArray (j / 5) (j % 5) hjs (Nat.mod_lt _ (by decide))
  rw [show j / 5 * 5 + j % 5 = j by omega] at hf
  rw [hf]
  have e3 : xs.toArray[j / 5]! = xs.getD ((j / 5 : Nat) : Int).toNat z27 := by
    rw [Int.toNat_natCast, getElem!_pos xs.toArray _ hjs]; simp [List.getD, show j / 5 < xs.length by omega]
  rw [e3]
  rfl

theorem sorted_own {w : World} {base : Nat} {ok : Nat → Prop} {g n cap : Nat} {xs : List S27} (h : Kd.R k27 27 w base ok (.slice (some ⟨g, 0, none⟩) n cap) xs) (d : Array S27) (hd : d.size = n) (q : Nat) (os : Array Obj) :
    Kd.R k27 27 (sortWorldK enc27 5 w g 0 q d os) base ok (.slice (some ⟨g, 0, none⟩) n cap) d.toList := by
  obtain ⟨h0, inner, ⟨hl, hown⟩, hr⟩ := h
  rcases hown with ⟨hv, _⟩ | ⟨g', cap', cur, hv, hb, hh, hnc, hcm, hcs, htake⟩
  · cases hv
  · injection hv with ha hn hc
    injection ha with ha
    injection ha with hg
    subst hg hc hn
    have hg' := lt_of hh
    have hcur : d.size * 5 ≤ cur.size := by rw [hcs, hd]; exact Nat.mul_le_mul_right _ hnc
    refine ⟨h0, (flatK enc27 5 d).toList, ⟨by simp; rfl, .inr ⟨g, cap, putCells id 0 (flatK enc27 5 d) cur, by simp [hd], hb, ?_, by simpa [hd] using hnc, hcm, by simpa [putCells] using hcs, ?_⟩⟩, ?_⟩
    · show ((mapBlock (Sort.ahead w q) g (putCells id 0 (flatK enc27 5 d))).heap ++ os)[g]? = _
      rw [Array.getElem?_append_left (by simpa [mapBlock] using hg')]
      simp [mapBlock, Array.getElem?_modify, hh, onCells, Sort.ahead]
    · refine List.ext_getElem ?_ (fun t h1 h2 => ?_)
      · simp [putCells]
        show min (d.size * 5) cur.size = d.size * 5
        omega
      · have ht : t < d.size * 5 := by simpa using h2
        simp [putCells, ht]
    · refine ⟨by simp; rfl, fun j p hj => ?_⟩
      have hj' : j < d.size := by
        have := (List.getElem?_eq_some_iff.1 hj).1
        simpa using this
      have e : ((flatK enc27 5 d).toList.drop (j * k27.sz)).take k27.sz = enc27 d[j]! := flat_seg d j hj'
      rw [e]
      have e2 : p = d[j]! := by
        rw [getElem!_pos d j hj']
        have := (List.getElem?_eq_some_iff.1 hj).2
        simpa using this.symm
      rw [← e2]
      exact k27_mkM _ _ _ _

theorem below_sort {B g : Nat} {w0 w : World} (hg : B ≤ g) (hB : B ≤ w.heap.size) (hb : Below B w0 w) (d : Array S27) (q : Nat) (os : Array Obj) : Below B w0 (sortWorldK enc27 5 w g 0 q d os) := by
  have hs : (mapBlock (Sort.ahead w q) g (putCells id 0 (flatK enc27 5 d))).heap.size = w.heap.size := by simp [mapBlock, Sort.ahead]
  refine ⟨hb.os, hb.tape, hb.output, ?_, fun k hk => ?_⟩
  · show w0.heap.size ≤ ((mapBlock (Sort.ahead w q) g (putCells id 0 (flatK enc27 5 d))).heap ++ os).size
    have := hb.size
    simp [hs]; omega
  · show ((mapBlock (Sort.ahead w q) g (putCells id 0 (flatK enc27 5 d))).heap ++ os)[k]? = _
    rw [← hb.block k hk, Array.getElem?_append_left (by omega)]
    have : g ≠ k := by omega
    simp [mapBlock, Array.getElem?_modify, this, Sort.ahead]

/-- sorted -/
def SortedL (l : List S27) : Prop := l.Pairwise fun x y => ltOf cmpB y x = false

set_option maxHeartbeats 1000000 in
theorem sort_calls (W0 w : World) (v : Value) (l : List S27) (hb : Below W0.heap.size W0 w) (HO : Kd.R k27 27 w W0.heap.size (fun _ => True) v l) (hl : l.length ≤ 100) (hl0 : 0 < l.length) :
    Calls Try.prog 40 #[v, .func (.func 27) #[] #[]] w fun e w' => e = .returned (.tuple #[]) ∧ ∃ l', l'.Perm l ∧ SortedL l' ∧ Kd.R k27 27 w' W0.heap.size (fun _ => True) v l' ∧ Below W0.heap.size W0 w' := by
  obtain ⟨A, c, rfl⟩ := Kd.R_slice HO
  obtain ⟨g0, rfl⟩ : ∃ g0, A = some ⟨g0, 0, none⟩ := by
    obtain ⟨h0, inner, ⟨hl', hown⟩, hr⟩ := HO
    rcases hown with ⟨hv, hn⟩ | ⟨g', cap', cur, hv, _⟩
    · omega
    · injection hv with ha hn hc
      exact ⟨g', ha⟩
  obtain ⟨cur, hh, hn, hnc, hcs, hbg⟩ := R_own HO
  have eg : ∀ args w, (callFunc 27 args).run Try.prog w = .ok (.enter 27 args) w := enters_of Try.func27 (by kernel_rfl) rfl
  have hcon := AnyQ.slices_SortFunc Try.sortOpens 5 Try.isAgg27 Try.sizeOf27 enc27 (fun _ => rfl) (fun x v hv => by
    simp only [enc27, List.mem_cons, List.not_mem_nil, or_false] at hv
    rcases hv with rfl | rfl | rfl | rfl | rfl <;> rfl) cmpB cmp_swo 27 #[] g0 0 c l.toArray w eg (order_lays g0 0 _ w) (holds_own HO) (lt_of hh) (by simp; omega)
  refine Calls.mono hcon ?_
  rintro e w' ⟨rfl, d', n, os, hp, hs, rfl⟩
  refine ⟨rfl, d'.toList, ?_, ?_, ?_, ?_⟩
  · have h1 := hp.2.2
    have h2 := hp.1
    have h3 : d'.toList.take l.length = d'.toList := List.take_of_length_le (by simp [h2])
    simpa [h2, h3] using h1
  · unfold SortedL
    rw [List.pairwise_iff_getElem]
    intro i j hi hj hij
    have hi' : i < d'.size := by simpa using hi
    have hj' : j < d'.size := by simpa using hj
    have := hs i j (Nat.zero_le _) hij (by have := hp.1; omega)
    rw [getElem!_pos d' j hj', getElem!_pos d' i hi'] at this
    simpa using this
  · exact sorted_own HO d' (by have := hp.1; simpa using this) n os
  · exact below_sort hbg hb.size hb d' n os
end Go.Proofs.Ytecbfpdkbackmaa.Share
