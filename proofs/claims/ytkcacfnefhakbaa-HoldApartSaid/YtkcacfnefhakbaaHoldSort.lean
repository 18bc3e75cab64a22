/- Layer hold: lists of holders: sorted. -/
import Derived.Test.YtkcacfnefhakbaaHoldList
import Derived.Shelf.SlSortCmp.NoneTotal
import Derived.Ground.SlsfProg
import Derived.Sort.Grow
namespace Go.Proofs
open Go.Shelf Go.RowKit Go.Lib
shelf_lay_g SlLaysF0.n6 Slsf 6 at Try 26 as Try.sortHolders
end Go.Proofs
namespace Go.Proofs.Ytkcacfnefhakbaa.HoldL
open Go.RowKit Go.Shelf Go.Sort Go.Lib Go.Blk Go.Proofs.Ytkcacfnefhakbaa.P12 Go.Proofs.YtkcacfnefhakbaaW.PrintWords Go.Proofs.YtkcacfnefhakbaaW.PrintLast Go.Proofs.YtkcacfnefhakbaaW.PrintMore
set_option linter.unusedVariables false
set_option linter.unusedSimpArgs false
/-- draws and blocks, no more -/
def Lays (W w' : World) : Prop := ∃ q os, w' = grow (W.drewN q) os
theorem Lays.refl (W : World) : Lays W W := ⟨0, #[], by simp [World.drewN]⟩
theorem Lays.drewN {W w : World} (h : Lays W w) (n : Nat) : Lays W (w.drewN n) := by
  obtain ⟨q, os, rfl⟩ := h
  exact ⟨q + n, os, by simp [grow, World.drewN, Nat.add_assoc]⟩
theorem Lays.drew {W w : World} (h : Lays W w) : Lays W w.drew := h.drewN 1
theorem Lays.alloc {W w : World} (h : Lays W w) (o : Obj) : Lays W (w.alloc o) := by
  obtain ⟨q, os, rfl⟩ := h
  exact ⟨q, os ++ #[o], by rw [alloc_eq_grow, grow_grow]⟩
/-- a holder whose client is a whole number of 32 bits -/
abbrev U40 := {x : S40 // 0 ≤ x.f0 ∧ x.f0 ≤ 4294967295}
instance : Inhabited U40 := ⟨⟨z40, by decide⟩⟩
def enc40 (x : S40) : List Value := [.int .u32 x.f0, .int .u32 x.f1]
def encU (x : U40) : List Value := enc40 x.1
def cmpU (x y : U40) : Int := x.1.f0 - y.1.f0

theorem flat_at (d : Array U40) (j t : Nat) (hj : j < d.size) (ht : t < 2) : (flatK encU 2 d)[j * 2 + t]! = (encU d[j]!)[t]! := by
  rw [get_flatK encU 2 d (j * 2 + t) (by omega), show (j * 2 + t) / 2 = j by omega, show (j * 2 + t) % 2 = t by omega]
theorem flat_seg (d : Array U40) (j : Nat) (hj : j < d.size) : ((flatK encU 2 d).toList.drop (j * 2)).take 2 = encU d[j]! := by
  refine List.ext_getElem ?_ (fun t h1 h2 => ?_)
  · simp [encU, enc40]; omega
  · have ht : t < 2 := by simpa [encU, enc40] using h2
    have := flat_at d j t hj ht
    rw [getElem!_pos (flatK encU 2 d) (j * 2 + t) (by simp; omega), getElem!_pos (encU d[j]!) t h2] at this
    simpa using this

set_option maxHeartbeats 1000000 in
theorem order_lay (x y : U40) (W : World) : Calls Try.prog 27 #[opn x.1, opn y.1] W fun e w' => e = .returned (.int .i64 (cmpU x y)) ∧ Lays W w' := by
  obtain ⟨x, hx0, hx1⟩ := x
  obtain ⟨y, hy0, hy1⟩ := y
  have e1 : IntKind.i64.wrap x.f0 = x.f0 := IntWalk.i64_in _ (by omega)
  have e2 : IntKind.i64.wrap y.f0 = y.f0 := IntWalk.i64_in _ (by omega)
  have e3 : IntKind.i64.wrap (x.f0 - y.f0) = x.f0 - y.f0 := IntWalk.i64_in _ (by omega)
  show Calls Try.prog 27 #[opn x, opn y] W fun e w' => e = .returned (.int .i64 (x.f0 - y.f0)) ∧ Lays W w'
  clear hx0 hx1 hy0 hy1
  go_enter Try.func27, Try.ntmps27
  go_wp2
  go_ret
  exact ⟨rfl, ((Lays.refl W).alloc _).alloc _⟩
theorem order_lays (blk off size : Nat) (w : World) : CmpLays Try.prog 27 #[] encU 2 cmpU blk off size w := fun _ _ _ _ x y => order_lay x y _
theorem lt_iff (x y : U40) : ltOf cmpU x y = decide (x.1.f0 < y.1.f0) := by
  unfold ltOf cmpU
  by_cases h : x.1.f0 < y.1.f0
  · rw [decide_eq_true h, decide_eq_true (by omega)]
  · rw [decide_eq_false h, decide_eq_false (by omega)]
theorem cmp_swo : SWO (ltOf cmpU) where
  irrefl x := by rw [lt_iff]; simp
  trans x y z h1 h2 := by rw [lt_iff] at *; simp at *; omega
  ntrans x y z h1 h2 := by rw [lt_iff] at *; simp at *; omega
abbrev vals (l : List U40) : List S40 := l.map (·.1)

theorem holds_own {w : World} {base : Nat} {ok : Nat → Prop} {g n cap : Nat} {xs : List U40} (h : Kd.R k40 40 w base ok (.slice (some ⟨g, 0, none⟩) n cap) (vals xs)) : HoldsK encU 2 w g 0 xs.toArray := by
  obtain ⟨cur, hh, hn, hnc, hcs, hbg⟩ := R_own h
  intro j hj
  have hj' : j < xs.length * 2 := by simpa using hj
  refine ⟨?_, free_at hh _⟩
  obtain ⟨ad, c, e, hl, hK, hc⟩ := Kd.C_get (Kd.R_reads' h).2.2 z40 ((j / 2 : Nat) : Int) (by omega) (by simp; omega)
  cases e
  have hk := k40_open hK
  have hq := hc (j % 2) (c[j % 2]!) (by
    have : j % 2 < c.length := by rw [hl]; exact Nat.mod_lt _ (by decide)
    rw [getElem!_pos c _ this]; exact List.getElem?_eq_getElem this)
  rw [Addr.add_lit, Nat.zero_add] at hq
  rw [Nat.zero_add]
  have e2 : ((j / 2 : Nat) : Int).toNat * k40.sz + j % 2 = j := by show ((j / 2 : Nat) : Int).toNat * 2 + j % 2 = j; simp; omega
  rw [e2] at hq
  rw [hq, hk]
  have hjs : j / 2 < xs.toArray.size := by simp; omega
  have hf := flat_at xs.toArray (j / 2) (j % 2) hjs (Nat.mod_lt _ (by decide))
  rw [show j / 2 * 2 + j % 2 = j by omega] at hf
  rw [hf]
  have e3 : (xs.toArray[j / 2]!).1 = (vals xs).getD ((j / 2 : Nat) : Int).toNat z40 := by
    rw [Int.toNat_natCast, getElem!_pos xs.toArray _ hjs]; simp [List.getD, show j / 2 < xs.length by omega]
  unfold encU
  rw [e3]
  rfl

theorem sorted_own {w : World} {base : Nat} {ok : Nat → Prop} {g n cap : Nat} {xs : List S40} (h : Kd.R k40 40 w base ok (.slice (some ⟨g, 0, none⟩) n cap) xs) (d : Array U40) (hd : d.size = n) (q : Nat) (os : Array Obj) :
    Kd.R k40 40 (sortWorldK encU 2 w g 0 q d os) base ok (.slice (some ⟨g, 0, none⟩) n cap) (vals d.toList) := by
  obtain ⟨h0, inner, ⟨hl, hown⟩, hr⟩ := h
  rcases hown with ⟨hv, _⟩ | ⟨g', cap', cur, hv, hb, hh, hnc, hcm, hcs, htake⟩
  · cases hv
  · injection hv with ha hn hc
    injection ha with ha
    injection ha with hg
    subst hg hc hn
    have hg' := lt_of hh
    have hcur : d.size * 2 ≤ cur.size := by rw [hcs, hd]; exact Nat.mul_le_mul_right _ hnc
    refine ⟨h0, (flatK encU 2 d).toList, ⟨by simp; rfl, .inr ⟨g, cap, putCells id 0 (flatK encU 2 d) cur, by simp [hd], hb, ?_, by simpa [hd] using hnc, hcm, by simpa [putCells] using hcs, ?_⟩⟩, ?_⟩
    · show ((mapBlock (Sort.ahead w q) g (putCells id 0 (flatK encU 2 d))).heap ++ os)[g]? = _
      rw [Array.getElem?_append_left (by simpa [mapBlock] using hg')]
      simp [mapBlock, Array.getElem?_modify, hh, onCells, Sort.ahead]
    · refine List.ext_getElem ?_ (fun t h1 h2 => ?_)
      · simp [putCells]
        show min (d.size * 2) cur.size = d.size * 2
        omega
      · have ht : t < d.size * 2 := by simpa using h2
        simp [putCells, ht]
    · refine ⟨by simp; rfl, fun j p hj => ?_⟩
      have hj' : j < d.size := by
        have := (List.getElem?_eq_some_iff.1 hj).1
        simpa using this
      have e : ((flatK encU 2 d).toList.drop (j * k40.sz)).take k40.sz = encU d[j]! := flat_seg d j hj'
      rw [e]
      have e2 : p = (d[j]!).1 := by
        rw [getElem!_pos d j hj']
        have := (List.getElem?_eq_some_iff.1 hj).2
        simpa using this.symm
      rw [e2]
      exact k40_mkM _ _ _ _

theorem below_sort {B g : Nat} {w0 w : World} (hg : B ≤ g) (hB : B ≤ w.heap.size) (hb : Below B w0 w) (d : Array U40) (q : Nat) (os : Array Obj) : Below B w0 (sortWorldK encU 2 w g 0 q d os) := by
  have hs : (mapBlock (Sort.ahead w q) g (putCells id 0 (flatK encU 2 d))).heap.size = w.heap.size := by simp [mapBlock, Sort.ahead]
  refine ⟨hb.os, hb.tape, hb.output, ?_, fun k hk => ?_⟩
  · show w0.heap.size ≤ ((mapBlock (Sort.ahead w q) g (putCells id 0 (flatK encU 2 d))).heap ++ os).size
    have := hb.size
    simp [hs]; omega
  · show ((mapBlock (Sort.ahead w q) g (putCells id 0 (flatK encU 2 d))).heap ++ os)[k]? = _
    rw [← hb.block k hk, Array.getElem?_append_left (by omega)]
    have : g ≠ k := by omega
    simp [mapBlock, Array.getElem?_modify, this, Sort.ahead]

/-- sorted by client -/
def SortedL (l : List S40) : Prop := l.Pairwise fun x y => ¬ y.f0 < x.f0
def Nn (x : S40) : Prop := 0 ≤ x.f0 ∧ x.f0 ≤ 4294967295
theorem vals_of : ∀ (l : List S40), (∀ x ∈ l, Nn x) → ∃ l' : List U40, vals l' = l
  | [], _ => ⟨[], rfl⟩
  | x :: l, h => by
    obtain ⟨l', e⟩ := vals_of l (fun y hy => h y (List.mem_cons_of_mem _ hy))
    exact ⟨⟨x, h x List.mem_cons_self⟩ :: l', by simp [e]⟩

set_option maxHeartbeats 1000000 in
theorem sort_calls (base : Nat) (W0 w : World) (v : Value) (l : List S40) (hN : ∀ x ∈ l, Nn x) (hb : Below base W0 w) (HO : Kd.R k40 40 w base (fun _ => True) v l) (hl : l.length ≤ 101) (hl0 : 0 < l.length) :
    Calls Try.prog 26 #[v, .func (.func 27) #[] #[]] w fun e w' => e = .returned (.tuple #[]) ∧ ∃ l', l'.Perm l ∧ SortedL l' ∧ Kd.R k40 40 w' base (fun _ => True) v l' ∧ Below base W0 w' := by
  obtain ⟨lu, rfl⟩ := vals_of l hN
  obtain ⟨A, c, rfl⟩ := Kd.R_slice HO
  obtain ⟨g0, rfl⟩ : ∃ g0, A = some ⟨g0, 0, none⟩ := by
    obtain ⟨h0, inner, ⟨hl', hown⟩, hr⟩ := HO
    rcases hown with ⟨hv, hn⟩ | ⟨g', cap', cur, hv, _⟩
    · omega
    · injection hv with ha hn hc
      exact ⟨g', ha⟩
  obtain ⟨cur, hh, hn, hnc, hcs, hbg⟩ := R_own HO
  have eg : ∀ args w, (callFunc 27 args).run Try.prog w = .ok (.enter 27 args) w := enters_of Try.func27 (by kernel_rfl) rfl
  have hlen : (vals lu).length = lu.length := by simp
  have hcon := AnyQ.slices_SortFunc Try.sortHolders 2 Try.isAgg40 Try.sizeOf40 encU (fun _ => rfl) (fun x v hv => by
    simp only [encU, enc40, List.mem_cons, List.not_mem_nil, or_false] at hv
    rcases hv with rfl | rfl <;> rfl) cmpU cmp_swo 27 #[] g0 0 c lu.toArray w eg (order_lays g0 0 _ w) (holds_own HO) (lt_of hh) (by simp at hl; simp; omega)
  rw [hlen] at HO ⊢
  refine Calls.mono hcon ?_
  rintro e w' ⟨rfl, d', n, os, hp, hs, rfl⟩
  have h1 := hp.2.2
  have h2 := hp.1
  have h3 : d'.toList.take lu.length = d'.toList := List.take_of_length_le (by simp [h2])
  refine ⟨rfl, vals d'.toList, ?_, ?_, ?_, ?_⟩
  · have h4 : d'.toList.Perm lu := by simpa [h2, h3] using h1
    exact h4.map _
  · unfold SortedL
    rw [List.pairwise_map, List.pairwise_iff_getElem]
    intro i j hi hj hij
    have hi' : i < d'.size := by simpa using hi
    have hj' : j < d'.size := by simpa using hj
    have := hs i j (Nat.zero_le _) hij (by have := hp.1; omega)
    rw [getElem!_pos d' j hj', getElem!_pos d' i hi', lt_iff] at this
    simpa using this
  · exact sorted_own HO d' (by simpa using h2) n os
  · exact below_sort hbg (Nat.le_of_lt (Nat.lt_of_le_of_lt hbg (lt_of hh))) hb d' n os
end Go.Proofs.Ytkcacfnefhakbaa.HoldL
