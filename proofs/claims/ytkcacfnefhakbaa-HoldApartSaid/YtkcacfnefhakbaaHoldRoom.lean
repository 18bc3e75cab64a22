/- Layer hold: a list with room to spare, made by the caller and filled by copy. -/
import Derived.Test.YtkcacfnefhakbaaHoldSort
import Derived.Laws.CopyRow
import Derived.Laws.MakeOwn
namespace Go.Proofs.Ytkcacfnefhakbaa.HoldL
open Go.RowKit Go.Shelf Go.Sort Go.Lib Go.Blk Go.Proofs.Ytkcacfnefhakbaa.P12 Go.Proofs.YtkcacfnefhakbaaW.PrintWords Go.Proofs.YtkcacfnefhakbaaW.PrintLast Go.Proofs.YtkcacfnefhakbaaW.PrintMore
set_option linter.unusedVariables false
set_option linter.unusedSimpArgs false

theorem setCells_at {g : Nat} {t : TypeId} : ∀ (vs : List Value) (w : World) (o : Nat) (cs : Array Value), w.heap[g]? = some (.cells cs t (0, 0)) →
    ∃ cs', (w.setCells g o vs).heap[g]? = some (.cells cs' t (0, 0)) ∧ cs'.size = cs.size ∧ (∀ j, j < o ∨ o + vs.length ≤ j → cs'[j]? = cs[j]?) ∧ ∀ j (h : j < vs.length), o + j < cs.size → cs'[o + j]? = some vs[j]
  | [], w, o, cs, h => ⟨cs, h, rfl, fun _ _ => rfl, fun j h => absurd h (Nat.not_lt_zero _)⟩
  | v :: r, w, o, cs, h => by
    obtain ⟨cs', h1, h2, h3, h4⟩ := setCells_at r _ (o + 1) _ (set_at h o v)
    refine ⟨cs', h1, by simpa using h2, fun j hj => ?_, fun j hj hs => ?_⟩
    · rw [h3 j (by simp at hj; omega), Array.getElem?_setIfInBounds_ne (by simp at hj; omega)]
    · match j, hj with
      | 0, _ =>
        rw [Nat.add_zero, h3 o (.inl (by omega)), Array.getElem?_setIfInBounds]
        simp; omega
      | j + 1, hj =>
        have := h4 j (by simpa using hj) (by simp; omega)
        rw [show o + 1 + j = o + (j + 1) by omega] at this
        simpa using this
instance : Inhabited S40 := ⟨z40⟩
theorem flat40_at (d : Array S40) (j t : Nat) (hj : j < d.size) (ht : t < 2) : (flatK enc40 2 d)[j * 2 + t]! = (enc40 d[j]!)[t]! := by
  rw [get_flatK enc40 2 d (j * 2 + t) (by omega), show (j * 2 + t) / 2 = j by omega, show (j * 2 + t) % 2 = t by omega]
theorem flat40_seg (d : Array S40) (j : Nat) (hj : j < d.size) : ((flatK enc40 2 d).toList.drop (j * 2)).take 2 = enc40 d[j]! := by
  refine List.ext_getElem ?_ (fun t h1 h2 => ?_)
  · simp [enc40]; omega
  · have ht : t < 2 := by simpa [enc40] using h2
    have := flat40_at d j t hj ht
    rw [getElem!_pos (flatK enc40 2 d) (j * 2 + t) (by simp; omega), getElem!_pos (enc40 d[j]!) t h2] at this
    simpa using this
def F40 (l : List S40) : List Value := (flatK enc40 2 l.toArray).toList
theorem F40_len (l : List S40) : (F40 l).length = l.length * 2 := by simp [F40]
theorem F40_at (l : List S40) (j t : Nat) (hj : j < l.length) (ht : t < 2) : (F40 l)[j * 2 + t]? = (enc40 l[j])[t]? := by
  have h := flat40_at l.toArray j t (by simpa using hj) ht
  have h1 : j * 2 + t < (flatK enc40 2 l.toArray).size := by simp; omega
  have h2 : t < (enc40 (l.toArray[j]!)).length := ht
  rw [getElem!_pos (flatK enc40 2 l.toArray) (j * 2 + t) h1, getElem!_pos (enc40 (l.toArray[j]!)) t h2] at h
  have e : l.toArray[j]! = l[j] := by rw [getElem!_pos l.toArray j (by simpa using hj)]; simp
  unfold F40
  rw [Array.getElem?_toList, Array.getElem?_eq_getElem h1, h, ← e]
  exact (List.getElem?_eq_getElem h2).symm
theorem F40_one (l : List S40) : ∀ v ∈ F40 l, v.oneCell' = true := by
  intro v hv
  obtain ⟨i, hi, rfl⟩ := List.getElem_of_mem hv
  rw [F40_len] at hi
  have h := F40_at l (i / 2) (i % 2) (by omega) (Nat.mod_lt _ (by decide))
  rw [show i / 2 * 2 + i % 2 = i by omega, List.getElem?_eq_getElem (by rw [F40_len]; exact hi)] at h
  have : (F40 l)[i] ∈ enc40 l[i / 2] := List.mem_of_getElem? h.symm
  simp only [enc40, List.mem_cons, List.not_mem_nil, or_false] at this
  rcases this with e | e <;> rw [e] <;> rfl
theorem C_flat {w : World} {a : Addr} {l : List S40} (h : Kd.C k40 w (some a) l.length l) : ∀ j v, (F40 l)[j]? = some v → w.cell? (a.add j) = some v := by
  intro j v hv
  have hj : j < l.length * 2 := by have := (List.getElem?_eq_some_iff.1 hv).1; rwa [F40_len] at this
  obtain ⟨ad, c, e, hl, hK, hc⟩ := Kd.C_get h z40 ((j / 2 : Nat) : Int) (by omega) (by omega)
  cases e
  have hk := k40_open hK
  rw [show j = j / 2 * 2 + j % 2 by omega, F40_at l (j / 2) (j % 2) (by omega) (Nat.mod_lt _ (by decide))] at hv
  have hq := hc (j % 2) v (by
    rw [hk, Int.toNat_natCast, List.getD_eq_getElem?_getD, List.getElem?_eq_getElem (show j / 2 < l.length by omega)]
    exact hv)
  rw [Int.toNat_natCast, show j / 2 * k40.sz + j % 2 = j from by show j / 2 * 2 + j % 2 = j; omega] at hq
  exact hq
theorem run_copy40 (w : World) (ty : TypeId) (b dCap : Nat) (A : Option Addr) (sCap : Nat) (l : List S40) (cs : Array Value) (hb : w.heap[b]? = some (.cells cs 40 (0, 0))) (hs : l.length * 2 ≤ cs.size) (hC : Kd.C k40 w A l.length l) :
    (Builtin.copy_ #[23, 23] ty #[.slice (some ⟨b, 0, none⟩) l.length dCap, .slice A l.length sCap]).run Try.prog w = .ok (.int .i64 l.length) (w.setCells b 0 (F40 l)) := by
  have hst := run_storeCells_cells (P := Try.prog) b 0 (F40 l) 0 w (fun j hj => by rw [F40_len] at hj; rw [Nat.add_zero, Nat.zero_add, cell_at hb]; simp; omega) (fun j _ => free_at hb _) (F40_one l)
  obtain ⟨i0, hi0, hsz⟩ : ∃ i0, Try.prog.info? 40 = some i0 ∧ i0.size = 2 := by
    obtain ⟨i0, h1, h2⟩ := Option.map_eq_some_iff.1 inf40
    simp only [Prod.mk.injEq] at h2
    exact ⟨i0, h1, h2.2.1⟩
  have hu := Try.underlying23
  cases A with
  | none =>
    have h0 : l = [] := by
      rcases Nat.eq_zero_or_pos l.length with h | h
      · exact List.length_eq_zero_iff.1 h
      · obtain ⟨ad, h, _⟩ := hC.2.2 h
        cases h
    subst h0
    simp [Builtin.copy_, run_underlying hu, Builtin.lenOf, Builtin.firstCells, sizeOf, typeInfo, hi0, hsz, storeCells, F40, flatK, World.setCells, goInt]
  | some a =>
    have hl := run_loadCells_list (P := Try.prog) w a (F40 l) (C_flat hC)
    rw [F40_len] at hl
    simp only [Nat.add_zero] at hst
    simp [Builtin.copy_, run_underlying hu, Builtin.lenOf, Builtin.firstCells, sizeOf, typeInfo, hi0, hsz, hl, hst, goInt]

abbrev zrow : Array Value := #[.int .u32 0, .int .u32 0]
theorem room_R (w : World) (b : Nat) (l : List S40) (hb : w.heap[b]? = some (.cells (madeCells zrow ((l.length + 3) * 2)) 40 (0, 0))) (hl : l.length ≤ 100) :
    Kd.R k40 40 (w.setCells b 0 (F40 l)) b (fun _ => True) (.slice (some ⟨b, 0, none⟩) (l.length + 3) (l.length + 3)) (l ++ List.replicate 3 z40) := by
  obtain ⟨cs', h1, h2, h3, h4⟩ := setCells_at (F40 l) w 0 _ hb
  have hsz : cs'.size = (l.length + 3) * 2 := by rw [h2, size_madeCells]
  have hlen : (l ++ List.replicate 3 z40).length = l.length + 3 := by simp
  have hm : maxLen = 9223372036854775807 := rfl
  refine ⟨fun _ _ => trivial, F40 (l ++ List.replicate 3 z40), ⟨by rw [F40_len]; rfl, .inr ⟨b, l.length + 3, cs', by rw [hlen], Nat.le_refl _, h1, by rw [hlen]; exact Nat.le_refl _, by omega, hsz, ?_⟩⟩, ?_⟩
  · have key : ∀ t, t < (l.length + 3) * 2 → cs'[t]? = (F40 (l ++ List.replicate 3 z40))[t]? := by
      intro t ht
      obtain ⟨q, r, hq, hr, rfl⟩ : ∃ q r, q < l.length + 3 ∧ r < 2 ∧ t = q * 2 + r := ⟨t / 2, t % 2, by omega, Nat.mod_lt _ (by decide), by omega⟩
      rw [F40_at _ q r (by rw [hlen]; exact hq) hr]
      by_cases hn : q < l.length
      · have h5 := h4 (q * 2 + r) (by rw [F40_len]; omega) (by rw [size_madeCells]; omega)
        rw [Nat.zero_add, ← List.getElem?_eq_getElem, F40_at l q r hn hr] at h5
        rw [h5, List.getElem_append_left hn]
      · rw [h3 (q * 2 + r) (.inr (by rw [F40_len]; omega)), List.getElem_append_right (by omega), List.getElem_replicate]
        unfold madeCells
        rw [Array.getElem?_eq_getElem (by simp; omega)]
        simp only [Array.getElem_map, Array.getElem_range]
        show some (zrow[(q * 2 + r) % 2]!) = _
        rw [show (q * 2 + r) % 2 = r by omega]
        match r, hr with
        | 0, _ => rfl
        | 1, _ => rfl
    show cs'.toList.take ((l ++ List.replicate 3 z40).length * 2) = _
    rw [hlen, List.take_of_length_le (by simp [hsz])]
    refine List.ext_getElem? (fun t => ?_)
    rw [Array.getElem?_toList]
    by_cases ht : t < (l.length + 3) * 2
    · exact key t ht
    · rw [Array.getElem?_eq_none (by rw [hsz]; omega), List.getElem?_eq_none (by rw [F40_len, hlen]; omega)]
  · refine ⟨by rw [F40_len]; rfl, fun j p hj => ?_⟩
    have hj' : j < (l ++ List.replicate 3 z40).length := (List.getElem?_eq_some_iff.1 hj).1
    have e : ((F40 (l ++ List.replicate 3 z40)).drop (j * k40.sz)).take k40.sz = enc40 (l ++ List.replicate 3 z40).toArray[j]! := flat40_seg _ j (by simpa using hj')
    rw [e]
    have e2 : p = (l ++ List.replicate 3 z40).toArray[j]! := by
      rw [getElem!_pos _ j (by simpa using hj')]
      have := (List.getElem?_eq_some_iff.1 hj).2
      simpa using this.symm
    rw [← e2]
    exact k40_mkM _ _ _ _

theorem room_C {w : World} {base : Nat} {ok : Nat → Prop} {A : Option Addr} {n c : Nat} {l : List S40} (h : Kd.R k40 40 w base ok (.slice A n c) (l ++ List.replicate 3 z40)) : Kd.C k40 w A l.length l := by
  have h1 := Kd.R_take (m := l.length) h (by simp)
  rw [List.take_left] at h1
  exact (Kd.R_reads' h1).2.2
theorem lt_of_own {w : World} {base b n c : Nat} {ok : Nat → Prop} {l : List S40} (h : Kd.R k40 40 w base ok (.slice (some ⟨b, 0, none⟩) n c) l) : b < w.heap.size := by
  obtain ⟨cur, hh, _⟩ := R_own h
  exact Blk.lt_of hh
theorem room_z (l : List S40) (k : Nat) (hk : l.length ≤ k) : rd_T40 (l ++ List.replicate 3 z40) k = z40 := by
  unfold rd_T40
  rw [Int.toNat_natCast, List.getD_eq_getElem?_getD, List.getElem?_append_right hk, List.getElem?_replicate]
  split <;> rfl
theorem make_run (l : List S40) (hl : l.length ≤ 100) (W : World) : (Instr.makeSlice 23 (.int .i64 (l.length : Int)) (.int .i64 ((l.length : Int) + 3))).run Try.prog W = .ok (.slice (some ⟨W.heap.size, 0, none⟩) l.length (l.length + 3)) (W.alloc (.cells (madeCells zrow ((l.length + 3) * 2)) 40)) := by
  obtain ⟨i0, hi0, h2⟩ := Option.map_eq_some_iff.1 inf40
  simp only [Prod.mk.injEq] at h2
  have := run_make (P := Try.prog) W 23 40 i0 _ Try.underlying23 hi0 h2.1 .i64 .i64 (l.length : Int) ((l.length : Int) + 3) (by omega) (by omega) (by rw [h2.2.2]; omega) (by omega)
  rw [this, h2.2.1, show ((l.length : Int) + 3).toNat = l.length + 3 by omega, Int.toNat_natCast]
  rfl
end Go.Proofs.Ytkcacfnefhakbaa.HoldL
