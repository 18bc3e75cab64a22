/- Layer share: a list with room to spare, made by the caller and filled by copy. -/
import Derived.Test.YtecbfpdkbackmaaShareGiven
import Derived.Laws.CopyRow
import Derived.Laws.MakeOwn
namespace Go.Proofs.Ytecbfpdkbackmaa.Share
open Go.RowKit Go.Shelf Go.Sort Go.Lib Go.Blk Go.Proofs.Ytecbfpdkbackmaa.P11 Go.Proofs.YtecbfpdkbackmaaW.PrintWords Go.Proofs.YtecbfpdkbackmaaW.PrintLast Go.Proofs.YtecbfpdkbackmaaW.PrintMore
set_option linter.unusedVariables false
set_option linter.unusedSimpArgs false

theorem setCells_at {g : Nat} {t : TypeId} : ∀ (vs : List Value) (w : World) (o : Nat) (cs : Array Value), w.heap[g]? = some (.cells cs t (0, 0)) →
    ∃ cs', (w.setCells g o vs).heap[g]? = some (.cells cs' t (0, 0)) ∧ cs'.size = cs.size ∧ (∀ j, j < o ∨ o + vs.length ≤ j → cs'[j]? = cs[j]?) ∧ ∀ j (h : j < vs.length), o + j < cs.size → cs'[o + j]? = some vs[j]
  | [], w, o, cs, h => ⟨cs, h, rfl, fun _ _ => rfl, fun j h => absurd h (Nat.not_lt_zero _)⟩
  | v :: r, w, o, cs, h => by
    obtain ⟨cs', h1, h2, h3, h4⟩ := setCells_at r _ (o + 1) _ (set_at h o v)
    refine ⟨cs', h1, by simpa using h2, fun j hj => ?_, fun j hj hs => ?_⟩
    · rw [h3 j (by simp at hj; omega), Array.getElem?_setIfInBounds_ne (by simp at hj; omega)]
    · match j, hj with
      | 0, _ =>
        rw [Nat.add_zero, h3 o (.inl (by omega)), Array.getElem?_setIfInBounds]
        simp; omega
      | j + 1, hj =>
        have := h4 j (by simpa using hj) (by simp; omega)
        rw [show o + 1 + j = o + (j + 1) by omega] at this
        simpa using this
def F27 (l : List S27) : List Value := (flatK enc27 5 l.toArray).toList
theorem F27_len (l : List S27) : (F27 l).length = l.length * 5 := by simp [F27]
theorem F27_at (l : List S27) (j t : Nat) (hj : j < l.length) (ht : t < 5) : (F27 l)[j * 5 + t]? = (enc27 l[j])[t]? := by
  have h := flat_at l.toArray j t (by simpa using hj) ht
  have h1 : j * 5 + t < (flatK enc27 5 l.toArray).size := by simp; omega
  have h2 : t < (enc27 (l.toArray[j]!)).length := ht
  rw [getElem!_pos (flatK enc27 5 l.toArray) (j * 5 + t) h1, getElem!_pos (enc27 (l.toArray[j]!)) t h2] at h
  have e : l.toArray[j]! = l[j] := by rw [getElem!_pos l.toArray j (by simpa using hj)]; simp
  unfold F27
  rw [Array.getElem?_toList, Array.getElem?_eq_getElem h1, h, ← e]
  exact (List.getElem?_eq_getElem h2).symm
theorem F27_one (l : List S27) : ∀ v ∈ F27 l, v.oneCell' = true := by
  intro v hv
  obtain ⟨i, hi, rfl⟩ := List.getElem_of_mem hv
  rw [F27_len] at hi
  have h := F27_at l (i / 5) (i % 5) (by omega) (Nat.mod_lt _ (by decide))
  rw [show i / 5 * 5 + i % 5 = i by omega, List.getElem?_eq_getElem (by rw [F27_len]; exact hi)] at h
  have : (F27 l)[i] ∈ enc27 l[i / 5] := List.mem_of_getElem? h.symm
  simp only [enc27, List.mem_cons, List.not_mem_nil, or_false] at this
  rcases this with e | e | e | e | e <;> rw [e] <;> rfl
theorem C_flat {w : World} {a : Addr} {l : List S27} (h : Kd.C k27 w (some a) l.length l) : ∀ j v, (F27 l)[j]? = some v → w.cell? (a.add j) = some v := by
  intro j v hv
  have hj : j < l.length * 5 := by have := (List.getElem?_eq_some_iff.1 hv).1; rwa [F27_len] at this
  obtain ⟨ad, c, e, hl, hK, hc⟩ := Kd.C_get h z27 ((j / 5 : Nat) : Int) (by omega) (by omega)
  cases e
  have hk := k27_open hK
  rw [show j = j / 5 * 5 + j % 5 by omega, F27_at l (j / 5) (j % 5) (by omega) (Nat.mod_lt _ (by decide))] at hv
  have hq := hc (j % 5) v (by
    rw [hk, Int.toNat_natCast, List.getD_eq_getElem?_getD, List.getElem?_eq_getElem (show j / 5 < l.length by omega)]
    exact hv)
  rw [Int.toNat_natCast, show j / 5 * k27.sz + j % 5 = j from by show j / 5 * 5 + j % 5 = j; omega] at hq
  exact hq
theorem run_copy27 (w : World) (ty : TypeId) (b dCap : Nat) (A : Option Addr) (sCap : Nat) (l : List S27) (cs : Array Value) (hb : w.heap[b]? = some (.cells cs 27 (0, 0))) (hs : l.length * 5 ≤ cs.size) (hC : Kd.C k27 w A l.length l) :
    (Builtin.copy_ #[22, 22] ty #[.slice (some ⟨b, 0, none⟩) l.length dCap, .slice A l.length sCap]).run Try.prog w = .ok (.int .i64 l.length) (w.setCells b 0 (F27 l)) := by
  have hst := run_storeCells_cells (P := Try.prog) b 0 (F27 l) 0 w (fun j hj => by rw [F27_len] at hj; rw [Nat.add_zero, Nat.zero_add, cell_at hb]; simp; omega) (fun j _ => free_at hb _) (F27_one l)
  obtain ⟨i0, hi0, hsz⟩ : ∃ i0, Try.prog.info? 27 = some i0 ∧ i0.size = 5 := by
    obtain ⟨i0, h1, h2⟩ := Option.map_eq_some_iff.1 info27
    simp only [Prod.mk.injEq] at h2
    exact ⟨i0, h1, h2.2.1⟩
  have hu := Try.underlying22
  cases A with
  | none =>
    have h0 : l = [] := by
      rcases Nat.eq_zero_or_pos l.length with h | h
      · exact List.length_eq_zero_iff.1 h
      · obtain ⟨ad, h, _⟩ := hC.2.2 h
        cases h
    subst h0
    simp [Builtin.copy_, run_underlying hu, Builtin.lenOf, Builtin.firstCells, sizeOf, typeInfo, hi0, hsz, storeCells, F27, flatK, World.setCells, goInt]
  | some a =>
    have hl := run_loadCells_list (P := Try.prog) w a (F27 l) (C_flat hC)
    rw [F27_len] at hl
    simp only [Nat.add_zero] at hst
    simp [Builtin.copy_, run_underlying hu, Builtin.lenOf, Builtin.firstCells, sizeOf, typeInfo, hi0, hsz, hl, hst, goInt]

abbrev zrow : Array Value := #[.int .u32 0, .int .u32 0, .int .u32 0, .int .u32 0, .int .u32 0]
theorem room_R (w : World) (b : Nat) (l : List S27) (hb : w.heap[b]? = some (.cells (madeCells zrow ((l.length + 4) * 5)) 27 (0, 0))) (hl : l.length ≤ 100) :
    Kd.R k27 27 (w.setCells b 0 (F27 l)) b (fun _ => True) (.slice (some ⟨b, 0, none⟩) (l.length + 4) (l.length + 4)) (l ++ List.replicate 4 z27) := by
  obtain ⟨cs', h1, h2, h3, h4⟩ := setCells_at (F27 l) w 0 _ hb
  have hsz : cs'.size = (l.length + 4) * 5 := by rw [h2, size_madeCells]
  have hlen : (l ++ List.replicate 4 z27).length = l.length + 4 := by simp
  have hm : maxLen = 9223372036854775807 := rfl
  refine ⟨fun _ _ => trivial, F27 (l ++ List.replicate 4 z27), ⟨by rw [F27_len]; rfl, .inr ⟨b, l.length + 4, cs', by rw [hlen], Nat.le_refl _, h1, by rw [hlen]; exact Nat.le_refl _, by omega, hsz, ?_⟩⟩, ?_⟩
  · have key : ∀ t, t < (l.length + 4) * 5 → cs'[t]? = (F27 (l ++ List.replicate 4 z27))[t]? := by
      intro t ht
      obtain ⟨q, r, hq, hr, rfl⟩ : ∃ q r, q < l.length + 4 ∧ r < 5 ∧ t = q * 5 + r := ⟨t / 5, t % 5, by omega, Nat.mod_lt _ (by decide), by omega⟩
      rw [F27_at _ q r (by rw [hlen]; exact hq) hr]
      by_cases hn : q < l.length
      · have h5 := h4 (q * 5 + r) (by rw [F27_len]; omega) (by rw [size_madeCells]; omega)
        rw [Nat.zero_add, ← List.getElem?_eq_getElem, F27_at l q r hn hr] at h5
        rw [h5, List.getElem_append_left hn]
      · rw [h3 (q * 5 + r) (.inr (by rw [F27_len]; omega)), List.getElem_append_right (by omega), List.getElem_replicate]
        unfold madeCells
        rw [Array.getElem?_eq_getElem (by simp; omega)]
        simp only [Array.getElem_map, Array.getElem_range]
        show some (zrow[(q * 5 + r) % 5]!) = _
        rw [show (q * 5 + r) % 5 = r by omega]
        match r, hr with
        | 0, _ => rfl
        | 1, _ => rfl
        | 2, _ => rfl
        | 3, _ => rfl
        | 4, _ => rfl
    show cs'.toList.take ((l ++ List.replicate 4 z27).length * 5) = _
    rw [hlen, List.take_of_length_le (by simp [hsz])]
    refine List.ext_getElem? (fun t => ?_)
    rw [Array.getElem?_toList]
    by_cases ht : t < (l.length + 4) * 5
    · exact key t ht
    · rw [Array.getElem?_eq_none (by rw [hsz]; omega), List.getElem?_eq_none (by rw [F27_len, hlen]; omega)]
  · refine ⟨by rw [F27_len]; rfl, fun j p hj => ?_⟩
    have hj' : j < (l ++ List.replicate 4 z27).length := (List.getElem?_eq_some_iff.1 hj).1
    have e : ((F27 (l ++ List.replicate 4 z27)).drop (j * k27.sz)).take k27.sz = enc27 (l ++ List.replicate 4 z27).toArray[j]! := flat_seg _ j (by simpa using hj')
    rw [e]
    have e2 : p = (l ++ List.replicate 4 z27).toArray[j]! := by
      rw [getElem!_pos _ j (by simpa using hj')]
      have := (List.getElem?_eq_some_iff.1 hj).2
      simpa using this.symm
    rw [← e2]
    exact k27_mkM _ _ _ _
end Go.Proofs.Ytecbfpdkbackmaa.Share
