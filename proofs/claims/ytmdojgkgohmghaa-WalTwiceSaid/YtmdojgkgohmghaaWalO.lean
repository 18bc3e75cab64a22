/- Layer wal, plainly: to open is to mend, and once is enough; what stands in the mark. -/
import Derived.Test.YtmdojgkgohmghaaWalN
namespace Go.Proofs.Ytmdojgkgohmghaa.Wal
open Go.DevL Go.XdrL Go.WalL
set_option linter.unusedVariables false
set_option linter.unusedSimpArgs false
set_option maxRecDepth 100000
variable {d d' : Dv} {b : List (Int × ByteArray)} {l : List ByteArray}
/-! ### many blocks are written -/
def look : List (Int × ByteArray) → Nat → Option ByteArray
  | [], _ => none
  | x :: l, i => (look l i).or (if x.1.toNat = i then some x.2 else none)
theorem puts_at : ∀ (l : List (Int × ByteArray)) (m : List ByteArray) (i : Nat), (puts l m)[i]? = (m[i]?).map fun old => (look l i).getD old
  | [], m, i => by simp [puts, look]
  | x :: l, m, i => by
    show (puts l (m.set x.1.toNat x.2))[i]? = _
    rw [puts_at l, List.getElem?_set]
    by_cases h : x.1.toNat = i
    · subst h
      by_cases hl : x.1.toNat < m.length
      · rw [if_pos rfl, if_pos hl, List.getElem?_eq_getElem hl]
        simp only [look, if_pos rfl, Option.map_some]
        cases look l x.1.toNat <;> rfl
      · rw [if_pos rfl, if_neg hl, List.getElem?_eq_none (by omega)]
        rfl
    · rw [if_neg h]
      simp only [look, if_neg h, Option.or_none]
theorem puts_twice (l : List (Int × ByteArray)) (m : List ByteArray) : puts l (puts l m) = puts l m := by
  apply List.ext_getElem?
  intro i
  rw [puts_at, puts_at, Option.map_map]
  congr 1
  funext old
  show (look l i).getD ((look l i).getD old) = _
  cases look l i <;> rfl
theorem look_none : ∀ (l : List (Int × ByteArray)) (i : Nat), (∀ x ∈ l, x.1.toNat ≠ i) → look l i = none
  | [], _, _ => rfl
  | x :: l, i, h => by
    simp only [look]
    rw [look_none l i (fun y hy => h y (by simp [hy])), if_neg (h x (by simp))]
    rfl
theorem look_some : ∀ (l : List (Int × ByteArray)) (i : Nat) (e : ByteArray), (∃ x ∈ l, x.1.toNat = i) → (∀ x ∈ l, x.1.toNat = i → x.2 = e) → look l i = some e
  | [], _, _, ⟨x, hx, _⟩, _ => by simp at hx
  | x :: l, i, e, h, he => by
    simp only [look]
    by_cases h2 : ∃ y ∈ l, y.1.toNat = i
    · rw [look_some l i e h2 (fun y hy => he y (by simp [hy]))]
      rfl
    · rw [look_none l i (fun y hy e => h2 ⟨y, hy, e⟩)]
      obtain ⟨y, hy, hyi⟩ := h
      rcases List.mem_cons.1 hy with rfl | hy
      · rw [if_pos hyi, he y (by simp) hyi]; rfl
      · exact absurd ⟨y, hy, hyi⟩ h2
theorem puts_low (l : List (Int × ByteArray)) (m : List ByteArray) (h : ∀ x ∈ l, 41 ≤ x.1) (i : Nat) (hi : i ≤ 40) : (puts l m).getD i ByteArray.empty = m.getD i ByteArray.empty := by
  rw [List.getD_eq_getElem?_getD, List.getD_eq_getElem?_getD, puts_at, look_none l i (fun x hx => by have := h x hx; omega)]
  cases m[i]? <;> rfl
/-! ### marks and entries -/
theorem ba_assoc (a b c : ByteArray) : a ++ b ++ c = a ++ (b ++ c) := ByteArray.append_assoc
theorem cut_left (a t : ByteArray) (n : Nat) (h : a.size = n) : (a ++ t).extract 0 n = a := by
  have := extract_mid ByteArray.empty a t 0 n rfl (by rw [← h]; show 0 + a.size = a.size; omega)
  rw [ByteArray.empty_append] at this
  exact this
theorem cut_right (a t : ByteArray) (n m : Nat) (h : a.size = n) (hm : n + t.size = m) : (a ++ t).extract n m = t := by
  have := extract_append_right a t
  rw [h, ByteArray.size_append, h, hm] at this
  exact this
theorem mark_form (n k : Nat) : WalL.mark n k = lcom ++ (num4 n ++ (num4 k ++ zeros 244)) := by
  unfold WalL.mark pad
  rw [show (lcom ++ (num4 n ++ num4 k)).size = 12 by rw [ByteArray.size_append, ByteArray.size_append, num4_size, num4_size]; rfl]
  rw [ba_assoc, ba_assoc]
theorem markOf_mark (n k : Nat) (hn : n < 4294967296) (hk : k < 4294967296) : markOf (WalL.mark n k) = (n, k, true) := by
  have h1 : (WalL.mark n k).extract 0 4 = lcom := by rw [mark_form]; exact cut_left _ _ 4 rfl
  have h2 : (WalL.mark n k).extract 4 256 = num4 n ++ (num4 k ++ zeros 244) := by
    rw [mark_form]
    exact cut_right _ _ 4 256 rfl (by rw [ByteArray.size_append, ByteArray.size_append, num4_size, num4_size, zeros_size])
  have h3 : (WalL.mark n k).extract 8 256 = num4 k ++ zeros 244 := by
    rw [mark_form, ← ba_assoc]
    exact cut_right _ _ 8 256 (by rw [ByteArray.size_append, num4_size]; rfl) (by rw [ByteArray.size_append, num4_size, zeros_size])
  unfold markOf
  rw [if_pos h1, h2, h3, get4_num4 _ _ hn, get4_num4 _ _ hk]
theorem ent_form (n : Nat) (x : Int × ByteArray) : WalL.ent n x = num4 (41 + x.1).toNat ++ (num4 n ++ (x.2 ++ zeros (256 - (8 + x.2.size)))) := by
  unfold WalL.ent pad
  rw [ByteArray.size_append, ByteArray.size_append, num4_size, num4_size, ba_assoc, ba_assoc]
theorem ent_one (n : Nat) (x : Int × ByteArray) (h : (41 + x.1).toNat < 4294967296) : get4 (WalL.ent n x) = (41 + x.1).toNat := by
  rw [ent_form]; exact get4_num4 _ _ h
theorem ent_two (n : Nat) (x : Int × ByteArray) (hn : n < 4294967296) (hx : x.2.size ≤ 248) : get4 ((WalL.ent n x).extract 4 256) = n := by
  rw [ent_form, cut_right _ _ 4 256 (num4_size _) (by rw [ByteArray.size_append, ByteArray.size_append, num4_size, zeros_size]; omega)]
  exact get4_num4 _ _ hn
/-! ### to open a device that lives -/
theorem entsOf_mem {n c : Nat} {l : List (Int × ByteArray)} (h : d.OK) (h41 : 41 < d.firm.length) (he : entsOf d n c = some l) : ∀ x ∈ l, 41 ≤ x.1 ∧ x.1 < d.firm.length ∧ x.2.size = 256 := by
  unfold entsOf at he
  split at he
  · cases he
  · rename_i hc
    split at he
    · rename_i hg
      simp only [Option.some.injEq] at he
      subst he
      intro x hx
      rw [List.mem_map] at hx
      obtain ⟨i, hi, rfl⟩ := hx
      have hgi := List.all_eq_true.1 hg i hi
      simp only [good, Bool.and_eq_true, decide_eq_true_eq] at hgi
      rw [List.mem_range] at hi
      exact ⟨by show (41 : Int) ≤ (get4 _ : Nat); omega, by show ((get4 _ : Nat) : Int) < _; omega, size_entAt h (by omega)⟩
    · cases he
def entsD (d : Dv) : List (Int × ByteArray) := if (markOf (d.now.getD 0 ByteArray.empty)).2.2 = false then [] else (entsOf d (markOf (d.now.getD 0 ByteArray.empty)).1 (markOf (d.now.getD 0 ByteArray.empty)).2.1).getD []
theorem markOf_no {m : ByteArray} (h : (markOf m).2.2 = false) : (markOf m).1 = 0 := by
  unfold markOf at h ⊢
  split at h
  · cases h
  · rename_i hx; rw [if_neg hx]
theorem open_live (h : Live d) (h41 : 41 < d.firm.length) : ∃ d', openD d = (0, (markOf (d.now.getD 0 ByteArray.empty)).1, d') ∧ Live d' ∧ d'.firm.length = d.firm.length ∧ (d.late = [] → d'.late = []) ∧ d'.now = puts (entsD d) d.now := by
  unfold openD entsD
  rw [if_neg (by omega), if_neg (by simp [h.alive])]
  by_cases hm : (markOf (d.now.getD 0 ByteArray.empty)).2.2 = false
  · rw [if_pos hm, if_pos hm]
    exact ⟨d, by rw [markOf_no hm], h, rfl, id, rfl⟩
  · rw [if_neg hm, if_neg hm]
    cases he : entsOf d (markOf (d.now.getD 0 ByteArray.empty)).1 (markOf (d.now.getD 0 ByteArray.empty)).2.1 with
    | none => exact ⟨d, rfl, h, rfl, id, rfl⟩
    | some l =>
      obtain ⟨d1, e1, l1, n1, w1⟩ := h.wrs l (fun x hx => by
        have := entsOf_mem h.ok h41 he x hx
        exact ⟨by omega, this.2.1, this.2.2⟩)
      obtain ⟨d2, e2, l2, n2, w2, t2, _⟩ := l1.barrier
      refine ⟨d2, ?_, l2, n2.trans n1, fun _ => t2, by rw [w2, w1]; rfl⟩
      show ((andThen (WalL.wrs d l) Dv.barrier).1, _, (andThen (WalL.wrs d l) Dv.barrier).2) = _
      rw [e1, andThen_ok, e2]
theorem entsD_mem (h : d.OK) (h41 : 41 < d.firm.length) : ∀ x ∈ entsD d, 41 ≤ x.1 := by
  unfold entsD
  split
  · intro x hx; simp at hx
  · cases he : entsOf d (markOf (d.now.getD 0 ByteArray.empty)).1 (markOf (d.now.getD 0 ByteArray.empty)).2.1 with
    | none => intro x hx; simp at hx
    | some l => intro x hx; exact (entsOf_mem h h41 he x hx).1
/-- The journal and the mark alone count. -/
theorem entsOf_low {n c : Nat} (hl : d'.firm.length = d.firm.length) (hw : ∀ i, i ≤ 40 → d'.now.getD i ByteArray.empty = d.now.getD i ByteArray.empty) : entsOf d' n c = entsOf d n c := by
  unfold entsOf
  by_cases hc : c < 1 ∨ 40 < c
  · rw [if_pos hc, if_pos hc]
  · rw [if_neg hc, if_neg hc]
    have e1 : (List.range c).all (fun i => good d' n (i + 1)) = (List.range c).all (fun i => good d n (i + 1)) := by
      rw [Bool.eq_iff_iff, List.all_eq_true, List.all_eq_true]
      have key : ∀ i, i ∈ List.range c → good d' n (i + 1) = good d n (i + 1) := fun i hi => by
        rw [List.mem_range] at hi
        unfold good
        rw [hw (i + 1) (by omega), hl]
      exact ⟨fun h i hi => by rw [← key i hi]; exact h i hi, fun h i hi => by rw [key i hi]; exact h i hi⟩
    rw [e1]
    by_cases hg : (List.range c).all (fun i => good d n (i + 1)) = true
    · rw [if_pos hg, if_pos hg]
      refine congrArg some (List.map_congr_left fun i hi => ?_)
      rw [List.mem_range] at hi
      unfold entAt
      rw [hw (i + 1) (by omega)]
    · rw [if_neg hg, if_neg hg]
theorem entsD_low (hl : d'.firm.length = d.firm.length) (hw : ∀ i, i ≤ 40 → d'.now.getD i ByteArray.empty = d.now.getD i ByteArray.empty) : entsD d' = entsD d := by
  unfold entsD
  rw [hw 0 (by omega), entsOf_low hl hw]
theorem data_now (h : d.OK) (h' : d'.OK) (e : d'.now = d.now) : dataOf d' = dataOf d := by rw [dataOf_eq h, dataOf_eq h', e]
/-- Opened twice is as once. -/
theorem open_twice (h : Live d) (h41 : 41 < d.firm.length) (hl : d.late = []) : ∃ n d1 d2, openD d = (0, n, d1) ∧ openD d1 = (0, n, d2) ∧ Live d1 ∧ Live d2 ∧ d1.late = [] ∧ d2.late = [] ∧ d1.firm.length = d.firm.length ∧ d2.firm.length = d.firm.length ∧ dataOf d2 = dataOf d1 ∧ n = (markOf (d.now.getD 0 ByteArray.empty)).1 := by
  obtain ⟨d1, e1, l1, n1, t1, w1⟩ := open_live h h41
  obtain ⟨d2, e2, l2, n2, t2, w2⟩ := open_live l1 (by omega)
  have hw : ∀ i, i ≤ 40 → d1.now.getD i ByteArray.empty = d.now.getD i ByteArray.empty := fun i hi => by
    rw [w1]; exact puts_low _ _ (entsD_mem h.ok h41) i hi
  have he := entsD_low n1 hw
  refine ⟨_, d1, d2, e1, by rw [e2, hw 0 (by omega)], l1, l2, t1 hl, t2 (t1 hl), n1, n2.trans n1, data_now l1.ok l2.ok ?_, rfl⟩
  rw [w2, he, w1, puts_twice]
/-- What was committed is opened as it is. -/
theorem open_commit (h : Live d) (n : Nat) (hn : n < 4294967296) (hf : fit (sizeL d) b) (hd : commitD d n b = (0, d')) : ∃ d2, openD d' = (0, n, d2) ∧ Live d2 ∧ dataOf d2 = dataOf d' := by
  obtain ⟨d1, e, l1, n1, t1, f1, w1⟩ := h.commit n hf
  rw [hd] at e
  obtain rfl := (Prod.mk.inj e).2
  have hs : sizeL d = (d.firm.length : Int) - 41 := rfl
  have hb1 := hf.1
  have hb2 := hf.2.1
  have h41 : 41 < d.firm.length := by
    have := fit_mem hf (List.getElem_mem (show 0 < b.length by omega))
    omega
  obtain ⟨d2, e2, l2, n2, t2, w2⟩ := open_live l1 (by omega)
  have hlen : ((puts (jour n b) d.now).set 0 (WalL.mark n b.length)).length = d.firm.length := by rw [List.length_set, puts_len, h.ok.now_length]
  have hhi : ∀ x ∈ homes n b, 41 ≤ x.1 := fun x hx => by
    simp only [homes, List.mem_map] at hx
    obtain ⟨y, hy, rfl⟩ := hx
    have := fit_mem hf hy
    show (41 : Int) ≤ 41 + y.1
    omega
  have h0 : d'.now.getD 0 ByteArray.empty = WalL.mark n b.length := by
    rw [w1, puts_low _ _ hhi 0 (by omega), List.getD_eq_getElem?_getD, List.getElem?_set, if_pos rfl, if_pos (by rw [puts_len, h.ok.now_length]; omega)]
    rfl
  have hi : ∀ i (hi : i < b.length), d'.now.getD (i + 1) ByteArray.empty = WalL.ent n b[i] := fun i hi => by
    rw [w1, puts_low _ _ hhi (i + 1) (by omega), List.getD_eq_getElem?_getD, List.getElem?_set, if_neg (by omega), puts_at, look_some (jour n b) (i + 1) (WalL.ent n b[i]) ⟨(1 + (i : Int), WalL.ent n b[i]), ?_, by show (1 + (i : Int)).toNat = i + 1; omega⟩ (fun x hx hxi => ?_)]
    · rw [List.getElem?_eq_getElem (by rw [h.ok.now_length]; omega)]
      rfl
    · rw [← jour_at n b i hi]
      exact List.getElem_mem _
    · obtain ⟨j, hj, rfl⟩ := mem_jour hx
      have e : (1 + (j : Int)).toNat = i + 1 := hxi
      obtain rfl : j = i := by omega
      rfl
  have hx : ∀ i (hi : i < b.length), 0 ≤ b[i].1 ∧ (41 + b[i].1).toNat < 1024 ∧ (41 + b[i].1) < d.firm.length ∧ b[i].2.size ≤ 248 := fun i hi => by
    have h1 := fit_mem hf (List.getElem_mem hi)
    have h2 := h.ok.n2
    exact ⟨h1.1, by omega, by omega, h1.2.2⟩
  have he : entsD d' = homes n b := by
    unfold entsD
    rw [h0, markOf_mark n b.length hn (by omega), if_neg (by simp)]
    have hg : (List.range b.length).all (fun i => good d' n (i + 1)) = true := List.all_eq_true.2 fun i him => by
      rw [List.mem_range] at him
      obtain ⟨x1, x2, x3, x4⟩ := hx i him
      unfold good
      rw [hi i him, ent_two n _ hn x4, ent_one n _ (by omega), n1]
      simp
      omega
    have : entsOf d' n b.length = some (homes n b) := by
      unfold entsOf
      rw [if_neg (by omega), if_pos hg]
      congr 1
      apply List.ext_getElem
      · simp [homes]
      · intro i h1 h2
        simp only [List.length_map, List.length_range] at h1
        obtain ⟨x1, x2, x3, x4⟩ := hx i h1
        simp only [List.getElem_map, List.getElem_range, homes, entAt]
        rw [hi i h1, ent_one n _ (by omega), show (((41 + b[i].1).toNat : Nat) : Int) = 41 + b[i].1 by omega]
    rw [this]
    rfl
  refine ⟨d2, ?_, l2, data_now l1.ok l2.ok ?_⟩
  · rw [e2, h0, markOf_mark n b.length hn (by omega)]
  · rw [w2, he, w1, puts_twice]
/-! ### what may stand at block 0 -/
structure Zero (S : ByteArray → Prop) (d : Dv) : Prop where
  firm : S (d.firm.getD 0 ByteArray.empty)
  late : ∀ x ∈ d.late, x.1 = 0 → S x.2
  pos : 0 < d.firm.length
variable {S : ByteArray → Prop}
theorem zero_puts : ∀ (xs : List (Nat × ByteArray)) (m : List ByteArray), S (m.getD 0 ByteArray.empty) → (∀ x ∈ xs, x.1 = 0 → S x.2) → 0 < m.length → S ((xs.foldl put m).getD 0 ByteArray.empty)
  | [], m, h, _, _ => h
  | x :: xs, m, h, hx, hl => by
    rw [List.foldl_cons]
    refine zero_puts xs (put m x) ?_ (fun y hy => hx y (by simp [hy])) (by simp [put]; exact hl)
    unfold put
    rw [List.getD_eq_getElem?_getD, List.getElem?_set]
    by_cases h0 : x.1 = 0
    · rw [if_pos h0, if_pos (by omega)]
      exact hx x (by simp) h0
    · rw [if_neg h0, ← List.getD_eq_getElem?_getD]
      exact h
theorem zero_kept (keep : Int) : ∀ (xs : List (Nat × ByteArray)) (i : Nat) (m : List ByteArray), S (m.getD 0 ByteArray.empty) → (∀ x ∈ xs, x.1 = 0 → S x.2) → 0 < m.length → S ((kept keep i xs m).getD 0 ByteArray.empty)
  | [], i, m, h, _, _ => h
  | x :: xs, i, m, h, hx, hl => by
    rw [kept]
    refine zero_kept keep xs (i + 1) _ ?_ (fun y hy => hx y (by simp [hy])) (by split; rw [length_put]; exact hl; exact hl)
    split
    · exact zero_puts [x] m h (fun y hy => hx y (by simp at hy; simp [hy])) hl
    · exact h
theorem Zero.now (h : Zero S d) : S (d.now.getD 0 ByteArray.empty) := zero_puts _ _ h.firm h.late h.pos
theorem Zero.die (h : Zero S d) : Zero S d.die := ⟨h.firm, h.late, h.pos⟩
theorem Zero.write (h : Zero S d) (i : Int) (x : ByteArray) (hx : i = 0 → S x) : Zero S (d.write i x).2 := by
  unfold Dv.write
  split
  · exact h
  · rename_i hb
    split
    · exact h.die
    · refine ⟨h.firm, fun y hy h0 => ?_, h.pos⟩
      rcases List.mem_append.1 hy with hy | hy
      · exact h.late y hy h0
      · simp only [List.mem_singleton] at hy
        subst hy
        refine hx ?_
        simp only [Bool.not_eq_true, Bool.or_eq_false_iff] at hb
        have := Dv.bad_false hb.1
        have e : i.toNat = 0 := h0
        omega
theorem Zero.barrier (h : Zero S d) : Zero S d.barrier.2 := by
  unfold Dv.barrier
  split
  · exact h.die
  · exact ⟨h.now, fun x hx => by simp at hx, by show 0 < d.now.length; unfold Dv.now; rw [length_puts]; exact h.pos⟩
theorem Zero.crash (h : Zero S d) (keep : Int) : Zero S (d.crash keep) :=
  ⟨zero_kept keep _ _ _ h.firm h.late h.pos, fun x hx => by simp [Dv.crash] at hx, by show 0 < (kept keep 0 d.late d.firm).length; rw [kept_length]; exact h.pos⟩
theorem Zero.wrs : ∀ (l : List (Int × ByteArray)) {d : Dv}, Zero S d → (∀ x ∈ l, x.1 = 0 → S x.2) → Zero S (WalL.wrs d l).2
  | [], d, h, _ => h
  | x :: l, d, h, hx => by
    simp only [WalL.wrs]
    split
    · exact Zero.wrs l (h.write _ _ (hx x (by simp))) (fun y hy => hx y (by simp [hy]))
    · exact h.write _ _ (hx x (by simp))
theorem zero_then {r : Int × Dv} {f : Dv → Int × Dv} (h : Zero S r.2) (hf : ∀ d, Zero S d → Zero S (f d).2) : Zero S (andThen r f).2 := by
  unfold andThen
  split
  · exact hf _ h
  · exact h
theorem Zero.commit (h : Zero S d) (n : Nat) (hb : ∀ x ∈ b, 0 ≤ x.1) (hm : S (WalL.mark n b.length)) : Zero S (commitD d n b).2 := by
  unfold commitD
  have hj : ∀ x ∈ jour n b, x.1 = 0 → S x.2 := fun x hx h0 => by
    obtain ⟨i, hi, rfl⟩ := mem_jour hx
    have e : 1 + (i : Int) = 0 := h0
    omega
  have hh : ∀ x ∈ homes n b, x.1 = 0 → S x.2 := fun x hx h0 => by
    simp only [homes, List.mem_map] at hx
    obtain ⟨y, hy, rfl⟩ := hx
    have := hb y hy
    have e : 41 + y.1 = 0 := h0
    omega
  exact zero_then (h.wrs _ hj) fun d h => zero_then h.barrier fun d h => zero_then (h.write _ _ (fun _ => hm)) fun d h => zero_then h.barrier fun d h => zero_then (h.wrs _ hh) fun d h => h.barrier
/-! ### how many writes are unsettled -/
theorem wrs_late : ∀ (l : List (Int × ByteArray)) (d : Dv), (WalL.wrs d l).2.late.length ≤ d.late.length + l.length
  | [], d => Nat.le_refl _
  | x :: l, d => by
    simp only [WalL.wrs]
    have h1 := write_late d x.1 x.2
    split
    · have := wrs_late l (d.write x.1 x.2).2
      simp only [List.length_cons]; omega
    · simp only [List.length_cons]; omega
theorem barrier_late2 (d : Dv) : d.barrier.2.late.length ≤ d.late.length := by
  unfold Dv.barrier
  split
  · exact Nat.le_refl _
  · simp
theorem then_late {r : Int × Dv} {f : Dv → Int × Dv} {m : Nat} (k : Nat) (h : r.2.late.length ≤ m) (hf : ∀ d, d.late.length ≤ m → (f d).2.late.length ≤ m + k) : (andThen r f).2.late.length ≤ m + k := by
  unfold andThen
  split
  · exact hf _ h
  · omega
theorem commit_late (d : Dv) (n : Nat) (b : List (Int × ByteArray)) : (commitD d n b).2.late.length ≤ d.late.length + b.length + (1 + b.length) := by
  unfold commitD
  have h1 := wrs_late (jour n b) d
  rw [jour_len] at h1
  refine then_late _ h1 fun d1 h2 => ?_
  refine then_late _ (Nat.le_trans (barrier_late2 d1) h2) fun d2 h3 => ?_
  have h4 := write_late d2 0 (WalL.mark n b.length)
  rw [← Nat.add_assoc]
  refine then_late b.length (m := d.late.length + b.length + 1) (by omega) fun d3 h5 => ?_
  refine then_late _ (Nat.le_trans (barrier_late2 d3) h5) fun d4 h6 => ?_
  have h7 := wrs_late (homes n b) d4
  rw [show (homes n b).length = b.length by simp [homes]] at h7
  refine Nat.le_trans (then_late 0 (m := d.late.length + b.length + 1 + b.length) (by omega) fun d5 h8 => ?_) (Nat.le_refl _)
  exact Nat.le_trans (barrier_late2 d5) h8
end Go.Proofs.Ytmdojgkgohmghaa.Wal
