/- Layer xdr, plainly: what was written is read, what was read is written, what was cut off is missed, and the order of bytes. -/
import Derived.Test.YtmdojgkgohmghaaXdrPlain
namespace Go.XdrL
set_option linter.unusedVariables false
set_option linter.unusedSimpArgs false
theorem len_data (s : ByteArray) : s.data.toList.length = s.size := Array.length_toList
theorem u8_div (n : Nat) (k : Nat) : (UInt8.ofNat (n / k)).toNat = n / k % 256 := by simp
theorem num4_append_getD (n : Nat) (t : ByteArray) : (num4 n ++ t).data.toList.getD 0 0 = UInt8.ofNat (n / 16777216) ∧ (num4 n ++ t).data.toList.getD 1 0 = UInt8.ofNat (n / 65536) ∧ (num4 n ++ t).data.toList.getD 2 0 = UInt8.ofNat (n / 256) ∧ (num4 n ++ t).data.toList.getD 3 0 = UInt8.ofNat n := by
  simp [num4, ByteArray.data_append]
theorem get4_num4 (n : Nat) (t : ByteArray) (hn : n < 4294967296) : get4 (num4 n ++ t) = n := by
  obtain ⟨a, b, c, d⟩ := num4_append_getD n t
  unfold get4
  rw [a, b, c, d]
  simp only [UInt8.toNat_ofNat']
  omega
theorem extract_append_right (a t : ByteArray) : (a ++ t).extract a.size (a ++ t).size = t := by
  apply ByteArray.ext
  apply Array.toList_inj.1
  simp only [ByteArray.data_extract, ByteArray.data_append, Array.toList_extract, Array.toList_append, List.extract_eq_take_drop, ByteArray.size_append]
  rw [← len_data a, List.drop_left]
  rw [show a.data.toList.length + t.size - a.data.toList.length = t.data.toList.length by rw [len_data t]; omega]
  exact List.take_length ..
theorem skip_append (a t : ByteArray) (e n : Nat) (h : a.size = n) : (⟨a ++ t, e⟩ : Rd).skip n = ⟨t, e⟩ := by
  subst h
  unfold Rd.skip
  simp only [Rd.mk.injEq, and_true]
  exact extract_append_right a t
theorem number_put (n : Nat) (t : ByteArray) (hn : n < 4294967296) : (⟨num4 n ++ t, 0⟩ : Rd).number = (n, ⟨t, 0⟩) := by
  have hs : ¬ (num4 n ++ t).size < 4 := by rw [ByteArray.size_append, num4_size]; omega
  simp only [Rd.number, ne_eq, not_true, if_false, hs, get4_num4 n t hn, skip_append _ t 0 4 (num4_size n)]
theorem long_put (n : Nat) (t : ByteArray) (hn : n < 18446744073709551616) : (⟨long8 n ++ t, 0⟩ : Rd).long = (n, ⟨t, 0⟩) := by
  have hs : ¬ (long8 n ++ t).size < 8 := by rw [ByteArray.size_append, long8_size]; omega
  have h1 : (⟨long8 n ++ t, 0⟩ : Rd).number = (n / 4294967296, ⟨num4 (n % 4294967296) ++ t, 0⟩) := by
    unfold long8
    rw [ByteArray.append_assoc]
    exact number_put _ _ (by omega)
  have h2 := number_put (n % 4294967296) t (Nat.mod_lt _ (by decide))
  simp only [Rd.long, ne_eq, not_true, if_false, hs, h1, h2, Prod.mk.injEq, and_true]
  omega
theorem flag_put (b : Bool) (t : ByteArray) : (⟨flag4 b ++ t, 0⟩ : Rd).flag = (b, ⟨t, 0⟩) := by
  have hs : ¬ (flag4 b ++ t).size < 4 := by unfold flag4; rw [ByteArray.size_append, num4_size]; omega
  have hg : get4 (flag4 b ++ t) = if b then 1 else 0 := get4_num4 _ t (by cases b <;> decide)
  have h1 : ¬ (if b then 1 else 0) > 1 := by cases b <;> decide
  simp only [Rd.flag, ne_eq, not_true, if_false, hs, hg, h1, skip_append (flag4 b) t 0 4 (num4_size _), Prod.mk.injEq, and_true]
  cases b <;> rfl
theorem text4_size (s : ByteArray) : (text4 s).size = 4 + s.size + padOf s.size := by
  unfold text4; rw [ByteArray.size_append, ByteArray.size_append, num4_size, zeros_size]
theorem extract_mid (a b c : ByteArray) (i j : Nat) (hi : a.size = i) (hj : a.size + b.size = j) : (a ++ b ++ c).extract i j = b := by
  apply ByteArray.ext
  apply Array.toList_inj.1
  simp only [ByteArray.data_extract, ByteArray.data_append, Array.toList_extract, Array.toList_append, List.extract_eq_take_drop]
  have ha : a.data.toList.length = i := by rw [len_data]; exact hi
  have hb : b.data.toList.length = j - i := by rw [len_data]; omega
  rw [List.append_assoc, ← ha, List.drop_left, show j - a.data.toList.length = b.data.toList.length by omega, List.take_left]
theorem zeros_any (n : Nat) : (zeros n).data.toList.any (· != 0) = false := by
  unfold zeros
  rw [List.any_eq_false]
  intro x hx
  simp only [List.mem_replicate] at hx
  simp [hx.2]
theorem text_put (s t : ByteArray) (most : Int) (hs : s.size < 4294967296) (hm : (s.size : Int) ≤ most) : (⟨text4 s ++ t, 0⟩ : Rd).text most = (s, ⟨t, 0⟩) := by
  have hg : get4 (text4 s ++ t) = s.size := by
    unfold text4
    rw [ByteArray.append_assoc, ByteArray.append_assoc]
    exact get4_num4 _ _ hs
  have hz : (text4 s ++ t).size = 4 + s.size + padOf s.size + t.size := by rw [ByteArray.size_append, text4_size]
  have e1 : (text4 s ++ t).extract 4 (4 + s.size) = s := by
    unfold text4
    rw [show num4 s.size ++ s ++ zeros (padOf s.size) ++ t = num4 s.size ++ s ++ (zeros (padOf s.size) ++ t) by simp only [ByteArray.append_assoc]]
    exact extract_mid _ _ _ _ _ (num4_size _) (by rw [num4_size])
  have e2 : (text4 s ++ t).extract (4 + s.size) (4 + s.size + padOf s.size) = zeros (padOf s.size) := by
    unfold text4
    exact extract_mid _ _ _ _ _ (by rw [ByteArray.size_append, num4_size]) (by rw [ByteArray.size_append, num4_size, zeros_size])
  have h1 : ¬ (text4 s ++ t).size < 4 := by omega
  have h2 : ¬ (s.size : Int) > most := by omega
  have h3 : ¬ (text4 s ++ t).size < 4 + s.size + padOf s.size := by omega
  have hk := skip_append (text4 s) t 0 (4 + s.size + padOf s.size) (text4_size s)
  simp only [Rd.text, ne_eq, not_true, if_false, h1, hg, h2, h3, e1, e2, zeros_any, Bool.false_eq_true, hk]
theorem readNums_put : ∀ (l : List Nat) (t : ByteArray), (∀ x ∈ l, x < 4294967296) → readNums l.length ⟨nums4 l ++ t, 0⟩ = (l, ⟨t, 0⟩)
  | [], t, _ => by simp [readNums, nums4]
  | n :: l, t, h => by
    have hn := number_put n (nums4 l ++ t) (h n (by simp))
    have ih := readNums_put l t (fun x hx => h x (by simp [hx]))
    simp only [List.length_cons, readNums, nums4, ByteArray.append_assoc, hn, ih]
theorem list4_size (l : List Nat) : (list4 l).size = 4 + 4 * l.length := by unfold list4; rw [ByteArray.size_append, num4_size, nums4_size]
theorem list_put (l : List Nat) (t : ByteArray) (most : Int) (hx : ∀ x ∈ l, x < 4294967296) (hl : l.length < 4294967296) (hm : (l.length : Int) ≤ most) : (⟨list4 l ++ t, 0⟩ : Rd).list most = (l, ⟨t, 0⟩) := by
  have hg : get4 (list4 l ++ t) = l.length := by
    unfold list4
    rw [ByteArray.append_assoc]
    exact get4_num4 _ _ hl
  have hz : (list4 l ++ t).size = 4 + 4 * l.length + t.size := by rw [ByteArray.size_append, list4_size]
  have hk : (⟨list4 l ++ t, 0⟩ : Rd).skip 4 = ⟨nums4 l ++ t, 0⟩ := by
    unfold list4
    rw [ByteArray.append_assoc]
    exact skip_append _ _ _ _ (num4_size _)
  have h1 : ¬ (list4 l ++ t).size < 4 := by omega
  have h2 : ¬ (l.length : Int) > most := by omega
  have h3 : ¬ (list4 l ++ t).size < 4 + 4 * l.length := by omega
  simp only [Rd.list, ne_eq, not_true, if_false, h1, hg, h2, h3, hk, readNums_put l t hx]
/-! ### what was read, written anew -/
theorem num4_get4 (s : ByteArray) (h : 4 ≤ s.size) : s = num4 (get4 s) ++ s.extract 4 s.size := by
  apply ByteArray.ext
  apply Array.toList_inj.1
  have hl := len_data s
  have e : s.data.toList = [s.data.toList.getD 0 0, s.data.toList.getD 1 0, s.data.toList.getD 2 0, s.data.toList.getD 3 0] ++ s.data.toList.drop 4 := by
    match hq : s.data.toList with
    | [] => rw [hq] at hl; simp at hl; omega
    | [_] => rw [hq] at hl; simp at hl; omega
    | [_, _] => rw [hq] at hl; simp at hl; omega
    | [_, _, _] => rw [hq] at hl; simp at hl; omega
    | a :: b :: c :: d :: r => simp
  have h0 := (s.data.toList.getD 0 0).toNat_lt
  have h1 := (s.data.toList.getD 1 0).toNat_lt
  have h2 := (s.data.toList.getD 2 0).toNat_lt
  have h3 := (s.data.toList.getD 3 0).toNat_lt
  simp only [ByteArray.data_append, Array.toList_append, ByteArray.data_extract, Array.toList_extract, List.extract_eq_take_drop]
  rw [List.take_of_length_le (by rw [List.length_drop, hl]; omega)]
  rw [show (num4 (get4 s)).data.toList = [UInt8.ofNat (get4 s / 16777216), UInt8.ofNat (get4 s / 65536), UInt8.ofNat (get4 s / 256), UInt8.ofNat (get4 s)] from rfl]
  have q0 : UInt8.ofNat (get4 s / 16777216) = s.data.toList.getD 0 0 := by apply UInt8.toNat_inj.1; rw [UInt8.toNat_ofNat']; unfold get4; omega
  have q1 : UInt8.ofNat (get4 s / 65536) = s.data.toList.getD 1 0 := by apply UInt8.toNat_inj.1; rw [UInt8.toNat_ofNat']; unfold get4; omega
  have q2 : UInt8.ofNat (get4 s / 256) = s.data.toList.getD 2 0 := by apply UInt8.toNat_inj.1; rw [UInt8.toNat_ofNat']; unfold get4; omega
  have q3 : UInt8.ofNat (get4 s) = s.data.toList.getD 3 0 := by apply UInt8.toNat_inj.1; rw [UInt8.toNat_ofNat']; unfold get4; omega
  rw [q0, q1, q2, q3]
  exact e
theorem number_back (r : Rd) (h0 : r.e = 0) (h : r.number.2.e = 0) : r.s = num4 r.number.1 ++ r.number.2.s := by
  unfold Rd.number at h ⊢
  simp only [h0, ne_eq, not_true, if_false] at h ⊢
  split at h
  · simp [Rd.fail] at h
  · rename_i hs
    simp only [hs, if_false, Rd.skip]
    exact num4_get4 r.s (by omega)
theorem number_fail {r : Rd} (h : r.e ≠ 0) : r.number = (0, r) := by simp [Rd.number, h]
theorem long_fail {r : Rd} (h : r.e ≠ 0) : r.long = (0, r) := by simp [Rd.long, h]
theorem flag_fail {r : Rd} (h : r.e ≠ 0) : r.flag = (false, r) := by simp [Rd.flag, h]
theorem text_fail {r : Rd} {m : Int} (h : r.e ≠ 0) : r.text m = (ByteArray.empty, r) := by simp [Rd.text, h]
theorem list_fail {r : Rd} {m : Int} (h : r.e ≠ 0) : r.list m = ([], r) := by simp [Rd.list, h]
theorem long8_two (a b : Nat) (ha : a < 4294967296) (hb : b < 4294967296) : long8 (a * 4294967296 + b) = num4 a ++ num4 b := by
  unfold long8
  rw [show (a * 4294967296 + b) / 4294967296 = a by omega, show (a * 4294967296 + b) % 4294967296 = b by omega]
theorem number_e (r : Rd) (h0 : r.e = 0) (hs : 4 ≤ r.s.size) : r.number = (get4 r.s, r.skip 4) := by simp [Rd.number, h0, show ¬ r.s.size < 4 by omega]
theorem skip_size (r : Rd) (n : Nat) : (r.skip n).s.size = r.s.size - n := by simp [Rd.skip]
theorem long_back (r : Rd) (h0 : r.e = 0) (h : r.long.2.e = 0) : r.s = long8 r.long.1 ++ r.long.2.s := by
  unfold Rd.long at h ⊢
  simp only [h0, ne_eq, not_true, if_false] at h ⊢
  split at h
  · simp [Rd.fail] at h
  · rename_i hs
    simp only [hs, if_false]
    have h1 : r.number.2.e = 0 := by rw [number_e r h0 (by omega)]; exact h0
    have a := number_back r h0 h1
    have b := number_back r.number.2 h1 h
    rw [long8_two _ _ (number_lt _) (number_lt _), ByteArray.append_assoc, ← b]
    exact a
theorem flag_back (r : Rd) (h0 : r.e = 0) (h : r.flag.2.e = 0) : r.s = flag4 r.flag.1 ++ r.flag.2.s := by
  unfold Rd.flag at h ⊢
  simp only [h0, ne_eq, not_true, if_false] at h ⊢
  split at h
  · simp [Rd.fail] at h
  · split at h
    · simp [Rd.fail] at h
    · rename_i hs hg
      simp only [hs, hg, if_false, Rd.skip]
      have e := num4_get4 r.s (by omega)
      have : flag4 (get4 r.s == 1) = num4 (get4 r.s) := by
        unfold flag4
        rcases (show get4 r.s = 0 ∨ get4 r.s = 1 by omega) with h | h <;> rw [h] <;> rfl
      rw [this]
      exact e
theorem all_zeros (b : ByteArray) (h : b.data.toList.any (· != 0) = false) : b = zeros b.size := by
  apply ByteArray.ext
  apply Array.toList_inj.1
  unfold zeros
  rw [List.any_eq_false] at h
  simp only [List.toList_toArray]
  rw [← len_data b]
  rw [List.eq_replicate_iff]
  refine ⟨rfl, fun x hx => ?_⟩
  have := h x hx
  simpa using this
theorem extract_split (s : ByteArray) (i j : Nat) (hij : i ≤ j) (hj : j ≤ s.size) : s.extract i s.size = s.extract i j ++ s.extract j s.size := by
  apply ByteArray.ext
  apply Array.toList_inj.1
  have hl := len_data s
  simp only [ByteArray.data_append, Array.toList_append, ByteArray.data_extract, Array.toList_extract, List.extract_eq_take_drop]
  rw [List.take_of_length_le (l := s.data.toList.drop i) (by rw [List.length_drop]; omega), List.take_of_length_le (l := s.data.toList.drop j) (by rw [List.length_drop]; omega)]
  have e : s.data.toList.drop j = (s.data.toList.drop i).drop (j - i) := by rw [List.drop_drop]; congr 1; omega
  rw [e, List.take_append_drop]
theorem text_back (r : Rd) (most : Int) (h0 : r.e = 0) (h : (r.text most).2.e = 0) : r.s = text4 (r.text most).1 ++ (r.text most).2.s := by
  unfold Rd.text at h ⊢
  simp only [h0, ne_eq, not_true, if_false] at h ⊢
  split at h
  · simp [Rd.fail] at h
  · split at h
    · simp [Rd.fail] at h
    · split at h
      · simp [Rd.fail] at h
      · split at h
        · simp [Rd.fail] at h
        · rename_i hs hg hl hz
          simp only [hs, hg, hl, hz, if_false, Rd.skip, Bool.false_eq_true]
          have e := num4_get4 r.s (by omega)
          have hz2 := all_zeros _ (Bool.not_eq_true _ ▸ hz)
          have hsz : (r.s.extract 4 (4 + get4 r.s)).size = get4 r.s := by rw [ByteArray.size_extract]; omega
          have hsz2 : (r.s.extract (4 + get4 r.s) (4 + get4 r.s + padOf (get4 r.s))).size = padOf (get4 r.s) := by rw [ByteArray.size_extract]; omega
          rw [hsz2] at hz2
          have a := extract_split r.s 4 (4 + get4 r.s) (by omega) (by omega)
          have b := extract_split r.s (4 + get4 r.s) (4 + get4 r.s + padOf (get4 r.s)) (by omega) (by omega)
          unfold text4
          rw [hsz, ← hz2, ByteArray.append_assoc, ByteArray.append_assoc, ← b, ← a]
          exact e
theorem readNums_back : ∀ (n : Nat) (r : Rd), r.e = 0 → 4 * n ≤ r.s.size → (readNums n r).2.e = 0 ∧ r.s = nums4 (readNums n r).1 ++ (readNums n r).2.s
  | 0, r, h0, _ => ⟨h0, by simp [readNums, nums4]⟩
  | n + 1, r, h0, hs => by
    have e1 := number_e r h0 (by omega)
    have h1 : r.number.2.e = 0 := by rw [e1]; exact h0
    have h2 : r.number.2.s.size = r.s.size - 4 := by rw [e1]; exact skip_size r 4
    have ih := readNums_back n r.number.2 h1 (by omega)
    refine ⟨ih.1, ?_⟩
    have a := number_back r h0 h1
    simp only [readNums, nums4, ByteArray.append_assoc]
    rw [← ih.2]
    exact a
theorem list_back (r : Rd) (most : Int) (h0 : r.e = 0) (h : (r.list most).2.e = 0) : r.s = list4 (r.list most).1 ++ (r.list most).2.s := by
  unfold Rd.list at h ⊢
  simp only [h0, ne_eq, not_true, if_false] at h ⊢
  split at h
  · simp [Rd.fail] at h
  · split at h
    · simp [Rd.fail] at h
    · split at h
      · simp [Rd.fail] at h
      · rename_i hs hg hl
        simp only [hs, hg, hl, if_false]
        have e := num4_get4 r.s (by omega)
        have b := (readNums_back (get4 r.s) (r.skip 4) h0 (by rw [skip_size]; omega)).2
        unfold list4
        rw [readNums_length, ByteArray.append_assoc, ← b]
        exact e
theorem readNums_lt : ∀ (n : Nat) (r : Rd), ∀ x ∈ (readNums n r).1, x < 4294967296
  | 0, _, x, hx => by simp [readNums] at hx
  | n + 1, r, x, hx => by
    simp only [readNums, List.mem_cons] at hx
    rcases hx with rfl | hx
    · exact number_lt r
    · exact readNums_lt n _ x hx
theorem list_lt (r : Rd) (most : Int) : ∀ x ∈ (r.list most).1, x < 4294967296 := by
  unfold Rd.list
  repeat' split
  all_goals first | (intro x hx; simp at hx; done) | exact readNums_lt _ _
theorem list_len (r : Rd) (most : Int) : (r.list most).1.length = 0 ∨ (((r.list most).1.length : Int) ≤ most ∧ 4 + 4 * (r.list most).1.length ≤ r.s.size) := by
  unfold Rd.list
  repeat' split
  all_goals first | (exact .inl rfl) | (refine .inr ?_; rw [readNums_length]; omega)
theorem long_lt (r : Rd) : r.long.1 < 18446744073709551616 := by
  have a := number_lt r
  have b := number_lt r.number.2
  by_cases h : r.e = 0
  · by_cases hs : r.s.size < 8
    · rw [show r.long = (0, r.fail 2) by simp [Rd.long, h, hs]]; exact Nat.zero_lt_succ _
    · rw [show r.long = (r.number.1 * 4294967296 + r.number.2.number.1, r.number.2.number.2) by simp [Rd.long, h, hs]]
      show r.number.1 * 4294967296 + r.number.2.number.1 < _
      omega
  · rw [long_fail h]; exact Nat.zero_lt_succ _
theorem text_len (r : Rd) (most : Int) : (r.text most).1.size = 0 ∨ (((r.text most).1.size : Int) ≤ most ∧ 4 + (r.text most).1.size ≤ r.s.size) := by
  by_cases h0 : r.e = 0
  · by_cases hs : r.s.size < 4
    · exact .inl (by rw [show r.text most = (ByteArray.empty, r.fail 2) by simp [Rd.text, h0, hs]]; rfl)
    · by_cases hg : (get4 r.s : Int) > most
      · exact .inl (by rw [show r.text most = (ByteArray.empty, r.fail 4) by simp only [Rd.text, h0, hs, hg, ne_eq, not_true, if_false, if_true]]; rfl)
      · by_cases hl : r.s.size < 4 + get4 r.s + padOf (get4 r.s)
        · exact .inl (by rw [show r.text most = (ByteArray.empty, r.fail 2) by simp only [Rd.text, h0, hs, hg, hl, ne_eq, not_true, if_false, if_true]]; rfl)
        · by_cases hz : (r.s.extract (4 + get4 r.s) (4 + get4 r.s + padOf (get4 r.s))).data.toList.any (· != 0) = true
          · exact .inl (by rw [show r.text most = (ByteArray.empty, r.fail 3) by simp only [Rd.text, h0, hs, hg, hl, hz, ne_eq, not_true, if_false, if_true]]; rfl)
          · rw [show r.text most = (r.s.extract 4 (4 + get4 r.s), r.skip (4 + get4 r.s + padOf (get4 r.s))) by simp only [Rd.text, h0, hs, hg, hl, hz, ne_eq, not_true, if_false, Bool.false_eq_true]]
            refine .inr ⟨?_, ?_⟩
            · rw [ByteArray.size_extract]; omega
            · rw [ByteArray.size_extract]; omega
  · exact .inl (by rw [text_fail h0]; rfl)
/-! ### items -/
structure Itm where
  k : Int
  n : Nat
  s : ByteArray
  l : List Nat
def Itm.OK (x : Itm) : Prop := x.n < 18446744073709551616 ∧ x.s.size ≤ 2000 ∧ x.l.length ≤ 500 ∧ ∀ y ∈ x.l, y < 4294967296
def Itm.b (x : Itm) : ByteArray :=
  if x.k.tmod 5 = 0 then num4 (x.n % 4294967296) else if x.k.tmod 5 = 1 then long8 x.n else if x.k.tmod 5 = 2 then flag4 (x.n % 2 == 1)
  else if x.k.tmod 5 = 3 then text4 x.s else if x.k.tmod 5 = 4 then list4 x.l else ByteArray.empty
def allB : List Itm → ByteArray
  | [] => ByteArray.empty
  | x :: l => x.b ++ allB l
theorem allB_append : ∀ l k : List Itm, allB (l ++ k) = allB l ++ allB k
  | [], k => by simp [allB]
  | x :: l, k => by simp only [allB, List.cons_append, allB_append l k, ByteArray.append_assoc]
theorem Itm.b_size (x : Itm) (h : x.OK) : x.b.size ≤ 2007 ∧ x.b.size % 4 = 0 := by
  obtain ⟨_, h2, h3, _⟩ := h
  unfold Itm.b
  repeat' split
  · exact ⟨by rw [num4_size]; omega, by rw [num4_size]⟩
  · exact ⟨by rw [long8_size]; omega, by rw [long8_size]⟩
  · exact ⟨by unfold flag4; rw [num4_size]; omega, by unfold flag4; rw [num4_size]⟩
  · rw [text4_size]; unfold padOf; omega
  · rw [list4_size]; omega
  · exact ⟨by show 0 ≤ _; omega, rfl⟩
theorem allB_size : ∀ l : List Itm, (∀ x ∈ l, x.OK) → (allB l).size ≤ 2007 * l.length ∧ (allB l).size % 4 = 0
  | [], _ => ⟨Nat.zero_le _, rfl⟩
  | x :: l, h => by
    have a := x.b_size (h x (by simp))
    have b := allB_size l (fun y hy => h y (by simp [hy]))
    simp only [allB, ByteArray.size_append, List.length_cons]
    omega
/-- What a call of the kind k leaves of a reader. -/
def Rd.take (r : Rd) (k : Int) : Rd :=
  if k.tmod 5 = 0 then r.number.2 else if k.tmod 5 = 1 then r.long.2 else if k.tmod 5 = 2 then r.flag.2 else if k.tmod 5 = 3 then (r.text 2000).2 else if k.tmod 5 = 4 then (r.list 500).2 else r
/-- Is what is read the item's? -/
def Rd.same (r : Rd) (x : Itm) : Prop :=
  (x.k.tmod 5 = 0 → r.number.1 = x.n % 4294967296) ∧ (x.k.tmod 5 = 1 → r.long.1 = x.n) ∧ (x.k.tmod 5 = 2 → r.flag.1 = (x.n % 2 == 1)) ∧ (x.k.tmod 5 = 3 → (r.text 2000).1 = x.s) ∧ (x.k.tmod 5 = 4 → (r.list 500).1 = x.l)
theorem take_put (x : Itm) (h : x.OK) (t : ByteArray) : (⟨x.b ++ t, 0⟩ : Rd).take x.k = ⟨t, 0⟩ ∧ (⟨x.b ++ t, 0⟩ : Rd).same x := by
  obtain ⟨h1, h2, h3, h4⟩ := h
  by_cases k0 : x.k.tmod 5 = 0
  · have e : x.b = num4 (x.n % 4294967296) := by simp [Itm.b, k0]
    have p := number_put (x.n % 4294967296) t (Nat.mod_lt _ (by decide))
    rw [e]
    refine ⟨by simp [Rd.take, k0, p], fun _ => by rw [p], fun h => by omega, fun h => by omega, fun h => by omega, fun h => by omega⟩
  by_cases k1 : x.k.tmod 5 = 1
  · have e : x.b = long8 x.n := by simp [Itm.b, k1]
    have p := long_put x.n t h1
    rw [e]
    refine ⟨by simp [Rd.take, k1, p], fun h => by omega, fun _ => by rw [p], fun h => by omega, fun h => by omega, fun h => by omega⟩
  by_cases k2 : x.k.tmod 5 = 2
  · have e : x.b = flag4 (x.n % 2 == 1) := by simp [Itm.b, k2]
    have p := flag_put (x.n % 2 == 1) t
    rw [e]
    refine ⟨by simp [Rd.take, k2, p], fun h => by omega, fun h => by omega, fun _ => by rw [p], fun h => by omega, fun h => by omega⟩
  by_cases k3 : x.k.tmod 5 = 3
  · have e : x.b = text4 x.s := by simp [Itm.b, k3]
    have p := text_put x.s t 2000 (by omega) (by omega)
    rw [e]
    refine ⟨by simp [Rd.take, k3, p], fun h => by omega, fun h => by omega, fun h => by omega, fun _ => by rw [p], fun h => by omega⟩
  by_cases k4 : x.k.tmod 5 = 4
  · have e : x.b = list4 x.l := by simp [Itm.b, k4]
    have p := list_put x.l t 500 h4 (by omega) (by omega)
    rw [e]
    refine ⟨by simp [Rd.take, k4, p], fun h => by omega, fun h => by omega, fun h => by omega, fun h => by omega, fun _ => by rw [p]⟩
  · have e : x.b = ByteArray.empty := by simp [Itm.b, k0, k1, k2, k3, k4]
    rw [e]
    refine ⟨by simp [Rd.take, k0, k1, k2, k3, k4], fun h => by omega, fun h => by omega, fun h => by omega, fun h => by omega, fun h => by omega⟩
def takes : List Itm → Rd → Rd
  | [], r => r
  | x :: l, r => takes l (r.take x.k)
theorem take_fail {r : Rd} (k : Int) (h : r.e ≠ 0) : r.take k = r := by
  unfold Rd.take
  rw [number_fail h, long_fail h, flag_fail h, text_fail h, list_fail h]
  repeat' split
  all_goals rfl
theorem takes_fail : ∀ (l : List Itm) {r : Rd}, r.e ≠ 0 → takes l r = r
  | [], _, _ => rfl
  | x :: l, r, h => by rw [takes, take_fail _ h]; exact takes_fail l h
theorem takes_append : ∀ (l : List Itm) (x : Itm) (r : Rd), takes (l ++ [x]) r = (takes l r).take x.k
  | [], _, _ => rfl
  | y :: l, x, r => by simp only [List.cons_append, takes]; exact takes_append l x _
theorem cut_two (s : ByteArray) (c : Nat) (h : c ≤ s.size) : s.extract 0 c ++ s.extract c s.size = s := by
  have e := extract_split s 0 c (Nat.zero_le _) h
  rw [← e]
  apply ByteArray.ext
  apply Array.toList_inj.1
  simp only [ByteArray.data_extract, Array.toList_extract, List.extract_eq_take_drop, List.drop_zero, Nat.sub_zero]
  rw [List.take_of_length_le (by rw [len_data]; omega)]
theorem get4_append (p t : ByteArray) (h : 4 ≤ p.size) : get4 (p ++ t) = get4 p := by
  have e : ∀ k, k < 4 → (p ++ t).data.toList.getD k 0 = p.data.toList.getD k 0 := fun k hk => by
    simp only [List.getD, ByteArray.data_append, Array.toList_append]
    rw [List.getElem?_append_left (by rw [len_data]; omega)]
  unfold get4
  rw [e 0 (by omega), e 1 (by omega), e 2 (by omega), e 3 (by omega)]
theorem cut_item (x : Itm) (h : x.OK) (p t : ByteArray) (hp : p ++ t = x.b) (ht : 0 < t.size) : ((⟨p, 0⟩ : Rd).take x.k).e = 2 := by
  obtain ⟨h1, h2, h3, h4⟩ := h
  have hsz : p.size + t.size = x.b.size := by rw [← hp, ByteArray.size_append]
  by_cases k0 : x.k.tmod 5 = 0
  · have e : x.b = num4 (x.n % 4294967296) := by simp [Itm.b, k0]
    rw [e, num4_size] at hsz
    have hs : p.size < 4 := by omega
    simp [Rd.take, k0, Rd.number, hs, Rd.fail]
  by_cases k1 : x.k.tmod 5 = 1
  · have e : x.b = long8 x.n := by simp [Itm.b, k1]
    rw [e, long8_size] at hsz
    have hs : p.size < 8 := by omega
    simp [Rd.take, k1, Rd.long, hs, Rd.fail]
  by_cases k2 : x.k.tmod 5 = 2
  · have e : x.b = flag4 (x.n % 2 == 1) := by simp [Itm.b, k2]
    rw [e, show (flag4 (x.n % 2 == 1)).size = 4 from num4_size _] at hsz
    have hs : p.size < 4 := by omega
    simp [Rd.take, k2, Rd.flag, hs, Rd.fail]
  by_cases k3 : x.k.tmod 5 = 3
  · have e : x.b = text4 x.s := by simp [Itm.b, k3]
    rw [e, text4_size] at hsz
    by_cases hs : p.size < 4
    · simp [Rd.take, k3, Rd.text, hs, Rd.fail]
    · have hg : get4 p = x.s.size := by
        rw [← get4_append p t (by omega), hp, e]
        unfold text4
        rw [ByteArray.append_assoc]
        exact get4_num4 _ _ (by omega)
      have hm : ¬ (x.s.size : Int) > 2000 := by omega
      have hl : p.size < 4 + x.s.size + padOf x.s.size := by omega
      have e2 : (⟨p, 0⟩ : Rd).text 2000 = (ByteArray.empty, (⟨p, 0⟩ : Rd).fail 2) := by simp only [Rd.text, ne_eq, not_true, if_false, hs, hg, hm, hl, if_true]
      simp [Rd.take, k3, e2, Rd.fail]
  by_cases k4 : x.k.tmod 5 = 4
  · have e : x.b = list4 x.l := by simp [Itm.b, k4]
    rw [e, list4_size] at hsz
    by_cases hs : p.size < 4
    · simp [Rd.take, k4, Rd.list, hs, Rd.fail]
    · have hg : get4 p = x.l.length := by
        rw [← get4_append p t (by omega), hp, e]
        unfold list4
        exact get4_num4 _ _ (by omega)
      have hm : ¬ (x.l.length : Int) > 500 := by omega
      have hl : p.size < 4 + 4 * x.l.length := by omega
      have e2 : (⟨p, 0⟩ : Rd).list 500 = ([], (⟨p, 0⟩ : Rd).fail 2) := by simp only [Rd.list, ne_eq, not_true, if_false, hs, hg, hm, hl, if_true]
      simp [Rd.take, k4, e2, Rd.fail]
  · have e : x.b = ByteArray.empty := by simp [Itm.b, k0, k1, k2, k3, k4]
    rw [e, show ByteArray.empty.size = 0 from rfl] at hsz
    omega
/-- A beginning of two parts: of the first, or all of it and a beginning of the second. -/
theorem split_at (p t a b : ByteArray) (h : p ++ t = a ++ b) : (∃ q, p = a ++ q ∧ q ++ t = b) ∨ ∃ q, p ++ q = a ∧ 0 < q.size := by
  by_cases hs : a.size ≤ p.size
  · refine .inl ⟨p.extract a.size p.size, ?_, ?_⟩
    · have e : (p ++ t).extract 0 a.size = a := by
        rw [h]
        have := extract_mid ByteArray.empty a b 0 a.size rfl (by rw [show ByteArray.empty.size = 0 from rfl]; omega)
        simpa using this
      have e2 : (p ++ t).extract 0 a.size = p.extract 0 a.size := by
        apply ByteArray.ext
        apply Array.toList_inj.1
        simp only [ByteArray.data_extract, ByteArray.data_append, Array.toList_extract, Array.toList_append, List.extract_eq_take_drop, List.drop_zero, Nat.sub_zero]
        rw [List.take_append_of_le_length (by rw [len_data]; exact hs)]
      have e3 := extract_split p 0 a.size (Nat.zero_le _) hs
      rw [← e2, e] at e3
      rw [← e3]
      apply ByteArray.ext
      apply Array.toList_inj.1
      simp only [ByteArray.data_extract, Array.toList_extract, List.extract_eq_take_drop, List.drop_zero, Nat.sub_zero]
      rw [List.take_of_length_le (by rw [len_data]; omega)]
    · have e4 : (p ++ t).extract a.size (p ++ t).size = b := by
        rw [h]
        exact extract_append_right a b
      rw [← e4]
      apply ByteArray.ext
      apply Array.toList_inj.1
      simp only [ByteArray.data_extract, ByteArray.data_append, Array.toList_extract, Array.toList_append, List.extract_eq_take_drop, ByteArray.size_append]
      rw [List.drop_append_of_le_length (by rw [len_data]; exact hs), List.take_of_length_le (by rw [List.length_drop, len_data]; omega), List.take_of_length_le (by rw [List.length_append, List.length_drop, len_data, len_data]; omega)]
  · refine .inr ⟨a.extract p.size a.size, ?_, by rw [ByteArray.size_extract]; omega⟩
    have e : (a ++ b).extract 0 p.size = p := by
      rw [← h]
      have := extract_mid ByteArray.empty p t 0 p.size rfl (by rw [show ByteArray.empty.size = 0 from rfl]; omega)
      simpa using this
    have e2 : (a ++ b).extract 0 p.size = a.extract 0 p.size := by
      apply ByteArray.ext
      apply Array.toList_inj.1
      simp only [ByteArray.data_extract, ByteArray.data_append, Array.toList_extract, Array.toList_append, List.extract_eq_take_drop, List.drop_zero, Nat.sub_zero]
      rw [List.take_append_of_le_length (by rw [len_data]; omega)]
    have e3 := extract_split a 0 p.size (Nat.zero_le _) (by omega)
    rw [← e2, e] at e3
    rw [← e3]
    apply ByteArray.ext
    apply Array.toList_inj.1
    simp only [ByteArray.data_extract, Array.toList_extract, List.extract_eq_take_drop, List.drop_zero, Nat.sub_zero]
    rw [List.take_of_length_le (by rw [len_data]; omega)]
theorem cut_all : ∀ (l : List Itm), (∀ x ∈ l, x.OK) → ∀ p t : ByteArray, p ++ t = allB l → 0 < t.size → (takes l ⟨p, 0⟩).e = 2
  | [], _, p, t, h, ht => by
    have := congrArg ByteArray.size h
    rw [ByteArray.size_append, show (allB []).size = 0 from rfl] at this
    omega
  | x :: l, hx, p, t, h, ht => by
    rcases split_at p t x.b (allB l) h with ⟨q, rfl, hq⟩ | ⟨q, hq, hs⟩
    · rw [takes, (take_put x (hx x (by simp)) q).1]
      exact cut_all l (fun y hy => hx y (by simp [hy])) q t hq ht
    · have e := cut_item x (hx x (by simp)) p q hq hs
      rw [takes, takes_fail l (by omega)]
      exact e
end Go.XdrL
