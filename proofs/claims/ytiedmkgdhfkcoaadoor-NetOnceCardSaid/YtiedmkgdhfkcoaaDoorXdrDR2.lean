/- Layer xdr: the document's reader: texts and lists. -/
import Derived.Test.YtiedmkgdhfkcoaaDoorXdrDR
import Derived.Test.YtiedmkgdhfkcoaaDoorXdrLaws
import Derived.Deep.QuietTactic
import Derived.BigQuiet
namespace Go.Proofs.YtiedmkgdhfkcoaaDoor.Xdr
open Go.RowKit Go.Own Go.XdrL Go.Blk Go.OpsL Go.Proofs.YtiedmkgdhfkcoaaDoorW.PrintLast Go.Proofs.YtiedmkgdhfkcoaaDoorW.PrintWords
set_option linter.unusedVariables false
set_option linter.unusedSimpArgs false
variable {w w' : World} {p : Nat} {r r' : Rd}
theorem any_false_of (s : ByteArray) (i j : Nat) (hj : j ≤ s.size) (h : ∀ k, i ≤ k → k < j → s.data.toList.getD k 0 = 0) : (s.extract i j).data.toList.any (· != 0) = false := by
  rw [List.any_eq_false]
  intro x hx
  simp only [ByteArray.data_extract, Array.toList_extract, List.extract_eq_take_drop] at hx
  obtain ⟨n, hn, rfl⟩ := List.getElem_of_mem hx
  have hn1 : n < j - i := by
    have := hn
    rw [List.length_take] at this
    omega
  have hl : i + n < s.data.toList.length := by rw [len_data]; omega
  have e := h (i + n) (by omega) (by omega)
  rw [List.getD, List.getElem?_eq_getElem hl] at e
  simp only [List.getElem_take, List.getElem_drop, bne_iff_ne, ne_eq, Decidable.not_not]
  exact e
theorem any_true_of (s : ByteArray) (i j k : Nat) (hj : j ≤ s.size) (h1 : i ≤ k) (h2 : k < j) (h : s.data.toList.getD k 0 ≠ 0) : (s.extract i j).data.toList.any (· != 0) = true := by
  rw [List.any_eq_true]
  have hl : k < s.data.toList.length := by rw [len_data]; omega
  refine ⟨s.data.toList.getD k 0, ?_, by simpa using h⟩
  simp only [ByteArray.data_extract, Array.toList_extract, List.extract_eq_take_drop]
  rw [List.getD, List.getElem?_eq_getElem hl, Option.getD_some]
  rw [List.mem_iff_getElem]
  refine ⟨k - i, by rw [List.length_take, List.length_drop]; omega, ?_⟩
  rw [List.getElem_take, List.getElem_drop]
  congr 1; omega
set_option maxRecDepth 100000 in
set_option maxHeartbeats 4000000 in
theorem dtext_reads (h : DAt w p r) (most : Int) : Calls Tryd.prog 44 #[.pointer (some ⟨p, 0, none⟩), .int .i64 most] w fun e w' => e = .returned (.string (r.text most).1) ∧ DLeft p (r.text most).2 w w' := by
  have H := Lib.hid h
  obtain ⟨x0, y0, x1, y1⟩ := h.blk
  have hm := h.2
  by_cases he : r.e = 0
  · have hz : ((r.e : Int) != 0) = false := by rw [he]; rfl
    by_cases hs : r.s.size < 4
    · have e : r.text most = (ByteArray.empty, r.fail 2) := by simp [Rd.text, he, hs]
      rw [e]
      clear h
      go_enter Tryd.func44, Tryd.ntmps44
      go_wp2_with (go_at_call 51; refine (at_short H.out hs).mono ?_; rintro e w1 ⟨rfl, rfl⟩)
      go_ret
      exact ⟨rfl, H.out.fail 2⟩
    · have hg := get4_lt r.s
      have HS := Lib.hid (show 4 ≤ r.s.size by omega)
      by_cases hg1 : most < (get4 r.s : Int)
      · have e : r.text most = (ByteArray.empty, r.fail 4) := by simp only [Rd.text, he, hs, hg1, ne_eq, not_true, if_false, if_true, gt_iff_lt]
        rw [e]
        clear h
        go_enter Tryd.func44, Tryd.ntmps44
        go_wp2_with (go_at_call 51; refine (at_ok H.out HS.out).mono ?_; rintro e w1 ⟨rfl, hb⟩; have H2 := Lib.hid (H.out.below hb); have HB := Lib.hid hb; clear hb x0 y0 x1 y1; obtain ⟨x0, y0, x1, y1⟩ := H2.out.blk)
        go_ret
        have h3 := H2.out.fail 4
        exact ⟨rfl, h3.1, (Fr.of_below HB.out).trans h3.2 (fun _ _ h => h)⟩
      · have HT : Hid (r.text most = if r.s.size < 4 + get4 r.s + padOf (get4 r.s) then (ByteArray.empty, r.fail 2)
            else if (r.s.extract (4 + get4 r.s) (4 + get4 r.s + padOf (get4 r.s))).data.toList.any (· != 0) then (ByteArray.empty, r.fail 3)
            else (r.s.extract 4 (4 + get4 r.s), r.skip (4 + get4 r.s + padOf (get4 r.s)))) := Lib.hid (by simp only [Rd.text, he, hs, hg1, ne_eq, not_true, if_false, gt_iff_lt])
        have HPK := Lib.hid (at_ok H.out HS.out)
        clear h
        generalize hn : get4 r.s = n at hg hg1 HT HPK
        have hpl := padOf_lt n
        have HPD : Hid (padOf n = (4 - n % 4) % 4) := Lib.hid rfl
        go_enter Tryd.func44, Tryd.ntmps44
        go_wp2_with (go_at_call 51; refine HPK.out.mono ?_; rintro e w1 ⟨rfl, hb⟩; have H2 := Lib.hid (H.out.below hb); have HB := Lib.hid hb; clear hb x0 y0 x1 y1; obtain ⟨x0, y0, x1, y1⟩ := H2.out.blk)
        clear hn
        obtain ⟨al, hal⟩ : ∃ al, al = n + padOf n := ⟨_, rfl⟩
        have HAL : Hid (n ≤ al ∧ al < n + 4 ∧ al % 4 = 0 ∧ al = n + (4 - n % 4) % 4) := Lib.hid (by have := HPD.out; omega)
        rw [show 4 + n + padOf n = 4 + al by omega] at HT
        have h1 : n ≤ al := by omega
        have h2 : al < n + 4 := by omega
        clear hal HPD hpl
        go_loop [6] (fun i => ∃ t : Nat, n ≤ t ∧ t ≤ al ∧ i = .int .i64 (t : Int)) (fun i => n + 4 - (intOf i).toNat)
        case atStart => exact ⟨n, Nat.le_refl _, h1, rfl⟩
        case round =>
          obtain ⟨t, ht1, ht2, rfl⟩ := hrel
          by_cases hlt : t < al
          · have hnz : (((t : Int) % 4) != 0) = true := by
              have := HAL.out
              rw [bne_iff_ne]; omega
            go_wp2
            go_round
            case rel => exact ⟨t + 1, by omega, by omega, by go_num⟩
            case measure => simp [intOf]; omega
          · obtain rfl : t = al := by omega
            have hnz : (((t : Int) % 4) != 0) = false := by
              have := HAL.out
              rw [bne_eq_false_iff_eq]; omega
            by_cases hl : r.s.size < 4 + t
            · go_wp2
              go_ret
              rw [HT.out, if_pos hl]
              have h3 := H2.out.fail 2
              exact ⟨rfl, h3.1, (Fr.of_below HB.out).trans h3.2 (fun _ _ h => h)⟩
            · have ht := HT.out
              rw [if_neg hl] at ht
              have HTT := Lib.hid ht
              clear HT ht
              go_wp2
              go_loop [7] (fun i => ∃ j : Nat, n ≤ j ∧ j ≤ t ∧ i = .int .i64 (j : Int) ∧ Hid (∀ q, 4 + n ≤ q → q < 4 + j → r.s.data.toList.getD q 0 = 0)) (fun i => n + 4 - (intOf i).toNat)
              case atStart => exact ⟨n, Nat.le_refl _, h1, rfl, Lib.hid (fun q _ _ => by omega)⟩
              case round =>
                obtain ⟨j, hj1, hj2, rfl, HJ⟩ := hrel
                by_cases hlj : j < t
                · have hi : 4 + j < r.s.size := by omega
                  have hb := byte_at r.s (4 + j) hi
                  have HBJ := Lib.hid hb
                  clear hb
                  go_wp2
                  · have hq : ((r.s[4 + j].toNat : Int) != 0) = true := by assumption
                    have hne : r.s.data.toList.getD (4 + j) 0 ≠ 0 := by
                      rw [← HBJ.out]
                      intro e
                      rw [e] at hq
                      simp at hq
                    have ha := any_true_of r.s (4 + n) (4 + t) (4 + j) (by omega) (by omega) (by omega) hne
                    go_ret
                    rw [HTT.out, if_pos ha]
                    have h3 := H2.out.fail 3
                    exact ⟨rfl, h3.1, (Fr.of_below HB.out).trans h3.2 (fun _ _ h => h)⟩
                  · have hq : ((r.s[4 + j].toNat : Int) != 0) = false := by assumption
                    have he0 : r.s.data.toList.getD (4 + j) 0 = 0 := by
                      rw [← HBJ.out]
                      simp only [bne_eq_false_iff_eq] at hq
                      apply UInt8.toNat_inj.1
                      show _ = 0
                      omega
                    go_round
                    case rel => exact ⟨j + 1, by omega, by omega, by go_num, Lib.hid (fun q h1 h2 => by
                      by_cases hqj : q = 4 + j
                      · rw [hqj]; exact he0
                      · exact HJ.out q h1 (by omega))⟩
                    case measure => simp [intOf]; omega
                · obtain rfl : j = t := by omega
                  have ha := any_false_of r.s (4 + n) (4 + j) (by omega) HJ.out
                  have HAA := Lib.hid ha
                  have hsl : 4 + n ≤ r.s.size := by omega
                  have hsl2 : 4 + j ≤ r.s.size := by omega
                  clear ha
                  have hrs := run_slice_string (P := Tryd.prog) w1 9 r.s .i64 .i64 4 (4 + (n : Int)) Tryd.underlying9 (by omega) (by omega) (by omega)
                  simp only [show (4 : Int).toNat = 4 from rfl, show (4 + (n : Int)).toNat = 4 + n by omega] at hrs
                  go_wp2
                  clear hrs
                  go_ret
                  rw [HTT.out, if_neg (by rw [HAA.out]; exact Bool.false_ne_true)]
                  have h3 := H2.out.skip (4 + j)
                  exact ⟨rfl, h3.1, (Fr.of_below HB.out).trans h3.2 (fun _ _ h => h)⟩
  · have e : r.text most = (ByteArray.empty, r) := by simp [Rd.text, he]
    rw [e]
    clear h
    have hz : ((r.e : Int) != 0) = true := by rw [bne_iff_ne]; omega
    go_enter Tryd.func44, Tryd.ntmps44
    go_wp2
    go_ret
    exact ⟨rfl, H.out, Fr.refl _ _⟩
/-- Two lists that are the same. -/
def SamePost (w : World) (e : Ending) (w' : World) : Prop := e = .returned (.bool true) ∧ Below w.heap.size w w'
end Go.Proofs.YtiedmkgdhfkcoaaDoor.Xdr
