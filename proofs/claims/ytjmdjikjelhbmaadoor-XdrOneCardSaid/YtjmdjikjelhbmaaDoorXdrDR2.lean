/- Layer xdr: the document's reader: texts and lists. -/
import Derived.Test.YtjmdjikjelhbmaaDoorXdrDR
import Derived.Test.YtjmdjikjelhbmaaDoorXdrLaws
import Derived.Deep.QuietTactic
import Derived.BigQuiet
namespace Go.Proofs.YtjmdjikjelhbmaaDoor.Xdr
open Go.RowKit Go.Own Go.XdrL Go.Blk Go.OpsL Go.Proofs.YtjmdjikjelhbmaaDoorW.PrintLast Go.Proofs.YtjmdjikjelhbmaaDoorW.PrintWords
set_option linter.unusedVariables false
set_option linter.unusedSimpArgs false
variable {w w' : World} {p : Nat} {r r' : Rd}
theorem any_false_of (s : ByteArray) (i j : Nat) (hj : j ≤ s.size) (h : ∀ k, i ≤ k → k < j → s.data.toList.getD k 0 = 0) : (s.extract i j).data.toList.any (· != 0) = false := by
  rw [List.any_eq_false]
  intro x hx
  simp only [ByteArray.data_extract, Array.toList_extract, List.extract_eq_take_drop] at hx
  obtain ⟨n, hn, rfl⟩ := List.getElem_of_mem hx
  have hn1 : n < j - i := by
    have := hn
    rw [List.length_take] at this
    omega
  have hl : i + n < s.data.toList.length := by rw [len_data]; omega
  have e := h (i + n) (by omega) (by omega)
  rw [List.getD, List.getElem?_eq_getElem hl] at e
  simp only [List.getElem_take, List.getElem_drop, bne_iff_ne, ne_eq, Decidable.not_not]
  exact e
theorem any_true_of (s : ByteArray) (i j k : Nat) (hj : j ≤ s.size) (h1 : i ≤ k) (h2 : k < j) (h : s.data.toList.getD k 0 ≠ 0) : (s.extract i j).data.toList.any (· != 0) = true := by
  rw [List.any_eq_true]
  have hl : k < s.data.toList.length := by rw [len_data]; omega
  refine ⟨s.data.toList.getD k 0, ?_, by simpa using h⟩
  simp only [ByteArray.data_extract, Array.toList_extract, List.extract_eq_take_drop]
  rw [List.getD, List.getElem?_eq_getElem hl, Option.getD_some]
  rw [List.mem_iff_getElem]
  refine ⟨k - i, by rw [List.length_take, List.length_drop]; omega, ?_⟩
  rw [List.getElem_take, List.getElem_drop]
  congr 1; omega
set_option maxRecDepth 100000 in
set_option maxHeartbeats 4000000 in
theorem dtext_reads (h : DAt w p r) (most : Int) : Calls Tryd.prog 26 #[.pointer (some ⟨p, 0, none⟩), .int .i64 most] w fun e w' => e = .returned (.string (r.text most).1) ∧ DLeft p (r.text most).2 w w' := by
  have H := Lib.hid h
  obtain ⟨x0, y0, x1, y1⟩ := h.blk
  have hm := h.2
  by_cases he : r.e = 0
  · have hz : ((r.e : Int) != 0) = false := by rw [he]; rfl
    by_cases hs : r.s.size < 4
    · have e : r.text most = (ByteArray.empty, r.fail 2) := by simp [Rd.text, he, hs]
      rw [e]
      clear h
      go_enter Tryd.func26, Tryd.ntmps26
      go_wp2_with (go_at_call 42; refine (at_short H.out hs).mono ?_; rintro e w1 ⟨rfl, rfl⟩)
      go_ret
      exact ⟨rfl, H.out.fail 2⟩
    · have hg := get4_lt r.s
      have HS := Lib.hid (show 4 ≤ r.s.size by omega)
      by_cases hg1 : most < (get4 r.s : Int)
      · have e : r.text most = (ByteArray.empty, r.fail 4) := by simp only [Rd.text, he, hs, hg1, ne_eq, not_true, if_false, if_true, gt_iff_lt]
        rw [e]
        clear h
        go_enter Tryd.func26, Tryd.ntmps26
        go_wp2_with (go_at_call 42; refine (at_ok H.out HS.out).mono ?_; rintro e w1 ⟨rfl, hb⟩; have H2 := Lib.hid (H.out.below hb); have HB := Lib.hid hb; clear hb x0 y0 x1 y1; obtain ⟨x0, y0, x1, y1⟩ := H2.out.blk)
        go_ret
        have h3 := H2.out.fail 4
        exact ⟨rfl, h3.1, (Fr.of_below HB.out).trans h3.2 (fun _ _ h => h)⟩
      · have HT : Hid (r.text most = if r.s.size < 4 + get4 r.s + padOf (get4 r.s) then (ByteArray.empty, r.fail 2)
            else if (r.s.extract (4 + get4 r.s) (4 + get4 r.s + padOf (get4 r.s))).data.toList.any (· != 0) then (ByteArray.empty, r.fail 3)
            else (r.s.extract 4 (4 + get4 r.s), r.skip (4 + get4 r.s + padOf (get4 r.s)))) := Lib.hid (by simp only [Rd.text, he, hs, hg1, ne_eq, not_true, if_false, gt_iff_lt])
        have HPK := Lib.hid (at_ok H.out HS.out)
        clear h
        generalize hn : get4 r.s = n at hg hg1 HT HPK
        have hpl := padOf_lt n
        have HPD : Hid (padOf n = (4 - n % 4) % 4) := Lib.hid rfl
        go_enter Tryd.func26, Tryd.ntmps26
        go_wp2_with (go_at_call 42; refine HPK.out.mono ?_; rintro e w1 ⟨rfl, hb⟩; have H2 := Lib.hid (H.out.below hb); have HB := Lib.hid hb; clear hb x0 y0 x1 y1; obtain ⟨x0, y0, x1, y1⟩ := H2.out.blk)
        clear hn
        obtain ⟨al, hal⟩ : ∃ al, al = n + padOf n := ⟨_, rfl⟩
        have HAL : Hid (n ≤ al ∧ al < n + 4 ∧ al % 4 = 0 ∧ al = n + (4 - n % 4) % 4) := Lib.hid (by have := HPD.out; omega)
        rw [show 4 + n + padOf n = 4 + al by omega] at HT
        have h1 : n ≤ al := by omega
        have h2 : al < n + 4 := by omega
        clear hal HPD hpl
        go_loop [6] (fun i => ∃ t : Nat, n ≤ t ∧ t ≤ al ∧ i = .int .i64 (t : Int)) (fun i => n + 4 - (intOf i).toNat)
        case atStart => exact ⟨n, Nat.le_refl _, h1, rfl⟩
        case round =>
          obtain ⟨t, ht1, ht2, rfl⟩ := hrel
          by_cases hlt : t < al
          · have hnz : (((t : Int) % 4) != 0) = true := by
              have := HAL.out
              rw [bne_iff_ne]; omega
            go_wp2
            go_round
            case rel => exact ⟨t + 1, by omega, by omega, by go_num⟩
            case measure => simp [intOf]; omega
          · obtain rfl : t = al := by omega
            have hnz : (((t : Int) % 4) != 0) = false := by
              have := HAL.out
              rw [bne_eq_false_iff_eq]; omega
            by_cases hl : r.s.size < 4 + t
            · go_wp2
              go_ret
              rw [HT.out, if_pos hl]
              have h3 := H2.out.fail 2
              exact ⟨rfl, h3.1, (Fr.of_below HB.out).trans h3.2 (fun _ _ h => h)⟩
            · have ht := HT.out
              rw [if_neg hl] at ht
              have HTT := Lib.hid ht
              clear HT ht
              go_wp2
              go_loop [7] (fun i => ∃ j : Nat, n ≤ j ∧ j ≤ t ∧ i = .int .i64 (j : Int) ∧ Hid (∀ q, 4 + n ≤ q → q < 4 + j → r.s.data.toList.getD q 0 = 0)) (fun i => n + 4 - (intOf i).toNat)
              case atStart => exact ⟨n, Nat.le_refl _, h1, rfl, Lib.hid (fun q _ _ => by omega)⟩
              case round =>
                obtain ⟨j, hj1, hj2, rfl, HJ⟩ := hrel
                by_cases hlj : j < t
                · have hi : 4 + j < r.s.size := by omega
                  have hb := byte_at r.s (4 + j) hi
                  have HBJ := Lib.hid hb
                  clear hb
                  go_wp2
                  · have hq : ((r.s[4 + j].toNat : Int) != 0) = true := by assumption
                    have hne : r.s.data.toList.getD (4 + j) 0 ≠ 0 := by
                      rw [← HBJ.out]
                      intro e
                      rw [e] at hq
                      simp at hq
                    have ha := any_true_of r.s (4 + n) (4 + t) (4 + j) (by omega) (by omega) (by omega) hne
                    go_ret
                    rw [HTT.out, if_pos ha]
                    have h3 := H2.out.fail 3
                    exact ⟨rfl, h3.1, (Fr.of_below HB.out).trans h3.2 (fun _ _ h => h)⟩
                  · have hq : ((r.s[4 + j].toNat : Int) != 0) = false := by assumption
                    have he0 : r.s.data.toList.getD (4 + j) 0 = 0 := by
                      rw [← HBJ.out]
                      simp only [bne_eq_false_iff_eq] at hq
                      apply UInt8.toNat_inj.1
                      show _ = 0
                      omega
                    go_round
                    case rel => exact ⟨j + 1, by omega, by omega, by go_num, Lib.hid (fun q h1 h2 => by
                      by_cases hqj : q = 4 + j
                      · rw [hqj]; exact he0
                      · exact HJ.out q h1 (by omega))⟩
                    case measure => simp [intOf]; omega
                · obtain rfl : j = t := by omega
                  have ha := any_false_of r.s (4 + n) (4 + j) (by omega) HJ.out
                  have HAA := Lib.hid ha
                  have hsl : 4 + n ≤ r.s.size := by omega
                  have hsl2 : 4 + j ≤ r.s.size := by omega
                  clear ha
                  have hrs := run_slice_string (P := Tryd.prog) w1 9 r.s .i64 .i64 4 (4 + (n : Int)) Tryd.underlying9 (by omega) (by omega) (by omega)
                  simp only [show (4 : Int).toNat = 4 from rfl, show (4 + (n : Int)).toNat = 4 + n by omega] at hrs
                  go_wp2
                  clear hrs
                  go_ret
                  rw [HTT.out, if_neg (by rw [HAA.out]; exact Bool.false_ne_true)]
                  have h3 := H2.out.skip (4 + j)
                  exact ⟨rfl, h3.1, (Fr.of_below HB.out).trans h3.2 (fun _ _ h => h)⟩
  · have e : r.text most = (ByteArray.empty, r) := by simp [Rd.text, he]
    rw [e]
    clear h
    have hz : ((r.e : Int) != 0) = true := by rw [bne_iff_ne]; omega
    go_enter Tryd.func26, Tryd.ntmps26
    go_wp2
    go_ret
    exact ⟨rfl, H.out, Fr.refl _ _⟩
set_option maxRecDepth 100000 in
set_option maxHeartbeats 4000000 in
theorem dlist_reads (h : DAt w p r) (most : Int) : Calls Tryd.prog 29 #[.pointer (some ⟨p, 0, none⟩), .int .i64 most] w fun e w' => (∃ v, e = .returned v ∧ w'.ownsRow w.heap.size 29 1 v (r.list most).1.length (ucells (r.list most).1)) ∧ DLeft p (r.list most).2 w w' := by
  have H := Lib.hid h
  obtain ⟨x0, y0, x1, y1⟩ := h.blk
  have hm := h.2
  by_cases he : r.e = 0
  · have hz : ((r.e : Int) != 0) = false := by rw [he]; rfl
    by_cases hs : r.s.size < 4
    · have e : r.list most = ([], r.fail 2) := by simp [Rd.list, he, hs]
      rw [e]
      clear h
      go_enter Tryd.func29, Tryd.ntmps29
      go_wp2_with (go_at_call 42; refine (at_short H.out hs).mono ?_; rintro e w1 ⟨rfl, rfl⟩)
      go_ret
      exact ⟨⟨_, rfl, World.ownsRow_nil _ _ _ _⟩, H.out.fail 2⟩
    · have hg := get4_lt r.s
      have HS := Lib.hid (show 4 ≤ r.s.size by omega)
      by_cases hg1 : most < (get4 r.s : Int)
      · have e : r.list most = ([], r.fail 4) := by simp only [Rd.list, he, hs, hg1, ne_eq, not_true, if_false, if_true, gt_iff_lt]
        rw [e]
        clear h
        go_enter Tryd.func29, Tryd.ntmps29
        go_wp2_with (go_at_call 42; refine (at_ok H.out HS.out).mono ?_; rintro e w1 ⟨rfl, hb⟩; have H2 := Lib.hid (H.out.below hb); have HB := Lib.hid hb; clear hb x0 y0 x1 y1; obtain ⟨x0, y0, x1, y1⟩ := H2.out.blk)
        go_ret
        have h3 := H2.out.fail 4
        exact ⟨⟨_, rfl, World.ownsRow_nil _ _ _ _⟩, h3.1, (Fr.of_below HB.out).trans h3.2 (fun _ _ h => h)⟩
      · by_cases hg2 : r.s.size < 4 + 4 * get4 r.s
        · have e : r.list most = ([], r.fail 2) := by simp only [Rd.list, he, hs, hg1, hg2, ne_eq, not_true, if_false, if_true, gt_iff_lt]
          rw [e]
          have hq : ((r.s.size : Int) - 4) / 4 < (get4 r.s : Int) := by omega
          clear h
          go_enter Tryd.func29, Tryd.ntmps29
          go_wp2_with (go_at_call 42; refine (at_ok H.out HS.out).mono ?_; rintro e w1 ⟨rfl, hb⟩; have H2 := Lib.hid (H.out.below hb); have HB := Lib.hid hb; clear hb x0 y0 x1 y1; obtain ⟨x0, y0, x1, y1⟩ := H2.out.blk)
          go_ret
          have h3 := H2.out.fail 2
          exact ⟨⟨_, rfl, World.ownsRow_nil _ _ _ _⟩, h3.1, (Fr.of_below HB.out).trans h3.2 (fun _ _ h => h)⟩
        · have e : r.list most = readNums (get4 r.s) (r.skip 4) := by simp only [Rd.list, he, hs, hg1, hg2, ne_eq, not_true, if_false, gt_iff_lt]
          rw [e]
          clear h
          have HPK := Lib.hid (at_ok H.out HS.out)
          generalize hn : get4 r.s = n at hg hg1 hg2 HPK ⊢
          clear hn
          have hq : ¬ ((r.s.size : Int) - 4) / 4 < (n : Int) := by omega
          go_enter Tryd.func29, Tryd.ntmps29
          go_wp2_with (go_at_call 42; refine HPK.out.mono ?_; rintro e w1 ⟨rfl, hb⟩; have H2 := Lib.hid (H.out.below hb); have HB := Lib.hid hb; clear hb x0 y0 x1 y1; obtain ⟨x0, y0, x1, y1⟩ := H2.out.blk)
          have H3 : Hid (DLeft p (r.skip 4) w (w1.setCell ⟨p, 0, none⟩ (.string (r.s.extract 4 r.s.size)))) := ⟨(H2.out.skip 4).1, (Fr.of_below HB.out).trans (H2.out.skip 4).2 (fun _ _ h => h)⟩
          clear x0 y0 x1 y1 H2 hq
          generalize w1.setCell ⟨p, 0, none⟩ (.string (r.s.extract 4 r.s.size)) = w3 at H3 ⊢
          have HPL := Lib.hid (lt_of H.out.1)
          have HGG := Lib.hid hg
          go_loopw [6, 7] (fun s6 s7 wr => ∃ (k : Nat) (v : Value), s7 = .int .i64 k ∧ k ≤ n ∧ s6 = v ∧ Hid (wr.ownsRow w.heap.size 29 1 v k (ucells (readNums k (r.skip 4)).1)) ∧ Hid (DLeft p (readNums k (r.skip 4)).2 w wr)) (fun _ s7 _ => n - (intOf s7).toNat)
          case atStart => exact ⟨0, _, by simp, Nat.zero_le _, rfl, Lib.hid (World.ownsRow_nil _ _ _ _), H3⟩
          case round =>
            clear H3
            obtain ⟨k, v, rfl, hk, rfl, HO, HL⟩ := hrel
            obtain ⟨av, cv, rfl, _⟩ := row_form HO.out
            by_cases hlt : k < n
            · have HK := Lib.hid (readNums_succ k (r.skip 4))
              have HX := Lib.hid (dnumber_reads HL.out.1)
              generalize (readNums k (r.skip 4)).2.number = q at HK HX
              go_wp2_with (first | (go_at_call 20; refine HX.out.mono ?_; rintro e w4 ⟨rfl, h4⟩; have H4 := Lib.hid h4; clear h4) | ((with_reducible refine gate_dst (N := 55) rfl ?_); refine stop_here ?_))
              refine Lib.hid ?_
              have HO4 := H4.out.2.row HO.out (fun j hj e => by have := (HO.out.lt j hj).1; have := HPL.out; omega)
              have hsz4 := (HL.out.2.trans H4.out.2 (fun _ _ h => h)).size
              obtain ⟨v', w5, hr, hO5, hF5⟩ := add32 HO4 q.1 (by have := HGG.out; omega) hsz4
              have HO5 := Lib.hid hO5
              have hnb : ∀ j, (Value.slice av k cv).ownBlock = some j → w.heap.size ≤ j := fun j hj => (HO.out.lt j hj).1
              have HL5 : Hid (DLeft p q.2 w w5) := ⟨H4.out.1.keep hF5 (fun hj => by have := hnb _ hj; have := HPL.out; omega), (HL.out.2.trans H4.out.2 (fun _ _ h => h)).trans hF5 (fun i hi hj => by have := hnb _ hj; omega)⟩
              refine wpList_val rfl rfl (execOp_append rfl rfl rfl hr) ?_
              clear hr hO5 hF5 hsz4 HO4 hnb
              go_wp2
              go_roundw
              case rel => exact ⟨k + 1, _, by simp, by omega, rfl, Lib.hid (by rw [HK.out]; exact HO5.out), Lib.hid (by rw [HK.out]; exact HL5.out)⟩
              case measure => simp [intOf]; omega
            · obtain rfl : k = n := by omega
              go_wp2
              go_ret
              exact ⟨⟨_, rfl, by rw [readNums_length]; exact HO.out⟩, HL.out⟩
  · have e : r.list most = ([], r) := by simp [Rd.list, he]
    rw [e]
    clear h
    have hz : ((r.e : Int) != 0) = true := by rw [bne_iff_ne]; omega
    go_enter Tryd.func29, Tryd.ntmps29
    go_wp2
    go_ret
    exact ⟨⟨_, rfl, World.ownsRow_nil _ _ _ _⟩, H.out, Fr.refl _ _⟩
/-- Two lists that are the same. -/
def SamePost (w : World) (e : Ending) (w' : World) : Prop := e = .returned (.bool true) ∧ Below w.heap.size w w'
set_option maxHeartbeats 2000000 in
theorem same_true (A1 A2 : Option Addr) (n c1 c2 : Nat) (l : List Nat) (hn : l.length = n) (hm : n ≤ 200000000000000) (w : World) (h1 : U32s w A1 l) (h2 : U32s w A2 l) : Calls Tryd.prog 27 #[.slice A1 n c1, .slice A2 n c2] w (SamePost w) := by
  have HL := Lib.hid hn
  have HA := Lib.hid h1
  have HB := Lib.hid h2
  clear h1 h2 hn
  go_enter Tryd.func27, Tryd.ntmps27
  go_wp2
  go_loopw [5] (fun s5 wr => ∃ k : Nat, k ≤ n ∧ s5 = .int .i64 (k : Int) ∧ Hid (Below w.heap.size w wr)) (fun s5 _ => n - (intOf s5).toNat)
  case atStart => exact ⟨0, Nat.zero_le _, by simp, Lib.hid (Below.refl _ _)⟩
  case round =>
    obtain ⟨k, hk, rfl, HW⟩ := hrel
    by_cases hlt : k < n
    · have hkl : k < l.length := by have := HL.out; omega
      obtain ⟨b1, o1, rfl, hb1, hc1⟩ := HA.out k hkl
      obtain ⟨b2, o2, rfl, hb2, hc2⟩ := HB.out k hkl
      have e1 := (HW.out.cell (p := ⟨b1, o1 + k, none⟩) hb1).trans (by have := hc1 0 _ rfl; simpa using this)
      have e2 := (HW.out.cell (p := ⟨b2, o2 + k, none⟩) hb2).trans (by have := hc2 0 _ rfl; simpa using this)
      generalize l[k] = x at e1 e2
      clear hc1 hc2
      have i0 : (0 : Int) ≤ (k : Int) := by omega
      have i1 : (k : Int) < (n : Int) := by omega
      go_wp2
      go_quiet (fail)
      go_wp2
      go_roundw
      case rel => exact ⟨k + 1, by omega, by go_num, Lib.hid (HW.out.trans ⟨rfl, rfl, rfl, Nat.le_refl _, fun _ _ => rfl⟩)⟩
      case measure => simp [intOf]; omega
    · go_wp2
      go_ret
      exact ⟨rfl, HW.out⟩
end Go.Proofs.YtjmdjikjelhbmaaDoor.Xdr
