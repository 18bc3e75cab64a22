/- Layer xdr: the walk of XdrCut: of bytes that were cut off, not all is read. -/
import Derived.Test.YtjmdjikjelhbmaaDoorXdrAlive
import Derived.Test.YtjmdjikjelhbmaaDoorXdrWrite
namespace Go.Proofs.YtjmdjikjelhbmaaDoor.Xdr
open Go.RowKit Go.Own Go.XdrL Go.Blk Go.OpsL Go.Sees Go.Proofs.YtjmdjikjelhbmaaDoorW.PrintLast Go.Proofs.YtjmdjikjelhbmaaDoorW.PrintWords
set_option linter.unusedVariables false
set_option linter.unusedSimpArgs false
set_option maxHeartbeats 8000000 in
theorem xdrCut_walk (a0 : Option Addr) (len0 cap0 : Nat) (a1 : Int) (w : World) (w0 : Sees Tryd.prog w 140737488351232 5 33 [.slice a0 len0 cap0]) (w1 : (Lit.int .i64 a1).wf = true) :
    Calls Tryd.prog 7 #[.slice a0 len0 cap0, .int .i64 a1] w fun e w' => e = .returned (.bool true) ∧ Below w.heap.size w w' := by
  obtain ⟨l, hl, hm, hA, hO⟩ := sees_items (k := 0) (Nat.le_refl _) w0
  have hb1 := bounds_i64 w1
  clear w0 w1
  have HLE := Lib.hid (Nat.le_refl w.heap.size)
  have HA := Lib.hid hA
  have HO := Lib.hid hO
  have HL := Lib.hid hl
  have HM := Lib.hid hm
  clear hA hO hl hm
  go_enter Tryd.func7, Tryd.ntmps7
  go_wp2_with fail
  refine (alive_calls w).mono ?_
  rintro e w1 ⟨rfl, hb⟩
  have H0 := Lib.hid hb
  clear hb
  go_wp2_with fail
  refine (great_any a0 len0 cap0 l HL.out HM.out w1 (ArrAt.below HA.out H0.out) (fun y hy => (HO.out y hy).2.2.2.2.2)).mono ?_
  rintro e w2 ⟨g, rfl, rfl, hg⟩
  cases g
  · obtain ⟨h60, hs⟩ := hg rfl
    have HS := Lib.hid hs
    have HW0 := Lib.hid (WB.new H0.out HLE.out)
    obtain ⟨P, hP⟩ : ∃ P, w1.heap.size = P := ⟨_, rfl⟩
    have HWP : Hid (WB w.heap.size P w (w1.alloc (.cells #[.slice none 0 0] 26)) ByteArray.empty) := by rw [← hP]; exact HW0
    have HIT : Hid (∀ k, k ≤ l.length → (allB ((l.take k).map (·.x))).size ≤ 2007 * k ∧ (allB ((l.take k).map (·.x))).size % 4 = 0) := fun k hk => by
      have := allB_size ((l.take k).map (·.x)) (fun x hx => by
        obtain ⟨y, hy, rfl⟩ := List.mem_map.1 hx
        exact (HO.out y (List.mem_of_mem_take hy)).item (hs y (List.mem_of_mem_take hy)))
      rw [List.length_map, List.length_take, Nat.min_eq_left hk] at this
      exact this
    have HCUT : Hid (∀ p t : ByteArray, p ++ t = allB (l.map (·.x)) → 0 < t.size → (takes (l.map (·.x)) ⟨p, 0⟩).e = 2) := Lib.hid (cut_all (l.map (·.x)) (fun x hx => by
        obtain ⟨y, hy, rfl⟩ := List.mem_map.1 hx
        exact (HO.out y hy).item (hs y hy)))
    clear hg hs H0 HW0
    go_wp2
    clear hP
    generalize w1.alloc (.cells #[.slice none 0 0] 26) = w2 at HWP ⊢
    go_loopw [6] (fun s6 wr => ∃ k : Nat, k ≤ len0 ∧ s6 = .int .i64 k ∧ Hid (WB w.heap.size P w wr (allB ((l.take k).map (·.x))))) (fun s6 _ => len0 - (intOf s6).toNat)
    case atStart => exact ⟨0, Nat.zero_le _, by simp, HWP⟩
    case round =>
      clear HWP
      obtain ⟨k, hk, rfl, HW⟩ := hrel
      by_cases hlt : k < len0
      · have hkl : k < l.length := by have := HL.out; omega
        obtain ⟨y, hy⟩ : ∃ y, l[k] = y := ⟨_, rfl⟩
        obtain ⟨blk, off, rfl, hb, hc⟩ := item_of HA.out k hkl hy
        have HC := Lib.hid hc
        have HBK := Lib.hid hb
        have HY := Lib.hid (HO.out y (hy ▸ List.getElem_mem _))
        have HYS := Lib.hid (HS.out y (hy ▸ List.getElem_mem _))
        have HTK := Lib.hid (show allB ((l.take (k + 1)).map (·.x)) = allB ((l.take k).map (·.x)) ++ y.x.b by
          rw [List.take_succ_eq_append_getElem hkl, hy, List.map_append, allB_append]; simp [allB])
        have HT1 := Lib.hid (HIT.out k (by omega))
        clear hy hc
        generalize allB ((l.take k).map (·.x)) = T at HW HTK HT1
        obtain ⟨c0, c1, c2, c3⟩ := HC.out.below HBK.out HW.out.out
        go_wp2_with fail
        refine (HW.out.write y HY.out HYS.out (by have := HT1.out; omega) HT1.out.2).mono ?_
        rintro e w3 ⟨rfl, h3⟩
        have H3 := Lib.hid h3
        clear h3 c0 c1 c2 c3 HW
        go_wp2
        go_roundw
        case rel => exact ⟨k + 1, by omega, by go_num, Lib.hid (by rw [HTK.out]; exact H3.out)⟩
        case measure => simp [intOf]; omega
      · obtain rfl : k = len0 := by omega
        have HT1 := Lib.hid (HIT.out k (by have := HL.out; omega))
        have HTA := Lib.hid (show allB ((l.take k).map (·.x)) = allB (l.map (·.x)) by rw [List.take_of_length_le (by have := HL.out; omega)])
        generalize allB ((l.take k).map (·.x)) = T at HW HT1 HTA
        have hsz : T.size ≤ 200000 := by have := HT1.out; omega
        go_wp2_with fail
        refine HW.out.bytes.mono ?_
        rintro e w4 ⟨rfl, rfl⟩
        by_cases h0 : T.size = 0
        · go_wp2_with fail
          refine (alive_calls _).mono ?_
          rintro e w3 ⟨rfl, hb⟩
          have H3 := Lib.hid (HW.out.below hb HLE.out)
          clear hb HW
          go_wp2
          go_ret
          exact ⟨rfl, H3.out.out⟩
        · have hpos : 0 < T.size := by omega
          have hz0 : ((T.size : Int) == 0) = false := by rw [beq_eq_false_iff_ne]; omega
          obtain ⟨c, hc, hcl⟩ : ∃ c : Nat, wrap64 ((IntKind.u64.wrap a1).tmod (T.size : Int)) = (c : Int) ∧ c < T.size := by
            have h1 : 0 ≤ IntKind.u64.wrap a1 := by rw [IntKind.wrap_u64]; omega
            rw [Int.tmod_eq_emod_of_nonneg h1]
            have h2 := Int.emod_nonneg (IntKind.u64.wrap a1) (show (T.size : Int) ≠ 0 by omega)
            have h3 := Int.emod_lt_of_pos (IntKind.u64.wrap a1) (show (0 : Int) < T.size by omega)
            refine ⟨((IntKind.u64.wrap a1) % (T.size : Int)).toNat, ?_, by omega⟩
            rw [show wrap64 ((IntKind.u64.wrap a1) % (T.size : Int)) = (IntKind.u64.wrap a1) % (T.size : Int) by unfold wrap64; omega]
            omega
          have HE2 : Hid ((takes (l.map (·.x)) ⟨T.extract 0 c, 0⟩).e = 2) := Lib.hid (HCUT.out (T.extract 0 c) (T.extract c T.size) (by rw [cut_two T c (by omega), HTA.out]) (by rw [ByteArray.size_extract]; omega))
          have hcm : c ≤ T.size := by omega
          go_wp2_with fail
          refine (RB.new HLE.out HW.out.out (T.extract 0 c) (by rw [ByteArray.size_extract]; omega)).mono ?_
          rintro e w3 ⟨rfl, h3⟩
          have H3 := Lib.hid h3
          clear h3 HW hc
          go_wp2
          generalize hq : wr.heap.size = q at H3 ⊢
          clear hq
          go_loopw [9] (fun s9 wr => ∃ k2 : Nat, k2 ≤ k ∧ s9 = .int .i64 k2 ∧ Hid (RB w.heap.size q w wr (takes ((l.take k2).map (·.x)) ⟨T.extract 0 c, 0⟩))) (fun s9 _ => k - (intOf s9).toNat)
          case atStart => exact ⟨0, Nat.zero_le _, by simp, H3⟩
          case round =>
            clear H3
            obtain ⟨k2, hk2, rfl, H4⟩ := hrel
            by_cases hlt2 : k2 < k
            · have hkl : k2 < l.length := by have := HL.out; omega
              obtain ⟨y, hy⟩ : ∃ y, l[k2] = y := ⟨_, rfl⟩
              obtain ⟨blk, off, rfl, hb, hc⟩ := item_of HA.out k2 hkl hy
              have HC := Lib.hid hc
              have HBK := Lib.hid hb
              have HTK := Lib.hid (show takes ((l.take (k2 + 1)).map (·.x)) ⟨T.extract 0 c, 0⟩ = (takes ((l.take k2).map (·.x)) ⟨T.extract 0 c, 0⟩).take y.x.k by
                rw [List.take_succ_eq_append_getElem hkl, hy, List.map_append]; exact takes_append _ y.x _)
              clear hy hc
              generalize takes ((l.take k2).map (·.x)) ⟨T.extract 0 c, 0⟩ = R at H4 HTK
              obtain ⟨c0, c1, c2, c3⟩ := HC.out.below HBK.out H4.out.2.2
              by_cases k0 : y.x.k.tmod 5 = 0
              · have HR : Hid (R.take y.x.k = R.number.2) := Lib.hid (by simp [Rd.take, k0])
                go_wp2_with fail
                refine (H4.out.number HLE.out).mono ?_
                rintro e w5 ⟨rfl, h5⟩
                have H5 := Lib.hid h5
                clear h5 c0 c1 c2 c3 H4
                go_wp2
                go_roundw
                case rel => exact ⟨k2 + 1, by omega, by go_num, Lib.hid (by rw [HTK.out, HR.out]; exact H5.out)⟩
                case measure => simp [intOf]; omega
              by_cases k1 : y.x.k.tmod 5 = 1
              · have HR : Hid (R.take y.x.k = R.long.2) := Lib.hid (by simp [Rd.take, k1])
                clear k0
                go_wp2_with fail
                refine (H4.out.long HLE.out).mono ?_
                rintro e w5 ⟨rfl, h5⟩
                have H5 := Lib.hid h5
                clear h5 c0 c1 c2 c3 H4
                go_wp2
                go_roundw
                case rel => exact ⟨k2 + 1, by omega, by go_num, Lib.hid (by rw [HTK.out, HR.out]; exact H5.out)⟩
                case measure => simp [intOf]; omega
              by_cases k2' : y.x.k.tmod 5 = 2
              · have HR : Hid (R.take y.x.k = R.flag.2) := Lib.hid (by simp [Rd.take, k2'])
                clear k0 k1
                go_wp2_with fail
                refine (H4.out.flag HLE.out).mono ?_
                rintro e w5 ⟨rfl, h5⟩
                have H5 := Lib.hid h5
                clear h5 c0 c1 c2 c3 H4
                go_wp2
                go_roundw
                case rel => exact ⟨k2 + 1, by omega, by go_num, Lib.hid (by rw [HTK.out, HR.out]; exact H5.out)⟩
                case measure => simp [intOf]; omega
              by_cases k3 : y.x.k.tmod 5 = 3
              · have HR : Hid (R.take y.x.k = (R.text 2000).2) := Lib.hid (by simp [Rd.take, k3])
                clear k0 k1 k2'
                go_wp2_with fail
                refine (H4.out.text HLE.out 2000).mono ?_
                rintro e w5 ⟨rfl, h5⟩
                have H5 := Lib.hid h5
                clear h5 c0 c1 c2 c3 H4
                go_wp2
                go_roundw
                case rel => exact ⟨k2 + 1, by omega, by go_num, Lib.hid (by rw [HTK.out, HR.out]; exact H5.out)⟩
                case measure => simp [intOf]; omega
              by_cases k4 : y.x.k.tmod 5 = 4
              · have HR : Hid (R.take y.x.k = (R.list 500).2) := Lib.hid (by simp [Rd.take, k4])
                clear k0 k1 k2' k3
                go_wp2_with fail
                refine (H4.out.list HLE.out 500).mono ?_
                rintro e w5 ⟨⟨A5, cap5, rfl, _⟩, h5⟩
                have H5 := Lib.hid h5
                clear h5 c0 c1 c2 c3 H4
                go_wp2
                go_roundw
                case rel => exact ⟨k2 + 1, by omega, by go_num, Lib.hid (by rw [HTK.out, HR.out]; exact H5.out)⟩
                case measure => simp [intOf]; omega
              · have HR : Hid (R.take y.x.k = R) := Lib.hid (by simp [Rd.take, k0, k1, k2', k3, k4])
                have t0 : (y.x.k.tmod 5 == 0) = false := by simpa using k0
                have t1 : (y.x.k.tmod 5 == 1) = false := by simpa using k1
                have t2 : (y.x.k.tmod 5 == 2) = false := by simpa using k2'
                have t3 : (y.x.k.tmod 5 == 3) = false := by simpa using k3
                have t4 : (y.x.k.tmod 5 == 4) = false := by simpa using k4
                clear k0 k1 k2' k3 k4
                go_wp2
                go_roundw
                case rel => exact ⟨k2 + 1, by omega, by go_num, Lib.hid (by rw [HTK.out, HR.out]; exact H4.out)⟩
                case measure => simp [intOf]; omega
            · obtain rfl : k2 = k := by omega
              have HE3 : Hid ((takes ((l.take k2).map (·.x)) ⟨T.extract 0 c, 0⟩).e = 2) := Lib.hid (by rw [List.take_of_length_le (by have := HL.out; omega)]; exact HE2.out)
              generalize takes ((l.take k2).map (·.x)) ⟨T.extract 0 c, 0⟩ = R at H4 HE3
              go_wp2_with fail
              refine (alive_calls _).mono ?_
              rintro e w5 ⟨rfl, hb⟩
              have H5 := Lib.hid (H4.out.below HLE.out hb)
              clear hb H4
              go_wp2_with fail
              refine (H5.out.err).mono ?_
              rintro e w6 ⟨rfl, rfl⟩
              rw [HE3.out]
              go_wp2_with fail
              refine (H5.out.end_ HLE.out).mono ?_
              rintro e w6 ⟨rfl, h6⟩
              have H6 := Lib.hid h6
              clear h6
              rw [show R.end_.e = 2 by unfold Rd.end_; rw [if_neg (by rw [HE3.out]; omega)]; exact HE3.out]
              go_wp2
              go_ret
              exact ⟨rfl, H6.out.2.2⟩
  · go_wp2_with fail
    refine (alive_calls _).mono ?_
    rintro e w2 ⟨rfl, hb⟩
    have H2 := Lib.hid (below2 H0.out hb)
    clear hb
    go_wp2
    go_ret
    exact ⟨rfl, H2.out⟩
end Go.Proofs.YtjmdjikjelhbmaaDoor.Xdr
