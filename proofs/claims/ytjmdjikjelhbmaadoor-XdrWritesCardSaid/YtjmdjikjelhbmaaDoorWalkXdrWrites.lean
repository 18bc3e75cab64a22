/- Layer xdr: the walk of XdrWrites: all items are written as the document says. -/
import Derived.Test.YtjmdjikjelhbmaaDoorXdrAlive
import Derived.Test.YtjmdjikjelhbmaaDoorXdrWrite
namespace Go.Proofs.YtjmdjikjelhbmaaDoor.Xdr
open Go.RowKit Go.Own Go.XdrL Go.Blk Go.OpsL Go.Sees Go.Proofs.YtjmdjikjelhbmaaDoorW.PrintLast Go.Proofs.YtjmdjikjelhbmaaDoorW.PrintWords
set_option linter.unusedVariables false
set_option linter.unusedSimpArgs false
set_option maxHeartbeats 4000000 in
theorem xdrWrites_walk (a0 : Option Addr) (len0 cap0 : Nat) (w : World) (w0 : Sees Tryd.prog w 140737488351232 5 33 [.slice a0 len0 cap0]) :
    Calls Tryd.prog 4 #[.slice a0 len0 cap0] w fun e w' => e = .returned (.bool true) ∧ Below w.heap.size w w' := by
  obtain ⟨l, hl, hm, hA, hO⟩ := sees_items (k := 0) (Nat.le_refl _) w0
  clear w0
  have HLE := Lib.hid (Nat.le_refl w.heap.size)
  have HA := Lib.hid hA
  have HO := Lib.hid hO
  have HL := Lib.hid hl
  have HM := Lib.hid hm
  clear hA hO hl hm
  go_enter Tryd.func4, Tryd.ntmps4
  go_wp2_with fail
  refine (alive_calls w).mono ?_
  rintro e w1 ⟨rfl, hb⟩
  have H0 := Lib.hid hb
  clear hb
  go_wp2_with fail
  refine (great_any a0 len0 cap0 l HL.out HM.out w1 (ArrAt.below HA.out H0.out) (fun y hy => (HO.out y hy).2.2.2.2.2)).mono ?_
  rintro e w2 ⟨g, rfl, rfl, hg⟩
  cases g
  · obtain ⟨h60, hs⟩ := hg rfl
    have HS := Lib.hid hs
    have HW0 := Lib.hid (WB.new H0.out HLE.out)
    obtain ⟨P, hP⟩ : ∃ P, w1.heap.size = P := ⟨_, rfl⟩
    have HWP : Hid (WB w.heap.size P w (w1.alloc (.cells #[.slice none 0 0] 26)) ByteArray.empty) := by rw [← hP]; exact HW0
    have HIT : Hid (∀ k, k ≤ l.length → (allB ((l.take k).map (·.x))).size ≤ 2007 * k ∧ (allB ((l.take k).map (·.x))).size % 4 = 0) := fun k hk => by
      have := allB_size ((l.take k).map (·.x)) (fun x hx => by
        obtain ⟨y, hy, rfl⟩ := List.mem_map.1 hx
        exact (HO.out y (List.mem_of_mem_take hy)).item (hs y (List.mem_of_mem_take hy)))
      rw [List.length_map, List.length_take, Nat.min_eq_left hk] at this
      exact this
    clear hg hs H0 HW0
    go_wp2
    clear hP
    generalize w1.alloc (.cells #[.slice none 0 0] 26) = w2 at HWP ⊢
    go_loopw [4, 5] (fun s4 s5 wr => ∃ k : Nat, k ≤ len0 ∧ s5 = .int .i64 k ∧ s4 = .string (allB ((l.take k).map (·.x))) ∧ Hid (WB w.heap.size P w wr (allB ((l.take k).map (·.x))))) (fun _ s5 _ => len0 - (intOf s5).toNat)
    case atStart => exact ⟨0, Nat.zero_le _, by simp, by simp [allB]; rfl, HWP⟩
    case round =>
      clear HWP
      obtain ⟨k, hk, rfl, rfl, HW⟩ := hrel
      by_cases hlt : k < len0
      · have hkl : k < l.length := by have := HL.out; omega
        obtain ⟨y, hy⟩ : ∃ y, l[k] = y := ⟨_, rfl⟩
        obtain ⟨blk, off, rfl, hb, hc⟩ := item_of HA.out k hkl hy
        have HC := Lib.hid hc
        have HBK := Lib.hid hb
        have HY := Lib.hid (HO.out y (hy ▸ List.getElem_mem _))
        have HYS := Lib.hid (HS.out y (hy ▸ List.getElem_mem _))
        have HTK := Lib.hid (show allB ((l.take (k + 1)).map (·.x)) = allB ((l.take k).map (·.x)) ++ y.x.b by
          rw [List.take_succ_eq_append_getElem hkl, hy, List.map_append, allB_append]; simp [allB])
        have HT1 := Lib.hid (HIT.out k (by omega))
        have HT2 := HIT.out (k + 1) (by omega)
        rw [HTK.out] at HT2
        have HT2 := Lib.hid HT2
        clear hy hc
        generalize allB ((l.take k).map (·.x)) = T at HW HTK HT1 HT2 ⊢
        obtain ⟨c0, c1, c2, c3⟩ := HC.out.below HBK.out HW.out.out
        go_wp2_with fail
        refine (HW.out.write y HY.out HYS.out (by have := HT1.out; omega) HT1.out.2).mono ?_
        rintro e w3 ⟨rfl, h3⟩
        have H3 := Lib.hid h3
        clear h3 c0 c1 c2 c3 HW
        obtain ⟨c0, c1, c2, c3⟩ := HC.out.below HBK.out H3.out.out
        go_wp2_with fail
        refine (dtext_below H3.out.out y HY.out HYS.out).mono ?_
        rintro e w4 ⟨rfl, h4⟩
        have H4 := Lib.hid (H3.out.below h4 HLE.out)
        clear h4 c0 c1 c2 c3 H3
        have zT : (T ++ y.x.b).size ≤ 2007 * (k + 1) := HT2.out.1
        have hsz : T.size + y.x.b.size = (T ++ y.x.b).size := by rw [ByteArray.size_append]
        have HSZ := Lib.hid hsz
        have z4 : (((T.size : Int) + (y.x.b.size : Int)) % 4 != 0) = false := by have := HT2.out.2; rw [bne_eq_false_iff_eq]; omega
        have hle : T.size + y.x.b.size ≤ 200000 := by omega
        clear hsz
        go_wp2_with fail
        refine H4.out.bytes.mono ?_
        rintro e w5 ⟨rfl, rfl⟩
        go_wp2
        go_roundw
        case rel => exact ⟨k + 1, by omega, by go_num, by rw [HTK.out], Lib.hid (by rw [HTK.out]; exact H4.out)⟩
        case measure => simp [intOf]; omega
      · obtain rfl : k = len0 := by omega
        generalize allB ((l.take k).map (·.x)) = T at HW ⊢
        go_wp2_with fail
        refine (alive_calls _).mono ?_
        rintro e w3 ⟨rfl, hb⟩
        have H3 := Lib.hid (HW.out.below hb HLE.out)
        clear hb HW
        go_wp2_with fail
        refine H3.out.bytes.mono ?_
        rintro e w4 ⟨rfl, rfl⟩
        go_wp2
        go_ret
        exact ⟨rfl, H3.out.out⟩
  · go_wp2_with fail
    refine (alive_calls _).mono ?_
    rintro e w2 ⟨rfl, hb⟩
    have H2 := Lib.hid (below2 H0.out hb)
    clear hb
    go_wp2
    go_ret
    exact ⟨rfl, H2.out⟩
end Go.Proofs.YtjmdjikjelhbmaaDoor.Xdr
