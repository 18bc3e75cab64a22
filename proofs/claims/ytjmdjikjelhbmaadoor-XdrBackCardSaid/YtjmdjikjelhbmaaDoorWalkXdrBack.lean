/- Layer xdr: the walk of XdrBack: what was written is read as it was. -/
import Derived.Test.YtjmdjikjelhbmaaDoorXdrAlive
import Derived.Test.YtjmdjikjelhbmaaDoorXdrWrite
import Derived.Test.YtjmdjikjelhbmaaDoorXdrDR2
namespace Go.Proofs.YtjmdjikjelhbmaaDoor.Xdr
open Go.RowKit Go.Own Go.XdrL Go.Blk Go.OpsL Go.Sees Go.Proofs.YtjmdjikjelhbmaaDoorW.PrintLast Go.Proofs.YtjmdjikjelhbmaaDoorW.PrintWords
set_option linter.unusedVariables false
set_option linter.unusedSimpArgs false
theorem item_cells {w : World} {g : Nat} {y : SItem} (h : w.heap[g]? = some (.cells #[.int .i64 y.x.k, .int .u64 (y.x.n : Int), .string y.x.s, .slice y.A y.len y.cap] 39 (0, 0))) : w.cell? ⟨g, 1, none⟩ = some (.int .u64 (y.x.n : Int)) ∧ w.cell? ⟨g, 2, none⟩ = some (.string y.x.s) ∧ w.cell? ⟨g, 3, none⟩ = some (.slice y.A y.len y.cap) := by
  obtain ⟨_, a, c, d⟩ := icells_blk h
  exact ⟨a, c, d⟩
set_option maxRecDepth 100000 in
set_option maxHeartbeats 16000000 in
theorem xdrBack_walk (a0 : Option Addr) (len0 cap0 : Nat) (a1 : ByteArray) (w : World) (w0 : Sees Tryd.prog w 140737488351232 5 33 [.slice a0 len0 cap0]) (w1 : a1.size ≤ 140737488351232) :
    Calls Tryd.prog 8 #[.slice a0 len0 cap0, .string a1] w fun e w' => e = .returned (.bool true) ∧ Below w.heap.size w w' := by
  obtain ⟨l, hl, hm, hA, hO⟩ := sees_items (k := 0) (Nat.le_refl _) w0
  clear w0
  have HLE := Lib.hid (Nat.le_refl w.heap.size)
  have HA := Lib.hid hA
  have HO := Lib.hid hO
  have HL := Lib.hid hl
  have HM := Lib.hid hm
  clear hA hO hl hm
  go_enter Tryd.func8, Tryd.ntmps8
  go_wp2_with fail
  refine (alive_calls w).mono ?_
  rintro e w1 ⟨rfl, hb⟩
  have H0 := Lib.hid hb
  clear hb
  go_wp2_with fail
  refine (great_any a0 len0 cap0 l HL.out HM.out w1 (ArrAt.below HA.out H0.out) (fun y hy => (HO.out y hy).2.2.2.2.2)).mono ?_
  rintro e w2 ⟨g, rfl, rfl, hg⟩
  cases g
  · obtain ⟨h60, hs⟩ := hg rfl
    by_cases hmore : 2000 < a1.size
    · go_wp2_with fail
      refine (alive_calls _).mono ?_
      rintro e w2 ⟨rfl, hb⟩
      have H2 := Lib.hid (below2 H0.out hb)
      clear hb
      go_wp2
      go_ret
      exact ⟨rfl, H2.out⟩
    have HS := Lib.hid hs
    have HW0 := Lib.hid (WB.new H0.out HLE.out)
    obtain ⟨P, hP⟩ : ∃ P, w1.heap.size = P := ⟨_, rfl⟩
    have HWP : Hid (WB w.heap.size P w (w1.alloc (.cells #[.slice none 0 0] 26)) ByteArray.empty) := by rw [← hP]; exact HW0
    have HIT : Hid (∀ k, k ≤ l.length → (allB ((l.take k).map (·.x))).size ≤ 2007 * k ∧ (allB ((l.take k).map (·.x))).size % 4 = 0) := fun k hk => by
      have := allB_size ((l.take k).map (·.x)) (fun x hx => by
        obtain ⟨y, hy, rfl⟩ := List.mem_map.1 hx
        exact (HO.out y (List.mem_of_mem_take hy)).item (hs y (List.mem_of_mem_take hy)))
      rw [List.length_map, List.length_take, Nat.min_eq_left hk] at this
      exact this
    clear hg hs H0 HW0
    go_wp2
    clear hP
    generalize w1.alloc (.cells #[.slice none 0 0] 26) = w2 at HWP ⊢
    go_loopw [6] (fun s6 wr => ∃ k : Nat, k ≤ len0 ∧ s6 = .int .i64 k ∧ Hid (WB w.heap.size P w wr (allB ((l.take k).map (·.x))))) (fun s6 _ => len0 - (intOf s6).toNat)
    case atStart => exact ⟨0, Nat.zero_le _, by simp, HWP⟩
    case round =>
      clear HWP
      obtain ⟨k, hk, rfl, HW⟩ := hrel
      by_cases hlt : k < len0
      · have hkl : k < l.length := by have := HL.out; omega
        obtain ⟨y, hy⟩ : ∃ y, l[k] = y := ⟨_, rfl⟩
        obtain ⟨blk, off, rfl, hb, hc⟩ := item_of HA.out k hkl hy
        have HC := Lib.hid hc
        have HBK := Lib.hid hb
        have HY := Lib.hid (HO.out y (hy ▸ List.getElem_mem _))
        have HYS := Lib.hid (HS.out y (hy ▸ List.getElem_mem _))
        have HTK := Lib.hid (show allB ((l.take (k + 1)).map (·.x)) = allB ((l.take k).map (·.x)) ++ y.x.b by
          rw [List.take_succ_eq_append_getElem hkl, hy, List.map_append, allB_append]; simp [allB])
        have HT1 := Lib.hid (HIT.out k (by omega))
        clear hy hc
        generalize allB ((l.take k).map (·.x)) = T at HW HTK HT1
        obtain ⟨c0, c1, c2, c3⟩ := HC.out.below HBK.out HW.out.out
        go_wp2_with fail
        refine (HW.out.write y HY.out HYS.out (by have := HT1.out; omega) HT1.out.2).mono ?_
        rintro e w3 ⟨rfl, h3⟩
        have H3 := Lib.hid h3
        clear h3 c0 c1 c2 c3 HW
        go_wp2
        go_roundw
        case rel => exact ⟨k + 1, by omega, by go_num, Lib.hid (by rw [HTK.out]; exact H3.out)⟩
        case measure => simp [intOf]; omega
      · obtain rfl : k = len0 := by omega
        have HTA := Lib.hid (show allB ((l.take k).map (·.x)) = allB (l.map (·.x)) by rw [List.take_of_length_le (by have := HL.out; omega)])
        have HT1 := Lib.hid (HIT.out k (by have := HL.out; omega))
        generalize allB ((l.take k).map (·.x)) = T at HW HT1 HTA
        have hsz : T.size ≤ 200000 := by have := HT1.out; omega
        go_wp2_with fail
        refine HW.out.bytes.mono ?_
        rintro e w4 ⟨rfl, rfl⟩
        go_wp2_with fail
        refine (RB.new HLE.out HW.out.out (T ++ a1) (by rw [ByteArray.size_append]; omega)).mono ?_
        rintro e w3 ⟨rfl, h3⟩
        rw [show (⟨T ++ a1, 0⟩ : Rd) = ⟨allB ((l.drop 0).map (·.x)) ++ a1, 0⟩ by rw [HTA.out, List.drop_zero]] at h3
        have H3 := Lib.hid h3
        clear h3 HW
        go_wp2
        generalize hq : wr.heap.size = q at H3 ⊢
        clear hq
        go_loopw [8] (fun s8 wr => ∃ k2 : Nat, k2 ≤ k ∧ s8 = .int .i64 k2 ∧ Hid (RB w.heap.size q w wr ⟨allB ((l.drop k2).map (·.x)) ++ a1, 0⟩)) (fun s8 _ => k - (intOf s8).toNat)
        case atStart => exact ⟨0, Nat.zero_le _, by simp, H3⟩
        case round =>
          clear H3
          obtain ⟨k2, hk2, rfl, H4⟩ := hrel
          by_cases hlt2 : k2 < k
          · have hkl : k2 < l.length := by have := HL.out; omega
            obtain ⟨y, hy⟩ : ∃ y, l[k2] = y := ⟨_, rfl⟩
            obtain ⟨blk, off, rfl, hb, hc⟩ := item_of HA.out k2 hkl hy
            have HC := Lib.hid hc
            have HBK := Lib.hid hb
            have HY := Lib.hid (HO.out y (hy ▸ List.getElem_mem _))
            have HYL := Lib.hid HY.out.2.1
            have HYM : Hid (y.len ≤ 1000000000000) := Lib.hid (by have := (HS.out y (hy ▸ List.getElem_mem _)).2; omega)
            have hD : allB ((l.drop k2).map (·.x)) ++ a1 = y.x.b ++ (allB ((l.drop (k2 + 1)).map (·.x)) ++ a1) := by
              rw [List.drop_eq_getElem_cons hkl, hy, List.map_cons, allB, ByteArray.append_assoc]
            obtain ⟨ht1, ht2⟩ := take_put y.x (HY.out.item (HS.out y (hy ▸ List.getElem_mem _))) (allB ((l.drop (k2 + 1)).map (·.x)) ++ a1)
            rw [← hD] at ht1 ht2
            have HTK := Lib.hid ht1
            have HSM := Lib.hid ht2
            clear hy hc hD ht1 ht2
            generalize hRP : allB ((l.drop (k2 + 1)).map (·.x)) ++ a1 = R' at HTK
            have HRP := Lib.hid hRP
            clear hRP
            generalize (⟨allB ((l.drop k2).map (·.x)) ++ a1, 0⟩ : Rd) = R at H4 HTK HSM
            obtain ⟨c0, c1, c2, c3⟩ := HC.out.below HBK.out H4.out.2.2
            have hal := (Below.refl wr.heap.size wr).alloc (Nat.le_refl _) (.cells #[.int .i64 y.x.k, .int .u64 (y.x.n : Int), .string y.x.s, .slice y.A y.len y.cap] 39)
            have H6 := Lib.hid (H4.out.below HLE.out hal)
            have HI6 := Lib.hid (alloc_at wr (.cells #[.int .i64 y.x.k, .int .u64 (y.x.n : Int), .string y.x.s, .slice y.A y.len y.cap] 39))
            obtain ⟨x0, x1, x2, x3⟩ := icells_blk HI6.out
            have HGQ : Hid (¬ wr.heap.size = q) := Lib.hid (by have := lt_of H4.out.1.1; omega)
            clear hal H4
            obtain ⟨G, hG⟩ : ∃ G, wr.heap.size = G := ⟨_, rfl⟩
            rw [hG] at x0 x1 x2 x3
            have HI6 : Hid ((wr.alloc (.cells #[.int .i64 y.x.k, .int .u64 (y.x.n : Int), .string y.x.s, .slice y.A y.len y.cap] 39)).heap[G]? = some (.cells #[.int .i64 y.x.k, .int .u64 (y.x.n : Int), .string y.x.s, .slice y.A y.len y.cap] 39 (0, 0))) := Lib.hid (by rw [← hG]; exact HI6.out)
            have HGQ : Hid (¬ G = q) := Lib.hid (by rw [← hG]; exact HGQ.out)
            generalize hwb : wr.alloc (.cells #[.int .i64 y.x.k, .int .u64 (y.x.n : Int), .string y.x.s, .slice y.A y.len y.cap] 39) = wb at H6 HI6 x0 x1 x2 x3
            by_cases k0 : y.x.k.tmod 5 = 0
            · have HR2 : Hid (R.number.2 = ⟨R', 0⟩) := Lib.hid (by have e := HTK.out; rw [show R.take y.x.k = R.number.2 by simp [Rd.take, k0]] at e; exact e)
              have HE5 : Hid (((R.number.2).e : Nat) = 0) := Lib.hid (by rw [HR2.out])
              have hkk : y.x.k.tmod 5 = 0 := k0
              go_wp2
              clear x0 x1 x2 x3 c0 c1 c2 c3
              refine start_ (n := 7) (S := fun w' => w'.cell? ⟨G, 1, none⟩ = some (.int .u64 (y.x.n : Int)) ∧ w'.cell? ⟨G, 2, none⟩ = some (.string y.x.s) ∧ w'.cell? ⟨G, 3, none⟩ = some (.slice y.A y.len y.cap)) (ds := []) #[false, false, false, false, false, false, false] (by kernel_rfl) rfl rfl ((item_cells HI6.out)) (fun hHeld => ?_)
              have H6 := Lib.hid (H6.out.below HLE.out ((Below.refl _ _).drew))
              have HI6 := Lib.hid (below_old HI6.out ((Below.refl _ _).drew))
              refine pure_ (i := 0) (N := some 51) (v := ?_) (a' := ?_) #[true, false, false, false, false, false, false] rfl rfl (by kernel_rfl) (fun _ _ _ h => h) (Or.inl ⟨by rfl, ?_⟩) ?_ ?_
              rotate_left
              · intro w'
                go_simp
                with_reducible rfl
              rotate_left
              · simp only [Act.put, List.setIfInBounds_toArray, List.set_cons_zero, List.set_cons_succ, i64_w, i32_w]
                rfl
              refine pure_ (i := 2) (N := some 53) (v := ?_) (a' := ?_) #[true, false, true, false, false, false, false] rfl rfl (by kernel_rfl) (fun _ _ _ h => h) (Or.inl ⟨by rfl, ?_⟩) ?_ ?_
              rotate_left
              · intro w'
                go_simp
                with_reducible rfl
              rotate_left
              · simp only [Act.put, List.setIfInBounds_toArray, List.set_cons_zero, List.set_cons_succ, i64_w, i32_w]
                rfl
              refine take_ (i := 3) (N := some 54) (v := ?_) (a' := ?_) #[true, false, true, true, false, false, false] rfl rfl (by kernel_rfl) (fun _ _ _ h => h) (Or.inl ⟨by rfl, ?_⟩) hHeld ?_ ?_
              rotate_left
              · intro w' hS
                obtain ⟨z1, z2, z3⟩ := hS
                go_simp
                with_reducible rfl
              rotate_left
              · simp only [Act.put, List.setIfInBounds_toArray, List.set_cons_zero, List.set_cons_succ, i64_w, i32_w]
                rfl
              refine pure_ (i := 4) (N := some 55) (v := ?_) (a' := ?_) #[true, false, true, true, true, false, false] rfl rfl (by kernel_rfl) (fun _ _ _ h => h) (Or.inl ⟨by rfl, ?_⟩) ?_ ?_
              rotate_left
              · intro w'
                go_simp
                with_reducible rfl
              rotate_left
              · simp only [Act.put, List.setIfInBounds_toArray, List.set_cons_zero, List.set_cons_succ, i64_w, i32_w]
                rfl
              refine one_ (i := 1) (N := some 52) #[true, true, true, true, true, false, false] rfl rfl (by kernel_rfl) (by decide) (fun K hK => ?_)
              refine goes_ Tryd.func19 (by kernel_rfl) rfl #[.pointer (some ⟨q, 0, none⟩)] (by rfl) rfl rfl (by (try simp only [List.map_toArray, List.map_cons, List.map_nil]); first | done | rfl) ?_
              refine (number_reads H6.out.1).mono ?_
              rw [show ((R.number.1 : Nat) : Int) = (y.x.n : Int) % 4294967296 by rw [HSM.out.1 k0]; omega]
              rintro e w5 ⟨rfl, h5⟩
              refine ⟨_, rfl, ?_⟩
              have H5 := Lib.hid (H6.out.left HLE.out h5)
              have HI5 := Lib.hid (h5.2.at HI6.out (fun e => HGQ.out e))
              have HS5 := Lib.hid (item_cells HI5.out)
              clear h5 H6 HI6
              refine hK.out _ _ HS5.out (fun hHeld => ?_)
              clear hK K
              refine norm_ (a' := ?_) ?_ ?_
              rotate_left
              · show Act.put _ (some 52) _ = _
                simp only [Act.put, List.setIfInBounds_toArray, List.set_cons_zero, List.set_cons_succ, i64_w, i32_w]
                rfl
              refine pure_ (i := 5) (N := some 56) (v := ?_) (a' := ?_) #[true, true, true, true, true, true, false] rfl rfl (by kernel_rfl) (fun _ _ _ h => h) (Or.inl ⟨by rfl, ?_⟩) ?_ ?_
              rotate_left
              · intro w'
                go_simp
                with_reducible rfl
              rotate_left
              · simp only [Act.put, List.setIfInBounds_toArray, List.set_cons_zero, List.set_cons_succ, i64_w, i32_w]
                rfl
              refine pure_ (i := 6) (N := some 10) (v := ?_) (a' := ?_) #[true, true, true, true, true, true, true] rfl rfl (by kernel_rfl) (fun _ _ _ h => h) (Or.inl ⟨by rfl, ?_⟩) ?_ ?_
              rotate_left
              · intro w'
                go_simp
                with_reducible rfl
              rotate_left
              · simp only [Act.put, List.setIfInBounds_toArray, List.set_cons_zero, List.set_cons_succ, i64_w, i32_w]
                rfl
              refine done_ (by kernel_rfl) ?_
              clear hHeld
              go_wp2_with fail
              refine (H5.out.err).mono ?_
              rintro e w7 ⟨rfl, rfl⟩
              rw [HE5.out]
              go_wp2
              go_roundw
              case rel => exact ⟨k2 + 1, by omega, by go_num, Lib.hid (by rw [HRP.out, ← HR2.out]; exact H5.out)⟩
              case measure => simp [intOf]; omega
            by_cases k1 : y.x.k.tmod 5 = 1
            · have HR2 : Hid (R.long.2 = ⟨R', 0⟩) := Lib.hid (by have e := HTK.out; rw [show R.take y.x.k = R.long.2 by simp [Rd.take, k1]] at e; exact e)
              have HE5 : Hid (((R.long.2).e : Nat) = 0) := Lib.hid (by rw [HR2.out])
              have hkk : y.x.k.tmod 5 = 1 := k1
              go_wp2
              clear x0 x1 x2 x3 c0 c1 c2 c3
              refine start_ (n := 6) (S := fun w' => w'.cell? ⟨G, 1, none⟩ = some (.int .u64 (y.x.n : Int)) ∧ w'.cell? ⟨G, 2, none⟩ = some (.string y.x.s) ∧ w'.cell? ⟨G, 3, none⟩ = some (.slice y.A y.len y.cap)) (ds := []) #[false, false, false, false, false, false] (by kernel_rfl) rfl rfl ((item_cells HI6.out)) (fun hHeld => ?_)
              have H6 := Lib.hid (H6.out.below HLE.out ((Below.refl _ _).drew))
              have HI6 := Lib.hid (below_old HI6.out ((Below.refl _ _).drew))
              refine pure_ (i := 0) (N := some 59) (v := ?_) (a' := ?_) #[true, false, false, false, false, false] rfl rfl (by kernel_rfl) (fun _ _ _ h => h) (Or.inl ⟨by rfl, ?_⟩) ?_ ?_
              rotate_left
              · intro w'
                go_simp
                with_reducible rfl
              rotate_left
              · simp only [Act.put, List.setIfInBounds_toArray, List.set_cons_zero, List.set_cons_succ, i64_w, i32_w]
                rfl
              refine pure_ (i := 2) (N := some 61) (v := ?_) (a' := ?_) #[true, false, true, false, false, false] rfl rfl (by kernel_rfl) (fun _ _ _ h => h) (Or.inl ⟨by rfl, ?_⟩) ?_ ?_
              rotate_left
              · intro w'
                go_simp
                with_reducible rfl
              rotate_left
              · simp only [Act.put, List.setIfInBounds_toArray, List.set_cons_zero, List.set_cons_succ, i64_w, i32_w]
                rfl
              refine take_ (i := 3) (N := some 62) (v := ?_) (a' := ?_) #[true, false, true, true, false, false] rfl rfl (by kernel_rfl) (fun _ _ _ h => h) (Or.inl ⟨by rfl, ?_⟩) hHeld ?_ ?_
              rotate_left
              · intro w' hS
                obtain ⟨z1, z2, z3⟩ := hS
                go_simp
                with_reducible rfl
              rotate_left
              · simp only [Act.put, List.setIfInBounds_toArray, List.set_cons_zero, List.set_cons_succ, i64_w, i32_w]
                rfl
              refine one_ (i := 1) (N := some 60) #[true, true, true, true, false, false] rfl rfl (by kernel_rfl) (by decide) (fun K hK => ?_)
              refine goes_ Tryd.func21 (by kernel_rfl) rfl #[.pointer (some ⟨q, 0, none⟩)] (by rfl) rfl rfl (by (try simp only [List.map_toArray, List.map_cons, List.map_nil]); first | done | rfl) ?_
              refine (long_reads H6.out.1).mono ?_
              rw [HSM.out.2.1 k1]
              rintro e w5 ⟨rfl, h5⟩
              refine ⟨_, rfl, ?_⟩
              have H5 := Lib.hid (H6.out.left HLE.out h5)
              have HI5 := Lib.hid (h5.2.at HI6.out (fun e => HGQ.out e))
              have HS5 := Lib.hid (item_cells HI5.out)
              clear h5 H6 HI6
              refine hK.out _ _ HS5.out (fun hHeld => ?_)
              clear hK K
              refine norm_ (a' := ?_) ?_ ?_
              rotate_left
              · show Act.put _ (some 60) _ = _
                simp only [Act.put, List.setIfInBounds_toArray, List.set_cons_zero, List.set_cons_succ, i64_w, i32_w]
                rfl
              refine pure_ (i := 4) (N := some 63) (v := ?_) (a' := ?_) #[true, true, true, true, true, false] rfl rfl (by kernel_rfl) (fun _ _ _ h => h) (Or.inl ⟨by rfl, ?_⟩) ?_ ?_
              rotate_left
              · intro w'
                go_simp
                with_reducible rfl
              rotate_left
              · simp only [Act.put, List.setIfInBounds_toArray, List.set_cons_zero, List.set_cons_succ, i64_w, i32_w]
                rfl
              refine pure_ (i := 5) (N := some 10) (v := ?_) (a' := ?_) #[true, true, true, true, true, true] rfl rfl (by kernel_rfl) (fun _ _ _ h => h) (Or.inl ⟨by rfl, ?_⟩) ?_ ?_
              rotate_left
              · intro w'
                go_simp
                with_reducible rfl
              rotate_left
              · simp only [Act.put, List.setIfInBounds_toArray, List.set_cons_zero, List.set_cons_succ, i64_w, i32_w]
                rfl
              refine done_ (by kernel_rfl) ?_
              clear hHeld
              go_wp2_with fail
              refine (H5.out.err).mono ?_
              rintro e w7 ⟨rfl, rfl⟩
              rw [HE5.out]
              go_wp2
              go_roundw
              case rel => exact ⟨k2 + 1, by omega, by go_num, Lib.hid (by rw [HRP.out, ← HR2.out]; exact H5.out)⟩
              case measure => simp [intOf]; omega
            by_cases k2' : y.x.k.tmod 5 = 2
            · have HR2 : Hid (R.flag.2 = ⟨R', 0⟩) := Lib.hid (by have e := HTK.out; rw [show R.take y.x.k = R.flag.2 by simp [Rd.take, k2']] at e; exact e)
              have HE5 : Hid (((R.flag.2).e : Nat) = 0) := Lib.hid (by rw [HR2.out])
              have hkk : y.x.k.tmod 5 = 2 := k2'
              go_wp2
              clear x0 x1 x2 x3 c0 c1 c2 c3
              refine start_ (n := 8) (S := fun w' => w'.cell? ⟨G, 1, none⟩ = some (.int .u64 (y.x.n : Int)) ∧ w'.cell? ⟨G, 2, none⟩ = some (.string y.x.s) ∧ w'.cell? ⟨G, 3, none⟩ = some (.slice y.A y.len y.cap)) (ds := []) #[false, false, false, false, false, false, false, false] (by kernel_rfl) rfl rfl ((item_cells HI6.out)) (fun hHeld => ?_)
              have H6 := Lib.hid (H6.out.below HLE.out ((Below.refl _ _).drew))
              have HI6 := Lib.hid (below_old HI6.out ((Below.refl _ _).drew))
              refine pure_ (i := 0) (N := some 66) (v := ?_) (a' := ?_) #[true, false, false, false, false, false, false, false] rfl rfl (by kernel_rfl) (fun _ _ _ h => h) (Or.inl ⟨by rfl, ?_⟩) ?_ ?_
              rotate_left
              · intro w'
                go_simp
                with_reducible rfl
              rotate_left
              · simp only [Act.put, List.setIfInBounds_toArray, List.set_cons_zero, List.set_cons_succ, i64_w, i32_w]
                rfl
              refine pure_ (i := 2) (N := some 68) (v := ?_) (a' := ?_) #[true, false, true, false, false, false, false, false] rfl rfl (by kernel_rfl) (fun _ _ _ h => h) (Or.inl ⟨by rfl, ?_⟩) ?_ ?_
              rotate_left
              · intro w'
                go_simp
                with_reducible rfl
              rotate_left
              · simp only [Act.put, List.setIfInBounds_toArray, List.set_cons_zero, List.set_cons_succ, i64_w, i32_w]
                rfl
              refine take_ (i := 3) (N := some 69) (v := ?_) (a' := ?_) #[true, false, true, true, false, false, false, false] rfl rfl (by kernel_rfl) (fun _ _ _ h => h) (Or.inl ⟨by rfl, ?_⟩) hHeld ?_ ?_
              rotate_left
              · intro w' hS
                obtain ⟨z1, z2, z3⟩ := hS
                go_simp
                with_reducible rfl
              rotate_left
              · simp only [Act.put, List.setIfInBounds_toArray, List.set_cons_zero, List.set_cons_succ, i64_w, i32_w]
                rfl
              refine pure_ (i := 4) (N := some 70) (v := ?_) (a' := ?_) #[true, false, true, true, true, false, false, false] rfl rfl (by kernel_rfl) (fun _ _ _ h => h) (Or.inl ⟨by rfl, ?_⟩) ?_ ?_
              rotate_left
              · intro w'
                go_simp
                with_reducible rfl
              rotate_left
              · simp only [Act.put, List.setIfInBounds_toArray, List.set_cons_zero, List.set_cons_succ, i64_w, i32_w]
                rfl
              refine pure_ (i := 5) (N := some 71) (v := ?_) (a' := ?_) #[true, false, true, true, true, true, false, false] rfl rfl (by kernel_rfl) (fun _ _ _ h => h) (Or.inl ⟨by rfl, ?_⟩) ?_ ?_
              rotate_left
              · intro w'
                go_simp
                with_reducible rfl
              rotate_left
              · simp only [Act.put, List.setIfInBounds_toArray, List.set_cons_zero, List.set_cons_succ, i64_w, i32_w]
                rfl
              refine one_ (i := 1) (N := some 67) #[true, true, true, true, true, true, false, false] rfl rfl (by kernel_rfl) (by decide) (fun K hK => ?_)
              refine goes_ Tryd.func23 (by kernel_rfl) rfl #[.pointer (some ⟨q, 0, none⟩)] (by rfl) rfl rfl (by (try simp only [List.map_toArray, List.map_cons, List.map_nil]); first | done | rfl) ?_
              refine (flag_reads H6.out.1).mono ?_
              rw [HSM.out.2.2.1 k2', show (y.x.n % 2 == 1) = ((y.x.n : Int) % 2 == 1) by rw [Bool.eq_iff_iff, beq_iff_eq, beq_iff_eq]; omega]
              rintro e w5 ⟨rfl, h5⟩
              refine ⟨_, rfl, ?_⟩
              have H5 := Lib.hid (H6.out.left HLE.out h5)
              have HI5 := Lib.hid (h5.2.at HI6.out (fun e => HGQ.out e))
              have HS5 := Lib.hid (item_cells HI5.out)
              clear h5 H6 HI6
              refine hK.out _ _ HS5.out (fun hHeld => ?_)
              clear hK K
              refine norm_ (a' := ?_) ?_ ?_
              rotate_left
              · show Act.put _ (some 67) _ = _
                simp only [Act.put, List.setIfInBounds_toArray, List.set_cons_zero, List.set_cons_succ, i64_w, i32_w]
                rfl
              refine pure_ (i := 6) (N := some 72) (v := ?_) (a' := ?_) #[true, true, true, true, true, true, true, false] rfl rfl (by kernel_rfl) (fun _ _ _ h => h) (Or.inl ⟨by rfl, ?_⟩) ?_ ?_
              rotate_left
              · intro w'
                go_simp
                with_reducible rfl
              rotate_left
              · simp only [Act.put, List.setIfInBounds_toArray, List.set_cons_zero, List.set_cons_succ, i64_w, i32_w]
                rfl
              refine pure_ (i := 7) (N := some 10) (v := ?_) (a' := ?_) #[true, true, true, true, true, true, true, true] rfl rfl (by kernel_rfl) (fun _ _ _ h => h) (Or.inl ⟨by rfl, ?_⟩) ?_ ?_
              rotate_left
              · intro w'
                go_simp
                with_reducible rfl
              rotate_left
              · simp only [Act.put, List.setIfInBounds_toArray, List.set_cons_zero, List.set_cons_succ, i64_w, i32_w]
                rfl
              refine done_ (by kernel_rfl) ?_
              clear hHeld
              go_wp2_with fail
              refine (H5.out.err).mono ?_
              rintro e w7 ⟨rfl, rfl⟩
              rw [HE5.out]
              go_wp2
              go_roundw
              case rel => exact ⟨k2 + 1, by omega, by go_num, Lib.hid (by rw [HRP.out, ← HR2.out]; exact H5.out)⟩
              case measure => simp [intOf]; omega
            by_cases k3 : y.x.k.tmod 5 = 3
            · have HR2 : Hid ((R.text 2000).2 = ⟨R', 0⟩) := Lib.hid (by have e := HTK.out; rw [show R.take y.x.k = (R.text 2000).2 by simp [Rd.take, k3]] at e; exact e)
              have HE5 : Hid ((((R.text 2000).2).e : Nat) = 0) := Lib.hid (by rw [HR2.out])
              have hkk : y.x.k.tmod 5 = 3 := k3
              go_wp2
              clear x0 x1 x2 x3 c0 c1 c2 c3
              refine start_ (n := 6) (S := fun w' => w'.cell? ⟨G, 1, none⟩ = some (.int .u64 (y.x.n : Int)) ∧ w'.cell? ⟨G, 2, none⟩ = some (.string y.x.s) ∧ w'.cell? ⟨G, 3, none⟩ = some (.slice y.A y.len y.cap)) (ds := []) #[false, false, false, false, false, false] (by kernel_rfl) rfl rfl ((item_cells HI6.out)) (fun hHeld => ?_)
              have H6 := Lib.hid (H6.out.below HLE.out ((Below.refl _ _).drew))
              have HI6 := Lib.hid (below_old HI6.out ((Below.refl _ _).drew))
              refine pure_ (i := 0) (N := some 75) (v := ?_) (a' := ?_) #[true, false, false, false, false, false] rfl rfl (by kernel_rfl) (fun _ _ _ h => h) (Or.inl ⟨by rfl, ?_⟩) ?_ ?_
              rotate_left
              · intro w'
                go_simp
                with_reducible rfl
              rotate_left
              · simp only [Act.put, List.setIfInBounds_toArray, List.set_cons_zero, List.set_cons_succ, i64_w, i32_w]
                rfl
              refine pure_ (i := 2) (N := some 77) (v := ?_) (a' := ?_) #[true, false, true, false, false, false] rfl rfl (by kernel_rfl) (fun _ _ _ h => h) (Or.inl ⟨by rfl, ?_⟩) ?_ ?_
              rotate_left
              · intro w'
                go_simp
                with_reducible rfl
              rotate_left
              · simp only [Act.put, List.setIfInBounds_toArray, List.set_cons_zero, List.set_cons_succ, i64_w, i32_w]
                rfl
              refine take_ (i := 3) (N := some 78) (v := ?_) (a' := ?_) #[true, false, true, true, false, false] rfl rfl (by kernel_rfl) (fun _ _ _ h => h) (Or.inl ⟨by rfl, ?_⟩) hHeld ?_ ?_
              rotate_left
              · intro w' hS
                obtain ⟨z1, z2, z3⟩ := hS
                go_simp
                with_reducible rfl
              rotate_left
              · simp only [Act.put, List.setIfInBounds_toArray, List.set_cons_zero, List.set_cons_succ, i64_w, i32_w]
                rfl
              refine one_ (i := 1) (N := some 76) #[true, true, true, true, false, false] rfl rfl (by kernel_rfl) (by decide) (fun K hK => ?_)
              refine goes_ Tryd.func25 (by kernel_rfl) rfl #[.pointer (some ⟨q, 0, none⟩), .int .i64 2000] (by rfl) rfl rfl (by (try simp only [List.map_toArray, List.map_cons, List.map_nil]); first | done | rfl) ?_
              refine (text_reads H6.out.1 2000).mono ?_
              rw [HSM.out.2.2.2.1 k3]
              rintro e w5 ⟨rfl, h5⟩
              refine ⟨_, rfl, ?_⟩
              have H5 := Lib.hid (H6.out.left HLE.out h5)
              have HI5 := Lib.hid (h5.2.at HI6.out (fun e => HGQ.out e))
              have HS5 := Lib.hid (item_cells HI5.out)
              clear h5 H6 HI6
              refine hK.out _ _ HS5.out (fun hHeld => ?_)
              clear hK K
              refine norm_ (a' := ?_) ?_ ?_
              rotate_left
              · show Act.put _ (some 76) _ = _
                simp only [Act.put, List.setIfInBounds_toArray, List.set_cons_zero, List.set_cons_succ, i64_w, i32_w]
                rfl
              refine pure_ (i := 4) (N := some 79) (v := ?_) (a' := ?_) #[true, true, true, true, true, false] rfl rfl (by kernel_rfl) (fun _ _ _ h => h) (Or.inl ⟨by rfl, ?_⟩) ?_ ?_
              rotate_left
              · intro w'
                go_simp
                with_reducible rfl
              rotate_left
              · simp only [Act.put, List.setIfInBounds_toArray, List.set_cons_zero, List.set_cons_succ, i64_w, i32_w]
                rfl
              refine pure_ (i := 5) (N := some 10) (v := ?_) (a' := ?_) #[true, true, true, true, true, true] rfl rfl (by kernel_rfl) (fun _ _ _ h => h) (Or.inl ⟨by rfl, ?_⟩) ?_ ?_
              rotate_left
              · intro w'
                go_simp
                with_reducible rfl
              rotate_left
              · simp only [Act.put, List.setIfInBounds_toArray, List.set_cons_zero, List.set_cons_succ, i64_w, i32_w]
                rfl
              refine done_ (by kernel_rfl) ?_
              clear hHeld
              go_wp2_with fail
              refine (H5.out.err).mono ?_
              rintro e w7 ⟨rfl, rfl⟩
              rw [HE5.out]
              go_wp2
              go_roundw
              case rel => exact ⟨k2 + 1, by omega, by go_num, Lib.hid (by rw [HRP.out, ← HR2.out]; exact H5.out)⟩
              case measure => simp [intOf]; omega
            by_cases k4 : y.x.k.tmod 5 = 4
            · have HR2 : Hid ((R.list 500).2 = ⟨R', 0⟩) := Lib.hid (by have e := HTK.out; rw [show R.take y.x.k = (R.list 500).2 by simp [Rd.take, k4]] at e; exact e)
              have HE5 : Hid ((((R.list 500).2).e : Nat) = 0) := Lib.hid (by rw [HR2.out])
              have hkk : y.x.k.tmod 5 = 4 := k4
              go_wp2
              clear x0 x1 x2 x3 c0 c1 c2 c3
              refine start_ (n := 6) (S := fun w' => w'.cell? ⟨G, 1, none⟩ = some (.int .u64 (y.x.n : Int)) ∧ w'.cell? ⟨G, 2, none⟩ = some (.string y.x.s) ∧ w'.cell? ⟨G, 3, none⟩ = some (.slice y.A y.len y.cap)) (ds := []) #[false, false, false, false, false, false] (by kernel_rfl) rfl rfl ((item_cells HI6.out)) (fun hHeld => ?_)
              have H6 := Lib.hid (H6.out.below HLE.out ((Below.refl _ _).drew))
              have HI6 := Lib.hid (below_old HI6.out ((Below.refl _ _).drew))
              refine pure_ (i := 0) (N := some 82) (v := ?_) (a' := ?_) #[true, false, false, false, false, false] rfl rfl (by kernel_rfl) (fun _ _ _ h => h) (Or.inl ⟨by rfl, ?_⟩) ?_ ?_
              rotate_left
              · intro w'
                go_simp
                with_reducible rfl
              rotate_left
              · simp only [Act.put, List.setIfInBounds_toArray, List.set_cons_zero, List.set_cons_succ, i64_w, i32_w]
                rfl
              refine pure_ (i := 2) (N := some 84) (v := ?_) (a' := ?_) #[true, false, true, false, false, false] rfl rfl (by kernel_rfl) (fun _ _ _ h => h) (Or.inl ⟨by rfl, ?_⟩) ?_ ?_
              rotate_left
              · intro w'
                go_simp
                with_reducible rfl
              rotate_left
              · simp only [Act.put, List.setIfInBounds_toArray, List.set_cons_zero, List.set_cons_succ, i64_w, i32_w]
                rfl
              refine take_ (i := 3) (N := some 85) (v := ?_) (a' := ?_) #[true, false, true, true, false, false] rfl rfl (by kernel_rfl) (fun _ _ _ h => h) (Or.inl ⟨by rfl, ?_⟩) hHeld ?_ ?_
              rotate_left
              · intro w' hS
                obtain ⟨z1, z2, z3⟩ := hS
                go_simp
                with_reducible rfl
              rotate_left
              · simp only [Act.put, List.setIfInBounds_toArray, List.set_cons_zero, List.set_cons_succ, i64_w, i32_w]
                rfl
              refine one_ (i := 1) (N := some 83) #[true, true, true, true, false, false] rfl rfl (by kernel_rfl) (by decide) (fun K hK => ?_)
              refine goes_ Tryd.func28 (by kernel_rfl) rfl #[.pointer (some ⟨q, 0, none⟩), .int .i64 500] (by rfl) rfl rfl (by (try simp only [List.map_toArray, List.map_cons, List.map_nil]); first | done | rfl) ?_
              refine (list_reads H6.out.1 500).mono ?_
              rw [HSM.out.2.2.2.2 k4]
              rintro e w5 ⟨⟨v5, rfl, ho5⟩, h5⟩
              rw [HYL.out] at ho5
              obtain ⟨A5, cp5, rfl, _, _⟩ := row_form ho5
              refine ⟨_, rfl, ?_⟩
              have HU5 := Lib.hid (u32s_of_row (l := y.x.l) (by rw [HYL.out]; exact ho5))
              have HU6 := Lib.hid (ArrAt.below HY.out.2.2.1 (H6.out.left HLE.out h5).2.2)
              have H5 := Lib.hid (H6.out.left HLE.out h5)
              have HI5 := Lib.hid (h5.2.at HI6.out (fun e => HGQ.out e))
              have HS5 := Lib.hid (item_cells HI5.out)
              clear h5 H6 HI6 ho5
              refine hK.out _ _ HS5.out (fun hHeld => ?_)
              clear hK K
              refine norm_ (a' := ?_) ?_ ?_
              rotate_left
              · show Act.put _ (some 83) _ = _
                simp only [Act.put, List.setIfInBounds_toArray, List.set_cons_zero, List.set_cons_succ, i64_w, i32_w]
                rfl
              refine one_ (i := 4) (N := some 86) #[true, true, true, true, true, false] rfl rfl (by kernel_rfl) (by decide) (fun K hK => ?_)
              refine goes_ Tryd.func27 (by kernel_rfl) rfl #[.slice A5 y.len cp5, .slice y.A y.len y.cap] (by rfl) rfl rfl (by (try simp only [List.map_toArray, List.map_cons, List.map_nil]); first | done | rfl) ?_
              refine (same_true A5 y.A y.len cp5 y.cap y.x.l HYL.out HYM.out _ HU5.out HU6.out).mono ?_
              rintro e w6 ⟨rfl, hb⟩
              refine ⟨_, rfl, ?_⟩
              have H5 := Lib.hid (H5.out.below HLE.out hb)
              have HI5 := Lib.hid (below_old HI5.out hb)
              have HS5 := Lib.hid (item_cells HI5.out)
              clear hb
              refine hK.out _ _ HS5.out (fun hHeld => ?_)
              clear hK K
              refine norm_ (a' := ?_) ?_ ?_
              rotate_left
              · show Act.put _ (some 86) _ = _
                simp only [Act.put, List.setIfInBounds_toArray, List.set_cons_zero, List.set_cons_succ, i64_w, i32_w]
                rfl
              refine pure_ (i := 5) (N := some 10) (v := ?_) (a' := ?_) #[true, true, true, true, true, true] rfl rfl (by kernel_rfl) (fun _ _ _ h => h) (Or.inl ⟨by rfl, ?_⟩) ?_ ?_
              rotate_left
              · intro w'
                go_simp
                with_reducible rfl
              rotate_left
              · simp only [Act.put, List.setIfInBounds_toArray, List.set_cons_zero, List.set_cons_succ, i64_w, i32_w]
                rfl
              refine done_ (by kernel_rfl) ?_
              clear hHeld
              go_wp2_with fail
              refine (H5.out.err).mono ?_
              rintro e w7 ⟨rfl, rfl⟩
              rw [HE5.out]
              go_wp2
              go_roundw
              case rel => exact ⟨k2 + 1, by omega, by go_num, Lib.hid (by rw [HRP.out, ← HR2.out]; exact H5.out)⟩
              case measure => simp [intOf]; omega
            · have HR2 : Hid (R = ⟨R', 0⟩) := Lib.hid (by have e := HTK.out; simp only [Rd.take, k0, k1, k2', k3, k4, if_false] at e; exact e)
              have HE5 : Hid ((R.e : Nat) = 0) := Lib.hid (by rw [HR2.out])
              have t0 : (y.x.k.tmod 5 == 0) = false := by simpa using k0
              have t1 : (y.x.k.tmod 5 == 1) = false := by simpa using k1
              have t2 : (y.x.k.tmod 5 == 2) = false := by simpa using k2'
              have t3 : (y.x.k.tmod 5 == 3) = false := by simpa using k3
              have t4 : (y.x.k.tmod 5 == 4) = false := by simpa using k4
              clear k0 k1 k2' k3 k4
              go_wp2_with fail
              refine (H6.out.err).mono ?_
              rintro e w7 ⟨rfl, rfl⟩
              rw [HE5.out]
              go_wp2
              go_roundw
              case rel => exact ⟨k2 + 1, by omega, by go_num, Lib.hid (by rw [HRP.out, ← HR2.out]; exact H6.out)⟩
              case measure => simp [intOf]; omega
          · obtain rfl : k2 = k := by omega
            rw [show (l.drop k2) = [] from List.drop_eq_nil_of_le (by have := HL.out; omega)] at H4
            have H4' : Hid (RB w.heap.size q w wr ⟨a1, 0⟩) := Lib.hid (by have := H4.out; rw [show allB (([] : List SItem).map (·.x)) ++ a1 = a1 from ByteArray.empty_append] at this; exact this)
            clear H4
            have hm2 : a1.size ≤ 2000 := by omega
            have HEND : Hid ((⟨a1, 0⟩ : Rd).end_.e = if 0 < a1.size then 4 else 0) := Lib.hid (by unfold Rd.end_; by_cases h : 0 < a1.size <;> simp [h, Rd.fail])
            go_wp2_with fail
            refine (alive_calls _).mono ?_
            rintro e w5 ⟨rfl, hb⟩
            have H5 := Lib.hid (H4'.out.below HLE.out hb)
            clear hb H4'
            go_wp2_with fail
            refine (H5.out.size).mono ?_
            rintro e w6 ⟨rfl, rfl⟩
            go_wp2_with fail
            refine (H5.out.end_ HLE.out).mono ?_
            rintro e w6 ⟨rfl, h6⟩
            have H6 := Lib.hid h6
            clear h6
            rw [HEND.out]
            by_cases h0 : 0 < a1.size
            · rw [if_pos h0]
              have hl1 : (a1.toList == []) = false := by
                rw [beq_eq_false_iff_ne]
                intro e
                rw [ByteArray.toList_eq] at e
                have := congrArg List.length e
                rw [len_data] at this
                have h9 : a1.size = 0 := this
                omega
              have hl2 : a1.toList.isEmpty = false := by
                cases he : a1.toList with
                | nil => rw [he] at hl1; simp at hl1
                | cons a l => rfl
              go_wp2
              go_ret
              exact ⟨rfl, H6.out.2.2⟩
            · rw [if_neg h0]
              have he : a1 = ByteArray.empty := ByteArray.ext (Array.eq_empty_of_size_eq_zero (by show a1.size = 0; omega))
              subst he
              go_wp2
              go_ret
              exact ⟨rfl, H6.out.2.2⟩
  · go_wp2_with fail
    refine (alive_calls _).mono ?_
    rintro e w2 ⟨rfl, hb⟩
    have H2 := Lib.hid (below2 H0.out hb)
    clear hb
    go_wp2
    go_ret
    exact ⟨rfl, H2.out⟩
end Go.Proofs.YtjmdjikjelhbmaaDoor.Xdr
