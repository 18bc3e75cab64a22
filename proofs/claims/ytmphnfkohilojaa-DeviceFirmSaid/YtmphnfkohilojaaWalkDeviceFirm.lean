/- Layer device: what a barrier settled is there behind every crash, till it is written over. -/
import Derived.Test.YtmphnfkohilojaaDevLaws
namespace Go.Proofs.Ytmphnfkohilojaa.Dev
open Go.RowKit Go.Own Go.DevL Go.Blk Go.Sees
set_option linter.unusedVariables false
set_option linter.unusedSimpArgs false
set_option maxRecDepth 100000
/-- Four strings, those ahead of k laid. -/
def wl (R : Nat → ByteArray) (k : Nat) : Array Value := #[.string (if 0 < k then R 0 else ByteArray.empty), .string (if 1 < k then R 1 else ByteArray.empty), .string (if 2 < k then R 2 else ByteArray.empty), .string (if 3 < k then R 3 else ByteArray.empty)]
def bl (b : Nat → Bool) : Array Value := #[.bool (b 0), .bool (b 1), .bool (b 2), .bool (b 3)]
theorem kind5 (x : Int) : (-5 < x.tmod 5 ∧ x.tmod 5 < 5) := ⟨Int.lt_tmod_of_pos x (by decide), Int.tmod_lt_of_pos x (by decide)⟩
set_option maxHeartbeats 8000000 in
theorem firm_calls (A B : Option Addr) (ca cb : Nat) (l m : List SAct) (w : World) (hA : ArrAt w A acells 4 l) (hB : ArrAt w B acells 4 m) (hl : ∀ x ∈ l, x.OK) (hm : ∀ x ∈ m, x.OK) (ll : l.length ≤ 9223372036854775807) (lm : m.length ≤ 9223372036854775807) :
    Calls Try.prog 4 #[.slice A l.length ca, .slice B m.length cb] w fun e w' => e = .returned (.bool true) ∧ Below w.heap.size w w' := by
  have HA := Lib.hid hA
  have HBB := Lib.hid hB
  have HOl := Lib.hid hl
  have HOm := Lib.hid hm
  clear hA hB hl hm
  go_enter Try.func4, Try.ntmps4
  go_wp2_with fail
  refine (alive_calls w).mono ?_
  rintro e w1 ⟨rfl, hb⟩
  have HB1 := Lib.hid hb
  clear hb
  go_wp2_with fail
  refine (has_new 4 w w1 (X := []) HB1.out (fun k hk => by simp at hk)).mono ?_
  rintro e w2 ⟨⟨p, rfl, h2⟩, _⟩
  have H2 := Lib.hid h2
  clear h2 HB1
  go_wp2_with fail
  go_loopg [6] 100 (fun gg s6 wr => ∃ i : Nat, s6 = .int .i64 i ∧ i ≤ l.length ∧ i ≤ 100 ∧ 100 - i ≤ gg ∧ Hid (Has w wr p (run (fresh 4) (l.take i)) []))
  case atStart => exact ⟨0, by simp, Nat.zero_le _, by omega, by omega, H2⟩
  case round =>
    obtain ⟨i, rfl, hi1, hi2, hg, HI⟩ := hrel
    by_cases hc : i < l.length ∧ i < 100
    · obtain ⟨hc1, hc2⟩ := hc
      obtain ⟨blk, off, rfl, _, hcs⟩ := (HA.out.below HI.out.bel) i hc1
      obtain ⟨x, hx⟩ : ∃ x, l[i] = x := ⟨_, rfl⟩
      rw [hx] at hcs
      have HX := Lib.hid (HOl.out x (hx ▸ List.getElem_mem hc1))
      have HXE := Lib.hid hx
      have c0 := hcs 0 _ rfl
      have c1 := hcs 1 _ rfl
      have c2 := hcs 2 _ rfl
      have c3 := hcs 3 _ rfl
      simp only [Nat.add_zero] at c0
      clear hcs hx
      have HLT := Lib.hid (show (run (fresh 4) (l.take i)).late.length ≤ 1000000 by have := run_late (fresh 4) (l.take i); have h2 : (fresh 4).late.length = 0 := rfl; have h3 := List.length_take_le i l; omega)
      go_wp2_with fail
      refine (has_do HI.out x HX.out HLT.out).mono ?_
      rintro e w3 ⟨rfl, h3, _⟩
      have H3 := Lib.hid h3
      clear h3 HI c0 c1 c2 c3
      go_wp2
      go_roundg (100 - (i + 1))
      case measure => omega
      case rel => exact ⟨i + 1, by go_num, by omega, by omega, by omega, Lib.hid (by rw [run_snoc _ _ _ hc1, HXE.out]; exact H3.out)⟩
    · obtain ⟨d, hd⟩ : ∃ d, run (fresh 4) (l.take i) = d := ⟨_, rfl⟩
      have HLT := Lib.hid (show d.late.length ≤ 1000000 by rw [← hd]; have := run_late (fresh 4) (l.take i); have h2 : (fresh 4).late.length = 0 := rfl; have h3 := List.length_take_le i l; omega)
      have HLN := Lib.hid (show d.firm.length = 4 by rw [← hd, run_len, fresh_len]; rfl)
      rw [hd] at HI
      clear hd
      have hc' : ¬ i < l.length ∨ (i < l.length ∧ ¬ i < 100) := by omega
      clear hc
      rcases hc' with hc | ⟨hc, hc2⟩
      all_goals
        go_wp2_with fail
        refine (has_crash HI.out 0 (by decide) (by decide) HLT.out).mono ?_
        rintro e w3 ⟨rfl, h3, _⟩
        have H3 := Lib.hid h3
        clear h3 HI
        go_wp2_with fail
        refine (has_barrier H3.out).mono ?_
        rw [crash_barrier]
        rintro e w4 ⟨rfl, h4, _⟩
        have H4 := Lib.hid h4
        clear h4 H3
        go_wp2_with fail
        obtain ⟨d1, hd1⟩ : ∃ d1, d.crash 0 = d1 := ⟨_, rfl⟩
        have HLN1 := Lib.hid (show d1.firm.length = 4 by rw [← hd1]; exact (kept_length ..).trans HLN.out)
        have HDD1 := Lib.hid (show d1.dead = false by rw [← hd1]; rfl)
        have HLT1 := Lib.hid (show d1.late = [] by rw [← hd1]; rfl)
        have H4' := H4.out
        rw [hd1] at H4'
        have H4 := Lib.hid H4'
        clear H4' hd1 HLT HLN
        obtain ⟨R, hR⟩ : ∃ R : Nat → ByteArray, ∀ k : Nat, k < 4 → readE d1 k = .returned (.tuple #[.string (R k), .int .i64 0]) ∧ d1.firm[k]? = some (R k) := by
          refine ⟨fun k => d1.now.getD k ByteArray.empty, fun k hk => ⟨read_live (by rw [HLN1.out]; exact hk) HDD1.out, ?_⟩⟩
          have e : d1.now = d1.firm := by unfold Dv.now; rw [HLT1.out]; rfl
          have hlt : k < d1.firm.length := by rw [HLN1.out]; exact hk
          simp only [e, List.getD, List.getElem?_eq_getElem hlt, Option.getD_some]
        have HR := Lib.hid hR
        clear hR
        have H5 := Lib.hid (H4.out.alloc (.cells (wl R 0) 26))
        have HG5 := Lib.hid (alloc_at w4 (.cells (wl R 0) 26))
        have HWG := Lib.hid H4.out.bel.size
        change Code.wp _ _ _ _ (w4.alloc (.cells (wl R 0) 26))
        obtain ⟨G, hG⟩ : ∃ G, w4.heap.size = G := ⟨_, rfl⟩
        rw [hG] at H5 HG5 HWG ⊢
        generalize w4.alloc (.cells (wl R 0) 26) = w5 at H5 HG5 ⊢
        clear H4 hG
        go_loopw [8] (fun s8 wr => ∃ k : Nat, s8 = .int .i64 k ∧ k ≤ 4 ∧ Hid (Has w wr p d1 [G]) ∧ Hid (wr.heap[G]? = some (.cells (wl R k) 26 (0, 0)))) (fun s8 _ => 4 - (intOf s8).toNat)
        case atStart => exact ⟨0, by simp, by omega, H5, HG5⟩
        case round =>
          clear H5 HG5
          obtain ⟨k, rfl, hk, H5, HG5⟩ := hrel
          have hk5 : k = 0 ∨ k = 1 ∨ k = 2 ∨ k = 3 ∨ k = 4 := by omega
          clear hk
          rcases hk5 with rfl | rfl | rfl | rfl | rfl
          · have hx := blk4 HG5.out
            have e0 : readE d1 0 = .returned (.tuple #[.string (R 0), .int .i64 0]) := (HR.out 0 (by omega)).1
            have E0 := Lib.hid e0
            clear e0
            go_wp2_with (go_at_call 14; refine (has_read H5.out 0).mono ?_; rw [E0.out]; rintro e w6 ⟨rfl, rfl⟩)
            go_roundw
            case rel => exact ⟨1, by simp, by omega, Lib.hid (H5.out.setCell (by simp) HWG.out 0 _), Lib.hid (set_at HG5.out 0 (.string (R 0)))⟩
            case measure => simp [intOf]
          · have hx := blk4 HG5.out
            have e1 : readE d1 1 = .returned (.tuple #[.string (R 1), .int .i64 0]) := (HR.out 1 (by omega)).1
            have E1 := Lib.hid e1
            clear e1
            go_wp2_with (go_at_call 14; refine (has_read H5.out 1).mono ?_; rw [E1.out]; rintro e w6 ⟨rfl, rfl⟩)
            go_roundw
            case rel => exact ⟨2, by simp, by omega, Lib.hid (H5.out.setCell (by simp) HWG.out 1 _), Lib.hid (set_at HG5.out 1 (.string (R 1)))⟩
            case measure => simp [intOf]
          · have hx := blk4 HG5.out
            have e2 : readE d1 2 = .returned (.tuple #[.string (R 2), .int .i64 0]) := (HR.out 2 (by omega)).1
            have E2 := Lib.hid e2
            clear e2
            go_wp2_with (go_at_call 14; refine (has_read H5.out 2).mono ?_; rw [E2.out]; rintro e w6 ⟨rfl, rfl⟩)
            go_roundw
            case rel => exact ⟨3, by simp, by omega, Lib.hid (H5.out.setCell (by simp) HWG.out 2 _), Lib.hid (set_at HG5.out 2 (.string (R 2)))⟩
            case measure => simp [intOf]
          · have hx := blk4 HG5.out
            have e3 : readE d1 3 = .returned (.tuple #[.string (R 3), .int .i64 0]) := (HR.out 3 (by omega)).1
            have E3 := Lib.hid e3
            clear e3
            go_wp2_with (go_at_call 14; refine (has_read H5.out 3).mono ?_; rw [E3.out]; rintro e w6 ⟨rfl, rfl⟩)
            go_roundw
            case rel => exact ⟨4, by simp, by omega, Lib.hid (H5.out.setCell (by simp) HWG.out 3 _), Lib.hid (set_at HG5.out 3 (.string (R 3)))⟩
            case measure => simp [intOf]
          · go_wp2_with fail
            have H6 := Lib.hid (H5.out.alloc (.cells (bl fun _ => false) 40))
            have HG6 := Lib.hid (alloc_old HG5.out (.cells (bl fun _ => false) 40))
            have HE6 := Lib.hid (alloc_at wr (.cells (bl fun _ => false) 40))
            have HWE := Lib.hid H5.out.bel.size
            have HNE := Lib.hid (show wr.heap.size ≠ G by have := lt_of HG5.out; omega)
            change Code.wp _ _ _ _ (wr.alloc (.cells (bl fun _ => false) 40))
            obtain ⟨E, hE⟩ : ∃ E, wr.heap.size = E := ⟨_, rfl⟩
            rw [hE] at H6 HE6 HWE HNE ⊢
            generalize wr.alloc (.cells (bl fun _ => false) 40) = w6 at H6 HG6 HE6 ⊢
            clear H5 HG5 hE
            go_loopg [12] 100 (fun gg s12 wq => ∃ (j : Nat) (b : Nat → Bool), s12 = .int .i64 j ∧ j ≤ m.length ∧ j ≤ 100 ∧ 100 - j ≤ gg ∧ Hid (Has w wq p (run d1 (m.take j)) [E, G]) ∧ Hid (wq.heap[G]? = some (.cells (wl R 4) 26 (0, 0))) ∧ Hid (wq.heap[E]? = some (.cells (bl b) 40 (0, 0))) ∧ Hid (∀ k, k < 4 → b k = false → Keeps k (R k) (run d1 (m.take j))))
            case atStart => exact ⟨0, fun _ => false, by simp, Nat.zero_le _, by omega, by omega, H6, HG6, HE6, Lib.hid (fun k hk _ => ⟨(HR.out k hk).2, fun x hx => by simp [run, HLT1.out] at hx⟩)⟩
            case round =>
              clear H6 HG6 HE6
              obtain ⟨wq, rfl⟩ : ∃ wq : World, wq = wr := ⟨_, rfl⟩
              obtain ⟨j, b, rfl, hj1, hj2, hjg, H7, HG7, HE7, HK⟩ := hrel
              by_cases hc2 : j < m.length ∧ j < 100
              · obtain ⟨hd1, hd2⟩ := hc2
                obtain ⟨blk, off, rfl, _, hcs⟩ := (HBB.out.below H7.out.bel) j hd1
                obtain ⟨x, hx⟩ : ∃ x, m[j] = x := ⟨_, rfl⟩
                rw [hx] at hcs
                have HX := Lib.hid (HOm.out x (hx ▸ List.getElem_mem hd1))
                have HXE := Lib.hid hx
                have c0 := hcs 0 _ rfl
                have c1 := hcs 1 _ rfl
                have c2 := hcs 2 _ rfl
                have c3 := hcs 3 _ rfl
                simp only [Nat.add_zero] at c0
                have HCB := Lib.hid (show blk ≠ E ∧ blk < wq.heap.size by
                  obtain ⟨F, _, h2, h3⟩ := H7.out.dev
                  obtain ⟨blk2, off2, e2, hb2, _⟩ := HBB.out j hd1
                  simp only [Option.some.injEq, Addr.mk.injEq, and_true] at e2
                  have := HWE.out
                  have := H7.out.bel.size
                  omega)
                clear hcs hx
                have hlt0 : d1.late.length = 0 := by rw [HLT1.out]; rfl
                have HLT := Lib.hid (show (run d1 (m.take j)).late.length ≤ 1000000 by have := run_late d1 (m.take j); have h3 := List.length_take_le j m; omega)
                clear hlt0
                have HKS := Lib.hid (fun (k : Nat) (hk : k < 4) (hb : b k = false) (hn : ¬ (x.k.tmod 5 = 0 ∧ x.at_ = k)) => (show Keeps k (R k) (run d1 (m.take (j + 1))) by rw [run_snoc _ _ _ hd1, HXE.out]; exact (HK.out k hk hb).act x hn))
                have HRN := Lib.hid (show run d1 (m.take (j + 1)) = ((run d1 (m.take j)).act x).2 by rw [run_snoc _ _ _ hd1, HXE.out])
                have hc4 : x.k.tmod 5 ≠ 0 ∨ (x.k.tmod 5 = 0 ∧ x.at_ < 0) ∨ (x.k.tmod 5 = 0 ∧ ¬ x.at_ < 0 ∧ 4 ≤ x.at_) ∨ (x.k.tmod 5 = 0 ∧ x.at_ = 0) ∨ (x.k.tmod 5 = 0 ∧ x.at_ = 1) ∨ (x.k.tmod 5 = 0 ∧ x.at_ = 2) ∨ (x.k.tmod 5 = 0 ∧ x.at_ = 3) := by omega
                obtain ⟨k1, k2⟩ := HX.out.1
                rcases hc4 with hz | ⟨hz, ha⟩ | ⟨hz, ha0, ha⟩ | ⟨hz, ha⟩ | ⟨hz, ha⟩ | ⟨hz, ha⟩ | ⟨hz, ha⟩
                · have n0 : (x.k.tmod 5 == 0) = false := by rw [beq_eq_false_iff_ne]; exact hz
                  have HN := Lib.hid (show ∀ k : Nat, ¬ (x.k.tmod 5 = 0 ∧ x.at_ = k) from fun k e => hz e.1)
                  clear hz
                  go_wp2_with fail
                  refine (has_do H7.out x HX.out HLT.out).mono ?_
                  rintro e w8 ⟨rfl, h8, hs8, _⟩
                  have H8 := Lib.hid h8
                  have HG8 := Lib.hid (hs8.at (by simp) HG7.out)
                  have HE8 := Lib.hid (hs8.at (by simp) HE7.out)
                  clear h8 hs8 H7 HG7 HE7 c0 c1 c2 c3
                  go_wp2
                  go_roundg (100 - (j + 1))
                  case measure => omega
                  case rel => exact ⟨j + 1, b, by go_num, by omega, by omega, by omega, Lib.hid (by rw [HRN.out]; exact H8.out), HG8, HE8, Lib.hid (fun k hk hb => HKS.out k hk hb (HN.out k))⟩
                · have HN := Lib.hid (show ∀ k : Nat, ¬ (x.k.tmod 5 = 0 ∧ x.at_ = k) from fun k e => by omega)
                  go_wp2_with fail
                  refine (has_do H7.out x HX.out HLT.out).mono ?_
                  rintro e w8 ⟨rfl, h8, hs8, _⟩
                  have H8 := Lib.hid h8
                  have HG8 := Lib.hid (hs8.at (by simp) HG7.out)
                  have HE8 := Lib.hid (hs8.at (by simp) HE7.out)
                  clear h8 hs8 H7 HG7 HE7 c0 c1 c2 c3
                  go_wp2
                  go_roundg (100 - (j + 1))
                  case measure => omega
                  case rel => exact ⟨j + 1, b, by go_num, by omega, by omega, by omega, Lib.hid (by rw [HRN.out]; exact H8.out), HG8, HE8, Lib.hid (fun k hk hb => HKS.out k hk hb (HN.out k))⟩
                · have HN := Lib.hid (show ∀ k : Nat, k < 4 → ¬ (x.k.tmod 5 = 0 ∧ x.at_ = k) from fun k hk e => by omega)
                  go_wp2_with fail
                  refine (has_do H7.out x HX.out HLT.out).mono ?_
                  rintro e w8 ⟨rfl, h8, hs8, _⟩
                  have H8 := Lib.hid h8
                  have HG8 := Lib.hid (hs8.at (by simp) HG7.out)
                  have HE8 := Lib.hid (hs8.at (by simp) HE7.out)
                  clear h8 hs8 H7 HG7 HE7 c0 c1 c2 c3
                  go_wp2
                  go_roundg (100 - (j + 1))
                  case measure => omega
                  case rel => exact ⟨j + 1, b, by go_num, by omega, by omega, by omega, Lib.hid (by rw [HRN.out]; exact H8.out), HG8, HE8, Lib.hid (fun k hk hb => HKS.out k hk hb (HN.out k hk))⟩
                · have HZ := Lib.hid hz
                  have HAT := Lib.hid ha
                  have HDO := Lib.hid (fun W h => has_do (w0 := w) (w := W) (p := p) (d := run d1 (m.take j)) (X := [E, G]) h x HX.out HLT.out)
                  rw [ha] at c1
                  have hy := blk4 HE7.out
                  clear hz ha
                  have hz := HZ.out
                  have hcc : ∀ i u, wq.cell? ⟨blk, i, none⟩ = some u → (wq.setCell ⟨E, 0, none⟩ (.bool true)).cell? ⟨blk, i, none⟩ = some u := fun i u h => (World.cell?_setCell_other _ _ _ _ (fun e => HCB.out.1 (by injection e with e1 _ _; exact e1.symm))).trans h
                  have d0 := hcc _ _ c0
                  have e1 := hcc _ _ c1
                  have e2 := hcc _ _ c2
                  have e3 := hcc _ _ c3
                  clear hcc
                  go_wp2_with fail
                  have HD2 := HDO.out _ (H7.out.setCell (g := E) (by simp) HWE.out 0 (.bool true))
                  rw [HAT.out] at HD2
                  refine HD2.mono ?_
                  rintro e w8 ⟨rfl, h8, hs8, _⟩
                  have H8 := Lib.hid h8
                  have HG8 := Lib.hid (hs8.at (by simp) (set_far HG7.out (p := ⟨E, 0, none⟩) (fun e => HNE.out e.symm) (.bool true)))
                  have HE8 : Hid (w8.heap[E]? = some (.cells (bl (fun i => if i = 0 then true else b i)) 40 (0, 0))) := hs8.at (by simp) (set_at HE7.out 0 (.bool true))
                  clear h8 hs8 H7 HG7 HE7 c0 c1 c2 c3 d0 e1 e2 e3 hy HD2
                  go_wp2
                  go_roundg (100 - (j + 1))
                  case measure => omega
                  case rel => exact ⟨j + 1, (fun i => if i = 0 then true else b i), by go_num, by omega, by omega, by omega, Lib.hid (by rw [HRN.out]; exact H8.out), HG8, HE8, Lib.hid (fun k hk hb => by
                    by_cases hkt : k = 0
                    · simp [hkt] at hb
                    · simp only [hkt, if_false] at hb
                      exact HKS.out k hk hb (fun e => hkt (by have := HAT.out; omega)))⟩
                · have HZ := Lib.hid hz
                  have HAT := Lib.hid ha
                  have HDO := Lib.hid (fun W h => has_do (w0 := w) (w := W) (p := p) (d := run d1 (m.take j)) (X := [E, G]) h x HX.out HLT.out)
                  rw [ha] at c1
                  have hy := blk4 HE7.out
                  clear hz ha
                  have hz := HZ.out
                  have hcc : ∀ i u, wq.cell? ⟨blk, i, none⟩ = some u → (wq.setCell ⟨E, 1, none⟩ (.bool true)).cell? ⟨blk, i, none⟩ = some u := fun i u h => (World.cell?_setCell_other _ _ _ _ (fun e => HCB.out.1 (by injection e with e1 _ _; exact e1.symm))).trans h
                  have d0 := hcc _ _ c0
                  have e1 := hcc _ _ c1
                  have e2 := hcc _ _ c2
                  have e3 := hcc _ _ c3
                  clear hcc
                  go_wp2_with fail
                  have HD2 := HDO.out _ (H7.out.setCell (g := E) (by simp) HWE.out 1 (.bool true))
                  rw [HAT.out] at HD2
                  refine HD2.mono ?_
                  rintro e w8 ⟨rfl, h8, hs8, _⟩
                  have H8 := Lib.hid h8
                  have HG8 := Lib.hid (hs8.at (by simp) (set_far HG7.out (p := ⟨E, 1, none⟩) (fun e => HNE.out e.symm) (.bool true)))
                  have HE8 : Hid (w8.heap[E]? = some (.cells (bl (fun i => if i = 1 then true else b i)) 40 (0, 0))) := hs8.at (by simp) (set_at HE7.out 1 (.bool true))
                  clear h8 hs8 H7 HG7 HE7 c0 c1 c2 c3 d0 e1 e2 e3 hy HD2
                  go_wp2
                  go_roundg (100 - (j + 1))
                  case measure => omega
                  case rel => exact ⟨j + 1, (fun i => if i = 1 then true else b i), by go_num, by omega, by omega, by omega, Lib.hid (by rw [HRN.out]; exact H8.out), HG8, HE8, Lib.hid (fun k hk hb => by
                    by_cases hkt : k = 1
                    · simp [hkt] at hb
                    · simp only [hkt, if_false] at hb
                      exact HKS.out k hk hb (fun e => hkt (by have := HAT.out; omega)))⟩
                · have HZ := Lib.hid hz
                  have HAT := Lib.hid ha
                  have HDO := Lib.hid (fun W h => has_do (w0 := w) (w := W) (p := p) (d := run d1 (m.take j)) (X := [E, G]) h x HX.out HLT.out)
                  rw [ha] at c1
                  have hy := blk4 HE7.out
                  clear hz ha
                  have hz := HZ.out
                  have hcc : ∀ i u, wq.cell? ⟨blk, i, none⟩ = some u → (wq.setCell ⟨E, 2, none⟩ (.bool true)).cell? ⟨blk, i, none⟩ = some u := fun i u h => (World.cell?_setCell_other _ _ _ _ (fun e => HCB.out.1 (by injection e with e1 _ _; exact e1.symm))).trans h
                  have d0 := hcc _ _ c0
                  have e1 := hcc _ _ c1
                  have e2 := hcc _ _ c2
                  have e3 := hcc _ _ c3
                  clear hcc
                  go_wp2_with fail
                  have HD2 := HDO.out _ (H7.out.setCell (g := E) (by simp) HWE.out 2 (.bool true))
                  rw [HAT.out] at HD2
                  refine HD2.mono ?_
                  rintro e w8 ⟨rfl, h8, hs8, _⟩
                  have H8 := Lib.hid h8
                  have HG8 := Lib.hid (hs8.at (by simp) (set_far HG7.out (p := ⟨E, 2, none⟩) (fun e => HNE.out e.symm) (.bool true)))
                  have HE8 : Hid (w8.heap[E]? = some (.cells (bl (fun i => if i = 2 then true else b i)) 40 (0, 0))) := hs8.at (by simp) (set_at HE7.out 2 (.bool true))
                  clear h8 hs8 H7 HG7 HE7 c0 c1 c2 c3 d0 e1 e2 e3 hy HD2
                  go_wp2
                  go_roundg (100 - (j + 1))
                  case measure => omega
                  case rel => exact ⟨j + 1, (fun i => if i = 2 then true else b i), by go_num, by omega, by omega, by omega, Lib.hid (by rw [HRN.out]; exact H8.out), HG8, HE8, Lib.hid (fun k hk hb => by
                    by_cases hkt : k = 2
                    · simp [hkt] at hb
                    · simp only [hkt, if_false] at hb
                      exact HKS.out k hk hb (fun e => hkt (by have := HAT.out; omega)))⟩
                · have HZ := Lib.hid hz
                  have HAT := Lib.hid ha
                  have HDO := Lib.hid (fun W h => has_do (w0 := w) (w := W) (p := p) (d := run d1 (m.take j)) (X := [E, G]) h x HX.out HLT.out)
                  rw [ha] at c1
                  have hy := blk4 HE7.out
                  clear hz ha
                  have hz := HZ.out
                  have hcc : ∀ i u, wq.cell? ⟨blk, i, none⟩ = some u → (wq.setCell ⟨E, 3, none⟩ (.bool true)).cell? ⟨blk, i, none⟩ = some u := fun i u h => (World.cell?_setCell_other _ _ _ _ (fun e => HCB.out.1 (by injection e with e1 _ _; exact e1.symm))).trans h
                  have d0 := hcc _ _ c0
                  have e1 := hcc _ _ c1
                  have e2 := hcc _ _ c2
                  have e3 := hcc _ _ c3
                  clear hcc
                  go_wp2_with fail
                  have HD2 := HDO.out _ (H7.out.setCell (g := E) (by simp) HWE.out 3 (.bool true))
                  rw [HAT.out] at HD2
                  refine HD2.mono ?_
                  rintro e w8 ⟨rfl, h8, hs8, _⟩
                  have H8 := Lib.hid h8
                  have HG8 := Lib.hid (hs8.at (by simp) (set_far HG7.out (p := ⟨E, 3, none⟩) (fun e => HNE.out e.symm) (.bool true)))
                  have HE8 : Hid (w8.heap[E]? = some (.cells (bl (fun i => if i = 3 then true else b i)) 40 (0, 0))) := hs8.at (by simp) (set_at HE7.out 3 (.bool true))
                  clear h8 hs8 H7 HG7 HE7 c0 c1 c2 c3 d0 e1 e2 e3 hy HD2
                  go_wp2
                  go_roundg (100 - (j + 1))
                  case measure => omega
                  case rel => exact ⟨j + 1, (fun i => if i = 3 then true else b i), by go_num, by omega, by omega, by omega, Lib.hid (by rw [HRN.out]; exact H8.out), HG8, HE8, Lib.hid (fun k hk hb => by
                    by_cases hkt : k = 3
                    · simp [hkt] at hb
                    · simp only [hkt, if_false] at hb
                      exact HKS.out k hk hb (fun e => hkt (by have := HAT.out; omega)))⟩
              · obtain ⟨d2, hd2⟩ : ∃ d2, run d1 (m.take j) = d2 := ⟨_, rfl⟩
                have hlt0 : d1.late.length = 0 := by rw [HLT1.out]; rfl
                have HLT := Lib.hid (show d2.late.length ≤ 1000000 by rw [← hd2]; have := run_late d1 (m.take j); have h3 := List.length_take_le j m; omega)
                clear hlt0
                rw [hd2] at H7 HK
                clear hd2
                have hc' : ¬ j < m.length ∨ (j < m.length ∧ ¬ j < 100) := by omega
                clear hc2
                rcases hc' with he | ⟨he, he2⟩
                all_goals
                  go_wp2_with fail
                  refine (has_crash H7.out 18446744073709551615 (by decide) (by decide) HLT.out).mono ?_
                  rintro e w8 ⟨rfl, h8, hs8, _⟩
                  have H8 := Lib.hid h8
                  have HG8 := Lib.hid (hs8.at (by simp) HG7.out)
                  have HE8 := Lib.hid (hs8.at (by simp) HE7.out)
                  clear h8 hs8 H7 HG7 HE7
                  go_wp2_with fail
                  go_loopw [14] (fun s14 wz => ∃ k : Nat, s14 = .int .i64 k ∧ k ≤ 4 ∧ Hid (wz = w8)) (fun s14 _ => 4 - (intOf s14).toNat)
                  case atStart => exact ⟨0, by simp, by omega, Lib.hid rfl⟩
                  case round =>
                    obtain ⟨k, rfl, hk, hw⟩ := hrel
                    obtain rfl := hw.out
                    have hk5 : k = 0 ∨ k = 1 ∨ k = 2 ∨ k = 3 ∨ k = 4 := by omega
                    clear hk
                    rcases hk5 with rfl | rfl | rfl | rfl | rfl
                    · have hx := blk4 HG8.out
                      have hy := blk4 HE8.out
                      cases hb : b 0
                      · have e0 : readE (d2.crash 18446744073709551615) 0 = .returned (.tuple #[.string (R 0), .int .i64 0]) := (HK.out 0 (by omega) hb).read _
                        have E0 := Lib.hid e0
                        clear e0
                        go_wp2_with (go_at_call 14; refine (has_read H8.out 0).mono ?_; rw [E0.out]; rintro e w9 ⟨rfl, rfl⟩)
                        go_roundw
                        case rel => exact ⟨1, by simp, by omega, by first | exact Lib.hid rfl | exact Lib.hid trivial⟩
                        case measure => simp [intOf]
                      · go_wp2_with (go_at_call 14; refine (has_read H8.out 0).mono ?_; unfold readE; rintro e w9 ⟨rfl, rfl⟩)
                        go_roundw
                        case rel => exact ⟨1, by simp, by omega, by first | exact Lib.hid rfl | exact Lib.hid trivial⟩
                        case measure => simp [intOf]
                    · have hx := blk4 HG8.out
                      have hy := blk4 HE8.out
                      cases hb : b 1
                      · have e1 : readE (d2.crash 18446744073709551615) 1 = .returned (.tuple #[.string (R 1), .int .i64 0]) := (HK.out 1 (by omega) hb).read _
                        have E1 := Lib.hid e1
                        clear e1
                        go_wp2_with (go_at_call 14; refine (has_read H8.out 1).mono ?_; rw [E1.out]; rintro e w9 ⟨rfl, rfl⟩)
                        go_roundw
                        case rel => exact ⟨2, by simp, by omega, by first | exact Lib.hid rfl | exact Lib.hid trivial⟩
                        case measure => simp [intOf]
                      · go_wp2_with (go_at_call 14; refine (has_read H8.out 1).mono ?_; unfold readE; rintro e w9 ⟨rfl, rfl⟩)
                        go_roundw
                        case rel => exact ⟨2, by simp, by omega, by first | exact Lib.hid rfl | exact Lib.hid trivial⟩
                        case measure => simp [intOf]
                    · have hx := blk4 HG8.out
                      have hy := blk4 HE8.out
                      cases hb : b 2
                      · have e2 : readE (d2.crash 18446744073709551615) 2 = .returned (.tuple #[.string (R 2), .int .i64 0]) := (HK.out 2 (by omega) hb).read _
                        have E2 := Lib.hid e2
                        clear e2
                        go_wp2_with (go_at_call 14; refine (has_read H8.out 2).mono ?_; rw [E2.out]; rintro e w9 ⟨rfl, rfl⟩)
                        go_roundw
                        case rel => exact ⟨3, by simp, by omega, by first | exact Lib.hid rfl | exact Lib.hid trivial⟩
                        case measure => simp [intOf]
                      · go_wp2_with (go_at_call 14; refine (has_read H8.out 2).mono ?_; unfold readE; rintro e w9 ⟨rfl, rfl⟩)
                        go_roundw
                        case rel => exact ⟨3, by simp, by omega, by first | exact Lib.hid rfl | exact Lib.hid trivial⟩
                        case measure => simp [intOf]
                    · have hx := blk4 HG8.out
                      have hy := blk4 HE8.out
                      cases hb : b 3
                      · have e3 : readE (d2.crash 18446744073709551615) 3 = .returned (.tuple #[.string (R 3), .int .i64 0]) := (HK.out 3 (by omega) hb).read _
                        have E3 := Lib.hid e3
                        clear e3
                        go_wp2_with (go_at_call 14; refine (has_read H8.out 3).mono ?_; rw [E3.out]; rintro e w9 ⟨rfl, rfl⟩)
                        go_roundw
                        case rel => exact ⟨4, by simp, by omega, by first | exact Lib.hid rfl | exact Lib.hid trivial⟩
                        case measure => simp [intOf]
                      · go_wp2_with (go_at_call 14; refine (has_read H8.out 3).mono ?_; unfold readE; rintro e w9 ⟨rfl, rfl⟩)
                        go_roundw
                        case rel => exact ⟨4, by simp, by omega, by first | exact Lib.hid rfl | exact Lib.hid trivial⟩
                        case measure => simp [intOf]
                    · go_wp2_with fail
                      refine (alive_calls wr).mono ?_
                      rintro e w9 ⟨rfl, hb⟩
                      have HB9 := Lib.hid (H8.out.bel.trans (hb.mono H8.out.bel.size))
                      clear hb
                      go_wp2
                      go_ret
                      exact ⟨rfl, HB9.out⟩
end Go.Proofs.Ytmphnfkohilojaa.Dev
namespace Go.Proofs.Ytmphnfkohilojaa.deviceFirm
open Go.RowKit Go.Sees
set_option linter.unusedVariables false
theorem deviceFirm_walk (a0 : Option Addr) (len0 cap0 : Nat) (a1 : Option Addr) (len1 cap1 : Nat) (w : World) (w0 : Sees Try.prog w 140737488351232 5 22 [.slice a0 len0 cap0]) (w1 : Sees Try.prog w 140737488351232 5 22 [.slice a1 len1 cap1]) :
    Calls Try.prog 4 #[.slice a0 len0 cap0, .slice a1 len1 cap1] w fun e w' => e = .returned (.bool true) ∧ Below w.heap.size w w' := by
  obtain ⟨l, rfl, _, h1, _, hA, hO⟩ := Dev.sees_acts (k := 2) w0
  obtain ⟨m, rfl, _, h2, _, hB, hP⟩ := Dev.sees_acts (k := 2) w1
  exact Dev.firm_calls a0 a1 cap0 cap1 l m w hA hB hO hP h1 h2
end Go.Proofs.Ytmphnfkohilojaa.deviceFirm
