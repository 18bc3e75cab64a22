/- Layer device: each block is read as it was written last, as long as nothing dies. -/
import Derived.Test.YtmphnfkohilojaaDevLaws
namespace Go.Proofs.Ytmphnfkohilojaa.Dev
open Go.RowKit Go.Own Go.DevL Go.Blk Go.Sees
set_option linter.unusedVariables false
set_option linter.unusedSimpArgs false
set_option maxRecDepth 100000
/-- Four strings. -/
def sl (R : Nat → ByteArray) : Array Value := #[.string (R 0), .string (R 1), .string (R 2), .string (R 3)]
/-- A device of four blocks that lives and has no fuse, and what is seen in it. -/
structure Live (R : Nat → ByteArray) (d : Dv) : Prop where
  len : d.firm.length = 4
  fuse : d.fuse = -1
  dead : d.dead = false
  now : ∀ k : Nat, k < 4 → d.now[k]? = some (R k)
theorem Live.burns {R : Nat → ByteArray} {d : Dv} (h : Live R d) : d.burns = false := by unfold Dv.burns; rw [h.fuse, h.dead]; rfl
theorem Live.barrier {R : Nat → ByteArray} {d : Dv} (h : Live R d) : d.barrier.1 = 0 ∧ Live R d.barrier.2 := by
  unfold Dv.barrier
  rw [if_neg (by rw [h.burns]; simp)]
  exact ⟨rfl, ⟨(length_puts _ _).trans h.len, by show less d.fuse = -1; rw [h.fuse]; rfl, h.dead, fun k hk => h.now k hk⟩⟩
theorem Live.write {R : Nat → ByteArray} {d : Dv} (h : Live R d) (k : Nat) (hk : k < 4) (b : ByteArray) (hb : b.size = 256) : (d.write k b).1 = 0 ∧ Live (fun i => if i = k then b else R i) (d.write k b).2 := by
  unfold Dv.write
  have hg : d.bad (k : Int) = false := by
    unfold Dv.bad
    rw [h.len, Bool.or_eq_false_iff, decide_eq_false_iff_not, decide_eq_false_iff_not]; omega
  rw [if_neg (by rw [hg, hb]; simp), if_neg (by rw [h.burns]; simp)]
  refine ⟨rfl, ⟨h.len, by show less d.fuse = -1; rw [h.fuse]; rfl, h.dead, fun i hi => ?_⟩⟩
  have e : Dv.now { d with late := d.late ++ [((k : Int).toNat, b)], fuse := less d.fuse } = put d.now (k, b) := by
    unfold Dv.now
    rw [List.foldl_append, Int.toNat_natCast]; rfl
  rw [e]
  have hl : d.now.length = 4 := by unfold Dv.now; rw [length_puts, h.len]
  unfold put
  by_cases hik : i = k
  · subst hik
    rw [List.getElem?_set_self (by omega)]; simp
  · rw [List.getElem?_set_ne (fun e => hik e.symm), h.now i hi]; simp [hik]
theorem Live.read {R : Nat → ByteArray} {d : Dv} (h : Live R d) (k : Nat) (hk : k < 4) : readE d k = .returned (.tuple #[.string (R k), .int .i64 0]) := by
  rw [read_live (by rw [h.len]; exact hk) h.dead, List.getD, h.now k hk]; rfl
theorem turn4 (n : Int) : wrap64 ((IntKind.u64.wrap n).tmod 4) = 0 ∨ wrap64 ((IntKind.u64.wrap n).tmod 4) = 1 ∨ wrap64 ((IntKind.u64.wrap n).tmod 4) = 2 ∨ wrap64 ((IntKind.u64.wrap n).tmod 4) = 3 := by
  have h0 : 0 ≤ IntKind.u64.wrap n := by rw [IntKind.wrap_u64]; omega
  rw [Int.tmod_eq_emod_of_nonneg h0]
  unfold wrap64
  omega
theorem fresh_live : Live (fun _ => Z) (fresh 4) where
  len := rfl
  fuse := rfl
  dead := rfl
  now k hk := by
    have e : (fresh 4).now = List.replicate 4 Z := rfl
    rw [e, List.getElem?_replicate, if_pos hk]
set_option maxHeartbeats 8000000 in
theorem last_calls (A : Option Addr) (ca : Nat) (l : List SAct) (w : World) (hA : ArrAt w A acells 4 l) (hl : ∀ x ∈ l, x.OK) (ll : l.length ≤ 9223372036854775807) :
    Calls Try.prog 3 #[.slice A l.length ca] w fun e w' => e = .returned (.bool true) ∧ Below w.heap.size w w' := by
  have HA := Lib.hid hA
  have HOl := Lib.hid hl
  have HZ := Lib.hid (show ∀ W, Calls Try.prog 11 #[.int .u8 0, .int .i64 256] W fun e w' => e = .returned (.string Z) ∧ Below W.heap.size W w' from fun W => block_any 0 256 (by decide) W)
  have HBL := Lib.hid (show ∀ (b : UInt8) W, Calls Try.prog 11 #[.int .u8 (b.toNat : Int), .int .i64 256] W fun e w' => e = .returned (.string (rep8 b 256)) ∧ Below W.heap.size W w' from fun b W => block_any b 256 (by decide) W)
  clear hA hl
  go_enter Try.func3, Try.ntmps3
  go_wp2_with fail
  refine (alive_calls w).mono ?_
  rintro e w1 ⟨rfl, hb⟩
  have HB1 := Lib.hid hb
  clear hb
  go_wp2_with fail
  refine (has_new 4 w w1 (X := []) HB1.out (fun k hk => by simp at hk)).mono ?_
  rintro e w2 ⟨⟨p, rfl, h2⟩, _⟩
  have H2 := Lib.hid h2
  clear h2 HB1
  go_wp2_with fail
  have H5 := Lib.hid (H2.out.alloc (.cells (sl fun _ => ByteArray.empty) 26))
  have HG5 := Lib.hid (alloc_at w2 (.cells (sl fun _ => ByteArray.empty) 26))
  have HWG := Lib.hid H2.out.bel.size
  change Code.wp _ _ _ _ (w2.alloc (.cells (sl fun _ => ByteArray.empty) 26))
  obtain ⟨G, hG⟩ : ∃ G, w2.heap.size = G := ⟨_, rfl⟩
  rw [hG] at H5 HG5 HWG ⊢
  generalize w2.alloc (.cells (sl fun _ => ByteArray.empty) 26) = w5 at H5 HG5 ⊢
  clear H2 hG
  go_loopw [5] (fun s5 wr => ∃ k : Nat, s5 = .int .i64 k ∧ k ≤ 4 ∧ Hid (Has w wr p (fresh 4) [G]) ∧ Hid (wr.heap[G]? = some (.cells (sl fun i => if i < k then Z else ByteArray.empty) 26 (0, 0)))) (fun s5 _ => 4 - (intOf s5).toNat)
  case atStart => exact ⟨0, by simp, by omega, H5, HG5⟩
  case round =>
    clear H5 HG5
    obtain ⟨k, rfl, hk, H5, HG5⟩ := hrel
    have hk5 : k = 0 ∨ k = 1 ∨ k = 2 ∨ k = 3 ∨ k = 4 := by omega
    clear hk
    rcases hk5 with rfl | rfl | rfl | rfl | rfl
    · have hx := blk4 HG5.out
      go_wp2_with fail
      refine (HZ.out wr).mono ?_
      rintro e w6 ⟨rfl, hb⟩
      have H6 := Lib.hid (H5.out.below hb)
      have HG6 := Lib.hid (below_old HG5.out hb)
      clear hb hx
      have hx := blk4 HG6.out
      go_wp2
      go_roundw
      case rel => exact ⟨1, by simp, by omega, Lib.hid (H6.out.setCell (by simp) HWG.out 0 _), Lib.hid (set_at HG6.out 0 (.string Z))⟩
      case measure => simp [intOf]
    · have hx := blk4 HG5.out
      go_wp2_with fail
      refine (HZ.out wr).mono ?_
      rintro e w6 ⟨rfl, hb⟩
      have H6 := Lib.hid (H5.out.below hb)
      have HG6 := Lib.hid (below_old HG5.out hb)
      clear hb hx
      have hx := blk4 HG6.out
      go_wp2
      go_roundw
      case rel => exact ⟨2, by simp, by omega, Lib.hid (H6.out.setCell (by simp) HWG.out 1 _), Lib.hid (set_at HG6.out 1 (.string Z))⟩
      case measure => simp [intOf]
    · have hx := blk4 HG5.out
      go_wp2_with fail
      refine (HZ.out wr).mono ?_
      rintro e w6 ⟨rfl, hb⟩
      have H6 := Lib.hid (H5.out.below hb)
      have HG6 := Lib.hid (below_old HG5.out hb)
      clear hb hx
      have hx := blk4 HG6.out
      go_wp2
      go_roundw
      case rel => exact ⟨3, by simp, by omega, Lib.hid (H6.out.setCell (by simp) HWG.out 2 _), Lib.hid (set_at HG6.out 2 (.string Z))⟩
      case measure => simp [intOf]
    · have hx := blk4 HG5.out
      go_wp2_with fail
      refine (HZ.out wr).mono ?_
      rintro e w6 ⟨rfl, hb⟩
      have H6 := Lib.hid (H5.out.below hb)
      have HG6 := Lib.hid (below_old HG5.out hb)
      clear hb hx
      have hx := blk4 HG6.out
      go_wp2
      go_roundw
      case rel => exact ⟨4, by simp, by omega, Lib.hid (H6.out.setCell (by simp) HWG.out 3 _), Lib.hid (set_at HG6.out 3 (.string Z))⟩
      case measure => simp [intOf]
    · have HE5 := Lib.hid (show wr.heap[G]? = some (.cells (sl fun _ => Z) 26 (0, 0)) from HG5.out)
      clear HG5
      rw [show ((4 : Nat) : Int) = 4 from rfl]
      go_wp2_with fail
      go_loopg [6] 100 (fun gg s6 wq => ∃ (j : Nat) (R : Nat → ByteArray) (d : Dv), s6 = .int .i64 j ∧ j ≤ l.length ∧ j ≤ 100 ∧ 100 - j ≤ gg ∧ Hid (Has w wq p d [G]) ∧ Hid (wq.heap[G]? = some (.cells (sl R) 26 (0, 0))) ∧ Hid (Live R d) ∧ Hid (d.late.length ≤ j))
      case atStart => exact ⟨0, fun _ => Z, fresh 4, by simp, Nat.zero_le _, by omega, by omega, H5, HE5, Lib.hid fresh_live, Lib.hid (Nat.le_refl _)⟩
      case round =>
        clear H5 HE5
        obtain ⟨wq, rfl⟩ : ∃ wq : World, wq = wr := ⟨_, rfl⟩
        obtain ⟨j, R, d, rfl, hj1, hj2, hjg, H7, HG7, HLV, HLA⟩ := hrel
        by_cases hc2 : j < l.length ∧ j < 100
        · obtain ⟨hd1, hd2⟩ := hc2
          obtain ⟨blk, off, rfl, hbw, hcs0⟩ := HA.out j hd1
          obtain ⟨x, hx⟩ : ∃ x, l[j] = x := ⟨_, rfl⟩
          rw [hx] at hcs0
          have HX := Lib.hid (HOl.out x (hx ▸ List.getElem_mem hd1))
          have HCS : Hid (∀ W, Below w.heap.size w W → ∀ i u, (acells x)[i]? = some u → W.cell? ⟨blk, off + j * 4 + i, none⟩ = some u) := fun W hb i u hu => (hb.cell (p := ⟨blk, _, none⟩) hbw).trans (hcs0 i u hu)
          clear hcs0 hx
          have c0 := HCS.out _ H7.out.bel 0 _ rfl
          have c1 := HCS.out _ H7.out.bel 1 _ rfl
          have c2 := HCS.out _ H7.out.bel 2 _ rfl
          simp only [Nat.add_zero] at c0
          obtain ⟨k1, k2⟩ := HX.out.1
          by_cases hz : x.k.tmod 5 = 1
          · go_wp2_with fail
            refine (has_barrier H7.out).mono ?_
            rw [HLV.out.barrier.1]
            rintro e w8 ⟨rfl, h8, hs8, _⟩
            have H8 := Lib.hid h8
            have HG8 := Lib.hid (hs8.at (by simp) HG7.out)
            clear h8 hs8 H7 HG7 c0 c1 c2
            go_wp2
            go_roundg (100 - (j + 1))
            case measure => omega
            case rel => exact ⟨j + 1, R, _, by go_num, by omega, by omega, by omega, H8, HG8, Lib.hid HLV.out.barrier.2, Lib.hid (by have := barrier_late d; have := HLA.out; omega)⟩
          · have n1 : (x.k.tmod 5 == 1) = false := by rw [beq_eq_false_iff_ne]; exact hz
            clear hz
            rcases turn4 x.at_ with hq | hq | hq | hq
            · have HQ := Lib.hid hq
              clear hq
              go_wp2_with fail
              rw [HQ.out]
              refine (HBL.out x.b wq).mono ?_
              rintro e w7 ⟨rfl, hb⟩
              have H8 := Lib.hid (H7.out.below hb)
              have HG8 := Lib.hid (below_old HG7.out hb)
              clear hb c0 c1 c2
              have c0 := HCS.out _ H8.out.bel 0 _ rfl
              have hx := blk4 HG8.out
              go_wp2_with fail
              have HS := Lib.hid (H8.out.setCell (g := G) (by simp) HWG.out 0 (.string (rep8 x.b 256)))
              have HGS : Hid ((w7.setCell ⟨G, 0, none⟩ (.string (rep8 x.b 256))).heap[G]? = some (.cells (sl (fun i => if i = 0 then rep8 x.b 256 else R i)) 26 (0, 0))) := set_at HG8.out 0 (.string (rep8 x.b 256))
              refine (has_write HS.out 0 (rep8 x.b 256) (by have := HLA.out; omega)).mono ?_
              rw [show (d.write 0 (rep8 x.b 256)).1 = 0 from (HLV.out.write 0 (by omega) (rep8 x.b 256) (rep8_size _ _)).1]
              rintro e w9 ⟨rfl, h9, hs9, _⟩
              have H9 := Lib.hid h9
              have HG9 := Lib.hid (hs9.at (by simp) HGS.out)
              clear h9 hs9 HS HGS H8 HG8 H7 HG7 hx c0
              go_wp2
              go_roundg (100 - (j + 1))
              case measure => omega
              case rel => exact ⟨j + 1, (fun i => if i = 0 then rep8 x.b 256 else R i), _, by go_num, by omega, by omega, by omega, H9, HG9, Lib.hid (HLV.out.write 0 (by omega) (rep8 x.b 256) (rep8_size _ _)).2, Lib.hid (by have h := write_late d 0 (rep8 x.b 256); have := HLA.out; omega)⟩
            · have HQ := Lib.hid hq
              clear hq
              go_wp2_with fail
              rw [HQ.out]
              refine (HBL.out x.b wq).mono ?_
              rintro e w7 ⟨rfl, hb⟩
              have H8 := Lib.hid (H7.out.below hb)
              have HG8 := Lib.hid (below_old HG7.out hb)
              clear hb c0 c1 c2
              have c0 := HCS.out _ H8.out.bel 0 _ rfl
              have hx := blk4 HG8.out
              go_wp2_with fail
              have HS := Lib.hid (H8.out.setCell (g := G) (by simp) HWG.out 1 (.string (rep8 x.b 256)))
              have HGS : Hid ((w7.setCell ⟨G, 1, none⟩ (.string (rep8 x.b 256))).heap[G]? = some (.cells (sl (fun i => if i = 1 then rep8 x.b 256 else R i)) 26 (0, 0))) := set_at HG8.out 1 (.string (rep8 x.b 256))
              refine (has_write HS.out 1 (rep8 x.b 256) (by have := HLA.out; omega)).mono ?_
              rw [show (d.write 1 (rep8 x.b 256)).1 = 0 from (HLV.out.write 1 (by omega) (rep8 x.b 256) (rep8_size _ _)).1]
              rintro e w9 ⟨rfl, h9, hs9, _⟩
              have H9 := Lib.hid h9
              have HG9 := Lib.hid (hs9.at (by simp) HGS.out)
              clear h9 hs9 HS HGS H8 HG8 H7 HG7 hx c0
              go_wp2
              go_roundg (100 - (j + 1))
              case measure => omega
              case rel => exact ⟨j + 1, (fun i => if i = 1 then rep8 x.b 256 else R i), _, by go_num, by omega, by omega, by omega, H9, HG9, Lib.hid (HLV.out.write 1 (by omega) (rep8 x.b 256) (rep8_size _ _)).2, Lib.hid (by have h := write_late d 1 (rep8 x.b 256); have := HLA.out; omega)⟩
            · have HQ := Lib.hid hq
              clear hq
              go_wp2_with fail
              rw [HQ.out]
              refine (HBL.out x.b wq).mono ?_
              rintro e w7 ⟨rfl, hb⟩
              have H8 := Lib.hid (H7.out.below hb)
              have HG8 := Lib.hid (below_old HG7.out hb)
              clear hb c0 c1 c2
              have c0 := HCS.out _ H8.out.bel 0 _ rfl
              have hx := blk4 HG8.out
              go_wp2_with fail
              have HS := Lib.hid (H8.out.setCell (g := G) (by simp) HWG.out 2 (.string (rep8 x.b 256)))
              have HGS : Hid ((w7.setCell ⟨G, 2, none⟩ (.string (rep8 x.b 256))).heap[G]? = some (.cells (sl (fun i => if i = 2 then rep8 x.b 256 else R i)) 26 (0, 0))) := set_at HG8.out 2 (.string (rep8 x.b 256))
              refine (has_write HS.out 2 (rep8 x.b 256) (by have := HLA.out; omega)).mono ?_
              rw [show (d.write 2 (rep8 x.b 256)).1 = 0 from (HLV.out.write 2 (by omega) (rep8 x.b 256) (rep8_size _ _)).1]
              rintro e w9 ⟨rfl, h9, hs9, _⟩
              have H9 := Lib.hid h9
              have HG9 := Lib.hid (hs9.at (by simp) HGS.out)
              clear h9 hs9 HS HGS H8 HG8 H7 HG7 hx c0
              go_wp2
              go_roundg (100 - (j + 1))
              case measure => omega
              case rel => exact ⟨j + 1, (fun i => if i = 2 then rep8 x.b 256 else R i), _, by go_num, by omega, by omega, by omega, H9, HG9, Lib.hid (HLV.out.write 2 (by omega) (rep8 x.b 256) (rep8_size _ _)).2, Lib.hid (by have h := write_late d 2 (rep8 x.b 256); have := HLA.out; omega)⟩
            · have HQ := Lib.hid hq
              clear hq
              go_wp2_with fail
              rw [HQ.out]
              refine (HBL.out x.b wq).mono ?_
              rintro e w7 ⟨rfl, hb⟩
              have H8 := Lib.hid (H7.out.below hb)
              have HG8 := Lib.hid (below_old HG7.out hb)
              clear hb c0 c1 c2
              have c0 := HCS.out _ H8.out.bel 0 _ rfl
              have hx := blk4 HG8.out
              go_wp2_with fail
              have HS := Lib.hid (H8.out.setCell (g := G) (by simp) HWG.out 3 (.string (rep8 x.b 256)))
              have HGS : Hid ((w7.setCell ⟨G, 3, none⟩ (.string (rep8 x.b 256))).heap[G]? = some (.cells (sl (fun i => if i = 3 then rep8 x.b 256 else R i)) 26 (0, 0))) := set_at HG8.out 3 (.string (rep8 x.b 256))
              refine (has_write HS.out 3 (rep8 x.b 256) (by have := HLA.out; omega)).mono ?_
              rw [show (d.write 3 (rep8 x.b 256)).1 = 0 from (HLV.out.write 3 (by omega) (rep8 x.b 256) (rep8_size _ _)).1]
              rintro e w9 ⟨rfl, h9, hs9, _⟩
              have H9 := Lib.hid h9
              have HG9 := Lib.hid (hs9.at (by simp) HGS.out)
              clear h9 hs9 HS HGS H8 HG8 H7 HG7 hx c0
              go_wp2
              go_roundg (100 - (j + 1))
              case measure => omega
              case rel => exact ⟨j + 1, (fun i => if i = 3 then rep8 x.b 256 else R i), _, by go_num, by omega, by omega, by omega, H9, HG9, Lib.hid (HLV.out.write 3 (by omega) (rep8 x.b 256) (rep8_size _ _)).2, Lib.hid (by have h := write_late d 3 (rep8 x.b 256); have := HLA.out; omega)⟩
        · have hc' : ¬ j < l.length ∨ (j < l.length ∧ ¬ j < 100) := by omega
          clear hc2
          rcases hc' with he | ⟨he, he2⟩
          all_goals
            go_wp2_with fail
            go_loopw [8] (fun s8 wz => ∃ k : Nat, s8 = .int .i64 k ∧ k ≤ 4 ∧ Hid (wz = wq)) (fun s8 _ => 4 - (intOf s8).toNat)
            case atStart => exact ⟨0, by simp, by omega, Lib.hid rfl⟩
            case round =>
              obtain ⟨k, rfl, hk, hw⟩ := hrel
              obtain rfl := hw.out
              have hk5 : k = 0 ∨ k = 1 ∨ k = 2 ∨ k = 3 ∨ k = 4 := by omega
              clear hk
              rcases hk5 with rfl | rfl | rfl | rfl | rfl
              · have hx := blk4 HG7.out
                have e0 : readE d 0 = .returned (.tuple #[.string (R 0), .int .i64 0]) := HLV.out.read 0 (by omega)
                have E0 := Lib.hid e0
                clear e0
                go_wp2_with (go_at_call 14; refine (has_read H7.out 0).mono ?_; rw [E0.out]; rintro e w9 ⟨rfl, rfl⟩)
                go_roundw
                case rel => exact ⟨1, by simp, by omega, by first | exact Lib.hid rfl | exact Lib.hid trivial⟩
                case measure => simp [intOf]
              · have hx := blk4 HG7.out
                have e1 : readE d 1 = .returned (.tuple #[.string (R 1), .int .i64 0]) := HLV.out.read 1 (by omega)
                have E1 := Lib.hid e1
                clear e1
                go_wp2_with (go_at_call 14; refine (has_read H7.out 1).mono ?_; rw [E1.out]; rintro e w9 ⟨rfl, rfl⟩)
                go_roundw
                case rel => exact ⟨2, by simp, by omega, by first | exact Lib.hid rfl | exact Lib.hid trivial⟩
                case measure => simp [intOf]
              · have hx := blk4 HG7.out
                have e2 : readE d 2 = .returned (.tuple #[.string (R 2), .int .i64 0]) := HLV.out.read 2 (by omega)
                have E2 := Lib.hid e2
                clear e2
                go_wp2_with (go_at_call 14; refine (has_read H7.out 2).mono ?_; rw [E2.out]; rintro e w9 ⟨rfl, rfl⟩)
                go_roundw
                case rel => exact ⟨3, by simp, by omega, by first | exact Lib.hid rfl | exact Lib.hid trivial⟩
                case measure => simp [intOf]
              · have hx := blk4 HG7.out
                have e3 : readE d 3 = .returned (.tuple #[.string (R 3), .int .i64 0]) := HLV.out.read 3 (by omega)
                have E3 := Lib.hid e3
                clear e3
                go_wp2_with (go_at_call 14; refine (has_read H7.out 3).mono ?_; rw [E3.out]; rintro e w9 ⟨rfl, rfl⟩)
                go_roundw
                case rel => exact ⟨4, by simp, by omega, by first | exact Lib.hid rfl | exact Lib.hid trivial⟩
                case measure => simp [intOf]
              · go_wp2_with fail
                refine (alive_calls wr).mono ?_
                rintro e w9 ⟨rfl, hb⟩
                have HB9 := Lib.hid (H7.out.bel.trans (hb.mono H7.out.bel.size))
                clear hb
                go_wp2
                go_ret
                exact ⟨rfl, HB9.out⟩
end Go.Proofs.Ytmphnfkohilojaa.Dev
namespace Go.Proofs.Ytmphnfkohilojaa.deviceLast
open Go.RowKit Go.Sees
set_option linter.unusedVariables false
theorem deviceLast_walk (a0 : Option Addr) (len0 cap0 : Nat) (w : World) (w0 : Sees Try.prog w 140737488351232 5 22 [.slice a0 len0 cap0]) :
    Calls Try.prog 3 #[.slice a0 len0 cap0] w fun e w' => e = .returned (.bool true) ∧ Below w.heap.size w w' := by
  obtain ⟨l, rfl, _, h1, _, hA, hO⟩ := Dev.sees_acts (k := 2) w0
  exact Dev.last_calls a0 cap0 l w hA hO h1
end Go.Proofs.Ytmphnfkohilojaa.deviceLast
