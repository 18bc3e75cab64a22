/- What is handed in is neither changed nor kept, and answers are new memory: the call returns true whatever the input. No condition. -/
import Derived.Test.YtecbfpdkbackmaaShareRoom
import Derived.Test.YtecbfpdkbackmaaShareOpen
import Derived.Test.YtecbfpdkbackmaaP11x3
namespace Go.Proofs.Ytecbfpdkbackmaa.shareKeeps
open Go.RowKit Go.Shelf Go.Sees Go.Blk Go.Proofs.Ytecbfpdkbackmaa.Share Go.Proofs.Ytecbfpdkbackmaa.P11 Go.Proofs.Ytecbfpdkbackmaa.Opens Go.Proofs.YtecbfpdkbackmaaW.PrintWords Go.Proofs.YtecbfpdkbackmaaW.PrintLast Go.Proofs.YtecbfpdkbackmaaW.PrintMore
set_option linter.unusedVariables false
set_option linter.unusedSimpArgs false

theorem same_calls (A B : Option Addr) (c d : Nat) (l : List S27) (w : World) (hA : Kd.C k27 w A l.length l) (hc : l.length ≤ c) (hB : Kd.C k27 w B l.length l) (hd : l.length ≤ d) (hl : l.length ≤ 4096) :
    Calls Try.prog 20 #[.slice A l.length c, .slice B l.length d] w fun e w' => e = .returned (.bool true) ∧ Below w.heap.size w w' :=
  (lamellaref11_Same.calls 5000 A c l B d l true w hA hc hB hd (same_f l hl 5000 (by omega))).mono fun e w' ⟨he, hd⟩ => ⟨he, by obtain ⟨n, rfl⟩ := hd.out; exact pw_below_drewN (Below.refl _ _) n⟩
theorem alive_calls (w : World) : Calls Try.prog 10 #[] w fun e w' => e = .returned (.bool true) ∧ Below w.heap.size w w' := lamellalaw11_alive.calls true w alive_true

theorem addF_len (l : List S27) (o : S27) (h : l.length ≤ 100) : (addF l o).1.length ≤ 101 := by
  unfold addF
  repeat' split
  all_goals first | (rw [len_ins]; omega) | simp
theorem dropR_len (l : List S27) (c h : Int) (hl : l.length ≤ 100) : (dropR l c h).1.length ≤ 101 := by
  unfold dropR
  repeat' split
  all_goals first | exact Nat.le_trans (List.length_filter_le _ _) (by omega) | simp
theorem clearR_len (l : List S27) (c : Int) (hl : l.length ≤ 100) : (clearR l c).1.length ≤ 101 := by
  unfold clearR
  split
  · exact Nat.le_trans (List.length_filter_le _ _) (by omega)
  · simp

theorem make_run (l : List S27) (hl : l.length ≤ 100) (W : World) : (Instr.makeSlice 22 (.int .i64 (l.length : Int)) (.int .i64 ((l.length : Int) + 4))).run Try.prog W = .ok (.slice (some ⟨W.heap.size, 0, none⟩) l.length (l.length + 4)) (W.alloc (.cells (madeCells zrow ((l.length + 4) * 5)) 27)) := by
  obtain ⟨i0, hi0, h2⟩ := Option.map_eq_some_iff.1 info27
  simp only [Prod.mk.injEq] at h2
  have := run_make (P := Try.prog) W 22 27 i0 _ Try.underlying22 hi0 h2.1 .i64 .i64 (l.length : Int) ((l.length : Int) + 4) (by omega) (by omega) (by rw [h2.2.2]; omega) (by omega)
  rw [this, h2.2.1, show ((l.length : Int) + 4).toNat = l.length + 4 by omega, Int.toNat_natCast]
  rfl

theorem room_C {w : World} {base : Nat} {ok : Nat → Prop} {A : Option Addr} {n c : Nat} {l : List S27} (h : Kd.R k27 27 w base ok (.slice A n c) (l ++ List.replicate 4 z27)) : Kd.C k27 w A l.length l := by
  have h1 := Kd.R_take (m := l.length) h (by simp)
  rw [List.take_left] at h1
  exact (Kd.R_reads' h1).2.2
theorem lt_of_own {w : World} {base b n c : Nat} {ok : Nat → Prop} {l : List S27} (h : Kd.R k27 27 w base ok (.slice (some ⟨b, 0, none⟩) n c) l) : b < w.heap.size := by
  obtain ⟨cur, hh, _⟩ := R_own h
  exact Blk.lt_of hh
theorem room_z (l : List S27) (k : Nat) (hk : l.length ≤ k) : rd_T27 (l ++ List.replicate 4 z27) k = z27 := by
  unfold rd_T27
  rw [Int.toNat_natCast, List.getD_eq_getElem?_getD, List.getElem?_append_right hk, List.getElem?_replicate]
  split <;> rfl

theorem keep_other {W W' : World} {b : Nat} {v : Value} {xs : List S27} (h : Kd.R k27 27 W (b + 1) (fun _ => True) v xs) (hg : W.grownBy W' (some b)) : Kd.R k27 27 W' (b + 1) (fun _ => True) v xs :=
  Kd.R_mono (Kd.R_move (Kd.R_bound h) (fun k hk => hg.block k hk.2.2.1 (by intro e; injection e with e; have := hk.2.1; omega))) (fun _ _ => trivial)

attribute [local go_sem high] eqA27
set_option maxHeartbeats 8000000 in
theorem keeps_calls (A0 : Option Addr) (c0 : Nat) (l : List S27) (o : S27) (w : World) (hr0 : Kd.C k27 w A0 l.length l) (hc0 : l.length ≤ c0) (hl : l.length ≤ 100) :
    Calls Try.prog 9 #[.slice A0 l.length c0, opn o] w fun e w' => e = .returned (.bool true) ∧ Below w.heap.size w w' := by
  have HR := Lib.hid hr0
  have HC := Lib.hid hc0
  have HL := Lib.hid hl
  have BX := Lib.hid (alloc_at w (.cells (cellsOf o) 27))
  obtain ⟨ra, na, hra⟩ : ∃ ra na, addF l o = (ra, na) := ⟨_, _, rfl⟩
  obtain ⟨rb, ob, nb, hrb⟩ : ∃ rb ob nb, dropR l o.f0 o.f1 = (rb, ob, nb) := ⟨_, _, _, rfl⟩
  obtain ⟨rc, nc, hrc⟩ : ∃ rc nc, clearR l o.f0 = (rc, nc) := ⟨_, _, rfl⟩
  have HLA := Lib.hid (show ra.length ≤ 101 by have := addF_len l o hl; rw [hra] at this; exact this)
  have HLB := Lib.hid (show rb.length ≤ 101 by have := dropR_len l o.f0 o.f1 hl; rw [hrb] at this; exact this)
  have HLC := Lib.hid (show rc.length ≤ 101 by have := clearR_len l o.f0 hl; rw [hrc] at this; exact this)
  have HADD := Lib.hid (fun (b : Nat) (W : World) (h : Kd.C k27 W (some ⟨b, 0, none⟩) l.length l) => share_Add.calls (some ⟨b, 0, none⟩) (l.length + 4) l o.f0 o.f1 o.f2 o.f3 o.f4 ra na W h (by omega) (by unfold share_Add.f; rw [if_pos hl]; exact congrArg some hra))
  have HDROP := Lib.hid (fun (b : Nat) (W : World) (h : Kd.C k27 W (some ⟨b, 0, none⟩) l.length l) => share_Drop.calls (some ⟨b, 0, none⟩) (l.length + 4) l o.f0 o.f1 rb ob.f0 ob.f1 ob.f2 ob.f3 ob.f4 nb W h (by omega) (by unfold share_Drop.f; rw [hrb]))
  have HCLR := Lib.hid (fun (b : Nat) (W : World) (h : Kd.C k27 W (some ⟨b, 0, none⟩) l.length l) => share_Clear.calls (some ⟨b, 0, none⟩) (l.length + 4) l o.f0 rc nc W h (by omega) (by unfold share_Clear.f; rw [hrc]))
  clear hra hrb hrc
  have hgt : decide ((l.length : Int) > 100) = false := decide_eq_false (by omega)
  have hw4 : IntKind.i64.wrap ((l.length : Int) + 4) = l.length + 4 := IntWalk.i64_in _ (by omega)
  have hmk : ∀ W, (Instr.makeSlice 22 (.int .i64 (l.length : Int)) (.int .i64 ((l.length : Int) + 4))).run Try.prog W = .ok (.slice (some ⟨W.heap.size, 0, none⟩) l.length (l.length + 4)) (W.alloc (.cells (madeCells zrow ((l.length + 4) * 5)) 27)) := make_run l hl
  clear hr0 hc0 hl
  go_enter Try.func9, Try.ntmps9
  go_wp2_with (first
    | (go_at_call 10; refine (alive_calls _).mono ?_; rintro e w1 ⟨rfl, hb⟩
       have HB1 := Lib.hid ((boxed w (.cells (cellsOf o) 27)).trans (hb.mono (by simp)))
       have BX1 := Lib.hid (below_old BX.out hb)
       have hlt := lt_of BX1.out
       have hcp := run_copy27 (w1.alloc (.cells (madeCells zrow ((l.length + 4) * 5)) 27)) 3 w1.heap.size (l.length + 4) A0 c0 l _ (alloc_at w1 _) (by rw [size_madeCells]; omega) (Kd.C_below HR.out (HB1.out.alloc HB1.out.size _))
       have hroom := room_R (w1.alloc (.cells (madeCells zrow ((l.length + 4) * 5)) 27)) w1.heap.size l (alloc_at w1 _) HL.out
       have hbp := below_past (Nat.le_refl w1.heap.size) (F27 l) _ 0 (boxed w1 (.cells (madeCells zrow ((l.length + 4) * 5)) 27))
       obtain ⟨w2, hw2⟩ : ∃ w2, (w1.alloc (.cells (madeCells zrow ((l.length + 4) * 5)) 27)).setCells w1.heap.size 0 (F27 l) = w2 := ⟨_, rfl⟩
       rw [hw2] at hcp hroom hbp
       have HRM := Lib.hid hroom
       have BX2 := Lib.hid (below_old BX1.out hbp)
       have HB2 := Lib.hid (HB1.out.trans (hbp.mono HB1.out.size))
       have HN2 := Lib.hid hbp
       have HS2 := Lib.hid (Nat.lt_of_lt_of_le (Nat.lt_succ_self _) (show w1.heap.size + 1 ≤ w2.heap.size from lt_of_own hroom))
       have HBL := Lib.hid hlt
       have hx := blk5 BX2.out
       clear hb hlt hroom hbp hw2)
    | (go_at_call 18; refine (HADD.out _ _ (room_C HRM.out)).mono ?_; rintro e w3 ⟨va, rfl, ho, hb⟩
       have HRM3 := Lib.hid (Kd.R_below HRM.out hb)
       have BX3 := Lib.hid (below_old BX2.out hb)
       have RA3 := Lib.hid (Kd.R_lower ho HS2.out)
       have HB3 := Lib.hid (HB2.out.trans (hb.mono HB2.out.size))
       have HN3 := Lib.hid (HN2.out.trans (hb.mono HN2.out.size))
       have HS3 := Lib.hid (Nat.lt_of_lt_of_le HS2.out hb.size)
       obtain ⟨Aa, ca, rfl⟩ := Kd.R_slice RA3.out
       clear hx ho hb hcp
       have hx := blk5 BX3.out)
    | (go_at_call 21; refine (HDROP.out _ _ (room_C HRM3.out)).mono ?_; rintro e w4 ⟨vb, rfl, ho, hb⟩
       have HRM4 := Lib.hid (Kd.R_below HRM3.out hb)
       have BX4 := Lib.hid (below_old BX3.out hb)
       have RA4 := Lib.hid (Kd.R_below RA3.out hb)
       have RB4 := Lib.hid (Kd.R_lower ho HS3.out)
       have HB4 := Lib.hid (HB3.out.trans (hb.mono HB3.out.size))
       have HN4 := Lib.hid (HN3.out.trans (hb.mono HN3.out.size))
       have HS4 := Lib.hid (Nat.lt_of_lt_of_le HS3.out hb.size)
       obtain ⟨Ab, cb, rfl⟩ := Kd.R_slice RB4.out
       clear hx ho hb
       have hx := blk5 BX4.out
       have hx2 := fun o' => blk5 (alloc_old BX4.out o')
       have HW5 := Lib.hid (boxed w4 (.cells (cellsOf ob) 27))
       have hlt4 := lt_of BX4.out
       have hn1 : ¬ w.heap.size = w4.heap.size := by omega
       have hn2 : ¬ w4.heap.size = w.heap.size := by omega
       clear hlt4)
    | (go_at_call 23; refine (HCLR.out _ _ (room_C (Kd.R_below HRM4.out HW5.out))).mono ?_; rintro e w5 ⟨vc, rfl, ho, hb⟩
       have hbx := HW5.out.trans (hb.mono HW5.out.size)
       have HRM5 := Lib.hid (Kd.R_below HRM4.out hbx)
       have RA5 := Lib.hid (Kd.R_below RA4.out hbx)
       have RB5 := Lib.hid (Kd.R_below RB4.out hbx)
       have RC5 := Lib.hid (Kd.R_lower ho (Nat.le_trans HS4.out HW5.out.size))
       have HB5 := Lib.hid (HB4.out.trans (hbx.mono HB4.out.size))
       have HN5 := Lib.hid (HN4.out.trans (hbx.mono HN4.out.size))
       have HS5 := Lib.hid (Nat.lt_of_lt_of_le HS4.out hbx.size)
       obtain ⟨Ac, cc, rfl⟩ := Kd.R_slice RC5.out
       clear hx hx2 hn1 hn2 ho hb hbx)
    | ((with_reducible refine gate_builtin (b := .append) (xs := #[.tmp 57, .tmp 58]) rfl ?_); at_builtin
       refine Kd.R_append_rows k27 (w0 := w5) w5.heap.size rfl (.tmp 57) (.tmp 58) 22 27 (.agg #[(.int .u32 0), (.int .u32 0), (.int .u32 0), (.int .u32 0), (.int .u32 0)]) 20 rfl Try.underlying22 info27 rfl (by decide) (by omega) (.slice (some ⟨w5.heap.size, 0, none⟩) 0 0) ([] : List S27) ra Aa _ _ (fun _ => True) (fun _ => False) rfl rfl ⟨fun _ _ => trivial, [], World.ownsRow_made w5 #[] 0 (Nat.le_refl _) (Nat.zero_le _) (by simp), Reps.none _ _⟩ (Kd.C_below (Kd.R_reads' RA5.out).2.2 (boxed w5 _)) (fun _ _ h => h) (fun _ h => h.elim) (fun _ _ => trivial) (boxed w5 _) (by simp) (by have := HLA.out; simp; omega) ?_
       intro v w6 ho hb hg hat
       clear hg hat
       rw [List.nil_append] at ho
       have RX6 := Lib.hid (Kd.R_lower ho HS5.out)
       have HRM6 := Lib.hid (Kd.R_below HRM5.out hb)
       have RA6 := Lib.hid (Kd.R_below RA5.out hb)
       have RB6 := Lib.hid (Kd.R_below RB5.out hb)
       have RC6 := Lib.hid (Kd.R_below RC5.out hb)
       have HB6 := Lib.hid (HB5.out.trans (hb.mono HB5.out.size))
       have HN6 := Lib.hid (HN5.out.trans (hb.mono HN5.out.size))
       have HS6 := Lib.hid (Nat.lt_of_lt_of_le HS5.out hb.size)
       obtain ⟨Ax, cx, rfl⟩ := Kd.R_slice RX6.out
       clear ho hb)
    | ((with_reducible refine gate_builtin (b := .append) (xs := #[.tmp 60, .tmp 61]) rfl ?_); at_builtin
       refine Kd.R_append_rows k27 (w0 := w6) w6.heap.size rfl (.tmp 60) (.tmp 61) 22 27 (.agg #[(.int .u32 0), (.int .u32 0), (.int .u32 0), (.int .u32 0), (.int .u32 0)]) 20 rfl Try.underlying22 info27 rfl (by decide) (by omega) (.slice (some ⟨w6.heap.size, 0, none⟩) 0 0) ([] : List S27) rb Ab _ _ (fun _ => True) (fun _ => False) rfl rfl ⟨fun _ _ => trivial, [], World.ownsRow_made w6 #[] 0 (Nat.le_refl _) (Nat.zero_le _) (by simp), Reps.none _ _⟩ (Kd.C_below (Kd.R_reads' RB6.out).2.2 (boxed w6 _)) (fun _ _ h => h) (fun _ h => h.elim) (fun _ _ => trivial) (boxed w6 _) (by simp) (by have := HLB.out; simp; omega) ?_
       intro v w7 ho hb hg hat
       clear hg hat
       rw [List.nil_append] at ho
       have RY7 := Lib.hid (Kd.R_lower ho HS6.out)
       have HRM7 := Lib.hid (Kd.R_below HRM6.out hb)
       have RA7 := Lib.hid (Kd.R_below RA6.out hb)
       have RB7 := Lib.hid (Kd.R_below RB6.out hb)
       have RC7 := Lib.hid (Kd.R_below RC6.out hb)
       have RX7 := Lib.hid (Kd.R_below RX6.out hb)
       have HB7 := Lib.hid (HB6.out.trans (hb.mono HB6.out.size))
       have HN7 := Lib.hid (HN6.out.trans (hb.mono HN6.out.size))
       have HS7 := Lib.hid (Nat.lt_of_lt_of_le HS6.out hb.size)
       obtain ⟨Ay, cy, rfl⟩ := Kd.R_slice RY7.out
       clear ho hb)
    | ((with_reducible refine gate_builtin (b := .append) (xs := #[.tmp 63, .tmp 64]) rfl ?_); at_builtin
       refine Kd.R_append_rows k27 (w0 := w7) w7.heap.size rfl (.tmp 63) (.tmp 64) 22 27 (.agg #[(.int .u32 0), (.int .u32 0), (.int .u32 0), (.int .u32 0), (.int .u32 0)]) 20 rfl Try.underlying22 info27 rfl (by decide) (by omega) (.slice (some ⟨w7.heap.size, 0, none⟩) 0 0) ([] : List S27) rc Ac _ _ (fun _ => True) (fun _ => False) rfl rfl ⟨fun _ _ => trivial, [], World.ownsRow_made w7 #[] 0 (Nat.le_refl _) (Nat.zero_le _) (by simp), Reps.none _ _⟩ (Kd.C_below (Kd.R_reads' RC7.out).2.2 (boxed w7 _)) (fun _ _ h => h) (fun _ h => h.elim) (fun _ _ => trivial) (boxed w7 _) (by simp) (by have := HLC.out; simp; omega) ?_
       intro v w8 ho hb hg hat
       clear hg hat
       rw [List.nil_append] at ho
       have RZ8 := Lib.hid (Kd.R_lower ho HS7.out)
       have HRM8 := Lib.hid (Kd.R_below HRM7.out hb)
       have RA8 := Lib.hid (Kd.R_below RA7.out hb)
       have RB8 := Lib.hid (Kd.R_below RB7.out hb)
       have RC8 := Lib.hid (Kd.R_below RC7.out hb)
       have RX8 := Lib.hid (Kd.R_below RX7.out hb)
       have RY8 := Lib.hid (Kd.R_below RY7.out hb)
       have HB8 := Lib.hid (HB7.out.trans (hb.mono HB7.out.size))
       have HN8 := Lib.hid (HN7.out.trans (hb.mono HN7.out.size))
       have HS8 := Lib.hid (Nat.lt_of_lt_of_le HS7.out hb.size)
       obtain ⟨Az, cz, rfl⟩ := Kd.R_slice RZ8.out
       have hq1 : ((l.length : Int) + 4 ≤ (l.length : Int) + 4) = True := eq_true (Int.le_refl _)
       clear ho hb))
  go_loopg [17] 4 (fun gg s17 wr => ∃ kk : Nat, s17 = .int .i64 kk ∧ l.length ≤ kk ∧ kk ≤ l.length + 4 ∧ l.length + 4 - kk ≤ gg ∧ Hid (Below w8.heap.size w8 wr))
  case atStart => exact ⟨l.length, by simp, Nat.le_refl _, by omega, by omega, Lib.hid (Below.refl _ _)⟩
  case round =>
    obtain ⟨kk, rfl, hk1, hk2, hgg, HBW⟩ := hrel
    have HMW := Lib.hid (Kd.R_below HRM8.out HBW.out)
    by_cases hlt : kk < l.length + 4
    · have hltz : decide ((kk : Int) < (l.length : Int) + 4) = true := decide_eq_true (by omega)
      obtain ⟨ad, e', h0, h1, h2, h3, h4⟩ := at_T27 (Kd.R_reads' HMW.out).2.2 kk (by omega) (by simp; omega)
      cases e'
      rw [room_z l kk hk1] at h0 h1 h2 h3 h4
      simp only [Int.toNat_natCast, Addr.add_lit, Nat.zero_add] at h0 h1 h2 h3 h4
      have hq2 : (0 ≤ (kk : Int)) = True := eq_true (by omega)
      have hq3 : ((kk : Int) < (l.length : Int) + 4) = True := eq_true (by omega)
      have hw2 : IntKind.i64.wrap ((kk : Int) + 1) = kk + 1 := IntWalk.i64_in _ (by have := HL.out; omega)
      go_wp2
      go_roundg (l.length + 4 - (kk + 1))
      case measure => omega
      case rel => exact ⟨kk + 1, by simp, by omega, by omega, by omega, HBW⟩
    · have hltz : decide ((kk : Int) < (l.length : Int) + 4) = false := decide_eq_false (by omega)
      have HB9 := Lib.hid (HB8.out.trans (HBW.out.mono HB8.out.size))
      have HN9 := Lib.hid (HN8.out.trans (HBW.out.mono HN8.out.size))
      have RA9 := Lib.hid (Kd.R_below RA8.out HBW.out)
      have RB9 := Lib.hid (Kd.R_below RB8.out HBW.out)
      have RC9 := Lib.hid (Kd.R_below RC8.out HBW.out)
      have RX9 := Lib.hid (Kd.R_below RX8.out HBW.out)
      have RY9 := Lib.hid (Kd.R_below RY8.out HBW.out)
      have RZ9 := Lib.hid (Kd.R_below RZ8.out HBW.out)
      go_wp2_with (first
       | (go_at_call 20; refine (same_calls _ _ _ _ l _ (room_C HMW.out) (by omega) (Kd.C_below HR.out HB9.out) HC.out (by have := HL.out; omega)).mono ?_; rintro e wA ⟨rfl, hb⟩
          have HMA := Lib.hid (Kd.R_below HMW.out hb)
          have HBA := Lib.hid (HB9.out.trans (hb.mono HB9.out.size))
          have HNA := Lib.hid (HN9.out.trans (hb.mono HN9.out.size))
          have RAA := Lib.hid (Kd.R_below RA9.out hb)
          have RBA := Lib.hid (Kd.R_below RB9.out hb)
          have RCA := Lib.hid (Kd.R_below RC9.out hb)
          have RXA := Lib.hid (Kd.R_below RX9.out hb)
          have RYA := Lib.hid (Kd.R_below RY9.out hb)
          have RZA := Lib.hid (Kd.R_below RZ9.out hb)
          clear hb))
      go_loopg [18] l.length (fun gg s18 wr2 => ∃ (jj : Nat) (m : List S27), s18 = .int .i64 jj ∧ jj ≤ l.length ∧ l.length - jj ≤ gg ∧ m.length = l.length ∧ Hid (Kd.R k27 27 wr2 w1.heap.size (fun _ => True) (.slice (some ⟨w1.heap.size, 0, none⟩) l.length (l.length + 4)) m) ∧ Hid (Below w1.heap.size w1 wr2)
        ∧ Hid (Kd.R k27 27 wr2 (w1.heap.size + 1) (fun _ => True) (.slice Aa ra.length ca) ra) ∧ Hid (Kd.R k27 27 wr2 (w1.heap.size + 1) (fun _ => True) (.slice Ab rb.length cb) rb) ∧ Hid (Kd.R k27 27 wr2 (w1.heap.size + 1) (fun _ => True) (.slice Ac rc.length cc) rc)
        ∧ Hid (Kd.R k27 27 wr2 (w1.heap.size + 1) (fun _ => True) (.slice Ax ra.length cx) ra) ∧ Hid (Kd.R k27 27 wr2 (w1.heap.size + 1) (fun _ => True) (.slice Ay rb.length cy) rb) ∧ Hid (Kd.R k27 27 wr2 (w1.heap.size + 1) (fun _ => True) (.slice Az rc.length cz) rc))
      case atStart => exact ⟨0, l, by simp, Nat.zero_le _, by omega, rfl, Lib.hid (by have h1 := Kd.R_take (m := l.length) HMA.out (by simp); rwa [List.take_left] at h1), HNA, RAA, RBA, RCA, RXA, RYA, RZA⟩
      case round =>
        obtain ⟨jj, m, rfl, hj1, hgg2, hml, HM, HNB, RAB, RBB, RCB, RXB, RYB, RZB⟩ := hrel
        by_cases hlt2 : jj < l.length
        · have hltz2 : decide ((jj : Int) < (l.length : Int)) = true := decide_eq_true (by omega)
          obtain ⟨ad, cs, e', hcl, hK, hcc⟩ := Kd.C_get (Kd.R_reads' HM.out).2.2 z27 (jj : Int) (by omega) (by omega)
          cases e'
          have HCC := Lib.hid hcc
          have HCL := Lib.hid hcl
          clear hcc hcl hK
          have hq2 : (0 ≤ (jj : Int)) = True := eq_true (by omega)
          have hq3 : ((jj : Int) < (l.length : Int)) = True := eq_true (by omega)
          have hw2 : IntKind.i64.wrap ((jj : Int) + 1) = jj + 1 := IntWalk.i64_in _ (by have := HL.out; omega)
          go_wp2_with ((with_reducible refine gate_ (.store 27 (.tmp 97) (.tmp 96)) rfl ?_); refine stop_here ?_)
          refine Lib.hid ?_
          refine Kd.R_store k27 (w0 := w1) w1.heap.size rfl rfl 27 (.tmp 97) (.tmp 96) rfl 27 (jj : Int) 0 m ⟨0, 0, 99, 0, 0⟩ (opn ⟨0, 0, 99, 0, 0⟩) [.int .u32 0, .int .u32 0, .int .u32 99, .int .u32 0, .int .u32 0] cs (fun _ => True) (fun _ => False) rfl (by simp; rfl) rfl rfl ?ht ?h1 HM.out ?h0 ?hi HCL.out ?hcc (Nat.le_of_eq rfl) ?hM (fun _ h => h.elim) HNB.out ?_
          case ht => exact (by
            obtain ⟨i0, h1, h2⟩ := Option.map_eq_some_iff.1 info27
            simp only [Prod.mk.injEq] at h2
            rw [h1]; simp [h2.2.1])
          case h1 =>
            intro q hq
            simp only [List.mem_cons, List.not_mem_nil, or_false] at hq
            rcases hq with rfl | rfl | rfl | rfl | rfl <;> rfl
          case h0 => omega
          case hi => omega
          case hcc =>
            intro t u h
            have := HCC.out t u h
            rw [Addr.add_lit, Nat.zero_add] at this
            exact this
          case hM =>
            have e : cs.drop 5 = [] := List.drop_eq_nil_of_le (by rw [HCL.out]; decide)
            simp only [List.take_zero, List.nil_append, Nat.zero_add, List.length_cons, List.length_nil]
            rw [e, List.append_nil]
            exact k27_mkM _ _ _ _
          intro w3 ho3 hb3 hg3
          have HM3 := Lib.hid ho3
          have HB3' := Lib.hid hb3
          have RAD := Lib.hid (keep_other RAB.out hg3)
          have RBD := Lib.hid (keep_other RBB.out hg3)
          have RCD := Lib.hid (keep_other RCB.out hg3)
          have RXD := Lib.hid (keep_other RXB.out hg3)
          have RYD := Lib.hid (keep_other RYB.out hg3)
          have RZD := Lib.hid (keep_other RZB.out hg3)
          clear ho3 hb3 hg3
          go_wp2
          go_roundg (l.length - (jj + 1))
          case measure => omega
          case rel => exact ⟨jj + 1, _, by simp, by omega, by omega, by simpa using hml, HM3, HB3', RAD, RBD, RCD, RXD, RYD, RZD⟩
        · have hltz2 : decide ((jj : Int) < (l.length : Int)) = false := decide_eq_false (by omega)
          go_wp2_with (first
            | (go_at_call 10; refine (alive_calls _).mono ?_; rintro e wC ⟨rfl, hb⟩
               have HNC := Lib.hid (HNB.out.trans (hb.mono HNB.out.size))
               have RAC := Lib.hid (Kd.R_below RAB.out hb)
               have RBC := Lib.hid (Kd.R_below RBB.out hb)
               have RCC := Lib.hid (Kd.R_below RCB.out hb)
               have RXC := Lib.hid (Kd.R_below RXB.out hb)
               have RYC := Lib.hid (Kd.R_below RYB.out hb)
               have RZC := Lib.hid (Kd.R_below RZB.out hb)
               clear hb)
            | (go_at_call 20; (with_reducible refine (same_calls Aa Ax ca cx ra _ (Kd.R_reads' RAC.out).2.2 (Kd.R_reads' RAC.out).2.1 (Kd.R_reads' RXC.out).2.2 (Kd.R_reads' RXC.out).2.1 (by have := HLA.out; omega)).mono ?_); rintro e wD ⟨rfl, hb⟩
               have HND := Lib.hid (HNC.out.trans (hb.mono HNC.out.size))
               have RBE := Lib.hid (Kd.R_below RBC.out hb)
               have RCE := Lib.hid (Kd.R_below RCC.out hb)
               have RYE := Lib.hid (Kd.R_below RYC.out hb)
               have RZE := Lib.hid (Kd.R_below RZC.out hb)
               clear hb)
            | (go_at_call 20; (with_reducible refine (same_calls Ab Ay cb cy rb _ (Kd.R_reads' RBE.out).2.2 (Kd.R_reads' RBE.out).2.1 (Kd.R_reads' RYE.out).2.2 (Kd.R_reads' RYE.out).2.1 (by have := HLB.out; omega)).mono ?_); rintro e wE ⟨rfl, hb⟩
               have HNE := Lib.hid (HND.out.trans (hb.mono HND.out.size))
               have RCF := Lib.hid (Kd.R_below RCE.out hb)
               have RZF := Lib.hid (Kd.R_below RZE.out hb)
               clear hb)
            | (go_at_call 20; (with_reducible refine (same_calls Ac Az cc cz rc _ (Kd.R_reads' RCF.out).2.2 (Kd.R_reads' RCF.out).2.1 (Kd.R_reads' RZF.out).2.2 (Kd.R_reads' RZF.out).2.1 (by have := HLC.out; omega)).mono ?_); rintro e wF ⟨rfl, hb⟩
               have HNF := Lib.hid (HNE.out.trans (hb.mono HNE.out.size))
               clear hb))
          go_ret
          exact ⟨rfl, HB1.out.trans (HNF.out.mono HB1.out.size)⟩

set_option maxHeartbeats 1000000 in
theorem long_calls (A0 : Option Addr) (n c0 : Nat) (v : Array Value) (w : World) (hn : 100 < n) :
    Calls Try.prog 9 #[.slice A0 n c0, .agg v] w fun e w' => e = .returned (.bool true) ∧ Below w.heap.size w w' := by
  have hgt : decide ((n : Int) > 100) = true := decide_eq_true (by omega)
  have hgt' : decide ((100 : Int) < (n : Int)) = true := decide_eq_true (by omega)
  clear hn
  go_enter Try.func9, Try.ntmps9
  go_wp2_with (first
    | (go_at_call 10; refine (alive_calls (w.alloc _)).mono ?_; rintro e w1 ⟨rfl, hb⟩; have HB1 := Lib.hid ((boxed w _).trans (hb.mono (by simp))); clear hb)
    | (go_at_call 10; refine (alive_calls w1).mono ?_; rintro e w2 ⟨rfl, hb⟩; have HB2 := Lib.hid (HB1.out.trans (hb.mono HB1.out.size)); clear hb))
  go_ret
  exact ⟨rfl, HB2.out⟩

theorem shareKeeps_walk (a0 : Option Addr) (len0 cap0 : Nat) (a1 : Array Value) (w : World) (w0 : Sees Try.prog w 140737488351232 5 22 [.slice a0 len0 cap0]) (w1 : Sees Try.prog w 140737488351232 5 27 a1.toList) :
    Calls Try.prog 9 #[.slice a0 len0 cap0, .agg a1] w fun e w' => e = .returned (.bool true) ∧ Below w.heap.size w w' := by
  obtain ⟨l, rfl, hc, hC, hn⟩ := sees_list (k := 2) w0
  by_cases hl : l.length ≤ 100
  · obtain ⟨x0, x1, x2, x3, x4, rfl, -⟩ := openA27 (k := 3) w1
    exact keeps_calls a0 cap0 l ⟨x0, x1, x2, x3, x4⟩ w hC hc hl
  · exact long_calls a0 l.length cap0 a1 w (by omega)
end Go.Proofs.Ytecbfpdkbackmaa.shareKeeps
