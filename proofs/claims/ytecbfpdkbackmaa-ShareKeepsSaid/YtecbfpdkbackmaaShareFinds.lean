/- Layer share: how many, and whether there is one: by contracts over what the list reads as. -/
import Derived.Test.YtecbfpdkbackmaaSharePreds
import Derived.Shelf.SlSortCmp.NoneTotal
namespace Go.Proofs.Ytecbfpdkbackmaa.Share
open Go.RowKit Go.Shelf Go.Blk Go.Proofs.Ytecbfpdkbackmaa.P11 Go.Proofs.YtecbfpdkbackmaaW.PrintWords Go.Proofs.YtecbfpdkbackmaaW.PrintLast Go.Proofs.YtecbfpdkbackmaaW.PrintMore
set_option linter.unusedVariables false
set_option linter.unusedSimpArgs false

theorem boxed (w : World) (o : Obj) : Below w.heap.size w (w.alloc o) := (Below.refl w.heap.size w).alloc (Nat.le_refl _) o

theorem uses_calls (A0 : Option Addr) (c0 : Nat) (l0 : List S27) (file : Int) (w : World) (hr0 : Kd.C k27 w A0 l0.length l0) (hl : l0.length ≤ 9223372036854775807) :
    Calls Try.prog 15 #[.slice A0 l0.length c0, .int .u32 file] w fun e w' => e = .returned (.int .i64 ((l0.countP (fun x => x.f2 == file) : Nat) : Int)) ∧ Below w.heap.size w w' := by
  have HC := Lib.hid (count_calls A0 c0 l0 36 #[.pointer (some ⟨w.heap.size, 0, none⟩)] (fun x => x.f2 == file) (w.alloc (.cells #[.int .u32 file] 23)) (Kd.C_below hr0 (boxed w _)) hl
    (enters_of Try.func36 (by kernel_rfl) rfl) (uses_pred file w.heap.size _ (by simp) (by simp)))
  clear hr0
  go_enter Try.func15, Try.ntmps15
  go_wp2_with (go_at_call 35; refine HC.out.mono ?_; rintro e w1 ⟨rfl, hb⟩)
  go_ret
  exact ⟨rfl, (boxed w _).trans (hb.mono (by simp))⟩

theorem mine_calls (A0 : Option Addr) (c0 : Nat) (l0 : List S27) (client : Int) (w : World) (hr0 : Kd.C k27 w A0 l0.length l0) (hl : l0.length ≤ 9223372036854775807) :
    Calls Try.prog 26 #[.slice A0 l0.length c0, .int .u32 client] w fun e w' => e = .returned (.int .i64 ((l0.countP (fun x => x.f0 == client) : Nat) : Int)) ∧ Below w.heap.size w w' := by
  have HC := Lib.hid (count_calls A0 c0 l0 44 #[.pointer (some ⟨w.heap.size, 0, none⟩)] (fun x => x.f0 == client) (w.alloc (.cells #[.int .u32 client] 23)) (Kd.C_below hr0 (boxed w _)) hl
    (enters_of Try.func44 (by kernel_rfl) rfl) (mine_pred client w.heap.size _ (by simp) (by simp)))
  clear hr0
  go_enter Try.func26, Try.ntmps26
  go_wp2_with (go_at_call 35; refine HC.out.mono ?_; rintro e w1 ⟨rfl, hb⟩)
  go_ret
  exact ⟨rfl, (boxed w _).trans (hb.mono (by simp))⟩

theorem has_calls (A0 : Option Addr) (c0 : Nat) (l0 : List S27) (client file : Int) (w : World) (hr0 : Kd.C k27 w A0 l0.length l0) (hl : l0.length ≤ 9223372036854775807) :
    Calls Try.prog 17 #[.slice A0 l0.length c0, .int .u32 client, .int .u32 file] w fun e w' => e = .returned (.bool (decide (0 < l0.countP (fun x => x.f0 == client && x.f2 == file)))) ∧ Below w.heap.size w w' := by
  have HC := Lib.hid (count_calls A0 c0 l0 37 #[.pointer (some ⟨w.heap.size, 0, none⟩), .pointer (some ⟨w.heap.size + 1, 0, none⟩)] (fun x => x.f0 == client && x.f2 == file)
    ((w.alloc (.cells #[.int .u32 client] 23)).alloc (.cells #[.int .u32 file] 23)) (Kd.C_below (Kd.C_below hr0 (boxed w _)) (boxed _ _)) hl
    (enters_of Try.func37 (by kernel_rfl) rfl) (has_pred client file w.heap.size (w.heap.size + 1) _ (by simp; omega) (by simp) (one_cell (w := w.alloc (.cells #[.int .u32 client] 23)) (by simp) (by simp) (Below.refl _ _) _) (by
      simp)))
  clear hr0
  generalize hn : l0.countP (fun x => x.f0 == client && x.f2 == file) = n at HC ⊢
  clear hn
  go_enter Try.func17, Try.ntmps17
  go_wp2_with (go_at_call 35; refine HC.out.mono ?_; rintro e w1 ⟨rfl, hb⟩)
  go_ret
  exact ⟨rfl, ((boxed w _).trans ((boxed _ _).mono (by simp))).trans (hb.mono (by simp; omega))⟩

/-- the first place of a kind -/
def fst (p : S27 → Bool) (l : List S27) : Int := match l.findIdx? p with | some i => i | none => -1

set_option maxHeartbeats 2000000 in
theorem index_calls (A0 : Option Addr) (c0 : Nat) (l0 : List S27) (g : Nat) (lb : Array Value) (p : S27 → Bool) (w : World) (hr0 : Kd.C k27 w A0 l0.length l0) (hl : l0.length ≤ 9223372036854775807)
    (eg : ∀ args w, (callFunc g args).run Try.prog w = .ok (.enter g args) w) (hp : PredB g lb p w) :
    Calls Try.prog 47 #[.slice A0 l0.length c0, .func (.func g) #[] lb] w fun e w' => e = .returned (.int .i64 (fst p l0)) ∧ Below w.heap.size w w' := by
  have HR := Lib.hid hr0
  have HP := Lib.hid hp
  have HL := Lib.hid hl
  clear hr0 hp hl
  have hu27 := Try.underlying27
  go_enter Try.func47, Try.ntmps47
  go_wp2
  go_loopg [5, 8] l0.length (fun gg _ s8 wr => ∃ kk : Nat, kk ≤ l0.length ∧ l0.length - kk ≤ gg ∧ s8 = .int .i64 kk ∧ Hid (Below w.heap.size w wr) ∧ Hid (∀ j : Nat, j < kk → p (rd_T27 l0 j) = false))
  case atStart => exact ⟨0, Nat.zero_le _, by omega, by simp, Lib.hid (Below.refl _ w), Lib.hid (fun j hj => absurd hj (Nat.not_lt_zero _))⟩
  case round =>
    obtain ⟨kk, hkk, hg, rfl, HB, HN⟩ := hrel
    have HW : Hid (IntKind.i64.wrap ((kk : Int) + 1) = kk + 1 ∨ ¬ kk < l0.length) := Lib.hid (by
      have h3 := HL.out
      by_cases h : kk < l0.length
      · exact .inl (IntWalk.i64_in _ (by omega))
      · exact .inr h)
    by_cases hlt : kk < l0.length
    · have hltz : decide ((kk : Int) < (l0.length : Int)) = true := decide_eq_true (by omega)
      have hw2 := HW.out.resolve_right (fun h => h hlt)
      clear HW
      obtain ⟨ad, rfl, h0, h1, h2, h3, h4⟩ := at_T27 HR.out kk (by omega) (by omega)
      simp only [Int.toNat_natCast] at h0 h1 h2 h3 h4
      replace h0 := (HB.out.cell (World.block_lt_of_cell? w _ h0)).trans h0
      replace h1 := (HB.out.cell (World.block_lt_of_cell? w _ h1)).trans h1
      replace h2 := (HB.out.cell (World.block_lt_of_cell? w _ h2)).trans h2
      replace h3 := (HB.out.cell (World.block_lt_of_cell? w _ h3)).trans h3
      replace h4 := (HB.out.cell (World.block_lt_of_cell? w _ h4)).trans h4
      have HC := Lib.hid (fun W hW => HP.out W (rd_T27 l0 kk) hW)
      have hq0 : (0 ≤ (kk : Int)) = True := eq_true (by omega)
      have hq1 : ((kk : Int) < (l0.length : Int)) = True := eq_true (by omega)
      cases hpx : p (rd_T27 l0 kk) with
      | true =>
        have HX := Lib.hid hpx
        have HC2 : Hid (∀ W, Below w.heap.size w W → Calls Try.prog g (#[opn (rd_T27 l0 kk)] ++ lb) W fun e w' => e = .returned (.bool true) ∧ Below w.heap.size w w') := Lib.hid (fun W hW => by have := HC.out W hW; rw [HX.out] at this; exact this)
        clear hpx
        go_wp2_with fail
        refine (HC2.out _ HB.out).mono ?_; rintro e w1 ⟨rfl, hb1⟩; have HB1 := Lib.hid hb1; clear hb1
        dsimp only
        go_wp2
        go_ret
        refine ⟨?_, HB1.out⟩
        have e : l0.findIdx? p = some kk := by
          rw [List.findIdx?_eq_some_iff_getElem]
          refine ⟨hlt, ?_, fun j hj => ?_⟩
          · have := HX.out; unfold rd_T27 at this; simpa [List.getD, hlt] using this
          · have h := HN.out j hj
            have hj2 : j < l0.length := by omega
            unfold rd_T27 at h; simp only [Int.toNat_natCast, List.getD, List.getElem?_eq_getElem hj2, Option.getD_some] at h
            simp [h]
        unfold fst; rw [e]; rfl
      | false =>
        have HX := Lib.hid hpx
        have HC2 : Hid (∀ W, Below w.heap.size w W → Calls Try.prog g (#[opn (rd_T27 l0 kk)] ++ lb) W fun e w' => e = .returned (.bool false) ∧ Below w.heap.size w w') := Lib.hid (fun W hW => by have := HC.out W hW; rw [HX.out] at this; exact this)
        clear hpx
        go_wp2_with fail
        refine (HC2.out _ HB.out).mono ?_; rintro e w1 ⟨rfl, hb1⟩; have HB1 := Lib.hid hb1; clear hb1
        dsimp only
        go_wp2
        go_roundg (l0.length - (kk + 1))
        case measure => omega
        case rel =>
          refine ⟨kk + 1, by omega, by omega, by simp, HB1, Lib.hid (fun j hj => ?_)⟩
          by_cases hjk : j = kk
          · subst hjk; exact HX.out
          · exact HN.out j (by omega)
    · have hltz : decide ((kk : Int) < (l0.length : Int)) = false := decide_eq_false (by omega)
      have hk : kk = l0.length := by omega
      go_wp2
      go_ret
      refine ⟨?_, HB.out⟩
      have e : l0.findIdx? p = none := by
        rw [List.findIdx?_eq_none_iff]
        intro x hx
        obtain ⟨j, hj, rfl⟩ := List.getElem_of_mem hx
        have h := HN.out j (by omega)
        unfold rd_T27 at h; simpa [List.getD, hj] using h
      unfold fst; rw [e]; rfl

theorem contains_calls (A0 : Option Addr) (c0 : Nat) (l0 : List S27) (g : Nat) (lb : Array Value) (p : S27 → Bool) (w : World) (hr0 : Kd.C k27 w A0 l0.length l0) (hl : l0.length ≤ 9223372036854775807)
    (eg : ∀ args w, (callFunc g args).run Try.prog w = .ok (.enter g args) w) (hp : PredB g lb p w) :
    Calls Try.prog 28 #[.slice A0 l0.length c0, .func (.func g) #[] lb] w fun e w' => e = .returned (.bool (l0.any p)) ∧ Below w.heap.size w w' := by
  have HC := Lib.hid (index_calls A0 c0 l0 g lb p w hr0 hl eg hp)
  have e : l0.any p = decide (fst p l0 ≥ 0) := by
    unfold fst
    cases h : l0.findIdx? p with
    | none => rw [List.findIdx?_eq_none_iff] at h; simpa using h
    | some i =>
      rw [List.findIdx?_eq_some_iff_getElem] at h
      obtain ⟨h1, h2, _⟩ := h
      simp only [ge_iff_le, Int.natCast_nonneg, decide_true, List.any_eq_true]
      exact ⟨_, List.getElem_mem h1, h2⟩
  rw [e]
  clear hr0 hp e
  generalize fst p l0 = n at HC ⊢
  go_enter Try.func28, Try.ntmps28
  go_wp2_with (go_at_call 47; refine HC.out.mono ?_; rintro e w1 ⟨rfl, hb⟩)
  go_ret
  exact ⟨rfl, hb⟩
end Go.Proofs.Ytecbfpdkbackmaa.Share
