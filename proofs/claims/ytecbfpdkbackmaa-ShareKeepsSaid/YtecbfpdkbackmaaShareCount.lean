/- Layer share: counting by a predicate, and the three that count. -/
import Derived.Test.YtecbfpdkbackmaaP11x2
import Derived.Test.YtecbfpdkbackmaaBlk
namespace Go.Proofs.Ytecbfpdkbackmaa.Share
open Go.RowKit Go.Blk Go.Proofs.Ytecbfpdkbackmaa.P11 Go.Proofs.YtecbfpdkbackmaaW.PrintWords Go.Proofs.YtecbfpdkbackmaaW.PrintLast Go.Proofs.YtecbfpdkbackmaaW.PrintMore
set_option linter.unusedVariables false
set_option linter.unusedSimpArgs false

/-- an open as a value -/
abbrev opn (x : S27) : Value := .agg #[.int .u32 x.f0, .int .u32 x.f1, .int .u32 x.f2, .int .u32 x.f3, .int .u32 x.f4]

/-- a predicate's function: it answers, and leaves what lay in w -/
def PredB (g : Nat) (lb : Array Value) (p : S27 → Bool) (w : World) : Prop :=
  ∀ (W : World) (x : S27), Below w.heap.size w W → Calls Try.prog g (#[opn x] ++ lb) W fun e w' => e = .returned (.bool (p x)) ∧ Below w.heap.size w w'

theorem take_count (p : S27 → Bool) (l : List S27) (i : Nat) (h : i < l.length) : (l.take (i + 1)).countP p = (l.take i).countP p + (if p (rd_T27 l i) = true then 1 else 0) := by
  have e : rd_T27 l i = l[i] := by unfold rd_T27; simp [List.getD, h]
  rw [e, List.take_succ_eq_append_getElem h, List.countP_append]
  simp [List.countP_cons]

set_option maxHeartbeats 2000000 in
theorem count_calls (A0 : Option Addr) (c0 : Nat) (l0 : List S27) (g : Nat) (lb : Array Value) (p : S27 → Bool) (w : World) (hr0 : Kd.C k27 w A0 l0.length l0) (hl : l0.length ≤ 9223372036854775807)
    (eg : ∀ args w, (callFunc g args).run Try.prog w = .ok (.enter g args) w) (hp : PredB g lb p w) :
    Calls Try.prog 35 #[.slice A0 l0.length c0, .func (.func g) #[] lb] w fun e w' => e = .returned (.int .i64 ((l0.countP p : Nat) : Int)) ∧ Below w.heap.size w w' := by
  have HR := Lib.hid hr0
  have HP := Lib.hid hp
  have HL := Lib.hid hl
  clear hr0 hp hl
  have hu27 := Try.underlying27
  go_enter Try.func35, Try.ntmps35
  go_wp2
  go_loopg [5, 10] l0.length (fun gg s5 s10 wr => ∃ kk cn : Nat, kk ≤ l0.length ∧ l0.length - kk ≤ gg ∧ Hid (cn = (l0.take kk).countP p) ∧ s5 = .int .i64 cn ∧ s10 = .int .i64 kk ∧ Hid (Below w.heap.size w wr))
  case atStart => exact ⟨0, 0, Nat.zero_le _, by omega, Lib.hid (by simp), by simp, by simp, Lib.hid (Below.refl _ w)⟩
  case round =>
    obtain ⟨kk, cn, hkk, hg, HN, rfl, rfl, HB⟩ := hrel
    have HW : Hid (IntKind.i64.wrap ((cn : Int) + 1) = cn + 1 ∧ IntKind.i64.wrap ((kk : Int) + 1) = kk + 1 ∨ ¬ kk < l0.length) := Lib.hid (by
      have h1 := HN.out
      have h2 : (l0.take kk).countP p ≤ kk := Nat.le_trans List.countP_le_length (by simp; omega)
      have h3 := HL.out
      by_cases h : kk < l0.length
      · exact .inl ⟨IntWalk.i64_in _ (by omega), IntWalk.i64_in _ (by omega)⟩
      · exact .inr h)
    by_cases hlt : kk < l0.length
    · have hltz : decide ((kk : Int) < (l0.length : Int)) = true := decide_eq_true (by omega)
      obtain ⟨hw1, hw2⟩ := HW.out.resolve_right (fun h => h hlt)
      clear HW
      obtain ⟨ad, rfl, h0, h1, h2, h3, h4⟩ := at_T27 HR.out kk (by omega) (by omega)
      simp only [Int.toNat_natCast] at h0 h1 h2 h3 h4
      replace h0 := (HB.out.cell (World.block_lt_of_cell? w _ h0)).trans h0
      replace h1 := (HB.out.cell (World.block_lt_of_cell? w _ h1)).trans h1
      replace h2 := (HB.out.cell (World.block_lt_of_cell? w _ h2)).trans h2
      replace h3 := (HB.out.cell (World.block_lt_of_cell? w _ h3)).trans h3
      replace h4 := (HB.out.cell (World.block_lt_of_cell? w _ h4)).trans h4
      have HT := Lib.hid (take_count p l0 kk hlt)
      have HC := Lib.hid (fun W hW => HP.out W (rd_T27 l0 kk) hW)
      have hq0 : (0 ≤ (kk : Int)) = True := eq_true (by omega)
      have hq1 : ((kk : Int) < (l0.length : Int)) = True := eq_true (by omega)
      have HA := Lib.hid (fun o => HB.out.alloc HB.out.size o)
      cases hpx : p (rd_T27 l0 kk) with
      | true =>
        have HX := Lib.hid hpx
        rw [hpx] at HT
        have HC2 : Hid (∀ W, Below w.heap.size w W → Calls Try.prog g (#[opn (rd_T27 l0 kk)] ++ lb) W fun e w' => e = .returned (.bool true) ∧ Below w.heap.size w w') := Lib.hid (fun W hW => by have := HC.out W hW; rw [HX.out] at this; exact this)
        clear hpx
        go_wp2_with fail
        refine (HC2.out _ (HA.out _)).mono ?_; rintro e w1 ⟨rfl, hb1⟩; have HB1 := Lib.hid hb1; clear hb1
        dsimp only
        go_wp2
        go_roundg (l0.length - (kk + 1))
        case measure => omega
        case rel =>
          exact ⟨kk + 1, cn + 1, by omega, by omega, Lib.hid (by rw [HT.out, HN.out]; rfl), by simp, by simp, HB1⟩
      | false =>
        have HX := Lib.hid hpx
        rw [hpx] at HT
        have HC2 : Hid (∀ W, Below w.heap.size w W → Calls Try.prog g (#[opn (rd_T27 l0 kk)] ++ lb) W fun e w' => e = .returned (.bool false) ∧ Below w.heap.size w w') := Lib.hid (fun W hW => by have := HC.out W hW; rw [HX.out] at this; exact this)
        clear hpx
        go_wp2_with fail
        refine (HC2.out _ (HA.out _)).mono ?_; rintro e w1 ⟨rfl, hb1⟩; have HB1 := Lib.hid hb1; clear hb1
        dsimp only
        go_wp2
        go_roundg (l0.length - (kk + 1))
        case measure => omega
        case rel =>
          exact ⟨kk + 1, cn, by omega, by omega, Lib.hid (by rw [HT.out, HN.out]; rfl), by simp, by simp, HB1⟩
    · have hltz : decide ((kk : Int) < (l0.length : Int)) = false := decide_eq_false (by omega)
      have hk : kk = l0.length := by omega
      go_wp2
      go_ret
      exact ⟨by rw [HN.out, hk]; simp, HB.out⟩
end Go.Proofs.Ytecbfpdkbackmaa.Share
