/- Layer hold: a lock without a client's hold, as the printed texts call it. -/
import Derived.Test.YtkcacfnefhakbaaHoldList
namespace Go.Proofs.Ytkcacfnefhakbaa.HoldL
open Go.RowKit Go.Shelf Go.Blk Go.Proofs.Ytkcacfnefhakbaa.P12 Go.Proofs.YtkcacfnefhakbaaW.PrintWords Go.Proofs.YtkcacfnefhakbaaW.PrintLast Go.Proofs.YtkcacfnefhakbaaW.PrintMore
set_option linter.unusedVariables false
set_option linter.unusedSimpArgs false

def withoutF (l : List S40) (client : Int) : List S40 := l.filter (fun x => !(x.f0 == client))
set_option maxHeartbeats 1000000 in
theorem without_predF (client : Int) (B : Nat) (w : World) (hB : B < w.heap.size) (hc : w.cell? ⟨B, 0, none⟩ = some (.int .u32 client)) :
    PredF 32 #[.pointer (some ⟨B, 0, none⟩)] (fun x => x.f0 == client) w := fun W x hb => by
  have hc1 := one_cell hB hc hb
  show Calls Try.prog 32 #[opn x, .pointer (some ⟨B, 0, none⟩)] W _
  clear hc
  go_enter Try.func32, Try.ntmps32
  go_wp2
  all_goals (go_ret; exact ⟨by simp_all, boxed W _⟩)

abbrev lockA (f e u c : Int) (fc g : Bool) (v : Value) : Array Value := #[.int .u32 f, .int .u32 e, .int .u32 u, .int .u32 c, .bool fc, .bool g, v]
abbrev zlock : Array Value := #[.int .u32 0, .int .u32 0, .int .u32 0, .int .u32 0, .bool false, .bool false, .slice none 0 0]
theorem R_low {w : World} {base b o : Nat} {v : Value} {xs : List S40} (h : Kd.R k40 40 w base (fun _ => True) v xs) (hb : b < base) (u : Value) : Kd.R k40 40 (w.setCell ⟨b, o, none⟩ u) base (fun _ => True) v xs :=
  Kd.R_mono (Kd.R_far (Kd.R_bound h) (p := ⟨b, o, none⟩) (fun k hk => by have := hk.2.1; show k ≠ b; omega) u) (fun _ _ => trivial)

set_option maxHeartbeats 2000000 in
theorem without_calls (f e u c : Int) (fc g : Bool) (A0 : Option Addr) (c0 : Nat) (l : List S40) (client : Int) (w : World) (hr0 : Kd.C k40 w A0 l.length l) (hl : l.length ≤ 100) :
    Calls Try.prog 24 #[.agg (lockA f e u c fc g (.slice A0 l.length c0)), .int .u32 client] w fun ex w' => ∃ v, ex = .returned (.agg (lockA f e u c fc g v)) ∧ Kd.R k40 40 w' w.heap.size (fun _ => True) v (withoutF l client) ∧ Below w.heap.size w w' := by
  obtain ⟨w3, hw3⟩ : ∃ w3, ((w.alloc (.cells (lockA f e u c fc g (.slice A0 l.length c0)) 25)).alloc (.cells #[.int .u32 client] 22)).alloc (.cells zlock 25) = w3 := ⟨_, rfl⟩
  have hs3 : w3.heap.size = w.heap.size + 3 := by rw [← hw3]; simp
  have HB3 := Lib.hid (show Below w.heap.size w w3 by rw [← hw3]; have h1 := boxed w (.cells (lockA f e u c fc g (.slice A0 l.length c0)) 25); have h2 := h1.alloc h1.size (.cells #[.int .u32 client] 22); exact h2.alloc h2.size _)
  have BL := Lib.hid (show w3.heap[w.heap.size]? = some (.cells (lockA f e u c fc g (.slice A0 l.length c0)) 25 (0, 0)) by rw [← hw3]; exact alloc_old (alloc_old (alloc_at w _) _) _)
  have BZ := Lib.hid (show w3.heap[w.heap.size + 1 + 1]? = some (.cells zlock 25 (0, 0)) by rw [← hw3]; have := alloc_at ((w.alloc (.cells (lockA f e u c fc g (.slice A0 l.length c0)) 25)).alloc (.cells #[.int .u32 client] 22)) (.cells zlock 25); simpa using this)
  have HP := Lib.hid (without_predF client (w.heap.size + 1) w3 (by omega) (by
    have h : w3.heap[w.heap.size + 1]? = some (.cells #[.int .u32 client] 22 (0, 0)) := by rw [← hw3]; have := alloc_old (alloc_at (w.alloc (.cells (lockA f e u c fc g (.slice A0 l.length c0)) 25)) (.cells #[.int .u32 client] 22)) (.cells zlock 25); simpa using this
    exact (cell_at h 0).trans rfl))
  have HS3 := Lib.hid hs3
  have HR := Lib.hid hr0
  have HL := Lib.hid hl
  clear hr0 hl hs3
  obtain ⟨l5, hl5⟩ : ∃ l5, withoutF l client = l5 := ⟨_, rfl⟩
  have HL5 := Lib.hid hl5
  rw [hl5]
  clear hl5
  have hx := blk7 BL.out
  go_enter Try.func24, Try.ntmps24
  go_wp2_with (first | (go_at_call 30; clear hw3 hx; refine (clone_calls A0 c0 l _ (Kd.C_below HR.out HB3.out) HL.out).mono ?_; rintro ex w4 ⟨v, rfl, ho, hb⟩; have HO4 := Lib.hid ho; have HB4 := Lib.hid hb; clear ho hb) | (go_at_call 31; refine (delete_calls _ _ _ l _ _ _ HB4.out HO4.out HL.out (enters_of Try.func32 (by kernel_rfl) rfl) HP.out).mono ?_; rintro ex w5 ⟨v', rfl, ho, hb⟩; have HO5 := Lib.hid (show Kd.R k40 40 w5 w3.heap.size (fun _ => True) v' l5 by rw [← HL5.out]; exact ho); have HB5 := Lib.hid hb; clear ho hb; obtain ⟨A5, c5, rfl⟩ := Kd.R_slice HO5.out; have BL5 := Lib.hid (below_old BL.out HB5.out); have BZ5 := Lib.hid (below_old BZ.out HB5.out); have hx := blk7 BL5.out; have hz := blk7 BZ5.out))
  have hl1 : w.heap.size < w3.heap.size := by rw [HS3.out]; omega
  have hl2 : w.heap.size + 1 + 1 < w3.heap.size := by rw [HS3.out]; omega
  refine bodyPost_ret (results_cell_row rfl _ _ (w.heap.size + 1 + 1) 25 (lockA f e u c fc g (.slice A5 l5.length c5)) (0, 0) _ rfl (put7 (set_far BZ5.out (by simp; omega) _)) Try.underlying25 rfl (by kernel_rfl)) rfl ?_
  refine ⟨_, rfl, Kd.R_lower (R_low (R_low (R_low (R_low (R_low (R_low (R_low (R_low HO5.out hl1 _) hl2 _) hl2 _) hl2 _) hl2 _) hl2 _) hl2 _) hl2 _) (Nat.le_of_lt hl1), ?_⟩
  have h0 : w.heap.size ≤ w.heap.size := Nat.le_refl _
  have h2 : w.heap.size ≤ w.heap.size + 1 + 1 := by omega
  exact ((((((((HB3.out.trans (HB5.out.mono HB3.out.size)).setCell h0 _).setCell h2 _).setCell h2 _).setCell h2 _).setCell h2 _).setCell h2 _).setCell h2 _).setCell h2 _
end Go.Proofs.Ytkcacfnefhakbaa.HoldL

namespace Go.Proofs.Ytkcacfnefhakbaa.P12
open Go.RowKit Go.Shelf Go.Proofs.Ytkcacfnefhakbaa.HoldL Go.Proofs.YtkcacfnefhakbaaW.PrintWords Go.Proofs.YtkcacfnefhakbaaW.PrintLast Go.Proofs.YtkcacfnefhakbaaW.PrintMore
set_option linter.unusedVariables false

def hold_without.f (a0_0 a0_1 a0_2 a0_3 : Int) (a0_4 a0_5 : Bool) (l0_6 : List S40) (a1 : Int) : Option (Int × Int × Int × Int × Bool × Bool × (List S40)) := if l0_6.length ≤ 100 then some (a0_0, a0_1, a0_2, a0_3, a0_4, a0_5, withoutF l0_6 a1) else none
theorem hold_without.calls (a0_0 a0_1 a0_2 a0_3 : Int) (a0_4 a0_5 : Bool) (A0_6 : Option Addr) (c0_6 : Nat) (l0_6 : List S40) (a1 : Int) (r1 r2 r3 r4 : Int) (r5 r6 : Bool) (r7 : List S40) (w : World) (hr0_6 : Kd.C k40 w A0_6 l0_6.length l0_6) (hc0_6 : l0_6.length ≤ c0_6) (h : hold_without.f a0_0 a0_1 a0_2 a0_3 a0_4 a0_5 l0_6 a1 = some (r1, r2, r3, r4, r5, r6, r7)) :
    Calls Try.prog 24 #[.agg #[.int .u32 a0_0, .int .u32 a0_1, .int .u32 a0_2, .int .u32 a0_3, .bool a0_4, .bool a0_5, .slice A0_6 l0_6.length c0_6], .int .u32 a1] w fun e w' => ∃ v6_ : Value, e = .returned (.agg #[.int .u32 r1, .int .u32 r2, .int .u32 r3, .int .u32 r4, .bool r5, .bool r6, v6_]) ∧ Kd.R k40 40 w' w.heap.size (fun _ => True) v6_ r7 ∧ Below w.heap.size w w' := by
  unfold hold_without.f at h
  split at h
  · rename_i hl
    simp only [Option.some.injEq, Prod.mk.injEq] at h
    obtain ⟨rfl, rfl, rfl, rfl, rfl, rfl, rfl⟩ := h
    exact without_calls a0_0 a0_1 a0_2 a0_3 a0_4 a0_5 A0_6 c0_6 l0_6 a1 w hr0_6 hl
  · cases h
end Go.Proofs.Ytkcacfnefhakbaa.P12
