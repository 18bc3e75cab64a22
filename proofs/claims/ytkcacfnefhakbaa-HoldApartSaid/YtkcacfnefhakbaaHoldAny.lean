/- Layer hold: whatever an ask, a return, a settling, a shrinking answers: a lock whose holders are the call's own. -/
import Derived.Test.YtkcacfnefhakbaaHoldMore
import Derived.Test.YtkcacfnefhakbaaHoldRoom
import Derived.Test.YtkcacfnefhakbaaHoldAlive
namespace Go.Proofs.Ytkcacfnefhakbaa.HoldL
open Go.RowKit Go.Shelf Go.Blk Go.Proofs.Ytkcacfnefhakbaa.P12 Go.Proofs.YtkcacfnefhakbaaW.PrintWords Go.Proofs.YtkcacfnefhakbaaW.PrintLast Go.Proofs.YtkcacfnefhakbaaW.PrintMore
set_option linter.unusedVariables false
set_option linter.unusedSimpArgs false

abbrev lockX (x : S25) (v : Value) : Array Value := lockA x.f0 x.f1 x.f2 x.f3 x.f4 x.f5 v
theorem ask_len (f e u c : Int) (fc g : Bool) (l : List S40) (cl m : Int) (hl : l.length ≤ 100) : (askF f e u c fc g l cl m).2.2.2.2.2.2.1.length ≤ 101 := by
  have hw : (withoutF l cl).length ≤ l.length := List.length_filter_le _ _
  have hi : ∀ x, (insH (withoutF l cl) x).length = (withoutF l cl).length + 1 := fun x => by rw [(insH_perm _ x).length_eq]; simp
  unfold askF turnT
  repeat' split
  all_goals first | (simp only [hi]; omega) | (simp only; omega) | simp
theorem ask_any (f e u c : Int) (fc g : Bool) (l : List S40) (cl m : Int) (hl : l.length ≤ 100) (hN : ∀ x ∈ l, Nn x) (hcl : 0 ≤ cl ∧ cl ≤ 4294967295) : ∃ (x : S25) (n k : Int), x.f6.length ≤ 101 ∧ ∀ A0 c0 W, Kd.C k40 W A0 l.length l → l.length ≤ c0 →
    Calls Try.prog 17 #[.agg (lockA f e u c fc g (.slice A0 l.length c0)), .int .u32 cl, .int .u32 m] W fun ex w' => ∃ v, ex = .returned (.tuple #[.agg (lockX x v), .int .i64 n, .int .i64 k]) ∧ Kd.R k40 40 w' W.heap.size (fun _ => True) v x.f6 ∧ Below W.heap.size W w' := by
  obtain ⟨r1, r2, r3, r4, r5, r6, r7, r8, r9, hA⟩ : ∃ r1 r2 r3 r4 r5 r6 r7 r8 r9, askF f e u c fc g l cl m = (r1, r2, r3, r4, r5, r6, r7, r8, r9) := ⟨_, _, _, _, _, _, _, _, _, rfl⟩
  have hok : okH l cl = true := (okH_iff l cl).2 ⟨hl, hN, hcl.1, hcl.2⟩
  exact ⟨⟨r1, r2, r3, r4, r5, r6, r7⟩, r8, r9, by have := ask_len f e u c fc g l cl m hl; rw [hA] at this; exact this, fun A0 c0 W h hc => hold_Ask.calls f e u c fc g A0 c0 l cl m r1 r2 r3 r4 r5 r6 r7 r8 r9 W h hc (by unfold hold_Ask.f; rw [if_pos hok, hA])⟩
theorem return_any (f e u c : Int) (fc g : Bool) (l : List S40) (cl : Int) (hl : l.length ≤ 100) : ∃ (x : S25) (n : Int), x.f6.length ≤ 101 ∧ ∀ A0 c0 W, Kd.C k40 W A0 l.length l → l.length ≤ c0 →
    Calls Try.prog 19 #[.agg (lockA f e u c fc g (.slice A0 l.length c0)), .int .u32 cl, .int .u32 e] W fun ex w' => ∃ v, ex = .returned (.tuple #[.agg (lockX x v), .int .i64 n]) ∧ Kd.R k40 40 w' W.heap.size (fun _ => True) v x.f6 ∧ Below W.heap.size W w' := by
  have hw : (withoutF l cl).length ≤ l.length := List.length_filter_le _ _
  by_cases hr : rightB u c fc g l = true
  · exact ⟨⟨f, e, u, c, fc, g, withoutF l cl⟩, 0, by show (withoutF l cl).length ≤ 101; omega, fun A0 c0 W h hc => hold_Return.calls 4200 f e u c fc g A0 c0 l cl e f e u c fc g (withoutF l cl) 0 W h hc (by unfold hold_Return.f hold_without.f; rw [right_f f e u c fc g l (by omega) 4200 (by omega), hr, if_pos hl]; simp)⟩
  · exact ⟨⟨0, 0, 0, 0, false, false, []⟩, 1, by simp, fun A0 c0 W h hc => hold_Return.calls 4200 f e u c fc g A0 c0 l cl e 0 0 0 0 false false [] 1 W h hc (by unfold hold_Return.f; rw [right_f f e u c fc g l (by omega) 4200 (by omega)]; simp [hr])⟩
theorem settle_any (f e u c : Int) (fc g : Bool) (l : List S40) (sz : Int) (hl : l.length ≤ 100) : ∃ (x : S25) (n : Int), x.f6.length ≤ 101 ∧ ∀ A0 c0 W, Kd.C k40 W A0 l.length l → l.length ≤ c0 →
    Calls Try.prog 20 #[.agg (lockA f e u c fc g (.slice A0 l.length c0)), .int .u32 e, .int .u32 sz] W fun ex w' => ∃ v, ex = .returned (.tuple #[.agg (lockX x v), .int .i64 n]) ∧ Kd.R k40 40 w' W.heap.size (fun _ => True) v x.f6 ∧ Below W.heap.size W w' := by
  by_cases hr : rightB u c fc g l = true
  · by_cases hs : sz ≤ 1024
    · cases fc with
      | false => exact ⟨⟨f, e, u, sz, true, g, l⟩, 0, by show l.length ≤ 101; omega, fun A0 c0 W h hc => settle_calls f e u c g A0 c0 l sz W h hc hl hr hs⟩
      | true => exact ⟨⟨f, e, u, c, true, g, l⟩, 0, by show l.length ≤ 101; omega, fun A0 c0 W h hc => settle_fenced f e u c g A0 c0 l e sz W h hc hl hr hs⟩
    · exact ⟨⟨0, 0, 0, 0, false, false, []⟩, 1, by simp, fun A0 c0 W h hc => settle_no2 f e u c fc g A0 c0 l e sz W h hc hl hr (by omega)⟩
  · exact ⟨⟨0, 0, 0, 0, false, false, []⟩, 1, by simp, fun A0 c0 W h hc => settle_no1 f e u c fc g A0 c0 l e sz W h hc hl (by simpa using hr)⟩
theorem shrink_any (f e u c : Int) (fc g : Bool) (l : List S40) (sz : Int) (hl : l.length ≤ 100) : ∃ (x : S25) (n : Int), x.f6.length ≤ 101 ∧ ∀ A0 c0 W, Kd.C k40 W A0 l.length l → l.length ≤ c0 →
    Calls Try.prog 21 #[.agg (lockA f e u c fc g (.slice A0 l.length c0)), .int .u32 sz] W fun ex w' => ∃ v, ex = .returned (.tuple #[.agg (lockX x v), .int .i64 n]) ∧ Kd.R k40 40 w' W.heap.size (fun _ => True) v x.f6 ∧ Below W.heap.size W w' := by
  by_cases hr : rightB u c fc g l = true
  · exact ⟨⟨f, e, u, (if sz < c then sz else c), fc, g, l⟩, 0, by show l.length ≤ 101; omega, fun A0 c0 W h hc => shrink_ok f e u c fc g A0 c0 l sz W h hc hl hr⟩
  · exact ⟨⟨0, 0, 0, 0, false, false, []⟩, 1, by simp, fun A0 c0 W h hc => shrink_no f e u c fc g A0 c0 l sz W h hc hl (by simpa using hr)⟩

theorem R_not {w : World} {base : Nat} {v : Value} {l : List S40} (h : Kd.R k40 40 w base (fun _ => True) v l) : Kd.R k40 40 w base (fun k => True ∧ some k ≠ (Value.slice (some ⟨w.heap.size, 0, none⟩) 4 4).ownBlock) v l :=
  Kd.R_mono (Kd.R_bound h) (fun k hk => ⟨trivial, by
    intro e
    have h1 := hk.2.2.1
    simp only [Value.ownBlock, Option.some.injEq] at e
    omega⟩)
theorem all_reps {R : S25 → List Value → Prop} {va vb vc vd : Value} {xa xb xc xd : S25} (ha : R xa [.int .u32 xa.f0, .int .u32 xa.f1, .int .u32 xa.f2, .int .u32 xa.f3, .bool xa.f4, .bool xa.f5, va]) (hb : R xb [.int .u32 xb.f0, .int .u32 xb.f1, .int .u32 xb.f2, .int .u32 xb.f3, .bool xb.f4, .bool xb.f5, vb]) (hc : R xc [.int .u32 xc.f0, .int .u32 xc.f1, .int .u32 xc.f2, .int .u32 xc.f3, .bool xc.f4, .bool xc.f5, vc]) (hd : R xd [.int .u32 xd.f0, .int .u32 xd.f1, .int .u32 xd.f2, .int .u32 xd.f3, .bool xd.f4, .bool xd.f5, vd]) :
    Reps R 7 [xa, xb, xc, xd] [.int .u32 xa.f0, .int .u32 xa.f1, .int .u32 xa.f2, .int .u32 xa.f3, .bool xa.f4, .bool xa.f5, va, .int .u32 xb.f0, .int .u32 xb.f1, .int .u32 xb.f2, .int .u32 xb.f3, .bool xb.f4, .bool xb.f5, vb, .int .u32 xc.f0, .int .u32 xc.f1, .int .u32 xc.f2, .int .u32 xc.f3, .bool xc.f4, .bool xc.f5, vc, .int .u32 xd.f0, .int .u32 xd.f1, .int .u32 xd.f2, .int .u32 xd.f3, .bool xd.f4, .bool xd.f5, vd] :=
  Reps.snoc (Reps.snoc (Reps.snoc (Reps.snoc (Reps.none R 7) ha rfl) hb rfl) hc rfl) hd rfl
theorem own_four {w : World} {g base : Nat} {t : TypeId} {l : List Value} (hl : l.length = 28) (hg : w.heap[g]? = some (.cells l.toArray t (0, 0))) (hb : base ≤ g) : w.ownsRow base t 7 (.slice (some ⟨g, 0, none⟩) 4 4) 4 l :=
  ⟨hl, .inr ⟨g, 4, l.toArray, rfl, hb, hg, Nat.le_refl _, by decide, by simp [hl], by simp only [List.toList_toArray]; exact List.take_of_length_le (by omega)⟩⟩
theorem all_R {w : World} {base : Nat} {va vb vc vd : Value} (xa xb xc xd : S25) (ha : Kd.R k40 40 w base (fun _ => True) va xa.f6) (hb : Kd.R k40 40 w base (fun _ => True) vb xb.f6) (hc : Kd.R k40 40 w base (fun _ => True) vc xc.f6) (hd : Kd.R k40 40 w base (fun _ => True) vd xd.f6) (hbase : base ≤ w.heap.size) :
    Kd.R k25 25 (w.alloc (.cells #[.int .u32 xa.f0, .int .u32 xa.f1, .int .u32 xa.f2, .int .u32 xa.f3, .bool xa.f4, .bool xa.f5, va, .int .u32 xb.f0, .int .u32 xb.f1, .int .u32 xb.f2, .int .u32 xb.f3, .bool xb.f4, .bool xb.f5, vb, .int .u32 xc.f0, .int .u32 xc.f1, .int .u32 xc.f2, .int .u32 xc.f3, .bool xc.f4, .bool xc.f5, vc, .int .u32 xd.f0, .int .u32 xd.f1, .int .u32 xd.f2, .int .u32 xd.f3, .bool xd.f4, .bool xd.f5, vd] 25)) base (fun _ => True) (.slice (some ⟨w.heap.size, 0, none⟩) 4 4) [xa, xb, xc, xd] := by
  have up : ∀ (o : Obj) {v : Value} {l : List S40}, Kd.R k40 40 w base (fun _ => True) v l → Kd.R k40 40 (w.alloc o) base (fun k => True ∧ some k ≠ (Value.slice (some ⟨w.heap.size, 0, none⟩) 4 4).ownBlock) v l := fun o _ _ h => Kd.R_below (R_not h) (boxed w o)
  have hh := alloc_at w (.cells #[.int .u32 xa.f0, .int .u32 xa.f1, .int .u32 xa.f2, .int .u32 xa.f3, .bool xa.f4, .bool xa.f5, va, .int .u32 xb.f0, .int .u32 xb.f1, .int .u32 xb.f2, .int .u32 xb.f3, .bool xb.f4, .bool xb.f5, vb, .int .u32 xc.f0, .int .u32 xc.f1, .int .u32 xc.f2, .int .u32 xc.f3, .bool xc.f4, .bool xc.f5, vc, .int .u32 xd.f0, .int .u32 xd.f1, .int .u32 xd.f2, .int .u32 xd.f3, .bool xd.f4, .bool xd.f5, vd] 25)
  have UA := up (.cells #[.int .u32 xa.f0, .int .u32 xa.f1, .int .u32 xa.f2, .int .u32 xa.f3, .bool xa.f4, .bool xa.f5, va, .int .u32 xb.f0, .int .u32 xb.f1, .int .u32 xb.f2, .int .u32 xb.f3, .bool xb.f4, .bool xb.f5, vb, .int .u32 xc.f0, .int .u32 xc.f1, .int .u32 xc.f2, .int .u32 xc.f3, .bool xc.f4, .bool xc.f5, vc, .int .u32 xd.f0, .int .u32 xd.f1, .int .u32 xd.f2, .int .u32 xd.f3, .bool xd.f4, .bool xd.f5, vd] 25) ha
  have UB := up (.cells #[.int .u32 xa.f0, .int .u32 xa.f1, .int .u32 xa.f2, .int .u32 xa.f3, .bool xa.f4, .bool xa.f5, va, .int .u32 xb.f0, .int .u32 xb.f1, .int .u32 xb.f2, .int .u32 xb.f3, .bool xb.f4, .bool xb.f5, vb, .int .u32 xc.f0, .int .u32 xc.f1, .int .u32 xc.f2, .int .u32 xc.f3, .bool xc.f4, .bool xc.f5, vc, .int .u32 xd.f0, .int .u32 xd.f1, .int .u32 xd.f2, .int .u32 xd.f3, .bool xd.f4, .bool xd.f5, vd] 25) hb
  have UC := up (.cells #[.int .u32 xa.f0, .int .u32 xa.f1, .int .u32 xa.f2, .int .u32 xa.f3, .bool xa.f4, .bool xa.f5, va, .int .u32 xb.f0, .int .u32 xb.f1, .int .u32 xb.f2, .int .u32 xb.f3, .bool xb.f4, .bool xb.f5, vb, .int .u32 xc.f0, .int .u32 xc.f1, .int .u32 xc.f2, .int .u32 xc.f3, .bool xc.f4, .bool xc.f5, vc, .int .u32 xd.f0, .int .u32 xd.f1, .int .u32 xd.f2, .int .u32 xd.f3, .bool xd.f4, .bool xd.f5, vd] 25) hc
  have UD := up (.cells #[.int .u32 xa.f0, .int .u32 xa.f1, .int .u32 xa.f2, .int .u32 xa.f3, .bool xa.f4, .bool xa.f5, va, .int .u32 xb.f0, .int .u32 xb.f1, .int .u32 xb.f2, .int .u32 xb.f3, .bool xb.f4, .bool xb.f5, vb, .int .u32 xc.f0, .int .u32 xc.f1, .int .u32 xc.f2, .int .u32 xc.f3, .bool xc.f4, .bool xc.f5, vc, .int .u32 xd.f0, .int .u32 xd.f1, .int .u32 xd.f2, .int .u32 xd.f3, .bool xd.f4, .bool xd.f5, vd] 25) hd
  generalize (w.alloc (.cells #[.int .u32 xa.f0, .int .u32 xa.f1, .int .u32 xa.f2, .int .u32 xa.f3, .bool xa.f4, .bool xa.f5, va, .int .u32 xb.f0, .int .u32 xb.f1, .int .u32 xb.f2, .int .u32 xb.f3, .bool xb.f4, .bool xb.f5, vb, .int .u32 xc.f0, .int .u32 xc.f1, .int .u32 xc.f2, .int .u32 xc.f3, .bool xc.f4, .bool xc.f5, vc, .int .u32 xd.f0, .int .u32 xd.f1, .int .u32 xd.f2, .int .u32 xd.f3, .bool xd.f4, .bool xd.f5, vd] 25)) = w' at hh UA UB UC UD ⊢
  exact ⟨fun _ _ => trivial, _, own_four rfl hh hbase, all_reps (k25_mkM _ _ _ xa UA) (k25_mkM _ _ _ xb UB) (k25_mkM _ _ _ xc UC) (k25_mkM _ _ _ xd UD)⟩
theorem keep_other {W W' : World} {b : Nat} {v : Value} {xs : List S40} (h : Kd.R k40 40 W (b + 1) (fun _ => True) v xs) (hg : W.grownBy W' (some b)) : Kd.R k40 40 W' (b + 1) (fun _ => True) v xs :=
  Kd.R_mono (Kd.R_move (Kd.R_bound h) (fun k hk => hg.block k hk.2.2.1 (by intro e; injection e with e; have := hk.2.1; omega))) (fun _ _ => trivial)
theorem keep_locks {W W' : World} {b : Nat} {v : Value} {xs : List S25} (h : Kd.R k25 25 W (b + 1) (fun _ => True) v xs) (hg : W.grownBy W' (some b)) : Kd.R k25 25 W' (b + 1) (fun _ => True) v xs :=
  Kd.R_mono (Kd.R_move (Kd.R_bound h) (fun k hk => hg.block k hk.2.2.1 (by intro e; injection e with e; have := hk.2.1; omega))) (fun _ _ => trivial)
end Go.Proofs.Ytkcacfnefhakbaa.HoldL
