/- Layer net: splice. -/
import Derived.Test.YtiedmkgdhfkcoaaDoorNetA
namespace Go.Proofs.YtiedmkgdhfkcoaaDoor.Net
open Go.RowKit Go.Own Go.Blk Go.OpsL Go.XdrL Go.Proofs.YtiedmkgdhfkcoaaDoorW.PrintLast Go.Proofs.YtiedmkgdhfkcoaaDoorW.PrintWords
set_option linter.unusedVariables false
set_option linter.unusedSimpArgs false
set_option maxRecDepth 100000
variable {w w' : World} {p : Nat} {v : Value} {l : List ByteArray}
theorem execOp_slice {P : Program} {a : Act} {w w1 : World} {o : Oper} {t : TypeId} {x : Operand} {lo hi mx : Option Operand} {X : Value} {L H M : Option Value} {v : Value} (ho : o.op = .slice t x lo hi mx) (hx : a.eval x = X) (hL : lo.map a.eval = L) (hH : hi.map a.eval = H) (hM : mx.map a.eval = M) (hr : (Instr.sliceAt t X L H M).run P w = .ok v w1) : (execOp a.eval o).run P w = .ok (.value v) w1 := by
  subst hx hL hH hM
  obtain ⟨dst, op, ty, pos, after, guard⟩ := o
  cases ho
  show (do let v ← Instr.sliceAt t (a.eval x) (lo.map a.eval) (hi.map a.eval) (mx.map a.eval); pure (Next.value v) : Sem Next).run P w = _
  rw [Sem.run_bind, hr]
  rfl
theorem size_str (w : World) : (sizeOf 9).run Tryd.prog w = .ok 1 w := by
  obtain ⟨i, h1, _, h2, _⟩ := infoS
  simp [sizeOf, typeInfo, h1, h2]
theorem run_from (w : World) (a : Option Addr) (n c i : Nat) (hi : i ≤ n) : (Instr.sliceAt 42 (.slice a n c) (some (.int .i64 (i : Int))) none none).run Tryd.prog w = .ok (.slice (if c = i then a else a.map (·.add (i * 1))) (n - i) (c - i)) w := by
  have he : Tryd.prog.elem 42 = 9 := by kernel_rfl
  rw [run_sliceAt_slice w _ _ _ _ _ (by rw [he]; exact Tryd.underlying42), run_slice_l w _ _ _ _ (by rw [he]; exact Tryd.underlying42) _ _ (by omega) (by omega), he, size_str]
  simp [Result.andThen, sliced]
theorem run_upto (w : World) (a : Option Addr) (n c i : Nat) (hi : i ≤ c) : (Instr.sliceAt 42 (.slice a n c) none (some (.int .i64 (i : Int))) (some (.int .i64 (i : Int)))).run Tryd.prog w = .ok (.slice (if i = 0 then a else a.map (·.add (0 * 1))) i i) w := by
  have he : Tryd.prog.elem 42 = 9 := by kernel_rfl
  rw [run_sliceAt_slice w _ _ _ _ _ (by rw [he]; exact Tryd.underlying42), run_slice_hm w _ _ _ _ (by rw [he]; exact Tryd.underlying42) _ _ _ _ (by omega) (by omega) (by omega), he, size_str]
  simp [Result.andThen, sliced]
set_option maxHeartbeats 8000000 in
theorem splice_calls (h : NAt w p v l) (i o : Nat) (hio : i + o ≤ l.length) (A : Option Addr) (c : Nat) (news : List ByteArray) (hA : Shows w A (scells news)) (hn : (l.take i ++ news ++ l.drop (i + o)).length ≤ 200) :
    Calls Tryd.prog 46 #[.pointer (some ⟨p, 0, none⟩), .int .i64 (i : Int), .int .i64 (o : Int), .slice A news.length c] w fun e w' => e = .returned (.tuple #[]) ∧
      ∃ v', NAt w' p v' (l.take i ++ news ++ l.drop (i + o)) ∧ Fr (foot p v) w w' ∧ (∀ k, v'.ownBlock = some k → v.ownBlock = some k ∨ w.heap.size ≤ k) := by
  have H := Lib.hid h
  have hf := h.few
  obtain ⟨a, cp, rfl, hc⟩ := part_form h.row
  have h1 : ((i : Int) + (o : Int)) ≤ (l.length : Int) := by omega
  have h2 : (0 : Int) ≤ (i : Int) + (o : Int) := by omega
  have h3 : IntKind.i64.wrap ((i : Int) + (o : Int)) = (i : Int) + (o : Int) := by first | (rw [IntKind.wrap_i64] <;> omega) | skip
  have h4 : (i : Int) ≤ (cp : Int) := by omega
  clear h
  go_enter Tryd.func46, Tryd.ntmps46
  go_wp2_with ((with_reducible refine gate_dst (N := 9) rfl ?_); refine stop_here ?_)
  refine Lib.hid ?_
  refine wpList_val rfl rfl (execOp_buildSlice (ps := #[]) rfl rfl (run_empty _)) ?_
  have H1 := Lib.hid (H.out.below (((Below.refl w.heap.size w).alloc (Nat.le_refl _) (.cells #[] 9))))
  have HE := Lib.hid (part_empty w 0 9 1 (Nat.zero_le _))
  have HB1 := Lib.hid (((Below.refl w.heap.size w).alloc (Nat.le_refl _) (.cells #[] 9)))
  generalize w.alloc (.cells #[] 9) = w1 at H1 HE HB1 ⊢
  obtain ⟨x0, y0⟩ := blk1 H1.out.blk
  go_wp2_with ((with_reducible refine gate_dst (N := 17) rfl ?_); refine stop_here ?_)
  refine Lib.hid ?_
  refine wpList_val rfl rfl (execOp_slice rfl rfl rfl rfl rfl (by first | exact run_from w1 a l.length cp (i + o) hio | (have := run_from w1 a l.length cp (i + o) hio; simpa using this))) ?_
  have HS1 := Lib.hid (part_from H1.out.row rfl (i + o))
  generalize (if cp = i + o then a else a.map (·.add ((i + o) * 1))) = A1 at HS1 ⊢
  have e1 : (scells l).drop (i + o) = scells (l.drop (i + o)) := by simp [scells]
  rw [e1] at HS1
  obtain ⟨u2, w2, hr2, ho2, hg2, hat2⟩ := adds w1 (l := []) HE.out A1 (cp - (i + o)) (l.drop (i + o)) HS1.out (by simp) (by simp; omega)
  go_wp2_with ((with_reducible refine gate_dst (N := 18) rfl ?_); refine stop_here ?_)
  refine Lib.hid ?_
  have hd : (scells (l.drop (i + o))).length = l.length - (i + o) := by simp [scells]
  rw [show l.length - (i + o) = (l.drop (i + o)).length by simp]
  refine wpList_val rfl rfl (execOp_append rfl rfl rfl hr2) ?_
  have hF2 : Fr (fun k => w.heap.size ≤ k) w w2 := (Fr.of_below HB1.out).trans (Fr.grown (F := fun k => w.heap.size ≤ k) hg2 (fun k hk => by simp only [Value.ownBlock, Option.some.injEq] at hk; omega)) (fun _ _ h => h)
  have HB2 := Lib.hid (hF2.below (Nat.le_refl _) (fun k hk => hk))
  have HR2 := Lib.hid ho2
  have HN2 := Lib.hid (H.out.below HB2.out)
  have HU2 : Hid (∀ k, u2.ownBlock = some k → w.heap.size ≤ k) := Lib.hid (fun k hk => by
    rcases hat2 with h | h
    · rw [h] at hk; simp only [Value.ownBlock, Option.some.injEq] at hk; omega
    · rw [h] at hk; simp only [Option.some.injEq] at hk; have := HB1.out.size; omega)
  obtain ⟨u3, c3, rfl, _⟩ := part_form ho2
  clear hF2 hg2 hat2 hr2 ho2 x0 y0 HS1 H1 HE hd
  simp only [List.nil_append] at HR2
  obtain ⟨x0, y0⟩ := blk1 HN2.out.blk
  go_wp2_with ((with_reducible refine gate_dst (N := 26) rfl ?_); refine stop_here ?_)
  refine Lib.hid ?_
  have HSU := Lib.hid (part_upto HN2.out.row rfl i (by omega))
  have HFO : Hid (∀ k, (Value.slice (if i = 0 then a else a.map (·.add (0 * 1))) i i).ownBlock = some k → (Value.slice a l.length cp).ownBlock = some k) := Lib.hid (fun k hk => by
    cases a with
    | none => split at hk <;> simp [Value.ownBlock] at hk
    | some ad =>
      have hb : (ad.add (0 * 1)).block = ad.block := by unfold Addr.add; split <;> rfl
      have key : (Value.slice (if i = 0 then some ad else (some ad).map (·.add (0 * 1))) i i).ownBlock = some ad.block := by
        by_cases h0 : i = 0
        · rw [if_pos h0]; rfl
        · rw [if_neg h0]; show some (ad.add (0 * 1)).block = _; rw [hb]
      rw [key] at hk
      exact hk)
  refine wpList_val rfl rfl (execOp_slice rfl rfl rfl rfl rfl (run_upto w2 a l.length cp i (by omega))) ?_
  generalize (if i = 0 then a else a.map (·.add (0 * 1))) = A2 at HSU HFO ⊢
  have e2 : (scells l).take i = scells (l.take i) := by simp [scells]
  have e3 : (l.take i).length = i := by simp; omega
  rw [e2] at HSU
  have HSU' : Hid (partRow w2 0 9 1 (.slice A2 i i) (l.take i).length (scells (l.take i))) := Lib.hid (by rw [e3]; exact HSU.out)
  obtain ⟨u4, w4, hr4, ho4, hg4, hat4⟩ := adds w2 HSU'.out A c news (Shows.below hA HB2.out) (by rw [e3]; omega) (by simp only [List.length_append] at hn; omega)
  clear HSU HSU'
  go_wp2_with ((with_reducible refine gate_dst (N := 28) rfl ?_); refine stop_here ?_)
  refine Lib.hid ?_
  refine wpList_val rfl rfl (execOp_append rfl rfl rfl hr4) ?_
  have HO4 := Lib.hid ho4
  have HA4 : Hid (∀ k, u4.ownBlock = some k → (Value.slice a l.length cp).ownBlock = some k ∨ w.heap.size ≤ k) := Lib.hid (fun k hk => by
    rcases hat4 with h | h
    · rw [h] at hk; exact .inl (HFO.out k hk)
    · rw [h] at hk; simp only [Option.some.injEq] at hk; have := HB2.out.size; omega)
  have hF4 : Fr (foot p (.slice a l.length cp)) w w4 := (Fr.of_below HB2.out).trans (Fr.grown (F := foot p (.slice a l.length cp)) hg4 (fun k hk => .inr (HFO.out k hk))) (fun _ _ h => h)
  have HF4 := Lib.hid hF4
  have hp4 : w4.heap[p]? = some (.cells #[.slice a l.length cp] 46 (0, 0)) := (hg4.block p (lt_of HN2.out.blk) (fun e => HN2.out.off (HFO.out p e.symm))).trans HN2.out.blk
  have HP4 := Lib.hid hp4
  have hR4 := part_kept HR2.out (w' := w4) (fun k hk => hg4.block k (HR2.out.lt k hk).2 (fun e => by
    have h1 := HU2.out k hk
    have h2 := HFO.out k e.symm
    have h3 := H.out.lt k (.inr h2)
    omega))
  have hsh : Shows w4 u3 (scells (l.drop (i + o))) := by
    rcases hR4.2 with ⟨h1, h2⟩ | ⟨g, cc, cur, h1, _⟩
    · obtain rfl : u3 = none := by injection h1
      exact .inl ⟨rfl, List.eq_nil_of_length_eq_zero (by rw [hR4.1, h2])⟩
    · obtain rfl : u3 = some ⟨g, 0, none⟩ := by injection h1
      exact .inr ⟨_, rfl, hR4.cells (g := g) rfl⟩
  obtain ⟨u5, w5, hr5, ho5, hg5, hat5⟩ := adds w4 ho4 u3 c3 (l.drop (i + o)) hsh (by simp only [List.length_append] at hn ⊢; omega) (by simp; omega)
  have HR5 := Lib.hid hr5
  have HO5 := Lib.hid ho5
  have HG5 := Lib.hid hg5
  have HT5 := Lib.hid hat5
  have e4 : (l.drop (i + o)).length = l.length - (i + o) := by simp
  rw [e4] at HR5
  clear hr4 ho4 hg4 hat4 hF4 hp4 hR4 hsh x0 y0 hr5 ho5 hg5 hat5 hA e1 e2 e3 e4
  obtain ⟨c4, c5, rfl, _⟩ := part_form HO4.out
  go_wp2_with ((with_reducible refine gate_dst (N := 30) rfl ?_); refine stop_here ?_)
  refine Lib.hid ?_
  have e5 : min i l.length + news.length = (l.take i ++ news).length := by simp
  have HR6 := HR5.out
  rw [← e5] at HR6
  refine wpList_val rfl rfl (execOp_append rfl rfl rfl HR6) ?_
  clear HR6 e5
  have hp5 : w5.heap[p]? = some (.cells #[.slice a l.length cp] 46 (0, 0)) := (HG5.out.block p (lt_of HP4.out) (fun e => by
    rcases HA4.out p e.symm with h | h
    · exact H.out.off h
    · have := lt_of H.out.blk; omega)).trans HP4.out
  have HP5 := Lib.hid hp5
  have HU5 : Hid (∀ k, u5.ownBlock = some k → (Value.slice a l.length cp).ownBlock = some k ∨ w.heap.size ≤ k) := Lib.hid (fun k hk => by
    rcases HT5.out with h | h
    · rw [h] at hk; exact HA4.out k hk
    · rw [h] at hk; simp only [Option.some.injEq] at hk; have := HF4.out.size; omega)
  have HOFF : Hid (u5.ownBlock ≠ some p) := Lib.hid (fun e => by
    rcases HU5.out p e with h | h
    · exact H.out.off h
    · have := lt_of H.out.blk; omega)
  have HPOST : Hid (NAt (w5.setCell ⟨p, 0, none⟩ u5) p u5 (l.take i ++ news ++ l.drop (i + o)) ∧ Fr (foot p (.slice a l.length cp)) w (w5.setCell ⟨p, 0, none⟩ u5)) := Lib.hid (by
    have hs : Fr (foot p (.slice a l.length cp)) w5 (w5.setCell ⟨p, 0, none⟩ u5) := Fr.setCell w5 (p := ⟨p, 0, none⟩) (.inl rfl) u5
    have hs' : Fr (fun k => k = p) w5 (w5.setCell ⟨p, 0, none⟩ u5) := Fr.setCell (F := fun k => k = p) w5 (p := ⟨p, 0, none⟩) rfl u5
    refine ⟨⟨put1 HP5.out, hs'.part HO5.out (fun k hk e => HOFF.out (hk.trans (congrArg some e))), HOFF.out, hn⟩, ?_⟩
    refine (HF4.out.trans (Fr.grown (F := fun k => (Value.slice c4 (l.take i ++ news).length c5).ownBlock = some k) HG5.out (fun k hk => hk)) (fun k hk hj => ?_)).trans hs (fun _ _ h => h)
    rcases HA4.out k hj with h | h
    · exact .inr h
    · omega)
  obtain ⟨c6, n6, c7, rfl⟩ : ∃ c6 n6 c7, u5 = .slice c6 n6 c7 := let ⟨a, b, e, _⟩ := part_form HO5.out; ⟨a, _, b, e⟩
  clear HG5 HT5 HO5 HO4 HP4 HR2 HN2 hp5 HR5 HF4 HA4
  obtain ⟨x0, y0⟩ := blk1 HP5.out
  go_wp2
  go_end0
  exact ⟨rfl, _, HPOST.out.1, HPOST.out.2, HU5.out⟩
end Go.Proofs.YtiedmkgdhfkcoaaDoor.Net
