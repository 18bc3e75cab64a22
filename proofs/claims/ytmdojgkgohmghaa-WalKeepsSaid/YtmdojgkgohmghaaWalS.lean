/- Layer wal: a store into a row of blocks; '!=' of blocks; a row of five strings. -/
import Derived.Test.YtmdojgkgohmghaaWalN
import Derived.Test.YtmdojgkgohmghaaWEqStruct
import Derived.Test.YtmdojgkgohmghaaWGuard
import Derived.Deep.QuietTactic
import Derived.BigQuiet
namespace Go.Proofs.Ytmdojgkgohmghaa.Wal
open Go.RowKit Go.Own Go.Blk Go.DevL Go.XdrL Go.WalL Go.OpsL Go.Sees Go.Proofs.Ytmdojgkgohmghaa.P04 Go.Proofs.Ytmdojgkgohmghaa.Xdr Go.Proofs.YtmdojgkgohmghaaW.PrintLast Go.Proofs.YtmdojgkgohmghaaW.PrintWords
open Go.Proofs.Ytmdojgkgohmghaa.Dev hiding stop_here execOp_build execOp_alloc execOp_store execOp_load execOp_buildSlice execOp_makeSlice execOp_box execOp_copy execOp_append wpList_val wpList_none Up
set_option linter.unusedVariables false
set_option linter.unusedSimpArgs false
set_option maxRecDepth 100000
variable {w0 w w' : World} {p q : Nat} {d d' : Dv} {X : List Nat} {last : Nat} {dead : Bool} {b c : List (Int × ByteArray)} {l l' : List ByteArray}
theorem shows_all {A : Option Addr} (h : ArrAt w A ncells 2 b) (h0 : 0 < b.length) : Shows w A (nrow b) := by
  obtain ⟨blk, off, rfl, _, _⟩ := h 0 h0
  refine .inr ⟨_, rfl, fun j u hj => ?_⟩
  obtain ⟨hi, hu⟩ := nrow_at _ j u hj
  obtain ⟨blk', off', e, _, hcl⟩ := h (j / 2) hi
  cases e
  rw [add_at, ← hcl (j % 2) u hu]
  congr 2
  omega
theorem Has.touch {g : Nat} (h : Has w0 w p d X) (hf : Fr (· = g) w w') (hg : g ∈ X) (hgw : w0.heap.size ≤ g) : Has w0 w' p d X := by
  obtain ⟨F, h1, h2, h3⟩ := h.dev
  exact ⟨⟨F, h1.keep hf (fun k hk e => (h3 g hg).1 (e ▸ hk)), h2, fun k hk => ⟨(h3 k hk).1, Nat.lt_of_lt_of_le (h3 k hk).2 hf.size⟩⟩, h.bel.trans (hf.below h.bel.size (fun k hk => by rw [hk]; exact hgw))⟩
theorem run_none_blk (w : World) : (Instr.buildSlice 22 0 #[]).run Try.prog w = .ok (.slice (some ⟨w.heap.size, 0, none⟩) 0 0) (w.alloc (.cells #[] 26)) := by
  obtain ⟨i, h1, _⟩ := info_get info_n
  exact run_buildSlice_none w _ _ i Try.underlying22 h1
theorem eq_blk (d : Nat) (w : World) (x : Int × ByteArray) : (Op.equalIn (d + 2) 26 (.agg #[.int .i64 x.1, .string x.2]) (.agg #[.int .i64 x.1, .string x.2])).run Try.prog w = .ok (x.1 == x.1 && (x.2.toList == x.2.toList)) w := by
  refine eqA_of Try.underlying26 (by kernel_rfl) ?_
  refine eqf_cons (by rfl) (by go_simp; rfl) (by go_simp; rfl) (by go_simp) ?_
  exact eqf_last (by rfl) (by go_simp; rfl) (by go_simp; rfl) (by go_simp)
theorem run_neq (w : World) (x : Int × ByteArray) : (binOp .neq 26 (.agg #[.int .i64 x.1, .string x.2]) (.agg #[.int .i64 x.1, .string x.2])).run Try.prog w = .ok (.bool false) w := by
  rw [run_neq_struct, show (10000 : Nat) = 9998 + 2 from rfl, eq_blk]
  simp
theorem blk_guard : Try.prog.eqGuardType Try.prog.depth 26 = false := by kernel_rfl
theorem execOp_neq {o : Oper} {a : Act} {w : World} {t2 : TypeId} {y z : Operand} {x : Int × ByteArray} (ho : o.op = .binOp .neq 26 y z t2) (hx : a.eval y = .agg #[.int .i64 x.1, .string x.2]) (hy : a.eval z = .agg #[.int .i64 x.1, .string x.2]) : (execOp a.eval o).run Try.prog w = .ok (.value (.bool false)) w := by
  unfold execOp
  simp only [ho, hx, hy]
  rw [Sem.run_bind, Sem.run_bind, run_eqGuard_agg w .neq 26 y z _ _ blk_guard, Result.andThen_ok, run_neq]
  rfl
theorem take_over (cur : List Value) (i n : Nat) (a c : Value) (hi : i < n) (hn : n * 2 ≤ cur.length) : (over cur (i * 2) [a, c]).take (n * 2) = (cur.take (n * 2)).take (i * 2) ++ [a, c] ++ (cur.take (n * 2)).drop (i * 2 + 2) := by
  have hl : (cur.take (i * 2) ++ [a, c]).length = i * 2 + 2 := by rw [List.length_append, List.length_take, Nat.min_eq_left (by omega)]; rfl
  unfold over
  rw [List.take_append, List.take_of_length_le (by omega), hl, List.take_take, Nat.min_eq_left (by omega), List.drop_take]
  rfl
theorem nrow_set (l : List (Int × ByteArray)) (i : Nat) (hi : i < l.length) (y : Int × ByteArray) : nrow (l.set i y) = (nrow l).take (i * 2) ++ ncells y ++ (nrow l).drop (i * 2 + 2) := by
  rw [List.set_eq_take_append_cons_drop, if_pos hi]
  have h1 : nrow (l.take i ++ y :: l.drop (i + 1)) = nrow (l.take i) ++ ncells y ++ nrow (l.drop (i + 1)) := by simp [nrow]
  rw [h1]
  have h2 : nrow l = nrow (l.take i) ++ nrow (l.drop i) := by
    have h : nrow (l.take i ++ l.drop i) = nrow (l.take i) ++ nrow (l.drop i) := List.flatMap_append
    rw [List.take_append_drop] at h
    exact h
  have h3 : nrow (l.drop i) = ncells l[i] ++ nrow (l.drop (i + 1)) := by
    rw [List.drop_eq_getElem_cons hi]
    exact List.flatMap_cons
  have hl : (nrow (l.take i)).length = i * 2 := by rw [nrow_length, List.length_take]; omega
  rw [h2, List.take_left' hl, h3]
  congr 1
  rw [← List.append_assoc, List.drop_left' (by rw [List.length_append, hl]; rfl)]
/-- A block is stored into a row of one's own. -/
theorem nstore {g n cp i : Nat} (h : NR w (.slice (some ⟨g, 0, none⟩) n cp) c) (hi : i < c.length) (y : Int × ByteArray) : ∃ w', (Instr.storeAt 26 (.pointer (some ⟨g, i * 2, none⟩)) (.agg #[.int .i64 y.1, .string y.2])).run Try.prog w = .ok () w' ∧ NR w' (.slice (some ⟨g, 0, none⟩) n cp) (c.set i y) ∧ Fr (· = g) w w' := by
  obtain ⟨h1, h2⟩ := h
  rcases h2 with ⟨e, _⟩ | ⟨g', cap, cur, e, hb, hg, hc1, hc2, hc3, hc4⟩
  · cases e
  · simp only [Value.slice.injEq, Option.some.injEq, Addr.mk.injEq, and_true, true_and] at e
    obtain ⟨rfl, rfl, rfl⟩ := e
    have hcl : c.length * 2 ≤ cur.toList.length := by have : cur.toList.length = cur.size := Array.length_toList; omega
    have hr := run_storeAt_row (P := Try.prog) w g (i * 2) 26 cur.toList 26 #[.int .i64 y.1, .string y.2] (by simpa using hg) (by show i * 2 + 2 ≤ _; omega) sn_info (by simp [Value.oneCell'])
    refine ⟨_, hr, ⟨?_, .inr ⟨g, cp, _, by rw [List.length_set], hb, setRow_heap _ _ _ _ _ _ hg, by rw [List.length_set]; exact hc1, hc2, ?_, ?_⟩⟩, Fr.setRow (F := (· = g)) w rfl _⟩
    · rw [nrow_length]
    · have : (over cur.toList (i * 2) [Value.int .i64 y.1, .string y.2]).length = cur.toList.length := by unfold over; simp; omega
      show cp * 2 ≤ (over cur.toList (i * 2) [Value.int .i64 y.1, .string y.2]).toArray.size
      rw [List.size_toArray, this, Array.length_toList]
      exact hc3
    · show List.take _ (over cur.toList (i * 2) [Value.int .i64 y.1, .string y.2]) = _
      rw [List.length_set, take_over _ _ _ _ _ hi hcl, hc4, nrow_set c i hi y]
      rfl
theorem run_five (w : World) (a0 a1 a2 a3 a4 : ByteArray) : (Instr.buildSlice 34 5 #[(0, .string a0), (1, .string a1), (2, .string a2), (3, .string a3), (4, .string a4)]).run Try.prog w = .ok (.slice (some ⟨w.heap.size, 0, none⟩) 5 5) (w.alloc (.cells #[.string a0, .string a1, .string a2, .string a3, .string a4] 9)) := by kernel_rfl
theorem five_row (w : World) (a0 a1 a2 a3 a4 : ByteArray) : SR (w.alloc (.cells #[.string a0, .string a1, .string a2, .string a3, .string a4] 9)) (.slice (some ⟨w.heap.size, 0, none⟩) 5 5) [a0, a1, a2, a3, a4] :=
  ⟨rfl, .inr ⟨w.heap.size, 5, _, rfl, Nat.zero_le _, alloc_at w _, Nat.le_refl _, by unfold maxLen; decide, by simp, by simp [srow]⟩⟩
theorem whole_zero (w : World) : Calls Try.prog 19 #[.string ⟨#[]⟩] w fun e w' => e = .returned (.string (zeros 256)) ∧ Below w.heap.size w w' := by
  obtain ⟨k, hk⟩ := whole_any ⟨#[]⟩
  have e : wholeR ⟨#[]⟩ = zeros 256 := by
    unfold wholeR
    rw [if_pos (by decide)]
    rfl
  rw [e] at hk
  exact (lamellalaw04_whole.calls k _ _ w hk).mono fun e w' ⟨he, hd⟩ => ⟨he, hd.below⟩
theorem zeros_cut : (zeros 256).extract 0 248 = zeros 248 := by kernel_rfl
end Go.Proofs.Ytmdojgkgohmghaa.Wal
