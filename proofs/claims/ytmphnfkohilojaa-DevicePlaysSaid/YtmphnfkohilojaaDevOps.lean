/- Operations on rows of 256 cells, by law. -/
import Derived.Test.YtmphnfkohilojaaDevRead
import Derived.Test.YtmphnfkohilojaaWLast
import Derived.Test.YtmphnfkohilojaaWMore
import Derived.Laws.BitsAllLaws
namespace Go.Proofs.Ytmphnfkohilojaa.Dev
open Go.RowKit Go.Own Go.DevL Go.Blk
set_option linter.unusedVariables false
/-- A write of noughts. -/
def zw (i : Int) : List Value := .int .i64 i :: List.replicate 256 (.int .u8 0)
theorem run_build_w (w : World) (i : Int) : (Instr.build 68 #[(0, .int .i64 i)]).run Try.prog w = .ok (.agg (zw i).toArray) w := by kernel_rfl
theorem run_alloc_w (w : World) : (Instr.alloc 68 true (.tuple #[])).run Try.prog w = .ok (.pointer (some ⟨w.heap.size, 0, none⟩)) (w.alloc (.cells (zw 0).toArray 68)) := by kernel_rfl
theorem info_w : (Try.prog.info? 68).map (fun i => (i.zero, i.size, i.bytes)) = some (some (.agg (zw 0).toArray), 257, 264) := by kernel_rfl
theorem info_b : (Try.prog.info? 66).map (·.size) = some 256 := by kernel_rfl
theorem info_b3 : (Try.prog.info? 66).map (fun i => (i.zero, i.size, i.bytes)) = some (some (.agg (List.replicate 256 (Value.int .u8 0)).toArray), 256, 256) := by kernel_rfl
theorem info_u8 : (Try.prog.info? 5).map (·.size) = some 1 := by kernel_rfl
theorem zw_length (i : Int) : (zw i).length = 257 := by unfold zw; rw [List.length_cons, List.length_replicate]
theorem zw_one (i : Int) : ∀ v ∈ (zw i).toArray.toList, v.oneCell' = true := fun v hv => by
  simp only [zw, List.mem_cons, List.mem_replicate] at hv
  rcases hv with rfl | ⟨_, rfl⟩ <;> rfl
theorem wcells_length {x : Nat × ByteArray} (h : x.2.size = 256) : (wcells x).length = 257 := by simp [wcells, bcells_length, h]
theorem wcells_one (x : Nat × ByteArray) : ∀ v ∈ wcells x, v.oneCell' = true := fun v hv => by
  simp only [wcells, List.mem_cons] at hv
  rcases hv with rfl | hv
  · rfl
  · exact bcells_one _ v hv
theorem byteCells_eq (b : ByteArray) : Lib.byteCells b.data.toList = bcells b := rfl
theorem over_zw (i : Nat) (b : ByteArray) (hb : b.size = 256) : ((zw i).toArray.toList.take 1 ++ Lib.byteCells b.data.toList ++ (zw i).toArray.toList.drop (1 + b.size)) = wcells (i, b) := by
  rw [hb, byteCells_eq, List.drop_eq_nil_of_le (by rw [List.toList_toArray, zw_length]; omega), List.append_nil]
  rfl
theorem bit_go (keep : Int) (k : Nat) (h0 : 0 ≤ keep) (h1 : keep < 18446744073709551616) : (bits .and .u64 (keep / 2 ^ (k % 64)) 1 == 1) = bit keep k := by
  obtain ⟨n, rfl⟩ := Int.eq_ofNat_of_zero_le h0
  have e : ((n : Int) / 2 ^ (k % 64)) = ((n / 2 ^ (k % 64) : Nat) : Int) := by rw [Int.natCast_ediv, Int.natCast_pow]; rfl
  have hb : n / 2 ^ (k % 64) < 18446744073709551616 := Nat.lt_of_le_of_lt (Nat.div_le_self _ _) (by omega)
  have h := u64_and_nat (n / 2 ^ (k % 64)) 1 hb (by decide)
  rw [e]
  rw [show ((1 : Int)) = ((1 : Nat) : Int) from rfl, h, Nat.and_one_is_mod]
  unfold bit
  rw [Int.toNat_natCast, Bool.eq_iff_iff]
  simp only [beq_iff_eq]
  omega
theorem stop_here {p : Prop} (h : Hid p) : p := h.out
section
variable {P : Program} {ops : Array Oper} {rest : List Oper} {o : Oper} {a : Act} {w w1 : World} {Q : Exit → Act → World → Prop} {K : Act → World → Prop}
theorem execOp_build {t : TypeId} {parts : Array (Nat × Operand)} {ps : Array (Nat × Value)} {v : Value} (ho : o.op = .build t parts) (hp : parts.toList.map (fun x => (x.1, a.eval x.2)) = ps.toList) (hr : (Instr.build t ps).run P w = .ok v w1) : (execOp a.eval o).run P w = .ok (.value v) w1 := by
  unfold execOp
  simp only [ho]
  have hp' : (parts.map fun (i, x) => (i, a.eval x)) = ps := Array.toList_inj.1 ((Array.toList_map ..).trans hp)
  rw [hp', Sem.run_bind, hr]
  rfl
theorem execOp_alloc {t : TypeId} {v : Value} (ho : o.op = .alloc t) (hr : (Instr.alloc t true (.tuple #[])).run P w = .ok v w1) : (execOp a.eval o).run P w = .ok (.value v) w1 := by
  unfold execOp
  simp only [ho]
  rw [Sem.run_bind, hr]
  rfl
theorem execOp_store {t : TypeId} {x y : Operand} {X Y : Value} (ho : o.op = .store t x y) (hx : a.eval x = X) (hy : a.eval y = Y) (hr : (Instr.storeAt t X Y).run P w = .ok () w1) : (execOp a.eval o).run P w = .ok .skip w1 := by
  subst hx; subst hy
  unfold execOp
  simp only [ho]
  rw [Sem.run_bind, hr]
  rfl
theorem execOp_load {t : TypeId} {x : Operand} {X : Value} {v : Value} (ho : o.op = .load t x) (hx : a.eval x = X) (hr : (Instr.loadAt t X).run P w = .ok v w1) : (execOp a.eval o).run P w = .ok (.value v) w1 := by
  subst hx
  unfold execOp
  simp only [ho]
  rw [Sem.run_bind, hr]
  rfl
theorem execOp_buildSlice {t : TypeId} {n : Nat} {parts : Array (Nat × Operand)} {ps : Array (Nat × Value)} {v : Value} (ho : o.op = .buildSlice t n parts) (hp : parts.toList.map (fun x => (x.1, a.eval x.2)) = ps.toList) (hr : (Instr.buildSlice t n ps).run P w = .ok v w1) : (execOp a.eval o).run P w = .ok (.value v) w1 := by
  unfold execOp
  simp only [ho]
  have hp' : (parts.map fun (i, x) => (i, a.eval x)) = ps := Array.toList_inj.1 ((Array.toList_map ..).trans hp)
  rw [hp', Sem.run_bind, hr]
  rfl
theorem execOp_makeSlice {t : TypeId} {x y : Operand} {X Y v : Value} (ho : o.op = .makeSlice t x y) (hx : a.eval x = X) (hy : a.eval y = Y) (hr : (Instr.makeSlice t X Y).run P w = .ok v w1) : (execOp a.eval o).run P w = .ok (.value v) w1 := by
  subst hx; subst hy
  unfold execOp
  simp only [ho]
  rw [Sem.run_bind, hr]
  rfl
theorem execOp_box {t : TypeId} {x : Operand} {X v : Value} (ho : o.op = .box t x) (hx : a.eval x = X) (hr : (Instr.box t X).run P w = .ok v w1) : (execOp a.eval o).run P w = .ok (.value v) w1 := by
  subst hx
  unfold execOp
  simp only [ho]
  rw [Sem.run_bind, hr]
  rfl
theorem execOp_copy {dT sT : TypeId} {x y : Operand} {X Y v : Value} (ho : o.op = .call { callee := .builtin .copy, args := #[x, y], argTypes := #[dT, sT] }) (hx : a.eval x = X) (hy : a.eval y = Y) (hr : (Builtin.copy_ #[dT, sT] o.type #[X, Y]).run P w = .ok v w1) : (execOp a.eval o).run P w = .ok (.value v) w1 := by
  subst hx; subst hy
  unfold execOp
  simp [ho, resolve, invoke, builtin, hr, Result.andThen]
theorem execOp_append {t : TypeId} {x y : Operand} {X Y v : Value} (ho : o.op = .call { callee := .builtin .append, args := #[x, y], argTypes := #[t, t] }) (hx : a.eval x = X) (hy : a.eval y = Y) (hr : (Builtin.append_ #[t, t] o.type #[X, Y]).run P w = .ok v w1) : (execOp a.eval o).run P w = .ok (.value v) w1 := by
  subst hx; subst hy
  unfold execOp
  simp [ho, resolve, invoke, builtin, hr, Result.andThen]
theorem wpList_val {N : Tmp} {v : Value} (hgd : o.guard = none) (hd : o.dst = some N) (hr : (execOp a.eval o).run P w = .ok (.value v) w1) (h : wpList P ops Q rest (a.put (some N) v) w1) : wpList P ops Q (o :: rest) a w := by
  refine wpList_plain hgd fun K hK => ?_
  unfold Oper.wp
  rw [hr]
  refine hK _ _ ?_
  rw [hd]
  exact h
theorem wpList_none (hgd : o.guard = none) (hd : o.dst = none) (hr : (execOp a.eval o).run P w = .ok .skip w1) (h : wpList P ops Q rest a w1) : wpList P ops Q (o :: rest) a w := by
  refine wpList_plain hgd fun K hK => ?_
  unfold Oper.wp
  rw [hr]
  refine hK _ _ ?_
  rw [hd]
  exact h
end
end Go.Proofs.Ytmphnfkohilojaa.Dev
