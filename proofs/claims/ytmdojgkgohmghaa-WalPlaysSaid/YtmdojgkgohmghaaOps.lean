/- Operations, by law: a value that is put, a store. For any program. -/
import Derived.WalkKit
import Derived.Lib.Hide
namespace Go.OpsL
open Go.RowKit
set_option linter.unusedVariables false
theorem stop_here {p : Prop} (h : Hid p) : p := h.out
section
variable {P : Program} {ops : Array Oper} {rest : List Oper} {o : Oper} {a : Act} {w w1 : World} {Q : Exit → Act → World → Prop} {K : Act → World → Prop}
theorem execOp_build {t : TypeId} {parts : Array (Nat × Operand)} {ps : Array (Nat × Value)} {v : Value} (ho : o.op = .build t parts) (hp : parts.toList.map (fun x => (x.1, a.eval x.2)) = ps.toList) (hr : (Instr.build t ps).run P w = .ok v w1) : (execOp a.eval o).run P w = .ok (.value v) w1 := by
  unfold execOp
  simp only [ho]
  have hp' : (parts.map fun (i, x) => (i, a.eval x)) = ps := Array.toList_inj.1 ((Array.toList_map ..).trans hp)
  rw [hp', Sem.run_bind, hr]
  rfl
theorem execOp_alloc {t : TypeId} {v : Value} (ho : o.op = .alloc t) (hr : (Instr.alloc t true (.tuple #[])).run P w = .ok v w1) : (execOp a.eval o).run P w = .ok (.value v) w1 := by
  unfold execOp
  simp only [ho]
  rw [Sem.run_bind, hr]
  rfl
theorem execOp_store {t : TypeId} {x y : Operand} {X Y : Value} (ho : o.op = .store t x y) (hx : a.eval x = X) (hy : a.eval y = Y) (hr : (Instr.storeAt t X Y).run P w = .ok () w1) : (execOp a.eval o).run P w = .ok .skip w1 := by
  subst hx; subst hy
  unfold execOp
  simp only [ho]
  rw [Sem.run_bind, hr]
  rfl
theorem execOp_load {t : TypeId} {x : Operand} {X : Value} {v : Value} (ho : o.op = .load t x) (hx : a.eval x = X) (hr : (Instr.loadAt t X).run P w = .ok v w1) : (execOp a.eval o).run P w = .ok (.value v) w1 := by
  subst hx
  unfold execOp
  simp only [ho]
  rw [Sem.run_bind, hr]
  rfl
theorem execOp_buildSlice {t : TypeId} {n : Nat} {parts : Array (Nat × Operand)} {ps : Array (Nat × Value)} {v : Value} (ho : o.op = .buildSlice t n parts) (hp : parts.toList.map (fun x => (x.1, a.eval x.2)) = ps.toList) (hr : (Instr.buildSlice t n ps).run P w = .ok v w1) : (execOp a.eval o).run P w = .ok (.value v) w1 := by
  unfold execOp
  simp only [ho]
  have hp' : (parts.map fun (i, x) => (i, a.eval x)) = ps := Array.toList_inj.1 ((Array.toList_map ..).trans hp)
  rw [hp', Sem.run_bind, hr]
  rfl
theorem execOp_makeSlice {t : TypeId} {x y : Operand} {X Y v : Value} (ho : o.op = .makeSlice t x y) (hx : a.eval x = X) (hy : a.eval y = Y) (hr : (Instr.makeSlice t X Y).run P w = .ok v w1) : (execOp a.eval o).run P w = .ok (.value v) w1 := by
  subst hx; subst hy
  unfold execOp
  simp only [ho]
  rw [Sem.run_bind, hr]
  rfl
theorem execOp_box {t : TypeId} {x : Operand} {X v : Value} (ho : o.op = .box t x) (hx : a.eval x = X) (hr : (Instr.box t X).run P w = .ok v w1) : (execOp a.eval o).run P w = .ok (.value v) w1 := by
  subst hx
  unfold execOp
  simp only [ho]
  rw [Sem.run_bind, hr]
  rfl
theorem execOp_copy {dT sT : TypeId} {x y : Operand} {X Y v : Value} (ho : o.op = .call { callee := .builtin .copy, args := #[x, y], argTypes := #[dT, sT] }) (hx : a.eval x = X) (hy : a.eval y = Y) (hr : (Builtin.copy_ #[dT, sT] o.type #[X, Y]).run P w = .ok v w1) : (execOp a.eval o).run P w = .ok (.value v) w1 := by
  subst hx; subst hy
  unfold execOp
  simp [ho, resolve, invoke, builtin, hr, Result.andThen]
theorem execOp_append {t u : TypeId} {x y : Operand} {X Y v : Value} (ho : o.op = .call { callee := .builtin .append, args := #[x, y], argTypes := #[t, u] }) (hx : a.eval x = X) (hy : a.eval y = Y) (hr : (Builtin.append_ #[t, u] o.type #[X, Y]).run P w = .ok v w1) : (execOp a.eval o).run P w = .ok (.value v) w1 := by
  subst hx; subst hy
  unfold execOp
  simp [ho, resolve, invoke, builtin, hr, Result.andThen]
theorem execOp_convert {s t : TypeId} {x : Operand} {X v : Value} (ho : o.op = .convert s t x) (hx : a.eval x = X) (hr : (convert s t X).run P w = .ok v w1) : (execOp a.eval o).run P w = .ok (.value v) w1 := by
  subst hx
  unfold execOp
  simp only [ho]
  rw [Sem.run_bind, hr]
  rfl
theorem wpList_val {N : Tmp} {v : Value} (hgd : o.guard = none) (hd : o.dst = some N) (hr : (execOp a.eval o).run P w = .ok (.value v) w1) (h : wpList P ops Q rest (a.put (some N) v) w1) : wpList P ops Q (o :: rest) a w := by
  refine wpList_plain hgd fun K hK => ?_
  unfold Oper.wp
  rw [hr]
  refine hK _ _ ?_
  rw [hd]
  exact h
theorem wpList_none (hgd : o.guard = none) (hd : o.dst = none) (hr : (execOp a.eval o).run P w = .ok .skip w1) (h : wpList P ops Q rest a w1) : wpList P ops Q (o :: rest) a w := by
  refine wpList_plain hgd fun K hK => ?_
  unfold Oper.wp
  rw [hr]
  refine hK _ _ ?_
  rw [hd]
  exact h
end
end Go.OpsL
