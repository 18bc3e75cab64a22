/- Layer lane: '!=' of a line and itself. -/
import Derived.Test.YtfacdadbebjebaaOnceB
import Derived.Test.YtfacdadbebjebaaWEqStruct
import Derived.Test.YtfacdadbebjebaaWGuard
namespace Go.Proofs.Ytfacdadbebjebaa.Once
open Go.RowKit Go.Own Go.Blk Go.OpsL Go.Sees Go.Proofs.YtfacdadbebjebaaW.PrintLast Go.Proofs.YtfacdadbebjebaaW.PrintWords
set_option linter.unusedVariables false
set_option linter.unusedSimpArgs false
set_option maxRecDepth 100000
theorem eq_ln (d : Nat) (w : World) (x : Ln) : (Op.equalIn (d + 2) 30 (.agg #[.int .u32 x.life, .int .u32 x.boot, .int .u32 x.q, .bool x.out, .string x.body, .int .i64 x.left, .int .i64 x.gap]) (.agg #[.int .u32 x.life, .int .u32 x.boot, .int .u32 x.q, .bool x.out, .string x.body, .int .i64 x.left, .int .i64 x.gap])).run Try.prog w = .ok (x.life == x.life && (x.boot == x.boot && (x.q == x.q && (x.out == x.out && (x.body.toList == x.body.toList && (x.left == x.left && (x.gap == x.gap))))))) w := by
  refine eqA_of Try.underlying30 (by kernel_rfl) ?_
  refine eqf_cons (by rfl) (by go_simp; rfl) (by go_simp; rfl) (by go_simp) ?_
  refine eqf_cons (by rfl) (by go_simp; rfl) (by go_simp; rfl) (by go_simp) ?_
  refine eqf_cons (by rfl) (by go_simp; rfl) (by go_simp; rfl) (by go_simp) ?_
  refine eqf_cons (by rfl) (by go_simp; rfl) (by go_simp; rfl) (by go_simp) ?_
  refine eqf_cons (by rfl) (by go_simp; rfl) (by go_simp; rfl) (by go_simp) ?_
  refine eqf_cons (by rfl) (by go_simp; rfl) (by go_simp; rfl) (by go_simp) ?_
  exact eqf_last (by rfl) (by go_simp; rfl) (by go_simp; rfl) (by go_simp)
theorem run_neq (w : World) (x : Ln) : (binOp .neq 30 (.agg #[.int .u32 x.life, .int .u32 x.boot, .int .u32 x.q, .bool x.out, .string x.body, .int .i64 x.left, .int .i64 x.gap]) (.agg #[.int .u32 x.life, .int .u32 x.boot, .int .u32 x.q, .bool x.out, .string x.body, .int .i64 x.left, .int .i64 x.gap])).run Try.prog w = .ok (.bool false) w := by
  rw [run_neq_struct, show (10000 : Nat) = 9998 + 2 from rfl, eq_ln]
  simp
theorem ln_guard : Try.prog.eqGuardType Try.prog.depth 30 = false := by kernel_rfl
theorem execOp_neq {o : Oper} {a : Act} {w : World} {t2 : TypeId} {y z : Operand} {x : Ln} (ho : o.op = .binOp .neq 30 y z t2) (hx : a.eval y = .agg #[.int .u32 x.life, .int .u32 x.boot, .int .u32 x.q, .bool x.out, .string x.body, .int .i64 x.left, .int .i64 x.gap]) (hy : a.eval z = .agg #[.int .u32 x.life, .int .u32 x.boot, .int .u32 x.q, .bool x.out, .string x.body, .int .i64 x.left, .int .i64 x.gap]) : (execOp a.eval o).run Try.prog w = .ok (.value (.bool false)) w := by
  unfold execOp
  simp only [ho, hx, hy]
  rw [Sem.run_bind, Sem.run_bind, run_eqGuard_agg w .neq 30 y z _ _ ln_guard, Result.andThen_ok, run_neq]
  rfl
end Go.Proofs.Ytfacdadbebjebaa.Once
