/- Layer proto: '==' of packets. -/
import Derived.Test.YtiedmkgdhfkcoaaDoorPktAt
import Derived.Test.YtiedmkgdhfkcoaaDoorWEqStruct
import Derived.Test.YtiedmkgdhfkcoaaDoorWGuard
namespace Go.Proofs.YtiedmkgdhfkcoaaDoor.Pkt
open Go.RowKit Go.Own Go.Blk Go.OpsL Go.XdrL Go.PktL Go.Sees Go.Proofs.YtiedmkgdhfkcoaaDoorW.PrintLast Go.Proofs.YtiedmkgdhfkcoaaDoorW.PrintWords
set_option linter.unusedVariables false
set_option linter.unusedSimpArgs false
set_option maxRecDepth 100000
theorem eq_op (d : Nat) (w : World) (p q : Pk) : (Op.equalIn (d + 2) 25 (.agg #[.int .i64 p.code, .int .i64 p.err, .int .u32 (p.file : Int), .int .u32 (p.epoch : Int), .int .u32 (p.off : Int), .int .u32 (p.len : Int), .int .u32 (p.size : Int), .int .u32 (p.mode : Int), .int .u32 (p.deny : Int), .int .u32 (p.handle : Int), .string p.path, .string p.other, .string p.data]) (.agg #[.int .i64 q.code, .int .i64 q.err, .int .u32 (q.file : Int), .int .u32 (q.epoch : Int), .int .u32 (q.off : Int), .int .u32 (q.len : Int), .int .u32 (q.size : Int), .int .u32 (q.mode : Int), .int .u32 (q.deny : Int), .int .u32 (q.handle : Int), .string q.path, .string q.other, .string q.data])).run Tryd.prog w = .ok (p.code == q.code && (p.err == q.err && ((p.file : Int) == (q.file : Int) && ((p.epoch : Int) == (q.epoch : Int) && ((p.off : Int) == (q.off : Int) && ((p.len : Int) == (q.len : Int) && ((p.size : Int) == (q.size : Int) && ((p.mode : Int) == (q.mode : Int) && ((p.deny : Int) == (q.deny : Int) && ((p.handle : Int) == (q.handle : Int) && (p.path.toList == q.path.toList && (p.other.toList == q.other.toList && (p.data.toList == q.data.toList))))))))))))) w := by
  refine eqA_of Tryd.underlying25 (by kernel_rfl) ?_
  refine eqf_cons (by rfl) (by go_simp; rfl) (by go_simp; rfl) (by go_simp) ?_
  refine eqf_cons (by rfl) (by go_simp; rfl) (by go_simp; rfl) (by go_simp) ?_
  refine eqf_cons (by rfl) (by go_simp; rfl) (by go_simp; rfl) (by go_simp) ?_
  refine eqf_cons (by rfl) (by go_simp; rfl) (by go_simp; rfl) (by go_simp) ?_
  refine eqf_cons (by rfl) (by go_simp; rfl) (by go_simp; rfl) (by go_simp) ?_
  refine eqf_cons (by rfl) (by go_simp; rfl) (by go_simp; rfl) (by go_simp) ?_
  refine eqf_cons (by rfl) (by go_simp; rfl) (by go_simp; rfl) (by go_simp) ?_
  refine eqf_cons (by rfl) (by go_simp; rfl) (by go_simp; rfl) (by go_simp) ?_
  refine eqf_cons (by rfl) (by go_simp; rfl) (by go_simp; rfl) (by go_simp) ?_
  refine eqf_cons (by rfl) (by go_simp; rfl) (by go_simp; rfl) (by go_simp) ?_
  refine eqf_cons (by rfl) (by go_simp; rfl) (by go_simp; rfl) (by go_simp) ?_
  refine eqf_cons (by rfl) (by go_simp; rfl) (by go_simp; rfl) (by go_simp) ?_
  exact eqf_last (by rfl) (by go_simp; rfl) (by go_simp; rfl) (by go_simp)
theorem eq_pk (d : Nat) (w : World) (p q : Pk) : (Op.equalIn (d + 3) 27 (.agg #[.int .i64 p.kind, .int .i64 p.fr, .int .i64 p.to, .int .u32 (p.life : Int), .int .u32 (p.seq : Int), .int .u32 (p.asked : Int), .int .u32 (p.boot : Int), .int .i64 p.code, .int .i64 p.err, .int .u32 (p.file : Int), .int .u32 (p.epoch : Int), .int .u32 (p.off : Int), .int .u32 (p.len : Int), .int .u32 (p.size : Int), .int .u32 (p.mode : Int), .int .u32 (p.deny : Int), .int .u32 (p.handle : Int), .string p.path, .string p.other, .string p.data]) (.agg #[.int .i64 q.kind, .int .i64 q.fr, .int .i64 q.to, .int .u32 (q.life : Int), .int .u32 (q.seq : Int), .int .u32 (q.asked : Int), .int .u32 (q.boot : Int), .int .i64 q.code, .int .i64 q.err, .int .u32 (q.file : Int), .int .u32 (q.epoch : Int), .int .u32 (q.off : Int), .int .u32 (q.len : Int), .int .u32 (q.size : Int), .int .u32 (q.mode : Int), .int .u32 (q.deny : Int), .int .u32 (q.handle : Int), .string q.path, .string q.other, .string q.data])).run Tryd.prog w = .ok (p.kind == q.kind && (p.fr == q.fr && (p.to == q.to && ((p.life : Int) == (q.life : Int) && ((p.seq : Int) == (q.seq : Int) && ((p.asked : Int) == (q.asked : Int) && ((p.boot : Int) == (q.boot : Int) && ((p.code == q.code && (p.err == q.err && ((p.file : Int) == (q.file : Int) && ((p.epoch : Int) == (q.epoch : Int) && ((p.off : Int) == (q.off : Int) && ((p.len : Int) == (q.len : Int) && ((p.size : Int) == (q.size : Int) && ((p.mode : Int) == (q.mode : Int) && ((p.deny : Int) == (q.deny : Int) && ((p.handle : Int) == (q.handle : Int) && (p.path.toList == q.path.toList && (p.other.toList == q.other.toList && (p.data.toList == q.data.toList))))))))))))))))))))) w := by
  refine eqA_of Tryd.underlying27 (by kernel_rfl) ?_
  refine eqf_cons (by rfl) (by go_simp; rfl) (by go_simp; rfl) (by go_simp) ?_
  refine eqf_cons (by rfl) (by go_simp; rfl) (by go_simp; rfl) (by go_simp) ?_
  refine eqf_cons (by rfl) (by go_simp; rfl) (by go_simp; rfl) (by go_simp) ?_
  refine eqf_cons (by rfl) (by go_simp; rfl) (by go_simp; rfl) (by go_simp) ?_
  refine eqf_cons (by rfl) (by go_simp; rfl) (by go_simp; rfl) (by go_simp) ?_
  refine eqf_cons (by rfl) (by go_simp; rfl) (by go_simp; rfl) (by go_simp) ?_
  refine eqf_cons (by rfl) (by go_simp; rfl) (by go_simp; rfl) (by go_simp) ?_
  exact eqf_last (by rfl) (by go_simp) (by go_simp) (eq_op d w p q)
theorem list_eq (a b : ByteArray) : a.toList = b.toList ↔ a = b := by
  rw [ByteArray.toList_eq, ByteArray.toList_eq]
  exact ⟨fun h => ByteArray.ext (Array.toList_inj.1 h), fun h => by rw [h]⟩
theorem eq_bool (p q : Pk) : (p.kind == q.kind && (p.fr == q.fr && (p.to == q.to && ((p.life : Int) == (q.life : Int) && ((p.seq : Int) == (q.seq : Int) && ((p.asked : Int) == (q.asked : Int) && ((p.boot : Int) == (q.boot : Int) && ((p.code == q.code && (p.err == q.err && ((p.file : Int) == (q.file : Int) && ((p.epoch : Int) == (q.epoch : Int) && ((p.off : Int) == (q.off : Int) && ((p.len : Int) == (q.len : Int) && ((p.size : Int) == (q.size : Int) && ((p.mode : Int) == (q.mode : Int) && ((p.deny : Int) == (q.deny : Int) && ((p.handle : Int) == (q.handle : Int) && (p.path.toList == q.path.toList && (p.other.toList == q.other.toList && (p.data.toList == q.data.toList))))))))))))))))))))) = decide (p = q) := by
  rw [Bool.eq_iff_iff]
  cases p
  cases q
  simp only [Bool.and_eq_true, beq_iff_eq, decide_eq_true_iff, Pk.mk.injEq, list_eq, Int.natCast_inj]
theorem run_eq (w : World) (p q : Pk) : (binOp .eql 27 (.agg #[.int .i64 p.kind, .int .i64 p.fr, .int .i64 p.to, .int .u32 (p.life : Int), .int .u32 (p.seq : Int), .int .u32 (p.asked : Int), .int .u32 (p.boot : Int), .int .i64 p.code, .int .i64 p.err, .int .u32 (p.file : Int), .int .u32 (p.epoch : Int), .int .u32 (p.off : Int), .int .u32 (p.len : Int), .int .u32 (p.size : Int), .int .u32 (p.mode : Int), .int .u32 (p.deny : Int), .int .u32 (p.handle : Int), .string p.path, .string p.other, .string p.data]) (.agg #[.int .i64 q.kind, .int .i64 q.fr, .int .i64 q.to, .int .u32 (q.life : Int), .int .u32 (q.seq : Int), .int .u32 (q.asked : Int), .int .u32 (q.boot : Int), .int .i64 q.code, .int .i64 q.err, .int .u32 (q.file : Int), .int .u32 (q.epoch : Int), .int .u32 (q.off : Int), .int .u32 (q.len : Int), .int .u32 (q.size : Int), .int .u32 (q.mode : Int), .int .u32 (q.deny : Int), .int .u32 (q.handle : Int), .string q.path, .string q.other, .string q.data])).run Tryd.prog w = .ok (.bool (decide (p = q))) w := by
  rw [run_eql_struct, show (10000 : Nat) = 9997 + 3 from rfl, eq_pk, eq_bool]
  rfl
theorem pk_guard : Tryd.prog.eqGuardType Tryd.prog.depth 27 = false := by kernel_rfl
theorem execOp_eq {o : Oper} {a : Act} {w : World} {t2 : TypeId} {x y : Operand} {p q : Pk} (ho : o.op = .binOp .eql 27 x y t2) (hx : a.eval x = .agg #[.int .i64 p.kind, .int .i64 p.fr, .int .i64 p.to, .int .u32 (p.life : Int), .int .u32 (p.seq : Int), .int .u32 (p.asked : Int), .int .u32 (p.boot : Int), .int .i64 p.code, .int .i64 p.err, .int .u32 (p.file : Int), .int .u32 (p.epoch : Int), .int .u32 (p.off : Int), .int .u32 (p.len : Int), .int .u32 (p.size : Int), .int .u32 (p.mode : Int), .int .u32 (p.deny : Int), .int .u32 (p.handle : Int), .string p.path, .string p.other, .string p.data]) (hy : a.eval y = .agg #[.int .i64 q.kind, .int .i64 q.fr, .int .i64 q.to, .int .u32 (q.life : Int), .int .u32 (q.seq : Int), .int .u32 (q.asked : Int), .int .u32 (q.boot : Int), .int .i64 q.code, .int .i64 q.err, .int .u32 (q.file : Int), .int .u32 (q.epoch : Int), .int .u32 (q.off : Int), .int .u32 (q.len : Int), .int .u32 (q.size : Int), .int .u32 (q.mode : Int), .int .u32 (q.deny : Int), .int .u32 (q.handle : Int), .string q.path, .string q.other, .string q.data]) : (execOp a.eval o).run Tryd.prog w = .ok (.value (.bool (decide (p = q)))) w := by
  unfold execOp
  simp only [ho, hx, hy]
  rw [Sem.run_bind, Sem.run_bind, run_eqGuard_agg w .eql 27 x y _ _ pk_guard, Result.andThen_ok, run_eq]
  rfl
theorem run_neq (w : World) (p q : Pk) : (binOp .neq 27 (.agg #[.int .i64 p.kind, .int .i64 p.fr, .int .i64 p.to, .int .u32 (p.life : Int), .int .u32 (p.seq : Int), .int .u32 (p.asked : Int), .int .u32 (p.boot : Int), .int .i64 p.code, .int .i64 p.err, .int .u32 (p.file : Int), .int .u32 (p.epoch : Int), .int .u32 (p.off : Int), .int .u32 (p.len : Int), .int .u32 (p.size : Int), .int .u32 (p.mode : Int), .int .u32 (p.deny : Int), .int .u32 (p.handle : Int), .string p.path, .string p.other, .string p.data]) (.agg #[.int .i64 q.kind, .int .i64 q.fr, .int .i64 q.to, .int .u32 (q.life : Int), .int .u32 (q.seq : Int), .int .u32 (q.asked : Int), .int .u32 (q.boot : Int), .int .i64 q.code, .int .i64 q.err, .int .u32 (q.file : Int), .int .u32 (q.epoch : Int), .int .u32 (q.off : Int), .int .u32 (q.len : Int), .int .u32 (q.size : Int), .int .u32 (q.mode : Int), .int .u32 (q.deny : Int), .int .u32 (q.handle : Int), .string q.path, .string q.other, .string q.data])).run Tryd.prog w = .ok (.bool (!decide (p = q))) w := by
  rw [run_neq_struct, show (10000 : Nat) = 9997 + 3 from rfl, eq_pk, eq_bool]
  rfl
theorem execOp_neq {o : Oper} {a : Act} {w : World} {t2 : TypeId} {x y : Operand} {p q : Pk} (ho : o.op = .binOp .neq 27 x y t2) (hx : a.eval x = .agg #[.int .i64 p.kind, .int .i64 p.fr, .int .i64 p.to, .int .u32 (p.life : Int), .int .u32 (p.seq : Int), .int .u32 (p.asked : Int), .int .u32 (p.boot : Int), .int .i64 p.code, .int .i64 p.err, .int .u32 (p.file : Int), .int .u32 (p.epoch : Int), .int .u32 (p.off : Int), .int .u32 (p.len : Int), .int .u32 (p.size : Int), .int .u32 (p.mode : Int), .int .u32 (p.deny : Int), .int .u32 (p.handle : Int), .string p.path, .string p.other, .string p.data]) (hy : a.eval y = .agg #[.int .i64 q.kind, .int .i64 q.fr, .int .i64 q.to, .int .u32 (q.life : Int), .int .u32 (q.seq : Int), .int .u32 (q.asked : Int), .int .u32 (q.boot : Int), .int .i64 q.code, .int .i64 q.err, .int .u32 (q.file : Int), .int .u32 (q.epoch : Int), .int .u32 (q.off : Int), .int .u32 (q.len : Int), .int .u32 (q.size : Int), .int .u32 (q.mode : Int), .int .u32 (q.deny : Int), .int .u32 (q.handle : Int), .string q.path, .string q.other, .string q.data]) : (execOp a.eval o).run Tryd.prog w = .ok (.value (.bool (!decide (p = q)))) w := by
  unfold execOp
  simp only [ho, hx, hy]
  rw [Sem.run_bind, Sem.run_bind, run_eqGuard_agg w .neq 27 x y _ _ pk_guard, Result.andThen_ok, run_neq]
  rfl
end Go.Proofs.YtiedmkgdhfkcoaaDoor.Pkt
