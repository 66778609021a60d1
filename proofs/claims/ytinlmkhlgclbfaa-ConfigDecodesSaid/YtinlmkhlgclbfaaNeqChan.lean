/-
  NeqChan: '!=' between two values of api.Channel. (Printed by wip/tools/neq.py.)
-/
import Derived.Test.YtinlmkhlgclbfaaProg
import Derived.Test.YtinlmkhlgclbfaaData
import Derived.Laws.StructEq
namespace Go.Proofs.Ytinlmkhlgclbfaa
open Go.RowKit
set_option maxRecDepth 100000
set_option maxHeartbeats 400000

theorem neqChan (x y : TChan) (w : World) : (binOp .neq 123 (.agg #[.int .i64 x.src, .int .i64 x.dst, .int .i64 x.size]) (.agg #[.int .i64 y.src, .int .i64 y.dst, .int .i64 y.size])).run Try.prog w = .ok (.bool (diffT x y)) w := by
  have hf := congrArg (fun u : Option TypeDesc => match u with | some (.struct fs) => fs | _ => #[]) Try.underlying123
  change Try.prog.fieldsOf 123 = _ at hf
  simp only at hf
  rw [run_neq_struct, run_equalIn_agg _ _ _ _ _ (by rw [hf]; exact Try.underlying123) (by kernel_rfl), hf]
  have u1 := Try.underlying3
  have u2 := Try.underlying4
  have hd : diffT x y = !(x.src == y.src && x.dst == y.dst && x.size == y.size) := by
    unfold diffT
    congr 1
    rw [Bool.eq_iff_iff]
    cases x; cases y; simp [and_assoc]
  rw [hd]
  clear hd
  simp [Op.eqFields, go_sem, *]
  (repeat' split) <;> simp_all
theorem guardChan : Try.prog.eqGuardType Try.prog.depth 123 = false := by kernel_rfl
end Go.Proofs.Ytinlmkhlgclbfaa
