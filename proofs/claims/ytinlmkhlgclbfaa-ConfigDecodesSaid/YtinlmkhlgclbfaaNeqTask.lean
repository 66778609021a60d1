/-
  NeqTask: '!=' between two values of api.Task. (Printed by wip/tools/neq.py.)
-/
import Derived.Test.YtinlmkhlgclbfaaProg
import Derived.Test.YtinlmkhlgclbfaaData
import Derived.Laws.StructEq
namespace Go.Proofs.Ytinlmkhlgclbfaa
open Go.RowKit
set_option maxRecDepth 100000
set_option maxHeartbeats 400000

theorem neqTask (x y : TTask) (w : World) : (binOp .neq 108 (.agg #[.int .i64 x.dom, .int .i64 x.period, .int .i64 x.budget, .int .i64 x.dead]) (.agg #[.int .i64 y.dom, .int .i64 y.period, .int .i64 y.budget, .int .i64 y.dead])).run Try.prog w = .ok (.bool (diffT x y)) w := by
  have hf := congrArg (fun u : Option TypeDesc => match u with | some (.struct fs) => fs | _ => #[]) Try.underlying108
  change Try.prog.fieldsOf 108 = _ at hf
  simp only at hf
  rw [run_neq_struct, run_equalIn_agg _ _ _ _ _ (by rw [hf]; exact Try.underlying108) (by kernel_rfl), hf]
  have u1 := Try.underlying3
  have u2 := Try.underlying4
  have hd : diffT x y = !(x.dom == y.dom && x.period == y.period && x.budget == y.budget && x.dead == y.dead) := by
    unfold diffT
    congr 1
    rw [Bool.eq_iff_iff]
    cases x; cases y; simp [and_assoc]
  rw [hd]
  clear hd
  simp [Op.eqFields, go_sem, *]
  (repeat' split) <;> simp_all
theorem guardTask : Try.prog.eqGuardType Try.prog.depth 108 = false := by kernel_rfl
end Go.Proofs.Ytinlmkhlgclbfaa
