/-
  NeqSlot: '!=' between two values of api.Slot. (Printed by wip/tools/neq.py.)
-/
import Derived.Test.YtinlmkhlgclbfaaProg
import Derived.Test.YtinlmkhlgclbfaaData
import Derived.Laws.StructEq
namespace Go.Proofs.Ytinlmkhlgclbfaa
open Go.RowKit
set_option maxRecDepth 100000
set_option maxHeartbeats 400000

theorem neqSlot (x y : TSlot) (w : World) : (binOp .neq 121 (.agg #[.int .i64 x.dom, .int .i64 x.len]) (.agg #[.int .i64 y.dom, .int .i64 y.len])).run Try.prog w = .ok (.bool (diffT x y)) w := by
  have hf := congrArg (fun u : Option TypeDesc => match u with | some (.struct fs) => fs | _ => #[]) Try.underlying121
  change Try.prog.fieldsOf 121 = _ at hf
  simp only at hf
  rw [run_neq_struct, run_equalIn_agg _ _ _ _ _ (by rw [hf]; exact Try.underlying121) (by kernel_rfl), hf]
  have u1 := Try.underlying3
  have u2 := Try.underlying4
  have hd : diffT x y = !(x.dom == y.dom && x.len == y.len) := by
    unfold diffT
    congr 1
    rw [Bool.eq_iff_iff]
    cases x; cases y; simp [and_assoc]
  rw [hd]
  clear hd
  simp [Op.eqFields, go_sem, *]
  (repeat' split) <;> simp_all
theorem guardSlot : Try.prog.eqGuardType Try.prog.depth 121 = false := by kernel_rfl
end Go.Proofs.Ytinlmkhlgclbfaa
