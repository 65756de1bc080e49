/- A long piece of the run of FdsNone, evaluated. -/
import Derived.Test.YtljjmbedfbbmgaaGreatDoorEnv2
namespace Go.Ev
open Go Go.Proofs
theorem q7_0 : piece E1 rc1 5991 D0.m D1 = (true, D1.cur.todo :: tdsL D1.stk) := by kernel_rfl
end Go.Ev
