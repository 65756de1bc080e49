/- A long piece of the run of FdsNone, evaluated. -/
import Derived.Test.YtljjmbedfbbmgaaGreatDoorEnv2
namespace Go.Ev
open Go Go.Proofs
theorem q7_1 : piece E1 rc1 4847 D1.m D2 = (true, D2.cur.todo :: tdsL D2.stk) := by kernel_rfl
end Go.Ev
