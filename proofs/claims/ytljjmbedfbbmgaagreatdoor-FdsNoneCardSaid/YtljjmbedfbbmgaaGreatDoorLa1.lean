/- A piece of the run of gatehouselaw16.lives, evaluated. -/
import Derived.Test.YtljjmbedfbbmgaaGreatDoorSts
namespace Go.Ev
open Go Go.Proofs
theorem pc1 : piece E0 rc0 5843 A1.m A2 = (true, A2.cur.todo :: tdsL A2.stk) := by kernel_rfl
end Go.Ev
