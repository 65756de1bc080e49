/- A piece of the run of gatehouselaw16.lives, evaluated. -/
import Derived.Test.YtljjmbedfbbmgaaGreatDoorSts
namespace Go.Ev
open Go Go.Proofs
theorem pc2 : piece E0 rc0 530 A2.m A3 = (true, A3.cur.todo :: tdsL A3.stk) := by kernel_rfl
end Go.Ev
