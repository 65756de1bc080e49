/- A piece of the run of gatehouselaw16.lives, evaluated. -/
import Derived.Test.YtljjmbedfbbmgaaGreatDoorSts
namespace Go.Ev
open Go Go.Proofs
theorem pc3 : piece E0 rc0 621 A3.m A4 = (true, A4.cur.todo :: tdsL A4.stk) := by kernel_rfl
end Go.Ev
