/- A piece of the run of gatehouselaw16.lives, evaluated. -/
import Derived.Test.YtljjmbedfbbmgaaGreatDoorSts
namespace Go.Ev
open Go Go.Proofs
theorem pc4 : piece E0 rc0 652 A4.m A5 = (true, A5.cur.todo :: tdsL A5.stk) := by kernel_rfl
end Go.Ev
