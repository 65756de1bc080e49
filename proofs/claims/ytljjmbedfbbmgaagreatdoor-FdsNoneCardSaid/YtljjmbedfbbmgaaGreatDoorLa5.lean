/- A piece of the run of gatehouselaw16.lives, evaluated. -/
import Derived.Test.YtljjmbedfbbmgaaGreatDoorSts
namespace Go.Ev
open Go Go.Proofs
theorem pc5 : piece E0 rc0 343 A5.m A6 = (true, A6.cur.todo :: tdsL A6.stk) := by kernel_rfl
end Go.Ev
