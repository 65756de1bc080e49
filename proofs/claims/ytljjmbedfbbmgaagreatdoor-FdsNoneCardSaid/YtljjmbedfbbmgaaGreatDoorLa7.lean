/- A piece of the run of gatehouselaw16.lives, evaluated. -/
import Derived.Test.YtljjmbedfbbmgaaGreatDoorSts
namespace Go.Ev
open Go Go.Proofs
theorem pc7 : piece E0 rc0 12 A7.m A8 = (true, A8.cur.todo :: tdsL A8.stk) := by kernel_rfl
end Go.Ev
