/- A piece of the run of gatehouselaw16.lives, evaluated. -/
import Derived.Test.YtljjmbedfbbmgaaGreatDoorSts
namespace Go.Ev
open Go Go.Proofs
theorem pc6 : piece E0 rc0 223 A6.m A7 = (true, A7.cur.todo :: tdsL A7.stk) := by kernel_rfl
end Go.Ev
