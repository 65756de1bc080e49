/- A piece of the run of gatehouselaw16.lives, evaluated. -/
import Derived.Test.YtljjmbedfbbmgaaGreatDoorSts
namespace Go.Ev
open Go Go.Proofs
noncomputable def isT (r : Option (V × Hp)) : Bool := match r with | some (.bool true, _) => true | _ => false
theorem pc8 : isT (runF E0 rc0 299 A8.m) = true := by kernel_rfl
end Go.Ev
