/- The end of the run of FdsNone, evaluated. -/
import Derived.Test.YtljjmbedfbbmgaaGreatDoorEnv2
namespace Go.Ev
open Go Go.Proofs
theorem q8 : isT (runF E1 rc1 1119 D2.m) = true := by kernel_rfl
end Go.Ev
