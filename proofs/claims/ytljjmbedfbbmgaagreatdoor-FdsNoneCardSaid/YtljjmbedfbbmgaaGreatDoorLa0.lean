/- A piece of the run of gatehouselaw16.lives, evaluated. -/
import Derived.Test.YtljjmbedfbbmgaaGreatDoorSts
namespace Go.Ev
open Go Go.Proofs
noncomputable def F00 : Fr := ⟨4, Tryz.f4.ntmps, .leaf, [.code (bodyC Tryz.f4)], [], none⟩
noncomputable def M00 : M := ⟨F00, [], ⟨0, .leaf⟩⟩
theorem pc0 : piece E0 rc0 5829 M00 A1 = (true, A1.cur.todo :: tdsL A1.stk) := by kernel_rfl
end Go.Ev
