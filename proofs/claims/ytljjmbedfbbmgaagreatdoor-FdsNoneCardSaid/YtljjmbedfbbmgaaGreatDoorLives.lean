/- gatehouselaw16.lives answers true, whatever the world, and leaves all that was there. -/
import Derived.Test.YtljjmbedfbbmgaaGreatDoorLa0
import Derived.Test.YtljjmbedfbbmgaaGreatDoorLa1
import Derived.Test.YtljjmbedfbbmgaaGreatDoorLa2
import Derived.Test.YtljjmbedfbbmgaaGreatDoorLa3
import Derived.Test.YtljjmbedfbbmgaaGreatDoorLa4
import Derived.Test.YtljjmbedfbbmgaaGreatDoorLa5
import Derived.Test.YtljjmbedfbbmgaaGreatDoorLa6
import Derived.Test.YtljjmbedfbbmgaaGreatDoorLa7
import Derived.Test.YtljjmbedfbbmgaaGreatDoorLa8
namespace Go.Ev
open Go Go.Proofs
theorem ends8 : ∃ h', Ends Tryz.prog E0 A8.m (.bool true) h' := by
  have h := pc8
  unfold isT at h
  split at h
  · rename_i h' hr
    exact ⟨h', Ends.of_run tis_ok fns_ok sm_ok rc_ok hr⟩
  · cases h
theorem ends0 : ∃ h', Ends Tryz.prog E0 M00 (.bool true) h' := by
  obtain ⟨h', h8⟩ := ends8
  have h7 := Ends.of_piece tis_ok fns_ok sm_ok rc_ok pc7 h8
  have h6 := Ends.of_piece tis_ok fns_ok sm_ok rc_ok pc6 h7
  have h5 := Ends.of_piece tis_ok fns_ok sm_ok rc_ok pc5 h6
  have h4 := Ends.of_piece tis_ok fns_ok sm_ok rc_ok pc4 h5
  have h3 := Ends.of_piece tis_ok fns_ok sm_ok rc_ok pc3 h4
  have h2 := Ends.of_piece tis_ok fns_ok sm_ok rc_ok pc2 h3
  have h1 := Ends.of_piece tis_ok fns_ok sm_ok rc_ok pc1 h2
  exact ⟨h', Ends.of_piece tis_ok fns_ok sm_ok rc_ok pc0 h1⟩
theorem enter0 : enter E0 4 [] = some F00 := by kernel_rfl
theorem lives_alone : Alone Tryz.prog 4 (.bool true) := by
  obtain ⟨h', h0⟩ := ends0
  exact Alone.of fns_ok (fun _ => rfl) enter0 h0
end Go.Ev
