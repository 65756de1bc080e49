/- The run of FdsNone ends with true, whatever the op's numbers are. -/
import Derived.Test.YtljjmbedfbbmgaaGreatDoorQa0
import Derived.Test.YtljjmbedfbbmgaaGreatDoorQa1
import Derived.Test.YtljjmbedfbbmgaaGreatDoorQa2
import Derived.Test.YtljjmbedfbbmgaaGreatDoorQa3
namespace Go.Ev
open Go Go.Proofs
abbrev Ev1 (a : ML) : Prop := EndsA Tryz.prog E1 a.m (.bool true)
theorem e8 : Ev1 D2 := by
  have h := q8
  unfold isT at h
  split at h
  · rename_i h' hr
    exact EndsA.of_run tis_ok1 fns_ok1 sm_ok1 rc_ok1 hr
  · cases h
theorem e7 : Ev1 D0 := EndsA.of_piece tis_ok1 fns_ok1 sm_ok1 rc_ok1 q7_0 (EndsA.of_piece tis_ok1 fns_ok1 sm_ok1 rc_ok1 q7_1 e8)
theorem e6_0 : Ev1 (C2_0.with 10 (.int .i64 (.ofNat 0))) := EndsA.of_piece tis_ok1 fns_ok1 sm_ok1 rc_ok1 q6_0 e7
theorem e5_0 : Ev1 B2_0 := by
  refine EndsA.revealC (i := 2) (b := 18) (k := 2) rfl rfl (fun n => ?_)
  refine EndsA.of_piece1 tis_ok1 fns_ok1 sm_ok1 rc_ok1 (q5_0 n) ?_
  obtain ⟨j, hj, e⟩ := mod_cases n 1 (by decide)
  rw [e]
  match j, hj with
  | 0, _ => exact e6_0
theorem e3_0 : Ev1 B1_0 := by
  refine EndsA.revealT (i := 3) (t := 5) rfl (fun n => ?_)
  refine EndsA.of_piece1 tis_ok1 fns_ok1 sm_ok1 rc_ok1 (q3_0 n) ?_
  obtain ⟨j, hj, e⟩ := mod_cases n 5 (by decide)
  rw [e]
  match j, hj with
  | 0, _ => exact EndsA.of_piece tis_ok1 fns_ok1 sm_ok1 rc_ok1 q4_0_0 e5_0
  | 1, _ => exact EndsA.of_piece tis_ok1 fns_ok1 sm_ok1 rc_ok1 q4_0_1 e5_0
  | 2, _ => exact EndsA.of_piece tis_ok1 fns_ok1 sm_ok1 rc_ok1 q4_0_2 e5_0
  | 3, _ => exact EndsA.of_piece tis_ok1 fns_ok1 sm_ok1 rc_ok1 q4_0_3 e5_0
  | 4, _ => exact EndsA.of_piece tis_ok1 fns_ok1 sm_ok1 rc_ok1 q4_0_4 e5_0
theorem e6_1 : Ev1 (C2_1.with 10 (.int .i64 (.ofNat 0))) := EndsA.of_piece tis_ok1 fns_ok1 sm_ok1 rc_ok1 q6_1 e7
theorem e5_1 : Ev1 B2_1 := by
  refine EndsA.revealC (i := 2) (b := 18) (k := 2) rfl rfl (fun n => ?_)
  refine EndsA.of_piece1 tis_ok1 fns_ok1 sm_ok1 rc_ok1 (q5_1 n) ?_
  obtain ⟨j, hj, e⟩ := mod_cases n 1 (by decide)
  rw [e]
  match j, hj with
  | 0, _ => exact e6_1
theorem e3_1 : Ev1 B1_1 := by
  refine EndsA.revealT (i := 3) (t := 5) rfl (fun n => ?_)
  refine EndsA.of_piece1 tis_ok1 fns_ok1 sm_ok1 rc_ok1 (q3_1 n) ?_
  obtain ⟨j, hj, e⟩ := mod_cases n 5 (by decide)
  rw [e]
  match j, hj with
  | 0, _ => exact EndsA.of_piece tis_ok1 fns_ok1 sm_ok1 rc_ok1 q4_1_0 e5_1
  | 1, _ => exact EndsA.of_piece tis_ok1 fns_ok1 sm_ok1 rc_ok1 q4_1_1 e5_1
  | 2, _ => exact EndsA.of_piece tis_ok1 fns_ok1 sm_ok1 rc_ok1 q4_1_2 e5_1
  | 3, _ => exact EndsA.of_piece tis_ok1 fns_ok1 sm_ok1 rc_ok1 q4_1_3 e5_1
  | 4, _ => exact EndsA.of_piece tis_ok1 fns_ok1 sm_ok1 rc_ok1 q4_1_4 e5_1
theorem e6_2 : Ev1 (C2_2.with 10 (.int .i64 (.ofNat 0))) := EndsA.of_piece tis_ok1 fns_ok1 sm_ok1 rc_ok1 q6_2 e7
theorem e5_2 : Ev1 B2_2 := by
  refine EndsA.revealC (i := 2) (b := 18) (k := 2) rfl rfl (fun n => ?_)
  refine EndsA.of_piece1 tis_ok1 fns_ok1 sm_ok1 rc_ok1 (q5_2 n) ?_
  obtain ⟨j, hj, e⟩ := mod_cases n 1 (by decide)
  rw [e]
  match j, hj with
  | 0, _ => exact e6_2
theorem e3_2 : Ev1 B1_2 := by
  refine EndsA.revealT (i := 3) (t := 5) rfl (fun n => ?_)
  refine EndsA.of_piece1 tis_ok1 fns_ok1 sm_ok1 rc_ok1 (q3_2 n) ?_
  obtain ⟨j, hj, e⟩ := mod_cases n 5 (by decide)
  rw [e]
  match j, hj with
  | 0, _ => exact EndsA.of_piece tis_ok1 fns_ok1 sm_ok1 rc_ok1 q4_2_0 e5_2
  | 1, _ => exact EndsA.of_piece tis_ok1 fns_ok1 sm_ok1 rc_ok1 q4_2_1 e5_2
  | 2, _ => exact EndsA.of_piece tis_ok1 fns_ok1 sm_ok1 rc_ok1 q4_2_2 e5_2
  | 3, _ => exact EndsA.of_piece tis_ok1 fns_ok1 sm_ok1 rc_ok1 q4_2_3 e5_2
  | 4, _ => exact EndsA.of_piece tis_ok1 fns_ok1 sm_ok1 rc_ok1 q4_2_4 e5_2
theorem e6_3 : Ev1 (C2_3.with 10 (.int .i64 (.ofNat 0))) := EndsA.of_piece tis_ok1 fns_ok1 sm_ok1 rc_ok1 q6_3 e7
theorem e5_3 : Ev1 B2_3 := by
  refine EndsA.revealC (i := 2) (b := 18) (k := 2) rfl rfl (fun n => ?_)
  refine EndsA.of_piece1 tis_ok1 fns_ok1 sm_ok1 rc_ok1 (q5_3 n) ?_
  obtain ⟨j, hj, e⟩ := mod_cases n 1 (by decide)
  rw [e]
  match j, hj with
  | 0, _ => exact e6_3
theorem e3_3 : Ev1 B1_3 := by
  refine EndsA.revealT (i := 3) (t := 5) rfl (fun n => ?_)
  refine EndsA.of_piece1 tis_ok1 fns_ok1 sm_ok1 rc_ok1 (q3_3 n) ?_
  obtain ⟨j, hj, e⟩ := mod_cases n 5 (by decide)
  rw [e]
  match j, hj with
  | 0, _ => exact EndsA.of_piece tis_ok1 fns_ok1 sm_ok1 rc_ok1 q4_3_0 e5_3
  | 1, _ => exact EndsA.of_piece tis_ok1 fns_ok1 sm_ok1 rc_ok1 q4_3_1 e5_3
  | 2, _ => exact EndsA.of_piece tis_ok1 fns_ok1 sm_ok1 rc_ok1 q4_3_2 e5_3
  | 3, _ => exact EndsA.of_piece tis_ok1 fns_ok1 sm_ok1 rc_ok1 q4_3_3 e5_3
  | 4, _ => exact EndsA.of_piece tis_ok1 fns_ok1 sm_ok1 rc_ok1 q4_3_4 e5_3
theorem e6_4 : Ev1 (C2_4.with 10 (.int .i64 (.ofNat 0))) := EndsA.of_piece tis_ok1 fns_ok1 sm_ok1 rc_ok1 q6_4 e7
theorem e5_4 : Ev1 B2_4 := by
  refine EndsA.revealC (i := 2) (b := 18) (k := 2) rfl rfl (fun n => ?_)
  refine EndsA.of_piece1 tis_ok1 fns_ok1 sm_ok1 rc_ok1 (q5_4 n) ?_
  obtain ⟨j, hj, e⟩ := mod_cases n 1 (by decide)
  rw [e]
  match j, hj with
  | 0, _ => exact e6_4
theorem e3_4 : Ev1 B1_4 := by
  refine EndsA.revealT (i := 3) (t := 5) rfl (fun n => ?_)
  refine EndsA.of_piece1 tis_ok1 fns_ok1 sm_ok1 rc_ok1 (q3_4 n) ?_
  obtain ⟨j, hj, e⟩ := mod_cases n 5 (by decide)
  rw [e]
  match j, hj with
  | 0, _ => exact EndsA.of_piece tis_ok1 fns_ok1 sm_ok1 rc_ok1 q4_4_0 e5_4
  | 1, _ => exact EndsA.of_piece tis_ok1 fns_ok1 sm_ok1 rc_ok1 q4_4_1 e5_4
  | 2, _ => exact EndsA.of_piece tis_ok1 fns_ok1 sm_ok1 rc_ok1 q4_4_2 e5_4
  | 3, _ => exact EndsA.of_piece tis_ok1 fns_ok1 sm_ok1 rc_ok1 q4_4_3 e5_4
  | 4, _ => exact EndsA.of_piece tis_ok1 fns_ok1 sm_ok1 rc_ok1 q4_4_4 e5_4
theorem e6_5 : Ev1 (C2_5.with 10 (.int .i64 (.ofNat 0))) := EndsA.of_piece tis_ok1 fns_ok1 sm_ok1 rc_ok1 q6_5 e7
theorem e5_5 : Ev1 B2_5 := by
  refine EndsA.revealC (i := 2) (b := 18) (k := 2) rfl rfl (fun n => ?_)
  refine EndsA.of_piece1 tis_ok1 fns_ok1 sm_ok1 rc_ok1 (q5_5 n) ?_
  obtain ⟨j, hj, e⟩ := mod_cases n 1 (by decide)
  rw [e]
  match j, hj with
  | 0, _ => exact e6_5
theorem e3_5 : Ev1 B1_5 := by
  refine EndsA.revealT (i := 3) (t := 5) rfl (fun n => ?_)
  refine EndsA.of_piece1 tis_ok1 fns_ok1 sm_ok1 rc_ok1 (q3_5 n) ?_
  obtain ⟨j, hj, e⟩ := mod_cases n 5 (by decide)
  rw [e]
  match j, hj with
  | 0, _ => exact EndsA.of_piece tis_ok1 fns_ok1 sm_ok1 rc_ok1 q4_5_0 e5_5
  | 1, _ => exact EndsA.of_piece tis_ok1 fns_ok1 sm_ok1 rc_ok1 q4_5_1 e5_5
  | 2, _ => exact EndsA.of_piece tis_ok1 fns_ok1 sm_ok1 rc_ok1 q4_5_2 e5_5
  | 3, _ => exact EndsA.of_piece tis_ok1 fns_ok1 sm_ok1 rc_ok1 q4_5_3 e5_5
  | 4, _ => exact EndsA.of_piece tis_ok1 fns_ok1 sm_ok1 rc_ok1 q4_5_4 e5_5
theorem e6_6 : Ev1 (C2_6.with 10 (.int .i64 (.ofNat 0))) := EndsA.of_piece tis_ok1 fns_ok1 sm_ok1 rc_ok1 q6_6 e7
theorem e5_6 : Ev1 B2_6 := by
  refine EndsA.revealC (i := 2) (b := 18) (k := 2) rfl rfl (fun n => ?_)
  refine EndsA.of_piece1 tis_ok1 fns_ok1 sm_ok1 rc_ok1 (q5_6 n) ?_
  obtain ⟨j, hj, e⟩ := mod_cases n 1 (by decide)
  rw [e]
  match j, hj with
  | 0, _ => exact e6_6
theorem e3_6 : Ev1 B1_6 := by
  refine EndsA.revealT (i := 3) (t := 5) rfl (fun n => ?_)
  refine EndsA.of_piece1 tis_ok1 fns_ok1 sm_ok1 rc_ok1 (q3_6 n) ?_
  obtain ⟨j, hj, e⟩ := mod_cases n 5 (by decide)
  rw [e]
  match j, hj with
  | 0, _ => exact EndsA.of_piece tis_ok1 fns_ok1 sm_ok1 rc_ok1 q4_6_0 e5_6
  | 1, _ => exact EndsA.of_piece tis_ok1 fns_ok1 sm_ok1 rc_ok1 q4_6_1 e5_6
  | 2, _ => exact EndsA.of_piece tis_ok1 fns_ok1 sm_ok1 rc_ok1 q4_6_2 e5_6
  | 3, _ => exact EndsA.of_piece tis_ok1 fns_ok1 sm_ok1 rc_ok1 q4_6_3 e5_6
  | 4, _ => exact EndsA.of_piece tis_ok1 fns_ok1 sm_ok1 rc_ok1 q4_6_4 e5_6
theorem e6_7 : Ev1 (C2_7.with 10 (.int .i64 (.ofNat 0))) := EndsA.of_piece tis_ok1 fns_ok1 sm_ok1 rc_ok1 q6_7 e7
theorem e5_7 : Ev1 B2_7 := by
  refine EndsA.revealC (i := 2) (b := 18) (k := 2) rfl rfl (fun n => ?_)
  refine EndsA.of_piece1 tis_ok1 fns_ok1 sm_ok1 rc_ok1 (q5_7 n) ?_
  obtain ⟨j, hj, e⟩ := mod_cases n 1 (by decide)
  rw [e]
  match j, hj with
  | 0, _ => exact e6_7
theorem e3_7 : Ev1 B1_7 := by
  refine EndsA.revealT (i := 3) (t := 5) rfl (fun n => ?_)
  refine EndsA.of_piece1 tis_ok1 fns_ok1 sm_ok1 rc_ok1 (q3_7 n) ?_
  obtain ⟨j, hj, e⟩ := mod_cases n 5 (by decide)
  rw [e]
  match j, hj with
  | 0, _ => exact EndsA.of_piece tis_ok1 fns_ok1 sm_ok1 rc_ok1 q4_7_0 e5_7
  | 1, _ => exact EndsA.of_piece tis_ok1 fns_ok1 sm_ok1 rc_ok1 q4_7_1 e5_7
  | 2, _ => exact EndsA.of_piece tis_ok1 fns_ok1 sm_ok1 rc_ok1 q4_7_2 e5_7
  | 3, _ => exact EndsA.of_piece tis_ok1 fns_ok1 sm_ok1 rc_ok1 q4_7_3 e5_7
  | 4, _ => exact EndsA.of_piece tis_ok1 fns_ok1 sm_ok1 rc_ok1 q4_7_4 e5_7
theorem e6_8 : Ev1 (C2_8.with 10 (.int .i64 (.ofNat 0))) := EndsA.of_piece tis_ok1 fns_ok1 sm_ok1 rc_ok1 q6_8 e7
theorem e5_8 : Ev1 B2_8 := by
  refine EndsA.revealC (i := 2) (b := 18) (k := 2) rfl rfl (fun n => ?_)
  refine EndsA.of_piece1 tis_ok1 fns_ok1 sm_ok1 rc_ok1 (q5_8 n) ?_
  obtain ⟨j, hj, e⟩ := mod_cases n 1 (by decide)
  rw [e]
  match j, hj with
  | 0, _ => exact e6_8
theorem e3_8 : Ev1 B1_8 := by
  refine EndsA.revealT (i := 3) (t := 5) rfl (fun n => ?_)
  refine EndsA.of_piece1 tis_ok1 fns_ok1 sm_ok1 rc_ok1 (q3_8 n) ?_
  obtain ⟨j, hj, e⟩ := mod_cases n 5 (by decide)
  rw [e]
  match j, hj with
  | 0, _ => exact EndsA.of_piece tis_ok1 fns_ok1 sm_ok1 rc_ok1 q4_8_0 e5_8
  | 1, _ => exact EndsA.of_piece tis_ok1 fns_ok1 sm_ok1 rc_ok1 q4_8_1 e5_8
  | 2, _ => exact EndsA.of_piece tis_ok1 fns_ok1 sm_ok1 rc_ok1 q4_8_2 e5_8
  | 3, _ => exact EndsA.of_piece tis_ok1 fns_ok1 sm_ok1 rc_ok1 q4_8_3 e5_8
  | 4, _ => exact EndsA.of_piece tis_ok1 fns_ok1 sm_ok1 rc_ok1 q4_8_4 e5_8
theorem e1 : Ev1 B0 := by
  refine EndsA.revealT (i := 1) (t := 28) rfl (fun n => ?_)
  refine EndsA.of_piece1 tis_ok1 fns_ok1 sm_ok1 rc_ok1 (q1 n) ?_
  obtain ⟨j, hj, e⟩ := mod_cases n 9 (by decide)
  rw [e]
  match j, hj with
  | 0, _ => exact EndsA.of_piece tis_ok1 fns_ok1 sm_ok1 rc_ok1 q2_0 e3_0
  | 1, _ => exact EndsA.of_piece tis_ok1 fns_ok1 sm_ok1 rc_ok1 q2_1 e3_1
  | 2, _ => exact EndsA.of_piece tis_ok1 fns_ok1 sm_ok1 rc_ok1 q2_2 e3_2
  | 3, _ => exact EndsA.of_piece tis_ok1 fns_ok1 sm_ok1 rc_ok1 q2_3 e3_3
  | 4, _ => exact EndsA.of_piece tis_ok1 fns_ok1 sm_ok1 rc_ok1 q2_4 e3_4
  | 5, _ => exact EndsA.of_piece tis_ok1 fns_ok1 sm_ok1 rc_ok1 q2_5 e3_5
  | 6, _ => exact EndsA.of_piece tis_ok1 fns_ok1 sm_ok1 rc_ok1 q2_6 e3_6
  | 7, _ => exact EndsA.of_piece tis_ok1 fns_ok1 sm_ok1 rc_ok1 q2_7 e3_7
  | 8, _ => exact EndsA.of_piece tis_ok1 fns_ok1 sm_ok1 rc_ok1 q2_8 e3_8
theorem e0 : Ev1 S0 := EndsA.of_piece tis_ok1 fns_ok1 sm_ok1 rc_ok1 q0 e1
end Go.Ev
