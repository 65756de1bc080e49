/- The short pieces of the run of FdsNone, evaluated. -/
import Derived.Test.YtljjmbedfbbmgaaGreatDoorEnv2
namespace Go.Ev
open Go Go.Proofs
set_option maxRecDepth 100000
theorem q0 : piece E1 rc1 70 S0.m B0 = (true, B0.cur.todo :: tdsL B0.stk) := by kernel_rfl
theorem q1 (n : Int) : piece1 E1 rc1 2 (B0.rv 1 n).m C0 30 = (true, C0.cur.todo :: tdsL C0.stk, some (.int .u64 ((wrapK .u64 n).tmod ((9 : Nat) : Int)))) := by kernel_rfl
theorem q2_0 : piece E1 rc1 27 (C0.with 30 (.int .u64 (.ofNat 0))).m B1_0 = (true, B1_0.cur.todo :: tdsL B1_0.stk) := by kernel_rfl
theorem q3_0 (n : Int) : piece1 E1 rc1 2 (B1_0.rv 3 n).m C1_0 7 = (true, C1_0.cur.todo :: tdsL C1_0.stk, some (.int .u64 ((wrapK .u64 n).tmod ((5 : Nat) : Int)))) := by kernel_rfl
theorem q4_0_0 : piece E1 rc1 29 (C1_0.with 7 (.int .u64 (.ofNat 0))).m B2_0 = (true, B2_0.cur.todo :: tdsL B2_0.stk) := by kernel_rfl
theorem q4_0_1 : piece E1 rc1 30 (C1_0.with 7 (.int .u64 (.ofNat 1))).m B2_0 = (true, B2_0.cur.todo :: tdsL B2_0.stk) := by kernel_rfl
theorem q4_0_2 : piece E1 rc1 30 (C1_0.with 7 (.int .u64 (.ofNat 2))).m B2_0 = (true, B2_0.cur.todo :: tdsL B2_0.stk) := by kernel_rfl
theorem q4_0_3 : piece E1 rc1 30 (C1_0.with 7 (.int .u64 (.ofNat 3))).m B2_0 = (true, B2_0.cur.todo :: tdsL B2_0.stk) := by kernel_rfl
theorem q4_0_4 : piece E1 rc1 30 (C1_0.with 7 (.int .u64 (.ofNat 4))).m B2_0 = (true, B2_0.cur.todo :: tdsL B2_0.stk) := by kernel_rfl
theorem q5_0 (n : Int) : piece1 E1 rc1 1 (B2_0.rv 2 n).m C2_0 10 = (true, C2_0.cur.todo :: tdsL C2_0.stk, some (.int .i64 (wrapK .i64 ((wrapK .u64 n).tmod ((1 : Nat) : Int))))) := by kernel_rfl
theorem q6_0 : piece E1 rc1 103 (C2_0.with 10 (.int .i64 (.ofNat 0))).m D0 = (true, D0.cur.todo :: tdsL D0.stk) := by kernel_rfl
theorem q2_1 : piece E1 rc1 27 (C0.with 30 (.int .u64 (.ofNat 1))).m B1_1 = (true, B1_1.cur.todo :: tdsL B1_1.stk) := by kernel_rfl
theorem q3_1 (n : Int) : piece1 E1 rc1 2 (B1_1.rv 3 n).m C1_1 7 = (true, C1_1.cur.todo :: tdsL C1_1.stk, some (.int .u64 ((wrapK .u64 n).tmod ((5 : Nat) : Int)))) := by kernel_rfl
theorem q4_1_0 : piece E1 rc1 29 (C1_1.with 7 (.int .u64 (.ofNat 0))).m B2_1 = (true, B2_1.cur.todo :: tdsL B2_1.stk) := by kernel_rfl
theorem q4_1_1 : piece E1 rc1 30 (C1_1.with 7 (.int .u64 (.ofNat 1))).m B2_1 = (true, B2_1.cur.todo :: tdsL B2_1.stk) := by kernel_rfl
theorem q4_1_2 : piece E1 rc1 30 (C1_1.with 7 (.int .u64 (.ofNat 2))).m B2_1 = (true, B2_1.cur.todo :: tdsL B2_1.stk) := by kernel_rfl
theorem q4_1_3 : piece E1 rc1 30 (C1_1.with 7 (.int .u64 (.ofNat 3))).m B2_1 = (true, B2_1.cur.todo :: tdsL B2_1.stk) := by kernel_rfl
theorem q4_1_4 : piece E1 rc1 30 (C1_1.with 7 (.int .u64 (.ofNat 4))).m B2_1 = (true, B2_1.cur.todo :: tdsL B2_1.stk) := by kernel_rfl
theorem q5_1 (n : Int) : piece1 E1 rc1 1 (B2_1.rv 2 n).m C2_1 10 = (true, C2_1.cur.todo :: tdsL C2_1.stk, some (.int .i64 (wrapK .i64 ((wrapK .u64 n).tmod ((1 : Nat) : Int))))) := by kernel_rfl
theorem q6_1 : piece E1 rc1 110 (C2_1.with 10 (.int .i64 (.ofNat 0))).m D0 = (true, D0.cur.todo :: tdsL D0.stk) := by kernel_rfl
theorem q2_2 : piece E1 rc1 27 (C0.with 30 (.int .u64 (.ofNat 2))).m B1_2 = (true, B1_2.cur.todo :: tdsL B1_2.stk) := by kernel_rfl
theorem q3_2 (n : Int) : piece1 E1 rc1 2 (B1_2.rv 3 n).m C1_2 7 = (true, C1_2.cur.todo :: tdsL C1_2.stk, some (.int .u64 ((wrapK .u64 n).tmod ((5 : Nat) : Int)))) := by kernel_rfl
theorem q4_2_0 : piece E1 rc1 29 (C1_2.with 7 (.int .u64 (.ofNat 0))).m B2_2 = (true, B2_2.cur.todo :: tdsL B2_2.stk) := by kernel_rfl
theorem q4_2_1 : piece E1 rc1 30 (C1_2.with 7 (.int .u64 (.ofNat 1))).m B2_2 = (true, B2_2.cur.todo :: tdsL B2_2.stk) := by kernel_rfl
theorem q4_2_2 : piece E1 rc1 30 (C1_2.with 7 (.int .u64 (.ofNat 2))).m B2_2 = (true, B2_2.cur.todo :: tdsL B2_2.stk) := by kernel_rfl
theorem q4_2_3 : piece E1 rc1 30 (C1_2.with 7 (.int .u64 (.ofNat 3))).m B2_2 = (true, B2_2.cur.todo :: tdsL B2_2.stk) := by kernel_rfl
theorem q4_2_4 : piece E1 rc1 30 (C1_2.with 7 (.int .u64 (.ofNat 4))).m B2_2 = (true, B2_2.cur.todo :: tdsL B2_2.stk) := by kernel_rfl
theorem q5_2 (n : Int) : piece1 E1 rc1 1 (B2_2.rv 2 n).m C2_2 10 = (true, C2_2.cur.todo :: tdsL C2_2.stk, some (.int .i64 (wrapK .i64 ((wrapK .u64 n).tmod ((1 : Nat) : Int))))) := by kernel_rfl
theorem q6_2 : piece E1 rc1 144 (C2_2.with 10 (.int .i64 (.ofNat 0))).m D0 = (true, D0.cur.todo :: tdsL D0.stk) := by kernel_rfl
theorem q2_3 : piece E1 rc1 27 (C0.with 30 (.int .u64 (.ofNat 3))).m B1_3 = (true, B1_3.cur.todo :: tdsL B1_3.stk) := by kernel_rfl
theorem q3_3 (n : Int) : piece1 E1 rc1 2 (B1_3.rv 3 n).m C1_3 7 = (true, C1_3.cur.todo :: tdsL C1_3.stk, some (.int .u64 ((wrapK .u64 n).tmod ((5 : Nat) : Int)))) := by kernel_rfl
theorem q4_3_0 : piece E1 rc1 29 (C1_3.with 7 (.int .u64 (.ofNat 0))).m B2_3 = (true, B2_3.cur.todo :: tdsL B2_3.stk) := by kernel_rfl
theorem q4_3_1 : piece E1 rc1 30 (C1_3.with 7 (.int .u64 (.ofNat 1))).m B2_3 = (true, B2_3.cur.todo :: tdsL B2_3.stk) := by kernel_rfl
theorem q4_3_2 : piece E1 rc1 30 (C1_3.with 7 (.int .u64 (.ofNat 2))).m B2_3 = (true, B2_3.cur.todo :: tdsL B2_3.stk) := by kernel_rfl
theorem q4_3_3 : piece E1 rc1 30 (C1_3.with 7 (.int .u64 (.ofNat 3))).m B2_3 = (true, B2_3.cur.todo :: tdsL B2_3.stk) := by kernel_rfl
theorem q4_3_4 : piece E1 rc1 30 (C1_3.with 7 (.int .u64 (.ofNat 4))).m B2_3 = (true, B2_3.cur.todo :: tdsL B2_3.stk) := by kernel_rfl
theorem q5_3 (n : Int) : piece1 E1 rc1 1 (B2_3.rv 2 n).m C2_3 10 = (true, C2_3.cur.todo :: tdsL C2_3.stk, some (.int .i64 (wrapK .i64 ((wrapK .u64 n).tmod ((1 : Nat) : Int))))) := by kernel_rfl
theorem q6_3 : piece E1 rc1 157 (C2_3.with 10 (.int .i64 (.ofNat 0))).m D0 = (true, D0.cur.todo :: tdsL D0.stk) := by kernel_rfl
theorem q2_4 : piece E1 rc1 27 (C0.with 30 (.int .u64 (.ofNat 4))).m B1_4 = (true, B1_4.cur.todo :: tdsL B1_4.stk) := by kernel_rfl
theorem q3_4 (n : Int) : piece1 E1 rc1 2 (B1_4.rv 3 n).m C1_4 7 = (true, C1_4.cur.todo :: tdsL C1_4.stk, some (.int .u64 ((wrapK .u64 n).tmod ((5 : Nat) : Int)))) := by kernel_rfl
theorem q4_4_0 : piece E1 rc1 29 (C1_4.with 7 (.int .u64 (.ofNat 0))).m B2_4 = (true, B2_4.cur.todo :: tdsL B2_4.stk) := by kernel_rfl
theorem q4_4_1 : piece E1 rc1 30 (C1_4.with 7 (.int .u64 (.ofNat 1))).m B2_4 = (true, B2_4.cur.todo :: tdsL B2_4.stk) := by kernel_rfl
theorem q4_4_2 : piece E1 rc1 30 (C1_4.with 7 (.int .u64 (.ofNat 2))).m B2_4 = (true, B2_4.cur.todo :: tdsL B2_4.stk) := by kernel_rfl
theorem q4_4_3 : piece E1 rc1 30 (C1_4.with 7 (.int .u64 (.ofNat 3))).m B2_4 = (true, B2_4.cur.todo :: tdsL B2_4.stk) := by kernel_rfl
theorem q4_4_4 : piece E1 rc1 30 (C1_4.with 7 (.int .u64 (.ofNat 4))).m B2_4 = (true, B2_4.cur.todo :: tdsL B2_4.stk) := by kernel_rfl
theorem q5_4 (n : Int) : piece1 E1 rc1 1 (B2_4.rv 2 n).m C2_4 10 = (true, C2_4.cur.todo :: tdsL C2_4.stk, some (.int .i64 (wrapK .i64 ((wrapK .u64 n).tmod ((1 : Nat) : Int))))) := by kernel_rfl
theorem q6_4 : piece E1 rc1 167 (C2_4.with 10 (.int .i64 (.ofNat 0))).m D0 = (true, D0.cur.todo :: tdsL D0.stk) := by kernel_rfl
theorem q2_5 : piece E1 rc1 27 (C0.with 30 (.int .u64 (.ofNat 5))).m B1_5 = (true, B1_5.cur.todo :: tdsL B1_5.stk) := by kernel_rfl
theorem q3_5 (n : Int) : piece1 E1 rc1 2 (B1_5.rv 3 n).m C1_5 7 = (true, C1_5.cur.todo :: tdsL C1_5.stk, some (.int .u64 ((wrapK .u64 n).tmod ((5 : Nat) : Int)))) := by kernel_rfl
theorem q4_5_0 : piece E1 rc1 29 (C1_5.with 7 (.int .u64 (.ofNat 0))).m B2_5 = (true, B2_5.cur.todo :: tdsL B2_5.stk) := by kernel_rfl
theorem q4_5_1 : piece E1 rc1 30 (C1_5.with 7 (.int .u64 (.ofNat 1))).m B2_5 = (true, B2_5.cur.todo :: tdsL B2_5.stk) := by kernel_rfl
theorem q4_5_2 : piece E1 rc1 30 (C1_5.with 7 (.int .u64 (.ofNat 2))).m B2_5 = (true, B2_5.cur.todo :: tdsL B2_5.stk) := by kernel_rfl
theorem q4_5_3 : piece E1 rc1 30 (C1_5.with 7 (.int .u64 (.ofNat 3))).m B2_5 = (true, B2_5.cur.todo :: tdsL B2_5.stk) := by kernel_rfl
theorem q4_5_4 : piece E1 rc1 30 (C1_5.with 7 (.int .u64 (.ofNat 4))).m B2_5 = (true, B2_5.cur.todo :: tdsL B2_5.stk) := by kernel_rfl
theorem q5_5 (n : Int) : piece1 E1 rc1 1 (B2_5.rv 2 n).m C2_5 10 = (true, C2_5.cur.todo :: tdsL C2_5.stk, some (.int .i64 (wrapK .i64 ((wrapK .u64 n).tmod ((1 : Nat) : Int))))) := by kernel_rfl
theorem q6_5 : piece E1 rc1 173 (C2_5.with 10 (.int .i64 (.ofNat 0))).m D0 = (true, D0.cur.todo :: tdsL D0.stk) := by kernel_rfl
theorem q2_6 : piece E1 rc1 27 (C0.with 30 (.int .u64 (.ofNat 6))).m B1_6 = (true, B1_6.cur.todo :: tdsL B1_6.stk) := by kernel_rfl
theorem q3_6 (n : Int) : piece1 E1 rc1 2 (B1_6.rv 3 n).m C1_6 7 = (true, C1_6.cur.todo :: tdsL C1_6.stk, some (.int .u64 ((wrapK .u64 n).tmod ((5 : Nat) : Int)))) := by kernel_rfl
theorem q4_6_0 : piece E1 rc1 29 (C1_6.with 7 (.int .u64 (.ofNat 0))).m B2_6 = (true, B2_6.cur.todo :: tdsL B2_6.stk) := by kernel_rfl
theorem q4_6_1 : piece E1 rc1 30 (C1_6.with 7 (.int .u64 (.ofNat 1))).m B2_6 = (true, B2_6.cur.todo :: tdsL B2_6.stk) := by kernel_rfl
theorem q4_6_2 : piece E1 rc1 30 (C1_6.with 7 (.int .u64 (.ofNat 2))).m B2_6 = (true, B2_6.cur.todo :: tdsL B2_6.stk) := by kernel_rfl
theorem q4_6_3 : piece E1 rc1 30 (C1_6.with 7 (.int .u64 (.ofNat 3))).m B2_6 = (true, B2_6.cur.todo :: tdsL B2_6.stk) := by kernel_rfl
theorem q4_6_4 : piece E1 rc1 30 (C1_6.with 7 (.int .u64 (.ofNat 4))).m B2_6 = (true, B2_6.cur.todo :: tdsL B2_6.stk) := by kernel_rfl
theorem q5_6 (n : Int) : piece1 E1 rc1 1 (B2_6.rv 2 n).m C2_6 10 = (true, C2_6.cur.todo :: tdsL C2_6.stk, some (.int .i64 (wrapK .i64 ((wrapK .u64 n).tmod ((1 : Nat) : Int))))) := by kernel_rfl
theorem q6_6 : piece E1 rc1 172 (C2_6.with 10 (.int .i64 (.ofNat 0))).m D0 = (true, D0.cur.todo :: tdsL D0.stk) := by kernel_rfl
theorem q2_7 : piece E1 rc1 27 (C0.with 30 (.int .u64 (.ofNat 7))).m B1_7 = (true, B1_7.cur.todo :: tdsL B1_7.stk) := by kernel_rfl
theorem q3_7 (n : Int) : piece1 E1 rc1 2 (B1_7.rv 3 n).m C1_7 7 = (true, C1_7.cur.todo :: tdsL C1_7.stk, some (.int .u64 ((wrapK .u64 n).tmod ((5 : Nat) : Int)))) := by kernel_rfl
theorem q4_7_0 : piece E1 rc1 29 (C1_7.with 7 (.int .u64 (.ofNat 0))).m B2_7 = (true, B2_7.cur.todo :: tdsL B2_7.stk) := by kernel_rfl
theorem q4_7_1 : piece E1 rc1 30 (C1_7.with 7 (.int .u64 (.ofNat 1))).m B2_7 = (true, B2_7.cur.todo :: tdsL B2_7.stk) := by kernel_rfl
theorem q4_7_2 : piece E1 rc1 30 (C1_7.with 7 (.int .u64 (.ofNat 2))).m B2_7 = (true, B2_7.cur.todo :: tdsL B2_7.stk) := by kernel_rfl
theorem q4_7_3 : piece E1 rc1 30 (C1_7.with 7 (.int .u64 (.ofNat 3))).m B2_7 = (true, B2_7.cur.todo :: tdsL B2_7.stk) := by kernel_rfl
theorem q4_7_4 : piece E1 rc1 30 (C1_7.with 7 (.int .u64 (.ofNat 4))).m B2_7 = (true, B2_7.cur.todo :: tdsL B2_7.stk) := by kernel_rfl
theorem q5_7 (n : Int) : piece1 E1 rc1 1 (B2_7.rv 2 n).m C2_7 10 = (true, C2_7.cur.todo :: tdsL C2_7.stk, some (.int .i64 (wrapK .i64 ((wrapK .u64 n).tmod ((1 : Nat) : Int))))) := by kernel_rfl
theorem q6_7 : piece E1 rc1 153 (C2_7.with 10 (.int .i64 (.ofNat 0))).m D0 = (true, D0.cur.todo :: tdsL D0.stk) := by kernel_rfl
theorem q2_8 : piece E1 rc1 27 (C0.with 30 (.int .u64 (.ofNat 8))).m B1_8 = (true, B1_8.cur.todo :: tdsL B1_8.stk) := by kernel_rfl
theorem q3_8 (n : Int) : piece1 E1 rc1 2 (B1_8.rv 3 n).m C1_8 7 = (true, C1_8.cur.todo :: tdsL C1_8.stk, some (.int .u64 ((wrapK .u64 n).tmod ((5 : Nat) : Int)))) := by kernel_rfl
theorem q4_8_0 : piece E1 rc1 29 (C1_8.with 7 (.int .u64 (.ofNat 0))).m B2_8 = (true, B2_8.cur.todo :: tdsL B2_8.stk) := by kernel_rfl
theorem q4_8_1 : piece E1 rc1 30 (C1_8.with 7 (.int .u64 (.ofNat 1))).m B2_8 = (true, B2_8.cur.todo :: tdsL B2_8.stk) := by kernel_rfl
theorem q4_8_2 : piece E1 rc1 30 (C1_8.with 7 (.int .u64 (.ofNat 2))).m B2_8 = (true, B2_8.cur.todo :: tdsL B2_8.stk) := by kernel_rfl
theorem q4_8_3 : piece E1 rc1 30 (C1_8.with 7 (.int .u64 (.ofNat 3))).m B2_8 = (true, B2_8.cur.todo :: tdsL B2_8.stk) := by kernel_rfl
theorem q4_8_4 : piece E1 rc1 30 (C1_8.with 7 (.int .u64 (.ofNat 4))).m B2_8 = (true, B2_8.cur.todo :: tdsL B2_8.stk) := by kernel_rfl
theorem q5_8 (n : Int) : piece1 E1 rc1 1 (B2_8.rv 2 n).m C2_8 10 = (true, C2_8.cur.todo :: tdsL C2_8.stk, some (.int .i64 (wrapK .i64 ((wrapK .u64 n).tmod ((1 : Nat) : Int))))) := by kernel_rfl
theorem q6_8 : piece E1 rc1 185 (C2_8.with 10 (.int .i64 (.ofNat 0))).m D0 = (true, D0.cur.todo :: tdsL D0.stk) := by kernel_rfl
end Go.Ev
