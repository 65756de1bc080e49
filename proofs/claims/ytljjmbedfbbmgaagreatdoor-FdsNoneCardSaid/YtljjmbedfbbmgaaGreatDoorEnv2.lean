/- The evaluator with what is shown of lives; the states that the law's run is cut at. -/
import Derived.Test.YtljjmbedfbbmgaaGreatDoorLives
import Derived.Test.YtljjmbedfbbmgaaGreatDoorE10
namespace Go.Ev
open Go Go.Proofs
noncomputable def sm1 (f : Nat) (args : List V) (h : Hp) : Option (V × Hp) :=
  bif Nat.beq f 4 then (match args with
    | [] => some (.bool true, h)
    | _ => none) else E0.sm f args h
noncomputable def E1 : Env := ⟨getF tiT, getF fnT, sm1, fun _ => false⟩
theorem tis_ok1 : TisOk Tryz.prog E1 := TisOk.of rfl tiT_ok
theorem fns_ok1 : FnsOk Tryz.prog E1 := FnsOk.of rfl fnT_ok fnT_nm
theorem sm_ok1 : SmOk Tryz.prog E1 := by
  intro f args h v h' hs
  replace hs : sm1 f args h = some (v, h') := hs
  unfold sm1 at hs
  cases hb : Nat.beq f 4 with
  | false =>
    rw [hb, cond_false] at hs
    obtain ⟨h1, h2⟩ := smX_ok (E := E1) ext_a ext_b ext_m ext_c Tryz.underlying124 hs
    exact ⟨h1, fun r w ys g1 g2 g3 => .inl (h2 r w ys g1 g2 g3)⟩
  | true =>
    rw [hb, cond_true] at hs
    have := Nat.eq_of_beq_eq_true hb
    subst this
    split at hs
    · cases hs
      exact Alone.sm lives_alone fns_ok enter0
    · cases hs
noncomputable def rc1 : RC := rcallF E1 1000000 30
theorem rc_ok1 : RegOk Tryz.prog E1 rc1 := by
  have : rc1 = rcall E1 1000000 30 := rcallF_eq _ _ _
  rw [this]
  exact RegOk.of tis_ok1 mixed (rcall_ok tis_ok1 fns_ok1 sm_ok1 mixed 1000000 30)
noncomputable def S0 : ML := ⟨⟨3, 136, [(0, .agg [.stamp 1, .stamp 3, .stamp 2, .stamp 0, .unk, .unk, .unk, .unk, .unk, .unk, .unk, .unk, .unk, .unk, .unk, .unk])], [.code (bodyC Tryz.f3)], [], none⟩, [], 10, []⟩
noncomputable def B0 : ML := ⟨⟨3, 136, [(1,(.ptr 10 0)), (2,(.bool false)), (3,.nilptr), (4,(.int .i64 (.ofNat 4))), (5,(.ptr 15 0)), (27,(.ptr 10 0)), (28,(.stamp 1))], [.ops (opsAt (bodyC Tryz.f3) [1, 1, 1, 1, 0]) (skipL 2 (opsAt (bodyC Tryz.f3) [1, 1, 1, 1, 0]).toList), .code (cAt (bodyC Tryz.f3) [1, 1, 1, 1, 1])], [], none⟩, [], 17, [
  (10,.cells [(.stamp 1),(.stamp 3),(.stamp 2),(.stamp 0),.unk,.unk,.unk,.unk,.unk,.unk,.unk,.unk,.unk,.unk,.unk,.unk] 28 false),
  (14,.cells [.nilptr] 30 false),
  (15,.cells [.nilptr,.nilptr,(.slice 14 0 1 (.kn 1))] 41 false)]⟩
noncomputable def C0 : ML := ⟨⟨3, 136, [(1,(.ptr 10 0)), (2,(.bool false)), (3,.nilptr), (4,(.int .i64 (.ofNat 4))), (5,(.ptr 15 0)), (27,(.ptr 10 0))], [.ops (opsAt (bodyC Tryz.f3) [1, 1, 1, 1, 0]) (skipL 4 (opsAt (bodyC Tryz.f3) [1, 1, 1, 1, 0]).toList), .code (cAt (bodyC Tryz.f3) [1, 1, 1, 1, 1])], [], none⟩, [], 18, [
  (10,.cells [.unk,(.stamp 3),(.stamp 2),(.stamp 0),.unk,.unk,.unk,.unk,.unk,.unk,.unk,.unk,.unk,.unk,.unk,.unk] 28 false),
  (14,.cells [.nilptr] 30 false),
  (15,.cells [.nilptr,.nilptr,(.slice 14 0 1 (.kn 1))] 41 false)]⟩
noncomputable def B1_0 : ML := ⟨⟨22, 20, [(0,(.stamp 3)), (2,(.int .i64 (.ofNat 0))), (3,(.ptr 20 0)), (5,(.stamp 3))], [.ops (opsAt (bodyC Tryz.f22) [1, 0]) (skipL 1 (opsAt (bodyC Tryz.f22) [1, 0]).toList), .code (cAt (bodyC Tryz.f22) [1, 1])], [], none⟩, [⟨7, 158, [(0,(.ptr 15 0)), (2,(.int .i64 (.ofNat 9))), (4,(.ptr 18 0)), (6,(.ptr 19 0)), (16,(.ptr 18 1)), (17,(.stamp 3))], [.ops (opsAt (bodyC Tryz.f7) [1, 0]) (skipL 2 (opsAt (bodyC Tryz.f7) [1, 0]).toList), .code (cAt (bodyC Tryz.f7) [1, 1])], [], none⟩, ⟨3, 136, [(1,(.ptr 10 0)), (2,(.bool false)), (3,.nilptr), (4,(.int .i64 (.ofNat 4))), (5,(.ptr 15 0)), (34,(.agg [(.int .i64 (.ofNat 1)),(.stamp 3),(.stamp 2),(.stamp 0),.unk,.unk,.unk,.unk,.unk,.unk,.unk,.unk,.unk,.unk,.unk,.unk]))], [.ops (opsAt (bodyC Tryz.f3) [1, 1, 1, 1, 1, 0]) (skipL 1 (opsAt (bodyC Tryz.f3) [1, 1, 1, 1, 1, 0]).toList), .code (cAt (bodyC Tryz.f3) [1, 1, 1, 1, 1, 1])], [], none⟩], 22, [
  (10,.cells [(.int .i64 (.ofNat 1)),(.stamp 3),(.stamp 2),(.stamp 0),.unk,.unk,.unk,.unk,.unk,.unk,.unk,.unk,.unk,.unk,.unk,.unk] 28 false),
  (14,.cells [.nilptr] 30 false),
  (15,.cells [.nilptr,.nilptr,(.slice 14 0 1 (.kn 1))] 41 false),
  (18,.cells [(.int .i64 (.ofNat 1)),(.stamp 3),(.stamp 2),(.stamp 0),.unk,.unk,.unk,.unk,.unk,.unk,.unk,.unk,.unk,.unk,.unk,.unk] 28 false),
  (19,.cells [(.int .i64 (.ofNat 0)),(.int .i64 (.ofNat 0)),(.int .i64 (.ofNat 0)),(.str [])] 44 false),
  (20,.cells [(.int .i64 (.ofNat 0)),.nilslice,(.int .i64 (.ofNat 0)),.nilslice] 82 false)]⟩
noncomputable def C1_0 : ML := ⟨⟨22, 20, [(0,.unk), (2,(.int .i64 (.ofNat 0))), (3,(.ptr 20 0))], [.ops (opsAt (bodyC Tryz.f22) [1, 0]) (skipL 3 (opsAt (bodyC Tryz.f22) [1, 0]).toList), .code (cAt (bodyC Tryz.f22) [1, 1])], [], none⟩, [⟨7, 158, [(0,(.ptr 15 0)), (2,(.int .i64 (.ofNat 9))), (4,(.ptr 18 0)), (6,(.ptr 19 0)), (16,(.ptr 18 1)), (17,(.stamp 3))], [.ops (opsAt (bodyC Tryz.f7) [1, 0]) (skipL 2 (opsAt (bodyC Tryz.f7) [1, 0]).toList), .code (cAt (bodyC Tryz.f7) [1, 1])], [], none⟩, ⟨3, 136, [(1,(.ptr 10 0)), (2,(.bool false)), (3,.nilptr), (4,(.int .i64 (.ofNat 4))), (5,(.ptr 15 0)), (34,(.agg [(.int .i64 (.ofNat 1)),(.stamp 3),(.stamp 2),(.stamp 0),.unk,.unk,.unk,.unk,.unk,.unk,.unk,.unk,.unk,.unk,.unk,.unk]))], [.ops (opsAt (bodyC Tryz.f3) [1, 1, 1, 1, 1, 0]) (skipL 1 (opsAt (bodyC Tryz.f3) [1, 1, 1, 1, 1, 0]).toList), .code (cAt (bodyC Tryz.f3) [1, 1, 1, 1, 1, 1])], [], none⟩], 23, [
  (10,.cells [(.int .i64 (.ofNat 1)),.unk,(.stamp 2),(.stamp 0),.unk,.unk,.unk,.unk,.unk,.unk,.unk,.unk,.unk,.unk,.unk,.unk] 28 false),
  (14,.cells [.nilptr] 30 false),
  (15,.cells [.nilptr,.nilptr,(.slice 14 0 1 (.kn 1))] 41 false),
  (18,.cells [(.int .i64 (.ofNat 1)),.unk,(.stamp 2),(.stamp 0),.unk,.unk,.unk,.unk,.unk,.unk,.unk,.unk,.unk,.unk,.unk,.unk] 28 false),
  (19,.cells [(.int .i64 (.ofNat 0)),(.int .i64 (.ofNat 0)),(.int .i64 (.ofNat 0)),(.str [])] 44 false),
  (20,.cells [(.int .i64 (.ofNat 0)),.nilslice,(.int .i64 (.ofNat 0)),.nilslice] 82 false)]⟩
noncomputable def B2_0 : ML := ⟨⟨7, 158, [(0,(.ptr 15 0)), (4,(.ptr 18 0)), (6,(.ptr 19 0)), (9,(.ptr 35 0))], [.code (cAt (bodyC Tryz.f7) [1, 1, 1, 0]), .code (cAt (bodyC Tryz.f7) [1, 1, 1, 1])], [], none⟩, [⟨3, 136, [(1,(.ptr 10 0)), (2,(.bool false)), (3,.nilptr), (4,(.int .i64 (.ofNat 4))), (5,(.ptr 15 0)), (34,(.agg [(.int .i64 (.ofNat 1)),(.stamp 3),(.stamp 2),(.stamp 0),.unk,.unk,.unk,.unk,.unk,.unk,.unk,.unk,.unk,.unk,.unk,.unk]))], [.ops (opsAt (bodyC Tryz.f3) [1, 1, 1, 1, 1, 0]) (skipL 1 (opsAt (bodyC Tryz.f3) [1, 1, 1, 1, 1, 0]).toList), .code (cAt (bodyC Tryz.f3) [1, 1, 1, 1, 1, 1])], [], none⟩], 40, [
  (10,.cells [(.int .i64 (.ofNat 1)),.unk,(.stamp 2),(.stamp 0),.unk,.unk,.unk,.unk,.unk,.unk,.unk,.unk,.unk,.unk,.unk,.unk] 28 false),
  (14,.cells [.nilptr] 30 false),
  (15,.cells [.nilptr,.nilptr,(.slice 14 0 1 (.kn 1))] 41 false),
  (18,.cells [(.int .i64 (.ofNat 1)),.unk,(.stamp 2),(.stamp 0),.unk,.unk,.unk,.unk,.unk,.unk,.unk,.unk,.unk,.unk,.unk,.unk] 28 false),
  (19,.cells [(.int .i64 (.ofNat 0)),(.int .i64 (.ofNat 0)),(.int .i64 (.ofNat 0)),(.str [])] 44 false),
  (35,.cells [.unk,(.int .i64 (.ofNat 9))] 35 false)]⟩
noncomputable def C2_0 : ML := ⟨⟨7, 158, [(0,(.ptr 15 0)), (4,(.ptr 18 0)), (6,(.ptr 19 0)), (9,(.ptr 35 0))], [.code (cAt (bodyC Tryz.f7) [1, 1, 1, 1])], [], none⟩, [⟨3, 136, [(1,(.ptr 10 0)), (2,(.bool false)), (3,.nilptr), (4,(.int .i64 (.ofNat 4))), (5,(.ptr 15 0)), (34,(.agg [(.int .i64 (.ofNat 1)),(.stamp 3),(.stamp 2),(.stamp 0),.unk,.unk,.unk,.unk,.unk,.unk,.unk,.unk,.unk,.unk,.unk,.unk]))], [.ops (opsAt (bodyC Tryz.f3) [1, 1, 1, 1, 1, 0]) (skipL 1 (opsAt (bodyC Tryz.f3) [1, 1, 1, 1, 1, 0]).toList), .code (cAt (bodyC Tryz.f3) [1, 1, 1, 1, 1, 1])], [], none⟩], 41, [
  (10,.cells [(.int .i64 (.ofNat 1)),.unk,.unk,(.stamp 0),.unk,.unk,.unk,.unk,.unk,.unk,.unk,.unk,.unk,.unk,.unk,.unk] 28 false),
  (14,.cells [.nilptr] 30 false),
  (15,.cells [.nilptr,.nilptr,(.slice 14 0 1 (.kn 1))] 41 false),
  (18,.cells [(.int .i64 (.ofNat 1)),.unk,.unk,(.stamp 0),.unk,.unk,.unk,.unk,.unk,.unk,.unk,.unk,.unk,.unk,.unk,.unk] 28 false),
  (19,.cells [(.int .i64 (.ofNat 0)),(.int .i64 (.ofNat 0)),(.int .i64 (.ofNat 0)),(.str [])] 44 false),
  (35,.cells [.unk,(.int .i64 (.ofNat 9))] 35 false)]⟩
noncomputable def D0 : ML := ⟨⟨3, 136, [(1,(.ptr 10 0)), (2,(.bool false)), (3,.nilptr), (4,(.int .i64 (.ofNat 4))), (5,(.ptr 15 0)), (35,(.agg [(.int .i64 (.ofNat 4)),(.int .i64 (.ofNat 0)),(.int .i64 (.ofNat 0)),(.str [])]))], [.ops (opsAt (bodyC Tryz.f3) [1, 1, 1, 1, 1, 0]) (skipL 2 (opsAt (bodyC Tryz.f3) [1, 1, 1, 1, 1, 0]).toList), .code (cAt (bodyC Tryz.f3) [1, 1, 1, 1, 1, 1])], [], none⟩, [], 200, [
  (10,.cells [.unk,.unk,.unk,(.stamp 0),.unk,.unk,.unk,.unk,.unk,.unk,.unk,.unk,.unk,.unk,.unk,.unk] 28 false),
  (14,.cells [.nilptr] 30 false),
  (15,.cells [.nilptr,.nilptr,(.slice 14 0 1 (.kn 1))] 41 false)]⟩
noncomputable def B1_1 : ML := ⟨⟨22, 20, [(0,(.stamp 3)), (2,(.int .i64 (.ofNat 0))), (3,(.ptr 20 0)), (5,(.stamp 3))], [.ops (opsAt (bodyC Tryz.f22) [1, 0]) (skipL 1 (opsAt (bodyC Tryz.f22) [1, 0]).toList), .code (cAt (bodyC Tryz.f22) [1, 1])], [], none⟩, [⟨7, 158, [(0,(.ptr 15 0)), (2,(.int .i64 (.ofNat 9))), (4,(.ptr 18 0)), (6,(.ptr 19 0)), (16,(.ptr 18 1)), (17,(.stamp 3))], [.ops (opsAt (bodyC Tryz.f7) [1, 0]) (skipL 2 (opsAt (bodyC Tryz.f7) [1, 0]).toList), .code (cAt (bodyC Tryz.f7) [1, 1])], [], none⟩, ⟨3, 136, [(1,(.ptr 10 0)), (2,(.bool false)), (3,.nilptr), (4,(.int .i64 (.ofNat 4))), (5,(.ptr 15 0)), (34,(.agg [(.int .i64 (.ofNat 2)),(.stamp 3),(.stamp 2),(.stamp 0),.unk,.unk,.unk,.unk,.unk,.unk,.unk,.unk,.unk,.unk,.unk,.unk]))], [.ops (opsAt (bodyC Tryz.f3) [1, 1, 1, 1, 1, 0]) (skipL 1 (opsAt (bodyC Tryz.f3) [1, 1, 1, 1, 1, 0]).toList), .code (cAt (bodyC Tryz.f3) [1, 1, 1, 1, 1, 1])], [], none⟩], 22, [
  (10,.cells [(.int .i64 (.ofNat 2)),(.stamp 3),(.stamp 2),(.stamp 0),.unk,.unk,.unk,.unk,.unk,.unk,.unk,.unk,.unk,.unk,.unk,.unk] 28 false),
  (14,.cells [.nilptr] 30 false),
  (15,.cells [.nilptr,.nilptr,(.slice 14 0 1 (.kn 1))] 41 false),
  (18,.cells [(.int .i64 (.ofNat 2)),(.stamp 3),(.stamp 2),(.stamp 0),.unk,.unk,.unk,.unk,.unk,.unk,.unk,.unk,.unk,.unk,.unk,.unk] 28 false),
  (19,.cells [(.int .i64 (.ofNat 0)),(.int .i64 (.ofNat 0)),(.int .i64 (.ofNat 0)),(.str [])] 44 false),
  (20,.cells [(.int .i64 (.ofNat 0)),.nilslice,(.int .i64 (.ofNat 0)),.nilslice] 82 false)]⟩
noncomputable def C1_1 : ML := ⟨⟨22, 20, [(0,.unk), (2,(.int .i64 (.ofNat 0))), (3,(.ptr 20 0))], [.ops (opsAt (bodyC Tryz.f22) [1, 0]) (skipL 3 (opsAt (bodyC Tryz.f22) [1, 0]).toList), .code (cAt (bodyC Tryz.f22) [1, 1])], [], none⟩, [⟨7, 158, [(0,(.ptr 15 0)), (2,(.int .i64 (.ofNat 9))), (4,(.ptr 18 0)), (6,(.ptr 19 0)), (16,(.ptr 18 1)), (17,(.stamp 3))], [.ops (opsAt (bodyC Tryz.f7) [1, 0]) (skipL 2 (opsAt (bodyC Tryz.f7) [1, 0]).toList), .code (cAt (bodyC Tryz.f7) [1, 1])], [], none⟩, ⟨3, 136, [(1,(.ptr 10 0)), (2,(.bool false)), (3,.nilptr), (4,(.int .i64 (.ofNat 4))), (5,(.ptr 15 0)), (34,(.agg [(.int .i64 (.ofNat 2)),(.stamp 3),(.stamp 2),(.stamp 0),.unk,.unk,.unk,.unk,.unk,.unk,.unk,.unk,.unk,.unk,.unk,.unk]))], [.ops (opsAt (bodyC Tryz.f3) [1, 1, 1, 1, 1, 0]) (skipL 1 (opsAt (bodyC Tryz.f3) [1, 1, 1, 1, 1, 0]).toList), .code (cAt (bodyC Tryz.f3) [1, 1, 1, 1, 1, 1])], [], none⟩], 23, [
  (10,.cells [(.int .i64 (.ofNat 2)),.unk,(.stamp 2),(.stamp 0),.unk,.unk,.unk,.unk,.unk,.unk,.unk,.unk,.unk,.unk,.unk,.unk] 28 false),
  (14,.cells [.nilptr] 30 false),
  (15,.cells [.nilptr,.nilptr,(.slice 14 0 1 (.kn 1))] 41 false),
  (18,.cells [(.int .i64 (.ofNat 2)),.unk,(.stamp 2),(.stamp 0),.unk,.unk,.unk,.unk,.unk,.unk,.unk,.unk,.unk,.unk,.unk,.unk] 28 false),
  (19,.cells [(.int .i64 (.ofNat 0)),(.int .i64 (.ofNat 0)),(.int .i64 (.ofNat 0)),(.str [])] 44 false),
  (20,.cells [(.int .i64 (.ofNat 0)),.nilslice,(.int .i64 (.ofNat 0)),.nilslice] 82 false)]⟩
noncomputable def B2_1 : ML := ⟨⟨7, 158, [(0,(.ptr 15 0)), (4,(.ptr 18 0)), (6,(.ptr 19 0)), (9,(.ptr 35 0))], [.code (cAt (bodyC Tryz.f7) [1, 1, 1, 0]), .code (cAt (bodyC Tryz.f7) [1, 1, 1, 1])], [], none⟩, [⟨3, 136, [(1,(.ptr 10 0)), (2,(.bool false)), (3,.nilptr), (4,(.int .i64 (.ofNat 4))), (5,(.ptr 15 0)), (34,(.agg [(.int .i64 (.ofNat 2)),(.stamp 3),(.stamp 2),(.stamp 0),.unk,.unk,.unk,.unk,.unk,.unk,.unk,.unk,.unk,.unk,.unk,.unk]))], [.ops (opsAt (bodyC Tryz.f3) [1, 1, 1, 1, 1, 0]) (skipL 1 (opsAt (bodyC Tryz.f3) [1, 1, 1, 1, 1, 0]).toList), .code (cAt (bodyC Tryz.f3) [1, 1, 1, 1, 1, 1])], [], none⟩], 40, [
  (10,.cells [(.int .i64 (.ofNat 2)),.unk,(.stamp 2),(.stamp 0),.unk,.unk,.unk,.unk,.unk,.unk,.unk,.unk,.unk,.unk,.unk,.unk] 28 false),
  (14,.cells [.nilptr] 30 false),
  (15,.cells [.nilptr,.nilptr,(.slice 14 0 1 (.kn 1))] 41 false),
  (18,.cells [(.int .i64 (.ofNat 2)),.unk,(.stamp 2),(.stamp 0),.unk,.unk,.unk,.unk,.unk,.unk,.unk,.unk,.unk,.unk,.unk,.unk] 28 false),
  (19,.cells [(.int .i64 (.ofNat 0)),(.int .i64 (.ofNat 0)),(.int .i64 (.ofNat 0)),(.str [])] 44 false),
  (35,.cells [.unk,(.int .i64 (.ofNat 9))] 35 false)]⟩
noncomputable def C2_1 : ML := ⟨⟨7, 158, [(0,(.ptr 15 0)), (4,(.ptr 18 0)), (6,(.ptr 19 0)), (9,(.ptr 35 0))], [.code (cAt (bodyC Tryz.f7) [1, 1, 1, 1])], [], none⟩, [⟨3, 136, [(1,(.ptr 10 0)), (2,(.bool false)), (3,.nilptr), (4,(.int .i64 (.ofNat 4))), (5,(.ptr 15 0)), (34,(.agg [(.int .i64 (.ofNat 2)),(.stamp 3),(.stamp 2),(.stamp 0),.unk,.unk,.unk,.unk,.unk,.unk,.unk,.unk,.unk,.unk,.unk,.unk]))], [.ops (opsAt (bodyC Tryz.f3) [1, 1, 1, 1, 1, 0]) (skipL 1 (opsAt (bodyC Tryz.f3) [1, 1, 1, 1, 1, 0]).toList), .code (cAt (bodyC Tryz.f3) [1, 1, 1, 1, 1, 1])], [], none⟩], 41, [
  (10,.cells [(.int .i64 (.ofNat 2)),.unk,.unk,(.stamp 0),.unk,.unk,.unk,.unk,.unk,.unk,.unk,.unk,.unk,.unk,.unk,.unk] 28 false),
  (14,.cells [.nilptr] 30 false),
  (15,.cells [.nilptr,.nilptr,(.slice 14 0 1 (.kn 1))] 41 false),
  (18,.cells [(.int .i64 (.ofNat 2)),.unk,.unk,(.stamp 0),.unk,.unk,.unk,.unk,.unk,.unk,.unk,.unk,.unk,.unk,.unk,.unk] 28 false),
  (19,.cells [(.int .i64 (.ofNat 0)),(.int .i64 (.ofNat 0)),(.int .i64 (.ofNat 0)),(.str [])] 44 false),
  (35,.cells [.unk,(.int .i64 (.ofNat 9))] 35 false)]⟩
noncomputable def B1_2 : ML := ⟨⟨22, 20, [(0,(.stamp 3)), (2,(.int .i64 (.ofNat 0))), (3,(.ptr 20 0)), (5,(.stamp 3))], [.ops (opsAt (bodyC Tryz.f22) [1, 0]) (skipL 1 (opsAt (bodyC Tryz.f22) [1, 0]).toList), .code (cAt (bodyC Tryz.f22) [1, 1])], [], none⟩, [⟨7, 158, [(0,(.ptr 15 0)), (2,(.int .i64 (.ofNat 9))), (4,(.ptr 18 0)), (6,(.ptr 19 0)), (16,(.ptr 18 1)), (17,(.stamp 3))], [.ops (opsAt (bodyC Tryz.f7) [1, 0]) (skipL 2 (opsAt (bodyC Tryz.f7) [1, 0]).toList), .code (cAt (bodyC Tryz.f7) [1, 1])], [], none⟩, ⟨3, 136, [(1,(.ptr 10 0)), (2,(.bool false)), (3,.nilptr), (4,(.int .i64 (.ofNat 4))), (5,(.ptr 15 0)), (34,(.agg [(.int .i64 (.ofNat 3)),(.stamp 3),(.stamp 2),(.stamp 0),.unk,.unk,.unk,.unk,.unk,.unk,.unk,.unk,.unk,.unk,.unk,.unk]))], [.ops (opsAt (bodyC Tryz.f3) [1, 1, 1, 1, 1, 0]) (skipL 1 (opsAt (bodyC Tryz.f3) [1, 1, 1, 1, 1, 0]).toList), .code (cAt (bodyC Tryz.f3) [1, 1, 1, 1, 1, 1])], [], none⟩], 22, [
  (10,.cells [(.int .i64 (.ofNat 3)),(.stamp 3),(.stamp 2),(.stamp 0),.unk,.unk,.unk,.unk,.unk,.unk,.unk,.unk,.unk,.unk,.unk,.unk] 28 false),
  (14,.cells [.nilptr] 30 false),
  (15,.cells [.nilptr,.nilptr,(.slice 14 0 1 (.kn 1))] 41 false),
  (18,.cells [(.int .i64 (.ofNat 3)),(.stamp 3),(.stamp 2),(.stamp 0),.unk,.unk,.unk,.unk,.unk,.unk,.unk,.unk,.unk,.unk,.unk,.unk] 28 false),
  (19,.cells [(.int .i64 (.ofNat 0)),(.int .i64 (.ofNat 0)),(.int .i64 (.ofNat 0)),(.str [])] 44 false),
  (20,.cells [(.int .i64 (.ofNat 0)),.nilslice,(.int .i64 (.ofNat 0)),.nilslice] 82 false)]⟩
noncomputable def C1_2 : ML := ⟨⟨22, 20, [(0,.unk), (2,(.int .i64 (.ofNat 0))), (3,(.ptr 20 0))], [.ops (opsAt (bodyC Tryz.f22) [1, 0]) (skipL 3 (opsAt (bodyC Tryz.f22) [1, 0]).toList), .code (cAt (bodyC Tryz.f22) [1, 1])], [], none⟩, [⟨7, 158, [(0,(.ptr 15 0)), (2,(.int .i64 (.ofNat 9))), (4,(.ptr 18 0)), (6,(.ptr 19 0)), (16,(.ptr 18 1)), (17,(.stamp 3))], [.ops (opsAt (bodyC Tryz.f7) [1, 0]) (skipL 2 (opsAt (bodyC Tryz.f7) [1, 0]).toList), .code (cAt (bodyC Tryz.f7) [1, 1])], [], none⟩, ⟨3, 136, [(1,(.ptr 10 0)), (2,(.bool false)), (3,.nilptr), (4,(.int .i64 (.ofNat 4))), (5,(.ptr 15 0)), (34,(.agg [(.int .i64 (.ofNat 3)),(.stamp 3),(.stamp 2),(.stamp 0),.unk,.unk,.unk,.unk,.unk,.unk,.unk,.unk,.unk,.unk,.unk,.unk]))], [.ops (opsAt (bodyC Tryz.f3) [1, 1, 1, 1, 1, 0]) (skipL 1 (opsAt (bodyC Tryz.f3) [1, 1, 1, 1, 1, 0]).toList), .code (cAt (bodyC Tryz.f3) [1, 1, 1, 1, 1, 1])], [], none⟩], 23, [
  (10,.cells [(.int .i64 (.ofNat 3)),.unk,(.stamp 2),(.stamp 0),.unk,.unk,.unk,.unk,.unk,.unk,.unk,.unk,.unk,.unk,.unk,.unk] 28 false),
  (14,.cells [.nilptr] 30 false),
  (15,.cells [.nilptr,.nilptr,(.slice 14 0 1 (.kn 1))] 41 false),
  (18,.cells [(.int .i64 (.ofNat 3)),.unk,(.stamp 2),(.stamp 0),.unk,.unk,.unk,.unk,.unk,.unk,.unk,.unk,.unk,.unk,.unk,.unk] 28 false),
  (19,.cells [(.int .i64 (.ofNat 0)),(.int .i64 (.ofNat 0)),(.int .i64 (.ofNat 0)),(.str [])] 44 false),
  (20,.cells [(.int .i64 (.ofNat 0)),.nilslice,(.int .i64 (.ofNat 0)),.nilslice] 82 false)]⟩
noncomputable def B2_2 : ML := ⟨⟨7, 158, [(0,(.ptr 15 0)), (4,(.ptr 18 0)), (6,(.ptr 19 0)), (9,(.ptr 35 0))], [.code (cAt (bodyC Tryz.f7) [1, 1, 1, 0]), .code (cAt (bodyC Tryz.f7) [1, 1, 1, 1])], [], none⟩, [⟨3, 136, [(1,(.ptr 10 0)), (2,(.bool false)), (3,.nilptr), (4,(.int .i64 (.ofNat 4))), (5,(.ptr 15 0)), (34,(.agg [(.int .i64 (.ofNat 3)),(.stamp 3),(.stamp 2),(.stamp 0),.unk,.unk,.unk,.unk,.unk,.unk,.unk,.unk,.unk,.unk,.unk,.unk]))], [.ops (opsAt (bodyC Tryz.f3) [1, 1, 1, 1, 1, 0]) (skipL 1 (opsAt (bodyC Tryz.f3) [1, 1, 1, 1, 1, 0]).toList), .code (cAt (bodyC Tryz.f3) [1, 1, 1, 1, 1, 1])], [], none⟩], 40, [
  (10,.cells [(.int .i64 (.ofNat 3)),.unk,(.stamp 2),(.stamp 0),.unk,.unk,.unk,.unk,.unk,.unk,.unk,.unk,.unk,.unk,.unk,.unk] 28 false),
  (14,.cells [.nilptr] 30 false),
  (15,.cells [.nilptr,.nilptr,(.slice 14 0 1 (.kn 1))] 41 false),
  (18,.cells [(.int .i64 (.ofNat 3)),.unk,(.stamp 2),(.stamp 0),.unk,.unk,.unk,.unk,.unk,.unk,.unk,.unk,.unk,.unk,.unk,.unk] 28 false),
  (19,.cells [(.int .i64 (.ofNat 0)),(.int .i64 (.ofNat 0)),(.int .i64 (.ofNat 0)),(.str [])] 44 false),
  (35,.cells [.unk,(.int .i64 (.ofNat 9))] 35 false)]⟩
noncomputable def C2_2 : ML := ⟨⟨7, 158, [(0,(.ptr 15 0)), (4,(.ptr 18 0)), (6,(.ptr 19 0)), (9,(.ptr 35 0))], [.code (cAt (bodyC Tryz.f7) [1, 1, 1, 1])], [], none⟩, [⟨3, 136, [(1,(.ptr 10 0)), (2,(.bool false)), (3,.nilptr), (4,(.int .i64 (.ofNat 4))), (5,(.ptr 15 0)), (34,(.agg [(.int .i64 (.ofNat 3)),(.stamp 3),(.stamp 2),(.stamp 0),.unk,.unk,.unk,.unk,.unk,.unk,.unk,.unk,.unk,.unk,.unk,.unk]))], [.ops (opsAt (bodyC Tryz.f3) [1, 1, 1, 1, 1, 0]) (skipL 1 (opsAt (bodyC Tryz.f3) [1, 1, 1, 1, 1, 0]).toList), .code (cAt (bodyC Tryz.f3) [1, 1, 1, 1, 1, 1])], [], none⟩], 41, [
  (10,.cells [(.int .i64 (.ofNat 3)),.unk,.unk,(.stamp 0),.unk,.unk,.unk,.unk,.unk,.unk,.unk,.unk,.unk,.unk,.unk,.unk] 28 false),
  (14,.cells [.nilptr] 30 false),
  (15,.cells [.nilptr,.nilptr,(.slice 14 0 1 (.kn 1))] 41 false),
  (18,.cells [(.int .i64 (.ofNat 3)),.unk,.unk,(.stamp 0),.unk,.unk,.unk,.unk,.unk,.unk,.unk,.unk,.unk,.unk,.unk,.unk] 28 false),
  (19,.cells [(.int .i64 (.ofNat 0)),(.int .i64 (.ofNat 0)),(.int .i64 (.ofNat 0)),(.str [])] 44 false),
  (35,.cells [.unk,(.int .i64 (.ofNat 9))] 35 false)]⟩
noncomputable def B1_3 : ML := ⟨⟨22, 20, [(0,(.stamp 3)), (2,(.int .i64 (.ofNat 0))), (3,(.ptr 20 0)), (5,(.stamp 3))], [.ops (opsAt (bodyC Tryz.f22) [1, 0]) (skipL 1 (opsAt (bodyC Tryz.f22) [1, 0]).toList), .code (cAt (bodyC Tryz.f22) [1, 1])], [], none⟩, [⟨7, 158, [(0,(.ptr 15 0)), (2,(.int .i64 (.ofNat 9))), (4,(.ptr 18 0)), (6,(.ptr 19 0)), (16,(.ptr 18 1)), (17,(.stamp 3))], [.ops (opsAt (bodyC Tryz.f7) [1, 0]) (skipL 2 (opsAt (bodyC Tryz.f7) [1, 0]).toList), .code (cAt (bodyC Tryz.f7) [1, 1])], [], none⟩, ⟨3, 136, [(1,(.ptr 10 0)), (2,(.bool false)), (3,.nilptr), (4,(.int .i64 (.ofNat 4))), (5,(.ptr 15 0)), (34,(.agg [(.int .i64 (.ofNat 4)),(.stamp 3),(.stamp 2),(.stamp 0),.unk,.unk,.unk,.unk,.unk,.unk,.unk,.unk,.unk,.unk,.unk,.unk]))], [.ops (opsAt (bodyC Tryz.f3) [1, 1, 1, 1, 1, 0]) (skipL 1 (opsAt (bodyC Tryz.f3) [1, 1, 1, 1, 1, 0]).toList), .code (cAt (bodyC Tryz.f3) [1, 1, 1, 1, 1, 1])], [], none⟩], 22, [
  (10,.cells [(.int .i64 (.ofNat 4)),(.stamp 3),(.stamp 2),(.stamp 0),.unk,.unk,.unk,.unk,.unk,.unk,.unk,.unk,.unk,.unk,.unk,.unk] 28 false),
  (14,.cells [.nilptr] 30 false),
  (15,.cells [.nilptr,.nilptr,(.slice 14 0 1 (.kn 1))] 41 false),
  (18,.cells [(.int .i64 (.ofNat 4)),(.stamp 3),(.stamp 2),(.stamp 0),.unk,.unk,.unk,.unk,.unk,.unk,.unk,.unk,.unk,.unk,.unk,.unk] 28 false),
  (19,.cells [(.int .i64 (.ofNat 0)),(.int .i64 (.ofNat 0)),(.int .i64 (.ofNat 0)),(.str [])] 44 false),
  (20,.cells [(.int .i64 (.ofNat 0)),.nilslice,(.int .i64 (.ofNat 0)),.nilslice] 82 false)]⟩
noncomputable def C1_3 : ML := ⟨⟨22, 20, [(0,.unk), (2,(.int .i64 (.ofNat 0))), (3,(.ptr 20 0))], [.ops (opsAt (bodyC Tryz.f22) [1, 0]) (skipL 3 (opsAt (bodyC Tryz.f22) [1, 0]).toList), .code (cAt (bodyC Tryz.f22) [1, 1])], [], none⟩, [⟨7, 158, [(0,(.ptr 15 0)), (2,(.int .i64 (.ofNat 9))), (4,(.ptr 18 0)), (6,(.ptr 19 0)), (16,(.ptr 18 1)), (17,(.stamp 3))], [.ops (opsAt (bodyC Tryz.f7) [1, 0]) (skipL 2 (opsAt (bodyC Tryz.f7) [1, 0]).toList), .code (cAt (bodyC Tryz.f7) [1, 1])], [], none⟩, ⟨3, 136, [(1,(.ptr 10 0)), (2,(.bool false)), (3,.nilptr), (4,(.int .i64 (.ofNat 4))), (5,(.ptr 15 0)), (34,(.agg [(.int .i64 (.ofNat 4)),(.stamp 3),(.stamp 2),(.stamp 0),.unk,.unk,.unk,.unk,.unk,.unk,.unk,.unk,.unk,.unk,.unk,.unk]))], [.ops (opsAt (bodyC Tryz.f3) [1, 1, 1, 1, 1, 0]) (skipL 1 (opsAt (bodyC Tryz.f3) [1, 1, 1, 1, 1, 0]).toList), .code (cAt (bodyC Tryz.f3) [1, 1, 1, 1, 1, 1])], [], none⟩], 23, [
  (10,.cells [(.int .i64 (.ofNat 4)),.unk,(.stamp 2),(.stamp 0),.unk,.unk,.unk,.unk,.unk,.unk,.unk,.unk,.unk,.unk,.unk,.unk] 28 false),
  (14,.cells [.nilptr] 30 false),
  (15,.cells [.nilptr,.nilptr,(.slice 14 0 1 (.kn 1))] 41 false),
  (18,.cells [(.int .i64 (.ofNat 4)),.unk,(.stamp 2),(.stamp 0),.unk,.unk,.unk,.unk,.unk,.unk,.unk,.unk,.unk,.unk,.unk,.unk] 28 false),
  (19,.cells [(.int .i64 (.ofNat 0)),(.int .i64 (.ofNat 0)),(.int .i64 (.ofNat 0)),(.str [])] 44 false),
  (20,.cells [(.int .i64 (.ofNat 0)),.nilslice,(.int .i64 (.ofNat 0)),.nilslice] 82 false)]⟩
noncomputable def B2_3 : ML := ⟨⟨7, 158, [(0,(.ptr 15 0)), (4,(.ptr 18 0)), (6,(.ptr 19 0)), (9,(.ptr 35 0))], [.code (cAt (bodyC Tryz.f7) [1, 1, 1, 0]), .code (cAt (bodyC Tryz.f7) [1, 1, 1, 1])], [], none⟩, [⟨3, 136, [(1,(.ptr 10 0)), (2,(.bool false)), (3,.nilptr), (4,(.int .i64 (.ofNat 4))), (5,(.ptr 15 0)), (34,(.agg [(.int .i64 (.ofNat 4)),(.stamp 3),(.stamp 2),(.stamp 0),.unk,.unk,.unk,.unk,.unk,.unk,.unk,.unk,.unk,.unk,.unk,.unk]))], [.ops (opsAt (bodyC Tryz.f3) [1, 1, 1, 1, 1, 0]) (skipL 1 (opsAt (bodyC Tryz.f3) [1, 1, 1, 1, 1, 0]).toList), .code (cAt (bodyC Tryz.f3) [1, 1, 1, 1, 1, 1])], [], none⟩], 40, [
  (10,.cells [(.int .i64 (.ofNat 4)),.unk,(.stamp 2),(.stamp 0),.unk,.unk,.unk,.unk,.unk,.unk,.unk,.unk,.unk,.unk,.unk,.unk] 28 false),
  (14,.cells [.nilptr] 30 false),
  (15,.cells [.nilptr,.nilptr,(.slice 14 0 1 (.kn 1))] 41 false),
  (18,.cells [(.int .i64 (.ofNat 4)),.unk,(.stamp 2),(.stamp 0),.unk,.unk,.unk,.unk,.unk,.unk,.unk,.unk,.unk,.unk,.unk,.unk] 28 false),
  (19,.cells [(.int .i64 (.ofNat 0)),(.int .i64 (.ofNat 0)),(.int .i64 (.ofNat 0)),(.str [])] 44 false),
  (35,.cells [.unk,(.int .i64 (.ofNat 9))] 35 false)]⟩
noncomputable def C2_3 : ML := ⟨⟨7, 158, [(0,(.ptr 15 0)), (4,(.ptr 18 0)), (6,(.ptr 19 0)), (9,(.ptr 35 0))], [.code (cAt (bodyC Tryz.f7) [1, 1, 1, 1])], [], none⟩, [⟨3, 136, [(1,(.ptr 10 0)), (2,(.bool false)), (3,.nilptr), (4,(.int .i64 (.ofNat 4))), (5,(.ptr 15 0)), (34,(.agg [(.int .i64 (.ofNat 4)),(.stamp 3),(.stamp 2),(.stamp 0),.unk,.unk,.unk,.unk,.unk,.unk,.unk,.unk,.unk,.unk,.unk,.unk]))], [.ops (opsAt (bodyC Tryz.f3) [1, 1, 1, 1, 1, 0]) (skipL 1 (opsAt (bodyC Tryz.f3) [1, 1, 1, 1, 1, 0]).toList), .code (cAt (bodyC Tryz.f3) [1, 1, 1, 1, 1, 1])], [], none⟩], 41, [
  (10,.cells [(.int .i64 (.ofNat 4)),.unk,.unk,(.stamp 0),.unk,.unk,.unk,.unk,.unk,.unk,.unk,.unk,.unk,.unk,.unk,.unk] 28 false),
  (14,.cells [.nilptr] 30 false),
  (15,.cells [.nilptr,.nilptr,(.slice 14 0 1 (.kn 1))] 41 false),
  (18,.cells [(.int .i64 (.ofNat 4)),.unk,.unk,(.stamp 0),.unk,.unk,.unk,.unk,.unk,.unk,.unk,.unk,.unk,.unk,.unk,.unk] 28 false),
  (19,.cells [(.int .i64 (.ofNat 0)),(.int .i64 (.ofNat 0)),(.int .i64 (.ofNat 0)),(.str [])] 44 false),
  (35,.cells [.unk,(.int .i64 (.ofNat 9))] 35 false)]⟩
noncomputable def B1_4 : ML := ⟨⟨22, 20, [(0,(.stamp 3)), (2,(.int .i64 (.ofNat 0))), (3,(.ptr 20 0)), (5,(.stamp 3))], [.ops (opsAt (bodyC Tryz.f22) [1, 0]) (skipL 1 (opsAt (bodyC Tryz.f22) [1, 0]).toList), .code (cAt (bodyC Tryz.f22) [1, 1])], [], none⟩, [⟨7, 158, [(0,(.ptr 15 0)), (2,(.int .i64 (.ofNat 9))), (4,(.ptr 18 0)), (6,(.ptr 19 0)), (16,(.ptr 18 1)), (17,(.stamp 3))], [.ops (opsAt (bodyC Tryz.f7) [1, 0]) (skipL 2 (opsAt (bodyC Tryz.f7) [1, 0]).toList), .code (cAt (bodyC Tryz.f7) [1, 1])], [], none⟩, ⟨3, 136, [(1,(.ptr 10 0)), (2,(.bool false)), (3,.nilptr), (4,(.int .i64 (.ofNat 4))), (5,(.ptr 15 0)), (34,(.agg [(.int .i64 (.ofNat 5)),(.stamp 3),(.stamp 2),(.stamp 0),.unk,.unk,.unk,.unk,.unk,.unk,.unk,.unk,.unk,.unk,.unk,.unk]))], [.ops (opsAt (bodyC Tryz.f3) [1, 1, 1, 1, 1, 0]) (skipL 1 (opsAt (bodyC Tryz.f3) [1, 1, 1, 1, 1, 0]).toList), .code (cAt (bodyC Tryz.f3) [1, 1, 1, 1, 1, 1])], [], none⟩], 22, [
  (10,.cells [(.int .i64 (.ofNat 5)),(.stamp 3),(.stamp 2),(.stamp 0),.unk,.unk,.unk,.unk,.unk,.unk,.unk,.unk,.unk,.unk,.unk,.unk] 28 false),
  (14,.cells [.nilptr] 30 false),
  (15,.cells [.nilptr,.nilptr,(.slice 14 0 1 (.kn 1))] 41 false),
  (18,.cells [(.int .i64 (.ofNat 5)),(.stamp 3),(.stamp 2),(.stamp 0),.unk,.unk,.unk,.unk,.unk,.unk,.unk,.unk,.unk,.unk,.unk,.unk] 28 false),
  (19,.cells [(.int .i64 (.ofNat 0)),(.int .i64 (.ofNat 0)),(.int .i64 (.ofNat 0)),(.str [])] 44 false),
  (20,.cells [(.int .i64 (.ofNat 0)),.nilslice,(.int .i64 (.ofNat 0)),.nilslice] 82 false)]⟩
noncomputable def C1_4 : ML := ⟨⟨22, 20, [(0,.unk), (2,(.int .i64 (.ofNat 0))), (3,(.ptr 20 0))], [.ops (opsAt (bodyC Tryz.f22) [1, 0]) (skipL 3 (opsAt (bodyC Tryz.f22) [1, 0]).toList), .code (cAt (bodyC Tryz.f22) [1, 1])], [], none⟩, [⟨7, 158, [(0,(.ptr 15 0)), (2,(.int .i64 (.ofNat 9))), (4,(.ptr 18 0)), (6,(.ptr 19 0)), (16,(.ptr 18 1)), (17,(.stamp 3))], [.ops (opsAt (bodyC Tryz.f7) [1, 0]) (skipL 2 (opsAt (bodyC Tryz.f7) [1, 0]).toList), .code (cAt (bodyC Tryz.f7) [1, 1])], [], none⟩, ⟨3, 136, [(1,(.ptr 10 0)), (2,(.bool false)), (3,.nilptr), (4,(.int .i64 (.ofNat 4))), (5,(.ptr 15 0)), (34,(.agg [(.int .i64 (.ofNat 5)),(.stamp 3),(.stamp 2),(.stamp 0),.unk,.unk,.unk,.unk,.unk,.unk,.unk,.unk,.unk,.unk,.unk,.unk]))], [.ops (opsAt (bodyC Tryz.f3) [1, 1, 1, 1, 1, 0]) (skipL 1 (opsAt (bodyC Tryz.f3) [1, 1, 1, 1, 1, 0]).toList), .code (cAt (bodyC Tryz.f3) [1, 1, 1, 1, 1, 1])], [], none⟩], 23, [
  (10,.cells [(.int .i64 (.ofNat 5)),.unk,(.stamp 2),(.stamp 0),.unk,.unk,.unk,.unk,.unk,.unk,.unk,.unk,.unk,.unk,.unk,.unk] 28 false),
  (14,.cells [.nilptr] 30 false),
  (15,.cells [.nilptr,.nilptr,(.slice 14 0 1 (.kn 1))] 41 false),
  (18,.cells [(.int .i64 (.ofNat 5)),.unk,(.stamp 2),(.stamp 0),.unk,.unk,.unk,.unk,.unk,.unk,.unk,.unk,.unk,.unk,.unk,.unk] 28 false),
  (19,.cells [(.int .i64 (.ofNat 0)),(.int .i64 (.ofNat 0)),(.int .i64 (.ofNat 0)),(.str [])] 44 false),
  (20,.cells [(.int .i64 (.ofNat 0)),.nilslice,(.int .i64 (.ofNat 0)),.nilslice] 82 false)]⟩
noncomputable def B2_4 : ML := ⟨⟨7, 158, [(0,(.ptr 15 0)), (4,(.ptr 18 0)), (6,(.ptr 19 0)), (9,(.ptr 35 0))], [.code (cAt (bodyC Tryz.f7) [1, 1, 1, 0]), .code (cAt (bodyC Tryz.f7) [1, 1, 1, 1])], [], none⟩, [⟨3, 136, [(1,(.ptr 10 0)), (2,(.bool false)), (3,.nilptr), (4,(.int .i64 (.ofNat 4))), (5,(.ptr 15 0)), (34,(.agg [(.int .i64 (.ofNat 5)),(.stamp 3),(.stamp 2),(.stamp 0),.unk,.unk,.unk,.unk,.unk,.unk,.unk,.unk,.unk,.unk,.unk,.unk]))], [.ops (opsAt (bodyC Tryz.f3) [1, 1, 1, 1, 1, 0]) (skipL 1 (opsAt (bodyC Tryz.f3) [1, 1, 1, 1, 1, 0]).toList), .code (cAt (bodyC Tryz.f3) [1, 1, 1, 1, 1, 1])], [], none⟩], 40, [
  (10,.cells [(.int .i64 (.ofNat 5)),.unk,(.stamp 2),(.stamp 0),.unk,.unk,.unk,.unk,.unk,.unk,.unk,.unk,.unk,.unk,.unk,.unk] 28 false),
  (14,.cells [.nilptr] 30 false),
  (15,.cells [.nilptr,.nilptr,(.slice 14 0 1 (.kn 1))] 41 false),
  (18,.cells [(.int .i64 (.ofNat 5)),.unk,(.stamp 2),(.stamp 0),.unk,.unk,.unk,.unk,.unk,.unk,.unk,.unk,.unk,.unk,.unk,.unk] 28 false),
  (19,.cells [(.int .i64 (.ofNat 0)),(.int .i64 (.ofNat 0)),(.int .i64 (.ofNat 0)),(.str [])] 44 false),
  (35,.cells [.unk,(.int .i64 (.ofNat 9))] 35 false)]⟩
noncomputable def C2_4 : ML := ⟨⟨7, 158, [(0,(.ptr 15 0)), (4,(.ptr 18 0)), (6,(.ptr 19 0)), (9,(.ptr 35 0))], [.code (cAt (bodyC Tryz.f7) [1, 1, 1, 1])], [], none⟩, [⟨3, 136, [(1,(.ptr 10 0)), (2,(.bool false)), (3,.nilptr), (4,(.int .i64 (.ofNat 4))), (5,(.ptr 15 0)), (34,(.agg [(.int .i64 (.ofNat 5)),(.stamp 3),(.stamp 2),(.stamp 0),.unk,.unk,.unk,.unk,.unk,.unk,.unk,.unk,.unk,.unk,.unk,.unk]))], [.ops (opsAt (bodyC Tryz.f3) [1, 1, 1, 1, 1, 0]) (skipL 1 (opsAt (bodyC Tryz.f3) [1, 1, 1, 1, 1, 0]).toList), .code (cAt (bodyC Tryz.f3) [1, 1, 1, 1, 1, 1])], [], none⟩], 41, [
  (10,.cells [(.int .i64 (.ofNat 5)),.unk,.unk,(.stamp 0),.unk,.unk,.unk,.unk,.unk,.unk,.unk,.unk,.unk,.unk,.unk,.unk] 28 false),
  (14,.cells [.nilptr] 30 false),
  (15,.cells [.nilptr,.nilptr,(.slice 14 0 1 (.kn 1))] 41 false),
  (18,.cells [(.int .i64 (.ofNat 5)),.unk,.unk,(.stamp 0),.unk,.unk,.unk,.unk,.unk,.unk,.unk,.unk,.unk,.unk,.unk,.unk] 28 false),
  (19,.cells [(.int .i64 (.ofNat 0)),(.int .i64 (.ofNat 0)),(.int .i64 (.ofNat 0)),(.str [])] 44 false),
  (35,.cells [.unk,(.int .i64 (.ofNat 9))] 35 false)]⟩
noncomputable def B1_5 : ML := ⟨⟨22, 20, [(0,(.stamp 3)), (2,(.int .i64 (.ofNat 0))), (3,(.ptr 20 0)), (5,(.stamp 3))], [.ops (opsAt (bodyC Tryz.f22) [1, 0]) (skipL 1 (opsAt (bodyC Tryz.f22) [1, 0]).toList), .code (cAt (bodyC Tryz.f22) [1, 1])], [], none⟩, [⟨7, 158, [(0,(.ptr 15 0)), (2,(.int .i64 (.ofNat 9))), (4,(.ptr 18 0)), (6,(.ptr 19 0)), (16,(.ptr 18 1)), (17,(.stamp 3))], [.ops (opsAt (bodyC Tryz.f7) [1, 0]) (skipL 2 (opsAt (bodyC Tryz.f7) [1, 0]).toList), .code (cAt (bodyC Tryz.f7) [1, 1])], [], none⟩, ⟨3, 136, [(1,(.ptr 10 0)), (2,(.bool false)), (3,.nilptr), (4,(.int .i64 (.ofNat 4))), (5,(.ptr 15 0)), (34,(.agg [(.int .i64 (.ofNat 6)),(.stamp 3),(.stamp 2),(.stamp 0),.unk,.unk,.unk,.unk,.unk,.unk,.unk,.unk,.unk,.unk,.unk,.unk]))], [.ops (opsAt (bodyC Tryz.f3) [1, 1, 1, 1, 1, 0]) (skipL 1 (opsAt (bodyC Tryz.f3) [1, 1, 1, 1, 1, 0]).toList), .code (cAt (bodyC Tryz.f3) [1, 1, 1, 1, 1, 1])], [], none⟩], 22, [
  (10,.cells [(.int .i64 (.ofNat 6)),(.stamp 3),(.stamp 2),(.stamp 0),.unk,.unk,.unk,.unk,.unk,.unk,.unk,.unk,.unk,.unk,.unk,.unk] 28 false),
  (14,.cells [.nilptr] 30 false),
  (15,.cells [.nilptr,.nilptr,(.slice 14 0 1 (.kn 1))] 41 false),
  (18,.cells [(.int .i64 (.ofNat 6)),(.stamp 3),(.stamp 2),(.stamp 0),.unk,.unk,.unk,.unk,.unk,.unk,.unk,.unk,.unk,.unk,.unk,.unk] 28 false),
  (19,.cells [(.int .i64 (.ofNat 0)),(.int .i64 (.ofNat 0)),(.int .i64 (.ofNat 0)),(.str [])] 44 false),
  (20,.cells [(.int .i64 (.ofNat 0)),.nilslice,(.int .i64 (.ofNat 0)),.nilslice] 82 false)]⟩
noncomputable def C1_5 : ML := ⟨⟨22, 20, [(0,.unk), (2,(.int .i64 (.ofNat 0))), (3,(.ptr 20 0))], [.ops (opsAt (bodyC Tryz.f22) [1, 0]) (skipL 3 (opsAt (bodyC Tryz.f22) [1, 0]).toList), .code (cAt (bodyC Tryz.f22) [1, 1])], [], none⟩, [⟨7, 158, [(0,(.ptr 15 0)), (2,(.int .i64 (.ofNat 9))), (4,(.ptr 18 0)), (6,(.ptr 19 0)), (16,(.ptr 18 1)), (17,(.stamp 3))], [.ops (opsAt (bodyC Tryz.f7) [1, 0]) (skipL 2 (opsAt (bodyC Tryz.f7) [1, 0]).toList), .code (cAt (bodyC Tryz.f7) [1, 1])], [], none⟩, ⟨3, 136, [(1,(.ptr 10 0)), (2,(.bool false)), (3,.nilptr), (4,(.int .i64 (.ofNat 4))), (5,(.ptr 15 0)), (34,(.agg [(.int .i64 (.ofNat 6)),(.stamp 3),(.stamp 2),(.stamp 0),.unk,.unk,.unk,.unk,.unk,.unk,.unk,.unk,.unk,.unk,.unk,.unk]))], [.ops (opsAt (bodyC Tryz.f3) [1, 1, 1, 1, 1, 0]) (skipL 1 (opsAt (bodyC Tryz.f3) [1, 1, 1, 1, 1, 0]).toList), .code (cAt (bodyC Tryz.f3) [1, 1, 1, 1, 1, 1])], [], none⟩], 23, [
  (10,.cells [(.int .i64 (.ofNat 6)),.unk,(.stamp 2),(.stamp 0),.unk,.unk,.unk,.unk,.unk,.unk,.unk,.unk,.unk,.unk,.unk,.unk] 28 false),
  (14,.cells [.nilptr] 30 false),
  (15,.cells [.nilptr,.nilptr,(.slice 14 0 1 (.kn 1))] 41 false),
  (18,.cells [(.int .i64 (.ofNat 6)),.unk,(.stamp 2),(.stamp 0),.unk,.unk,.unk,.unk,.unk,.unk,.unk,.unk,.unk,.unk,.unk,.unk] 28 false),
  (19,.cells [(.int .i64 (.ofNat 0)),(.int .i64 (.ofNat 0)),(.int .i64 (.ofNat 0)),(.str [])] 44 false),
  (20,.cells [(.int .i64 (.ofNat 0)),.nilslice,(.int .i64 (.ofNat 0)),.nilslice] 82 false)]⟩
noncomputable def B2_5 : ML := ⟨⟨7, 158, [(0,(.ptr 15 0)), (4,(.ptr 18 0)), (6,(.ptr 19 0)), (9,(.ptr 35 0))], [.code (cAt (bodyC Tryz.f7) [1, 1, 1, 0]), .code (cAt (bodyC Tryz.f7) [1, 1, 1, 1])], [], none⟩, [⟨3, 136, [(1,(.ptr 10 0)), (2,(.bool false)), (3,.nilptr), (4,(.int .i64 (.ofNat 4))), (5,(.ptr 15 0)), (34,(.agg [(.int .i64 (.ofNat 6)),(.stamp 3),(.stamp 2),(.stamp 0),.unk,.unk,.unk,.unk,.unk,.unk,.unk,.unk,.unk,.unk,.unk,.unk]))], [.ops (opsAt (bodyC Tryz.f3) [1, 1, 1, 1, 1, 0]) (skipL 1 (opsAt (bodyC Tryz.f3) [1, 1, 1, 1, 1, 0]).toList), .code (cAt (bodyC Tryz.f3) [1, 1, 1, 1, 1, 1])], [], none⟩], 40, [
  (10,.cells [(.int .i64 (.ofNat 6)),.unk,(.stamp 2),(.stamp 0),.unk,.unk,.unk,.unk,.unk,.unk,.unk,.unk,.unk,.unk,.unk,.unk] 28 false),
  (14,.cells [.nilptr] 30 false),
  (15,.cells [.nilptr,.nilptr,(.slice 14 0 1 (.kn 1))] 41 false),
  (18,.cells [(.int .i64 (.ofNat 6)),.unk,(.stamp 2),(.stamp 0),.unk,.unk,.unk,.unk,.unk,.unk,.unk,.unk,.unk,.unk,.unk,.unk] 28 false),
  (19,.cells [(.int .i64 (.ofNat 0)),(.int .i64 (.ofNat 0)),(.int .i64 (.ofNat 0)),(.str [])] 44 false),
  (35,.cells [.unk,(.int .i64 (.ofNat 9))] 35 false)]⟩
noncomputable def C2_5 : ML := ⟨⟨7, 158, [(0,(.ptr 15 0)), (4,(.ptr 18 0)), (6,(.ptr 19 0)), (9,(.ptr 35 0))], [.code (cAt (bodyC Tryz.f7) [1, 1, 1, 1])], [], none⟩, [⟨3, 136, [(1,(.ptr 10 0)), (2,(.bool false)), (3,.nilptr), (4,(.int .i64 (.ofNat 4))), (5,(.ptr 15 0)), (34,(.agg [(.int .i64 (.ofNat 6)),(.stamp 3),(.stamp 2),(.stamp 0),.unk,.unk,.unk,.unk,.unk,.unk,.unk,.unk,.unk,.unk,.unk,.unk]))], [.ops (opsAt (bodyC Tryz.f3) [1, 1, 1, 1, 1, 0]) (skipL 1 (opsAt (bodyC Tryz.f3) [1, 1, 1, 1, 1, 0]).toList), .code (cAt (bodyC Tryz.f3) [1, 1, 1, 1, 1, 1])], [], none⟩], 41, [
  (10,.cells [(.int .i64 (.ofNat 6)),.unk,.unk,(.stamp 0),.unk,.unk,.unk,.unk,.unk,.unk,.unk,.unk,.unk,.unk,.unk,.unk] 28 false),
  (14,.cells [.nilptr] 30 false),
  (15,.cells [.nilptr,.nilptr,(.slice 14 0 1 (.kn 1))] 41 false),
  (18,.cells [(.int .i64 (.ofNat 6)),.unk,.unk,(.stamp 0),.unk,.unk,.unk,.unk,.unk,.unk,.unk,.unk,.unk,.unk,.unk,.unk] 28 false),
  (19,.cells [(.int .i64 (.ofNat 0)),(.int .i64 (.ofNat 0)),(.int .i64 (.ofNat 0)),(.str [])] 44 false),
  (35,.cells [.unk,(.int .i64 (.ofNat 9))] 35 false)]⟩
noncomputable def B1_6 : ML := ⟨⟨22, 20, [(0,(.stamp 3)), (2,(.int .i64 (.ofNat 0))), (3,(.ptr 20 0)), (5,(.stamp 3))], [.ops (opsAt (bodyC Tryz.f22) [1, 0]) (skipL 1 (opsAt (bodyC Tryz.f22) [1, 0]).toList), .code (cAt (bodyC Tryz.f22) [1, 1])], [], none⟩, [⟨7, 158, [(0,(.ptr 15 0)), (2,(.int .i64 (.ofNat 9))), (4,(.ptr 18 0)), (6,(.ptr 19 0)), (16,(.ptr 18 1)), (17,(.stamp 3))], [.ops (opsAt (bodyC Tryz.f7) [1, 0]) (skipL 2 (opsAt (bodyC Tryz.f7) [1, 0]).toList), .code (cAt (bodyC Tryz.f7) [1, 1])], [], none⟩, ⟨3, 136, [(1,(.ptr 10 0)), (2,(.bool false)), (3,.nilptr), (4,(.int .i64 (.ofNat 4))), (5,(.ptr 15 0)), (34,(.agg [(.int .i64 (.ofNat 7)),(.stamp 3),(.stamp 2),(.stamp 0),.unk,.unk,.unk,.unk,.unk,.unk,.unk,.unk,.unk,.unk,.unk,.unk]))], [.ops (opsAt (bodyC Tryz.f3) [1, 1, 1, 1, 1, 0]) (skipL 1 (opsAt (bodyC Tryz.f3) [1, 1, 1, 1, 1, 0]).toList), .code (cAt (bodyC Tryz.f3) [1, 1, 1, 1, 1, 1])], [], none⟩], 22, [
  (10,.cells [(.int .i64 (.ofNat 7)),(.stamp 3),(.stamp 2),(.stamp 0),.unk,.unk,.unk,.unk,.unk,.unk,.unk,.unk,.unk,.unk,.unk,.unk] 28 false),
  (14,.cells [.nilptr] 30 false),
  (15,.cells [.nilptr,.nilptr,(.slice 14 0 1 (.kn 1))] 41 false),
  (18,.cells [(.int .i64 (.ofNat 7)),(.stamp 3),(.stamp 2),(.stamp 0),.unk,.unk,.unk,.unk,.unk,.unk,.unk,.unk,.unk,.unk,.unk,.unk] 28 false),
  (19,.cells [(.int .i64 (.ofNat 0)),(.int .i64 (.ofNat 0)),(.int .i64 (.ofNat 0)),(.str [])] 44 false),
  (20,.cells [(.int .i64 (.ofNat 0)),.nilslice,(.int .i64 (.ofNat 0)),.nilslice] 82 false)]⟩
noncomputable def C1_6 : ML := ⟨⟨22, 20, [(0,.unk), (2,(.int .i64 (.ofNat 0))), (3,(.ptr 20 0))], [.ops (opsAt (bodyC Tryz.f22) [1, 0]) (skipL 3 (opsAt (bodyC Tryz.f22) [1, 0]).toList), .code (cAt (bodyC Tryz.f22) [1, 1])], [], none⟩, [⟨7, 158, [(0,(.ptr 15 0)), (2,(.int .i64 (.ofNat 9))), (4,(.ptr 18 0)), (6,(.ptr 19 0)), (16,(.ptr 18 1)), (17,(.stamp 3))], [.ops (opsAt (bodyC Tryz.f7) [1, 0]) (skipL 2 (opsAt (bodyC Tryz.f7) [1, 0]).toList), .code (cAt (bodyC Tryz.f7) [1, 1])], [], none⟩, ⟨3, 136, [(1,(.ptr 10 0)), (2,(.bool false)), (3,.nilptr), (4,(.int .i64 (.ofNat 4))), (5,(.ptr 15 0)), (34,(.agg [(.int .i64 (.ofNat 7)),(.stamp 3),(.stamp 2),(.stamp 0),.unk,.unk,.unk,.unk,.unk,.unk,.unk,.unk,.unk,.unk,.unk,.unk]))], [.ops (opsAt (bodyC Tryz.f3) [1, 1, 1, 1, 1, 0]) (skipL 1 (opsAt (bodyC Tryz.f3) [1, 1, 1, 1, 1, 0]).toList), .code (cAt (bodyC Tryz.f3) [1, 1, 1, 1, 1, 1])], [], none⟩], 23, [
  (10,.cells [(.int .i64 (.ofNat 7)),.unk,(.stamp 2),(.stamp 0),.unk,.unk,.unk,.unk,.unk,.unk,.unk,.unk,.unk,.unk,.unk,.unk] 28 false),
  (14,.cells [.nilptr] 30 false),
  (15,.cells [.nilptr,.nilptr,(.slice 14 0 1 (.kn 1))] 41 false),
  (18,.cells [(.int .i64 (.ofNat 7)),.unk,(.stamp 2),(.stamp 0),.unk,.unk,.unk,.unk,.unk,.unk,.unk,.unk,.unk,.unk,.unk,.unk] 28 false),
  (19,.cells [(.int .i64 (.ofNat 0)),(.int .i64 (.ofNat 0)),(.int .i64 (.ofNat 0)),(.str [])] 44 false),
  (20,.cells [(.int .i64 (.ofNat 0)),.nilslice,(.int .i64 (.ofNat 0)),.nilslice] 82 false)]⟩
noncomputable def B2_6 : ML := ⟨⟨7, 158, [(0,(.ptr 15 0)), (4,(.ptr 18 0)), (6,(.ptr 19 0)), (9,(.ptr 35 0))], [.code (cAt (bodyC Tryz.f7) [1, 1, 1, 0]), .code (cAt (bodyC Tryz.f7) [1, 1, 1, 1])], [], none⟩, [⟨3, 136, [(1,(.ptr 10 0)), (2,(.bool false)), (3,.nilptr), (4,(.int .i64 (.ofNat 4))), (5,(.ptr 15 0)), (34,(.agg [(.int .i64 (.ofNat 7)),(.stamp 3),(.stamp 2),(.stamp 0),.unk,.unk,.unk,.unk,.unk,.unk,.unk,.unk,.unk,.unk,.unk,.unk]))], [.ops (opsAt (bodyC Tryz.f3) [1, 1, 1, 1, 1, 0]) (skipL 1 (opsAt (bodyC Tryz.f3) [1, 1, 1, 1, 1, 0]).toList), .code (cAt (bodyC Tryz.f3) [1, 1, 1, 1, 1, 1])], [], none⟩], 40, [
  (10,.cells [(.int .i64 (.ofNat 7)),.unk,(.stamp 2),(.stamp 0),.unk,.unk,.unk,.unk,.unk,.unk,.unk,.unk,.unk,.unk,.unk,.unk] 28 false),
  (14,.cells [.nilptr] 30 false),
  (15,.cells [.nilptr,.nilptr,(.slice 14 0 1 (.kn 1))] 41 false),
  (18,.cells [(.int .i64 (.ofNat 7)),.unk,(.stamp 2),(.stamp 0),.unk,.unk,.unk,.unk,.unk,.unk,.unk,.unk,.unk,.unk,.unk,.unk] 28 false),
  (19,.cells [(.int .i64 (.ofNat 0)),(.int .i64 (.ofNat 0)),(.int .i64 (.ofNat 0)),(.str [])] 44 false),
  (35,.cells [.unk,(.int .i64 (.ofNat 9))] 35 false)]⟩
noncomputable def C2_6 : ML := ⟨⟨7, 158, [(0,(.ptr 15 0)), (4,(.ptr 18 0)), (6,(.ptr 19 0)), (9,(.ptr 35 0))], [.code (cAt (bodyC Tryz.f7) [1, 1, 1, 1])], [], none⟩, [⟨3, 136, [(1,(.ptr 10 0)), (2,(.bool false)), (3,.nilptr), (4,(.int .i64 (.ofNat 4))), (5,(.ptr 15 0)), (34,(.agg [(.int .i64 (.ofNat 7)),(.stamp 3),(.stamp 2),(.stamp 0),.unk,.unk,.unk,.unk,.unk,.unk,.unk,.unk,.unk,.unk,.unk,.unk]))], [.ops (opsAt (bodyC Tryz.f3) [1, 1, 1, 1, 1, 0]) (skipL 1 (opsAt (bodyC Tryz.f3) [1, 1, 1, 1, 1, 0]).toList), .code (cAt (bodyC Tryz.f3) [1, 1, 1, 1, 1, 1])], [], none⟩], 41, [
  (10,.cells [(.int .i64 (.ofNat 7)),.unk,.unk,(.stamp 0),.unk,.unk,.unk,.unk,.unk,.unk,.unk,.unk,.unk,.unk,.unk,.unk] 28 false),
  (14,.cells [.nilptr] 30 false),
  (15,.cells [.nilptr,.nilptr,(.slice 14 0 1 (.kn 1))] 41 false),
  (18,.cells [(.int .i64 (.ofNat 7)),.unk,.unk,(.stamp 0),.unk,.unk,.unk,.unk,.unk,.unk,.unk,.unk,.unk,.unk,.unk,.unk] 28 false),
  (19,.cells [(.int .i64 (.ofNat 0)),(.int .i64 (.ofNat 0)),(.int .i64 (.ofNat 0)),(.str [])] 44 false),
  (35,.cells [.unk,(.int .i64 (.ofNat 9))] 35 false)]⟩
noncomputable def B1_7 : ML := ⟨⟨22, 20, [(0,(.stamp 3)), (2,(.int .i64 (.ofNat 0))), (3,(.ptr 20 0)), (5,(.stamp 3))], [.ops (opsAt (bodyC Tryz.f22) [1, 0]) (skipL 1 (opsAt (bodyC Tryz.f22) [1, 0]).toList), .code (cAt (bodyC Tryz.f22) [1, 1])], [], none⟩, [⟨7, 158, [(0,(.ptr 15 0)), (2,(.int .i64 (.ofNat 9))), (4,(.ptr 18 0)), (6,(.ptr 19 0)), (16,(.ptr 18 1)), (17,(.stamp 3))], [.ops (opsAt (bodyC Tryz.f7) [1, 0]) (skipL 2 (opsAt (bodyC Tryz.f7) [1, 0]).toList), .code (cAt (bodyC Tryz.f7) [1, 1])], [], none⟩, ⟨3, 136, [(1,(.ptr 10 0)), (2,(.bool false)), (3,.nilptr), (4,(.int .i64 (.ofNat 4))), (5,(.ptr 15 0)), (34,(.agg [(.int .i64 (.ofNat 8)),(.stamp 3),(.stamp 2),(.stamp 0),.unk,.unk,.unk,.unk,.unk,.unk,.unk,.unk,.unk,.unk,.unk,.unk]))], [.ops (opsAt (bodyC Tryz.f3) [1, 1, 1, 1, 1, 0]) (skipL 1 (opsAt (bodyC Tryz.f3) [1, 1, 1, 1, 1, 0]).toList), .code (cAt (bodyC Tryz.f3) [1, 1, 1, 1, 1, 1])], [], none⟩], 22, [
  (10,.cells [(.int .i64 (.ofNat 8)),(.stamp 3),(.stamp 2),(.stamp 0),.unk,.unk,.unk,.unk,.unk,.unk,.unk,.unk,.unk,.unk,.unk,.unk] 28 false),
  (14,.cells [.nilptr] 30 false),
  (15,.cells [.nilptr,.nilptr,(.slice 14 0 1 (.kn 1))] 41 false),
  (18,.cells [(.int .i64 (.ofNat 8)),(.stamp 3),(.stamp 2),(.stamp 0),.unk,.unk,.unk,.unk,.unk,.unk,.unk,.unk,.unk,.unk,.unk,.unk] 28 false),
  (19,.cells [(.int .i64 (.ofNat 0)),(.int .i64 (.ofNat 0)),(.int .i64 (.ofNat 0)),(.str [])] 44 false),
  (20,.cells [(.int .i64 (.ofNat 0)),.nilslice,(.int .i64 (.ofNat 0)),.nilslice] 82 false)]⟩
noncomputable def C1_7 : ML := ⟨⟨22, 20, [(0,.unk), (2,(.int .i64 (.ofNat 0))), (3,(.ptr 20 0))], [.ops (opsAt (bodyC Tryz.f22) [1, 0]) (skipL 3 (opsAt (bodyC Tryz.f22) [1, 0]).toList), .code (cAt (bodyC Tryz.f22) [1, 1])], [], none⟩, [⟨7, 158, [(0,(.ptr 15 0)), (2,(.int .i64 (.ofNat 9))), (4,(.ptr 18 0)), (6,(.ptr 19 0)), (16,(.ptr 18 1)), (17,(.stamp 3))], [.ops (opsAt (bodyC Tryz.f7) [1, 0]) (skipL 2 (opsAt (bodyC Tryz.f7) [1, 0]).toList), .code (cAt (bodyC Tryz.f7) [1, 1])], [], none⟩, ⟨3, 136, [(1,(.ptr 10 0)), (2,(.bool false)), (3,.nilptr), (4,(.int .i64 (.ofNat 4))), (5,(.ptr 15 0)), (34,(.agg [(.int .i64 (.ofNat 8)),(.stamp 3),(.stamp 2),(.stamp 0),.unk,.unk,.unk,.unk,.unk,.unk,.unk,.unk,.unk,.unk,.unk,.unk]))], [.ops (opsAt (bodyC Tryz.f3) [1, 1, 1, 1, 1, 0]) (skipL 1 (opsAt (bodyC Tryz.f3) [1, 1, 1, 1, 1, 0]).toList), .code (cAt (bodyC Tryz.f3) [1, 1, 1, 1, 1, 1])], [], none⟩], 23, [
  (10,.cells [(.int .i64 (.ofNat 8)),.unk,(.stamp 2),(.stamp 0),.unk,.unk,.unk,.unk,.unk,.unk,.unk,.unk,.unk,.unk,.unk,.unk] 28 false),
  (14,.cells [.nilptr] 30 false),
  (15,.cells [.nilptr,.nilptr,(.slice 14 0 1 (.kn 1))] 41 false),
  (18,.cells [(.int .i64 (.ofNat 8)),.unk,(.stamp 2),(.stamp 0),.unk,.unk,.unk,.unk,.unk,.unk,.unk,.unk,.unk,.unk,.unk,.unk] 28 false),
  (19,.cells [(.int .i64 (.ofNat 0)),(.int .i64 (.ofNat 0)),(.int .i64 (.ofNat 0)),(.str [])] 44 false),
  (20,.cells [(.int .i64 (.ofNat 0)),.nilslice,(.int .i64 (.ofNat 0)),.nilslice] 82 false)]⟩
noncomputable def B2_7 : ML := ⟨⟨7, 158, [(0,(.ptr 15 0)), (4,(.ptr 18 0)), (6,(.ptr 19 0)), (9,(.ptr 35 0))], [.code (cAt (bodyC Tryz.f7) [1, 1, 1, 0]), .code (cAt (bodyC Tryz.f7) [1, 1, 1, 1])], [], none⟩, [⟨3, 136, [(1,(.ptr 10 0)), (2,(.bool false)), (3,.nilptr), (4,(.int .i64 (.ofNat 4))), (5,(.ptr 15 0)), (34,(.agg [(.int .i64 (.ofNat 8)),(.stamp 3),(.stamp 2),(.stamp 0),.unk,.unk,.unk,.unk,.unk,.unk,.unk,.unk,.unk,.unk,.unk,.unk]))], [.ops (opsAt (bodyC Tryz.f3) [1, 1, 1, 1, 1, 0]) (skipL 1 (opsAt (bodyC Tryz.f3) [1, 1, 1, 1, 1, 0]).toList), .code (cAt (bodyC Tryz.f3) [1, 1, 1, 1, 1, 1])], [], none⟩], 40, [
  (10,.cells [(.int .i64 (.ofNat 8)),.unk,(.stamp 2),(.stamp 0),.unk,.unk,.unk,.unk,.unk,.unk,.unk,.unk,.unk,.unk,.unk,.unk] 28 false),
  (14,.cells [.nilptr] 30 false),
  (15,.cells [.nilptr,.nilptr,(.slice 14 0 1 (.kn 1))] 41 false),
  (18,.cells [(.int .i64 (.ofNat 8)),.unk,(.stamp 2),(.stamp 0),.unk,.unk,.unk,.unk,.unk,.unk,.unk,.unk,.unk,.unk,.unk,.unk] 28 false),
  (19,.cells [(.int .i64 (.ofNat 0)),(.int .i64 (.ofNat 0)),(.int .i64 (.ofNat 0)),(.str [])] 44 false),
  (35,.cells [.unk,(.int .i64 (.ofNat 9))] 35 false)]⟩
noncomputable def C2_7 : ML := ⟨⟨7, 158, [(0,(.ptr 15 0)), (4,(.ptr 18 0)), (6,(.ptr 19 0)), (9,(.ptr 35 0))], [.code (cAt (bodyC Tryz.f7) [1, 1, 1, 1])], [], none⟩, [⟨3, 136, [(1,(.ptr 10 0)), (2,(.bool false)), (3,.nilptr), (4,(.int .i64 (.ofNat 4))), (5,(.ptr 15 0)), (34,(.agg [(.int .i64 (.ofNat 8)),(.stamp 3),(.stamp 2),(.stamp 0),.unk,.unk,.unk,.unk,.unk,.unk,.unk,.unk,.unk,.unk,.unk,.unk]))], [.ops (opsAt (bodyC Tryz.f3) [1, 1, 1, 1, 1, 0]) (skipL 1 (opsAt (bodyC Tryz.f3) [1, 1, 1, 1, 1, 0]).toList), .code (cAt (bodyC Tryz.f3) [1, 1, 1, 1, 1, 1])], [], none⟩], 41, [
  (10,.cells [(.int .i64 (.ofNat 8)),.unk,.unk,(.stamp 0),.unk,.unk,.unk,.unk,.unk,.unk,.unk,.unk,.unk,.unk,.unk,.unk] 28 false),
  (14,.cells [.nilptr] 30 false),
  (15,.cells [.nilptr,.nilptr,(.slice 14 0 1 (.kn 1))] 41 false),
  (18,.cells [(.int .i64 (.ofNat 8)),.unk,.unk,(.stamp 0),.unk,.unk,.unk,.unk,.unk,.unk,.unk,.unk,.unk,.unk,.unk,.unk] 28 false),
  (19,.cells [(.int .i64 (.ofNat 0)),(.int .i64 (.ofNat 0)),(.int .i64 (.ofNat 0)),(.str [])] 44 false),
  (35,.cells [.unk,(.int .i64 (.ofNat 9))] 35 false)]⟩
noncomputable def B1_8 : ML := ⟨⟨22, 20, [(0,(.stamp 3)), (2,(.int .i64 (.ofNat 0))), (3,(.ptr 20 0)), (5,(.stamp 3))], [.ops (opsAt (bodyC Tryz.f22) [1, 0]) (skipL 1 (opsAt (bodyC Tryz.f22) [1, 0]).toList), .code (cAt (bodyC Tryz.f22) [1, 1])], [], none⟩, [⟨7, 158, [(0,(.ptr 15 0)), (2,(.int .i64 (.ofNat 9))), (4,(.ptr 18 0)), (6,(.ptr 19 0)), (16,(.ptr 18 1)), (17,(.stamp 3))], [.ops (opsAt (bodyC Tryz.f7) [1, 0]) (skipL 2 (opsAt (bodyC Tryz.f7) [1, 0]).toList), .code (cAt (bodyC Tryz.f7) [1, 1])], [], none⟩, ⟨3, 136, [(1,(.ptr 10 0)), (2,(.bool false)), (3,.nilptr), (4,(.int .i64 (.ofNat 4))), (5,(.ptr 15 0)), (34,(.agg [(.int .i64 (.ofNat 9)),(.stamp 3),(.stamp 2),(.stamp 0),.unk,.unk,.unk,.unk,.unk,.unk,.unk,.unk,.unk,.unk,.unk,.unk]))], [.ops (opsAt (bodyC Tryz.f3) [1, 1, 1, 1, 1, 0]) (skipL 1 (opsAt (bodyC Tryz.f3) [1, 1, 1, 1, 1, 0]).toList), .code (cAt (bodyC Tryz.f3) [1, 1, 1, 1, 1, 1])], [], none⟩], 22, [
  (10,.cells [(.int .i64 (.ofNat 9)),(.stamp 3),(.stamp 2),(.stamp 0),.unk,.unk,.unk,.unk,.unk,.unk,.unk,.unk,.unk,.unk,.unk,.unk] 28 false),
  (14,.cells [.nilptr] 30 false),
  (15,.cells [.nilptr,.nilptr,(.slice 14 0 1 (.kn 1))] 41 false),
  (18,.cells [(.int .i64 (.ofNat 9)),(.stamp 3),(.stamp 2),(.stamp 0),.unk,.unk,.unk,.unk,.unk,.unk,.unk,.unk,.unk,.unk,.unk,.unk] 28 false),
  (19,.cells [(.int .i64 (.ofNat 0)),(.int .i64 (.ofNat 0)),(.int .i64 (.ofNat 0)),(.str [])] 44 false),
  (20,.cells [(.int .i64 (.ofNat 0)),.nilslice,(.int .i64 (.ofNat 0)),.nilslice] 82 false)]⟩
noncomputable def C1_8 : ML := ⟨⟨22, 20, [(0,.unk), (2,(.int .i64 (.ofNat 0))), (3,(.ptr 20 0))], [.ops (opsAt (bodyC Tryz.f22) [1, 0]) (skipL 3 (opsAt (bodyC Tryz.f22) [1, 0]).toList), .code (cAt (bodyC Tryz.f22) [1, 1])], [], none⟩, [⟨7, 158, [(0,(.ptr 15 0)), (2,(.int .i64 (.ofNat 9))), (4,(.ptr 18 0)), (6,(.ptr 19 0)), (16,(.ptr 18 1)), (17,(.stamp 3))], [.ops (opsAt (bodyC Tryz.f7) [1, 0]) (skipL 2 (opsAt (bodyC Tryz.f7) [1, 0]).toList), .code (cAt (bodyC Tryz.f7) [1, 1])], [], none⟩, ⟨3, 136, [(1,(.ptr 10 0)), (2,(.bool false)), (3,.nilptr), (4,(.int .i64 (.ofNat 4))), (5,(.ptr 15 0)), (34,(.agg [(.int .i64 (.ofNat 9)),(.stamp 3),(.stamp 2),(.stamp 0),.unk,.unk,.unk,.unk,.unk,.unk,.unk,.unk,.unk,.unk,.unk,.unk]))], [.ops (opsAt (bodyC Tryz.f3) [1, 1, 1, 1, 1, 0]) (skipL 1 (opsAt (bodyC Tryz.f3) [1, 1, 1, 1, 1, 0]).toList), .code (cAt (bodyC Tryz.f3) [1, 1, 1, 1, 1, 1])], [], none⟩], 23, [
  (10,.cells [(.int .i64 (.ofNat 9)),.unk,(.stamp 2),(.stamp 0),.unk,.unk,.unk,.unk,.unk,.unk,.unk,.unk,.unk,.unk,.unk,.unk] 28 false),
  (14,.cells [.nilptr] 30 false),
  (15,.cells [.nilptr,.nilptr,(.slice 14 0 1 (.kn 1))] 41 false),
  (18,.cells [(.int .i64 (.ofNat 9)),.unk,(.stamp 2),(.stamp 0),.unk,.unk,.unk,.unk,.unk,.unk,.unk,.unk,.unk,.unk,.unk,.unk] 28 false),
  (19,.cells [(.int .i64 (.ofNat 0)),(.int .i64 (.ofNat 0)),(.int .i64 (.ofNat 0)),(.str [])] 44 false),
  (20,.cells [(.int .i64 (.ofNat 0)),.nilslice,(.int .i64 (.ofNat 0)),.nilslice] 82 false)]⟩
noncomputable def B2_8 : ML := ⟨⟨7, 158, [(0,(.ptr 15 0)), (4,(.ptr 18 0)), (6,(.ptr 19 0)), (9,(.ptr 35 0))], [.code (cAt (bodyC Tryz.f7) [1, 1, 1, 0]), .code (cAt (bodyC Tryz.f7) [1, 1, 1, 1])], [], none⟩, [⟨3, 136, [(1,(.ptr 10 0)), (2,(.bool false)), (3,.nilptr), (4,(.int .i64 (.ofNat 4))), (5,(.ptr 15 0)), (34,(.agg [(.int .i64 (.ofNat 9)),(.stamp 3),(.stamp 2),(.stamp 0),.unk,.unk,.unk,.unk,.unk,.unk,.unk,.unk,.unk,.unk,.unk,.unk]))], [.ops (opsAt (bodyC Tryz.f3) [1, 1, 1, 1, 1, 0]) (skipL 1 (opsAt (bodyC Tryz.f3) [1, 1, 1, 1, 1, 0]).toList), .code (cAt (bodyC Tryz.f3) [1, 1, 1, 1, 1, 1])], [], none⟩], 40, [
  (10,.cells [(.int .i64 (.ofNat 9)),.unk,(.stamp 2),(.stamp 0),.unk,.unk,.unk,.unk,.unk,.unk,.unk,.unk,.unk,.unk,.unk,.unk] 28 false),
  (14,.cells [.nilptr] 30 false),
  (15,.cells [.nilptr,.nilptr,(.slice 14 0 1 (.kn 1))] 41 false),
  (18,.cells [(.int .i64 (.ofNat 9)),.unk,(.stamp 2),(.stamp 0),.unk,.unk,.unk,.unk,.unk,.unk,.unk,.unk,.unk,.unk,.unk,.unk] 28 false),
  (19,.cells [(.int .i64 (.ofNat 0)),(.int .i64 (.ofNat 0)),(.int .i64 (.ofNat 0)),(.str [])] 44 false),
  (35,.cells [.unk,(.int .i64 (.ofNat 9))] 35 false)]⟩
noncomputable def C2_8 : ML := ⟨⟨7, 158, [(0,(.ptr 15 0)), (4,(.ptr 18 0)), (6,(.ptr 19 0)), (9,(.ptr 35 0))], [.code (cAt (bodyC Tryz.f7) [1, 1, 1, 1])], [], none⟩, [⟨3, 136, [(1,(.ptr 10 0)), (2,(.bool false)), (3,.nilptr), (4,(.int .i64 (.ofNat 4))), (5,(.ptr 15 0)), (34,(.agg [(.int .i64 (.ofNat 9)),(.stamp 3),(.stamp 2),(.stamp 0),.unk,.unk,.unk,.unk,.unk,.unk,.unk,.unk,.unk,.unk,.unk,.unk]))], [.ops (opsAt (bodyC Tryz.f3) [1, 1, 1, 1, 1, 0]) (skipL 1 (opsAt (bodyC Tryz.f3) [1, 1, 1, 1, 1, 0]).toList), .code (cAt (bodyC Tryz.f3) [1, 1, 1, 1, 1, 1])], [], none⟩], 41, [
  (10,.cells [(.int .i64 (.ofNat 9)),.unk,.unk,(.stamp 0),.unk,.unk,.unk,.unk,.unk,.unk,.unk,.unk,.unk,.unk,.unk,.unk] 28 false),
  (14,.cells [.nilptr] 30 false),
  (15,.cells [.nilptr,.nilptr,(.slice 14 0 1 (.kn 1))] 41 false),
  (18,.cells [(.int .i64 (.ofNat 9)),.unk,.unk,(.stamp 0),.unk,.unk,.unk,.unk,.unk,.unk,.unk,.unk,.unk,.unk,.unk,.unk] 28 false),
  (19,.cells [(.int .i64 (.ofNat 0)),(.int .i64 (.ofNat 0)),(.int .i64 (.ofNat 0)),(.str [])] 44 false),
  (35,.cells [.unk,(.int .i64 (.ofNat 9))] 35 false)]⟩
noncomputable def D1 : ML := ⟨⟨10, 74, [(0,.nilptr), (1,.nilptr), (11,(.tup [(.ptr 240 0),(.ptr 407 0)]))], [.ops (opsAt (bodyC Tryz.f10) [1, 0]) (skipL 1 (opsAt (bodyC Tryz.f10) [1, 0]).toList), .code (cAt (bodyC Tryz.f10) [1, 1])], [], none⟩, [⟨3, 136, [(1,(.ptr 10 0)), (2,(.bool false)), (3,.nilptr), (4,(.int .i64 (.ofNat 4))), (6,(.ptr 200 0)), (7,.nilslice), (8,(.int .i64 (.ofNat 4))), (12,(.int .i64 (.ofNat 4)))], [.ops (opsAt (bodyC Tryz.f3) [1, 1, 1, 1, 1, 1, 1, 1, 0]) (skipL 0 (opsAt (bodyC Tryz.f3) [1, 1, 1, 1, 1, 1, 1, 1, 0]).toList), .code (cAt (bodyC Tryz.f3) [1, 1, 1, 1, 1, 1, 1, 1, 1])], [], none⟩], 1718, [
  (10,.cells [.unk,.unk,.unk,(.stamp 0),.unk,.unk,.unk,.unk,.unk,.unk,.unk,.unk,.unk,.unk,.unk,.unk] 28 false),
  (200,.cells [(.int .i64 (.ofNat 4)),(.int .i64 (.ofNat 0)),(.int .i64 (.ofNat 0)),(.str [])] 44 false),
  (221,.cells [(.int .i64 (.ofNat 1)),(.int .i64 (.ofNat 1)),(.int .i64 (.ofNat 1099511627776)),(.int .i64 (.ofNat 1048582)),(.int .i64 (.ofNat 1)),(.int .i64 (.ofNat 2)),.nilslice,(.slice 1714 0 7 (.un 1 7))] 249 false),
  (222,.map [⟨223,(.int .i64 (.ofNat 1)),(.ptr 221 0)⟩,⟨254,(.int .i64 (.ofNat 2)),(.ptr 253 0)⟩,⟨267,(.int .i64 (.ofNat 3)),(.ptr 266 0)⟩,⟨573,(.int .i64 (.ofNat 500)),(.ptr 572 0)⟩,⟨750,(.int .i64 (.ofNat 501)),(.ptr 749 0)⟩,⟨980,(.int .i64 (.ofNat 30)),(.ptr 979 0)⟩,⟨1224,(.int .i64 (.ofNat 31)),(.ptr 1223 0)⟩,⟨1468,(.int .i64 (.ofNat 32)),(.ptr 1467 0)⟩,⟨1712,(.int .i64 (.ofNat 33)),(.ptr 1711 0)⟩]),
  (224,.cells [(.map 222),(.int .i64 (.ofNat 1))] 276 false),
  (225,.map []),
  (226,.map []),
  (227,.cells [(.int .i64 (.ofNat 0)),(.map 225),(.map 226)] 305 false),
  (228,.map [⟨235,(.int .i64 (.ofNat 3)),(.ptr 234 0)⟩,⟨232,(.int .i64 (.ofNat 2)),(.ptr 231 0)⟩,⟨230,(.int .i64 (.ofNat 1)),(.ptr 229 0)⟩,⟨576,(.int .i64 (.ofNat 500)),(.ptr 423 0)⟩,⟨753,(.int .i64 (.ofNat 501)),(.ptr 595 0)⟩,⟨983,(.int .i64 (.ofNat 30)),(.ptr 781 0)⟩,⟨1227,(.int .i64 (.ofNat 31)),(.ptr 998 0)⟩,⟨1471,(.int .i64 (.ofNat 32)),(.ptr 1242 0)⟩,⟨1715,(.int .i64 (.ofNat 33)),(.ptr 1486 0)⟩]),
  (229,.cells [.nilptr,.nilslice,(.int .i64 (.ofNat 0)),.nilslice,(.int .i64 (.ofNat 0)),(.int .i64 (.ofNat 0)),(.int .u64 (.ofNat 0)),(.int .u64 (.ofNat 0)),(.int .u64 (.ofNat 0)),(.int .u64 (.ofNat 0)),(.int .u64 (.ofNat 0)),(.int .u64 (.ofNat 0)),(.int .u64 (.ofNat 0)),(.int .u64 (.ofNat 0)),(.int .u64 (.ofNat 0)),(.int .u64 (.ofNat 0)),(.int .u64 (.ofNat 0)),(.int .u64 (.ofNat 0)),(.int .u64 (.ofNat 0)),(.int .u64 (.ofNat 0)),(.int .u64 (.ofNat 0)),(.int .u64 (.ofNat 0)),(.int .u64 (.ofNat 0)),(.int .u64 (.ofNat 0)),(.int .i64 (.ofNat 0)),(.str []),(.str [])] 182 false),
  (231,.cells [.nilptr,.nilslice,(.int .i64 (.ofNat 0)),.nilslice,(.int .i64 (.ofNat 0)),(.int .i64 (.ofNat 0)),(.int .u64 (.ofNat 0)),(.int .u64 (.ofNat 0)),(.int .u64 (.ofNat 0)),(.int .u64 (.ofNat 0)),(.int .u64 (.ofNat 0)),(.int .u64 (.ofNat 0)),(.int .u64 (.ofNat 0)),(.int .u64 (.ofNat 0)),(.int .u64 (.ofNat 0)),(.int .u64 (.ofNat 0)),(.int .u64 (.ofNat 0)),(.int .u64 (.ofNat 0)),(.int .u64 (.ofNat 0)),(.int .u64 (.ofNat 0)),(.int .u64 (.ofNat 0)),(.int .u64 (.ofNat 0)),(.int .u64 (.ofNat 0)),(.int .u64 (.ofNat 0)),(.int .i64 (.ofNat 0)),(.str []),(.str [])] 182 false),
  (234,.cells [.nilptr,.nilslice,(.int .i64 (.ofNat 4)),.nilslice,(.int .i64 (.ofNat 0)),(.int .i64 (.ofNat 0)),(.int .u64 (.ofNat 0)),(.int .u64 (.ofNat 0)),(.int .u64 (.ofNat 0)),(.int .u64 (.ofNat 0)),(.int .u64 (.ofNat 0)),(.int .u64 (.ofNat 0)),(.int .u64 (.ofNat 0)),(.int .u64 (.ofNat 0)),(.int .u64 (.ofNat 0)),(.int .u64 (.ofNat 0)),(.int .u64 (.ofNat 0)),(.int .u64 (.ofNat 0)),(.int .u64 (.ofNat 0)),(.int .u64 (.ofNat 0)),(.int .u64 (.ofNat 0)),(.int .u64 (.ofNat 0)),(.int .u64 (.ofNat 0)),(.int .u64 (.ofNat 0)),(.int .i64 (.ofNat 0)),(.str []),(.str [])] 182 false),
  (236,.map [⟨239,(.int .i64 (.ofNat 3)),(.bool true)⟩,⟨238,(.int .i64 (.ofNat 2)),(.bool true)⟩,⟨237,(.int .i64 (.ofNat 1)),(.bool true)⟩,⟨329,(.int .i64 (.ofNat 20)),(.bool true)⟩,⟨403,(.int .i64 (.ofNat 21)),(.bool true)⟩,⟨577,(.int .i64 (.ofNat 500)),(.bool true)⟩,⟨754,(.int .i64 (.ofNat 501)),(.bool true)⟩,⟨984,(.int .i64 (.ofNat 30)),(.bool true)⟩,⟨1228,(.int .i64 (.ofNat 31)),(.bool true)⟩,⟨1472,(.int .i64 (.ofNat 32)),(.bool true)⟩,⟨1716,(.int .i64 (.ofNat 33)),(.bool true)⟩]),
  (240,.cells [(.ptr 224 0),(.ptr 227 0),(.map 228),(.map 236),(.int .i64 (.ofNat 0))] 174 false),
  (253,.cells [(.int .i64 (.ofNat 2)),(.int .i64 (.ofNat 6)),(.int .i64 (.ofNat 1)),(.int .i64 (.ofNat 0)),(.int .i64 (.ofNat 1)),(.int .i64 (.ofNat 2)),.nilslice,.nilslice] 249 false),
  (266,.cells [(.int .i64 (.ofNat 3)),(.int .i64 (.ofNat 4)),(.int .i64 (.ofNat 1)),(.int .i64 (.ofNat 0)),(.int .i64 (.ofNat 1)),(.int .i64 (.ofNat 2)),(.slice 402 0 2 (.un 2 2)),.nilslice] 249 false),
  (402,.cells [(.int .i64 (.ofNat 20)),(.int .i64 (.ofNat 0)),(.int .i64 (.ofNat 21)),(.int .i64 (.ofNat 0))] 149 false),
  (407,.cells [(.ptr 240 0),(.int .i64 (.ofNat 500))] 233 false),
  (423,.cells [.nilptr,.nilslice,(.int .i64 (.ofNat 0)),.nilslice,(.int .i64 (.ofNat 0)),(.int .i64 (.ofNat 0)),(.int .u64 (.ofNat 0)),(.int .u64 (.ofNat 0)),(.int .u64 (.ofNat 0)),(.int .u64 (.ofNat 0)),(.int .u64 (.ofNat 0)),(.int .u64 (.ofNat 0)),(.int .u64 (.ofNat 0)),(.int .u64 (.ofNat 0)),(.int .u64 (.ofNat 0)),(.int .u64 (.ofNat 0)),(.int .u64 (.ofNat 0)),(.int .u64 (.ofNat 0)),(.int .u64 (.ofNat 0)),(.int .u64 (.ofNat 0)),(.int .u64 (.ofNat 0)),(.int .u64 (.ofNat 0)),(.int .u64 (.ofNat 0)),(.int .u64 (.ofNat 0)),(.int .i64 (.ofNat 0)),(.str []),(.str [])] 182 false),
  (572,.cells [(.int .i64 (.ofNat 500)),(.int .i64 (.ofNat 1)),(.int .i64 (.ofNat 1048576)),(.int .i64 (.ofNat 4096)),(.int .i64 (.ofNat 1)),(.int .i64 (.ofNat 2)),.nilslice,(.slice 752 0 1 (.un 1 1))] 249 false),
  (593,.cells [(.int .i64 (.ofNat 0)),.nilslice,.nilslice] 263 false),
  (595,.cells [(.ptr 593 0),.nilslice,(.int .i64 (.ofNat 0)),.nilslice,(.int .i64 (.ofNat 0)),(.int .i64 (.ofNat 0)),(.int .u64 (.ofNat 0)),(.int .u64 (.ofNat 0)),(.int .u64 (.ofNat 0)),(.int .u64 (.ofNat 0)),(.int .u64 (.ofNat 0)),(.int .u64 (.ofNat 0)),(.int .u64 (.ofNat 0)),(.int .u64 (.ofNat 0)),(.int .u64 (.ofNat 0)),(.int .u64 (.ofNat 0)),(.int .u64 (.ofNat 0)),(.int .u64 (.ofNat 0)),(.int .u64 (.ofNat 0)),(.int .u64 (.ofNat 0)),(.int .u64 (.ofNat 0)),(.int .u64 (.ofNat 0)),(.int .u64 (.ofNat 0)),(.int .u64 (.ofNat 0)),(.int .i64 (.ofNat 0)),(.str []),(.str [])] 182 false),
  (749,.cells [(.int .i64 (.ofNat 501)),(.int .i64 (.ofNat 2)),(.int .i64 (.ofNat 4096)),(.int .i64 (.ofNat 0)),(.int .i64 (.ofNat 1)),(.int .i64 (.ofNat 2)),.nilslice,.nilslice] 249 false),
  (752,.cells [(.int .i64 (.ofNat 501))] 3 false),
  (781,.cells [.nilptr,.nilslice,(.int .i64 (.ofNat 3)),.nilslice,(.int .i64 (.ofNat 0)),(.int .i64 (.ofNat 0)),(.int .u64 (.ofNat 0)),(.int .u64 (.ofNat 0)),(.int .u64 (.ofNat 0)),(.int .u64 (.ofNat 0)),(.int .u64 (.ofNat 0)),(.int .u64 (.ofNat 0)),(.int .u64 (.ofNat 0)),(.int .u64 (.ofNat 0)),(.int .u64 (.ofNat 0)),(.int .u64 (.ofNat 0)),(.int .u64 (.ofNat 0)),(.int .u64 (.ofNat 0)),(.int .u64 (.ofNat 0)),(.int .u64 (.ofNat 0)),(.int .u64 (.ofNat 0)),(.int .u64 (.ofNat 0)),(.int .u64 (.ofNat 0)),(.int .u64 (.ofNat 0)),(.int .i64 (.ofNat 0)),(.str []),(.str [])] 182 false),
  (979,.cells [(.int .i64 (.ofNat 30)),(.int .i64 (.ofNat 4)),(.int .i64 (.ofNat 1)),(.int .i64 (.ofNat 0)),(.int .i64 (.ofNat 1)),(.int .i64 (.ofNat 2)),.nilslice,.nilslice] 249 false),
  (998,.cells [.nilptr,.nilslice,(.int .i64 (.ofNat 4)),.nilslice,(.int .i64 (.ofNat 0)),(.int .i64 (.ofNat 0)),(.int .u64 (.ofNat 0)),(.int .u64 (.ofNat 0)),(.int .u64 (.ofNat 0)),(.int .u64 (.ofNat 0)),(.int .u64 (.ofNat 0)),(.int .u64 (.ofNat 0)),(.int .u64 (.ofNat 0)),(.int .u64 (.ofNat 0)),(.int .u64 (.ofNat 0)),(.int .u64 (.ofNat 0)),(.int .u64 (.ofNat 0)),(.int .u64 (.ofNat 0)),(.int .u64 (.ofNat 0)),(.int .u64 (.ofNat 0)),(.int .u64 (.ofNat 0)),(.int .u64 (.ofNat 0)),(.int .u64 (.ofNat 0)),(.int .u64 (.ofNat 0)),(.int .i64 (.ofNat 0)),(.str []),(.str [])] 182 false),
  (1222,.cells [(.int .i64 (.ofNat 20)),(.int .i64 (.ofNat 0))] 149 false),
  (1223,.cells [(.int .i64 (.ofNat 31)),(.int .i64 (.ofNat 4)),(.int .i64 (.ofNat 1)),(.int .i64 (.ofNat 0)),(.int .i64 (.ofNat 1)),(.int .i64 (.ofNat 2)),(.slice 1222 0 1 (.un 2 1)),.nilslice] 249 false),
  (1242,.cells [.nilptr,.nilslice,(.int .i64 (.ofNat 4)),.nilslice,(.int .i64 (.ofNat 0)),(.int .i64 (.ofNat 0)),(.int .u64 (.ofNat 0)),(.int .u64 (.ofNat 0)),(.int .u64 (.ofNat 0)),(.int .u64 (.ofNat 0)),(.int .u64 (.ofNat 0)),(.int .u64 (.ofNat 0)),(.int .u64 (.ofNat 0)),(.int .u64 (.ofNat 0)),(.int .u64 (.ofNat 0)),(.int .u64 (.ofNat 0)),(.int .u64 (.ofNat 0)),(.int .u64 (.ofNat 0)),(.int .u64 (.ofNat 0)),(.int .u64 (.ofNat 0)),(.int .u64 (.ofNat 0)),(.int .u64 (.ofNat 0)),(.int .u64 (.ofNat 0)),(.int .u64 (.ofNat 0)),(.int .i64 (.ofNat 0)),(.str []),(.str [])] 182 false),
  (1466,.cells [(.int .i64 (.ofNat 20)),(.int .i64 (.ofNat 4))] 149 false),
  (1467,.cells [(.int .i64 (.ofNat 32)),(.int .i64 (.ofNat 4)),(.int .i64 (.ofNat 1)),(.int .i64 (.ofNat 0)),(.int .i64 (.ofNat 1)),(.int .i64 (.ofNat 2)),(.slice 1466 0 1 (.un 2 1)),.nilslice] 249 false),
  (1486,.cells [.nilptr,.nilslice,(.int .i64 (.ofNat 4)),.nilslice,(.int .i64 (.ofNat 0)),(.int .i64 (.ofNat 0)),(.int .u64 (.ofNat 0)),(.int .u64 (.ofNat 0)),(.int .u64 (.ofNat 0)),(.int .u64 (.ofNat 0)),(.int .u64 (.ofNat 0)),(.int .u64 (.ofNat 0)),(.int .u64 (.ofNat 0)),(.int .u64 (.ofNat 0)),(.int .u64 (.ofNat 0)),(.int .u64 (.ofNat 0)),(.int .u64 (.ofNat 0)),(.int .u64 (.ofNat 0)),(.int .u64 (.ofNat 0)),(.int .u64 (.ofNat 0)),(.int .u64 (.ofNat 0)),(.int .u64 (.ofNat 0)),(.int .u64 (.ofNat 0)),(.int .u64 (.ofNat 0)),(.int .i64 (.ofNat 0)),(.str []),(.str [])] 182 false),
  (1710,.cells [(.int .i64 (.ofNat 21)),(.int .i64 (.ofNat 0))] 149 false),
  (1711,.cells [(.int .i64 (.ofNat 33)),(.int .i64 (.ofNat 4)),(.int .i64 (.ofNat 1)),(.int .i64 (.ofNat 0)),(.int .i64 (.ofNat 1)),(.int .i64 (.ofNat 2)),(.slice 1710 0 1 (.un 2 1)),.nilslice] 249 false),
  (1714,.cells [(.int .i64 (.ofNat 2)),(.int .i64 (.ofNat 3)),(.int .i64 (.ofNat 500)),(.int .i64 (.ofNat 30)),(.int .i64 (.ofNat 31)),(.int .i64 (.ofNat 32)),(.int .i64 (.ofNat 33))] 3 false)]⟩
noncomputable def D2 : ML := ⟨⟨10, 74, [(0,.nilptr), (1,.nilptr), (2,(.ptr 240 0)), (3,(.ptr 407 0)), (21,(.ptr 407 0)), (22,(.agg [(.int .i64 (.ofNat 30)),(.int .i64 (.ofNat 701))])), (23,(.agg [(.int .i64 (.ofNat 2)),.nilslice])), (24,(.int .i64 (.ofNat 0)))], [.ops (opsAt (bodyC Tryz.f10) [1, 1, 1, 1, 1, 0]) (skipL 4 (opsAt (bodyC Tryz.f10) [1, 1, 1, 1, 1, 0]).toList), .code (cAt (bodyC Tryz.f10) [1, 1, 1, 1, 1, 1])], [], none⟩, [⟨3, 136, [(1,(.ptr 10 0)), (2,(.bool false)), (3,.nilptr), (4,(.int .i64 (.ofNat 4))), (6,(.ptr 200 0)), (7,.nilslice), (8,(.int .i64 (.ofNat 4))), (12,(.int .i64 (.ofNat 4)))], [.ops (opsAt (bodyC Tryz.f3) [1, 1, 1, 1, 1, 1, 1, 1, 0]) (skipL 0 (opsAt (bodyC Tryz.f3) [1, 1, 1, 1, 1, 1, 1, 1, 0]).toList), .code (cAt (bodyC Tryz.f3) [1, 1, 1, 1, 1, 1, 1, 1, 1])], [], none⟩], 2834, [
  (10,.cells [.unk,.unk,.unk,(.stamp 0),.unk,.unk,.unk,.unk,.unk,.unk,.unk,.unk,.unk,.unk,.unk,.unk] 28 false),
  (200,.cells [(.int .i64 (.ofNat 4)),(.int .i64 (.ofNat 0)),(.int .i64 (.ofNat 0)),(.str [])] 44 false),
  (221,.cells [(.int .i64 (.ofNat 1)),(.int .i64 (.ofNat 1)),(.int .i64 (.ofNat 1099511627776)),(.int .i64 (.ofNat 1048582)),(.int .i64 (.ofNat 1)),(.int .i64 (.ofNat 2)),.nilslice,(.slice 1714 0 7 (.un 1 7))] 249 false),
  (222,.map [⟨223,(.int .i64 (.ofNat 1)),(.ptr 221 0)⟩,⟨254,(.int .i64 (.ofNat 2)),(.ptr 253 0)⟩,⟨267,(.int .i64 (.ofNat 3)),(.ptr 266 0)⟩,⟨573,(.int .i64 (.ofNat 500)),(.ptr 572 0)⟩,⟨750,(.int .i64 (.ofNat 501)),(.ptr 749 0)⟩,⟨980,(.int .i64 (.ofNat 30)),(.ptr 979 0)⟩,⟨1224,(.int .i64 (.ofNat 31)),(.ptr 1223 0)⟩,⟨1468,(.int .i64 (.ofNat 32)),(.ptr 1467 0)⟩,⟨1712,(.int .i64 (.ofNat 33)),(.ptr 1711 0)⟩,⟨2056,(.int .i64 (.ofNat 700)),(.ptr 2055 0)⟩,⟨2612,(.int .i64 (.ofNat 701)),(.ptr 2611 0)⟩]),
  (224,.cells [(.map 222),(.int .i64 (.ofNat 1))] 276 false),
  (225,.map []),
  (226,.map []),
  (227,.cells [(.int .i64 (.ofNat 0)),(.map 225),(.map 226)] 305 false),
  (228,.map [⟨235,(.int .i64 (.ofNat 3)),(.ptr 234 0)⟩,⟨232,(.int .i64 (.ofNat 2)),(.ptr 231 0)⟩,⟨230,(.int .i64 (.ofNat 1)),(.ptr 229 0)⟩,⟨576,(.int .i64 (.ofNat 500)),(.ptr 423 0)⟩,⟨753,(.int .i64 (.ofNat 501)),(.ptr 595 0)⟩,⟨983,(.int .i64 (.ofNat 30)),(.ptr 781 0)⟩,⟨1227,(.int .i64 (.ofNat 31)),(.ptr 998 0)⟩,⟨1471,(.int .i64 (.ofNat 32)),(.ptr 1242 0)⟩,⟨1715,(.int .i64 (.ofNat 33)),(.ptr 1486 0)⟩,⟨2059,(.int .i64 (.ofNat 700)),(.ptr 1937 0)⟩,⟨2615,(.int .i64 (.ofNat 701)),(.ptr 2493 0)⟩]),
  (229,.cells [.nilptr,.nilslice,(.int .i64 (.ofNat 0)),.nilslice,(.int .i64 (.ofNat 0)),(.int .i64 (.ofNat 0)),(.int .u64 (.ofNat 0)),(.int .u64 (.ofNat 0)),(.int .u64 (.ofNat 0)),(.int .u64 (.ofNat 0)),(.int .u64 (.ofNat 0)),(.int .u64 (.ofNat 0)),(.int .u64 (.ofNat 0)),(.int .u64 (.ofNat 0)),(.int .u64 (.ofNat 0)),(.int .u64 (.ofNat 0)),(.int .u64 (.ofNat 0)),(.int .u64 (.ofNat 0)),(.int .u64 (.ofNat 0)),(.int .u64 (.ofNat 0)),(.int .u64 (.ofNat 0)),(.int .u64 (.ofNat 0)),(.int .u64 (.ofNat 0)),(.int .u64 (.ofNat 0)),(.int .i64 (.ofNat 0)),(.str []),(.str [])] 182 false),
  (231,.cells [.nilptr,.nilslice,(.int .i64 (.ofNat 0)),.nilslice,(.int .i64 (.ofNat 0)),(.int .i64 (.ofNat 0)),(.int .u64 (.ofNat 0)),(.int .u64 (.ofNat 0)),(.int .u64 (.ofNat 0)),(.int .u64 (.ofNat 0)),(.int .u64 (.ofNat 0)),(.int .u64 (.ofNat 0)),(.int .u64 (.ofNat 0)),(.int .u64 (.ofNat 0)),(.int .u64 (.ofNat 0)),(.int .u64 (.ofNat 0)),(.int .u64 (.ofNat 0)),(.int .u64 (.ofNat 0)),(.int .u64 (.ofNat 0)),(.int .u64 (.ofNat 0)),(.int .u64 (.ofNat 0)),(.int .u64 (.ofNat 0)),(.int .u64 (.ofNat 0)),(.int .u64 (.ofNat 0)),(.int .i64 (.ofNat 0)),(.str []),(.str [])] 182 false),
  (234,.cells [.nilptr,.nilslice,(.int .i64 (.ofNat 4)),.nilslice,(.int .i64 (.ofNat 0)),(.int .i64 (.ofNat 0)),(.int .u64 (.ofNat 0)),(.int .u64 (.ofNat 0)),(.int .u64 (.ofNat 0)),(.int .u64 (.ofNat 0)),(.int .u64 (.ofNat 0)),(.int .u64 (.ofNat 0)),(.int .u64 (.ofNat 0)),(.int .u64 (.ofNat 0)),(.int .u64 (.ofNat 0)),(.int .u64 (.ofNat 0)),(.int .u64 (.ofNat 0)),(.int .u64 (.ofNat 0)),(.int .u64 (.ofNat 0)),(.int .u64 (.ofNat 0)),(.int .u64 (.ofNat 0)),(.int .u64 (.ofNat 0)),(.int .u64 (.ofNat 0)),(.int .u64 (.ofNat 0)),(.int .i64 (.ofNat 0)),(.str []),(.str [])] 182 false),
  (236,.map [⟨239,(.int .i64 (.ofNat 3)),(.bool true)⟩,⟨238,(.int .i64 (.ofNat 2)),(.bool true)⟩,⟨237,(.int .i64 (.ofNat 1)),(.bool true)⟩,⟨329,(.int .i64 (.ofNat 20)),(.bool true)⟩,⟨403,(.int .i64 (.ofNat 21)),(.bool true)⟩,⟨577,(.int .i64 (.ofNat 500)),(.bool true)⟩,⟨754,(.int .i64 (.ofNat 501)),(.bool true)⟩,⟨984,(.int .i64 (.ofNat 30)),(.bool true)⟩,⟨1228,(.int .i64 (.ofNat 31)),(.bool true)⟩,⟨1472,(.int .i64 (.ofNat 32)),(.bool true)⟩,⟨1716,(.int .i64 (.ofNat 33)),(.bool true)⟩,⟨2060,(.int .i64 (.ofNat 700)),(.bool true)⟩,⟨2616,(.int .i64 (.ofNat 701)),(.bool true)⟩]),
  (240,.cells [(.ptr 224 0),(.ptr 227 0),(.map 228),(.map 236),(.int .i64 (.ofNat 0))] 174 false),
  (253,.cells [(.int .i64 (.ofNat 2)),(.int .i64 (.ofNat 6)),(.int .i64 (.ofNat 1)),(.int .i64 (.ofNat 0)),(.int .i64 (.ofNat 1)),(.int .i64 (.ofNat 2)),.nilslice,.nilslice] 249 false),
  (266,.cells [(.int .i64 (.ofNat 3)),(.int .i64 (.ofNat 4)),(.int .i64 (.ofNat 1)),(.int .i64 (.ofNat 0)),(.int .i64 (.ofNat 1)),(.int .i64 (.ofNat 2)),(.slice 402 0 2 (.un 2 2)),.nilslice] 249 false),
  (402,.cells [(.int .i64 (.ofNat 20)),(.int .i64 (.ofNat 0)),(.int .i64 (.ofNat 21)),(.int .i64 (.ofNat 0))] 149 false),
  (407,.cells [(.ptr 240 0),(.int .i64 (.ofNat 500))] 233 false),
  (423,.cells [.nilptr,.nilslice,(.int .i64 (.ofNat 0)),.nilslice,(.int .i64 (.ofNat 0)),(.int .i64 (.ofNat 0)),(.int .u64 (.ofNat 0)),(.int .u64 (.ofNat 0)),(.int .u64 (.ofNat 0)),(.int .u64 (.ofNat 0)),(.int .u64 (.ofNat 0)),(.int .u64 (.ofNat 0)),(.int .u64 (.ofNat 0)),(.int .u64 (.ofNat 0)),(.int .u64 (.ofNat 0)),(.int .u64 (.ofNat 0)),(.int .u64 (.ofNat 0)),(.int .u64 (.ofNat 0)),(.int .u64 (.ofNat 0)),(.int .u64 (.ofNat 0)),(.int .u64 (.ofNat 0)),(.int .u64 (.ofNat 0)),(.int .u64 (.ofNat 0)),(.int .u64 (.ofNat 0)),(.int .i64 (.ofNat 0)),(.str []),(.str [])] 182 false),
  (572,.cells [(.int .i64 (.ofNat 500)),(.int .i64 (.ofNat 1)),(.int .i64 (.ofNat 1048576)),(.int .i64 (.ofNat 4626)),(.int .i64 (.ofNat 1)),(.int .i64 (.ofNat 2)),.nilslice,(.slice 2614 0 3 (.un 1 3))] 249 false),
  (593,.cells [(.int .i64 (.ofNat 22)),(.slice 2170 0 1 (.un 1 1)),(.slice 2172 0 1 (.un 1 1))] 263 false),
  (595,.cells [(.ptr 593 0),.nilslice,(.int .i64 (.ofNat 0)),.nilslice,(.int .i64 (.ofNat 0)),(.int .i64 (.ofNat 0)),(.int .u64 (.ofNat 0)),(.int .u64 (.ofNat 0)),(.int .u64 (.ofNat 0)),(.int .u64 (.ofNat 0)),(.int .u64 (.ofNat 0)),(.int .u64 (.ofNat 0)),(.int .u64 (.ofNat 0)),(.int .u64 (.ofNat 0)),(.int .u64 (.ofNat 0)),(.int .u64 (.ofNat 0)),(.int .u64 (.ofNat 0)),(.int .u64 (.ofNat 0)),(.int .u64 (.ofNat 0)),(.int .u64 (.ofNat 0)),(.int .u64 (.ofNat 0)),(.int .u64 (.ofNat 0)),(.int .u64 (.ofNat 0)),(.int .u64 (.ofNat 0)),(.int .i64 (.ofNat 0)),(.str []),(.str [])] 182 false),
  (749,.cells [(.int .i64 (.ofNat 501)),(.int .i64 (.ofNat 2)),(.int .i64 (.ofNat 4096)),(.int .i64 (.ofNat 0)),(.int .i64 (.ofNat 1)),(.int .i64 (.ofNat 2)),.nilslice,.nilslice] 249 false),
  (781,.cells [.nilptr,.nilslice,(.int .i64 (.ofNat 3)),.nilslice,(.int .i64 (.ofNat 0)),(.int .i64 (.ofNat 0)),(.int .u64 (.ofNat 0)),(.int .u64 (.ofNat 0)),(.int .u64 (.ofNat 0)),(.int .u64 (.ofNat 0)),(.int .u64 (.ofNat 0)),(.int .u64 (.ofNat 0)),(.int .u64 (.ofNat 0)),(.int .u64 (.ofNat 0)),(.int .u64 (.ofNat 0)),(.int .u64 (.ofNat 0)),(.int .u64 (.ofNat 0)),(.int .u64 (.ofNat 0)),(.int .u64 (.ofNat 0)),(.int .u64 (.ofNat 0)),(.int .u64 (.ofNat 0)),(.int .u64 (.ofNat 0)),(.int .u64 (.ofNat 0)),(.int .u64 (.ofNat 0)),(.int .i64 (.ofNat 0)),(.str []),(.str [])] 182 false),
  (979,.cells [(.int .i64 (.ofNat 30)),(.int .i64 (.ofNat 4)),(.int .i64 (.ofNat 1)),(.int .i64 (.ofNat 0)),(.int .i64 (.ofNat 1)),(.int .i64 (.ofNat 2)),.nilslice,.nilslice] 249 false),
  (998,.cells [.nilptr,.nilslice,(.int .i64 (.ofNat 4)),.nilslice,(.int .i64 (.ofNat 0)),(.int .i64 (.ofNat 0)),(.int .u64 (.ofNat 0)),(.int .u64 (.ofNat 0)),(.int .u64 (.ofNat 0)),(.int .u64 (.ofNat 0)),(.int .u64 (.ofNat 0)),(.int .u64 (.ofNat 0)),(.int .u64 (.ofNat 0)),(.int .u64 (.ofNat 0)),(.int .u64 (.ofNat 0)),(.int .u64 (.ofNat 0)),(.int .u64 (.ofNat 0)),(.int .u64 (.ofNat 0)),(.int .u64 (.ofNat 0)),(.int .u64 (.ofNat 0)),(.int .u64 (.ofNat 0)),(.int .u64 (.ofNat 0)),(.int .u64 (.ofNat 0)),(.int .u64 (.ofNat 0)),(.int .i64 (.ofNat 0)),(.str []),(.str [])] 182 false),
  (1222,.cells [(.int .i64 (.ofNat 20)),(.int .i64 (.ofNat 0))] 149 false),
  (1223,.cells [(.int .i64 (.ofNat 31)),(.int .i64 (.ofNat 4)),(.int .i64 (.ofNat 1)),(.int .i64 (.ofNat 0)),(.int .i64 (.ofNat 1)),(.int .i64 (.ofNat 2)),(.slice 1222 0 1 (.un 2 1)),.nilslice] 249 false),
  (1242,.cells [.nilptr,.nilslice,(.int .i64 (.ofNat 4)),.nilslice,(.int .i64 (.ofNat 0)),(.int .i64 (.ofNat 0)),(.int .u64 (.ofNat 0)),(.int .u64 (.ofNat 0)),(.int .u64 (.ofNat 0)),(.int .u64 (.ofNat 0)),(.int .u64 (.ofNat 0)),(.int .u64 (.ofNat 0)),(.int .u64 (.ofNat 0)),(.int .u64 (.ofNat 0)),(.int .u64 (.ofNat 0)),(.int .u64 (.ofNat 0)),(.int .u64 (.ofNat 0)),(.int .u64 (.ofNat 0)),(.int .u64 (.ofNat 0)),(.int .u64 (.ofNat 0)),(.int .u64 (.ofNat 0)),(.int .u64 (.ofNat 0)),(.int .u64 (.ofNat 0)),(.int .u64 (.ofNat 0)),(.int .i64 (.ofNat 0)),(.str []),(.str [])] 182 false),
  (1466,.cells [(.int .i64 (.ofNat 20)),(.int .i64 (.ofNat 4))] 149 false),
  (1467,.cells [(.int .i64 (.ofNat 32)),(.int .i64 (.ofNat 4)),(.int .i64 (.ofNat 1)),(.int .i64 (.ofNat 0)),(.int .i64 (.ofNat 1)),(.int .i64 (.ofNat 2)),(.slice 1466 0 1 (.un 2 1)),.nilslice] 249 false),
  (1486,.cells [.nilptr,.nilslice,(.int .i64 (.ofNat 4)),.nilslice,(.int .i64 (.ofNat 0)),(.int .i64 (.ofNat 0)),(.int .u64 (.ofNat 0)),(.int .u64 (.ofNat 0)),(.int .u64 (.ofNat 0)),(.int .u64 (.ofNat 0)),(.int .u64 (.ofNat 0)),(.int .u64 (.ofNat 0)),(.int .u64 (.ofNat 0)),(.int .u64 (.ofNat 0)),(.int .u64 (.ofNat 0)),(.int .u64 (.ofNat 0)),(.int .u64 (.ofNat 0)),(.int .u64 (.ofNat 0)),(.int .u64 (.ofNat 0)),(.int .u64 (.ofNat 0)),(.int .u64 (.ofNat 0)),(.int .u64 (.ofNat 0)),(.int .u64 (.ofNat 0)),(.int .u64 (.ofNat 0)),(.int .i64 (.ofNat 0)),(.str []),(.str [])] 182 false),
  (1710,.cells [(.int .i64 (.ofNat 21)),(.int .i64 (.ofNat 0))] 149 false),
  (1711,.cells [(.int .i64 (.ofNat 33)),(.int .i64 (.ofNat 4)),(.int .i64 (.ofNat 1)),(.int .i64 (.ofNat 0)),(.int .i64 (.ofNat 1)),(.int .i64 (.ofNat 2)),(.slice 1710 0 1 (.un 2 1)),.nilslice] 249 false),
  (1714,.cells [(.int .i64 (.ofNat 2)),(.int .i64 (.ofNat 3)),(.int .i64 (.ofNat 500)),(.int .i64 (.ofNat 30)),(.int .i64 (.ofNat 31)),(.int .i64 (.ofNat 32)),(.int .i64 (.ofNat 33))] 3 false),
  (1935,.cells [(.int .i64 (.ofNat 0)),.nilslice,.nilslice] 263 false),
  (1937,.cells [(.ptr 1935 0),.nilslice,(.int .i64 (.ofNat 0)),.nilslice,(.int .i64 (.ofNat 0)),(.int .i64 (.ofNat 0)),(.int .u64 (.ofNat 0)),(.int .u64 (.ofNat 0)),(.int .u64 (.ofNat 0)),(.int .u64 (.ofNat 0)),(.int .u64 (.ofNat 0)),(.int .u64 (.ofNat 0)),(.int .u64 (.ofNat 0)),(.int .u64 (.ofNat 0)),(.int .u64 (.ofNat 0)),(.int .u64 (.ofNat 0)),(.int .u64 (.ofNat 0)),(.int .u64 (.ofNat 0)),(.int .u64 (.ofNat 0)),(.int .u64 (.ofNat 0)),(.int .u64 (.ofNat 0)),(.int .u64 (.ofNat 0)),(.int .u64 (.ofNat 0)),(.int .u64 (.ofNat 0)),(.int .i64 (.ofNat 0)),(.str []),(.str [])] 182 false),
  (2055,.cells [(.int .i64 (.ofNat 700)),(.int .i64 (.ofNat 2)),(.int .i64 (.ofNat 500)),(.int .i64 (.ofNat 0)),(.int .i64 (.ofNat 1)),(.int .i64 (.ofNat 2)),.nilslice,.nilslice] 249 false),
  (2168,.cells [(.int .u8 (.ofNat 1)),(.int .u8 (.ofNat 97)),(.int .u8 (.ofNat 1)),(.int .u8 (.ofNat 188)),(.int .u8 (.ofNat 2)),(.int .u8 (.ofNat 0)),(.int .u8 (.ofNat 0)),(.int .u8 (.ofNat 0)),(.int .u8 (.ofNat 0)),(.int .u8 (.ofNat 0)),(.int .u8 (.ofNat 0)),(.int .u8 (.ofNat 1)),(.int .u8 (.ofNat 98)),(.int .u8 (.ofNat 1)),(.int .u8 (.ofNat 189)),(.int .u8 (.ofNat 2)),(.int .u8 (.ofNat 0)),(.int .u8 (.ofNat 0)),(.int .u8 (.ofNat 0)),(.int .u8 (.ofNat 0)),(.int .u8 (.ofNat 0)),(.int .u8 (.ofNat 0)),(.int .u8 (.ofNat 0)),(.int .u8 (.ofNat 0)),(.int .u8 (.ofNat 0)),(.int .u8 (.ofNat 0)),(.int .u8 (.ofNat 0)),(.int .u8 (.ofNat 0)),(.int .u8 (.ofNat 0)),(.int .u8 (.ofNat 0)),(.int .u8 (.ofNat 0)),(.int .u8 (.ofNat 0)),(.int .u8 (.ofNat 0)),(.int .u8 (.ofNat 0)),(.int .u8 (.ofNat 0)),(.int .u8 (.ofNat 0)),(.int .u8 (.ofNat 0)),(.int .u8 (.ofNat 0)),(.int .u8 (.ofNat 0)),(.int .u8 (.ofNat 0)),(.int .u8 (.ofNat 0)),(.int .u8 (.ofNat 0)),(.int .u8 (.ofNat 0)),(.int .u8 (.ofNat 0)),(.int .u8 (.ofNat 0)),(.int .u8 (.ofNat 0)),(.int .u8 (.ofNat 0)),(.int .u8 (.ofNat 0)),(.int .u8 (.ofNat 0)),(.int .u8 (.ofNat 0)),(.int .u8 (.ofNat 0)),(.int .u8 (.ofNat 0)),(.int .u8 (.ofNat 0)),(.int .u8 (.ofNat 0)),(.int .u8 (.ofNat 0)),(.int .u8 (.ofNat 0)),(.int .u8 (.ofNat 0)),(.int .u8 (.ofNat 0)),(.int .u8 (.ofNat 0)),(.int .u8 (.ofNat 0)),(.int .u8 (.ofNat 0)),(.int .u8 (.ofNat 0)),(.int .u8 (.ofNat 0)),(.int .u8 (.ofNat 0))] 353 false),
  (2170,.cells [(.ptr 2168 0)] 291 false),
  (2172,.cells [(.bool true)] 4 false),
  (2491,.cells [(.int .i64 (.ofNat 0)),.nilslice,.nilslice] 263 false),
  (2493,.cells [(.ptr 2491 0),.nilslice,(.int .i64 (.ofNat 0)),.nilslice,(.int .i64 (.ofNat 0)),(.int .i64 (.ofNat 0)),(.int .u64 (.ofNat 0)),(.int .u64 (.ofNat 0)),(.int .u64 (.ofNat 0)),(.int .u64 (.ofNat 0)),(.int .u64 (.ofNat 0)),(.int .u64 (.ofNat 0)),(.int .u64 (.ofNat 0)),(.int .u64 (.ofNat 0)),(.int .u64 (.ofNat 0)),(.int .u64 (.ofNat 0)),(.int .u64 (.ofNat 0)),(.int .u64 (.ofNat 0)),(.int .u64 (.ofNat 0)),(.int .u64 (.ofNat 0)),(.int .u64 (.ofNat 0)),(.int .u64 (.ofNat 0)),(.int .u64 (.ofNat 0)),(.int .u64 (.ofNat 0)),(.int .i64 (.ofNat 0)),(.str []),(.str [])] 182 false),
  (2611,.cells [(.int .i64 (.ofNat 701)),(.int .i64 (.ofNat 2)),(.int .i64 (.ofNat 30)),(.int .i64 (.ofNat 0)),(.int .i64 (.ofNat 1)),(.int .i64 (.ofNat 2)),.nilslice,.nilslice] 249 false),
  (2614,.cells [(.int .i64 (.ofNat 501)),(.int .i64 (.ofNat 700)),(.int .i64 (.ofNat 701))] 3 false)]⟩
end Go.Ev
