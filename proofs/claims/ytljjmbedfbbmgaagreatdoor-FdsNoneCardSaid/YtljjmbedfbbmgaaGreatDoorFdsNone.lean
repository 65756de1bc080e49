/- gatehouselaw16.FdsNone returns true and leaves its argument as it was, for every input. Conditions: those of the row fdsNoneRow (the tables unicode/utf8.first and unicode/utf8.acceptRanges as laid), tied to the program's text by the given tie. -/
import Derived.Test.YtljjmbedfbbmgaaGreatDoorCall
import Derived.Test.YtljjmbedfbbmgaaGreatDoorFacts
import Derived.Test.YtljjmbedfbbmgaaGreatDoorCards
import Derived.Test.YtljjmbedfbbmgaaGreatDoorTie
import Derived.WalkKit
import Derived.ProofKit
import Derived.OpenShut
import Derived.Deep.DeepHandedRow
import Derived.Lib.LaidTab
namespace Go.Proofs.YtljjmbedfbbmgaaGreatDoor.fdsNone
open Go.ChangeShapes Go.WideShapes Go.ChangeAt Go.RowKit

theorem own : ownKnob Tryz.prog.godebug = none := by kernel_rfl
theorem laidOut : laidOutB Tryz.prog = true := by kernel_rfl
theorem readable : Tryz.prog.readableRec 28 = true := by kernel_rfl
theorem inTypes : 28 < Tryz.prog.types.size := of_decide_eq_true (by kernel_rfl)

theorem contract_of {P : Program} {f : Func} (hpar : f.params = #[28]) (hres : f.resultTypes = #[4]) (hu4 : P.underlying 4 = some .bool) (hlo : laidOutB P = true) (hre : P.readableRec 28 = true) (hin : 28 < P.types.size)
    (H : Type) (enc : TypeId × Value → H) (W : World) (base : Nat) (args : Array Value) (ds gs : List (DataW H)) (before : List MemPlace)
    (hcall : ∀ v0, Value.okWide P W .any base 28 v0 → Calls P 3 #[v0] W fun e W' => e = .returned (.bool true) ∧ Ev.Kept W W')
    (hval : ∀ (j : Nat) t v, f.params[j]? = some t → args[j]? = some v → Value.okWide P W .any base t v)
    (hW : DataW.Whole enc P f.params.toList Rows.fdsNoneSpec.vars false W args.toList ds gs before) :
    Calls P 3 args W fun e W' => ∃ v, e = .returned v ∧ Rows.fdsNoneSpec.post enc P f false true false false W args v W' := by
  have hW' := hW
  obtain ⟨p, q, hA0, hV, rfl, hfz, hnd⟩ := hW
  have hA : DataW.TrodAll enc P W 0 (fun _ => true) true f.params.toList args.toList ds p := hA0
  rw [hpar] at hA hval
  obtain ⟨v0, vs0, d0, ds0, p0, q0, hargs, rfl, rfl, h0, r0⟩ := trodAll_cons hA
  obtain ⟨rfl, rfl, rfl⟩ := trodAll_nil r0
  obtain rfl : args = #[v0] := by cases args; simp_all
  obtain ⟨rfl, rfl⟩ := trodVars_none hV
  clear hA0
  simp only [List.append_nil] at hW'
  refine (hcall v0 (hval 0 28 v0 rfl rfl)).mono fun e W' ⟨he, hk⟩ => ?_
  subst he
  refine ⟨_, rfl, Ev.post_of_kept (pa := p0) (pv := []) hW' (fun _ _ _ => ?_) (fun sp hs => ?_) (fun _ _ => rfl) (by simp) hk ?_⟩
  · rw [hres]
    exact trodAll_cons_mk (shut_bool hu4 _) trodAll_mk0
  · rw [hpar]
    exact trodAll_mk1 (Ev.Kept.trod hlo hre hin h0 hk (fun x hx => hW'.lt x hx) hs)
  · exact ok_one hres rfl (okWide_bool_mk hu4 _)

theorem contract (H : Type) (enc : TypeId × Value → H) (W : World) (base : Nat) (args : Array Value) (ds gs : List (DataW H)) (before : List MemPlace) :
    (∀ (j : Nat) t v, Tryz.f3.params[j]? = some t → args[j]? = some v → Value.okWide Tryz.prog W .any base t v) →
    DataW.Whole enc Tryz.prog Tryz.f3.params.toList Rows.fdsNoneSpec.vars false W args.toList ds gs before →
    Calls Tryz.prog 3 args W fun e W' => ∃ v, e = .returned v ∧ Rows.fdsNoneSpec.post enc Tryz.prog Tryz.f3 false true false false W args v W' :=
  contract_of Tryz.params3 (by kernel_rfl) Tryz.underlying4 laidOut readable inTypes H enc W base args ds gs before (fun v0 => Ev.fdsNone_calls)

/-- The input of the witness. -/
def wit : Value := .agg #[.int .i64 0, .int .i64 0, .int .i64 0, .int .i64 0, .int .i64 0, .string ⟨#[]⟩, .string ⟨#[]⟩, .int .i64 0, .int .i64 0, .int .i64 0, .int .i64 0, .string ⟨#[]⟩, .string ⟨#[]⟩, .string ⟨#[]⟩, .int .i64 0, .slice none 0 0]
def z {H : Type} : DataW H := .lit (.int .i64 0)
def e {H : Type} : DataW H := .lit (.string [])
def witD {H : Type} : DataW H := .agg [z, z, z, z, z, e, e, .agg [z, z, z, z, e, e, e, .agg [z, .nil]]]
def nums (l : List Nat) : Array Value := (l.map fun (n : Nat) => Value.int .u8 (n : Int)).toArray
/-- A world for the witness: the settled one, the tables holding what their text lays. -/
def lay (cs : Array Value) : Obj → Obj
  | .cells _ t frozen => .cells cs t frozen
  | o => o
noncomputable def laidWorld (os : Os) : World :=
  { World.holding Tryz.prog os ⟨#[], #[], []⟩ with heap := ((World.holding Tryz.prog os ⟨#[], #[], []⟩).heap.modify 1 (lay (nums Go.Pinned.utf8FirstZ))).modify 2 (lay (nums [128, 191, 160, 191, 128, 159, 144, 191, 128, 143, 0, 0, 0, 0, 0, 0, 0, 0, 0, 0, 0, 0, 0, 0, 0, 0, 0, 0, 0, 0, 0, 0])) }
theorem laid_met (os : Os) : laidMet Tryz.prog Rows.fdsNoneRow.laid ((laidWorld os).forCall (fun _ _ => 0) ⟨#[], #[wit], []⟩).memory :=
  laidMet_of_run' 8 (by kernel_rfl) (by kernel_rfl)
theorem reads (os : Os) {H : Type} (enc : TypeId × Value → H) : ∃ places, DataW.whole enc Tryz.prog ((laidWorld os).forCall (fun _ _ => 0) ⟨#[], #[wit], []⟩).memory Tryz.f3.params.toList Rows.fdsNoneSpec.vars false #[wit].toList 8 = some ([witD], [], places) :=
  ⟨[], by kernel_rfl⟩

set_option maxRecDepth 100000 in
theorem lifted (os : Os) (started : os.Started) (H : Type) (enc : TypeId × Value → H) (F : Stop.Interp) :
    ReturnsInHanded {} Tryz.checked os 3 .any ((OpenSpec.ofChange Rows.fdsNoneSpec).preRow enc Tryz.prog Tryz.f3 Rows.fdsNoneRow.domain false Rows.fdsNoneRow.laid) (((OpenSpec.ofChange Rows.fdsNoneSpec).at F).post enc Tryz.prog Tryz.f3 false true false false) := by
  obtain ⟨places, hx⟩ := reads os enc
  refine returnsInHanded_of_row (C := Tryz.checked) (s := OpenSpec.ofChange Rows.fdsNoneSpec) own started (by kernel_rfl) Tryz.func3
    (witness_row_at (enc := enc) (C := Tryz.checked) false (laidWorld os) #[wit] rfl (by kernel_rfl) (by kernel_rfl) (by kernel_rfl)
      (OpenSpec.preRow_of_cond 8 hx (by kernel_rfl) (fun k hk => by cases hk) (by kernel_rfl) (laid_met os))) ?_
  intro W base args ds gs before hval hW _ _ _ _ _ _
  exact contract H enc W base args ds gs before hval hW

set_option maxRecDepth 100000 in
theorem said : Rows.FdsNoneSaid :=
  OpenClaim.holds_of_cond 3 Tryz.f3 rfl rfl rfl rfl rfl rfl rfl ⟨rfl, rfl, rfl, rfl, rfl⟩ rfl rfl rfl rfl rfl (by kernel_rfl) Tryz.func3 joinedP
    (of_decide_eq_true (by kernel_rfl)) (by unfold Func.isWrapper; first | (rw [if_pos (by decide +kernel)]; kernel_rfl) | (rw [if_neg (by decide +kernel)]; exact ⟨rfl, rfl⟩))
    (fun os started H enc _ F => by rw [OpenClaim.pre_eq_preRow]; exact lifted os started H enc F)

theorem plain (f : FuncId) (fn : Func) (hf : Tryz.pinned.checked.prog.funcNamed "gatehouse/gatehouselaw16.FdsNone" = some f) (hfn : Tryz.pinned.checked.prog.funcs[f]? = some fn) :
    false = Tryz.pinned.checked.prog.looks [] ∧ ∀ (j : Nat) t, fn.params[j]? = some t → Tryz.pinned.checked.prog.wantsStandIn t = false := by
  obtain rfl : f = 3 := Option.some.inj ((show Tryz.prog.funcNamed "gatehouse/gatehouselaw16.FdsNone" = some 3 by kernel_rfl).symm.trans hf) |>.symm
  obtain rfl : fn = Tryz.f3 := (Option.some.inj (Tryz.func3.symm.trans hfn)).symm
  refine ⟨by kernel_rfl, fun j t ht => ?_⟩
  rw [Tryz.params3] at ht
  obtain rfl : t = 28 := by simpa using Array.mem_of_getElem? ht
  exact (show Tryz.prog.wantsStandIn 28 = false by kernel_rfl)

theorem card : Rows.FdsNoneCardSaid :=
  Claim7.holds_tied_plain_at .later [] _ _ _ _ said (fun _ h => by cases h) (by kernel_rfl) (fun _ h => by cases h) fdsNone_row_tie rfl ⟨rfl, rfl⟩ (by kernel_rfl) rfl plain (by kernel_rfl)
#print axioms card
end Go.Proofs.YtljjmbedfbbmgaaGreatDoor.fdsNone
