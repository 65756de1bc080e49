/- An evaluator of the model's programs over abstract states, and the proof that the machine does what it says (part 3). No statement about the program. -/
import Derived.Test.YtljjmbedfbbmgaaGreatDoorE02
import Derived.Laws.Strings
namespace Go.Ev

theorem strEq_eq : ∀ (x y : List Nat), strEq x y = (x == y) := by
  intro x
  induction x with
  | nil => intro y; cases y <;> rfl
  | cons a x ih =>
    intro y
    cases y with
    | nil => rfl
    | cons b y =>
      simp only [strEq]
      cases h : Nat.beq a b with
      | true => rw [cond_true, ih, Nat.eq_of_beq_eq_true h]; simp
      | false => rw [cond_false]; symm; simp [Nat.ne_of_beq_eq_false h]
theorem bytesOf_inj {s t : ByteArray} : (bytesOf s == bytesOf t) = (s.toList == t.toList) := by
  have e : ∀ s : ByteArray, bytesOf s = s.toList.map UInt8.toNat := by
    intro s; unfold bytesOf; rw [ByteArray.toList_eq s]
  rw [e, e, Bool.eq_iff_iff, beq_iff_eq, beq_iff_eq]
  constructor
  · intro h; exact List.map_inj_right (fun a b => UInt8.toNat_inj.1) |>.1 h
  · intro h; rw [h]
theorem bytesOf_toList (s : ByteArray) : bytesOf s = s.toList.map UInt8.toNat := by
  unfold bytesOf; rw [ByteArray.toList_eq s]
theorem ba_beq (c d : ByteArray) : (c == d) = (c.data == d.data) := by cases c; cases d; rfl
theorem strLt_eq : ∀ (x y : List UInt8), strLt (x.map UInt8.toNat) (y.map UInt8.toNat) = Op.bytesLess x y := by
  intro x
  induction x with
  | nil => intro y; cases y <;> rfl
  | cons a x ih =>
    intro y
    cases y with
    | nil => rfl
    | cons b y =>
      simp only [List.map_cons, strLt, Op.bytesLess, ih]
      rcases Nat.lt_trichotomy a.toNat b.toNat with h | h | h
      · rw [show Nat.ble (Nat.succ a.toNat) b.toNat = true from by rw [Nat.ble_eq]; exact h, cond_true]
        have : a < b := UInt8.lt_iff_toNat_lt.2 h
        simp [this]
      · have e : a = b := UInt8.toNat_inj.1 h
        subst e
        rw [show Nat.ble (Nat.succ a.toNat) a.toNat = false from by cases hb : Nat.ble (Nat.succ a.toNat) a.toNat; rfl; exact absurd (Nat.le_of_ble_eq_true hb) (by omega), cond_false, show Nat.beq a.toNat a.toNat = true from Nat.beq_refl _, cond_true]
        simp
      · rw [show Nat.ble (Nat.succ a.toNat) b.toNat = false from by cases hb : Nat.ble (Nat.succ a.toNat) b.toNat; rfl; exact absurd (Nat.le_of_ble_eq_true hb) (by omega), cond_false, show Nat.beq a.toNat b.toNat = false from by cases hb : Nat.beq a.toNat b.toNat; rfl; exact absurd (Nat.eq_of_beq_eq_true hb) (by omega), cond_false]
        have h1 : ¬ a < b := by rw [UInt8.lt_iff_toNat_lt]; omega
        have h2 : (a == b) = false := by rw [beq_eq_false_iff_ne]; intro e; rw [e] at h; omega
        simp [h1, h2]
section
variable {P : Program} {E : Env} {r : Rho} {w : World}
theorem str_sound {op : BinOp} {s t : ByteArray} {v : V} (h : strOp op (bytesOf s) (bytesOf t) = some v) :
    ∃ x, (Op.stringOp op s t).run P w = .ok x w ∧ VR r v x := by
  have e1 : strEq (bytesOf s) (bytesOf t) = (s.toList == t.toList) := by rw [strEq_eq, bytesOf_inj]
  have e2 : strLt (bytesOf s) (bytesOf t) = Op.bytesLess s.toList t.toList := by rw [bytesOf_toList, bytesOf_toList, strLt_eq]
  cases op <;> simp only [strOp, Option.some.injEq, reduceCtorEq] at h
  case add =>
    obtain ⟨h1, h2⟩ := bif_some h
    simp only [Option.some.injEq] at h2
    subst h2
    have h1 := Nat.le_of_ble_eq_true h1
    rw [len_eq, len_eq, bytesOf_length, bytesOf_length] at h1
    have hn : ¬ (((s.size + t.size : Nat) : Int) > IntKind.i64.max) := by
      have : IntKind.i64.max = 2 ^ 63 - 1 := rfl
      rw [this]; omega
    refine ⟨.string (s ++ t), by simp only [Op.stringOp, hn, if_false, Sem.run_pure], s ++ t, rfl, ?_⟩
    rw [app_eq]
    unfold bytesOf
    rw [ByteArray.data_append, Array.toList_append, List.map_append]
  all_goals subst h
  · exact run_as (x := .bool (s.toList == t.toList)) (by simp only [Op.stringOp, Sem.run_pure]) (by simp only [VR, e1])
  · exact run_as (x := .bool (!(s.toList == t.toList))) (by simp only [Op.stringOp, Sem.run_pure]) (by simp only [VR, e1])
  · exact run_as (x := .bool (Op.bytesLess s.toList t.toList)) (by simp only [Op.stringOp, Sem.run_pure]) (by simp only [VR, e2])
  · exact run_as (x := .bool (Op.bytesLess s.toList t.toList || s.toList == t.toList)) (by simp only [Op.stringOp, Sem.run_pure]) (by simp only [VR, e1, e2])
  · exact run_as (x := .bool (!(Op.bytesLess s.toList t.toList || s.toList == t.toList))) (by simp only [Op.stringOp, Sem.run_pure]) (by simp only [VR, e1, e2])
  · exact run_as (x := .bool (!Op.bytesLess s.toList t.toList)) (by simp only [Op.stringOp, Sem.run_pure]) (by simp only [VR, e2])

theorem eqCell_bool {a b : Bool} : (!(xor a b)) = (a == b) := by cases a <;> cases b <;> rfl
theorem kEq_eq {j k : IntKind} (h : kEq j k = true) : j = k := by cases j <;> cases k <;> first | rfl | cases h
theorem nil_ptr {y : V} {b : Value} {q : Bool} (h : eqCell .nilptr y = some q) (hb : VR r y b) : ∃ o, b = .pointer o ∧ q = o.isNone := by
  cases y <;> simp only [eqCell, Option.some.injEq, reduceCtorEq] at h
  · exact ⟨none, hb, h.symm⟩
  · obtain ⟨_, _, he⟩ := hb; exact ⟨_, he, h.symm⟩
theorem ptr_nil {y : V} {b : Value} {q : Bool} (h : eqCell y .nilptr = some q) (hb : VR r y b) : ∃ o, b = .pointer o ∧ q = o.isNone := by
  cases y <;> simp only [eqCell, Option.some.injEq, reduceCtorEq] at h
  · exact ⟨none, hb, h.symm⟩
  · obtain ⟨_, _, he⟩ := hb; exact ⟨_, he, h.symm⟩
theorem slice_some {b o n : Nat} {c : Cap} {x : Value} (h : VR r (.slice b o n c) x) : ∃ a m k, x = .slice (some a) m k := by
  cases c with
  | kn c =>
    obtain ⟨_, _, he | ⟨_, _, a, he⟩⟩ := h
    · exact ⟨_, _, _, he⟩
    · exact ⟨_, _, _, he⟩
  | un es lo =>
    obtain ⟨_, _, ⟨c, he, _⟩ | ⟨_, _, a, he⟩⟩ := h
    · exact ⟨_, _, _, he⟩
    · exact ⟨_, _, _, he⟩
theorem nil_slice {y : V} {b : Value} {q : Bool} (h : eqCell .nilslice y = some q) (hb : VR r y b) : ∃ o n c, b = .slice o n c ∧ q = o.isNone := by
  cases y <;> simp only [eqCell, Option.some.injEq, reduceCtorEq] at h
  · exact ⟨none, 0, 0, hb, h.symm⟩
  · obtain ⟨_, _, _, he⟩ := slice_some hb; exact ⟨_, _, _, he, h.symm⟩
theorem slice_nil {y : V} {b : Value} {q : Bool} (h : eqCell y .nilslice = some q) (hb : VR r y b) : ∃ o n c, b = .slice o n c ∧ q = o.isNone := by
  cases y <;> simp only [eqCell, Option.some.injEq, reduceCtorEq] at h
  · exact ⟨none, 0, 0, hb, h.symm⟩
  · obtain ⟨_, _, _, he⟩ := slice_some hb; exact ⟨_, _, _, he, h.symm⟩
theorem nil_map {y : V} {b : Value} {q : Bool} (h : eqCell .nilmap y = some q) (hb : VR r y b) : ∃ o, b = .map o ∧ q = o.isNone := by
  cases y <;> simp only [eqCell, Option.some.injEq, reduceCtorEq] at h
  · exact ⟨none, hb, h.symm⟩
  · obtain ⟨_, _, he⟩ := hb; exact ⟨_, he, h.symm⟩
theorem map_nil {y : V} {b : Value} {q : Bool} (h : eqCell y .nilmap = some q) (hb : VR r y b) : ∃ o, b = .map o ∧ q = o.isNone := by
  cases y <;> simp only [eqCell, Option.some.injEq, reduceCtorEq] at h
  · exact ⟨none, hb, h.symm⟩
  · obtain ⟨_, _, he⟩ := hb; exact ⟨_, he, h.symm⟩
theorem nil_fn {y : V} {b : Value} {q : Bool} (h : eqCell .nilfn y = some q ∨ eqCell y .nilfn = some q) (hb : VR r y b) : (b = .nilFunc ∧ q = true) ∨ ∃ f a c, b = .func f a c ∧ q = false := by
  cases y <;> simp only [eqCell, Option.some.injEq, reduceCtorEq, or_self] at h
  · exact .inl ⟨hb, h.symm⟩
  · obtain ⟨_, _, he, _⟩ := hb; exact .inr ⟨_, _, _, he, h.symm⟩
theorem nil_iface {y : V} {b : Value} {q : Bool} (h : eqCell .niliface y = some q ∨ eqCell y .niliface = some q) (hb : VR r y b) : (b = .nilIface ∧ q = true) ∨ ∃ f a, b = .iface f a ∧ q = false := by
  cases y <;> simp only [eqCell, Option.some.injEq, reduceCtorEq, or_self] at h
  · exact .inl ⟨hb, h.symm⟩
  · obtain ⟨_, he, _⟩ := hb; exact .inr ⟨_, _, he, h.symm⟩
theorem eqFields {f D : Nat} {E : Env} (ih : ∀ {t : Nat} {x y : V} {q : Bool}, eqV E f t x y = some q → ∀ {a b : Value}, VR r x a → VR r y b → (Op.equalIn D t a b).run P w = .ok q w)
    {xs ys : List V} {xa ya : Array Value} (hxa : VRs r xs xa.toList) (hya : VRs r ys ya.toList) : ∀ {l : List Field} {fs : List FD}, F2 (fun f fd => Nonempty (FdAt P f fd)) l fs → (∀ g ∈ l, g.name ≠ "_") → ∀ {q : Bool}, eqFs (eqV E f) fs xs ys = some q →
    (forIn (m := Sem) l ((none, ()) : Option Bool × Unit) fun (g : Field) _ =>
      if g.name ≠ "_" then do
        let u ← Go.part g.type xa g.offset
        let v ← Go.part g.type ya g.offset
        let e ← Op.equalIn D g.type u v
        if (!e) = true then pure (ForInStep.done (some false, ())) else pure (ForInStep.yield (none, ()))
      else pure (ForInStep.yield (none, ()))).run P w = .ok (if q then none else some false, ()) w := by
  intro l fs hF
  induction hF with
  | nil => intro _ q h; simp only [eqFs, Option.some.injEq] at h; subst h; simp
  | cons hfd _ ih2 =>
    rename_i g fd l fs _
    intro hn q h
    obtain ⟨fa⟩ := hfd
    have hg := hn g (by simp)
    obtain ⟨x, hx, h2⟩ := ob_some h
    obtain ⟨y, hy, h3⟩ := ob_some h2
    obtain ⟨e, he, h4⟩ := ob_some h3
    rw [fa.eq] at hx hy he
    obtain ⟨u, hu, hxu⟩ := part_sound fa.hi fa.hd hxa hx w
    obtain ⟨v, hv, hyv⟩ := part_sound fa.hi fa.hd hya hy w
    have hr := ih he hxu hyv
    simp only at hu hv hr
    simp only [List.forIn_cons, Sem.run_bind, hg, ne_eq, not_false_eq_true, if_true, hu, Result.andThen_ok, hv, hr]
    cases e with
    | false =>
      simp only [cond_false, Option.some.injEq] at h4
      subst h4
      simp
    | true =>
      simp only [cond_true] at h4
      have := ih2 (fun g hg => hn g (by simp [hg])) h4
      simpa using this
/-- '==' on the values of a type. -/
theorem eq_sound (hE : TisOk P E) : ∀ (f : Nat) {t : Nat} {x y : V} {q : Bool}, eqV E f t x y = some q → ∀ {a b : Value}, VR r x a → VR r y b → ∀ D, f ≤ D →
    (Op.equalIn D t a b).run P w = .ok q w := by
  intro f
  induction f with
  | zero => intro t x y q h; cases h
  | succ f ih =>
    intro t x y q h a b ha hb D hD
    obtain ⟨D, rfl⟩ : ∃ D', D = D' + 1 := ⟨D - 1, by omega⟩
    obtain ⟨ti, ht, h2⟩ := ob_some h
    obtain ⟨tA⟩ := hE.at ht
    have hu := run_underlying' (w := w) tA.hd
    have htd := tA.td
    unfold Op.equalIn
    simp only [Sem.run_bind, hu, Result.andThen_ok]
    split at h2
    · -- structs
      rename_i fs xs ys e
      rw [htd] at e
      obtain ⟨F, hd, hfs, hc⟩ := tdOf_struct e
      have hc' := hc.symm
      simp only [Bool.and_eq_true, Bool.not_eq_true'] at hc'
      obtain ⟨⟨hs1, _⟩, hs3⟩ := hc'
      obtain ⟨xa, rfl, hxa⟩ := ha
      obtain ⟨ya, rfl, hya⟩ := hb
      rw [hd]
      simp only [Sem.run_bind, run_program, Result.andThen_ok, hs1, Bool.false_eq_true, if_false]
      have hn : ∀ g ∈ F.toList, g.name ≠ "_" := by
        intro g hg
        have := Array.all_eq_true'.1 hs3 g (by simpa using hg)
        simpa using this
      have key := eqFields (P := P) (w := w) (D := D) (fun h _ _ ha hb => ih h ha hb D (by omega)) hxa hya (fdsOf_F2 hfs) hn h2
      rw [← Array.forIn_toList, key]
      cases q <;> simp
    · -- pointers to one block
      rename_i e b1 o1 b2 o2 etd
      rw [htd] at etd
      have hd := tdOf_pointer etd
      obtain ⟨ei, he, h3⟩ := ob_some h2
      obtain ⟨eA⟩ := hE.at he
      cases hz : Nat.beq ei.size 0 with
      | true => rw [hz] at h3; cases h3
      | false =>
        rw [hz] at h3
        obtain ⟨hb12, h4⟩ := bif_some (show (bif Nat.beq b1 b2 then some (Nat.beq o1 o2) else none) = some q from h3)
        have hb12 := Nat.eq_of_beq_eq_true hb12
        subst hb12
        simp only [Option.some.injEq] at h4
        obtain ⟨q1, hq1, rfl⟩ := ha
        obtain ⟨q2, hq2, rfl⟩ := hb
        rw [hq1] at hq2
        cases hq2
        rw [hd]
        have hne : eA.i.size ≠ 0 := by have := Nat.ne_of_beq_eq_false hz; rwa [eA.size] at this
        simp only [Sem.run_bind, run_sizeOf eA.hi, Result.andThen_ok, hne, ne_eq, not_false_eq_true, if_true, sameAddr, BEq.rfl, Sem.run_pure]
        congr 1
        rw [← h4, Bool.eq_iff_iff]
        simp
    · -- interfaces
      rename_i u x w' y etd
      rw [htd] at etd
      obtain ⟨ms, hd⟩ := tdOf_iface etd
      obtain ⟨a', rfl, ha'⟩ := ha
      obtain ⟨b', rfl, hb'⟩ := hb
      rw [hd]
      cases huw : Nat.beq u w' with
      | false =>
        rw [huw] at h2
        simp only [cond_false, Option.some.injEq] at h2
        subst h2
        have hne := Nat.ne_of_beq_eq_false huw
        simp [hne]
      | true =>
        rw [huw] at h2
        have huw := Nat.eq_of_beq_eq_true huw
        subst huw
        obtain ⟨i, hi, h3⟩ := ob_some (show ob (E.ti u) _ = some q from h2)
        obtain ⟨hc, h4⟩ := bif_some h3
        obtain ⟨iA⟩ := hE.at hi
        have hcomp : iA.i.comparable = true := by rw [← iA.comp]; exact hc
        have := ih h4 ha' hb' D (by omega)
        simp [run_typeInfo iA.hi, hcomp, this]
    · -- bools
      rename_i p q' etd
      rw [htd] at etd
      rw [tdOf_bool etd]
      obtain rfl : a = _ := ha
      obtain rfl : b = _ := hb
      simp only [eqCell, Option.some.injEq] at h2
      subst h2
      simp [eqCell_bool]
    · -- numbers
      rename_i k j m l n etd
      rw [htd] at etd
      rw [tdOf_int etd]
      obtain rfl : a = _ := ha
      obtain rfl : b = _ := hb
      simp only [eqCell] at h2
      obtain ⟨hk, h3⟩ := bif_some h2
      simp only [Option.some.injEq] at h3
      obtain rfl := kEq_eq hk
      subst h3
      simp [eqI_eq]
    · -- strings
      rename_i s s' etd
      rw [htd] at etd
      rw [tdOf_string etd]
      obtain ⟨c, rfl, rfl⟩ := ha
      obtain ⟨d, rfl, rfl⟩ := hb
      simp only [eqCell, Option.some.injEq] at h2
      subst h2
      simp only [Sem.run_pure, strEq_eq, bytesOf_inj]
      congr 1
      rw [Bool.eq_iff_iff, ba_beq, ByteArray.toList_eq, ByteArray.toList_eq, beq_iff_eq (a := c.data), beq_iff_eq (a := c.data.toList), Array.toList_inj]
    · rename_i etd
      rw [htd] at etd
      rw [tdOf_pointer etd]
      obtain rfl : a = _ := ha
      obtain ⟨o, rfl, rfl⟩ := nil_ptr h2 hb
      rfl
    · rename_i etd _
      rw [htd] at etd
      rw [tdOf_pointer etd]
      obtain rfl : b = _ := hb
      obtain ⟨o, rfl, rfl⟩ := ptr_nil h2 ha
      cases o <;> rfl
    · rename_i etd
      rw [htd] at etd
      rw [(tdOf_slice etd).1]
      obtain rfl : a = _ := ha
      obtain ⟨o, n, c, rfl, rfl⟩ := nil_slice h2 hb
      rfl
    · rename_i etd _
      rw [htd] at etd
      rw [(tdOf_slice etd).1]
      obtain rfl : b = _ := hb
      obtain ⟨o, n, c, rfl, rfl⟩ := slice_nil h2 ha
      cases o <;> rfl
    · rename_i etd
      rw [htd] at etd
      rw [tdOf_map etd]
      obtain rfl : a = _ := ha
      obtain ⟨o, rfl, rfl⟩ := nil_map h2 hb
      rfl
    · rename_i etd _
      rw [htd] at etd
      rw [tdOf_map etd]
      obtain rfl : b = _ := hb
      obtain ⟨o, rfl, rfl⟩ := map_nil h2 ha
      cases o <;> rfl
    · rename_i etd
      rw [htd] at etd
      obtain ⟨_, _, _, hd⟩ := tdOf_func etd
      rw [hd]
      obtain rfl : a = _ := ha
      obtain ⟨rfl, rfl⟩ | ⟨_, _, _, rfl, rfl⟩ := nil_fn (.inl h2) hb <;> rfl
    · rename_i etd _
      rw [htd] at etd
      obtain ⟨_, _, _, hd⟩ := tdOf_func etd
      rw [hd]
      obtain rfl : b = _ := hb
      obtain ⟨rfl, rfl⟩ | ⟨_, _, _, rfl, rfl⟩ := nil_fn (.inr h2) ha <;> rfl
    · rename_i etd
      rw [htd] at etd
      obtain ⟨_, hd⟩ := tdOf_iface etd
      rw [hd]
      obtain rfl : a = _ := ha
      obtain ⟨rfl, rfl⟩ | ⟨_, _, rfl, rfl⟩ := nil_iface (.inl h2) hb <;> rfl
    · rename_i etd _
      rw [htd] at etd
      obtain ⟨_, hd⟩ := tdOf_iface etd
      rw [hd]
      obtain rfl : b = _ := hb
      obtain ⟨rfl, rfl⟩ | ⟨_, _, rfl, rfl⟩ := nil_iface (.inr h2) ha <;> rfl
    · cases h2
end
end Go.Ev
namespace Go.Ev

section
variable {P : Program} {w : World} {r : Rho} {E : Env}

theorem eqGuardType_of {t : Nat} {ti : TI} (ht : TiAt P t ti) {fs : List FD} (hd : ti.d = .struct fs true) : P.eqGuardType P.depth t = false := by
  rw [ht.td] at hd
  obtain ⟨F, _, _, hc⟩ := tdOf_struct hd
  have hc' := hc.symm
  simp only [Bool.and_eq_true, Bool.not_eq_true'] at hc'
  exact hc'.1.2

def plain : V → Bool
  | .unk => false
  | .stamp _ => false
  | _ => true
theorem eqCell_plain {x y : V} {q : Bool} (h : eqCell x y = some q) : plain x = true ∧ plain y = true := by
  unfold eqCell at h
  split at h <;> first | (exact ⟨rfl, rfl⟩) | cases h
theorem eqV_plain {f t : Nat} {x y : V} {q : Bool} (h : eqV E f t x y = some q) : plain x = true ∧ plain y = true := by
  cases f with
  | zero => cases h
  | succ f =>
    obtain ⟨ti, _, h2⟩ := ob_some h
    split at h2 <;> first | (exact ⟨rfl, rfl⟩) | (exact eqCell_plain h2) | cases h2
theorem VR.slice_is {b o n : Nat} {c : Cap} {x : Value} (h : VR r (.slice b o n c) x) : ∃ a m k, x = .slice a m k := by
  obtain ⟨a, m, k, he⟩ := slice_some h
  exact ⟨some a, m, k, he⟩
theorem VR.int_inv {x : V} (hp : plain x = true) {k : IntKind} {n : Int} (h : VR r x (.int k n)) : x = .int k n := by
  cases x with
  | int j m => cases (show Value.int k n = .int j m from h); rfl
  | slice b o n c => obtain ⟨a, m, k, he⟩ := h.slice_is; cases he
  | unk => cases hp
  | stamp i => cases hp
  | _ => simp [VR] at h
theorem VR.string_inv {x : V} (hp : plain x = true) {s : ByteArray} (h : VR r x (.string s)) : x = .str (bytesOf s) := by
  cases x with
  | str l => obtain ⟨t, he, hb⟩ := h; cases he; rw [hb]
  | slice b o n c => obtain ⟨a, m, k, he⟩ := h.slice_is; cases he
  | unk => cases hp
  | stamp i => cases hp
  | _ => simp [VR] at h
theorem VR.float_no {x : V} (hp : plain x = true) {k : FloatKind} {n : Nat} (h : VR r x (.float k n)) : False := by
  cases x with
  | slice b o n c => obtain ⟨a, m, k, he⟩ := h.slice_is; cases he
  | unk => cases hp
  | stamp i => cases hp
  | _ => simp [VR] at h
theorem VR.complex_no {x : V} (hp : plain x = true) {k : FloatKind} {n m : Nat} (h : VR r x (.complex k n m)) : False := by
  cases x with
  | slice b o n c => obtain ⟨a, m, k, he⟩ := h.slice_is; cases he
  | unk => cases hp
  | stamp i => cases hp
  | _ => simp [VR] at h
theorem VR.nilIface_inv {x : V} (hp : plain x = true) (h : VR r x .nilIface) : x = .niliface := by
  cases x with
  | niliface => rfl
  | slice b o n c => obtain ⟨a, m, k, he⟩ := h.slice_is; cases he
  | unk => cases hp
  | stamp i => cases hp
  | _ => simp [VR] at h
theorem VR.agg_inv {x : V} (hp : plain x = true) {a : Array Value} (h : VR r x (.agg a)) : ∃ xs, x = .agg xs := by
  cases x with
  | agg xs => exact ⟨xs, rfl⟩
  | slice b o n c => obtain ⟨a, m, k, he⟩ := h.slice_is; cases he
  | unk => cases hp
  | stamp i => cases hp
  | _ => simp [VR] at h

theorem eqV_agg {f t : Nat} {xs : List V} {y : V} {q : Bool} (h : eqV E f t (.agg xs) y = some q) : ∃ ti fs, E.ti t = some ti ∧ ti.d = .struct fs true := by
  cases f with
  | zero => cases h
  | succ f =>
    obtain ⟨ti, ht, h2⟩ := ob_some h
    split at h2 <;> first
      | (rename_i hx; cases hx; done)
      | (rename_i hd _; exact ⟨ti, _, ht, hd⟩)
      | (rename_i hx _; cases hx; done)
      | (simp [eqCell] at h2; done)
      | cases h2
      | skip

theorem eqO_sound (hE : TisOk P E) {t : Nat} {xo yo : Operand} {x y : V} {q : Bool} (h : eqO E t (isConstO xo) (isConstO yo) x y = some q) {a b : Value} (ha : VR r x a) (hb : VR r y b) :
    (eqGuard .eql t xo yo a b).run P w = .ok () w ∧ (Op.equal t a b).run P w = .ok q w ∧ plain x = true ∧ plain y = true := by
  have h8 : eqV E 8 t x y = some q := by
    unfold eqO at h
    split at h
    · exact (bif_some h).2
    · exact h
  have hp := eqV_plain h8
  refine ⟨?_, eq_sound hE 8 h8 ha hb _ (by decide), hp⟩
  unfold eqGuard
  simp only [Bool.not_true, Bool.false_eq_true, if_false]
  split
  · obtain rfl := ha.nilIface_inv hp.1
    obtain rfl := hb.nilIface_inv hp.2
    obtain ⟨hc, _⟩ := bif_some (show (bif isConstO xo || isConstO yo then eqV E 8 t .niliface .niliface else none) = some q from h)
    clear h h8
    cases xo <;> cases yo <;> first | (cases hc; done) | simp
  · obtain ⟨xs, rfl⟩ := ha.agg_inv hp.1
    obtain ⟨ti, fs, ht, hd⟩ := eqV_agg h8
    obtain ⟨tA⟩ := hE.at ht
    simp [eqGuardType_of tA hd]
  · simp
theorem eqGuard_neq {t : Nat} {xo yo : Operand} {a b : Value} : eqGuard .neq t xo yo a b = eqGuard .eql t xo yo a b := rfl
theorem equal_arm {op : BinOp} (hop : op = .eql ∨ op = .neq) {x y : V} (hx : plain x = true) (hy : plain y = true) {a b : Value} (ha : VR r x a) (hb : VR r y b)
    (hi : ∀ k m j n, x = .int k m → y = .int j n → False) (hs : ∀ s t, x = .str s → y = .str t → False) {t : Nat} {q : Bool} (h : (Op.equal t a b).run P w = .ok q w) :
    (binOp op t a b).run P w = .ok (.bool (if op = .eql then q else !q)) w := by
  unfold binOp
  rcases hop with rfl | rfl
  all_goals
    split <;> first
      | (exact (hi _ _ _ _ (ha.int_inv hx) (hb.int_inv hy)).elim)
      | (exact (ha.float_no hx).elim)
      | (exact (ha.complex_no hx).elim)
      | (exact (hs _ _ (ha.string_inv hx) (hb.string_inv hy)).elim)
      | (simp [h]; done)
      | contradiction
      | (simp_all; done)
      | trace_state

theorem bin_sound (hE : TisOk P E) {op : BinOp} {t : Nat} {xo yo : Operand} {x y v : V} (h : binV E op t (isConstO xo) (isConstO yo) x y = some v) {a b : Value} (ha : VR r x a) (hb : VR r y b) :
    ∃ z, (do eqGuard op t xo yo a b; binOp op t a b : Sem Value).run P w = .ok z w ∧ VR r v z := by
  have hint : ∀ {k j m n}, (eqGuard op t xo yo (.int k m) (.int j n)).run P w = .ok () w := by
    intro k j m n
    unfold eqGuard
    split <;> simp
  unfold binV at h
  split at h
  · rename_i k a' j b'
    obtain rfl : a = _ := ha
    obtain rfl : b = _ := hb
    obtain ⟨z, hz, hv⟩ := shift_sound (j := j) r h w
    exact ⟨z, by simp only [Sem.run_bind, hint, Result.andThen_ok]; exact hz, hv⟩
  · rename_i k a' j b'
    obtain rfl : a = _ := ha
    obtain rfl : b = _ := hb
    obtain ⟨z, hz, hv⟩ := shift_sound (j := j) r h w
    exact ⟨z, by simp only [Sem.run_bind, hint, Result.andThen_ok]; exact hz, hv⟩
  · obtain rfl : a = _ := ha
    obtain rfl : b = _ := hb
    obtain ⟨hk, h2⟩ := bif_some h
    obtain rfl := kEq_eq hk
    obtain ⟨z, hz, hv⟩ := arith_sound r h2 w
    refine ⟨z, ?_, hv⟩
    simp only [Sem.run_bind, hint, Result.andThen_ok]
    rw [← hz]
    cases op <;> rfl
  · obtain ⟨s, rfl, rfl⟩ := ha
    obtain ⟨s', rfl, rfl⟩ := hb
    obtain ⟨z, hz, hv⟩ := str_sound (P := P) (w := w) (r := r) h
    refine ⟨z, ?_, hv⟩
    have : (eqGuard op t xo yo (.string s) (.string s')).run P w = .ok () w := by
      unfold eqGuard
      split <;> simp
    simp only [Sem.run_bind, this, Result.andThen_ok]
    rw [← hz]
    cases op <;> rfl
  · obtain ⟨n, hn, rfl⟩ := ha
    obtain ⟨m, hm, rfl⟩ := hb
    obtain ⟨hij, h2⟩ := bif_some h
    cases h2
    have := Nat.eq_of_beq_eq_true hij
    subst this
    rw [hn] at hm
    cases hm
    obtain ⟨z, hz, hv⟩ := arith_sound (P := P) (op := .eql) (k := .i64) (a := n) (b := n) r rfl w
    have ht : eqI n n = true := by rw [eqI_eq]; simp
    rw [ht] at hv
    refine ⟨z, ?_, hv⟩
    simp only [Sem.run_bind, hint, Result.andThen_ok]
    rw [← hz]
    rfl
  · rename_i h1 h2 _
    obtain ⟨q, hq, he⟩ := ob_some h
    cases he
    obtain ⟨g1, g2, p1, p2⟩ := eqO_sound (w := w) hE hq ha hb
    refine ⟨.bool q, ?_, rfl⟩
    simp only [Sem.run_bind, g1, Result.andThen_ok]
    exact equal_arm (.inl rfl) p1 p2 ha hb (fun k m j n e1 e2 => by subst e1; subst e2; exact h1 _ _ _ _ rfl rfl) (fun s t e1 e2 => by subst e1; subst e2; exact h2 _ _ rfl rfl) g2
  · rename_i h1 h2
    obtain ⟨q, hq, he⟩ := ob_some h
    cases he
    obtain ⟨g1, g2, p1, p2⟩ := eqO_sound (w := w) hE hq ha hb
    refine ⟨.bool !q, ?_, rfl⟩
    simp only [Sem.run_bind, eqGuard_neq, g1, Result.andThen_ok]
    exact equal_arm (.inr rfl) p1 p2 ha hb (fun k m j n e1 e2 => by subst e1; subst e2; exact h1 _ _ _ _ rfl rfl) (fun s t e1 e2 => by subst e1; subst e2; exact h2 _ _ rfl rfl) g2
  · cases h

theorem un_sound {op : UnOp} {x v : V} (h : unV op x = some v) {a : Value} (ha : VR r x a) : ∃ z, (Op.unary op a).run P w = .ok z w ∧ VR r v z := by
  unfold unV at h
  split at h
  · obtain rfl : a = _ := ha
    simp only [Option.some.injEq] at h
    subst h
    refine ⟨_, by simp [Op.unary, Op.intArith]; rfl, ?_⟩
    rw [wrapK_eq]
    simp [VR]; rfl
  · obtain rfl : a = _ := ha
    rename_i k n
    obtain ⟨z, hz, hv⟩ := arith_sound (P := P) r h w
    refine ⟨z, ?_, hv⟩
    rw [← hz]; simp [Op.unary, binOp]
  · obtain rfl : a = _ := ha
    simp only [Option.some.injEq] at h
    subst h
    exact ⟨_, by simp [Op.unary], rfl⟩
  · cases h
theorem conv_sound (hE : TisOk P E) {s t : Nat} {x v : V} (h : convP E t x = some v) {a : Value} (ha : VR r x a) (hs : ∃ d, P.underlying s = some d) : ∃ z, (convert s t a).run P w = .ok z w ∧ VR r v z := by
  obtain ⟨ti, ht, h2⟩ := ob_some h
  obtain ⟨tA⟩ := hE.at ht
  obtain ⟨sd, hs⟩ := hs
  split at h2
  · rename_i k j n e
    rw [tA.td] at e
    have hd := tdOf_int e
    obtain rfl : a = _ := ha
    simp only [Option.some.injEq] at h2
    subst h2
    refine ⟨.int k (k.wrap n), ?_, by rw [wrapK_eq]; rfl⟩
    unfold convert
    simp only [Sem.run_bind, run_underlying' hs, run_underlying' tA.hd, Result.andThen_ok, hd]
    cases sd <;> simp [Conv.intToInt]
  · rename_i l e
    rw [tA.td] at e
    have hd := tdOf_string e
    obtain ⟨t, rfl, rfl⟩ := ha
    simp only [Option.some.injEq] at h2
    subst h2
    refine ⟨.string t, ?_, t, rfl, rfl⟩
    unfold convert
    simp only [Sem.run_bind, run_underlying' hs, run_underlying' tA.hd, Result.andThen_ok, hd]
    cases sd <;> simp
  · cases h2

theorem nil_sound {a : Act} {o : Oper} {y : Operand} (eo : o.op = .nilCheck y) {x : Value} (hy : a.eval y = x) {q v : V} (hx : VR r q x) (h : nilOk q = some v) : Ans P r (execOp a.eval o) v w := by
  unfold execOp
  rw [eo]
  simp only [hy]
  unfold nilOk at h
  split at h <;> first
    | (cases h; done)
    | skip
  cases h
  refine ⟨x, ?_, hx⟩
  cases q with
  | slice b o n c => obtain ⟨a, m, k, rfl⟩ := hx.slice_is; rfl
  | unk => simp_all
  | nilptr => simp_all
  | niliface => simp_all
  | nilfn => simp_all
  | bool b => obtain rfl : x = _ := hx; rfl
  | int k n => obtain rfl : x = _ := hx; rfl
  | str s => obtain ⟨t, rfl, _⟩ := hx; rfl
  | ptr b o => obtain ⟨t, _, rfl⟩ := hx; rfl
  | nilslice => obtain rfl : x = _ := hx; rfl
  | nilmap => obtain rfl : x = _ := hx; rfl
  | map b => obtain ⟨t, _, rfl⟩ := hx; rfl
  | fn f a c => obtain ⟨_, _, rfl, _⟩ := hx; rfl
  | yield l => obtain ⟨t, _, rfl⟩ := hx; rfl
  | iface t v => obtain ⟨t, rfl, _⟩ := hx; rfl
  | agg cs => obtain ⟨t, rfl, _⟩ := hx; rfl
  | tup cs => obtain ⟨t, rfl, _⟩ := hx; rfl
  | glob g => obtain rfl : x = _ := hx; rfl
  | stamp i => obtain ⟨t, _, rfl⟩ := hx; rfl

theorem execP_sound (hE : TisOk P E) {n : Nat} {tm : T V} {a : Act} (hT : TR r n tm a.tmps) {o : Oper} {v : V} (h : execP E tm o.op = some v) : Ans P r (execOp a.eval o) v w := by
  obtain ⟨op, dst, guard, after, ty⟩ := o
  simp only at h
  unfold execP at h
  split at h
  · exact ⟨_, rfl, evo_sound hT h⟩
  · exact ⟨_, rfl, evo_sound hT h⟩
  · obtain ⟨q, hq, h2⟩ := ob_some h
    have hc := evo_sound hT hq
    split at h2
    · refine ⟨_, ?_, evo_sound hT h2⟩
      simp [execOp, show a.eval _ = _ from hc, asBool]
    · refine ⟨_, ?_, evo_sound hT h2⟩
      simp [execOp, show a.eval _ = _ from hc, asBool]
    · cases h2
  · obtain ⟨q, hq, h2⟩ := ob_some h
    have hc := evo_sound hT hq
    exact nil_sound rfl rfl hc h2
  · obtain ⟨x, hx, h2⟩ := ob_some h
    obtain ⟨y, hy, h3⟩ := ob_some h2
    obtain ⟨z, hz, hv⟩ := bin_sound (w := w) hE h3 (evo_sound hT hx) (evo_sound hT hy)
    exact Ans.of hz hv
  · obtain ⟨x, hx, h2⟩ := ob_some h
    obtain ⟨z, hz, hv⟩ := un_sound (P := P) (w := w) h2 (evo_sound hT hx)
    exact Ans.of hz hv
  · obtain ⟨ti, ht, h2⟩ := ob_some h
    obtain ⟨tA⟩ := hE.at ht
    split at h2
    · cases h2
    · rename_i hne
      obtain ⟨x, hx, h3⟩ := ob_some h2
      cases h3
      refine Ans.of (x := .iface _ (a.eval _)) ?_ ⟨_, rfl, evo_sound hT hx⟩
      unfold Instr.makeInterface
      simp only [Sem.run_bind, run_underlying' tA.hd, Result.andThen_ok]
      split
      · rename_i ms e
        exact (hne (by rw [tA.td, e]; rfl)).elim
      · rfl
  · obtain ⟨x, hx, h2⟩ := ob_some h
    obtain ⟨y, hy, h3⟩ := ob_some h2
    cases h3
    exact ⟨_, rfl, _, _, rfl, evos_sound hT hx, evos_sound hT hy⟩
  · obtain ⟨ti, ht, h2⟩ := ob_some h
    obtain ⟨tA⟩ := hE.at ht
    obtain ⟨x, hx, h3⟩ := ob_some h2
    obtain ⟨z, hz, hv⟩ := slice_sound (w := w) hT tA (evo_sound hT hx) h3
    exact Ans.of hz hv
  · obtain ⟨ti, ht, h2⟩ := ob_some h
    obtain ⟨tA⟩ := hE.at ht
    obtain ⟨x, hx, h3⟩ := ob_some h2
    obtain ⟨z, hz, hv⟩ := fieldAddr_sound tA (evo_sound hT hx) h3 w
    exact Ans.of hz hv
  · obtain ⟨ti, ht, h2⟩ := ob_some h
    obtain ⟨tA⟩ := hE.at ht
    obtain ⟨x, hx, h3⟩ := ob_some h2
    obtain ⟨z, hz, hv⟩ := field_sound tA (evo_sound hT hx) h3 w
    exact Ans.of hz hv
  · obtain ⟨ti, ht, h2⟩ := ob_some h
    obtain ⟨tA⟩ := hE.at ht
    obtain ⟨x, hx, h3⟩ := ob_some h2
    obtain ⟨y, hy, h4⟩ := ob_some h3
    obtain ⟨z, hz, hv⟩ := indexAddr_sound tA (evo_sound hT hx) (evo_sound hT hy) h4 w
    exact Ans.of hz hv
  · obtain ⟨ti, ht, h2⟩ := ob_some h
    obtain ⟨tA⟩ := hE.at ht
    obtain ⟨x, hx, h3⟩ := ob_some h2
    obtain ⟨y, hy, h4⟩ := ob_some h3
    obtain ⟨z, hz, hv⟩ := index_sound tA (evo_sound hT hx) (evo_sound hT hy) h4 w
    exact Ans.of hz hv
  · obtain ⟨x, hx, h2⟩ := ob_some h
    split at h2
    · obtain ⟨c, hc, hv⟩ := evo_sound hT hx
      rw [nth_eq] at h2
      obtain ⟨y, hy, hyv⟩ := (VRs.forall₂.1 hv).get _ _ h2
      refine Ans.of (x := y) ?_ hyv
      rw [Array.getElem?_toList] at hy
      simp [hc, Instr.extract, hy]
    · cases h2
  · obtain ⟨ti, ht, h2⟩ := ob_some h
    obtain ⟨tA⟩ := hE.at ht
    obtain ⟨ps, hx, h3⟩ := ob_some h2
    have := parts_sound hT hx
    obtain ⟨z, hz, hv⟩ := build_sound tA (qs := Array.map (fun (i, x) => (i, a.eval x)) _) (by rw [Array.toList_map]; exact this) h3 w
    exact Ans.of hz hv
  · obtain ⟨si, hs, h2⟩ := ob_some h
    obtain ⟨sA⟩ := hE.at hs
    obtain ⟨x, hx, h3⟩ := ob_some h2
    obtain ⟨z, hz, hv⟩ := conv_sound (w := w) hE h3 (evo_sound hT hx) ⟨_, sA.hd⟩
    exact Ans.of hz hv
  · cases h
end
end Go.Ev
namespace Go.Ev

section
variable {P : Program} {w : World}

theorem add_none (b o i : Nat) : (⟨b, o, none⟩ : Addr).add i = ⟨b, o + i, none⟩ := add_eq b o i

theorem cell_of {b : Nat} {c : Array Value} {t : TypeId} {fr : Nat × Nat} (hb : w.heap[b]? = some (.cells c t fr)) (o : Nat) : w.cell? ⟨b, o, none⟩ = c[o]? := by
  simp [World.cell?, hb]

theorem run_load_cell {b o : Nat} {v : Value} (h : w.cell? ⟨b, o, none⟩ = some v) : (load ⟨b, o, none⟩).run P w = .ok v w := by
  simp [load, Sem.run, h]

theorem run_loadFrom {b o : Nat} {c : Array Value} {t : TypeId} {fr : Nat × Nat} (hb : w.heap[b]? = some (.cells c t fr)) :
    ∀ (n i : Nat) (acc : Array Value), o + i + n ≤ c.size → (loadCellsFrom ⟨b, o, none⟩ i n acc).run P w = .ok (acc ++ c.extract (o + i) (o + i + n)) w := by
  intro n
  induction n with
  | zero => intro i acc h; simp [loadCellsFrom]; omega
  | succ n ih =>
    intro i acc h
    have hlt : o + i < c.size := by omega
    have hc : w.cell? ⟨b, o + i, none⟩ = some c[o + i] := by rw [cell_of hb]; simp [hlt]
    unfold loadCellsFrom
    simp only [add_none, Sem.run_bind, run_load_cell hc, Result.andThen_ok]
    rw [ih (i + 1) _ (by omega)]
    congr 1
    rw [← Array.toList_inj]
    have e : c.toList.extract (o + i) (o + i + (n + 1)) = c[o + i] :: c.toList.extract (o + (i + 1)) (o + (i + 1) + n) := by
      rw [List.extract_eq_take_drop, List.extract_eq_take_drop, List.drop_eq_getElem_cons (by simpa using hlt)]
      have e1 : o + i + (n + 1) - (o + i) = n + 1 := by omega
      have e2 : o + (i + 1) + n - (o + (i + 1)) = n := by omega
      rw [e1, e2, List.take_succ_cons]
      simp [Nat.add_assoc]
    simp only [Array.toList_append, Array.toList_push, Array.toList_extract, List.append_assoc, List.singleton_append]
    rw [e]
theorem run_loadRow {b o n : Nat} {c : Array Value} {t : TypeId} {fr : Nat × Nat} (hb : w.heap[b]? = some (.cells c t fr)) (h : o + n ≤ c.size) :
    (loadCells ⟨b, o, none⟩ n).run P w = .ok (c.extract o (o + n)) w := by
  unfold loadCells
  rw [run_loadFrom hb n 0 #[] (by omega)]
  simp

/-- The world with another object at block b. -/
def setB (w : World) (b : Nat) (o : Obj) : World := { w with heap := w.heap.setIfInBounds b o }
theorem setB_get (w : World) (b : Nat) (o : Obj) (k : Nat) : (setB w b o).heap[k]? = if k = b ∧ b < w.heap.size then some o else w.heap[k]? := by
  unfold setB
  rw [Array.getElem?_setIfInBounds]
  by_cases h : b = k
  · subst h
    by_cases hs : b < w.heap.size
    · simp [hs]
    · simp [hs]
  · simp [h, Ne.symm h]
theorem setB_size (w : World) (b : Nat) (o : Obj) : (setB w b o).heap.size = w.heap.size := by simp [setB]
theorem setB_setB (w : World) (b : Nat) (o o' : Obj) : setB (setB w b o) b o' = setB w b o' := by simp [setB]
theorem lt_of_get {b : Nat} {o : Obj} (h : w.heap[b]? = some o) : b < w.heap.size := (Array.getElem?_eq_some_iff.1 h).1
theorem setCell_setB {b o : Nat} {c : Array Value} {t : TypeId} {fr : Nat × Nat} (hb : w.heap[b]? = some (.cells c t fr)) (v : Value) :
    w.setCell ⟨b, o, none⟩ v = setB w b (.cells (c.setIfInBounds o v) t fr) := by
  have hlt := lt_of_get hb
  have hb' : w.heap[b] = .cells c t fr := by simpa [hlt] using hb
  unfold World.setCell setB
  congr 1
  apply Array.ext (by simp)
  intro i h1 h2
  simp only [Array.size_modify] at h1
  rw [Array.getElem_modify]
  by_cases h : b = i
  · subst h; obtain ⟨lo, hi⟩ := fr; simp [hb']
  · rw [Array.getElem_setIfInBounds h1]; simp [h]

def putRow' (c : Array Value) (o : Nat) : List Value → Array Value
  | [] => c
  | v :: vs => putRow' (c.setIfInBounds o v) (o + 1) vs
theorem putRow'_size : ∀ (vs : List Value) (c : Array Value) (o : Nat), (putRow' c o vs).size = c.size := by
  intro vs
  induction vs with
  | nil => intro c o; rfl
  | cons v vs ih => intro c o; simp [putRow', ih]
theorem putRow'_get : ∀ (vs : List Value) (c : Array Value) (o k : Nat), o + vs.length ≤ c.size →
    (putRow' c o vs)[k]? = if o ≤ k ∧ k < o + vs.length then vs[k - o]? else c[k]? := by
  intro vs
  induction vs with
  | nil => intro c o k h; simp [putRow']; omega
  | cons v vs ih =>
    intro c o k h
    simp only [List.length_cons] at h
    simp only [putRow']
    rw [ih _ _ _ (by simp; omega)]
    by_cases h1 : o + 1 ≤ k ∧ k < o + 1 + vs.length
    · rw [if_pos h1, if_pos (by simp; omega)]
      have : k - o = (k - (o + 1)) + 1 := by omega
      rw [this]; simp
    · rw [if_neg h1, Array.getElem?_setIfInBounds]
      by_cases h2 : o = k
      · subst h2
        rw [if_pos rfl, if_pos (by omega), if_pos (by simp only [List.length_cons]; omega)]
        simp
      · rw [if_neg h2, if_neg (by simp only [List.length_cons]; omega)]

theorem run_store_cell {b o : Nat} {c : Array Value} {t : TypeId} {lo hi : Nat} (hb : w.heap[b]? = some (.cells c t (lo, hi))) (ho : o < c.size) (hf : (decide (lo ≤ o) && decide (o < hi)) = false) {v : Value} (hv : v.oneCell' = true) :
    (store ⟨b, o, none⟩ v).run P w = .ok () (setB w b (.cells (c.setIfInBounds o v) t (lo, hi))) := by
  have hc : w.cell? ⟨b, o, none⟩ = some c[o] := by rw [cell_of hb]; simp [ho]
  have hz : w.frozen? ⟨b, o, none⟩ = false := by simp only [World.frozen?, hb]; exact hf
  unfold store
  rw [← setCell_setB hb]
  cases v <;> simp [Sem.run, hc, hz] <;> simp [Value.oneCell'] at hv
theorem run_storeRow {b o t lo hi : Nat} : ∀ (vs : List Value) (i : Nat) (c : Array Value) (w : World), w.heap[b]? = some (.cells c t (lo, hi)) → o + i + vs.length ≤ c.size →
    (∀ k, o + i ≤ k → k < o + i + vs.length → (decide (lo ≤ k) && decide (k < hi)) = false) → (∀ v ∈ vs, v.oneCell' = true) →
    (Go.storeCells ⟨b, o, none⟩ vs i).run P w = .ok () (setB w b (.cells (putRow' c (o + i) vs) t (lo, hi))) := by
  intro vs
  induction vs with
  | nil =>
    intro i c w hb _ _ _
    have : setB w b (.cells c t (lo, hi)) = w := by
      have hlt := lt_of_get hb
      have hb' : w.heap[b] = .cells c t (lo, hi) := by simpa [hlt] using hb
      unfold setB
      have : w.heap.setIfInBounds b (.cells c t (lo, hi)) = w.heap := by
        apply Array.ext (by simp)
        intro k h1 h2
        rw [Array.getElem_setIfInBounds h2]
        by_cases h : b = k
        · subst h; simp [hb']
        · simp [h]
      rw [this]
    simp [Go.storeCells, putRow', this]
  | cons v vs ih =>
    intro i c w hb hl hf h1
    simp only [List.length_cons] at hl hf
    unfold Go.storeCells
    simp only [add_none, Sem.run_bind, run_store_cell hb (show o + i < c.size by omega) (hf _ (by omega) (by omega)) (h1 v (by simp)), Result.andThen_ok]
    have hlt := lt_of_get hb
    rw [ih (i + 1) (c.setIfInBounds (o + i) v) _ (by rw [setB_get, if_pos ⟨rfl, hlt⟩]) (by simp; omega) (fun k h2 h3 => hf k (by omega) (by omega)) (fun u hu => h1 u (by simp [hu])), setB_setB]
    rfl
end
end Go.Ev
namespace Go.Ev

structure CR (P : Program) (el : Nat) (r : Rho) (cs : List V) (fz : Bool) (q : RB) (c : Array Value) (lo hi : Nat) : Prop where
  size : c.size = q.sz
  win : q.sh + cs.length ≤ q.sz
  get : ∀ i v, cs[i]? = some v → ∃ x, c[q.sh + i]? = some x ∧ VR r v x
  melt : fz = false → ∀ i, q.sh ≤ i → i < q.sz → (decide (lo ≤ i) && decide (i < hi)) = false
  al : ∀ i, P.info? el = some i → q.sh % i.size = 0
structure MeR (r : Rho) (e : Me) (x : MapEntry) : Prop where
  key : VR r e.k x.key
  val : VR r e.v x.val
  born : r.st e.i = some (x.born : Int)
structure MR (r : Rho) (es : List Me) (xs : Array MapEntry) (clock : Nat) : Prop where
  ents : ∃ l, l.Perm xs.toList ∧ F2 (MeR r) es l
  keys : es.Pairwise fun a b => eqCell a.k b.k = some false
  born : ∀ x ∈ xs.toList, x.born < clock
  apart : (xs.toList.map (·.born)).Nodup
/-- An object of ours at the machine's block. -/
def OR (P : Program) (r : Rho) (q : RB) (w : World) (nx : Nat) (o : O) (ob : Obj) : Prop :=
  match o with
  | .cells cs el fz => ∃ c lo hi, ob = .cells c el (lo, hi) ∧ CR P el r cs fz q c lo hi
  | .map es => ∃ xs clock, ob = .map xs clock ∧ MR r es xs clock
  | .miter none _ _ => q.sh = 0 ∧ ob = .mapIter none 0 #[] 0
  | .miter (some m) seen k => q.sh = 0 ∧ ∃ p since sa stepped, r.bl m = some p ∧ ob = .mapIter (some p.blk) since sa stepped ∧ k ≤ nx ∧
      (k = nx → ∃ xs, w.heap[p.blk]? = some (Obj.map xs stepped)) ∧
      (match seen with
       | none => sa = #[] ∧ since = stepped
       | some i => ∃ n : Nat, r.st i = some (n : Int) ∧ sa = #[n] ∧ n < stepped)
  | .siter s pos => q.sh = 0 ∧ ∃ t, ob = .stringIter t pos ∧ bytesOf t = s
  | .loop st pend fn n tm ps asg body d => ∃ L p, ob = .loop L ∧ L.state = st ∧ L.pending = pend ∧ L.fn = fn ∧ TR r n tm L.tmps ∧ L.params.toList = ps ∧ L.assign = asg ∧ L.body = body ∧ r.bl d = some p ∧ L.defers = p.blk
  | .defd true => ob = .deferred (some [])
  | .defd false => ob = .deferred none
structure Rel (P : Program) (E : Env) (r : Rho) (h : Hp) (w : World) : Prop where
  os : ∀ b o, h.get b = some o → ∃ q ob, r.bl b = some q ∧ w.heap[q.blk]? = some ob ∧ OR P r q w h.nx o ob
  inj : ∀ b b' o o' q q', h.get b = some o → h.get b' = some o' → r.bl b = some q → r.bl b' = some q' → q.blk = q'.blk → b = b'
  gl : ∀ g, E.gl g = true → (∃ x, w.cell? ⟨g, 0, none⟩ = some x ∧ x.oneCell' = true) ∧ ∀ b o q, h.get b = some o → r.bl b = some q → q.blk ≠ g
  it : ∀ b m s k, h.get b = some (.miter (some m) s k) → k = h.nx → ∃ es, h.get m = some (.map es)
/-- The block k of the machine's is none of ours. -/
def Out (r : Rho) (h : Hp) (k : Nat) : Prop := ∀ b o q, h.get b = some o → r.bl b = some q → q.blk ≠ k
/-- From one state to a later one. -/
structure Stp (P : Program) (E : Env) (r : Rho) (h : Hp) (w : World) (r' : Rho) (h' : Hp) (w' : World) : Prop where
  rel : Rel P E r' h' w'
  nx : h.nx ≤ h'.nx
  same : Same h.nx h'.nx r r'
  size : w.heap.size ≤ w'.heap.size
  keep : ∀ k, k < w.heap.size → Out r h k → w'.heap[k]? = w.heap[k]?
  img : ∀ k, k < w.heap.size → Out r h k → Out r' h' k
  os : w'.os = w.os
  out : w'.output = w.output

section
variable {P : Program} {E : Env} {r r' r'' : Rho} {h h' h'' : Hp} {w w' w'' : World}

theorem Stp.trans (a : Stp P E r h w r' h' w') (b : Stp P E r' h' w' r'' h'' w'') : Stp P E r h w r'' h'' w'' where
  rel := b.rel
  nx := Nat.le_trans a.nx b.nx
  same := a.same.trans b.same a.nx b.nx
  size := Nat.le_trans a.size b.size
  keep := fun k hk ho => (b.keep k (Nat.lt_of_lt_of_le hk a.size) (a.img k hk ho)).trans (a.keep k hk ho)
  img := fun k hk ho => b.img k (Nat.lt_of_lt_of_le hk a.size) (a.img k hk ho)
  os := b.os.trans a.os
  out := b.out.trans a.out
theorem Stp.refl (hR : Rel P E r h w) : Stp P E r h w r h w := ⟨hR, Nat.le_refl _, Same.refl _ _ _, Nat.le_refl _, fun _ _ _ => rfl, fun _ _ h => h, rfl, rfl⟩

theorem MeR.ext (hl : Le r r') {e : Me} {x : MapEntry} (h : MeR r e x) : MeR r' e x := ⟨VR.ext hl _ _ h.key, VR.ext hl _ _ h.val, hl.st _ _ h.born⟩
theorem CR.ext (hl : Le r r') {el : Nat} {cs : List V} {fz : Bool} {q : RB} {c : Array Value} {lo hi : Nat} (h : CR P el r cs fz q c lo hi) : CR P el r' cs fz q c lo hi :=
  ⟨h.size, h.win, fun i v hv => (h.get i v hv).imp fun _ hx => ⟨hx.1, VR.ext hl _ _ hx.2⟩, h.melt, h.al⟩
theorem MR.ext (hl : Le r r') {es : List Me} {xs : Array MapEntry} {clock : Nat} (h : MR r es xs clock) : MR r' es xs clock :=
  ⟨h.ents.imp fun _ hx => ⟨hx.1, hx.2.imp fun _ _ => MeR.ext hl⟩, h.keys, h.born, h.apart⟩
/-- An object of ours, in another world: what an iterator knows of its map's block must hold there still. -/
theorem OR.ext (hl : Le r r') {q : RB} {nx nx' : Nat} {o : O} {ob : Obj} (hn : nx ≤ nx') (hw : nx = nx' → ∀ (k : Nat) (xs : Array MapEntry) (c : Nat), w.heap[k]? = some (Obj.map xs c) → ∃ xs', w'.heap[k]? = some (Obj.map xs' c))
    (h : OR P r q w nx o ob) : OR P r' q w' nx' o ob := by
  cases o with
  | cells cs el fz => obtain ⟨c, lo, hi, he, hc⟩ := h; exact ⟨c, lo, hi, he, hc.ext hl⟩
  | map es => obtain ⟨xs, clock, he, hm⟩ := h; exact ⟨xs, clock, he, hm.ext hl⟩
  | miter m seen k =>
    cases m with
    | none => exact h
    | some m =>
      obtain ⟨h0, p, since, sa, stepped, hp, he, hk, hc, hs⟩ := h
      refine ⟨h0, p, since, sa, stepped, hl.bl _ _ hp, he, Nat.le_trans hk hn, fun e => ?_, ?_⟩
      · have e1 : k = nx := by omega
        obtain ⟨xs, hx⟩ := hc e1
        exact hw (by omega) _ _ _ hx
      · cases seen with
        | none => exact hs
        | some i => obtain ⟨n, hn, h1, h2⟩ := hs; exact ⟨n, hl.st _ _ hn, h1, h2⟩
  | siter s pos => exact h
  | loop st pend fn n tm ps asg body d =>
    obtain ⟨L, p, he, h1, h2, h3, h4, h5, h6, h7, h8, h9⟩ := h
    exact ⟨L, p, he, h1, h2, h3, h4.ext hl, h5, h6, h7, hl.bl _ _ h8, h9⟩
  | defd f => cases f <;> exact h

theorem OR.isMap {q : RB} {nx : Nat} {o : O} {xs : Array MapEntry} {c : Nat} (h : OR P r q w nx o (.map xs c)) : ∃ es, o = .map es := by
  cases o with
  | map es => exact ⟨es, rfl⟩
  | cells cs el fz => obtain ⟨_, _, _, he, _⟩ := h; cases he
  | miter m seen k => cases m with
    | none => obtain ⟨_, he⟩ := h; cases he
    | some m => obtain ⟨_, _, _, _, _, _, he, _⟩ := h; cases he
  | siter s pos => obtain ⟨_, _, he, _⟩ := h; cases he
  | loop st pend fn n tm ps asg body d => obtain ⟨_, _, he, _⟩ := h; cases he
  | defd f => cases f <;> cases h
theorem OR.ofMap {q : RB} {nx : Nat} {es : List Me} {ob : Obj} (h : OR P r q w nx (.map es) ob) : ∃ xs c, ob = .map xs c := by
  obtain ⟨xs, c, he, _⟩ := h; exact ⟨xs, c, he⟩
theorem OR.iter_le {q : RB} {nx : Nat} {m : Nat} {s : Option Nat} {k : Nat} {ob : Obj} (h : OR P r q w nx (.miter (some m) s k) ob) : k ≤ nx := by
  obtain ⟨_, _, _, _, _, _, _, hk, _⟩ := h; exact hk
theorem Hp.get_set (h : Hp) (b : Nat) (o : O) (k : Nat) : (h.set b o).get k = if k = b then some o else h.get k := T.get_set _ _ _ _
theorem Hp.get_new (h : Hp) (o : O) (k : Nat) : (h.new o).get k = if k = h.nx then some o else h.get k := T.get_set _ _ _ _
theorem Hp.get_del (h : Hp) (b k : Nat) : (h.del b).get k = if k = b then none else h.get k := T.get_set _ _ _ _
theorem Hp.get_bump (h : Hp) (k : Nat) : h.bump.get k = h.get k := rfl

/-- A block of ours gets another object; stamps and numbers may be given out. If none are, a map's clock stays. -/
theorem Rel.up (hR : Rel P E r h w) {b : Nat} {o o' : O} {q : RB} {ob ob' : Obj} {n : Nat} (hb : h.get b = some o) (hq : r.bl b = some q) (hk : w.heap[q.blk]? = some ob)
    (hl : Le r r') (hs : Same h.nx n r r') (hbl : ∀ b, r'.bl b = r.bl b) (hn : h.nx ≤ n)
    (ho : OR P r' q (setB w q.blk ob') n o' ob') (hc : h.nx = n → ∀ xs c, ob = Obj.map xs c → ∃ xs', ob' = Obj.map xs' c)
    (hi : ∀ m s k, o' = .miter (some m) s k → k = n → m ≠ b ∧ ∃ es, h.get m = some (.map es) := by intro _ _ _ e; cases e) : Stp P E r h w r' ⟨n, T.set h.os b (some o')⟩ (setB w q.blk ob') := by
  have hlt := lt_of_get hk
  have hw : h.nx = n → ∀ (k : Nat) (xs : Array MapEntry) (c : Nat), w.heap[k]? = some (Obj.map xs c) → ∃ xs', (setB w q.blk ob').heap[k]? = some (Obj.map xs' c) := by
    intro hnn k xs c hx
    rw [setB_get]
    by_cases e : k = q.blk
    · subst e
      rw [hk] at hx
      obtain ⟨xs', he⟩ := hc hnn xs c (by simpa using hx)
      exact ⟨xs', by rw [if_pos ⟨rfl, hlt⟩, he]⟩
    · exact ⟨xs, by rw [if_neg (by omega)]; exact hx⟩
  have hget : ∀ k, Hp.get ⟨n, T.set h.os b (some o')⟩ k = if k = b then some o' else h.get k := fun k => T.get_set _ _ _ _
  have hout : ∀ k, Out r h k → Out r' ⟨n, T.set h.os b (some o')⟩ k := by
    intro k hk b1 o1 q1 h1 h2
    rw [hget] at h1
    rw [hbl] at h2
    by_cases e : b1 = b
    · subst e; exact hk _ _ _ hb h2
    · rw [if_neg e] at h1; exact hk _ _ _ h1 h2
  refine ⟨⟨?_, ?_, ?_, ?_⟩, hn, hs, by rw [setB_size]; exact Nat.le_refl _, ?_, fun k _ => hout k, rfl, rfl⟩
  · intro b1 o1 h1
    rw [hget] at h1
    by_cases e : b1 = b
    · subst e
      rw [if_pos rfl] at h1
      cases h1
      exact ⟨q, ob', hl.bl _ _ hq, by rw [setB_get, if_pos ⟨rfl, hlt⟩], ho⟩
    · rw [if_neg e] at h1
      obtain ⟨q1, ob1, h2, h3, h4⟩ := hR.os b1 o1 h1
      refine ⟨q1, ob1, hl.bl _ _ h2, ?_, h4.ext hl hn hw⟩
      rw [setB_get, if_neg]
      · exact h3
      · rintro ⟨h5, _⟩
        exact e (hR.inj b1 b o1 o q1 q h1 hb h2 hq h5)
  · intro b1 b2 o1 o2 q1 q2 h1 h2 h3 h4 h5
    rw [hget] at h1 h2
    rw [hbl] at h3 h4
    by_cases e1 : b1 = b
    · subst e1
      by_cases e2 : b2 = b1
      · exact e2.symm
      · rw [if_neg e2] at h2
        exact hR.inj b1 b2 o o2 q1 q2 hb h2 h3 h4 h5
    · rw [if_neg e1] at h1
      by_cases e2 : b2 = b
      · subst e2
        exact hR.inj b1 b2 o1 o q1 q2 h1 hb h3 h4 h5
      · rw [if_neg e2] at h2
        exact hR.inj b1 b2 o1 o2 q1 q2 h1 h2 h3 h4 h5
  · intro g hg
    obtain ⟨⟨x, hx, h1⟩, h2⟩ := hR.gl g hg
    refine ⟨⟨x, ?_, h1⟩, hout g h2⟩
    have : q.blk ≠ g := h2 b o q hb hq
    unfold World.cell? at hx ⊢
    simp only [setB_get]
    rw [if_neg (by omega)]
    exact hx
  · intro b1 m s k h1 hk1
    rw [hget] at h1 ⊢
    by_cases e : b1 = b
    · rw [if_pos e] at h1
      obtain ⟨hm, es, he⟩ := hi m s k (Option.some.inj h1) hk1
      exact ⟨es, by rw [if_neg hm]; exact he⟩
    · rw [if_neg e] at h1
      obtain ⟨q1, ob1, h2, h3, h4⟩ := hR.os b1 _ h1
      have hkn : k = n := hk1
      have h5 := h4.iter_le
      have h6 : h.nx = n := by omega
      obtain ⟨es, he⟩ := hR.it b1 m s k h1 (by omega)
      by_cases e2 : m = b
      · subst e2
        rw [hb] at he
        cases he
        obtain ⟨q2, ob2, g1, g2, g3⟩ := hR.os _ _ hb
        rw [hq] at g1
        cases g1
        rw [hk] at g2
        cases g2
        obtain ⟨xs, c, he⟩ := g3.ofMap
        obtain ⟨xs', he'⟩ := hc h6 xs c he
        rw [he'] at ho
        obtain ⟨es', he2⟩ := ho.isMap
        exact ⟨es', by rw [if_pos rfl, he2]⟩
      · exact ⟨es, by rw [if_neg e2]; exact he⟩
  · intro k hk ho
    rw [setB_get, if_neg]
    rintro ⟨e, _⟩
    exact ho b o q hb hq e.symm
theorem Rel.set (hR : Rel P E r h w) {b : Nat} {o o' : O} {q : RB} {ob ob' : Obj} (hb : h.get b = some o) (hq : r.bl b = some q) (hk : w.heap[q.blk]? = some ob)
    (ho : OR P r q (setB w q.blk ob') h.nx o' ob') (hc : ∀ xs c, ob = Obj.map xs c → ∃ xs', ob' = Obj.map xs' c)
    (hi : ∀ m s k, o' = .miter (some m) s k → k = h.nx → m ≠ b ∧ ∃ es, h.get m = some (.map es) := by intro _ _ _ e; cases e) : Stp P E r h w r (h.set b o') (setB w q.blk ob') :=
  hR.up hb hq hk (Le.refl r) (Same.refl _ _ _) (fun _ => rfl) (Nat.le_refl _) ho (fun _ => hc) hi

/-- A number more. -/
def Rho.put (r : Rho) (b : Nat) (q : RB) : Rho := ⟨fun k => if k = b then some q else r.bl k, r.st⟩
def Rho.stamp (r : Rho) (b n : Nat) : Rho := ⟨r.bl, fun k => if k = b then some (n : Int) else r.st k⟩
theorem Rho.put_le {b : Nat} {q : RB} (h : r.bl b = none) : Le r (r.put b q) :=
  ⟨fun k p hk => by
    unfold Rho.put
    by_cases e : k = b
    · subst e; rw [h] at hk; cases hk
    · simp only [e, if_false]; exact hk, fun _ _ h => h⟩
theorem Rho.stamp_le {b n : Nat} (h : r.st b = none) : Le r (r.stamp b n) :=
  ⟨fun _ _ h => h, fun k p hk => by
    unfold Rho.stamp
    by_cases e : k = b
    · subst e; rw [h] at hk; cases hk
    · simp only [e, if_false]; exact hk⟩
theorem Rho.put_same (r : Rho) (b : Nat) (q : RB) : Same b (b + 1) r (r.put b q) :=
  ⟨fun k hk => by unfold Rho.put; simp only; rw [if_neg (by omega)], fun _ _ => rfl⟩
theorem Rho.stamp_same (r : Rho) (b n : Nat) : Same b (b + 1) r (r.stamp b n) :=
  ⟨fun _ _ => rfl, fun k hk => by unfold Rho.stamp; simp only; rw [if_neg (by omega)]⟩
theorem Rho.put_get (r : Rho) (b : Nat) (q : RB) : (r.put b q).bl b = some q := by simp [Rho.put]
theorem Rho.put_get' (r : Rho) {b k : Nat} (q : RB) (h : k ≠ b) : (r.put b q).bl k = r.bl k := by simp [Rho.put, h]

/-- A new block. -/
theorem Rel.new (hR : Rel P E r h w) {o : O} {q : RB} {ob : Obj} (hf : r.bl h.nx = none) (hq : q.blk = w.heap.size) (hw : w'.heap = w.heap.push ob) (hos : w'.os = w.os) (hout : w'.output = w.output)
    (ho : OR P (r.put h.nx q) q w' (h.nx + 1) o ob) (hi : ∀ m s k, o = .miter (some m) s k → ∃ es, h.get m = some (.map es) := by intro _ _ _ e; cases e) : Stp P E r h w (r.put h.nx q) (h.new o) w' := by
  have hl : Le r (r.put h.nx q) := Rho.put_le hf
  have hold : ∀ k, k < w.heap.size → w'.heap[k]? = w.heap[k]? := by
    intro k hk
    rw [hw, Array.getElem?_push, if_neg (by omega)]
  have hne : ∀ b o1, h.get b = some o1 → b ≠ h.nx := by
    intro b o1 h1 e
    subst e
    obtain ⟨q1, _, h2, _⟩ := hR.os _ _ h1
    rw [hf] at h2; cases h2
  have himg : ∀ k, k < w.heap.size → Out r h k → Out (r.put h.nx q) (h.new o) k := by
    intro k hk ho b1 o1 q1 h1 h2
    rw [Hp.get_new] at h1
    by_cases e : b1 = h.nx
    · subst e
      rw [Rho.put_get] at h2
      cases h2
      omega
    · rw [if_neg e] at h1
      rw [Rho.put_get' _ _ e] at h2
      exact ho _ _ _ h1 h2
  refine ⟨⟨?_, ?_, ?_, ?_⟩, Nat.le_succ _, Rho.put_same _ _ _, by rw [hw]; simp, fun k hk _ => hold k hk, himg, hos, hout⟩
  · intro b1 o1 h1
    rw [Hp.get_new] at h1
    by_cases e : b1 = h.nx
    · subst e
      rw [if_pos rfl] at h1
      cases h1
      exact ⟨q, ob, Rho.put_get _ _ _, by rw [hq, hw]; simp, ho⟩
    · rw [if_neg e] at h1
      obtain ⟨q1, ob1, h2, h3, h4⟩ := hR.os b1 o1 h1
      refine ⟨q1, ob1, hl.bl _ _ h2, ?_, h4.ext hl (Nat.le_succ _) (fun e => ?_)⟩
      · rw [hold _ (lt_of_get h3)]; exact h3
      · exact absurd e (by simp [Hp.new])
  · intro b1 b2 o1 o2 q1 q2 h1 h2 h3 h4 h5
    rw [Hp.get_new] at h1 h2
    have key : ∀ b o1 q1, h.get b = some o1 → r.bl b = some q1 → q1.blk < w.heap.size := by
      intro b o1 q1 h1 h2
      obtain ⟨q2, ob, h3, h4, _⟩ := hR.os _ _ h1
      rw [h2] at h3; cases h3
      exact lt_of_get h4
    by_cases e1 : b1 = h.nx
    · by_cases e2 : b2 = h.nx
      · rw [e1, e2]
      · subst e1
        rw [if_neg e2] at h2
        rw [Rho.put_get] at h3
        rw [Rho.put_get' _ _ e2] at h4
        cases h3
        have := key _ _ _ h2 h4
        omega
    · rw [if_neg e1] at h1
      rw [Rho.put_get' _ _ e1] at h3
      by_cases e2 : b2 = h.nx
      · subst e2
        rw [Rho.put_get] at h4
        cases h4
        have := key _ _ _ h1 h3
        omega
      · rw [if_neg e2] at h2
        rw [Rho.put_get' _ _ e2] at h4
        exact hR.inj b1 b2 o1 o2 q1 q2 h1 h2 h3 h4 h5
  · intro g hg
    obtain ⟨⟨x, hx, h1⟩, h2⟩ := hR.gl g hg
    have hlt : g < w.heap.size := by
      unfold World.cell? at hx
      by_cases hg : g < w.heap.size
      · exact hg
      · rw [Array.getElem?_eq_none (show w.heap.size ≤ g by omega)] at hx; cases hx
    refine ⟨⟨x, ?_, h1⟩, himg g hlt h2⟩
    unfold World.cell? at hx ⊢
    simp only [hold g hlt]
    exact hx
  · intro b1 m s k h1 hk1
    rw [Hp.get_new] at h1 ⊢
    have hkn : k = h.nx + 1 := hk1
    by_cases e : b1 = h.nx
    · rw [if_pos e] at h1
      obtain ⟨es, he⟩ := hi m s k (Option.some.inj h1)
      exact ⟨es, by rw [if_neg (hne _ _ he)]; exact he⟩
    · rw [if_neg e] at h1
      obtain ⟨q1, ob1, h2, h3, h4⟩ := hR.os b1 _ h1
      have := h4.iter_le
      omega
end
end Go.Ev
namespace Go.Ev

section
variable {P : Program} {E : Env} {r : Rho} {h : Hp} {w : World}

theorem CR.sub {el : Nat} {cs : List V} {fz : Bool} {q : RB} {c : Array Value} {lo hi : Nat} (hc : CR P el r cs fz q c lo hi) {o n : Nat} {l : List V} (hl : subO cs o n = some l) :
    q.sh + o + n ≤ c.size ∧ VRs r l (c.extract (q.sh + o) (q.sh + o + n)).toList ∧ l.length = n := by
  obtain ⟨h1, rfl⟩ := subO_some hl
  have hw := hc.win
  have hs := hc.size
  refine ⟨by omega, VRs.forall₂.2 (F2.of_get ?_ ?_), by simp; omega⟩
  · simp; omega
  · intro i a b h2 h3
    rw [List.getElem?_take] at h2
    split at h2
    · rename_i hi'
      rw [List.getElem?_drop] at h2
      obtain ⟨x, hx, hv⟩ := hc.get _ _ h2
      rw [Array.getElem?_toList, Array.getElem?_extract] at h3
      split at h3
      · rw [show q.sh + o + i = q.sh + (o + i) by omega] at h3
        rw [hx] at h3
        cases h3
        exact hv
      · cases h3
    · cases h2
theorem Rel.cells (hR : Rel P E r h w) {b : Nat} {cs : List V} (hb : h.cells b = some cs) : ∃ el fz q c lo hi, h.get b = some (.cells cs el fz) ∧ r.bl b = some q ∧ w.heap[q.blk]? = some (.cells c el (lo, hi)) ∧ CR P el r cs fz q c lo hi := by
  unfold Hp.cells at hb
  split at hb
  · rename_i cs' el fz hg
    cases hb
    obtain ⟨q, ob, h1, h2, c, lo, hi, rfl, hc⟩ := hR.os _ _ hg
    exact ⟨el, fz, q, c, lo, hi, hg, h1, h2, hc⟩
  · cases hb

theorem part_row {t : Nat} {ti : TI} (ht : TiAt P t ti) {cs : List V} {fz : Bool} {q : RB} {c : Array Value} {el lo hi o : Nat} (hw : w.heap[q.blk]? = some (.cells c el (lo, hi))) (hc : CR P el r cs fz q c lo hi) {v : V}
    (h : part ti.agg ti.size cs o = some v) : ∃ x, (loadVar t ⟨q.blk, q.sh + o, none⟩).run P w = .ok x w ∧ VR r v x := by
  unfold loadVar
  rw [ht.agg, ht.size] at h
  simp only [Sem.run_bind, run_isAgg ht.hd, Result.andThen_ok]
  cases hb : aggD ht.d with
  | true =>
    rw [hb] at h
    obtain ⟨l, hl, he⟩ := ob_some (show ob (subO cs o ht.i.size) _ = _ from h)
    cases he
    obtain ⟨h1, h2, _⟩ := hc.sub hl
    refine ⟨.agg (c.extract (q.sh + o) (q.sh + o + ht.i.size)), ?_, _, rfl, h2⟩
    simp [run_sizeOf ht.hi, run_loadRow hw h1]
  | false =>
    rw [hb] at h
    have h' : nth cs o = some v := h
    rw [nth_eq] at h'
    obtain ⟨x, hx, hv⟩ := hc.get _ _ h'
    refine ⟨x, ?_, hv⟩
    simp [run_load_cell (show w.cell? ⟨q.blk, q.sh + o, none⟩ = some x by rw [cell_of hw]; exact hx)]

theorem load_sound (hR : Rel P E r h w) {t : Nat} {ti : TI} (ht : TiAt P t ti) {v u : V} {x : Value} (hv : VR r v x) (hl : loadAt E ti v h = some u) :
    ∃ y, (Instr.loadAt t x).run P w = .ok y w ∧ VR r u y := by
  unfold loadAt at hl
  split at hl
  · obtain ⟨cs, hcs, h2⟩ := ob_some hl
    obtain ⟨el, fz, q, c, lo, hi, _, hq, hw, hc⟩ := hR.cells hcs
    obtain ⟨q', hq', rfl⟩ := hv
    rw [hq] at hq'
    cases hq'
    obtain ⟨y, hy, hyv⟩ := part_row ht hw hc h2
    exact ⟨y, by simp [Instr.loadAt, Instr.sureAddr, hy], hyv⟩
  · rename_i g
    obtain rfl : x = _ := hv
    cases ha : ti.agg with
    | true => rw [ha] at hl; cases hl
    | false =>
      rw [ha] at hl
      obtain ⟨hg, he⟩ := bif_some (show (bif E.gl g then some V.unk else none) = some u from hl)
      cases he
      obtain ⟨⟨y, hy, h1⟩, _⟩ := hR.gl g hg
      refine ⟨y, ?_, h1⟩
      have : aggD ht.d = false := by rw [← ht.agg]; exact ha
      simp only [Instr.loadAt, Instr.sureAddr, Sem.run_bind, Sem.run_pure, Result.andThen_ok, loadVar, run_isAgg ht.hd, this, Bool.false_eq_true, if_false, run_load_cell hy]
  · cases hl

/-! ### Maps -/
theorem keyOk_cases {d : TD} {k : V} (h : keyOk d k = true) : (∃ j, d = .int j ∧ ∃ i n, k = .int i n) ∨ (d = .string ∧ ∃ s, k = .str s) ∨ (d = .bool ∧ ∃ b, k = .bool b) := by
  unfold keyOk at h
  split at h
  · exact .inl ⟨_, rfl, _, _, rfl⟩
  · exact .inr (.inl ⟨rfl, _, rfl⟩)
  · exact .inr (.inr ⟨rfl, _, rfl⟩)
  · cases h
/-- Two keys, by the machine's short way. -/
theorem sameNow_sound {kt : Nat} {ki : TI} (hk : TiAt P kt ki) {k k' : V} (ho : keyOk ki.d k = true) {q : Bool} (he : eqCell k k' = some q) {x y : Value} (hx : VR r k x) (hy : VR r k' y) :
    Instr.sameNow hk.d x y = some q := by
  rcases keyOk_cases ho with ⟨j, hd, i, n, rfl⟩ | ⟨hd, s, rfl⟩ | ⟨hd, b, rfl⟩
  · rw [hk.td] at hd
    rw [tdOf_int hd]
    obtain rfl : x = _ := hx
    cases k' with
    | int i' n' =>
      obtain rfl : y = _ := hy
      obtain ⟨e1, e2⟩ := bif_some (show (bif kEq i i' then some (eqI n n') else none) = some q from he)
      cases kEq_eq e1
      cases e2
      simp [Instr.sameNow, eqI_eq]
    | _ => cases he
  · rw [hk.td] at hd
    rw [tdOf_string hd]
    obtain ⟨a, rfl, rfl⟩ := hx
    cases k' with
    | str s' =>
      obtain ⟨b, rfl, rfl⟩ := hy
      have he : some (strEq (bytesOf a) (bytesOf b)) = some q := he
      cases he
      simp only [Instr.sameNow, Option.some.injEq]
      rw [strEq_eq, bytesOf_inj, Bool.eq_iff_iff, ba_beq, ByteArray.toList_eq, ByteArray.toList_eq, beq_iff_eq (a := a.data), beq_iff_eq (a := a.data.toList), Array.toList_inj]
    | _ => cases he
  · rw [hk.td] at hd
    rw [tdOf_bool hd]
    obtain rfl : x = _ := hx
    cases k' with
    | bool b' =>
      obtain rfl : y = _ := hy
      have he : some (!(xor b b')) = some q := he
      cases he
      simp [Instr.sameNow, eqCell_bool]
    | _ => cases he
theorem eqCell_same {d : TD} {k k' : V} (ho : keyOk d k = true) (he : eqCell k k' = some true) : k = k' := by
  rcases keyOk_cases ho with ⟨j, hd, i, n, rfl⟩ | ⟨hd, s, rfl⟩ | ⟨hd, b, rfl⟩
  · cases k' with
    | int i' n' =>
      obtain ⟨e1, e2⟩ := bif_some (show (bif kEq i i' then some (eqI n n') else none) = some true from he)
      cases kEq_eq e1
      rw [eqI_eq] at e2
      simp at e2
      rw [e2]
    | _ => cases he
  · cases k' with
    | str s' =>
      have he : some (strEq s s') = some true := he
      rw [strEq_eq] at he
      simp at he
      rw [he]
    | _ => cases he
  · cases k' with
    | bool b' =>
      have he : some (!(xor b b')) = some true := he
      rw [eqCell_bool] at he
      simp at he
      rw [he]
    | _ => cases he

/-- The machine's search: where the first entry of key k lies, if every comparison answers. -/
theorem findNow_none {kd : TypeDesc} {x : Value} : ∀ (l : List MapEntry) (i : Nat), (∀ e ∈ l, Instr.sameNow kd x e.key = some false) → Instr.findNow kd x l i = some none := by
  intro l
  induction l with
  | nil => intro i _; rfl
  | cons e l ih => intro i hl; simp [Instr.findNow, hl e (by simp), ih (i + 1) (fun e he => hl e (by simp [he]))]
theorem findNow_some {kd : TypeDesc} {x : Value} {e : MapEntry} (hs : Instr.sameNow kd x e.key = some true) : ∀ (l : List MapEntry) (i : Nat), e ∈ l →
    (∀ e' ∈ l, e' = e ∨ Instr.sameNow kd x e'.key = some false) → ∃ j, l[j]? = some e ∧ Instr.findNow kd x l i = some (some (i + j, e.val)) := by
  intro l
  induction l with
  | nil => intro i h; simp at h
  | cons e' l ih =>
    intro i hm hl
    rcases hl e' (by simp) with he | he
    · subst he
      exact ⟨0, by simp, by simp [Instr.findNow, hs]⟩
    · have hne : e' ≠ e := by intro h; subst h; rw [hs] at he; cases he
      have hm' : e ∈ l := by simp at hm; rcases hm with h | h; exact absurd h.symm hne; exact h
      obtain ⟨j, h1, h2⟩ := ih (i + 1) hm' (fun e2 h2 => hl e2 (by simp [h2]))
      exact ⟨j + 1, by simpa using h1, by simp [Instr.findNow, he, h2]; omega⟩

theorem F2.mem' {α β : Type} {R : α → β → Prop} {l : List α} {m : List β} (h : F2 R l m) : ∀ b ∈ m, ∃ a ∈ l, R a b := by
  induction h with
  | nil => intro b hb; simp at hb
  | cons hr _ ih =>
    intro b hb
    simp at hb
    rcases hb with rfl | hb
    · exact ⟨_, by simp, hr⟩
    · obtain ⟨a, ha, h2⟩ := ih b hb; exact ⟨a, by simp [ha], h2⟩
theorem F2.mem {α β : Type} {R : α → β → Prop} {l : List α} {m : List β} (h : F2 R l m) : ∀ a ∈ l, ∃ b ∈ m, R a b := by
  induction h with
  | nil => intro b hb; simp at hb
  | cons hr _ ih =>
    intro b hb
    simp at hb
    rcases hb with rfl | hb
    · exact ⟨_, by simp, hr⟩
    · obtain ⟨a, ha, h2⟩ := ih b hb; exact ⟨a, by simp [ha], h2⟩

theorem nodup_inj {α β : Type} {f : α → β} : ∀ {l : List α}, (l.map f).Nodup → ∀ {a b : α}, a ∈ l → b ∈ l → f a = f b → a = b := by
  intro l
  induction l with
  | nil => intro _ a b h; simp at h
  | cons x l ih =>
    intro hn a b ha hb he
    simp only [List.map_cons, List.nodup_cons, List.mem_map, not_exists, not_and] at hn
    simp at ha hb
    rcases ha with rfl | ha
    · rcases hb with rfl | hb
      · rfl
      · exact absurd he.symm (hn.1 b hb)
    · rcases hb with rfl | hb
      · exact absurd he (hn.1 a ha)
      · exact ih hn.2 ha hb he
theorem findV_none {k : V} : ∀ {es : List Me}, findV k es = some none → ∀ e ∈ es, eqCell k e.k = some false := by
  intro es
  induction es with
  | nil => intro _ e he; simp at he
  | cons e es ih =>
    intro h e' he'
    obtain ⟨q, hq, h2⟩ := ob_some h
    cases q with
    | true => cases h2
    | false =>
      simp at he'
      rcases he' with rfl | he'
      · exact hq
      · exact ih h2 e' he'
theorem findV_some {d : TD} {k : V} (ho : keyOk d k = true) : ∀ {es : List Me} {e : Me}, es.Pairwise (fun a b => eqCell a.k b.k = some false) → findV k es = some (some e) →
    e ∈ es ∧ eqCell k e.k = some true ∧ ∀ e' ∈ es, e' = e ∨ eqCell k e'.k = some false := by
  intro es
  induction es with
  | nil => intro e _ h; cases h
  | cons e1 es ih =>
    intro e hp h
    obtain ⟨q, hq, h2⟩ := ob_some h
    rw [List.pairwise_cons] at hp
    cases q with
    | true =>
      cases h2
      refine ⟨by simp, hq, fun e' he' => ?_⟩
      simp at he'
      rcases he' with rfl | he'
      · exact .inl rfl
      · right
        have := hp.1 e' he'
        rw [← eqCell_same ho hq] at this
        exact this
    | false =>
      obtain ⟨h3, h4, h5⟩ := ih hp.2 h2
      refine ⟨by simp [h3], h4, fun e' he' => ?_⟩
      simp at he'
      rcases he' with rfl | he'
      · exact .inr hq
      · exact h5 e' he'

theorem checkKey_run {kt : Nat} {ki : TI} (hk : TiAt P kt ki) {k : V} (ho : keyOk ki.d k = true) {x : Value} (hx : VR r k x) {e : Bool} : (Instr.checkKey e 10000 kt x).run P w = .ok () w := by
  unfold Instr.checkKey
  rcases keyOk_cases ho with ⟨j, hd, i, n, rfl⟩ | ⟨hd, s, rfl⟩ | ⟨hd, b, rfl⟩
  · rw [hk.td] at hd
    obtain rfl : x = _ := hx
    simp [run_underlying' hk.hd, tdOf_int hd]
  · rw [hk.td] at hd
    obtain ⟨a, rfl, rfl⟩ := hx
    simp [run_underlying' hk.hd, tdOf_string hd]
  · rw [hk.td] at hd
    obtain rfl : x = _ := hx
    simp [run_underlying' hk.hd, tdOf_bool hd]

/-- The machine's search for a key in a map of ours. -/
theorem find_sound {kt : Nat} {ki : TI} (hk : TiAt P kt ki) {k : V} (ho : keyOk ki.d k = true) {x : Value} (hx : VR r k x) {es : List Me} {xs : Array MapEntry} {clock : Nat} (hm : MR r es xs clock) {f : Option Me} (hf : findV k es = some f) :
    ∃ g, (Instr.findKey kt x xs.toList).run P w = .ok g w ∧ (match f with
      | none => g = none
      | some e => ∃ j y, e ∈ es ∧ g = some (j, y.val) ∧ xs[j]? = some y ∧ MeR r e y ∧ eqCell k e.k = some true) := by
  obtain ⟨l, hp, hl⟩ := hm.ents
  unfold Instr.findKey
  simp only [Sem.run_bind, run_underlying' hk.hd, Result.andThen_ok]
  cases f with
  | none =>
    refine ⟨none, ?_, rfl⟩
    rw [findNow_none]
    · rfl
    · intro y hy
      obtain ⟨e, he, hr⟩ := hl.mem' y (hp.mem_iff.2 hy)
      exact sameNow_sound hk ho (findV_none hf e he) hx hr.key
  | some e =>
    obtain ⟨h1, h2, h3⟩ := findV_some ho hm.keys hf
    obtain ⟨y, hy, hr⟩ := hl.mem e h1
    have hs := sameNow_sound hk ho h2 hx hr.key
    obtain ⟨j, hj, hfn⟩ := findNow_some hs xs.toList 0 (hp.mem_iff.1 hy) (fun y' hy' => by
      obtain ⟨e', he', hr'⟩ := hl.mem' y' (hp.mem_iff.2 hy')
      rcases h3 e' he' with rfl | h4
      · left
        -- born alike
        have hb : y'.born = y.born := by have := hr'.born; rw [hr.born] at this; exact (Int.ofNat.inj (Option.some.inj this)).symm
        have hn := hm.apart
        have m1 := hy'
        have m2 := hp.mem_iff.1 hy
        exact nodup_inj hn m1 m2 hb
      · exact .inr (sameNow_sound hk ho h4 hx hr'.key))
    refine ⟨some (0 + j, y.val), by rw [hfn]; rfl, j, y, h1, by simp, by simpa using hj, hr, h2⟩

theorem lookup_sound (hR : Rel P E r h w) {t kt et : Nat} {ti ki ei : TI} (ht : TiAt P t ti) (hd : ti.d = .map kt et) (hk : TiAt P kt ki) (he : TiAt P et ei) {m k u : V} {x y : Value} {ok : Bool} (hm : VR r m x) (hkv : VR r k y)
    (hl : lookupV ki.d ei.zero m k ok h = some u) : ∃ z, (Instr.lookup t x y ok).run P w = .ok z w ∧ VR r u z := by
  obtain ⟨ho, h2⟩ := bif_some hl
  obtain ⟨f, hf, h3⟩ := ob_some h2
  rw [ht.td] at hd
  have hd := tdOf_map hd
  unfold Instr.lookup
  simp only [Sem.run_bind, run_underlying' ht.hd, Result.andThen_ok, hd]
  split at hf
  · obtain rfl : x = _ := hm
    cases hf
    simp only [Sem.run_pure, Result.andThen_ok, Sem.run_bind, checkKey_run hk ho hkv]
    have : (Instr.findKey kt y (#[] : Array MapEntry).toList).run P w = .ok none w := by
      unfold Instr.findKey
      simp [run_underlying' hk.hd, Instr.findNow]
    simp only [this, Result.andThen_ok, run_zeroValue he.hi he.hz, Sem.run_bind, Sem.run_pure]
    cases h3
    cases ok
    · exact ⟨_, rfl, absVal_rel r he.zero⟩
    · exact ⟨_, rfl, _, rfl, _, _, rfl, absVal_rel r he.zero, _, _, rfl, rfl, rfl⟩
  · rename_i b
    split at hf
    · rename_i es hb
      obtain ⟨q, ob, hq, hw, xs, clock, rfl, hm'⟩ := hR.os _ _ hb
      obtain ⟨q', hq', rfl⟩ := hm
      rw [hq] at hq'
      cases hq'
      have hg : (getObj q.blk).run P w = .ok (.map xs clock) w := by simp [getObj, Sem.run, hw]
      simp only [hg, Result.andThen_ok, Sem.run_bind, Sem.run_pure, checkKey_run hk ho hkv]
      obtain ⟨g, hg, h4⟩ := find_sound (w := w) hk ho hkv hm' hf
      simp only [hg, Result.andThen_ok]
      cases f with
      | none =>
        subst h4
        simp only [run_zeroValue he.hi he.hz, Sem.run_bind, Sem.run_pure, Result.andThen_ok]
        cases h3
        cases ok
        · exact ⟨_, rfl, absVal_rel r he.zero⟩
        · exact ⟨_, rfl, _, rfl, _, _, rfl, absVal_rel r he.zero, _, _, rfl, rfl, rfl⟩
      | some e =>
        obtain ⟨j, z, _, rfl, _, hr, _⟩ := h4
        cases h3
        cases ok
        · exact ⟨_, rfl, hr.val⟩
        · exact ⟨_, rfl, _, rfl, _, _, rfl, hr.val, _, _, rfl, rfl, rfl⟩
    · cases hf
  · cases hf
end
end Go.Ev
