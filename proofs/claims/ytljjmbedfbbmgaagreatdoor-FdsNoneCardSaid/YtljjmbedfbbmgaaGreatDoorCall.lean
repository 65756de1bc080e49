/- FdsNone, called with what its row lets in, answers true, and all that was there stays. -/
import Derived.Test.YtljjmbedfbbmgaaGreatDoorEnds
import Derived.Carry
import Derived.ChangeSame
import GoSem.ClaimWide
namespace Go.Ev
open Go Go.Proofs
theorem VRs_of {r : Rho} : ∀ {vs : List V} {ys : List Value}, ys.length = vs.length → (∀ (i : Nat) (v : V) (y : Value), vs[i]? = some v → ys[i]? = some y → VR r v y) → VRs r vs ys := by
  intro vs
  induction vs with
  | nil => intro ys h _; exact List.length_eq_zero_iff.mp h
  | cons v vs ih =>
    intro ys h hp
    cases ys with
    | nil => cases h
    | cons y ys => exact ⟨y, ys, rfl, hp 0 v y rfl rfl, ih (by simpa using h) (fun i u x h1 h2 => hp (i + 1) u x (by simpa using h1) (by simpa using h2))⟩
theorem cell_one {P : Program} {w : World} {rc : Reach} {base : Nat} {t : TypeId} {v : Value} (h : Cell.okWide P w rc base t v) : v.oneCell' = true := by
  cases v <;> first | rfl | (unfold Cell.okWide Cell.ok at h; split at h <;> simp_all)
theorem cell_int {P : Program} {w : World} {rc : Reach} {base : Nat} {t : TypeId} {v : Value} {k : IntKind} (ht : P.underlying t = some (.int k)) (h : Cell.okWide P w rc base t v) : ∃ n, v = .int k n := by
  unfold Cell.okWide Cell.ok at h
  rw [ht] at h
  cases v <;> simp_all
theorem Rel.leaf {P : Program} {E : Env} {w : World} {r : Rho} (hg : ∀ g, E.gl g = false) (n : Nat) : Rel P E r ⟨n, .leaf⟩ w := by
  refine ⟨fun b o h => ?_, fun b b' o o' q q' h => ?_, fun g h => ?_, fun b m s k h => ?_⟩
  · have : (T.leaf : T O).get b = some o := h
    rw [leaf_get] at this; cases this
  · have : (T.leaf : T O).get b = some o := h
    rw [leaf_get] at this; cases this
  · rw [hg] at h; cases h
  · have : (T.leaf : T O).get b = _ := h
    rw [leaf_get] at this; cases this
theorem cells28 : Tryz.prog.cellTypes Tryz.prog.depth 28 = some [3, 3, 3, 3, 3, 9, 9, 3, 3, 3, 3, 9, 9, 9, 3, 22] := by kernel_rfl
theorem enter3 : enter E1 3 [.agg [.stamp 1, .stamp 3, .stamp 2, .stamp 0, .unk, .unk, .unk, .unk, .unk, .unk, .unk, .unk, .unk, .unk, .unk, .unk]] = some S0.m.cur := by kernel_rfl
/-- What was there stays. -/
structure Kept (W W' : World) : Prop where
  size : W.heap.size ≤ W'.heap.size
  block : ∀ k, k < W.heap.size → W'.heap[k]? = W.heap[k]?
  os : W'.os = W.os
  output : W'.output = W.output
theorem open_struct {P : Program} {W : World} {rc : Reach} {base : Nat} {t : TypeId} {v0 : Value} {fs : Array Field} {ts : List TypeId} (ht : P.underlying t = some (.struct fs)) (hts : P.cellTypes P.depth t = some ts) (h : Value.okWide P W rc base t v0) :
    ∃ cs, v0 = .agg cs ∧ cs.size = P.cellsOf t ∧ ∀ (i : Nat) (v : Value), cs[i]? = some v → ∃ u, ts[i % ts.length]? = some u ∧ Cell.okWide P W rc base u v := by
  unfold Value.okWide at h
  rw [ht] at h
  obtain ⟨cs, h1, h2, ts', h3, _, h4⟩ := h
  rw [hts] at h3
  cases h3
  exact ⟨cs, h1, h2, h4⟩
theorem cells28n : Tryz.prog.cellsOf 28 = 16 := by kernel_rfl
abbrev arg0 : V := .agg [.stamp 1, .stamp 3, .stamp 2, .stamp 0, .unk, .unk, .unk, .unk, .unk, .unk, .unk, .unk, .unk, .unk, .unk, .unk]
theorem calls_of {P : Program} {E : Env} {m : M} {fs : Array Field} (fns : FnsOk P E) (hg : ∀ g, E.gl g = false) (hu28 : P.underlying 28 = some (.struct fs)) (hu3 : P.underlying 3 = some (.int .i64))
    (hts : P.cellTypes P.depth 28 = some [3, 3, 3, 3, 3, 9, 9, 3, 3, 3, 3, 9, 9, 9, 3, 22]) (hsz28 : P.cellsOf 28 = 16) (hen : enter E 3 [arg0] = some m.cur) (hh : m.h = ⟨10, .leaf⟩) (hs : m.stk = []) (hb : bot m.cur m.stk = (3, none)) (he : EndsA P E m (.bool true))
    {W : World} {base : Nat} {v0 : Value} (h : Value.okWide P W .any base 28 v0) : Calls P 3 #[v0] W fun e W' => e = .returned (.bool true) ∧ Kept W W' := by
  obtain ⟨cs, rfl, hsz, hc⟩ := open_struct hu28 hts h
  have h16 : cs.size = 16 := hsz.trans hsz28
  have hget : ∀ i, i < 16 → ∃ v, cs[i]? = some v := fun i hi => ⟨cs[i]'(by omega), by simp [h16, hi]⟩
  have hint : ∀ i, i < 4 → ∃ n, cs[i]? = some (.int .i64 n) := by
    intro i hi
    obtain ⟨v, hv⟩ := hget i (by omega)
    obtain ⟨u, hu, hok⟩ := hc i v hv
    have h3 : u = 3 := by
      match i, hi with
      | 0, _ => cases hu; rfl
      | 1, _ => cases hu; rfl
      | 2, _ => cases hu; rfl
      | 3, _ => cases hu; rfl
    subst h3
    obtain ⟨n, rfl⟩ := cell_int hu3 hok
    exact ⟨n, hv⟩
  obtain ⟨n0, g0⟩ := hint 0 (by decide)
  obtain ⟨n1, g1⟩ := hint 1 (by decide)
  obtain ⟨n2, g2⟩ := hint 2 (by decide)
  obtain ⟨n3, g3⟩ := hint 3 (by decide)
  have hone : ∀ (i : Nat) (v : Value), cs[i]? = some v → v.oneCell' = true := by
    intro i v hv
    obtain ⟨u, _, hok⟩ := hc i v hv
    exact cell_one hok
  let r0 : Rho := ⟨fun _ => none, fun i => if i = 1 then some n0 else if i = 3 then some n1 else if i = 2 then some n2 else if i = 0 then some n3 else none⟩
  have hV : VRs r0 [arg0] (#[Value.agg cs] : Array Value).toList := by
    refine ⟨.agg cs, [], rfl, ⟨cs, rfl, VRs_of (by simpa using h16) ?_⟩, rfl⟩
    intro i v y h1 h2
    have h2 : cs[i]? = some y := by simpa using h2
    match i, h1 with
    | 0, h1 => cases h1; rw [g0] at h2; cases h2; exact ⟨n0, rfl, rfl⟩
    | 1, h1 => cases h1; rw [g1] at h2; cases h2; exact ⟨n1, rfl, rfl⟩
    | 2, h1 => cases h1; rw [g2] at h2; cases h2; exact ⟨n2, rfl, rfl⟩
    | 3, h1 => cases h1; rw [g3] at h2; cases h2; exact ⟨n3, rfl, rfl⟩
    | 4, h1 => cases h1; exact hone _ _ h2
    | 5, h1 => cases h1; exact hone _ _ h2
    | 6, h1 => cases h1; exact hone _ _ h2
    | 7, h1 => cases h1; exact hone _ _ h2
    | 8, h1 => cases h1; exact hone _ _ h2
    | 9, h1 => cases h1; exact hone _ _ h2
    | 10, h1 => cases h1; exact hone _ _ h2
    | 11, h1 => cases h1; exact hone _ _ h2
    | 12, h1 => cases h1; exact hone _ _ h2
    | 13, h1 => cases h1; exact hone _ _ h2
    | 14, h1 => cases h1; exact hone _ _ h2
    | 15, h1 => cases h1; exact hone _ _ h2
    | i + 16, h1 => cases h1
  intro c
  obtain ⟨hF, _⟩ := enter_sound (P := P) (r := r0) (w := W) (xs := #[.agg cs]) fns hen hV
  have hR : Rel P E r0 m.h W := by rw [hh]; exact Rel.leaf hg 10
  obtain ⟨h', hfin⟩ := he r0 W _ [] ⟨hR, hF, by rw [hs]; exact .nil⟩ (fun N => ⟨fun _ _ _ => rfl, fun i hi _ => by
    have hi : 10 ≤ i := by rw [hh] at hi; exact hi
    show (if i = 1 then some n0 else if i = 3 then some n1 else if i = 2 then some n2 else if i = 0 then some n3 else none) = none
    rw [if_neg (by omega), if_neg (by omega), if_neg (by omega), if_neg (by omega)]⟩) c
  rw [hb] at hfin
  obtain ⟨fr', x, r', w', h1, h2, h3, h4, h5⟩ := hfin
  have hx : x = .bool true := h4
  subst hx
  refine ⟨.returned (.bool true), w', fr', ⟨rfl, h5.size, fun k hk => h5.keep k hk ?_, h5.os, h5.out⟩, h1, h2, h3⟩
  intro b o q hb
  rw [hh] at hb
  have : (T.leaf : T O).get b = some o := hb
  rw [leaf_get] at this; cases this
theorem fdsNone_calls {W : World} {base : Nat} {v0 : Value} : Value.okWide Tryz.prog W .any base 28 v0 → Calls Tryz.prog 3 #[v0] W fun e W' => e = .returned (.bool true) ∧ Kept W W' :=
  calls_of fns_ok1 (fun _ => rfl) Tryz.underlying28 Tryz.underlying3 cells28 cells28n enter3 rfl rfl rfl e0

section
variable {H : Type} {enc : TypeId × Value → H} {P : Program}
open Go.RowKit Go.WideShapes Go.ChangeShapes
theorem Kept.sameAt {W W' : World} (h : Kept W W') {p : MemPlace} (hp : p.block < W.heap.size) : W.sameAt W' p := by
  cases p with
  | cell b o => exact World.cell?_of_block (w := W) (h.block b hp)
  | map b => exact h.block b hp
theorem Kept.trod {t : TypeId} (hl : laidOutB P = true) (hr : P.readableRec t = true) (hrow : t < P.types.size) {W W' : World} {v : Value} {d : DataW H} {ps : List MemPlace}
    (h : DataW.Trod enc P W 0 (fun _ => true) true t v d ps) (hb : Kept W W') (hlt : ∀ x ∈ ps, x.block < W.heap.size) {sp : Nat → Bool} (hs : ∀ x ∈ ps, sp x.block = true) :
    DataW.Trod enc P W' 0 sp true t v d ps :=
  WideElems.Trod_stays hl hr hrow h (fun x hx => hb.sameAt (hlt x hx)) hs
theorem Kept.frame {W W' : World} (h : Kept W W') (may : MemPlace → Prop) : W.keptBut W' may := by
  refine ⟨h.os, h.output, fun i hi => ?_⟩
  rw [h.block i hi]
  split <;> simp_all
/-- The row's last step, where all that was there stays; of the tape nothing is asked. -/
theorem post_of_kept {f : Func} {s : ChangeSpec} {apart fresh handsOn again : Bool} {W W' : World} {args : Array Value} {v : Value} {ds gs : List (DataW H)} {before pa pv : List MemPlace}
    (hW : DataW.Whole enc P f.params.toList s.vars apart W args.toList ds gs before)
    (hres : ∀ (b : Nat) (sp : Nat → Bool) (hd : Bool), DataW.TrodAll enc P W' b sp hd f.resultTypes.toList (v.resultList f.resultTypes.size) (s.fn H (ds ++ gs)).results [])
    (hargs : ∀ sp : Nat → Bool, (∀ p ∈ before, sp p.block = true) → DataW.TrodAll enc P W' 0 sp true f.params.toList args.toList (s.fn H (ds ++ gs)).args pa)
    (hvars : ∀ sp : Nat → Bool, (∀ p ∈ before, sp p.block = true) → DataW.TrodVars enc P W' sp s.vars (s.fn H (ds ++ gs)).vars pv)
    (hps : before = pa ++ pv) (hb : Kept W W')
    (hok : ∀ (j : Nat) (t : TypeId) (r : Value), f.resultTypes[j]? = some t → (v.resultList f.resultTypes.size)[j]? = some r → Value.okWide P W' .any 0 t r) :
    s.post enc P f apart fresh handsOn again W args v W' := by
  have hlt : ∀ p ∈ before, p.block < W.heap.size := fun p hp => hW.lt p hp
  have hold : ∀ p ∈ before, (fun b => decide (b < W.heap.size)) p.block = true := fun p hp => by simpa using hlt p hp
  refine ⟨ds, gs, before, [], pa, pv, hW, hres _ _ _, hargs _ hold, hvars _ hold, World.keptBut_mono (fun p hp => ⟨hp, ?_⟩) (hb.frame (· ∈ before)), fun _ => ?_⟩
  · rw [hps, List.mem_append] at hp
    exact Or.inr hp
  · obtain ⟨_, _, _, _, _, hz, hn⟩ := hW
    refine ⟨hok, _, _, ([] ++ pa) ++ pv, ⟨[] ++ pa, pv, trodAll_append (hargs _ (fun _ _ => rfl)) (hres _ _ _), hvars _ (fun _ _ => rfl), rfl, ?_, ?_⟩, ?_⟩
    · intro b off hp
      have hin : MemPlace.cell b off ∈ before := by rw [hps]; simpa using hp
      have hbl : b < W.heap.size := hlt _ hin
      rw [World.frozen?_of_block (w := W) (hb.block b hbl)]
      exact hz b off hin
    · intro ha
      have := hn ha
      rw [hps] at this
      simpa using this
    · intro p hp _
      rw [hps]
      simpa using hp
end
end Go.Ev
