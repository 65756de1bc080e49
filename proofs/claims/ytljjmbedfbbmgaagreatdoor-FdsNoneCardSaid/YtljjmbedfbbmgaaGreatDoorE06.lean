/- An evaluator of the model's programs over abstract states, and the proof that the machine does what it says (part 6). No statement about the program. -/
import Derived.Test.YtljjmbedfbbmgaaGreatDoorE05
import Derived.RangeFuncLeaves
namespace Go.Ev

section
variable {P : Program} {E : Env} {r r' : Rho} {h h' : Hp} {w w' : World}

theorem collect_sound : ∀ {ds : List Nat} {h h' : Hp} {w : World}, Rel P E r h w → collect ds h = some h' → ∀ {dfs : List Deferred}, F2 (MarkR r) ds dfs → ∀ (fr : Frame) (cs : List Frame), fr.mode = .returning → fr.defers = dfs →
    ∃ w', Steps P (lone fr cs w) (lone { fr with defers := [] } cs w') ∧ Stp P E r h w r h' w' := by
  intro ds
  induction ds with
  | nil =>
    intro h h' w hR hc dfs hd fr cs _ hdf
    cases hc
    cases hd
    have : fr = { fr with defers := [] } := by cases fr; simp at hdf; simp [hdf]
    exact ⟨w, by rw [← this]; exact Steps.refl _ _, Stp.refl hR⟩
  | cons d ds ih =>
    intro h h' w hR hc dfs hd fr cs hm hdf
    cases hd with
    | cons h1 h2 =>
      rename_i x dfs
      obtain ⟨q, hq, rfl⟩ := h1
      unfold collect at hc
      split at hc
      · rename_i hg
        obtain ⟨q', ob, hq', hw, rfl⟩ := hR.os _ _ hg
        rw [hq] at hq'
        cases hq'
        have htake : (Instr.takeDeferred q.blk).run P w = .ok [] (setB w q.blk (.deferred none)) := by
          simp [Instr.takeDeferred, getObj, setObj, Sem.run, hw, setB]
        have hst := hR.set (o' := .defd false) (ob' := .deferred none) hg hq hw rfl (fun _ _ e => by cases e)
        have hstep := step_collected (P := P) (fr := fr) (cs := cs) (w := w) (by rw [hm]; simp) hdf rfl htake
        obtain ⟨w', hs, hst'⟩ := ih hst.rel hc h2 { fr with defers := [] ++ dfs } cs hm rfl
        exact ⟨w', .head hstep hs, hst.trans hst'⟩
      · cases hc

/-- A result variable, by the machine. -/
def resM (tmps : Array Value) (rv : ResultVar) : Sem Value :=
  match rv with
  | .tmp t => pure (tmps.getD t undef)
  | .cell a t => do loadVar t (← asAddr (tmps.getD a undef))
theorem results_eq (fn : Func) (tmps : Array Value) : results fn tmps = (do
    let vs ← fn.results.mapM (resM tmps)
    pure (if h : vs.size = 1 then vs[0] else .tuple vs)) := rfl
theorem res_sound (hE : TisOk P E) (hR : Rel P E r h w) {n : Nat} {tm : T V} {tmps : Array Value} (hT : TR r n tm tmps) {rv : ResultVar} {v : V} (hv : resOf E tm h rv = some v) :
    ∃ x, (resM tmps rv).run P w = .ok x w ∧ VR r v x := by
  cases rv with
  | tmp t => exact ⟨_, rfl, hT.get t v hv⟩
  | cell a t =>
    obtain ⟨ti, ht, h2⟩ := ob_some hv
    obtain ⟨tA⟩ := hE.at ht
    obtain ⟨p, hp, h3⟩ := ob_some h2
    have hx := hT.get a p hp
    obtain ⟨y, hy, hr⟩ := load_sound hR tA hx h3
    refine ⟨y, ?_, hr⟩
    unfold resM
    simp only
    unfold loadAt at h3
    split at h3
    · obtain ⟨q, hq, he⟩ := hx
      rw [he] at hy ⊢
      exact hy
    · have he : tmps.getD a undef = _ := hx
      rw [he] at hy ⊢
      exact hy
    · cases h3
theorem mapM_res (hE : TisOk P E) (hR : Rel P E r h w) {n : Nat} {tm : T V} {tmps : Array Value} (hT : TR r n tm tmps) : ∀ {l : List ResultVar} {vs : List V}, mapO (resOf E tm h) l = some vs →
    ∃ xs, (l.mapM (resM tmps)).run P w = .ok xs w ∧ VRs r vs xs := by
  intro l
  induction l with
  | nil => intro vs h; cases h; exact ⟨[], rfl, rfl⟩
  | cons x l ih =>
    intro vs h
    obtain ⟨v, hv, h2⟩ := ob_some h
    obtain ⟨vs', hvs, h3⟩ := ob_some h2
    cases h3
    obtain ⟨y, hy, hr⟩ := res_sound hE hR hT hv
    obtain ⟨ys, hys, hrs⟩ := ih hvs
    refine ⟨y :: ys, ?_, _, _, rfl, hr, hrs⟩
    rw [List.mapM_cons]
    simp only [Sem.run_bind, hy, hys, Result.andThen_ok, Sem.run_pure]
theorem results_sound (hE : TisOk P E) (hR : Rel P E r h w) {n : Nat} {tm : T V} {tmps : Array Value} (hT : TR r n tm tmps) {fn : Func} {v : V} (hv : resultsV E fn tm h = some v) : ∃ x, (results fn tmps).run P w = .ok x w ∧ VR r v x := by
  obtain ⟨vs, hvs, h2⟩ := ob_some hv
  obtain ⟨xs, hxs, hr⟩ := mapM_res hE hR hT hvs
  rw [results_eq, Array.mapM_eq_mapM_toList]
  simp only [Sem.run_bind, Sem.run_map, hxs, Result.andThen_ok]
  split at h2
  · rename_i u
    cases h2
    obtain ⟨x, l, rfl, h3, h4⟩ := hr
    cases h4
    exact ⟨x, rfl, h3⟩
  · rename_i hne
    cases h2
    refine ⟨.tuple xs.toArray, ?_, _, rfl, by simpa using hr⟩
    have hl := hr.length
    have : ¬ (xs.length = 1) := by
      intro e
      rw [e] at hl
      match vs, hl with
      | [v], _ => exact hne v rfl
    simp [this]

/-- A round is over: its record, and what yield answers. -/
theorem endRound_sound (hR : Rel P E r h w) {l : Nat} {st : LoopState} {pend : Option Code} {fn n : Nat} {tm : T V} {ps : List Nat} {asg body : Code} {d : Nat} (hg : h.get l = some (.loop st pend fn n tm ps asg body d)) {q : RB} (hq : r.bl l = some q) (jump : Option Code) :
    ∃ w', (Instr.endRound q.blk jump).run P w = .ok (.bool jump.isNone) w' ∧ Stp P E r h w r (h.set l (.loop (bif jump.isNone then .ready else .done) jump fn n tm ps asg body d)) w' := by
  obtain ⟨q', ob, hq', hw, L, p, rfl, h1, h2, h3, h4, h5, h6, h7, h8, h9⟩ := hR.os _ _ hg
  rw [hq] at hq'
  cases hq'
  refine ⟨setB w q.blk (.loop { L with state := if jump.isNone then .ready else .done, pending := jump }), ?_, hR.set hg hq hw ⟨_, p, rfl, ?_, rfl, h3, h4, h5, h6, h7, h8, h9⟩ (fun _ _ e => by cases e)⟩
  · simp [Instr.endRound, Instr.getLoop, getObj, setObj, Sem.run, hw, setB]
  · cases jump <;> rfl
theorem beginRound_sound (hR : Rel P E r h w) {l : Nat} {pend : Option Code} {fn n : Nat} {tm : T V} {ps : List Nat} {asg body : Code} {d : Nat} (hg : h.get l = some (.loop .ready pend fn n tm ps asg body d)) {q : RB} (hq : r.bl l = some q) :
    ∃ w', (Instr.beginRound q.blk).run P w = .ok () w' ∧ Stp P E r h w r (h.set l (.loop .busy pend fn n tm ps asg body d)) w' := by
  obtain ⟨q', ob, hq', hw, L, p, rfl, h1, h2, h3, h4, h5, h6, h7, h8, h9⟩ := hR.os _ _ hg
  rw [hq] at hq'
  cases hq'
  refine ⟨setB w q.blk (.loop { L with state := .busy }), ?_, hR.set hg hq hw ⟨_, p, rfl, rfl, h2, h3, h4, h5, h6, h7, h8, h9⟩ (fun _ _ e => by cases e)⟩
  simp [Instr.beginRound, Instr.getLoop, getObj, setObj, Sem.run, hw, setB, h1]
theorem endLoop_sound (hR : Rel P E r h w) {l : Nat} {st : LoopState} {pend : Option Code} {fn n : Nat} {tm : T V} {ps : List Nat} {asg body : Code} {d : Nat} (hg : h.get l = some (.loop st pend fn n tm ps asg body d)) (hst : st ≠ .busy) {q : RB} (hq : r.bl l = some q) :
    ∃ w', (Instr.endLoop q.blk).run P w = .ok pend w' ∧ Stp P E r h w r (h.set l (.loop .exhausted pend fn n tm ps asg body d)) w' := by
  obtain ⟨q', ob, hq', hw, L, p, rfl, h1, h2, h3, h4, h5, h6, h7, h8, h9⟩ := hR.os _ _ hg
  rw [hq] at hq'
  cases hq'
  refine ⟨setB w q.blk (.loop { L with state := .exhausted }), ?_, hR.set hg hq hw ⟨_, p, rfl, rfl, h2, h3, h4, h5, h6, h7, h8, h9⟩ (fun _ _ e => by cases e)⟩
  have hb : ¬ (L.state = .busy) := by rw [h1]; exact hst
  simp [Instr.endLoop, Instr.getLoop, getObj, setObj, Sem.run, hw, setB, hb, h2]
end
end Go.Ev
namespace Go.Ev

/-- A whole state. -/
structure StR (P : Program) (E : Env) (r : Rho) (m : M) (fr : Frame) (frs : List Frame) (w : World) : Prop where
  rel : Rel P E r m.h w
  cur : FrR r m.cur fr
  stk : F2 (FrR r) m.stk frs
/-- What is claimed of a call of f out of world w. -/
def Enters (P : Program) (E : Env) (r : Rho) (h : Hp) (w : World) (f : Nat) (ys : Array Value) (v : V) (h' : Hp) : Prop :=
  ∀ cs, ∃ fr x r' w', Steps P (lone (Frame.enter P f ys .normal) cs w) (lone fr cs w') ∧ fr.fn = f ∧ fr.leaving P w' (.returned x) ∧ VR r' v x ∧ Stp P E r h w r' h' w'
def Direct (P : Program) (E : Env) (r : Rho) (h : Hp) (w : World) (f : Nat) (ys : Array Value) (v : V) (h' : Hp) : Prop :=
  ∃ x r' w', (callFunc f ys).run P w = .ok (.value x) w' ∧ VR r' v x ∧ Stp P E r h w r' h' w'
/-- The summaries are so. -/
def SmOk (P : Program) (E : Env) : Prop :=
  ∀ f args h v h', E.sm f args h = some (v, h') → h.nx ≤ h'.nx ∧ ∀ r w ys, Free h.nx h'.nx r → Rel P E r h w → VRs r args ys.toList →
    Direct P E r h w f ys v h' ∨ ((callFunc f ys).run P w = .ok (.enter f ys) w ∧ Enters P E r h w f ys v h')

section
variable {P : Program} {E : Env} {r r' : Rho} {h h' : Hp} {w w' : World}

theorem F2.ext (hl : Le r r') {l : List Fr} {m : List Frame} (h : F2 (FrR r) l m) : F2 (FrR r') l m := h.imp fun _ _ => FrR.ext hl
/-- A frame that runs, by its parts. -/
theorem FrR.at {f : Fr} {fr : Frame} (h : FrR r f fr) : fr = fr.atR ⟨fr.tmps, fr.defers⟩ fr.todo := by
  obtain ⟨h1, h2, h3, h4, h5, h6, h7⟩ := h
  cases fr
  simp at h2
  subst h2
  rfl

theorem Stp.le (hs : Stp P E r h w r' h' w') (hf : Free h.nx h'.nx r) : Le r r' := hf.le hs.same

/-- What a block is that an operation of the class a makes. -/
theorem execA_kind {tm : T V} {op : Op} {b : Nat} {v : V} {o : O} (hx : execA E tm op b = some (v, o)) : (∃ cs el, o = .cells cs el false) ∨ o = .map [] := by
  unfold execA at hx
  split at hx
  · obtain ⟨_, _, h2⟩ := ob_some hx; cases h2; exact .inl ⟨_, _, rfl⟩
  · obtain ⟨_, _, h2⟩ := ob_some hx
    obtain ⟨_, h2⟩ := bif_some h2; cases h2; exact .inl ⟨_, _, rfl⟩
  · obtain ⟨_, _, h2⟩ := ob_some hx
    split at h2
    · obtain ⟨_, _, h2⟩ := ob_some h2
      obtain ⟨_, h2⟩ := bif_some h2
      obtain ⟨_, h2⟩ := bif_some h2
      obtain ⟨_, _, h2⟩ := ob_some h2
      obtain ⟨_, _, h2⟩ := ob_some h2
      cases h2; exact .inl ⟨_, _, rfl⟩
    · cases h2
  · split at hx
    · cases hx; exact .inr rfl
    · obtain ⟨_, _, h2⟩ := ob_some hx
      split at h2
      · obtain ⟨_, _, h2⟩ := ob_some h2; cases h2; exact .inr rfl
      · cases h2
  · obtain ⟨_, _, h2⟩ := ob_some hx
    split at h2
    · obtain ⟨_, _, h2⟩ := ob_some h2
      obtain ⟨_, _, h2⟩ := ob_some h2
      obtain ⟨_, _, h2⟩ := ob_some h2
      obtain ⟨_, h2⟩ := bif_some h2
      obtain ⟨_, h2⟩ := bif_some h2
      obtain ⟨_, h2⟩ := bif_some h2
      obtain ⟨_, h2⟩ := bif_some h2
      cases h2; exact .inl ⟨_, _, rfl⟩
    · cases h2
  · obtain ⟨_, _, h2⟩ := ob_some hx
    obtain ⟨_, _, h2⟩ := ob_some h2
    split at h2
    · obtain ⟨_, h2⟩ := bif_some h2
      obtain ⟨_, _, h2⟩ := ob_some h2
      split at h2
      · obtain ⟨_, h2⟩ := bif_some h2
        cases h2; exact .inl ⟨_, _, rfl⟩
      · cases h2
    · cases h2
  · cases hx

/-- What an operation does that is no call of a function. -/
theorem op_sound (hE : TisOk P E) (hR : Rel P E r h w) {n : Nat} {tm : T V} {a : Act} (hT : TR r n tm a.tmps) {o : Oper} {v : V} (hf : Free h.nx h'.nx r)
    (hx : (match clOf E o.op with
        | .p => ob (execP E tm o.op) fun v => some (v, h)
        | .l => ob (execL E tm o.op h) fun v => some (v, h)
        | .a => ob (execA E tm o.op h.nx) fun r => some (r.1, h.new r.2)
        | .i => execE E tm o.op h
        | .e => execE E tm o.op h) = some (v, h')) : EAns P E r h (execOp a.eval o) v h' w := by
  split at hx
  · obtain ⟨u, hu, h2⟩ := ob_some hx
    cases h2
    obtain ⟨x, hrun, hv⟩ := execP_sound (w := w) hE hT hu
    exact ⟨_, x, r, w, hrun, .inl rfl, hv, Stp.refl hR⟩
  · obtain ⟨u, hu, h2⟩ := ob_some hx
    cases h2
    obtain ⟨x, hrun, hv⟩ := execL_sound hE hR hT hu
    exact ⟨_, x, r, w, hrun, .inl rfl, hv, Stp.refl hR⟩
  · obtain ⟨⟨u, o'⟩, hu, h2⟩ := ob_some hx
    cases h2
    obtain ⟨x, obj, q, w', hrun, h1, h2, h3, h4, h5⟩ := execA_sound (w := w) hE hT hu
    have hfn : r.bl h.nx = none := hf.bl _ (Nat.le_refl _) (Nat.lt_succ_self _)
    obtain ⟨h6, h7⟩ := h5 (r.put h.nx q) (Rho.put_le hfn) (Rho.put_get _ _ _)
    exact ⟨_, x, _, w', hrun, .inl rfl, h6, hR.new hfn h4 h1 h2 h3 (h7 _ _) (fun m s k e => by rcases execA_kind hu with ⟨_, _, e'⟩ | e' <;> (rw [e'] at e; cases e))⟩
  · exact execE_sound hE hR hT hf hx
  · exact execE_sound hE hR hT hf hx
theorem op_mono {tm : T V} {o : Oper} {v : V} (hx : (match clOf E o.op with
        | .p => ob (execP E tm o.op) fun v => some (v, h)
        | .l => ob (execL E tm o.op h) fun v => some (v, h)
        | .a => ob (execA E tm o.op h.nx) fun r => some (r.1, h.new r.2)
        | .i => execE E tm o.op h
        | .e => execE E tm o.op h) = some (v, h')) : h.nx ≤ h'.nx := by
  split at hx
  · obtain ⟨_, _, h2⟩ := ob_some hx; cases h2; exact Nat.le_refl _
  · obtain ⟨_, _, h2⟩ := ob_some hx; cases h2; exact Nat.le_refl _
  · obtain ⟨_, _, h2⟩ := ob_some hx; cases h2; exact Nat.le_succ _
  · exact execE_mono hx
  · exact execE_mono hx

/-- The machine's step of an operation that goes on with a value. -/
theorem stepR_op_value {b : Frame} {a : Act} {k : List Item} {cs : List Frame} {ops : Array Oper} {i : Nat} {rest : List Nat} {o : Oper} (ho : ops[i]? = some o) (hw : Region.wanted o (yielded ops a.tmps) = true)
    (hnd : ∀ c, o.op ≠ .defer c) {n : Next} {x : Value} (hr : (execOp a.eval o).run P w = .ok n w') (hn : n = .value x ∨ (n = .skip ∧ x = undef)) :
    Go.step P (lone (b.atR a (.inRegion ops (i :: rest) :: k)) cs w) = .next (lone ((b.atR a (.inRegion ops (i :: rest) :: k)).finish x) cs w') := by
  refine step_lone_go ?_
  rw [stepGR_op ho hw, Oper.semAt_eq _ _ _ hnd]
  rcases hn with rfl | ⟨rfl, rfl⟩ <;> simp [stepG.apply, Sem.runT_eq, hr]
end
end Go.Ev
namespace Go.Ev

section
variable {P : Program} {E : Env} {r r' : Rho} {h h' : Hp} {w w' : World}

/-- What is claimed of a step to the state m'. -/
def Nxt (P : Program) (E : Env) (r : Rho) (h : Hp) (w : World) (fr : Frame) (frs cs : List Frame) (m' : M) : Prop :=
  ∃ fr' frs' w' r', Steps P (lone fr (frs ++ cs) w) (lone fr' (frs' ++ cs) w') ∧ StR P E r' m' fr' frs' w' ∧ Stp P E r h w r' m'.h w'

theorem todo_cons {it : It} {k : List It} {c : Fr} {fr : Frame} (hF : FrR r c fr) (e : c.todo = it :: k) : ∃ x xs, fr.todo = x :: xs ∧ ItR r it x ∧ F2 (ItR r) k xs := by
  have ht := hF.todo
  rw [e] at ht
  cases hk : fr.todo with
  | nil => rw [hk] at ht; cases ht
  | cons x xs => rw [hk] at ht; cases ht with | cons h1 h2 => exact ⟨x, xs, rfl, h1, h2⟩
/-- The frame with another rest to do. -/
theorem FrR.with {c : Fr} {fr : Frame} (hF : FrR r c fr) {k : List It} {xs : List Item} (hk : F2 (ItR r) k xs) : FrR r { c with todo := k } (fr.atR ⟨fr.tmps, fr.defers⟩ xs) :=
  ⟨hF.fn, rfl, hF.kind, hF.tmps, hk, hF.defers, hF.ro⟩
theorem FrR.eq {c : Fr} {fr : Frame} (hF : FrR r c fr) {x : Item} {xs : List Item} (e : fr.todo = x :: xs) : fr = fr.atR ⟨fr.tmps, fr.defers⟩ (x :: xs) := by
  have := hF.at
  rw [e] at this
  exact this

/-- A step that changes nothing but what is left to do. -/
theorem plain_step {m : M} {fr : Frame} {frs cs : List Frame} (hS : StR P E r m fr frs w) {k : List It} {xs : List Item} (hk : F2 (ItR r) k xs)
    (hs : Go.step P (lone fr (frs ++ cs) w) = .next (lone (fr.atR ⟨fr.tmps, fr.defers⟩ xs) (frs ++ cs) w)) : Nxt P E r m.h w fr frs cs ⟨{ m.cur with todo := k }, m.stk, m.h⟩ :=
  ⟨_, frs, w, r, .one hs, ⟨hS.rel, hS.cur.with hk, hS.stk⟩, Stp.refl hS.rel⟩

theorem exit_sound {id : Nat} : ∀ {k : List It} {xs : List Item}, F2 (ItR r) k xs → (∀ k', exitToA id k = some k' → ∃ xs', exitTo id xs = some xs' ∧ F2 (ItR r) k' xs') ∧ (exitToA id k = none → exitTo id xs = none) := by
  intro k
  induction k with
  | nil => intro xs h; cases h; exact ⟨fun _ e => (by cases e), fun _ => rfl⟩
  | cons i k ih =>
    intro xs h
    cases h with
    | cons h1 h2 =>
      rename_i x xs
      obtain ⟨g1, g2⟩ := ih h2
      cases i with
      | inBlock id' =>
        obtain rfl : x = _ := h1
        have e1 : exitToA id (.inBlock id' :: k) = (bif Nat.beq id' id then some k else exitToA id k) := rfl
        have e2 : exitTo id (.inBlock id' :: xs) = (if (id' == id) = true then some xs else exitTo id xs) := rfl
        rw [e1, e2]
        cases hb : Nat.beq id' id with
        | true =>
          have := Nat.eq_of_beq_eq_true hb
          subst this
          exact ⟨fun k' e => by cases e; exact ⟨xs, by simp, h2⟩, fun e => by cases e⟩
        | false =>
          have := Nat.ne_of_beq_eq_false hb
          have hb2 : (id' == id) = false := by simpa using this
          simp only [hb2, Bool.false_eq_true, if_false]
          exact ⟨g1, g2⟩
      | code c => obtain rfl : x = _ := h1; exact ⟨g1, g2⟩
      | inLoop c => obtain rfl : x = _ := h1; exact ⟨g1, g2⟩
      | ops a b => obtain ⟨l, rfl, _⟩ := h1; exact ⟨g1, g2⟩
      | inRF l => obtain ⟨q, _, rfl⟩ := h1; exact ⟨g1, g2⟩
      | endRF l => obtain ⟨q, _, rfl⟩ := h1; exact ⟨g1, g2⟩
      | beginRound => obtain rfl : x = _ := h1; exact ⟨g1, g2⟩
end
end Go.Ev
namespace Go.Ev

section
variable {P : Program} {E : Env} {r r' : Rho} {h h' : Hp} {w w' : World}

theorem stepR_op_enter {b : Frame} {a : Act} {k : List Item} {cs : List Frame} {ops : Array Oper} {i : Nat} {rest : List Nat} {o : Oper} (ho : ops[i]? = some o) (hw : Region.wanted o (yielded ops a.tmps) = true)
    (hnd : ∀ c, o.op ≠ .defer c) {f : Nat} {ys : Array Value} (hr : (execOp a.eval o).run P w = .ok (.enter f ys) w') :
    Go.step P (lone (b.atR a (.inRegion ops (i :: rest) :: k)) cs w) = .next (lone (Frame.enter P f ys .normal) (b.atR a (.inRegion ops (i :: rest) :: k) :: cs) w') := by
  refine step_lone_go ?_
  rw [stepGR_op ho hw, Oper.semAt_eq _ _ _ hnd]
  simp [stepG.apply, Sem.runT_eq, hr, Frame.atR]
theorem stepR_op_round {b : Frame} {a : Act} {k : List Item} {cs : List Frame} {ops : Array Oper} {i : Nat} {rest : List Nat} {o : Oper} (ho : ops[i]? = some o) (hw : Region.wanted o (yielded ops a.tmps) = true)
    (hnd : ∀ c, o.op ≠ .defer c) {l f : Nat} {tmps : Array Value} {asg body : Code} (hr : (execOp a.eval o).run P w = .ok (.round l f tmps asg body) w') :
    Go.step P (lone (b.atR a (.inRegion ops (i :: rest) :: k)) cs w) = .next (lone (Frame.round l f tmps asg body .normal) (b.atR a (.inRegion ops (i :: rest) :: k) :: cs) w') := by
  refine step_lone_go ?_
  rw [stepGR_op ho hw, Oper.semAt_eq _ _ _ hnd]
  simp [stepG.apply, Sem.runT_eq, hr]

theorem isCallV_some {op : Op} {cl : Go.Call} (h : isCallV op = some cl) : op = .call cl ∧ ∃ f, cl.callee = .value f := by
  unfold isCallV at h
  split at h
  · rename_i c
    split at h
    · rename_i f e
      cases h
      exact ⟨rfl, f, e⟩
    · cases h
  · cases h
/-- What a call leads to. -/
theorem call_sem {n : Nat} {tm : T V} {a : Act} (hT : TR r n tm a.tmps) {o : Oper} {cl : Go.Call} (hc : isCallV o.op = some cl) {t : Tgt} (ht : callOf tm cl = some t) :
    (match t with
      | .fn f as => ∃ ys : Array Value, VRs r as ys.toList ∧ (execOp a.eval o).run P w = (callFunc f ys).run P w
      | .yield l as => ∃ q, ∃ ys : Array Value, r.bl l = some q ∧ VRs r as ys.toList ∧ (execOp a.eval o).run P w = (Instr.yield q.blk ys).run P w) := by
  obtain ⟨ho, f, hf⟩ := isCallV_some hc
  unfold callOf at ht
  rw [hf] at ht
  obtain ⟨fv, hfv, h2⟩ := ob_some ht
  obtain ⟨args, hargs, h3⟩ := ob_some h2
  obtain ⟨d, hd, ht⟩ := tgt_sound (P := P) (w := w) h3 (evo_sound hT hfv) (evos_sound hT hargs)
  have hex : (execOp a.eval o).run P w = (invoke d.target d.args).run P w := by
    unfold execOp
    rw [ho]
    simp only [Sem.run_bind, resolve, hf, hd, Result.andThen_ok]
  cases t with
  | fn f as => obtain ⟨ys, h4, h5⟩ := ht; exact ⟨ys, h4, by rw [hex, h5]⟩
  | yield l as => obtain ⟨q, ys, h4, h5, h6⟩ := ht; exact ⟨q, ys, h4, h5, by rw [hex, h6]⟩
theorem call_nd {o : Oper} {cl : Go.Call} (hc : isCallV o.op = some cl) : ∀ c, o.op ≠ .defer c := by
  intro c e
  rw [(isCallV_some hc).1] at e
  cases e
end
end Go.Ev
namespace Go.Ev

section
variable {P : Program} {E : Env} {r r' : Rho} {h h' : Hp} {w w' : World}

theorem sob_next {α : Type} {o : Option α} {f : α → SR} {m : M} (h : sob o f = .next m) : ∃ a, o = some a ∧ f a = .next m := by
  cases o with
  | none => cases h
  | some a => exact ⟨a, rfl, h⟩
theorem sob_done {α : Type} {o : Option α} {f : α → SR} {v : V} {x : Hp} (h : sob o f = .done v x) : ∃ a, o = some a ∧ f a = .done v x := by
  cases o with
  | none => cases h
  | some a => exact ⟨a, rfl, h⟩

/-- An operation at the head of a region in text order: the frame, by its parts. -/
theorem head_ops {c : Fr} {fr : Frame} (hF : FrR r c fr) {all : Array Oper} {o : Oper} {rest : List Oper} {k : List It} (e : c.todo = .ops all (o :: rest) :: k) :
    ∃ i l xs, all[i]? = some o ∧ fr.todo = .inRegion all (i :: l) :: xs ∧ l.map (fun j => all[j]?) = rest.map some ∧ F2 (ItR r) k xs := by
  obtain ⟨x, xs, h1, h2, h3⟩ := todo_cons hF e
  obtain ⟨l, rfl, hl⟩ := h2
  obtain ⟨i, l', rfl, hi, hl'⟩ := ops_cons hl
  exact ⟨i, l', xs, hi, h1, hl', h3⟩

theorem callF_sound (hFn : FnsOk P E) (hSm : SmOk P E) {c : Fr} {stk : List Fr} {fr : Frame} {frs cs : List Frame} (hR : Rel P E r h w) (hF : FrR r c fr) (hS : F2 (FrR r) stk frs) {all : Array Oper} {o : Oper} {rest : List Oper} {k : List It} (e : c.todo = .ops all (o :: rest) :: k)
    (hw : Region.wanted o (yielded all fr.tmps) = true) {cl : Go.Call} (hc : isCallV o.op = some cl) {t : Tgt} (ht : callOf c.tm cl = some t) {m' : M} (hm : callF E c stk h t = .next m') (hf : Free h.nx m'.h.nx r) : Nxt P E r h w fr frs cs m' := by
  obtain ⟨i, l, xs, hi, htodo, hl, hk⟩ := head_ops hF e
  have hfr := hF.eq htodo
  have hsem := call_sem (P := P) (w := w) (a := ⟨fr.tmps, fr.defers⟩) hF.tmps hc ht
  have hnd := call_nd hc
  unfold callF at hm
  cases t with
  | fn f args =>
    obtain ⟨ys, hys, hex⟩ := hsem
    simp only at hm
    split at hm
    · rename_i rr hsm
      obtain ⟨v, h2⟩ := rr
      obtain ⟨c', hc', hm⟩ := sob_next hm
      cases hm
      obtain ⟨_, hs⟩ := hSm _ _ _ _ _ hsm
      rcases hs r w ys hf hR hys with ⟨x, r', w', hrun, hv, hst⟩ | ⟨hrun, hent⟩
      · have hle := hst.le hf
        have hstep := stepR_op_value (P := P) (b := fr) (a := ⟨fr.tmps, fr.defers⟩) (k := xs) (cs := frs ++ cs) (rest := l) hi hw hnd (hex.trans hrun) (.inl rfl)
        rw [← hfr] at hstep
        exact ⟨fr.finish x, frs, w', r', .one hstep, ⟨hst.rel, finish_sound hc' (hF.ext hle) hv, F2.ext hle hS⟩, hst⟩
      · have hstep := stepR_op_enter (P := P) (b := fr) (a := ⟨fr.tmps, fr.defers⟩) (k := xs) (cs := frs ++ cs) (rest := l) hi hw hnd (hex.trans hrun)
        rw [← hfr] at hstep
        obtain ⟨fr2, x, r', w', hsteps, _, hlv, hv, hst⟩ := hent (fr :: (frs ++ cs))
        have hle := hst.le hf
        exact ⟨fr.finish x, frs, w', r', .head hstep (hsteps.trans (.one (step_leave_returned hlv))), ⟨hst.rel, finish_sound hc' (hF.ext hle) hv, F2.ext hle hS⟩, hst⟩
    · obtain ⟨fr', hen, hm⟩ := sob_next hm
      cases hm
      obtain ⟨hF', hrun⟩ := enter_sound (w := w) hFn hen hys
      have hstep := stepR_op_enter (P := P) (b := fr) (a := ⟨fr.tmps, fr.defers⟩) (k := xs) (cs := frs ++ cs) (rest := l) hi hw hnd (hex.trans hrun)
      rw [← hfr] at hstep
      exact ⟨_, fr :: frs, w, r, .one hstep, ⟨hR, hF', .cons hF hS⟩, Stp.refl hR⟩
  | yield l' args =>
    obtain ⟨q, ys, hq, hys, hex⟩ := hsem
    obtain ⟨fr', hro, hm⟩ := sob_next hm
    cases hm
    obtain ⟨f, tmps, asg, body, hrun, hF'⟩ := round_sound hR hro hq hys
    have hstep := stepR_op_round (P := P) (b := fr) (a := ⟨fr.tmps, fr.defers⟩) (k := xs) (cs := frs ++ cs) (rest := l) hi hw hnd (hex.trans hrun)
    rw [← hfr] at hstep
    exact ⟨_, fr :: frs, w, r, .one hstep, ⟨hR, hF', .cons hF hS⟩, Stp.refl hR⟩

theorem put_frame {c : Fr} {fr : Frame} (hF : FrR r c fr) {all : Array Oper} {o : Oper} {rest : List Oper} {k : List It} (e : c.todo = .ops all (o :: rest) :: k) {v : V} {x : Value} (hv : VR r v x) {tm : T V} (ht : putT c.n c.tm o.dst v = some tm) :
    FrR r { c with tm := tm, todo := .ops all rest :: k } (fr.finish x) := by
  have : finish c v = some { c with tm := tm, todo := .ops all rest :: k } := by
    unfold finish
    rw [e]
    simp only [ob, ht]
  exact finish_sound this hF hv

theorem opOf_noDefer {tm : T V} {o : Oper} {v : V} (hx : (match clOf E o.op with
        | .p => ob (execP E tm o.op) fun v => some (v, h)
        | .l => ob (execL E tm o.op h) fun v => some (v, h)
        | .a => ob (execA E tm o.op h.nx) fun r => some (r.1, h.new r.2)
        | .i => execE E tm o.op h
        | .e => execE E tm o.op h) = some (v, h')) : ∀ c, o.op ≠ .defer c := by
  intro c e
  rw [e] at hx
  cases hx

theorem stepO_sound (hE : TisOk P E) (hFn : FnsOk P E) (hSm : SmOk P E) {m m' : M} {fr : Frame} {frs cs : List Frame} (hS : StR P E r m fr frs w) {all : Array Oper} {o : Oper} {rest : List Oper} {k : List It} (e : m.cur.todo = .ops all (o :: rest) :: k)
    (hm : stepO E m all o rest k = .next m') (hf : Free m.h.nx m'.h.nx r) : Nxt P E r m.h w fr frs cs m' := by
  obtain ⟨i, l, xs, hi, htodo, hl, hk⟩ := head_ops hS.cur e
  have hfr := hS.cur.eq htodo
  unfold stepO at hm
  obtain ⟨b, hb, hm⟩ := sob_next hm
  have hw := want_sound hS.cur.tmps hb
  cases b with
  | true =>
    simp only [cond_true] at hm
    split at hm
    · rename_i cl hc
      obtain ⟨t, ht, hm⟩ := sob_next hm
      exact callF_sound hFn hSm hS.rel hS.cur hS.stk e hw hc ht hm hf
    · obtain ⟨⟨v, h2⟩, hx, hm⟩ := sob_next hm
      obtain ⟨tm, ht, hm⟩ := sob_next hm
      cases hm
      obtain ⟨n, x, r', w', hrun, hn, hv, hst⟩ := op_sound hE hS.rel (a := ⟨fr.tmps, fr.defers⟩) hS.cur.tmps hf hx
      have hle := hst.le hf
      have hstep := stepR_op_value (P := P) (b := fr) (a := ⟨fr.tmps, fr.defers⟩) (k := xs) (cs := frs ++ cs) (rest := l) hi hw (opOf_noDefer hx) hrun hn
      rw [← hfr] at hstep
      exact ⟨_, frs, w', r', .one hstep, ⟨hst.rel, put_frame (hS.cur.ext hle) e hv ht, F2.ext hle hS.stk⟩, hst⟩
  | false =>
    simp only [cond_false] at hm
    obtain ⟨tm, ht, hm⟩ := sob_next hm
    cases hm
    have hstep := stepR_op_skip (P := P) (b := fr) (a := ⟨fr.tmps, fr.defers⟩) (k := xs) (cs := frs ++ cs) (w := w) (ops := all) (i := i) (rest := l) (by simp [hi, hw])
    rw [← hfr, ← Frame.finish_atR, ← hfr] at hstep
    exact ⟨_, frs, w, r, .one hstep, ⟨hS.rel, put_frame hS.cur e (x := undef) (v := undefV) ⟨#[], rfl, rfl⟩ ht, hS.stk⟩, Stp.refl hS.rel⟩
end
end Go.Ev
namespace Go.Ev

section
variable {P : Program} {E : Env} {r r' : Rho} {h h' : Hp} {w w' : World}

theorem code_head {m : M} {fr : Frame} {frs : List Frame} (hS : StR P E r m fr frs w) {cd : Code} {k : List It} (e : m.cur.todo = .code cd :: k) :
    ∃ xs, F2 (ItR r) k xs ∧ fr = fr.atR ⟨fr.tmps, fr.defers⟩ (.code cd :: xs) := by
  obtain ⟨x, xs, h1, h2, h3⟩ := todo_cons hS.cur e
  obtain rfl : x = _ := h2
  exact ⟨xs, h3, hS.cur.eq h1⟩
theorem seq_step {m : M} {fr : Frame} {frs cs : List Frame} (hS : StR P E r m fr frs w) {a b : Code} {k : List It} (e : m.cur.todo = .code (.seq a b) :: k) : Nxt P E r m.h w fr frs cs ⟨{ m.cur with todo := .code a :: .code b :: k }, m.stk, m.h⟩ := by
  obtain ⟨xs, hk, hfr⟩ := code_head hS e
  refine plain_step hS (xs := .code a :: .code b :: xs) (.cons rfl (.cons rfl hk)) ?_
  have := stepR_seq (P := P) (b := fr) (a := ⟨fr.tmps, fr.defers⟩) (k := xs) (cs := frs ++ cs) (w := w) (x := a) (y := b)
  rwa [← hfr] at this
theorem skip_step {m : M} {fr : Frame} {frs cs : List Frame} (hS : StR P E r m fr frs w) {k : List It} (e : m.cur.todo = .code .skip :: k) : Nxt P E r m.h w fr frs cs ⟨{ m.cur with todo := k }, m.stk, m.h⟩ := by
  obtain ⟨xs, hk, hfr⟩ := code_head hS e
  refine plain_step hS (xs := xs) hk ?_
  have := stepR_skip (P := P) (b := fr) (a := ⟨fr.tmps, fr.defers⟩) (k := xs) (cs := frs ++ cs) (w := w)
  rwa [← hfr] at this
theorem cond_step {m : M} {fr : Frame} {frs cs : List Frame} (hS : StR P E r m fr frs w) {q : Operand} {a b : Code} {k : List It} (e : m.cur.todo = .code (.cond q a b) :: k) {t : Bool} (hq : evo m.cur.tm q = some (.bool t)) :
    Nxt P E r m.h w fr frs cs ⟨{ m.cur with todo := .code (if t then a else b) :: k }, m.stk, m.h⟩ := by
  obtain ⟨xs, hk, hfr⟩ := code_head hS e
  refine plain_step hS (xs := .code (if t then a else b) :: xs) (.cons rfl hk) ?_
  have hev : (⟨fr.tmps, fr.defers⟩ : Act).eval q = .bool t := evo_sound (a := ⟨fr.tmps, fr.defers⟩) hS.cur.tmps hq
  have := stepR_cond (P := P) (b := fr) (a := ⟨fr.tmps, fr.defers⟩) (k := xs) (cs := frs ++ cs) (w := w) (x := a) (y := b) hev
  rwa [← hfr] at this
theorem block_step {m : M} {fr : Frame} {frs cs : List Frame} (hS : StR P E r m fr frs w) {id : Nat} {a : Code} {k : List It} (e : m.cur.todo = .code (.block id a) :: k) : Nxt P E r m.h w fr frs cs ⟨{ m.cur with todo := .code a :: .inBlock id :: k }, m.stk, m.h⟩ := by
  obtain ⟨xs, hk, hfr⟩ := code_head hS e
  refine plain_step hS (xs := .code a :: .inBlock id :: xs) (.cons rfl (.cons rfl hk)) ?_
  have := stepR_block (P := P) (b := fr) (a := ⟨fr.tmps, fr.defers⟩) (k := xs) (cs := frs ++ cs) (w := w) (id := id) (c := a)
  rwa [← hfr] at this
theorem loop_step {m : M} {fr : Frame} {frs cs : List Frame} (hS : StR P E r m fr frs w) {a : Code} {k : List It} (e : m.cur.todo = .code (.loop a) :: k) : Nxt P E r m.h w fr frs cs ⟨{ m.cur with todo := .code a :: .inLoop a :: k }, m.stk, m.h⟩ := by
  obtain ⟨xs, hk, hfr⟩ := code_head hS e
  refine plain_step hS (xs := .code a :: .inLoop a :: xs) (.cons rfl (.cons rfl hk)) ?_
  have := stepR_loop (P := P) (b := fr) (a := ⟨fr.tmps, fr.defers⟩) (k := xs) (cs := frs ++ cs) (w := w) (c := a)
  rwa [← hfr] at this
theorem exit_step {m : M} {fr : Frame} {frs cs : List Frame} (hS : StR P E r m fr frs w) {id : Nat} {k k' : List It} (e : m.cur.todo = .code (.exit id) :: k) (hx : exitToA id k = some k') : Nxt P E r m.h w fr frs cs ⟨{ m.cur with todo := k' }, m.stk, m.h⟩ := by
  obtain ⟨xs, hk, hfr⟩ := code_head hS e
  obtain ⟨xs', h1, h2⟩ := (exit_sound hk).1 _ hx
  refine plain_step hS (xs := xs') h2 ?_
  have := stepR_exit (P := P) (b := fr) (a := ⟨fr.tmps, fr.defers⟩) (k := xs) (cs := frs ++ cs) (w := w) h1
  rwa [← hfr] at this
theorem region_step {m : M} {fr : Frame} {frs cs : List Frame} (hS : StR P E r m fr frs w) {id : Nat} {ops : Array Oper} {k : List It} (e : m.cur.todo = .code (.region id ops false) :: k) : Nxt P E r m.h w fr frs cs ⟨{ m.cur with todo := .ops ops ops.toList :: k }, m.stk, m.h⟩ := by
  obtain ⟨xs, hk, hfr⟩ := code_head hS e
  refine plain_step hS (xs := .inRegion ops (List.range ops.size) :: xs) (.cons ⟨_, rfl, ?_⟩ hk) ?_
  · apply List.ext_getElem?
    intro i
    by_cases hi : i < ops.size
    · simp [hi]
    · simp [hi]
  · have := stepR_region (P := P) (b := fr) (a := ⟨fr.tmps, fr.defers⟩) (k := xs) (cs := frs ++ cs) (w := w) (id := id) (ops := ops)
    rwa [← hfr] at this

theorem inBlock_step {m : M} {fr : Frame} {frs cs : List Frame} (hS : StR P E r m fr frs w) {id : Nat} {k : List It} (e : m.cur.todo = .inBlock id :: k) : Nxt P E r m.h w fr frs cs ⟨{ m.cur with todo := k }, m.stk, m.h⟩ := by
  obtain ⟨x, xs, h1, h2, hk⟩ := todo_cons hS.cur e
  obtain rfl : x = _ := h2
  have hfr := hS.cur.eq h1
  refine plain_step hS (xs := xs) hk ?_
  have := stepR_inBlock (P := P) (b := fr) (a := ⟨fr.tmps, fr.defers⟩) (k := xs) (cs := frs ++ cs) (w := w) (id := id)
  rwa [← hfr] at this
theorem inLoop_step {m : M} {fr : Frame} {frs cs : List Frame} (hS : StR P E r m fr frs w) {a : Code} {k : List It} (e : m.cur.todo = .inLoop a :: k) : Nxt P E r m.h w fr frs cs ⟨{ m.cur with todo := .code a :: .inLoop a :: k }, m.stk, m.h⟩ := by
  obtain ⟨x, xs, h1, h2, hk⟩ := todo_cons hS.cur e
  obtain rfl : x = _ := h2
  have hfr := hS.cur.eq h1
  refine plain_step hS (xs := .code a :: .inLoop a :: xs) (.cons rfl (.cons rfl hk)) ?_
  have := stepR_inLoop (P := P) (b := fr) (a := ⟨fr.tmps, fr.defers⟩) (k := xs) (cs := frs ++ cs) (w := w) (c := a)
  rwa [← hfr] at this
theorem opsEnd_step {m : M} {fr : Frame} {frs cs : List Frame} (hS : StR P E r m fr frs w) {all : Array Oper} {k : List It} (e : m.cur.todo = .ops all [] :: k) : Nxt P E r m.h w fr frs cs ⟨{ m.cur with todo := k }, m.stk, m.h⟩ := by
  obtain ⟨x, xs, h1, h2, hk⟩ := todo_cons hS.cur e
  obtain ⟨l, rfl, hl⟩ := h2
  obtain rfl : l = [] := by simpa using hl
  have hfr := hS.cur.eq h1
  refine plain_step hS (xs := xs) hk ?_
  have := stepR_region_end (P := P) (b := fr) (a := ⟨fr.tmps, fr.defers⟩) (k := xs) (cs := frs ++ cs) (w := w) (ops := all)
  rwa [← hfr] at this
/-- With a pending jump ahead. -/
def pendT (pend : Option Code) (k : List It) : List It :=
  match pend with
  | some j => .code j :: k
  | none => k
theorem endRF_step {m : M} {fr : Frame} {frs cs : List Frame} (hS : StR P E r m fr frs w) {l : Nat} {k : List It} (e : m.cur.todo = .endRF l :: k) {st : LoopState} {pend : Option Code} {fn n : Nat} {tm : T V} {ps : List Nat} {asg body : Code} {d : Nat}
    (hg : m.h.get l = some (.loop st pend fn n tm ps asg body d)) (hst : st ≠ .busy) :
    Nxt P E r m.h w fr frs cs ⟨{ m.cur with todo := pendT pend k }, m.stk, m.h.set l (.loop .exhausted pend fn n tm ps asg body d)⟩ := by
  obtain ⟨x, xs, h1, h2, hk⟩ := todo_cons hS.cur e
  obtain ⟨q, hq, rfl⟩ := h2
  have hfr := hS.cur.eq h1
  obtain ⟨w', hrun, hstp⟩ := endLoop_sound hS.rel hg hst hq
  have := stepR_endRangeFunc (P := P) (b := fr) (a := ⟨fr.tmps, fr.defers⟩) (k := xs) (cs := frs ++ cs) hrun
  rw [← hfr] at this
  refine ⟨_, frs, w', r, .one this, ⟨hstp.rel, hS.cur.with ?_, hS.stk⟩, hstp⟩
  cases pend with
  | none => exact hk
  | some j => exact .cons rfl hk
theorem beginRound_step {m : M} {fr : Frame} {frs cs : List Frame} (hS : StR P E r m fr frs w) {l : Nat} {k : List It} (e : m.cur.todo = .beginRound :: k) (hro : m.cur.ro = some l) {pend : Option Code} {fn n : Nat} {tm : T V} {ps : List Nat} {asg body : Code} {d : Nat}
    (hg : m.h.get l = some (.loop .ready pend fn n tm ps asg body d)) :
    Nxt P E r m.h w fr frs cs ⟨{ m.cur with todo := k }, m.stk, m.h.set l (.loop .busy pend fn n tm ps asg body d)⟩ := by
  obtain ⟨x, xs, h1, h2, hk⟩ := todo_cons hS.cur e
  obtain rfl : x = _ := h2
  have hfr := hS.cur.eq h1
  have hr := hS.cur.ro
  rw [hro] at hr
  obtain ⟨q, hq, hrq⟩ := hr
  obtain ⟨w', hrun, hstp⟩ := beginRound_sound hS.rel hg hq
  have := stepR_beginRound (P := P) (b := fr) (a := ⟨fr.tmps, fr.defers⟩) (k := xs) (cs := frs ++ cs) hrq hrun
  rw [← hfr] at this
  exact ⟨_, frs, w', r, .one this, ⟨hstp.rel, hS.cur.with hk, hS.stk⟩, hstp⟩
end
end Go.Ev
namespace Go.Ev

section
variable {P : Program} {E : Env} {r r' : Rho} {h h' : Hp} {w w' : World}

/-- How the frame at the bottom ends: a function's, or a round's (whose caller is there). -/
def Fin (P : Program) (E : Env) (r : Rho) (h : Hp) (w : World) (fr : Frame) (cs : List Frame) (ro : Option Nat) (v : V) (h' : Hp) : Prop :=
  match ro with
  | none => ∃ fr' x r' w', Steps P (lone fr cs w) (lone fr' cs w') ∧ fr'.fn = fr.fn ∧ fr'.leaving P w' (.returned x) ∧ VR r' v x ∧ Stp P E r h w r' h' w'
  | some _ => ∀ c cs', cs = c :: cs' → ∃ x r' w', Steps P (lone fr cs w) (lone (c.finish x) cs' w') ∧ VR r' v x ∧ Stp P E r h w r' h' w'

/-- A function's frame is left by 'ret' or off its end. -/
theorem ret_sound (hE : TisOk P E) (hFn : FnsOk P E) {c : Fr} {fr : Frame} (hR : Rel P E r h w) (hF : FrR r c fr) (hro : c.ro = none) {h1 : Hp} (hc : collect c.ds h = some h1) {fn : Func} (hfn : E.fn c.fn = some fn) {v : V} (hv : resultsV E fn c.tm h1 = some v)
    (cs : List Frame) (hs : Go.step P (lone fr cs w) = .next (lone { fr with mode := .returning } cs w)) : Fin P E r h w fr cs c.ro v h1 := by
  rw [hro]
  obtain ⟨w', hsteps, hst⟩ := collect_sound hR hc hF.defers { fr with mode := .returning } cs rfl rfl
  obtain ⟨x, hx, hr⟩ := results_sound hE hst.rel hF.tmps hv
  refine ⟨{ fr with mode := .returning, defers := [] }, x, r, w', .head hs hsteps, rfl, ⟨rfl, rfl, hF.kind, fn, ?_, hx⟩, hr, hst⟩
  show P.funcs[fr.fn]? = some fn
  rw [hF.fn]
  exact hFn.fn _ _ hfn

/-- What comes back: to the frame that waits, or out. -/
theorem back_next {v : V} {stk : List Fr} {h1 : Hp} {m' : M} (hb : back v h1 stk = .next m') : ∃ c stk' c', stk = c :: stk' ∧ finish c v = some c' ∧ m' = ⟨c', stk', h1⟩ := by
  cases stk with
  | nil => cases hb
  | cons c stk' =>
    obtain ⟨c', h1, h2⟩ := sob_next hb
    cases h2
    exact ⟨c, stk', c', rfl, h1, rfl⟩
theorem back_done {v u : V} {stk : List Fr} {h1 h2 : Hp} (hb : back v h1 stk = .done u h2) : stk = [] ∧ u = v ∧ h2 = h1 := by
  cases stk with
  | nil => cases hb; exact ⟨rfl, rfl, rfl⟩
  | cons c stk' =>
    obtain ⟨c', _, h2⟩ := sob_done hb
    cases h2
/-- A function returns to the frame that waits. -/
theorem ret_next {m : M} {fr : Frame} {frs cs : List Frame} (hS : StR P E r m fr frs w) (hro : m.cur.ro = none) {v : V} {h1 : Hp} {m' : M} (hb : back v h1 m.stk = .next m') (hf : Free m.h.nx h1.nx r)
    (hfin : ∀ cs, Fin P E r m.h w fr cs m.cur.ro v h1) : Nxt P E r m.h w fr frs cs m' := by
  obtain ⟨c, stk', c', hstk, hc', rfl⟩ := back_next hb
  have hs := hS.stk
  rw [hstk] at hs
  cases hs with
  | cons h2 h3 =>
    rename_i fc frs'
    have := hfin (fc :: (frs' ++ cs))
    rw [hro] at this
    obtain ⟨fr', x, r', w', hsteps, _, hlv, hv, hst⟩ := this
    have hle := hst.le hf
    exact ⟨fc.finish x, frs', w', r', hsteps.trans (.one (step_leave_returned hlv)), ⟨hst.rel, finish_sound hc' (h2.ext hle) hv, F2.ext hle h3⟩, hst⟩
/-- A round returns to the frame that waits. -/
theorem round_next {m : M} {fr : Frame} {frs cs : List Frame} (hS : StR P E r m fr frs w) {l : Nat} (hro : m.cur.ro = some l) {v : V} {h1 : Hp} {m' : M} (hb : back v h1 m.stk = .next m') (hf : Free m.h.nx h1.nx r)
    (hfin : ∀ cs, Fin P E r m.h w fr cs m.cur.ro v h1) : Nxt P E r m.h w fr frs cs m' := by
  obtain ⟨c, stk', c', hstk, hc', rfl⟩ := back_next hb
  have hs := hS.stk
  rw [hstk] at hs
  cases hs with
  | cons h2 h3 =>
    rename_i fc frs'
    have := hfin (fc :: (frs' ++ cs))
    rw [hro] at this
    obtain ⟨x, r', w', hsteps, hv, hst⟩ := this fc (frs' ++ cs) rfl
    have hle := hst.le hf
    exact ⟨fc.finish x, frs', w', r', hsteps, ⟨hst.rel, finish_sound hc' (h2.ext hle) hv, F2.ext hle h3⟩, hst⟩
end
end Go.Ev
namespace Go.Ev

section
variable {P : Program} {E : Env} {r r' : Rho} {h h' : Hp} {w w' : World}

theorem round_fin {c : Fr} {fr : Frame} (hR : Rel P E r h w) (hF : FrR r c fr) {l : Nat} (hro : c.ro = some l) {st : LoopState} {pend : Option Code} {fn n : Nat} {tm : T V} {ps : List Nat} {asg body : Code} {d : Nat} (hg : h.get l = some (.loop st pend fn n tm ps asg body d)) {jump : Option Code}
    (hj : (jump = none ∧ c.todo = []) ∨ (jump = some .ret ∧ ∃ k, c.todo = .code .ret :: k) ∨ (∃ id k, jump = some (.exit id) ∧ c.todo = .code (.exit id) :: k ∧ exitToA id k = none)) (cs : List Frame) :
    Fin P E r h w fr cs c.ro (.bool jump.isNone) (h.set l (.loop (bif jump.isNone then .ready else .done) jump fn n tm ps asg body d)) := by
  have hr := hF.ro
  rw [hro] at hr ⊢
  obtain ⟨q, hq, hrq⟩ := hr
  obtain ⟨w', hrun, hst⟩ := endRound_sound hR hg hq jump
  intro c0 cs' hcs
  subst hcs
  refine ⟨.bool jump.isNone, r, w', .one ?_, rfl, hst⟩
  rcases hj with ⟨rfl, ht⟩ | ⟨rfl, k, ht⟩ | ⟨id, k, rfl, ht, hx⟩
  · have htd := hF.todo
    rw [ht] at htd
    have hnil : fr.todo = [] := by cases hk : fr.todo with
      | nil => rfl
      | cons a b => rw [hk] at htd; cases htd
    have hfr := hF.at
    rw [hnil] at hfr
    have := stepR_round_end (P := P) (b := fr) (a := ⟨fr.tmps, fr.defers⟩) (c := c0) (cs := cs') hrq hF.kind hrun
    rwa [← hfr] at this
  · obtain ⟨x, xs, h1, h2, _⟩ := todo_cons hF ht
    obtain rfl : x = _ := h2
    have hfr := hF.eq h1
    have := stepR_round_ret (P := P) (b := fr) (a := ⟨fr.tmps, fr.defers⟩) (c := c0) (cs := cs') (k := xs) hrq hF.kind hrun
    rwa [← hfr] at this
  · obtain ⟨x, xs, h1, h2, hk⟩ := todo_cons hF ht
    obtain rfl : x = _ := h2
    have hfr := hF.eq h1
    have := stepR_round_exit (P := P) (b := fr) (a := ⟨fr.tmps, fr.defers⟩) (c := c0) (cs := cs') (k := xs) hrq hF.kind ((exit_sound hk).2 hx) hrun
    rwa [← hfr] at this
end
end Go.Ev
namespace Go.Ev

section
variable {P : Program} {E : Env} {r r' : Rho} {h h' : Hp} {w w' : World}

theorem new_sound (hR : Rel P E r h w) {o : O} {ob : Obj} (hf : r.bl h.nx = none) (hi : ∀ m s k, o ≠ .miter m s k) (ho : ∀ r', Le r r' → OR P r' ⟨w.heap.size, 0, 0⟩ (pushB w ob) (h.nx + 1) o ob) : Stp P E r h w (r.put h.nx ⟨w.heap.size, 0, 0⟩) (h.new o) (pushB w ob) :=
  hR.new hf rfl rfl rfl rfl (ho _ (Rho.put_le hf)) (fun _ _ _ e => absurd e (hi _ _ _))
theorem range_none (hR : Rel P E r h w) {c : Fr} {fr : Frame} (hF : FrR r c fr) (hf : Free h.nx (h.nx + 2) r) {ps : Array Tmp} {asg body : Code} :
    ∃ r' w', (Instr.enterLoop fr.fn fr.tmps ps asg body none).run P w = .ok (w.heap.size + 1, [{ target := .collected w.heap.size, args := #[] }]) w' ∧
      Stp P E r h w r' ((h.new (.defd true)).new (.loop .ready none c.fn c.n c.tm ps.toList asg body h.nx)) w' ∧
      r'.bl h.nx = some ⟨w.heap.size, 0, 0⟩ ∧ r'.bl (h.nx + 1) = some ⟨w.heap.size + 1, 0, 0⟩ := by
  have hf1 : r.bl h.nx = none := hf.bl _ (Nat.le_refl _) (by omega)
  have s1 := new_sound hR (o := .defd true) (ob := .deferred (some [])) hf1 (fun _ _ _ e => by cases e) (fun _ _ => rfl)
  have hf2 : (r.put h.nx ⟨w.heap.size, 0, 0⟩).bl (h.nx + 1) = none := by
    rw [Rho.put_get' _ _ (by omega)]; exact hf.bl _ (by omega) (by omega)
  have hsz : (pushB w (.deferred (some []))).heap.size = w.heap.size + 1 := by simp [pushB]
  have s2 := new_sound (h := h.new (.defd true)) s1.rel (o := .loop .ready none c.fn c.n c.tm ps.toList asg body h.nx)
    (ob := .loop { state := .ready, pending := none, fn := fr.fn, tmps := fr.tmps, params := ps, assign := asg, body := body, defers := w.heap.size }) hf2 (fun _ _ _ e => by cases e)
    (fun r' hl => ⟨_, ⟨w.heap.size, 0, 0⟩, rfl, rfl, rfl, hF.fn, (hF.tmps.ext (Rho.put_le hf1)).ext hl, rfl, rfl, rfl, hl.bl _ _ (Rho.put_get _ _ _), rfl⟩)
  rw [hsz] at s2
  refine ⟨_, _, ?_, s1.trans s2, ?_, Rho.put_get _ _ _⟩
  · simp [Instr.enterLoop, newObj, Sem.run, pushB]
    rfl
  · show ((r.put h.nx _).put (h.nx + 1) _).bl h.nx = _
    rw [Rho.put_get' _ _ (by omega)]; exact Rho.put_get _ _ _

theorem range_some (hR : Rel P E r h w) {c : Fr} {fr : Frame} (hF : FrR r c fr) (hf : Free h.nx (h.nx + 1) r) {ps : Array Tmp} {asg body : Code} {a : Nat} {st0 : LoopState} {pend0 : Option Code} {fn0 n0 : Nat} {tm0 : T V} {ps0 : List Nat} {asg0 body0 : Code} {d : Nat}
    (hg : h.get a = some (.loop st0 pend0 fn0 n0 tm0 ps0 asg0 body0 d)) {q : RB} (hq : r.bl a = some q) :
    ∃ r' w', (Instr.enterLoop fr.fn fr.tmps ps asg body (some q.blk)).run P w = .ok (w.heap.size, []) w' ∧
      Stp P E r h w r' (h.new (.loop .ready none c.fn c.n c.tm ps.toList asg body d)) w' ∧ r'.bl h.nx = some ⟨w.heap.size, 0, 0⟩ := by
  obtain ⟨q', ob, hq', hw, L, p, rfl, g1, g2, g3, g4, g5, g6, g7, g8, g9⟩ := hR.os _ _ hg
  rw [hq] at hq'
  cases hq'
  have hf1 : r.bl h.nx = none := hf.bl _ (Nat.le_refl _) (by omega)
  have s1 := new_sound hR (o := .loop .ready none c.fn c.n c.tm ps.toList asg body d)
    (ob := .loop { state := .ready, pending := none, fn := fr.fn, tmps := fr.tmps, params := ps, assign := asg, body := body, defers := L.defers }) hf1 (fun _ _ _ e => by cases e)
    (fun r' hl => ⟨_, p, rfl, rfl, rfl, hF.fn, hF.tmps.ext hl, rfl, rfl, rfl, hl.bl _ _ g8, g9⟩)
  refine ⟨_, _, ?_, s1, Rho.put_get _ _ _⟩
  have hgl : (Instr.getLoop q.blk).run P w = .ok L w := by simp [Instr.getLoop, getObj, Sem.run, hw]
  simp [Instr.enterLoop, hgl, newObj, Sem.run, pushB]
end
end Go.Ev
namespace Go.Ev

section
variable {P : Program} {E : Env} {r r' : Rho} {h h' : Hp} {w w' : World}

theorem yield_args {r : Rho} {l : Nat} {q : RB} (hq : r.bl l = some q) : VRs r [.yield l] (#[Value.func (.yield q.blk) #[] #[]] : Array Value).toList := ⟨_, [], rfl, ⟨q, hq, rfl⟩, rfl⟩
/-- The one call, resolved. -/
theorem rangeCall_sem {r : Rho} {n : Nat} {tm : T V} {a : Act} (hT : TR r n tm a.tmps) {g : Operand} {fv : V} (hg : evo tm g = some fv) {l : Nat} {q : RB} (hq : r.bl l = some q) {f : Nat} {as : List V} (ht : tgtOf fv [.yield l] = some (.fn f as)) :
    ∃ d ys, (resolve a.eval (rangeCall g q.blk) 0).run P w = .ok d w ∧ VRs r as ys.toList ∧ invoke d.target d.args = callFunc f ys := by
  obtain ⟨d, hd, ys, hys, hinv⟩ := tgt_sound (P := P) (w := w) ht (evo_sound hT hg) (yield_args hq)
  refine ⟨d, ys, ?_, hys, hinv⟩
  have : (#[Operand.const (Value.func (.yield q.blk) #[] #[])] : Array Operand).map a.eval = #[Value.func (.yield q.blk) #[] #[]] := by simp [Act.eval]
  simp only [resolve, this]
  exact hd

theorem rangeF_none (hFn : FnsOk P E) {m : M} {fr : Frame} {frs cs : List Frame} (hS : StR P E r m fr frs w) {g : Operand} {ps : Array Tmp} {asg body : Code} {k : List It} (e : m.cur.todo = .code (.rangeFunc g ps asg body) :: k) (hro : m.cur.ro = none)
    (hf : Free m.h.nx (m.h.nx + 2) r) {fv : V} (hg : evo m.cur.tm g = some fv) {f : Nat} {as : List V} (ht : tgtOf fv [.yield (m.h.nx + 1)] = some (.fn f as)) {fr' : Fr} (hen : enter E f as = some fr') :
    Nxt P E r m.h w fr frs cs ⟨fr', { m.cur with todo := .inRF (m.h.nx + 1) :: k, ds := m.h.nx :: m.cur.ds } :: m.stk, (m.h.new (.defd true)).new (.loop .ready none m.cur.fn m.cur.n m.cur.tm ps.toList asg body m.h.nx)⟩ := by
  obtain ⟨xs, hk, hfr⟩ := code_head hS e
  obtain ⟨r', w', hel, hst, hd, hl⟩ := range_none hS.rel hS.cur hf (ps := ps) (asg := asg) (body := body)
  have hle : Le r r' := hst.le hf
  have hF := hS.cur.ext hle
  obtain ⟨d, ys, hres, hys, hinv⟩ := rangeCall_sem (P := P) (w := w') (a := ⟨fr.tmps, [{ target := .collected w.heap.size, args := #[] }] ++ fr.defers⟩) hF.tmps hg hl ht
  obtain ⟨hF', hrun⟩ := enter_sound (P := P) (w := w') hFn hen hys
  have hr := hS.cur.ro
  rw [hro] at hr
  have hr : fr.roundOf = none := hr
  have hinv' : (invoke d.target d.args).run P w' = .ok (.enter f ys) w' := by rw [hinv]; exact hrun
  have := stepR_rangeFunc (P := P) (b := fr) (a := ⟨fr.tmps, fr.defers⟩) (k := xs) (cs := frs ++ cs) (w := w) (g := g) (ps := ps) (assign := asg) (body := body) (by rw [hr]; exact hel) hres hinv'
  rw [← hfr] at this
  refine ⟨_, _ :: frs, w', r', .one this, ⟨hst.rel, hF', .cons ?_ (F2.ext hle hS.stk)⟩, hst⟩
  exact ⟨hF.fn, rfl, hF.kind, hF.tmps, .cons ⟨_, hl, rfl⟩ (hk.imp fun _ _ => ItR.ext hle), .cons ⟨_, hd, rfl⟩ hF.defers, hF.ro⟩

theorem rangeF_some (hFn : FnsOk P E) {m : M} {fr : Frame} {frs cs : List Frame} (hS : StR P E r m fr frs w) {g : Operand} {ps : Array Tmp} {asg body : Code} {k : List It} (e : m.cur.todo = .code (.rangeFunc g ps asg body) :: k) {a : Nat} (hro : m.cur.ro = some a)
    {st0 : LoopState} {pend0 : Option Code} {fn0 n0 : Nat} {tm0 : T V} {ps0 : List Nat} {asg0 body0 : Code} {d : Nat} (hga : m.h.get a = some (.loop st0 pend0 fn0 n0 tm0 ps0 asg0 body0 d))
    (hf : Free m.h.nx (m.h.nx + 1) r) {fv : V} (hg : evo m.cur.tm g = some fv) {f : Nat} {as : List V} (ht : tgtOf fv [.yield m.h.nx] = some (.fn f as)) {fr' : Fr} (hen : enter E f as = some fr') :
    Nxt P E r m.h w fr frs cs ⟨fr', { m.cur with todo := .inRF m.h.nx :: k } :: m.stk, m.h.new (.loop .ready none m.cur.fn m.cur.n m.cur.tm ps.toList asg body d)⟩ := by
  obtain ⟨xs, hk, hfr⟩ := code_head hS e
  have hr := hS.cur.ro
  rw [hro] at hr
  obtain ⟨q, hq, hrq⟩ := hr
  obtain ⟨r', w', hel, hst, hl⟩ := range_some hS.rel hS.cur hf (ps := ps) (asg := asg) (body := body) hga hq
  have hle : Le r r' := hst.le hf
  have hF := hS.cur.ext hle
  obtain ⟨d', ys, hres, hys, hinv⟩ := rangeCall_sem (P := P) (w := w') (a := ⟨fr.tmps, [] ++ fr.defers⟩) hF.tmps hg hl ht
  obtain ⟨hF', hrun⟩ := enter_sound (P := P) (w := w') hFn hen hys
  have hinv' : (invoke d'.target d'.args).run P w' = .ok (.enter f ys) w' := by rw [hinv]; exact hrun
  have := stepR_rangeFunc (P := P) (b := fr) (a := ⟨fr.tmps, fr.defers⟩) (k := xs) (cs := frs ++ cs) (w := w) (g := g) (ps := ps) (assign := asg) (body := body) (by rw [hrq]; exact hel) hres hinv'
  rw [← hfr] at this
  refine ⟨_, _ :: frs, w', r', .one this, ⟨hst.rel, hF', .cons ?_ (F2.ext hle hS.stk)⟩, hst⟩
  exact ⟨hF.fn, rfl, hF.kind, hF.tmps, .cons ⟨_, hl, rfl⟩ (hk.imp fun _ _ => ItR.ext hle), hF.defers, hF.ro⟩
end
end Go.Ev
namespace Go.Ev

/-- Regions that draw, as a premise. -/
structure RegOk (P : Program) (E : Env) (rc : RC) : Prop where
  mono : ∀ n ops tm h tm' h', region E rc n ops tm h = some (tm', h') → h.nx ≤ h'.nx
  sound : ∀ {r : Rho} {w : World} {m : M} {fr : Frame} {frs cs : List Frame} {id : Nat} {ops : Array Oper} {k : List It} {tm' : T V} {h' : Hp}, StR P E r m fr frs w → m.cur.todo = .code (.region id ops true) :: k →
    region E rc m.cur.n ops m.cur.tm m.h = some (tm', h') → Free m.h.nx h'.nx r → Nxt P E r m.h w fr frs cs ⟨{ m.cur with tm := tm', todo := k }, m.stk, h'⟩

section
variable {P : Program} {E : Env} {rc : RC}

theorem collect_nx : ∀ {ds : List Nat} {h h' : Hp}, collect ds h = some h' → h'.nx = h.nx := by
  intro ds
  induction ds with
  | nil => intro h h' hc; cases hc; rfl
  | cons d ds ih =>
    intro h h' hc
    unfold collect at hc
    split at hc
    · exact (ih (h := h.set d (.defd false)) hc).trans rfl
    · cases hc
theorem back_nx {v : V} {stk : List Fr} {h1 : Hp} {m' : M} (hb : back v h1 stk = .next m') : m'.h = h1 := by
  obtain ⟨_, _, _, _, _, rfl⟩ := back_next hb
  rfl
theorem callF_mono (hSm : SmOk P E) {c : Fr} {stk : List Fr} {h : Hp} {t : Tgt} {m' : M} (hm : callF E c stk h t = .next m') : h.nx ≤ m'.h.nx := by
  unfold callF at hm
  cases t with
  | fn f args =>
    simp only at hm
    split at hm
    · rename_i rr hsm
      obtain ⟨c', _, hm⟩ := sob_next hm
      cases hm
      obtain ⟨v, h2⟩ := rr
      exact (hSm _ _ _ _ _ hsm).1
    · obtain ⟨_, _, hm⟩ := sob_next hm
      cases hm; exact Nat.le_refl _
  | yield l args =>
    obtain ⟨_, _, hm⟩ := sob_next hm
    cases hm; exact Nat.le_refl _
theorem stepO_mono (hSm : SmOk P E) {m m' : M} {all : Array Oper} {o : Oper} {rest : List Oper} {k : List It} (hm : stepO E m all o rest k = .next m') : m.h.nx ≤ m'.h.nx := by
  unfold stepO at hm
  obtain ⟨b, _, hm⟩ := sob_next hm
  cases b with
  | true =>
    simp only [cond_true] at hm
    split at hm
    · obtain ⟨_, _, hm⟩ := sob_next hm
      exact callF_mono hSm hm
    · obtain ⟨⟨v, h2⟩, hx, hm⟩ := sob_next hm
      obtain ⟨_, _, hm⟩ := sob_next hm
      cases hm
      exact op_mono hx
  | false =>
    simp only [cond_false] at hm
    obtain ⟨_, _, hm⟩ := sob_next hm
    cases hm; exact Nat.le_refl _

/-- What leaving a frame comes to: what goes back, and the heap. -/
theorem leave_back {m : M} {jump : Option Code} {x : SR} (hx : x ≠ .fail) (hl : leave E m jump = x) :
    (m.cur.ro = none ∧ (jump = none ∨ jump = some .ret) ∧ ∃ h1 fn v, collect m.cur.ds m.h = some h1 ∧ E.fn m.cur.fn = some fn ∧ resultsV E fn m.cur.tm h1 = some v ∧ back v h1 m.stk = x) ∨
    (∃ l st pend fn n tm ps asg body d, m.cur.ro = some l ∧ m.h.get l = some (.loop st pend fn n tm ps asg body d) ∧ back (.bool jump.isNone) (m.h.set l (.loop (bif jump.isNone then .ready else .done) jump fn n tm ps asg body d)) m.stk = x) := by
  have hret : leave.ret E m = x → ∃ h1 fn v, collect m.cur.ds m.h = some h1 ∧ E.fn m.cur.fn = some fn ∧ resultsV E fn m.cur.tm h1 = some v ∧ back v h1 m.stk = x := by
    intro hr
    unfold leave.ret at hr
    cases hc : collect m.cur.ds m.h with
    | none => rw [hc] at hr; exact absurd hr.symm hx
    | some h1 =>
      cases hfn : E.fn m.cur.fn with
      | none => rw [hc, hfn] at hr; exact absurd hr.symm hx
      | some fn =>
        cases hv : resultsV E fn m.cur.tm h1 with
        | none => rw [hc, hfn] at hr; simp only [sob, hv] at hr; exact absurd hr.symm hx
        | some v => rw [hc, hfn] at hr; simp only [sob, hv] at hr; exact ⟨h1, fn, v, rfl, rfl, hv, hr⟩
  unfold leave at hl
  split at hl
  · rename_i hro
    split at hl
    · exact .inl ⟨hro, .inl rfl, hret hl⟩
    · exact .inl ⟨hro, .inr rfl, hret hl⟩
    · exact absurd hl.symm hx
  · rename_i l hro
    split at hl
    · rename_i hg
      exact .inr ⟨l, _, _, _, _, _, _, _, _, _, hro, hg, hl⟩
    · exact absurd hl.symm hx
end
end Go.Ev
namespace Go.Ev

section
variable {P : Program} {E : Env} {r : Rho} {w : World}

/-- By which jump a frame is left, from what is left to do. -/
def LeftBy (c : Fr) (jump : Option Code) : Prop :=
  (jump = none ∧ c.todo = []) ∨ (jump = some .ret ∧ ∃ k, c.todo = .code .ret :: k) ∨ (∃ id k, jump = some (.exit id) ∧ c.todo = .code (.exit id) :: k ∧ exitToA id k = none)

theorem left_step {c : Fr} {fr : Frame} (hF : FrR r c fr) (hro : c.ro = none) {jump : Option Code} (hj : LeftBy c jump) (hj2 : jump = none ∨ jump = some .ret) (cs : List Frame) : Go.step P (lone fr cs w) = .next (lone { fr with mode := .returning } cs w) := by
  have hr := hF.ro
  rw [hro] at hr
  have hr : fr.roundOf = none := hr
  rcases hj with ⟨_, ht⟩ | ⟨_, k, ht⟩ | ⟨id, k, e, _⟩
  · have htd := hF.todo
    rw [ht] at htd
    have hnil : fr.todo = [] := by cases hk : fr.todo with
      | nil => rfl
      | cons a b => rw [hk] at htd; cases htd
    have hfr := hF.at
    rw [hnil] at hfr
    have := stepR_end (P := P) (b := fr) (a := ⟨fr.tmps, fr.defers⟩) (cs := cs) (w := w) hr
    rwa [← hfr] at this
  · obtain ⟨x, xs, h1, h2, _⟩ := todo_cons hF ht
    obtain rfl : x = _ := h2
    have hfr := hF.eq h1
    have := stepR_ret (P := P) (b := fr) (a := ⟨fr.tmps, fr.defers⟩) (k := xs) (cs := cs) (w := w) hr
    rwa [← hfr] at this
  · subst e
    rcases hj2 with h | h <;> cases h

/-- A frame is left for the one that waits. -/
theorem leave_next (hE : TisOk P E) (hFn : FnsOk P E) {m m' : M} {fr : Frame} {frs cs : List Frame} (hS : StR P E r m fr frs w) {jump : Option Code} (hj : LeftBy m.cur jump) (hl : leave E m jump = .next m') (hf : Free m.h.nx m'.h.nx r) : Nxt P E r m.h w fr frs cs m' := by
  rcases leave_back (by intro e; cases e) hl with ⟨hro, hj2, h1, fn, v, hc, hfn, hv, hb⟩ | ⟨l, st, pend, fn, n, tm, ps, asg, body, d, hro, hg, hb⟩
  · have e := back_nx hb
    exact ret_next hS hro hb (by rw [← e]; exact hf) fun cs => ret_sound hE hFn hS.rel hS.cur hro hc hfn hv cs (left_step hS.cur hro hj hj2 cs)
  · have e := back_nx hb
    exact round_next hS hro hb (by rw [← e]; exact hf) fun cs => round_fin hS.rel hS.cur hro hg hj cs
/-- A frame at the bottom is left. -/
theorem leave_done (hE : TisOk P E) (hFn : FnsOk P E) {m : M} {fr : Frame} {frs : List Frame} (hS : StR P E r m fr frs w) {jump : Option Code} (hj : LeftBy m.cur jump) {v : V} {h' : Hp} (hl : leave E m jump = .done v h') (cs : List Frame) : m.stk = [] ∧ Fin P E r m.h w fr cs m.cur.ro v h' := by
  rcases leave_back (by intro e; cases e) hl with ⟨hro, hj2, h1, fn, u, hc, hfn, hv, hb⟩ | ⟨l, st, pend, fn, n, tm, ps, asg, body, d, hro, hg, hb⟩
  · obtain ⟨h2, rfl, rfl⟩ := back_done hb
    exact ⟨h2, ret_sound hE hFn hS.rel hS.cur hro hc hfn hv cs (left_step hS.cur hro hj hj2 cs)⟩
  · obtain ⟨h2, rfl, rfl⟩ := back_done hb
    exact ⟨h2, round_fin hS.rel hS.cur hro hg hj cs⟩
end
end Go.Ev
namespace Go.Ev

section
variable {P : Program} {E : Env} {rc : RC} {r : Rho} {w : World}

theorem leave_mono {m m' : M} {jump : Option Code} (hl : leave E m jump = .next m') : m.h.nx ≤ m'.h.nx := by
  rcases leave_back (by intro e; cases e) hl with ⟨_, _, h1, fn, v, hc, _, _, hb⟩ | ⟨l, st, pend, fn, n, tm, ps, asg, body, d, _, _, hb⟩
  · rw [back_nx hb, collect_nx hc]; exact Nat.le_refl _
  · rw [back_nx hb]; exact Nat.le_refl _
theorem step_mono (hSm : SmOk P E) (hrg : RegOk P E rc) {m m' : M} (hm : step E rc m = .next m') : m.h.nx ≤ m'.h.nx := by
  unfold step at hm
  dsimp only at hm
  split at hm
  · exact leave_mono hm
  · split at hm
    · split at hm
      · exact leave_mono hm
      · cases hm; exact Nat.le_refl _
      · cases hm; exact Nat.le_refl _
      · obtain ⟨v, _, hm⟩ := sob_next hm
        split at hm
        · cases hm; exact Nat.le_refl _
        · cases hm; exact Nat.le_refl _
        · cases hm
      · cases hm; exact Nat.le_refl _
      · cases hm; exact Nat.le_refl _
      · split at hm
        · cases hm; exact Nat.le_refl _
        · exact leave_mono hm
      · cases hm; exact Nat.le_refl _
      · obtain ⟨⟨tm, h'⟩, hr, hm⟩ := sob_next hm
        cases hm
        exact hrg.mono _ _ _ _ _ _ hr
      · obtain ⟨fv, _, hm⟩ := sob_next hm
        split at hm
        · obtain ⟨t, _, hm⟩ := sob_next hm
          unfold enterF at hm
          cases t with
          | fn f as =>
            obtain ⟨_, _, hm⟩ := sob_next hm
            cases hm
            show m.h.nx ≤ m.h.nx + 1 + 1
            omega
          | yield l as => cases hm
        · split at hm
          · obtain ⟨t, _, hm⟩ := sob_next hm
            unfold enterF at hm
            cases t with
            | fn f as =>
              obtain ⟨_, _, hm⟩ := sob_next hm
              cases hm
              exact Nat.le_succ _
            | yield l as => cases hm
          · cases hm
      · cases hm
    · cases hm; exact Nat.le_refl _
    · cases hm; exact Nat.le_refl _
    · split at hm
      · cases hm; exact Nat.le_refl _
      · exact stepO_mono hSm hm
    · cases hm
    · split at hm
      · split at hm
        · cases hm
        · cases hm; exact Nat.le_refl _
      · cases hm
    · split at hm
      · split at hm
        · cases hm; exact Nat.le_refl _
        · cases hm
      · cases hm

theorem step_sound (hE : TisOk P E) (hFn : FnsOk P E) (hSm : SmOk P E) (hrg : RegOk P E rc) {m m' : M} {fr : Frame} {frs cs : List Frame} (hS : StR P E r m fr frs w) (hm : step E rc m = .next m') (hf : Free m.h.nx m'.h.nx r) : Nxt P E r m.h w fr frs cs m' := by
  unfold step at hm
  dsimp only at hm
  split at hm
  · rename_i e
    exact leave_next hE hFn hS (.inl ⟨rfl, e⟩) hm hf
  · rename_i it k e
    split at hm
    · rename_i cd
      split at hm
      · exact leave_next hE hFn hS (.inr (.inl ⟨rfl, k, e⟩)) hm hf
      · cases hm; exact skip_step hS e
      · cases hm; exact seq_step hS e
      · obtain ⟨v, hv, hm⟩ := sob_next hm
        split at hm
        · cases hm; exact cond_step (t := true) hS e hv
        · cases hm; exact cond_step (t := false) hS e hv
        · cases hm
      · cases hm; exact block_step hS e
      · cases hm; exact loop_step hS e
      · rename_i id
        split at hm
        · rename_i k' hx
          cases hm; exact exit_step hS e hx
        · rename_i hx
          exact leave_next hE hFn hS (.inr (.inr ⟨id, k, rfl, e, hx⟩)) hm hf
      · cases hm; exact region_step hS e
      · obtain ⟨⟨tm, h'⟩, hr, hm⟩ := sob_next hm
        cases hm
        exact hrg.sound hS e hr hf
      · obtain ⟨fv, hg, hm⟩ := sob_next hm
        split at hm
        · rename_i hro
          obtain ⟨t, ht, hm⟩ := sob_next hm
          unfold enterF at hm
          cases t with
          | fn f as =>
            obtain ⟨fr', hen, hm⟩ := sob_next hm
            cases hm
            exact rangeF_none hFn hS e hro hf hg ht hen
          | yield l as => cases hm
        · rename_i a hro
          split at hm
          · rename_i hga
            obtain ⟨t, ht, hm⟩ := sob_next hm
            unfold enterF at hm
            cases t with
            | fn f as =>
              obtain ⟨fr', hen, hm⟩ := sob_next hm
              cases hm
              exact rangeF_some hFn hS e hro hga hf hg ht hen
            | yield l as => cases hm
          · cases hm
      · cases hm
    · cases hm; exact inBlock_step hS e
    · cases hm; exact inLoop_step hS e
    · split at hm
      · cases hm; exact opsEnd_step hS e
      · exact stepO_sound hE hFn hSm hS e hm hf
    · cases hm
    · split at hm
      · rename_i hg
        split at hm
        · cases hm
        · rename_i hne
          cases hm
          have := endRF_step (cs := cs) hS e hg (fun h => hne h)
          unfold pendT at this
          exact this
      · cases hm
    · split at hm
      · rename_i l hro
        split at hm
        · rename_i hg
          cases hm; exact beginRound_step hS e hro hg
        · cases hm
      · cases hm
end
end Go.Ev
namespace Go.Ev

/-- Of the frame at the bottom: its function, and whose round it is. -/
def bot (c : Fr) : List Fr → Nat × Option Nat
  | [] => (c.fn, c.ro)
  | d :: l => bot d l
theorem bot_congr {c c' : Fr} (h1 : c'.fn = c.fn) (h2 : c'.ro = c.ro) : ∀ l, bot c' l = bot c l
  | [] => by simp [bot, h1, h2]
  | _ :: _ => rfl
theorem finish_bot {c c' : Fr} {v : V} (h : finish c v = some c') (l : List Fr) : bot c' l = bot c l := by
  unfold finish at h
  split at h
  · obtain ⟨_, _, h2⟩ := ob_some h; cases h2; apply bot_congr <;> rfl
  · cases h; apply bot_congr <;> rfl
  · cases h

section
variable {P : Program} {E : Env} {rc : RC}

theorem leave_bot {m m' : M} {jump : Option Code} (hl : leave E m jump = .next m') : bot m'.cur m'.stk = bot m.cur m.stk := by
  have key : ∀ {v : V} {h1 : Hp}, back v h1 m.stk = .next m' → bot m'.cur m'.stk = bot m.cur m.stk := by
    intro v h1 hb
    obtain ⟨c, stk', c', hs, hc, rfl⟩ := back_next hb
    rw [hs]
    exact finish_bot hc stk'
  rcases leave_back (by intro e; cases e) hl with ⟨_, _, h1, fn, v, hc, _, _, hb⟩ | ⟨l, st, pend, fn, n, tm, ps, asg, body, d, _, _, hb⟩
  · exact key hb
  · exact key hb
theorem callF_bot {c : Fr} {stk : List Fr} {h : Hp} {t : Tgt} {m' : M} (hm : callF E c stk h t = .next m') : bot m'.cur m'.stk = bot c stk := by
  unfold callF at hm
  cases t with
  | fn f args =>
    simp only at hm
    split at hm
    · obtain ⟨c', hc, hm⟩ := sob_next hm
      cases hm
      exact finish_bot hc stk
    · obtain ⟨_, _, hm⟩ := sob_next hm
      cases hm; rfl
  | yield l args =>
    obtain ⟨_, _, hm⟩ := sob_next hm
    cases hm; rfl
theorem stepO_bot {m m' : M} {all : Array Oper} {o : Oper} {rest : List Oper} {k : List It} (hm : stepO E m all o rest k = .next m') : bot m'.cur m'.stk = bot m.cur m.stk := by
  unfold stepO at hm
  obtain ⟨b, _, hm⟩ := sob_next hm
  cases b with
  | true =>
    simp only [cond_true] at hm
    split at hm
    · obtain ⟨_, _, hm⟩ := sob_next hm
      exact callF_bot hm
    · obtain ⟨⟨v, h2⟩, hx, hm⟩ := sob_next hm
      obtain ⟨_, _, hm⟩ := sob_next hm
      cases hm
      apply bot_congr <;> rfl
  | false =>
    simp only [cond_false] at hm
    obtain ⟨_, _, hm⟩ := sob_next hm
    cases hm; apply bot_congr <;> rfl
theorem step_bot {m m' : M} (hm : step E rc m = .next m') : bot m'.cur m'.stk = bot m.cur m.stk := by
  unfold step at hm
  dsimp only at hm
  split at hm
  · exact leave_bot hm
  · split at hm
    · split at hm
      · exact leave_bot hm
      · cases hm; apply bot_congr <;> rfl
      · cases hm; apply bot_congr <;> rfl
      · obtain ⟨v, _, hm⟩ := sob_next hm
        split at hm
        · cases hm; apply bot_congr <;> rfl
        · cases hm; apply bot_congr <;> rfl
        · cases hm
      · cases hm; apply bot_congr <;> rfl
      · cases hm; apply bot_congr <;> rfl
      · split at hm
        · cases hm; apply bot_congr <;> rfl
        · exact leave_bot hm
      · cases hm; apply bot_congr <;> rfl
      · obtain ⟨⟨tm, h'⟩, hr, hm⟩ := sob_next hm
        cases hm
        apply bot_congr <;> rfl
      · obtain ⟨fv, _, hm⟩ := sob_next hm
        split at hm
        · obtain ⟨t, _, hm⟩ := sob_next hm
          unfold enterF at hm
          cases t with
          | fn f as =>
            obtain ⟨_, _, hm⟩ := sob_next hm
            cases hm
            (show bot (Fr.mk _ _ _ _ _ _) m.stk = bot m.cur m.stk; apply bot_congr <;> rfl)
          | yield l as => cases hm
        · split at hm
          · obtain ⟨t, _, hm⟩ := sob_next hm
            unfold enterF at hm
            cases t with
            | fn f as =>
              obtain ⟨_, _, hm⟩ := sob_next hm
              cases hm
              (show bot (Fr.mk _ _ _ _ _ _) m.stk = bot m.cur m.stk; apply bot_congr <;> rfl)
            | yield l as => cases hm
          · cases hm
      · cases hm
    · cases hm; apply bot_congr <;> rfl
    · cases hm; apply bot_congr <;> rfl
    · split at hm
      · cases hm; apply bot_congr <;> rfl
      · exact stepO_bot hm
    · cases hm
    · split at hm
      · split at hm
        · cases hm
        · cases hm; apply bot_congr <;> rfl
      · cases hm
    · split at hm
      · split at hm
        · cases hm; apply bot_congr <;> rfl
        · cases hm
      · cases hm

/-- What ends a run: the frame is left. -/
theorem done_left {m : M} {v : V} {h' : Hp} (hm : step E rc m = .done v h') : ∃ jump, LeftBy m.cur jump ∧ leave E m jump = .done v h' := by
  unfold step at hm
  dsimp only at hm
  have cf : ∀ {c : Fr} {stk : List Fr} {h : Hp} {t : Tgt}, callF E c stk h t = .done v h' → False := by
    intro c stk h t hm
    unfold callF at hm
    cases t with
    | fn f args =>
      simp only at hm
      split at hm
      · obtain ⟨_, _, hm⟩ := sob_done hm; cases hm
      · obtain ⟨_, _, hm⟩ := sob_done hm; cases hm
    | yield l args => obtain ⟨_, _, hm⟩ := sob_done hm; cases hm
  have ef : ∀ {c : Fr} {stk : List Fr} {h : Hp} {t : Tgt}, enterF E c stk h t = .done v h' → False := by
    intro c stk h t hm
    unfold enterF at hm
    cases t with
    | fn f args => obtain ⟨_, _, hm⟩ := sob_done hm; cases hm
    | yield l args => cases hm
  split at hm
  · rename_i e
    exact ⟨_, .inl ⟨rfl, e⟩, hm⟩
  · rename_i it k e
    split at hm
    · split at hm
      · exact ⟨_, .inr (.inl ⟨rfl, k, e⟩), hm⟩
      · cases hm
      · cases hm
      · obtain ⟨u, hv, hm⟩ := sob_done hm
        split at hm <;> cases hm
      · cases hm
      · cases hm
      · rename_i id
        split at hm
        · cases hm
        · rename_i hx
          exact ⟨_, .inr (.inr ⟨id, k, rfl, e, hx⟩), hm⟩
      · cases hm
      · obtain ⟨_, _, hm⟩ := sob_done hm
        cases hm
      · obtain ⟨fv, hg, hm⟩ := sob_done hm
        split at hm
        · obtain ⟨t, ht, hm⟩ := sob_done hm
          exact (ef hm).elim
        · split at hm
          · obtain ⟨t, ht, hm⟩ := sob_done hm
            exact (ef hm).elim
          · cases hm
      · cases hm
    · cases hm
    · cases hm
    · split at hm
      · cases hm
      · unfold stepO at hm
        obtain ⟨b, _, hm⟩ := sob_done hm
        cases b with
        | true =>
          simp only [cond_true] at hm
          split at hm
          · obtain ⟨_, _, hm⟩ := sob_done hm
            exact (cf hm).elim
          · obtain ⟨_, _, hm⟩ := sob_done hm
            obtain ⟨_, _, hm⟩ := sob_done hm
            cases hm
        | false =>
          simp only [cond_false] at hm
          obtain ⟨_, _, hm⟩ := sob_done hm
          cases hm
    · cases hm
    · split at hm
      · split at hm <;> cases hm
      · cases hm
    · split at hm
      · split at hm <;> cases hm
      · cases hm
theorem done_mono {m : M} {v : V} {h' : Hp} (hm : step E rc m = .done v h') : m.h.nx ≤ h'.nx := by
  obtain ⟨jump, _, hl⟩ := done_left hm
  rcases leave_back (by intro e; cases e) hl with ⟨_, _, h1, fn, u, hc, _, _, hb⟩ | ⟨l, st, pend, fn, n, tm, ps, asg, body, d, _, _, hb⟩
  · obtain ⟨_, _, rfl⟩ := back_done hb
    rw [collect_nx hc]; exact Nat.le_refl _
  · obtain ⟨_, _, rfl⟩ := back_done hb
    exact Nat.le_refl _
theorem run_mono (hSm : SmOk P E) (hrg : RegOk P E rc) : ∀ (n : Nat) {m : M} {v : V} {h' : Hp}, run E rc n m = some (v, h') → m.h.nx ≤ h'.nx := by
  intro n
  induction n with
  | zero => intro m v h' hr; cases hr
  | succ n ih =>
    intro m v h' hr
    unfold run at hr
    split at hr
    · rename_i m' hm
      exact Nat.le_trans (step_mono hSm hrg hm) (ih hr)
    · rename_i hm
      cases hr
      exact done_mono hm
    · cases hr

/-- How a run ends, for the frame at its bottom (its function, its round). -/
def FinB (P : Program) (E : Env) (r : Rho) (h : Hp) (w : World) (fr : Frame) (frs cs : List Frame) (b : Nat × Option Nat) (v : V) (h' : Hp) : Prop :=
  match b.2 with
  | none => ∃ fr' x r' w', Steps P (lone fr (frs ++ cs) w) (lone fr' cs w') ∧ fr'.fn = b.1 ∧ fr'.leaving P w' (.returned x) ∧ VR r' v x ∧ Stp P E r h w r' h' w'
  | some _ => ∀ c cs', cs = c :: cs' → ∃ x r' w', Steps P (lone fr (frs ++ cs) w) (lone (c.finish x) cs' w') ∧ VR r' v x ∧ Stp P E r h w r' h' w'
theorem FinB.head {r r1 : Rho} {h h1 h' : Hp} {w w1 : World} {fr fr1 : Frame} {frs frs1 cs : List Frame} {b : Nat × Option Nat} {v : V} (hs : Steps P (lone fr (frs ++ cs) w) (lone fr1 (frs1 ++ cs) w1)) (hst : Stp P E r h w r1 h1 w1)
    (hf : FinB P E r1 h1 w1 fr1 frs1 cs b v h') : FinB P E r h w fr frs cs b v h' := by
  unfold FinB at hf ⊢
  split at hf
  · obtain ⟨fr', x, r', w', h1, h2, h3, h4, h5⟩ := hf
    exact ⟨fr', x, r', w', hs.trans h1, h2, h3, h4, hst.trans h5⟩
  · intro c cs' e
    obtain ⟨x, r', w', h1, h4, h5⟩ := hf c cs' e
    exact ⟨x, r', w', hs.trans h1, h4, hst.trans h5⟩

theorem run_sound (hE : TisOk P E) (hFn : FnsOk P E) (hSm : SmOk P E) (hrg : RegOk P E rc) : ∀ (n : Nat) {m : M} {v : V} {h' : Hp}, run E rc n m = some (v, h') →
    ∀ {r : Rho} {w : World} {fr : Frame} {frs : List Frame}, StR P E r m fr frs w → Free m.h.nx h'.nx r → ∀ cs, FinB P E r m.h w fr frs cs (bot m.cur m.stk) v h' := by
  intro n
  induction n with
  | zero => intro m v h' hr; cases hr
  | succ n ih =>
    intro m v h' hr r w fr frs hS hf cs
    unfold run at hr
    split at hr
    · rename_i m' hm
      have h1 := step_mono hSm hrg hm
      have h2 := run_mono hSm hrg n hr
      obtain ⟨fr', frs', w', r', hsteps, hS', hst⟩ := step_sound (cs := cs) hE hFn hSm hrg hS hm (hf.sub (Nat.le_refl _) h2)
      have := ih hr hS' (hf.step hst.same h1) cs
      rw [step_bot hm] at this
      exact FinB.head hsteps hst this
    · rename_i hm
      cases hr
      obtain ⟨jump, hj, hl⟩ := done_left hm
      obtain ⟨hstk, hfin⟩ := leave_done hE hFn hS hj hl cs
      have hs := hS.stk
      rw [hstk] at hs ⊢
      cases hs
      unfold FinB
      unfold Fin at hfin
      show match m.cur.ro with | none => _ | some _ => _
      split at hfin
      · rename_i hro
        try rw [hro]
        obtain ⟨fr', x, r', w', h1, h2, h3, h4, h5⟩ := hfin
        exact ⟨fr', x, r', w', h1, h2.trans hS.cur.fn, h3, h4, h5⟩
      · rename_i hro
        try rw [hro]
        exact hfin
    · cases hr
end
end Go.Ev
