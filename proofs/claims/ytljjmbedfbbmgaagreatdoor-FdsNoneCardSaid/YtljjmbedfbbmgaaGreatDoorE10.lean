/- An evaluator of the model's programs over abstract states, and the proof that the machine does what it says (part 10). No statement about the program. -/
import Derived.Test.YtljjmbedfbbmgaaGreatDoorE09
import Derived.Lib.MakeNoZero
import Derived.Lib.Bytealg
import Derived.Lib.Builder
import Derived.Laws.Externs
namespace Go.Ev

theorem sob_congr {α : Type} {o : Option α} {f g : α → SR} (h : ∀ a, f a = g a) : sob o f = sob o g := by cases o <;> simp [sob, h]
noncomputable def wantF : Option (Nat × Bool) → List Oper → T V → Option Bool :=
  @Option.rec (Nat × Bool) (fun _ => List Oper → T V → Option Bool) (fun _ _ => some true) (fun p ops tm => wantA ops tm (some p))
theorem wantF_eq (g : Option (Nat × Bool)) (ops : List Oper) (tm : T V) : wantF g ops tm = wantA ops tm g := by cases g <;> rfl

/-! ### Regions that draw -/
abbrev RA := Env → RC → Nat → List Oper → List Nat → Nat → Oper → RS → Option RS
noncomputable def rP : RA := fun E _ n _ _ _ o s => obF (pTab o.op E s.tm) fun v => obF (putTF n s.tm v o.dst) fun tm => some ⟨tm, s.x, s.pend, s.hist, s.lds, s.last⟩
noncomputable def rL : RA := fun E _ n _ b j o s => obF (lTab o.op E s.tm ⟨s.x.nx, addL b j s.pend s.x.os⟩) fun v => obF (putTF n s.tm v o.dst) fun tm =>
  bifF (okHist E b s.x.nx j s.tm o.op v s.hist) (some ⟨tm, s.x, s.pend, s.hist, ⟨j, s.tm, o.op, v⟩ :: s.lds, s.last⟩)
noncomputable def rA : RA := fun E _ n _ _ j o s => obF (aTab o.op E s.tm s.x.nx) fun r => obF (putTF n s.tm r.1 o.dst) fun tm =>
  some ⟨tm, ⟨Nat.succ s.x.nx, s.x.os⟩, ⟨j, s.x.nx, r.2, []⟩ :: s.pend, s.hist, s.lds, s.last⟩
noncomputable def rI : RA := fun E rc n ops b j o s => stepR E rc n ops b j ⟨o.dst, o.op, o.type, o.pos, o.after, none⟩ s
noncomputable def evalC (E : Env) (rc : RC) (tm : T V) (op : Op) (x : Hp) : Option Go.Call → Option (V × Hp) :=
  @Option.rec Go.Call (fun _ => Option (V × Hp)) (eTab op E tm x) (fun c => obF (callOf tm c) fun t => rc t x)
noncomputable def evalF (E : Env) (rc : RC) (tm : T V) (op : Op) (x : Hp) : Option (V × Hp) := evalC E rc tm op x (callTab op)
theorem evalF_eq (E : Env) (rc : RC) (tm : T V) (op : Op) (x : Hp) : evalF E rc tm op x = evalE E rc tm op x := by
  have key : ∀ o : Op, isCallV o = none → (∀ c, o ≠ .call c) → evalC E rc tm o x (isCallV o) = execE E tm o x := by
    intro o h _; rw [h]; exact eTab_eq o E tm x
  unfold evalF
  rw [callTab_eq]
  cases op with
  | call c =>
    obtain ⟨callee, args, ts⟩ := c
    cases callee with
    | value f => exact obF_eq _ _
    | invoke a b => exact eTab_eq (.call ⟨.invoke a b, args, ts⟩) E tm x
    | builtin b => exact eTab_eq (.call ⟨.builtin b, args, ts⟩) E tm x
  | _ => exact key _ rfl (by intro c e; cases e)
noncomputable def rE : RA := fun E rc n _ b j o s => bifF (okLast b j s.last) (
  obF (evalF E rc s.tm o.op ⟨s.x.nx, addP b j s.pend s.x.os⟩) fun r => obF (putTF n s.tm r.1 o.dst) fun tm =>
  (fun rp => bifF (okLds E b j rp r.2 s.lds) (some ⟨tm, r.2, rp, ⟨j, s.x.os, s.pend⟩ :: s.hist, s.lds, some j⟩)) (restP b j s.pend))
noncomputable def rTab : Cl → RA := @Cl.rec (fun _ => RA) rP rL rA rI rE
noncomputable def rDo : RA := fun E rc n ops b j o s => rTab (clTab o.op E) E rc n ops b j o s
noncomputable def rSkip : RA := fun _ _ n _ _ _ o s => obF (putTF n s.tm undefV o.dst) fun tm => some ⟨tm, s.x, s.pend, s.hist, s.lds, s.last⟩
noncomputable def rSel : Bool → RA := @Bool.rec (fun _ => RA) rSkip rDo
noncomputable def stepRF : RA := fun E rc n ops b j o s => obF (wantF o.guard ops s.tm) fun w => rSel w E rc n ops b j o s
theorem stepRF_eq (E : Env) (rc : RC) (n : Nat) (ops : List Oper) (b : List Nat) (j : Nat) (o : Oper) (s : RS) : stepRF E rc n ops b j o s = stepR E rc n ops b j o s := by
  unfold stepRF stepR
  rw [obF_eq, wantF_eq]
  refine ob_congr fun w => ?_
  cases w with
  | false => show obF _ _ = ob _ _; rw [obF_eq, putTF_eq]
  | true =>
    show rTab (clTab o.op E) E rc n ops b j o s = _
    rw [clTab_eq, cond_true]
    cases hc : clOf E o.op with
    | p => show rP E rc n ops b j o s = _; unfold rP; simp only [obF_eq, pTab_eq, putTF_eq]
    | l => show rL E rc n ops b j o s = _; unfold rL; simp only [obF_eq, lTab_eq, bifF_eq, putTF_eq]
    | a => show rA E rc n ops b j o s = _; unfold rA; simp only [obF_eq, aTab_eq, putTF_eq]
    | i =>
      show stepR E rc n ops b j ⟨o.dst, o.op, o.type, o.pos, o.after, none⟩ s = _
      unfold stepR
      simp only [wantA, ob, cond_true, hc]
    | e =>
      show rE E rc n ops b j o s = _
      unfold rE
      simp only [obF_eq, evalF_eq, bifF_eq, putTF_eq]
noncomputable def goRF (E : Env) (rc : RC) (n : Nat) (ops : List Oper) (b : List Nat) : List Oper → Nat → RS → Option RS :=
  @List.rec Oper (fun _ => Nat → RS → Option RS) (fun _ s => some s) (fun o _ ih j s => obF (stepRF E rc n ops b j o s) (ih (Nat.succ j)))
theorem goRF_eq (E : Env) (rc : RC) (n : Nat) (ops : List Oper) (b : List Nat) : ∀ (l : List Oper) (j : Nat) (s : RS), goRF E rc n ops b l j s = goR E rc n ops b l j s := by
  intro l
  induction l with
  | nil => intro j s; rfl
  | cons o l ih =>
    intro j s
    show obF (stepRF E rc n ops b j o s) (goRF E rc n ops b l (Nat.succ j)) = ob _ _
    rw [obF_eq, stepRF_eq]
    exact ob_congr fun s' => ih _ s'
noncomputable def regionF (E : Env) (rc : RC) (n : Nat) (ops : Array Oper) (tm : T V) (h : Hp) : Option (T V × Hp) :=
  bifF (okTmps ops) (bifF (okEdges ops.toList 0) (obF (goRF E rc n ops.toList (bef ops) ops.toList 0 ⟨tm, h, [], [], [], none⟩) fun s => some (s.tm, ⟨s.x.nx, addAll s.pend s.x.os⟩)))
theorem regionF_eq (E : Env) (rc : RC) (n : Nat) (ops : Array Oper) (tm : T V) (h : Hp) : regionF E rc n ops tm h = region E rc n ops tm h := by
  unfold regionF region
  simp only [bifF_eq, obF_eq, goRF_eq]

/-! ### Steps -/
noncomputable def enterTF (E : Env) (f : Nat) (args : List V) : Option Fr :=
  obF (E.fn f) fun fn => obF fn.body fun c => some ⟨f, len args + (fn.ntmps - len args), fromF args 0 .leaf, [.code c], [], none⟩
theorem enterTF_eq (E : Env) (f : Nat) (args : List V) : enterTF E f args = enter E f args := by
  unfold enterTF enter
  simp only [obF_eq, fromF_eq]
noncomputable def finOps (c : Fr) (v : V) (all : Array Oper) (k : List It) : List Oper → Option Fr :=
  @List.rec Oper (fun _ => Option Fr) (finish c v) (fun o rest _ => obF (putTF c.n c.tm v o.dst) fun tm => some ⟨c.fn, c.n, tm, .ops all rest :: k, c.ds, c.ro⟩)
noncomputable def finIt : It → List It → Fr → V → Option Fr := @It.rec (fun _ => List It → Fr → V → Option Fr) (fun _ _ c v => finish c v) (fun _ _ c v => finish c v) (fun _ _ c v => finish c v) (fun all rest k c v => finOps c v all k rest) (fun _ _ c v => finish c v) (fun _ _ c v => finish c v) (fun _ c v => finish c v)
noncomputable def finT : List It → Fr → V → Option Fr := @List.rec It (fun _ => Fr → V → Option Fr) (fun c v => finish c v) (fun i k _ => finIt i k)
noncomputable def finF (c : Fr) (v : V) : Option Fr := finT c.todo c v
theorem finF_eq (c : Fr) (v : V) : finF c v = finish c v := by
  obtain ⟨fn, n, tm, todo, ds, ro⟩ := c
  cases todo with
  | nil => rfl
  | cons i k =>
    cases i with
    | ops all rest =>
      cases rest with
      | nil => rfl
      | cons o rest =>
        show obF _ _ = ob _ _
        rw [obF_eq, putTF_eq]
    | _ => rfl
noncomputable def callTF (E : Env) (c : Fr) (stk : List Fr) (h : Hp) : Tgt → SR := @Tgt.rec (fun _ => SR)
  (fun f args => @Option.rec (V × Hp) (fun _ => SR) (sobF (enterTF E f args) fun fr => .next ⟨fr, c :: stk, h⟩) (fun r => sobF (finF c r.1) fun c' => .next ⟨c', stk, r.2⟩) (E.sm f args h))
  (fun l args => sobF (roundF l args h) fun fr => .next ⟨fr, c :: stk, h⟩)
theorem callTF_eq (E : Env) (c : Fr) (stk : List Fr) (h : Hp) (t : Tgt) : callTF E c stk h t = callF E c stk h t := by
  cases t with
  | fn f args =>
    show @Option.rec _ _ _ _ (E.sm f args h) = _
    unfold callF
    simp only
    cases E.sm f args h with
    | none => show sobF _ _ = _; rw [sobF_eq, enterTF_eq]
    | some r => show sobF _ _ = _; rw [sobF_eq, finF_eq]
  | yield l args => exact sobF_eq _ _
abbrev SA := List It → Env → RC → Nat → Nat → T V → List Nat → Option Nat → List Fr → Hp → SR
noncomputable def backF (v : V) (h : Hp) : List Fr → SR := @List.rec Fr (fun _ => SR) (.done v h) (fun c stk _ => sobF (finF c v) fun c' => .next ⟨c', stk, h⟩)
theorem backF_eq (v : V) (h : Hp) (l : List Fr) : backF v h l = back v h l := by
  cases l with
  | nil => rfl
  | cons c stk => show sobF _ _ = _; rw [sobF_eq, finF_eq]; rfl
noncomputable def leaveN (E : Env) (fn : Nat) (tm : T V) (ds : List Nat) (stk : List Fr) (h : Hp) : SR :=
  sobF (collect ds h) fun h => sobF (E.fn fn) fun f => sobF (resultsV E f tm h) fun v => backF v h stk
/-- 'ret', or off the end: the arm for a function's frame; for a round's, as ever. -/
noncomputable def leaveF (jump : Option Code) (todo : List It) (E : Env) (fn n : Nat) (tm : T V) (ds : List Nat) (stk : List Fr) (h : Hp) : Option Nat → SR :=
  @Option.rec Nat (fun _ => SR) (leaveN E fn tm ds stk h) (fun l => leave E ⟨⟨fn, n, tm, todo, ds, some l⟩, stk, h⟩ jump)
theorem leaveF_eq (jump : Option Code) (hj : jump = none ∨ jump = some .ret) (todo : List It) (E : Env) (fn n : Nat) (tm : T V) (ds : List Nat) (stk : List Fr) (h : Hp) (ro : Option Nat) :
    leaveF jump todo E fn n tm ds stk h ro = leave E ⟨⟨fn, n, tm, todo, ds, ro⟩, stk, h⟩ jump := by
  cases ro with
  | some l => rfl
  | none =>
    have : leaveN E fn tm ds stk h = leave.ret E ⟨⟨fn, n, tm, todo, ds, none⟩, stk, h⟩ := by
      unfold leaveN leave.ret
      simp only [sobF_eq, backF_eq]
    rcases hj with rfl | rfl
    · exact this
    · exact this
noncomputable def cSkip : SA := fun k _ _ fn n tm ds ro stk h => .next ⟨⟨fn, n, tm, k, ds, ro⟩, stk, h⟩
noncomputable def cRegT (ops : Array Oper) : SA := fun k _ _ fn n tm ds ro stk h => .next ⟨⟨fn, n, tm, .ops ops ops.toList :: k, ds, ro⟩, stk, h⟩
noncomputable def cRegD (ops : Array Oper) : SA := fun k E rc fn n tm ds ro stk h => sobF (regionF E rc n ops tm h) fun r => .next ⟨⟨fn, n, r.1, k, ds, ro⟩, stk, r.2⟩
noncomputable def cReg (_ : Nat) (ops : Array Oper) : Bool → SA := @Bool.rec (fun _ => SA) (cRegT ops) (cRegD ops)
noncomputable def cSeq (a b : Code) : SA := fun k _ _ fn n tm ds ro stk h => .next ⟨⟨fn, n, tm, .code a :: .code b :: k, ds, ro⟩, stk, h⟩
noncomputable def cOne (c : Code) : SA := fun k _ _ fn n tm ds ro stk h => .next ⟨⟨fn, n, tm, .code c :: k, ds, ro⟩, stk, h⟩
noncomputable def cFail : SA := fun _ _ _ _ _ _ _ _ _ _ => .fail
noncomputable def cBool (a b : Code) : Bool → SA := @Bool.rec (fun _ => SA) (cOne b) (cOne a)

noncomputable def cSel : V → Code → Code → SA :=
  @V.rec (fun _ => Code → Code → SA) (fun _ => PUnit) (fun q a b => cBool a b q) (fun _ _ => (fun _ _ => cFail)) (fun _ => (fun _ _ => cFail)) (fun _ _ => cFail) (fun _ _ => (fun _ _ => cFail)) (fun _ _ => cFail) (fun _ _ _ _ => (fun _ _ => cFail)) (fun _ _ => cFail) (fun _ => (fun _ _ => cFail)) (fun _ _ => cFail) (fun _ _ _ _ _ => (fun _ _ => cFail)) (fun _ => (fun _ _ => cFail)) (fun _ _ => cFail) (fun _ _ _ => (fun _ _ => cFail)) (fun _ _ => (fun _ _ => cFail)) (fun _ _ => (fun _ _ => cFail)) (fun _ => (fun _ _ => cFail)) (fun _ => (fun _ _ => cFail)) (fun _ _ => cFail) PUnit.unit (fun _ _ _ _ => PUnit.unit)

noncomputable def cCond (q : Operand) (a b : Code) : SA := fun k E rc fn n tm ds ro stk h => sobF (evoF q tm) fun v => cSel v a b k E rc fn n tm ds ro stk h
noncomputable def cBlock (id : Nat) (a : Code) : SA := fun k _ _ fn n tm ds ro stk h => .next ⟨⟨fn, n, tm, .code a :: .inBlock id :: k, ds, ro⟩, stk, h⟩
noncomputable def cLoop (a : Code) : SA := fun k _ _ fn n tm ds ro stk h => .next ⟨⟨fn, n, tm, .code a :: .inLoop a :: k, ds, ro⟩, stk, h⟩
noncomputable def cRet : SA := fun k E _ fn n tm ds ro stk h => leaveF (some .ret) (.code .ret :: k) E fn n tm ds stk h ro
noncomputable def cOld (c : Code) : SA := fun k E rc fn n tm ds ro stk h => step E rc ⟨⟨fn, n, tm, .code c :: k, ds, ro⟩, stk, h⟩

noncomputable def cTab : Code → SA := @Code.rec (fun _ => SA) cSkip cReg (fun a b _ _ => cSeq a b) (fun q a b _ _ => cCond q a b) (fun id a _ => cBlock id a) (fun a _ => cLoop a) (fun f ps a b _ _ => cOld (.rangeFunc f ps a b)) (fun id => cOld (.exit id)) (fun _ _ => cFail) (fun _ => cFail) (fun _ => cFail) cRet (fun _ => cFail)

theorem cTab_eq (c : Code) (k : List It) (E : Env) (rc : RC) (fn n : Nat) (tm : T V) (ds : List Nat) (ro : Option Nat) (stk : List Fr) (h : Hp) : cTab c k E rc fn n tm ds ro stk h = step E rc ⟨⟨fn, n, tm, .code c :: k, ds, ro⟩, stk, h⟩ := by
  cases c <;> try rfl
  · rename_i id ops draw
    cases draw
    · rfl
    · show sobF _ _ = _
      rw [sobF_eq, regionF_eq]
      rfl
  · show sobF _ _ = _
    rw [sobF_eq, evoF_eq]
    refine sob_congr fun v => ?_
    cases v <;> try rfl
    rename_i b
    cases b <;> rfl
  · exact leaveF_eq _ (.inr rfl) _ _ _ _ _ _ _ _ _
/-- What becomes of an operation's answer. -/
noncomputable def oPut (o : Oper) (rest : List Oper) (all : Array Oper) : SA := fun k E _ fn n tm ds ro stk h =>
  sobF (exoF o.op E tm h) fun r => sobF (putTF n tm r.1 o.dst) fun tm' => .next ⟨⟨fn, n, tm', .ops all rest :: k, ds, ro⟩, stk, r.2⟩
noncomputable def oCall (cl : Go.Call) (o : Oper) (rest : List Oper) (all : Array Oper) : SA := fun k E _ fn n tm ds ro stk h =>
  sobF (callOf tm cl) fun t => callTF E ⟨fn, n, tm, .ops all (o :: rest) :: k, ds, ro⟩ stk h t
noncomputable def oSel : Option Go.Call → Oper → List Oper → Array Oper → SA := @Option.rec Go.Call (fun _ => Oper → List Oper → Array Oper → SA) oPut oCall
noncomputable def oSkip (o : Oper) (rest : List Oper) (all : Array Oper) : SA := fun k _ _ fn n tm ds ro stk h =>
  sobF (putTF n tm undefV o.dst) fun tm' => .next ⟨⟨fn, n, tm', .ops all rest :: k, ds, ro⟩, stk, h⟩
noncomputable def oDo (o : Oper) (rest : List Oper) (all : Array Oper) : SA := oSel (callTab o.op) o rest all
noncomputable def oWant : Bool → Oper → List Oper → Array Oper → SA := @Bool.rec (fun _ => Oper → List Oper → Array Oper → SA) oSkip oDo
noncomputable def oStep (o : Oper) (rest : List Oper) (all : Array Oper) : SA := fun k E rc fn n tm ds ro stk h =>
  sobF (wantF o.guard all.toList tm) fun w => oWant w o rest all k E rc fn n tm ds ro stk h
theorem oStep_eq (o : Oper) (rest : List Oper) (all : Array Oper) (k : List It) (E : Env) (rc : RC) (fn n : Nat) (tm : T V) (ds : List Nat) (ro : Option Nat) (stk : List Fr) (h : Hp) :
    oStep o rest all k E rc fn n tm ds ro stk h = step E rc ⟨⟨fn, n, tm, .ops all (o :: rest) :: k, ds, ro⟩, stk, h⟩ := by
  show _ = stepO E ⟨⟨fn, n, tm, .ops all (o :: rest) :: k, ds, ro⟩, stk, h⟩ all o rest k
  unfold oStep stepO
  rw [sobF_eq, wantF_eq]
  refine sob_congr fun w => ?_
  cases w with
  | false => show sobF _ _ = _; rw [sobF_eq, putTF_eq]; rfl
  | true =>
    show oSel (callTab o.op) o rest all k E rc fn n tm ds ro stk h = _
    rw [callTab_eq, cond_true]
    cases hc : isCallV o.op with
    | some cl => show sobF _ _ = _; rw [sobF_eq]; exact sob_congr fun t => callTF_eq _ _ _ _ _
    | none =>
      show sobF _ _ = _
      rw [sobF_eq, exoF_eq]
      simp only [sobF_eq, putTF_eq]
      rfl
noncomputable def opsNil (_ : Array Oper) : SA := cSkip
noncomputable def opsTab : List Oper → Array Oper → SA := @List.rec Oper (fun _ => Array Oper → SA) opsNil (fun o rest _ all => oStep o rest all)
noncomputable def iLoop (c : Code) : SA := fun k _ _ fn n tm ds ro stk h => .next ⟨⟨fn, n, tm, .code c :: .inLoop c :: k, ds, ro⟩, stk, h⟩
noncomputable def iOld (i : It) : SA := fun k E rc fn n tm ds ro stk h => step E rc ⟨⟨fn, n, tm, i :: k, ds, ro⟩, stk, h⟩
noncomputable def iTab : It → SA := @It.rec (fun _ => SA) cTab (fun _ => cSkip) iLoop (fun all rest => opsTab rest all) (fun _ => cFail) (fun l => iOld (.endRF l)) (iOld .beginRound)
theorem iTab_eq (i : It) (k : List It) (E : Env) (rc : RC) (fn n : Nat) (tm : T V) (ds : List Nat) (ro : Option Nat) (stk : List Fr) (h : Hp) : iTab i k E rc fn n tm ds ro stk h = step E rc ⟨⟨fn, n, tm, i :: k, ds, ro⟩, stk, h⟩ := by
  cases i with
  | code c => exact cTab_eq c k E rc fn n tm ds ro stk h
  | ops all rest =>
    cases rest with
    | nil => rfl
    | cons o rest => exact oStep_eq o rest all k E rc fn n tm ds ro stk h
  | _ => rfl
noncomputable def sNil : Env → RC → Nat → Nat → T V → List Nat → Option Nat → List Fr → Hp → SR := fun E _ fn n tm ds ro stk h => leaveF none [] E fn n tm ds stk h ro
noncomputable def sTab : List It → Env → RC → Nat → Nat → T V → List Nat → Option Nat → List Fr → Hp → SR :=
  @List.rec It (fun _ => Env → RC → Nat → Nat → T V → List Nat → Option Nat → List Fr → Hp → SR) sNil (fun i k _ => iTab i k)
noncomputable def sFr : Fr → Env → RC → List Fr → Hp → SR := @Fr.rec (fun _ => Env → RC → List Fr → Hp → SR) (fun fn n tm todo ds ro E rc stk h => sTab todo E rc fn n tm ds ro stk h)
noncomputable def stepF (E : Env) (rc : RC) : M → SR := @M.rec (fun _ => SR) (fun cur stk h => sFr cur E rc stk h)
theorem stepF_eq (E : Env) (rc : RC) (m : M) : stepF E rc m = step E rc m := by
  obtain ⟨⟨fn, n, tm, todo, ds, ro⟩, stk, h⟩ := m
  cases todo with
  | nil => exact leaveF_eq _ (.inl rfl) _ _ _ _ _ _ _ _ _
  | cons i k => exact iTab_eq i k E rc fn n tm ds ro stk h
noncomputable def rNext : SR → (M → Option (V × Hp)) → Option (V × Hp) := @SR.rec (fun _ => (M → Option (V × Hp)) → Option (V × Hp)) (fun m ih => ih m) (fun v h _ => some (v, h)) (fun _ => none)
noncomputable def runF (E : Env) (rc : RC) : Nat → M → Option (V × Hp) := @Nat.rec (fun _ => M → Option (V × Hp)) (fun _ => none) (fun _ ih m => rNext (stepF E rc m) ih)
theorem runF_eq (E : Env) (rc : RC) : ∀ (k : Nat) (m : M), runF E rc k m = run E rc k m := by
  intro k
  induction k with
  | zero => intro m; rfl
  | succ k ih =>
    intro m
    show rNext (stepF E rc m) (runF E rc k) = run E rc (k + 1) m
    unfold run
    rw [stepF_eq]
    cases step E rc m with
    | next m' => exact ih m'
    | done v h => rfl
    | fail => rfl
noncomputable def tgTab (E : Env) (N : Nat) (rc : RC) : Tgt → Hp → Option (V × Hp) := @Tgt.rec (fun _ => Hp → Option (V × Hp))
  (fun f args h => @Option.rec (V × Hp) (fun _ => Option (V × Hp)) (obF (enterTF E f args) fun fr => runF E rc N ⟨fr, [], h⟩) (fun r => some r) (E.sm f args h))
  (fun l args h => obF (roundF l args h) fun fr => runF E rc N ⟨fr, [], h⟩)
noncomputable def rcallF (E : Env) (N : Nat) : Nat → RC := @Nat.rec (fun _ => RC) (fun _ _ => none) (fun _ ih => tgTab E N ih)
theorem rcallF_eq (E : Env) (N : Nat) : ∀ d, rcallF E N d = rcall E N d := by
  intro d
  induction d with
  | zero => rfl
  | succ d ih =>
    funext t h
    show tgTab E N (rcallF E N d) t h = _
    rw [ih]
    cases t with
    | fn f args =>
      have e : rcall E N (d + 1) (.fn f args) h = (match E.sm f args h with
        | some r => some r
        | none => ob (enter E f args) fun fr => run E (rcall E N d) N ⟨fr, [], h⟩) := rfl
      rw [e]
      show @Option.rec _ _ _ _ (E.sm f args h) = _
      cases E.sm f args h with
      | some r => rfl
      | none => show obF _ _ = ob _ _; rw [obF_eq, enterTF_eq]; exact ob_congr fun fr => runF_eq _ _ _ _
    | yield l args =>
      have e : rcall E N (d + 1) (.yield l args) h = ob (roundF l args h) fun fr => run E (rcall E N d) N ⟨fr, [], h⟩ := rfl
      rw [e]
      show obF _ _ = _
      rw [obF_eq]
      exact ob_congr fun fr => runF_eq _ _ _ _
/-- The whole: by tables it is what it is. -/
theorem run_of_F {E : Env} {N d k : Nat} {m : M} {r : Option (V × Hp)} (h : runF E (rcallF E N d) k m = r) : run E (rcall E N d) k m = r := by
  rw [← rcallF_eq, ← runF_eq]; exact h
end Go.Ev
namespace Go.Ev

/-- A frame, a state, as lists. -/
structure FL where
  fn : Nat
  n : Nat
  tm : List (Nat × V)
  todo : List It
  ds : List Nat
  ro : Option Nat
structure ML where
  cur : FL
  stk : List FL
  nx : Nat
  os : List (Nat × O)
def tieL {α : Type} : List (Nat × α) → T α
  | [] => .leaf
  | (k, v) :: l => T.set (tieL l) k (some v)
def FL.fr (f : FL) : Fr := ⟨f.fn, f.n, tieL f.tm, f.todo, f.ds, f.ro⟩
def frsL : List FL → List Fr
  | [] => []
  | f :: l => f.fr :: frsL l
def ML.m (a : ML) : M := ⟨a.cur.fr, frsL a.stk, ⟨a.nx, tieL a.os⟩⟩

def meEq (a b : Me) : Bool := Nat.beq a.i b.i && veq a.k b.k && veq a.v b.v
def mesEq : List Me → List Me → Bool
  | [], [] => true
  | a :: l, b :: m => bif meEq a b then mesEq l m else false
  | _, _ => false
def boolEq : Bool → Bool → Bool
  | true, true => true
  | false, false => true
  | _, _ => false
def onEq : Option Nat → Option Nat → Bool
  | none, none => true
  | some a, some b => Nat.beq a b
  | _, _ => false
/-- v says no more than u. -/
def vle (u v : V) : Bool := match v with
  | .unk => u.one
  | v => veq u v
def vles : List V → List V → Bool
  | [], [] => true
  | u :: l, v :: m => bif vle u v then vles l m else false
  | _, _ => false
def oEq : O → O → Bool
  | .cells a t f, .cells b u g => bif Nat.beq t u then bif boolEq f g then vles a b else false else false
  | .map a, .map b => mesEq a b
  | .miter a b c, .miter d e f => onEq a d && onEq b e && Nat.beq c f
  | .siter a b, .siter c d => strEq a c && Nat.beq b d
  | _, _ => false
def nsEq : List Nat → List Nat → Bool
  | [], [] => true
  | a :: l, b :: m => bif Nat.beq a b then nsEq l m else false
  | _, _ => false
def leTm : List (Nat × V) → T V → Bool
  | [], _ => true
  | (k, v) :: l, t => bif (match T.get t k with | some u => vle u v | none => false) then leTm l t else false
def leOs : List (Nat × O) → T O → Bool
  | [], _ => true
  | (k, v) :: l, t => bif (match T.get t k with | some u => oEq u v | none => false) then leOs l t else false
def leFr (a : FL) (b : Fr) : Bool := bif Nat.beq b.fn a.fn then bif Nat.beq b.n a.n then bif nsEq b.ds a.ds then bif onEq b.ro a.ro then leTm a.tm b.tm else false else false else false else false
def leFrs : List FL → List Fr → Bool
  | [], [] => true
  | a :: l, b :: m => bif leFr a b then leFrs l m else false
  | _, _ => false
def leM (a : ML) (b : M) : Bool := bif Nat.ble (Nat.succ b.h.nx) a.nx then bif leFr a.cur b.cur then bif leFrs a.stk b.stk then leOs a.os b.h.os else false else false else false
def tds : List Fr → List (List It)
  | [] => []
  | f :: l => f.todo :: tds l
def tdsL : List FL → List (List It)
  | [] => []
  | f :: l => f.todo :: tdsL l

/-! ### Parts of a function's text, by the way to them -/
def bodyC (f : Func) : Code := match f.body with | some c => c | none => .skip
def cAt : Code → List Nat → Code
  | c, [] => c
  | .seq a b, i :: p => match i with | 0 => cAt a p | _ + 1 => cAt b p
  | .cond _ a b, i :: p => match i with | 0 => cAt a p | _ + 1 => cAt b p
  | .block _ a, _ :: p => cAt a p
  | .loop a, _ :: p => cAt a p
  | .scope a, _ :: p => cAt a p
  | .rangeFunc _ _ a b, i :: p => match i with | 0 => cAt a p | _ + 1 => cAt b p
  | c, _ :: _ => c
def opsAt (c : Code) (p : List Nat) : Array Oper := match cAt c p with | .region _ ops _ => ops | _ => #[]
def skipL {α : Type} : Nat → List α → List α
  | 0, l => l
  | _ + 1, [] => []
  | n + 1, _ :: l => skipL n l

theorem boolEq_eq {a b : Bool} (h : boolEq a b = true) : a = b := by cases a <;> cases b <;> first | rfl | cases h
theorem onEq_eq {a b : Option Nat} (h : onEq a b = true) : a = b := by
  cases a <;> cases b <;> first | rfl | (cases h; done) | rw [Nat.eq_of_beq_eq_true h]
theorem nsEq_eq : ∀ {a b : List Nat}, nsEq a b = true → a = b := by
  intro a
  induction a with
  | nil => intro b h; cases b <;> first | rfl | cases h
  | cons x a ih =>
    intro b h
    cases b with
    | nil => cases h
    | cons y b =>
      simp only [nsEq] at h
      cases hb : Nat.beq x y with
      | false => rw [hb] at h; cases h
      | true => rw [hb] at h; rw [Nat.eq_of_beq_eq_true hb, ih h]
theorem meEq_eq {a b : Me} (h : meEq a b = true) : a = b := by
  simp only [meEq, Bool.and_eq_true] at h
  obtain ⟨⟨h1, h2⟩, h3⟩ := h
  cases a; cases b
  simp only at h1 h2 h3
  rw [Nat.eq_of_beq_eq_true h1, veq_eq _ _ h2, veq_eq _ _ h3]
theorem mesEq_eq : ∀ {a b : List Me}, mesEq a b = true → a = b := by
  intro a
  induction a with
  | nil => intro b h; cases b <;> first | rfl | cases h
  | cons x a ih =>
    intro b h
    cases b with
    | nil => cases h
    | cons y b =>
      simp only [mesEq] at h
      cases hb : meEq x y with
      | false => rw [hb] at h; cases h
      | true => rw [hb] at h; rw [meEq_eq hb, ih h]
theorem bifT {c x : Bool} (h : (bif c then x else false) = true) : c = true ∧ x = true := by cases c <;> first | (cases h; done) | exact ⟨rfl, h⟩
theorem vle_VR {r : Rho} {u v : V} {x : Value} (h : vle u v = true) (hx : VR r u x) : VR r v x := by
  unfold vle at h
  split at h
  · exact hx.one h
  · rw [← veq_eq _ _ h]; exact hx
theorem vles_get : ∀ {l m : List V}, vles l m = true → l.length = m.length ∧ ∀ (i : Nat) (v : V), m[i]? = some v → ∃ u, l[i]? = some u ∧ vle u v = true := by
  intro l
  induction l with
  | nil => intro m h; cases m with
    | nil => exact ⟨rfl, fun i v h => by simp at h⟩
    | cons => cases h
  | cons a l ih =>
    intro m h
    cases m with
    | nil => cases h
    | cons b m =>
      simp only [vles] at h
      obtain ⟨h1, h2⟩ := bifT h
      obtain ⟨h3, h4⟩ := ih h2
      refine ⟨by simp [h3], fun i v hv => ?_⟩
      cases i with
      | zero => simp at hv; subst hv; exact ⟨a, by simp, h1⟩
      | succ i => simpa using h4 i v (by simpa using hv)
theorem oEq_OR {P : Program} {r : Rho} {q : RB} {w : World} {nx : Nat} {o' o : O} {ob : Obj} (h : oEq o' o = true) (hr : OR P r q w nx o' ob) : OR P r q w nx o ob := by
  cases o' <;> cases o <;> simp only [oEq, Bool.and_eq_true] at h <;> first | (cases h; done) | skip
  · obtain ⟨h1, h⟩ := bifT h
    obtain ⟨h2, h⟩ := bifT h
    rw [← Nat.eq_of_beq_eq_true h1, ← boolEq_eq h2]
    obtain ⟨c, lo, hi, he, hc⟩ := hr
    obtain ⟨h3, h4⟩ := vles_get h
    refine ⟨c, lo, hi, he, hc.size, by rw [← h3]; exact hc.win, fun i v hv => ?_, hc.melt, hc.al⟩
    obtain ⟨u, hu, hl⟩ := h4 i v hv
    obtain ⟨x, hx, hvr⟩ := hc.get i u hu
    exact ⟨x, hx, vle_VR hl hvr⟩
  · rw [← mesEq_eq h]; exact hr
  · obtain ⟨⟨h1, h2⟩, h3⟩ := h
    rw [← onEq_eq h1, ← onEq_eq h2, ← Nat.eq_of_beq_eq_true h3]; exact hr
  · rw [← strEq_of h.1, ← Nat.eq_of_beq_eq_true h.2]; exact hr
theorem oEq_iter {o' : O} {m k : Nat} {s : Option Nat} (h : oEq o' (.miter (some m) s k) = true) : o' = .miter (some m) s k := by
  cases o' <;> simp only [oEq, Bool.and_eq_true] at h <;> first | (cases h; done) | skip
  obtain ⟨⟨h1, h2⟩, h3⟩ := h
  rw [onEq_eq h1, onEq_eq h2, Nat.eq_of_beq_eq_true h3]
theorem leTm_get : ∀ {l : List (Nat × V)} {t : T V}, leTm l t = true → ∀ k v, (tieL l).get k = some v → ∃ u, t.get k = some u ∧ vle u v = true := by
  intro l
  induction l with
  | nil => intro t _ k v h; rw [tieL, leaf_get] at h; cases h
  | cons p l ih =>
    obtain ⟨j, u⟩ := p
    intro t h k v hk
    simp only [leTm] at h
    obtain ⟨h1, h2⟩ := bifT h
    simp only [tieL] at hk
    rw [T.get_set] at hk
    by_cases e : k = j
    · subst e
      rw [if_pos rfl] at hk
      cases hk
      split at h1
      · rename_i u hu; exact ⟨u, hu, h1⟩
      · cases h1
    · rw [if_neg e] at hk; exact ih h2 k v hk
theorem leOs_get : ∀ {l : List (Nat × O)} {t : T O}, leOs l t = true → ∀ k v, (tieL l).get k = some v → ∃ u, t.get k = some u ∧ oEq u v = true := by
  intro l
  induction l with
  | nil => intro t _ k v h; rw [tieL, leaf_get] at h; cases h
  | cons p l ih =>
    obtain ⟨j, u⟩ := p
    intro t h k v hk
    simp only [leOs] at h
    obtain ⟨h1, h2⟩ := bifT h
    simp only [tieL] at hk
    rw [T.get_set] at hk
    by_cases e : k = j
    · subst e
      rw [if_pos rfl] at hk
      cases hk
      split at h1
      · rename_i u hu; exact ⟨u, hu, h1⟩
      · cases h1
    · rw [if_neg e] at hk; exact ih h2 k v hk

section
variable {P : Program} {E : Env} {rc : RC} {r r' : Rho} {w w' : World}

/-- Blocks forgotten, numbers passed over. -/
theorem Rel.drop {h h2 : Hp} (hR : Rel P E r h w) (hs : ∀ b o, h2.get b = some o → ∃ u, h.get b = some u ∧ oEq u o = true) (hn : h.nx < h2.nx) : Rel P E r h2 w := by
  refine ⟨?_, ?_, ?_, ?_⟩
  · intro b o hb
    obtain ⟨u, hu, hl⟩ := hs b o hb
    obtain ⟨q, ob, h1, h2', h3⟩ := hR.os b u hu
    exact ⟨q, ob, h1, h2', oEq_OR hl (h3.ext (Le.refl r) (Nat.le_of_lt hn) (fun e => absurd e (Nat.ne_of_lt hn)))⟩
  · intro b b' o o' q q' h1 h2'
    obtain ⟨u, hu, _⟩ := hs b o h1
    obtain ⟨u', hu', _⟩ := hs b' o' h2'
    exact hR.inj b b' u u' q q' hu hu'
  · intro g hg
    refine ⟨(hR.gl g hg).1, fun b o q hb => ?_⟩
    obtain ⟨u, hu, _⟩ := hs b o hb
    exact (hR.gl g hg).2 b u q hu
  · intro b m s k hb hk
    obtain ⟨u, hu, hl⟩ := hs b _ hb
    rw [oEq_iter hl] at hu
    obtain ⟨q, ob, h1, h2', h3⟩ := hR.os b _ hu
    have := h3.iter_le
    omega
theorem Stp.drop {h h' h2 : Hp} (a : Stp P E r h w r' h' w') (hs : ∀ b o, h2.get b = some o → ∃ u, h'.get b = some u ∧ oEq u o = true) (hn : h'.nx < h2.nx) : Stp P E r h w r' h2 w' :=
  ⟨a.rel.drop hs hn, Nat.le_trans a.nx (Nat.le_of_lt hn), a.same.widen (Nat.le_refl _) (Nat.le_of_lt hn), a.size, a.keep, fun k hk ho b o q hb => by
    obtain ⟨u, hu, _⟩ := hs b o hb
    exact a.img k hk ho b u q hu, a.os, a.out⟩

theorem FrR.cut {f : FL} {g : Fr} {fr : Frame} (h : FrR r g fr) (hl : leFr f g = true) (ht : g.todo = f.todo) : FrR r f.fr fr := by
  unfold leFr at hl
  obtain ⟨h1, hl⟩ := bifT hl
  obtain ⟨h2, hl⟩ := bifT hl
  obtain ⟨h3, hl⟩ := bifT hl
  obtain ⟨h4, hl⟩ := bifT hl
  have e1 := Nat.eq_of_beq_eq_true h1
  have e2 := Nat.eq_of_beq_eq_true h2
  have e3 := nsEq_eq h3
  have e4 := onEq_eq h4
  refine ⟨h.fn.trans e1, h.mode, h.kind, ⟨h.tmps.size.trans e2, fun t v hv => by obtain ⟨u, hu, hle⟩ := leTm_get hl t v hv; exact vle_VR hle (h.tmps.get t u hu)⟩, ?_, ?_, ?_⟩
  · have := h.todo; rw [ht] at this; exact this
  · have := h.defers; rw [e3] at this; exact this
  · have := h.ro; rw [e4] at this; exact this
theorem FrsR.cut : ∀ {l : List FL} {m : List Fr} {frs : List Frame}, F2 (FrR r) m frs → leFrs l m = true → tds m = tdsL l → F2 (FrR r) (frsL l) frs := by
  intro l
  induction l with
  | nil =>
    intro m frs h hl _
    cases m with
    | nil => exact h
    | cons => cases hl
  | cons f l ih =>
    intro m frs h hl ht
    cases m with
    | nil => cases hl
    | cons g m =>
      simp only [leFrs] at hl
      obtain ⟨h1, h2⟩ := bifT hl
      simp only [tds, tdsL, List.cons.injEq] at ht
      cases h with
      | cons h3 h4 => exact .cons (h3.cut h1 ht.1) (ih h4 h2 ht.2)
theorem bot_cut : ∀ {l : List FL} {m : List Fr} {f : FL} {g : Fr}, leFr f g = true → leFrs l m = true → bot f.fr (frsL l) = bot g m := by
  intro l
  induction l with
  | nil =>
    intro m f g hl h
    cases m with
    | nil =>
      unfold leFr at hl
      obtain ⟨h1, hl⟩ := bifT hl
      obtain ⟨h2, hl⟩ := bifT hl
      obtain ⟨h3, hl⟩ := bifT hl
      obtain ⟨h4, hl⟩ := bifT hl
      show (f.fn, f.ro) = (g.fn, g.ro)
      rw [Nat.eq_of_beq_eq_true h1, onEq_eq h4]
    | cons => cases h
  | cons f2 l ih =>
    intro m f g _ h
    cases m with
    | nil => cases h
    | cons g2 m =>
      simp only [leFrs] at h
      obtain ⟨h1, h2⟩ := bifT h
      show bot f2.fr (frsL l) = bot g2 m
      exact ih h1 h2

/-- So many steps. -/
noncomputable def rNextM : SR → (M → SR) → SR := @SR.rec (fun _ => (M → SR) → SR) (fun m' ih => ih m') (fun v h _ => .done v h) (fun _ => .fail)
noncomputable def stepsF (E : Env) (rc : RC) : Nat → M → SR := @Nat.rec (fun _ => M → SR) (fun m => .next m) (fun _ ih m => rNextM (stepF E rc m) ih)
theorem steps_sound (hE : TisOk P E) (hFn : FnsOk P E) (hSm : SmOk P E) (hrg : RegOk P E rc) : ∀ (k : Nat) {m m' : M}, stepsF E rc k m = .next m' → m.h.nx ≤ m'.h.nx ∧ bot m'.cur m'.stk = bot m.cur m.stk ∧
    ∀ {r : Rho} {w : World} {fr : Frame} {frs : List Frame}, StR P E r m fr frs w → Free m.h.nx m'.h.nx r → ∀ cs, Nxt P E r m.h w fr frs cs m' := by
  intro k
  induction k with
  | zero =>
    intro m m' h
    cases h
    exact ⟨Nat.le_refl _, rfl, fun hS _ cs => ⟨_, _, _, _, Steps.refl _ _, hS, Stp.refl hS.rel⟩⟩
  | succ k ih =>
    intro m m' h
    have h : rNextM (stepF E rc m) (stepsF E rc k) = .next m' := h
    rw [stepF_eq] at h
    cases hm : step E rc m with
    | done v h' => rw [hm] at h; cases h
    | fail => rw [hm] at h; cases h
    | next m1 =>
      rw [hm] at h
      obtain ⟨h1, h2, h3⟩ := ih h
      have h4 := step_mono hSm hrg hm
      refine ⟨Nat.le_trans h4 h1, h2.trans (step_bot hm), fun hS hf cs => ?_⟩
      obtain ⟨fr', frs', w', r', hsteps, hS', hst⟩ := step_sound (cs := cs) hE hFn hSm hrg hS hm (hf.sub (Nat.le_refl _) h1)
      obtain ⟨fr2, frs2, w2, r2, hsteps2, hS2, hst2⟩ := h3 hS' (hf.step hst.same h4) cs
      exact ⟨fr2, frs2, w2, r2, hsteps.trans hsteps2, hS2, hst.trans hst2⟩

/-- The state m ends so. -/
def Ends (P : Program) (E : Env) (m : M) (v : V) (h' : Hp) : Prop :=
  m.h.nx ≤ h'.nx ∧ ∀ {r : Rho} {w : World} {fr : Frame} {frs : List Frame}, StR P E r m fr frs w → Free m.h.nx h'.nx r → ∀ cs, FinB P E r m.h w fr frs cs (bot m.cur m.stk) v h'
theorem Ends.of_run (hE : TisOk P E) (hFn : FnsOk P E) (hSm : SmOk P E) (hrg : RegOk P E rc) {k : Nat} {m : M} {v : V} {h' : Hp} (hr : runF E rc k m = some (v, h')) : Ends P E m v h' := by
  rw [runF_eq] at hr
  exact ⟨run_mono hSm hrg k hr, fun hS hf cs => run_sound hE hFn hSm hrg k hr hS hf cs⟩
/-- A piece: k steps from the state m to one of which a says no more than is so. -/
noncomputable def cutS (a : ML) : SR → Bool × List (List It) := @SR.rec (fun _ => Bool × List (List It)) (fun m => (leM a m, m.cur.todo :: tds m.stk)) (fun _ _ => (false, [])) (false, [])
noncomputable def piece (E : Env) (rc : RC) (k : Nat) (m : M) (a : ML) : Bool × List (List It) := cutS a (stepsF E rc k m)
theorem Ends.of_piece (hE : TisOk P E) (hFn : FnsOk P E) (hSm : SmOk P E) (hrg : RegOk P E rc) {k : Nat} {m : M} {a : ML} {v : V} {h' : Hp} (hp : piece E rc k m a = (true, a.cur.todo :: tdsL a.stk)) (he : Ends P E a.m v h') : Ends P E m v h' := by
  unfold piece at hp
  cases hs : stepsF E rc k m with
  | done v h => rw [hs] at hp; cases hp
  | fail => rw [hs] at hp; cases hp
  | next m1 =>
    rw [hs] at hp
    have hp : (leM a m1, m1.cur.todo :: tds m1.stk) = (true, a.cur.todo :: tdsL a.stk) := hp
    simp only [Prod.mk.injEq, List.cons.injEq] at hp
    obtain ⟨hl, ht1, ht2⟩ := hp
    unfold leM at hl
    obtain ⟨l1, hl⟩ := bifT hl
    obtain ⟨l2, hl⟩ := bifT hl
    obtain ⟨l3, l4⟩ := bifT hl
    have hn : m1.h.nx < a.nx := Nat.le_of_ble_eq_true l1
    obtain ⟨h1, h2, h3⟩ := steps_sound hE hFn hSm hrg k hs
    obtain ⟨e1, e2⟩ := he
    have hn2 : a.nx ≤ h'.nx := e1
    refine ⟨by omega, fun {r w fr frs} hS hf cs => ?_⟩
    obtain ⟨fr1, frs1, w1, r1, hsteps, hS1, hst⟩ := h3 hS (hf.sub (Nat.le_refl _) (by omega)) cs
    have hsub : ∀ b o, (Hp.mk a.nx (tieL a.os)).get b = some o → ∃ u, m1.h.get b = some u ∧ oEq u o = true := fun b o hb => leOs_get l4 b o hb
    have hst2 := hst.drop hsub hn
    have hS2 : StR P E r1 a.m fr1 frs1 w1 := ⟨hst2.rel, hS1.cur.cut l2 ht1, FrsR.cut hS1.stk l3 ht2⟩
    have := e2 hS2 (hf.step hst2.same (by show m.h.nx ≤ a.nx; omega)) cs
    rw [← h2, ← bot_cut l2 l3]
    exact FinB.head hsteps hst2 this
end
end Go.Ev
namespace Go.Ev

def findB (c : Nat) : List Nat → Nat → Option Nat
  | [], _ => none
  | x :: l, i => bif Nat.beq x c then some i else findB c l (Nat.succ i)
def cmpN : List Nat → List Nat → Int
  | [], [] => 0
  | [], _ :: _ => -1
  | _ :: _, [] => 1
  | a :: x, b :: y => bif Nat.ble (Nat.succ a) b then -1 else bif Nat.ble (Nat.succ b) a then 1 else cmpN x y
/-- Of IndexByteString, NoEscape, MakeNoZero and cmpstring, by their numbers; 'el' is the type of a byte. -/
def smX (a b m c el : Nat) (f : Nat) (args : List V) (h : Hp) : Option (V × Hp) :=
  bif Nat.beq f a then (match args with
    | [.str s, .int .u8 (.ofNat k)] => bif Nat.ble k 255 then some (.int .i64 (match findB k s 0 with | some i => .ofNat i | none => -1), h) else none
    | _ => none) else
  bif Nat.beq f b then (match args with
    | [x] => some (x, h)
    | _ => none) else
  bif Nat.beq f m then (match args with
    | [.int .i64 (.ofNat n)] => bif Nat.ble n 281474976710656 then some (.slice h.nx 0 n (.un 1 n), h.new (.cells (repl n [.unk]) el false)) else none
    | _ => none) else
  bif Nat.beq f c then (match args with
    | [.str x, .str y] => some (.int .i64 (cmpN x y), h)
    | _ => none) else none

theorem findB_eq (c : Nat) (hc : c ≤ 255) : ∀ (l : List UInt8) (i : Nat), findB c (l.map UInt8.toNat) i = if Lib.indexByte l c.toUInt8 = -1 then none else some (i + (Lib.indexByte l c.toUInt8).toNat) := by
  intro l
  induction l with
  | nil => intro i; rfl
  | cons b l ih =>
    intro i
    have hcc : (c.toUInt8).toNat = c := by simp; omega
    have hge := Lib.indexByte_ge l c.toUInt8
    simp only [List.map_cons, findB]
    by_cases e : b = c.toUInt8
    · subst e
      have h0 : Lib.indexByte (c.toUInt8 :: l) c.toUInt8 = 0 := by simp [Lib.indexByte]
      rw [hcc, h0]
      simp
    · have h2 : Nat.beq b.toNat c = false := by
        cases h : Nat.beq b.toNat c with
        | false => rfl
        | true =>
          have := Nat.eq_of_beq_eq_true h
          exact absurd (UInt8.toNat_inj.1 (by rw [hcc]; exact this)) e
      rw [h2, cond_false, ih]
      by_cases h3 : Lib.indexByte l c.toUInt8 = -1
      · have h0 : Lib.indexByte (b :: l) c.toUInt8 = -1 := by simp [Lib.indexByte, e, h3]
        rw [h0, h3]
        rfl
      · have h0 : Lib.indexByte (b :: l) c.toUInt8 = Lib.indexByte l c.toUInt8 + 1 := by simp [Lib.indexByte, e, h3]
        rw [h0]
        have h5 : ¬ (Lib.indexByte l c.toUInt8 + 1 = -1) := by omega
        rw [if_neg h3, if_neg h5]
        congr 1
        show i + 1 + _ = _
        omega
theorem cmpN_eq : ∀ (x y : List UInt8), cmpN (x.map UInt8.toNat) (y.map UInt8.toNat) = Lib.compareBytes x y := by
  intro x
  induction x with
  | nil => intro y; cases y <;> rfl
  | cons a x ih =>
    intro y
    cases y with
    | nil => rfl
    | cons b y =>
      have e1 : Nat.ble (Nat.succ a.toNat) b.toNat = decide (a < b) := by
        rw [Bool.eq_iff_iff, decide_eq_true_iff, UInt8.lt_iff_toNat_lt]
        exact ⟨fun h => Nat.le_of_ble_eq_true h, fun h => Nat.ble_eq_true_of_le h⟩
      have e2 : Nat.ble (Nat.succ b.toNat) a.toNat = decide (b < a) := by
        rw [Bool.eq_iff_iff, decide_eq_true_iff, UInt8.lt_iff_toNat_lt]
        exact ⟨fun h => Nat.le_of_ble_eq_true h, fun h => Nat.ble_eq_true_of_le h⟩
      simp only [List.map_cons, cmpN, Lib.compareBytes, e1, e2, ih]
      by_cases h1 : a < b
      · simp [h1]
      · by_cases h2 : b < a
        · simp [h1, h2]
        · simp [h1, h2]

/-- Function f has no Go text; its entry is e. -/
structure ExtAt (P : Program) (f : Nat) (e : Array Value → Sem Value) : Prop where
  out : ∃ fn, P.funcs[f]? = some fn ∧ (fn.name == "runtime.NumGoroutine") = false ∧ fn.body.isNone = true ∧ Extern.findNext fn = none ∧ Extern.find fn = some e
section
variable {P : Program} {E : Env} {r : Rho} {h : Hp} {w : World}
theorem ExtAt.run {f : Nat} {e : Array Value → Sem Value} (he : ExtAt P f e) (args : Array Value) (w : World) : (callFunc f args).run P w = ((e args).run P w).andThen fun v w' => .ok (.value v) w' := by
  obtain ⟨fn, h1, h2, h3, h4, h5⟩ := he.out
  exact run_callFunc_extern h1 h2 h3 h4 h5 args w
theorem ExtAt.quiet {f : Nat} {e : Array Value → Sem Value} (he : ExtAt P f e) (hR : Rel P E r h w) {ys : Array Value} {x : Value} (hx : (e ys).run P w = .ok x w) {v : V} (hv : VR r v x) : Direct P E r h w f ys v h :=
  ⟨x, r, w, by rw [he.run, hx]; rfl, hv, Stp.refl hR⟩

theorem digits_one : ∀ (n t : Nat) (acc : Array Value), (∀ x ∈ acc.toList, x.oneCell' = true) → ∀ x ∈ (Extern.BytealgMakeNoZero.digits n t acc).toList, x.oneCell' = true := by
  intro n
  induction n with
  | zero => intro t acc h; exact h
  | succ n ih =>
    intro t acc h
    rw [Extern.BytealgMakeNoZero.digits]
    apply ih
    intro x hx
    simp only [Array.toList_push, List.mem_append, List.mem_singleton] at hx
    rcases hx with hx | rfl
    · exact h x hx
    · rfl
theorem run_make0 (ps : Array TypeId) (t e : TypeId) (ht : P.underlying t = some (.slice e)) (n : Nat) (hn : n ≤ 281474976710656) :
    ∃ cs : Array Value, (Extern.BytealgMakeNoZero.makeNoZero ps #[t] #[.int .i64 n]).run P w = .ok (.slice (some ⟨w.heap.size, 0, none⟩) n cs.size) (w.drew.drew.alloc (.cells cs e)) ∧ n ≤ cs.size ∧ ∀ x ∈ cs.toList, x.oneCell' = true := by
  have hdef : Extern.BytealgMakeNoZero.makeNoZero ps #[t] #[.int .i64 n] =
      (do
        let .slice elem ← underlying t | stuck "bytealg.MakeNoZero: slice type expected"
        if (n : Int) < 0 || (n : Int) > 2 ^ 48 then runtimePanic (.error "makeslice: len out of range")
        let cap ← choose (.appendCap (n : Int).toNat 0 elem)
        askRoom cap
        let bytes ← choose (.extern "internal/bytealg.MakeNoZero.bytes" 0)
        let a ← newRow elem (Extern.BytealgMakeNoZero.digits cap bytes #[])
        pure (.slice (some a) (n : Int).toNat cap)) := rfl
  refine ⟨Extern.BytealgMakeNoZero.digits (grownCap w n 0 e) ((Question.extern "internal/bytealg.MakeNoZero.bytes" 0).cut (w.tape (w.drawn + 1) (.extern "internal/bytealg.MakeNoZero.bytes" 0))) #[], ?_, ?_, ?_⟩
  · rw [hdef]
    have h1 : ¬ (n : Int) < 0 := by omega
    have h2 : ¬ (281474976710656 : Int) < (n : Int) := by omega
    simp [run_underlying ht, h1, h2, Question.forced, newRow, Lib.size_digits, grownCap]
  · rw [Lib.size_digits]
    simpa using grownCap_ge w n 0 e
  · exact digits_one _ _ _ (by simp)
theorem repl_unk (n : Nat) : ∀ i v, (repl n [V.unk])[i]? = some v → i < n ∧ v = .unk := by
  induction n with
  | zero => intro i v h; simp [repl] at h
  | succ n ih =>
    intro i v h
    simp only [repl] at h
    rw [app_eq] at h
    cases i with
    | zero => simp at h; exact ⟨by omega, h.symm⟩
    | succ i =>
      have := ih i v (by simpa using h)
      exact ⟨by omega, this.2⟩

/-- The entries' summaries are so. -/
theorem smX_ok {a b m c el t : Nat} {ps : Array TypeId} (ha : ExtAt P a Extern.BytealgIndexByte.indexByte) (hb : ExtAt P b Extern.AbiNoEscape.same) (hm : ExtAt P m (Extern.BytealgMakeNoZero.makeNoZero ps #[t])) (hc : ExtAt P c Extern.BytealgCompare.compare)
    (ht : P.underlying t = some (.slice el)) {f : Nat} {args : List V} {h : Hp} {v : V} {h' : Hp} (hs : smX a b m c el f args h = some (v, h')) :
    h.nx ≤ h'.nx ∧ ∀ r w ys, Free h.nx h'.nx r → Rel P E r h w → VRs r args ys.toList → Direct P E r h w f ys v h' := by
  unfold smX at hs
  cases h1 : Nat.beq f a with
  | true =>
    rw [h1, cond_true] at hs
    have := Nat.eq_of_beq_eq_true h1
    subst this
    split at hs
    · rename_i s k
      obtain ⟨hk, hs⟩ := bif_some hs
      cases hs
      refine ⟨Nat.le_refl _, fun r w ys _ hR hy => ?_⟩
      have hk := Nat.le_of_ble_eq_true hk
      obtain ⟨x, y, rfl, ⟨st, rfl, hst⟩, hy2⟩ := three_of hy
      obtain rfl : y = _ := hy2
      refine ha.quiet hR (Lib.run_indexByteString st (Int.ofNat k) w) ?_
      show _ = _
      have e : (Int.ofNat k).toNat.toUInt8 = k.toUInt8 := rfl
      rw [e]
      have hfi := findB_eq k hk st.data.toList 0
      have hst2 : st.data.toList.map UInt8.toNat = s := hst
      rw [hst2] at hfi
      have hge := Lib.indexByte_ge st.data.toList k.toUInt8
      congr 1
      rw [hfi]
      by_cases h3 : Lib.indexByte st.data.toList k.toUInt8 = -1
      · rw [if_pos h3, h3]
      · rw [if_neg h3]
        simp only [Nat.zero_add]
        show _ = ((Lib.indexByte st.data.toList k.toUInt8).toNat : Int)
        omega
    · cases hs
  | false =>
    rw [h1, cond_false] at hs
    cases h2 : Nat.beq f b with
    | true =>
      rw [h2, cond_true] at hs
      have := Nat.eq_of_beq_eq_true h2
      subst this
      split at hs
      · rename_i x
        cases hs
        refine ⟨Nat.le_refl _, fun r w ys _ hR hy => ?_⟩
        obtain ⟨y, rfl, hv⟩ := two_of hy
        exact hb.quiet hR (x := y) rfl hv
      · cases hs
    | false =>
      rw [h2, cond_false] at hs
      cases h3 : Nat.beq f m with
      | true =>
        rw [h3, cond_true] at hs
        have := Nat.eq_of_beq_eq_true h3
        subst this
        split at hs
        · rename_i n
          obtain ⟨hn, hs⟩ := bif_some hs
          cases hs
          refine ⟨Nat.le_succ _, fun r w ys hf hR hy => ?_⟩
          have hn := Nat.le_of_ble_eq_true hn
          obtain ⟨y, rfl, hv⟩ := two_of hy
          obtain rfl : y = _ := hv
          obtain ⟨cs, hrun, hle, hone⟩ := run_make0 (P := P) (w := w) ps t el ht n hn
          have hfn : r.bl h.nx = none := hf.bl _ (Nat.le_refl _) (Nat.lt_succ_self _)
          refine ⟨_, r.put h.nx ⟨w.heap.size, 0, cs.size⟩, w.drew.drew.alloc (.cells cs el), by rw [hm.run]; show Result.andThen ((Extern.BytealgMakeNoZero.makeNoZero ps #[t] #[.int .i64 (n : Int)]).run P w) _ = _; rw [hrun]; rfl, ?_, ?_⟩
          · exact ⟨_, Rho.put_get _ _ _, .inl ⟨cs.size, by simp, hle, hle, by simp, Nat.mod_one _⟩⟩
          · refine hR.new hfn rfl rfl rfl rfl ?_
            refine ⟨cs, 0, 0, rfl, rfl, ?_, ?_, fun _ i _ _ => by simp, fun i _ => Nat.zero_mod _⟩
            · show 0 + (repl n [V.unk]).length ≤ cs.size
              rw [repl_len]; simp; exact hle
            · intro i v hi
              obtain ⟨h4, rfl⟩ := repl_unk n i v hi
              have hlt : i < cs.size := by omega
              refine ⟨cs[i], by simp [hlt], ?_⟩
              exact hone _ (by simp)
        · cases hs
      | false =>
        rw [h3, cond_false] at hs
        cases h4 : Nat.beq f c with
        | false => rw [h4] at hs; cases hs
        | true =>
          rw [h4, cond_true] at hs
          have := Nat.eq_of_beq_eq_true h4
          subst this
          split at hs
          · rename_i x y
            cases hs
            refine ⟨Nat.le_refl _, fun r w ys _ hR hy => ?_⟩
            obtain ⟨p, q, rfl, ⟨sp, rfl, hsp⟩, ⟨sq, rfl, hsq⟩⟩ := three_of hy
            refine hc.quiet hR (Lib.run_compareString sp sq w) ?_
            show _ = _
            rw [← cmpN_eq]
            have e1 : sp.data.toList.map UInt8.toNat = x := hsp
            have e2 : sq.data.toList.map UInt8.toNat = y := hsq
            rw [e1, e2]
          · cases hs
end
end Go.Ev
namespace Go.Ev

def T.re {α β : Type} : T α → (Nat → Option β) → T β
  | .leaf, _ => .leaf
  | .node l v r, f => .node (T.re l fun n => f (2 * n + 1)) (match v with | none => none | some _ => f 0) (T.re r fun n => f (2 * n + 2))
theorem T.re_get {α : Type} : ∀ (t : T α) (f : Nat → Option α), T.re t f = t → ∀ n a, t.get n = some a → f n = some a := by
  intro t
  induction t with
  | leaf => intro f _ n a h; rw [leaf_get] at h; cases h
  | node l v r ihl ihr =>
    intro f h n a hg
    simp only [T.re, T.node.injEq] at h
    obtain ⟨h1, h2, h3⟩ := h
    cases n with
    | zero =>
      simp only [T.get] at hg
      rw [hg] at h2
      exact h2
    | succ m =>
      simp only [T.get] at hg
      cases hb : Nat.beq (Nat.mod m 2) 0 with
      | true =>
        rw [hb, cond_true] at hg
        have := ihl _ h1 _ _ hg
        have hm := even_t hb
        have e : 2 * (Nat.div m 2) + 1 = m + 1 := by show 2 * (m / 2) + 1 = m + 1; omega
        rwa [e] at this
      | false =>
        rw [hb, cond_false] at hg
        have := ihr _ h3 _ _ hg
        have hm := even_f hb
        have e : 2 * (Nat.div m 2) + 2 = m + 1 := by show 2 * (m / 2) + 2 = m + 1; omega
        rwa [e] at this
def T.allB {α : Type} (p : α → Bool) : T α → Bool
  | .leaf => true
  | .node l v r => (match v with | none => true | some a => p a) && T.allB p l && T.allB p r
theorem T.allB_get {α : Type} {p : α → Bool} : ∀ (t : T α), T.allB p t = true → ∀ n a, t.get n = some a → p a = true := by
  intro t
  induction t with
  | leaf => intro _ n a h; rw [leaf_get] at h; cases h
  | node l v r ihl ihr =>
    intro h n a hg
    simp only [T.allB, Bool.and_eq_true] at h
    obtain ⟨⟨h1, h2⟩, h3⟩ := h
    cases n with
    | zero =>
      simp only [T.get] at hg
      rw [hg] at h1
      exact h1
    | succ m =>
      simp only [T.get] at hg
      cases hb : Nat.beq (Nat.mod m 2) 0 with
      | true => rw [hb, cond_true] at hg; exact ihl h2 _ _ hg
      | false => rw [hb, cond_false] at hg; exact ihr h3 _ _ hg
theorem TisOk.of {P : Program} {E : Env} {tiT : T TI} (he : E.ti = getF tiT) (h : T.re tiT (tiFrom P) = tiT) : TisOk P E := by
  refine ⟨fun t i ht => ?_⟩
  rw [he, getF_eq] at ht
  exact T.re_get tiT _ h t i ht
theorem FnsOk.of {P : Program} {E : Env} {fnT : T Func} (he : E.fn = getF fnT) (h : T.re fnT (fun n => P.funcs[n]?) = fnT) (hn : T.allB (fun fn => !(fn.name == "runtime.NumGoroutine")) fnT = true) : FnsOk P E := by
  constructor
  · intro f fn hf
    rw [he, getF_eq] at hf
    exact T.re_get fnT _ h f fn hf
  · intro f fn hf
    rw [he, getF_eq] at hf
    have := T.allB_get fnT hn f fn hf
    simpa using this
theorem SmOk.of {P : Program} {E : Env} (h : ∀ f args h v h', E.sm f args h = some (v, h') → h.nx ≤ h'.nx ∧ ∀ r w ys, Free h.nx h'.nx r → Rel P E r h w → VRs r args ys.toList → Direct P E r h w f ys v h') : SmOk P E :=
  fun f args h' v h'' hs => ⟨(h f args h' v h'' hs).1, fun r w ys h1 h2 h3 => .inl ((h f args h' v h'' hs).2 r w ys h1 h2 h3)⟩

/-- A call that reads nothing of what is there: whatever the world, it answers v, and leaves all that there was. -/
def Alone (P : Program) (f : Nat) (v : V) : Prop :=
  ∀ (w : World) cs, ∃ fr x r' w', Steps P (lone (Frame.enter P f #[] .normal) cs w) (lone fr cs w') ∧ fr.fn = f ∧ fr.leaving P w' (.returned x) ∧ VR r' v x ∧
    w.heap.size ≤ w'.heap.size ∧ (∀ k, k < w.heap.size → w'.heap[k]? = w.heap[k]?) ∧ w'.os = w.os ∧ w'.output = w.output
def noRho : Rho := ⟨fun _ => none, fun _ => none⟩
theorem Rel.empty {P : Program} {E : Env} {w : World} (hg : ∀ g, E.gl g = false) (n : Nat) : Rel P E noRho ⟨n, .leaf⟩ w := by
  refine ⟨fun b o h => ?_, fun b b' o o' q q' h => ?_, fun g h => ?_, fun b m s k h => ?_⟩
  · have : (T.leaf : T O).get b = some o := h
    rw [leaf_get] at this; cases this
  · have : (T.leaf : T O).get b = some o := h
    rw [leaf_get] at this; cases this
  · rw [hg] at h; cases h
  · have : (T.leaf : T O).get b = _ := h
    rw [leaf_get] at this; cases this
theorem Alone.of {P : Program} {E : Env} (hFn : FnsOk P E) (hg : ∀ g, E.gl g = false) {f : Nat} {fr : Fr} {v : V} {h' : Hp} {n : Nat} (hen : enter E f [] = some fr) (he : Ends P E ⟨fr, [], ⟨n, .leaf⟩⟩ v h') : Alone P f v := by
  intro w cs
  obtain ⟨hF, _⟩ := enter_sound (P := P) (r := noRho) (w := w) (xs := #[]) hFn hen rfl
  have hR := Rel.empty (P := P) (w := w) hg n
  obtain ⟨e1, e2⟩ := enter_fn hen
  have := he.2 (r := noRho) (w := w) (frs := []) ⟨hR, hF, .nil⟩ ⟨fun _ _ _ => rfl, fun _ _ _ => rfl⟩ cs
  unfold FinB at this
  simp only [bot, e2, e1, List.nil_append] at this
  obtain ⟨fr', x, r', w', h1, h2, h3, h4, h5⟩ := this
  refine ⟨fr', x, r', w', h1, h2, h3, h4, h5.size, fun k hk => h5.keep k hk ?_, h5.os, h5.out⟩
  intro b o q hb
  have : (T.leaf : T O).get b = some o := hb
  rw [leaf_get] at this; cases this
/-- Such a call is a summary that changes nothing. -/
theorem Alone.sm {P : Program} {E E' : Env} {f : Nat} {b : Bool} {fr : Fr} (ha : Alone P f (.bool b)) (hFn : FnsOk P E') (hen : enter E' f [] = some fr) {h : Hp} : h.nx ≤ h.nx ∧ ∀ r w ys, Free h.nx h.nx r → Rel P E r h w → VRs r [] ys.toList →
    Direct P E r h w f ys (.bool b) h ∨ ((callFunc f ys).run P w = .ok (.enter f ys) w ∧ Enters P E r h w f ys (.bool b) h) := by
  refine ⟨Nat.le_refl _, fun r w ys _ hR hy => .inr ⟨(enter_sound (w := w) hFn hen hy).2, fun cs => ?_⟩⟩
  have hys : ys = #[] := by
    have : ys.toList = [] := hy
    simpa using this
  subst hys
  obtain ⟨fr', x, r', w', h1, h2, h3, h4, h5, h6, h7, h8⟩ := ha w cs
  refine ⟨fr', x, r, w', h1, h2, h3, h4, ?_⟩
  refine ⟨hR.frame (Le.refl r) (fun b o q hb hq => h6 _ (hR.blt hb hq)) (fun g hg => h6 _ (hR.glt hg)), Nat.le_refl _, Same.refl _ _ _, h5, fun k hk _ => h6 k hk, fun _ _ h => h, h7, h8⟩
end Go.Ev
namespace Go.Ev

/-- The state m ends so, with some heap. -/
def EndsA (P : Program) (E : Env) (m : M) (v : V) : Prop :=
  ∀ (r : Rho) (w : World) (fr : Frame) (frs : List Frame), StR P E r m fr frs w → (∀ N, Free m.h.nx N r) → ∀ cs, ∃ h', FinB P E r m.h w fr frs cs (bot m.cur m.stk) v h'
section
variable {P : Program} {E : Env} {rc : RC} {r r' : Rho} {w w' : World}
theorem Ends.all {m : M} {v : V} {h' : Hp} (h : Ends P E m v h') : EndsA P E m v := fun _ _ _ _ hS hf cs => ⟨h', h.2 hS (hf _) cs⟩
theorem EndsA.of_run (hE : TisOk P E) (hFn : FnsOk P E) (hSm : SmOk P E) (hrg : RegOk P E rc) {k : Nat} {m : M} {v : V} {h' : Hp} (hr : runF E rc k m = some (v, h')) : EndsA P E m v := (Ends.of_run hE hFn hSm hrg hr).all

theorem EndsA.cut (hE : TisOk P E) (hFn : FnsOk P E) (hSm : SmOk P E) (hrg : RegOk P E rc) {k : Nat} {m m1 m2 : M} {v : V} (hs : stepsF E rc k m = .next m1) (hb : bot m2.cur m2.stk = bot m1.cur m1.stk) (hn : m1.h.nx < m2.h.nx) (hsub : ∀ b o, m2.h.get b = some o → ∃ u, m1.h.get b = some u ∧ oEq u o = true)
    (hfr : ∀ {r : Rho} {fr : Frame} {frs : List Frame}, FrR r m1.cur fr → F2 (FrR r) m1.stk frs → FrR r m2.cur fr ∧ F2 (FrR r) m2.stk frs) (he : EndsA P E m2 v) : EndsA P E m v := by
  obtain ⟨h1, h2, h3⟩ := steps_sound hE hFn hSm hrg k hs
  intro r w fr frs hS hf cs
  obtain ⟨fr1, frs1, w1, r1, hsteps, hS1, hst⟩ := h3 hS (hf _) cs
  have hst2 := hst.drop hsub hn
  obtain ⟨g1, g2⟩ := hfr hS1.cur hS1.stk
  have hf1 : ∀ N, Free m2.h.nx N r1 := by
    intro N
    by_cases hN : m2.h.nx ≤ N
    · exact (hf N).step hst2.same (by omega)
    · exact ⟨fun b h1 h2 => by omega, fun b h1 h2 => by omega⟩
  obtain ⟨h', this⟩ := he _ _ _ _ ⟨hst2.rel, g1, g2⟩ hf1 cs
  rw [hb, h2] at this
  exact ⟨h', FinB.head hsteps hst2 this⟩
theorem EndsA.of_piece (hE : TisOk P E) (hFn : FnsOk P E) (hSm : SmOk P E) (hrg : RegOk P E rc) {k : Nat} {m : M} {a : ML} {v : V} (hp : piece E rc k m a = (true, a.cur.todo :: tdsL a.stk)) (he : EndsA P E a.m v) : EndsA P E m v := by
  unfold piece at hp
  cases hs : stepsF E rc k m with
  | done v h => rw [hs] at hp; cases hp
  | fail => rw [hs] at hp; cases hp
  | next m1 =>
    rw [hs] at hp
    have hp : (leM a m1, m1.cur.todo :: tds m1.stk) = (true, a.cur.todo :: tdsL a.stk) := hp
    simp only [Prod.mk.injEq, List.cons.injEq] at hp
    obtain ⟨hl, ht1, ht2⟩ := hp
    unfold leM at hl
    obtain ⟨l1, hl⟩ := bifT hl
    obtain ⟨l2, hl⟩ := bifT hl
    obtain ⟨l3, l4⟩ := bifT hl
    exact EndsA.cut hE hFn hSm hrg hs (bot_cut l2 l3) (m2 := a.m) (Nat.le_of_ble_eq_true l1) (fun b o hb => leOs_get l4 b o hb) (fun g1 g2 => ⟨g1.cut l2 ht1, FrsR.cut g2 l3 ht2⟩) he

/-- The same, and what one temporary holds beside it. -/
noncomputable def cutS1 (a : ML) (t : Nat) : SR → Bool × List (List It) × Option V := @SR.rec (fun _ => Bool × List (List It) × Option V) (fun m => (leM a m, m.cur.todo :: tds m.stk, getF m.cur.tm t)) (fun _ _ => (false, [], none)) (false, [], none)
noncomputable def piece1 (E : Env) (rc : RC) (k : Nat) (m : M) (a : ML) (t : Nat) : Bool × List (List It) × Option V := cutS1 a t (stepsF E rc k m)
/-- The state with one temporary more. -/
def ML.with (a : ML) (t : Nat) (u : V) : ML := { a with cur := { a.cur with tm := (t, u) :: a.cur.tm } }
theorem FrR.more {f : FL} {g : Fr} {fr : Frame} (h : FrR r g fr) (hl : leFr f g = true) (ht : g.todo = f.todo) {t : Nat} {u : V} (hu : g.tm.get t = some u) : FrR r (FL.fr { f with tm := (t, u) :: f.tm }) fr := by
  have hc := h.cut hl ht
  refine ⟨hc.fn, hc.mode, hc.kind, ⟨hc.tmps.size, fun s v hv => ?_⟩, hc.todo, hc.defers, hc.ro⟩
  have hv : (T.set (tieL f.tm) t (some u)).get s = some v := hv
  rw [T.get_set] at hv
  by_cases e : s = t
  · subst e
    rw [if_pos rfl] at hv
    cases hv
    exact h.tmps.get s u hu
  · rw [if_neg e] at hv
    exact hc.tmps.get s v hv
theorem bot_with (a : ML) (t : Nat) (u : V) : bot (a.with t u).m.cur (a.with t u).m.stk = bot a.m.cur a.m.stk := by
  cases a with
  | mk cur stk nx os =>
    cases stk <;> rfl
theorem EndsA.of_piece1 (hE : TisOk P E) (hFn : FnsOk P E) (hSm : SmOk P E) (hrg : RegOk P E rc) {k : Nat} {m : M} {a : ML} {t : Nat} {u v : V} (hp : piece1 E rc k m a t = (true, a.cur.todo :: tdsL a.stk, some u)) (he : EndsA P E (a.with t u).m v) : EndsA P E m v := by
  unfold piece1 at hp
  cases hs : stepsF E rc k m with
  | done v h => rw [hs] at hp; cases hp
  | fail => rw [hs] at hp; cases hp
  | next m1 =>
    rw [hs] at hp
    have hp : (leM a m1, m1.cur.todo :: tds m1.stk, getF m1.cur.tm t) = (true, a.cur.todo :: tdsL a.stk, some u) := hp
    simp only [Prod.mk.injEq, List.cons.injEq] at hp
    obtain ⟨hl, ⟨ht1, ht2⟩, hu⟩ := hp
    rw [getF_eq] at hu
    unfold leM at hl
    obtain ⟨l1, hl⟩ := bifT hl
    obtain ⟨l2, hl⟩ := bifT hl
    obtain ⟨l3, l4⟩ := bifT hl
    exact EndsA.cut hE hFn hSm hrg hs ((bot_with a t u).trans (bot_cut l2 l3)) (m2 := (a.with t u).m) (Nat.le_of_ble_eq_true l1) (fun b o hb => leOs_get l4 b o hb) (fun g1 g2 => ⟨g1.more l2 ht1 hu, FrsR.cut g2 l3 ht2⟩) he

/-! ### A symbol is looked into -/
def rv (i : Nat) (n : Int) (v : V) : V := match v with
  | .stamp j => bif Nat.beq j i then .int .i64 n else .stamp j
  | v => v
def rvTm (i : Nat) (n : Int) : List (Nat × V) → List (Nat × V)
  | [] => []
  | (t, v) :: l => (t, rv i n v) :: rvTm i n l
def rvs (i : Nat) (n : Int) : List V → List V
  | [] => []
  | v :: l => rv i n v :: rvs i n l
def rvO (i : Nat) (n : Int) : O → O
  | .cells cs t f => .cells (rvs i n cs) t f
  | o => o
def rvOs (i : Nat) (n : Int) : List (Nat × O) → List (Nat × O)
  | [] => []
  | (t, v) :: l => (t, rvO i n v) :: rvOs i n l
def FL.rv (i : Nat) (n : Int) (f : FL) : FL := { f with tm := rvTm i n f.tm }
def ML.rv (i : Nat) (n : Int) (a : ML) : ML := { a with cur := a.cur.rv i n, os := rvOs i n a.os }
theorem rv_VR {i : Nat} {n : Int} (hi : r.st i = some n) {v : V} {x : Value} (h : VR r v x) : VR r (Ev.rv i n v) x := by
  unfold Ev.rv
  split
  · rename_i j
    cases hb : Nat.beq j i with
    | true =>
      have := Nat.eq_of_beq_eq_true hb
      subst this
      obtain ⟨m, hm, rfl⟩ := h
      rw [hi] at hm
      cases hm
      rfl
    | false => exact h
  · exact h
theorem rvTm_get {i : Nat} {n : Int} : ∀ {l : List (Nat × V)} {t : Nat} {v : V}, (tieL (rvTm i n l)).get t = some v → ∃ u, (tieL l).get t = some u ∧ v = Ev.rv i n u := by
  intro l
  induction l with
  | nil => intro t v h; simp only [rvTm, tieL] at h; rw [leaf_get] at h; cases h
  | cons p l ih =>
    obtain ⟨s, u⟩ := p
    intro t v h
    simp only [rvTm, tieL] at h ⊢
    rw [T.get_set] at h ⊢
    by_cases e : t = s
    · rw [if_pos e] at h ⊢; cases h; exact ⟨u, rfl, rfl⟩
    · rw [if_neg e] at h ⊢; exact ih h
theorem rvOs_get {i : Nat} {n : Int} : ∀ {l : List (Nat × O)} {t : Nat} {v : O}, (tieL (rvOs i n l)).get t = some v → ∃ u, (tieL l).get t = some u ∧ v = rvO i n u := by
  intro l
  induction l with
  | nil => intro t v h; simp only [rvOs, tieL] at h; rw [leaf_get] at h; cases h
  | cons p l ih =>
    obtain ⟨s, u⟩ := p
    intro t v h
    simp only [rvOs, tieL] at h ⊢
    rw [T.get_set] at h ⊢
    by_cases e : t = s
    · rw [if_pos e] at h ⊢; cases h; exact ⟨u, rfl, rfl⟩
    · rw [if_neg e] at h ⊢; exact ih h
theorem rvs_len {i : Nat} {n : Int} : ∀ (l : List V), (rvs i n l).length = l.length := by
  intro l; induction l with
  | nil => rfl
  | cons v l ih => simp [rvs, ih]
theorem rvs_get {i : Nat} {n : Int} : ∀ {l : List V} {k : Nat} {v : V}, (rvs i n l)[k]? = some v → ∃ u, l[k]? = some u ∧ v = Ev.rv i n u := by
  intro l
  induction l with
  | nil => intro k v h; simp [rvs] at h
  | cons u l ih =>
    intro k v h
    simp only [rvs] at h
    cases k with
    | zero => simp at h; exact ⟨u, by simp, h.symm⟩
    | succ k => simpa using ih (by simpa using h)
theorem rvO_OR {i : Nat} {n : Int} (hi : r.st i = some n) {q : RB} {nx : Nat} {o : O} {ob : Obj} (h : OR P r q w nx o ob) : OR P r q w nx (rvO i n o) ob := by
  cases o with
  | cells cs t f =>
    obtain ⟨c, lo, hi', he, hc⟩ := h
    refine ⟨c, lo, hi', he, hc.size, by rw [rvs_len]; exact hc.win, fun k v hv => ?_, hc.melt, hc.al⟩
    obtain ⟨u, hu, rfl⟩ := rvs_get hv
    obtain ⟨x, hx, hr⟩ := hc.get k u hu
    exact ⟨x, hx, rv_VR hi hr⟩
  | _ => exact h
theorem rvO_iter {i : Nat} {n : Int} {o : O} {m : Option Nat} {s : Option Nat} {k : Nat} (h : rvO i n o = .miter m s k) : o = .miter m s k := by
  cases o with
  | cells cs t f => cases h
  | _ => exact h
theorem EndsA.reveal' {a : ML} {i : Nat} {v : V} (hst : ∀ {r : Rho} {w : World} {fr : Frame} {frs : List Frame}, StR P E r a.m fr frs w → ∃ n, r.st i = some n) (he : ∀ n : Int, EndsA P E (a.rv i n).m v) : EndsA P E a.m v := by
  intro r w fr frs hS hf cs
  obtain ⟨n, hi⟩ := hst hS
  have hS2 : StR P E r (a.rv i n).m fr frs w := by
    refine ⟨⟨?_, ?_, ?_, ?_⟩, ?_, hS.stk⟩
    · intro b o hb
      obtain ⟨u, hu, rfl⟩ := rvOs_get hb
      obtain ⟨q, ob, h1, h2, h3⟩ := hS.rel.os b u hu
      exact ⟨q, ob, h1, h2, rvO_OR hi h3⟩
    · intro b b' o o' q q' h1 h2
      obtain ⟨u, hu, _⟩ := rvOs_get h1
      obtain ⟨u', hu', _⟩ := rvOs_get h2
      exact hS.rel.inj b b' u u' q q' hu hu'
    · intro g hg
      refine ⟨(hS.rel.gl g hg).1, fun b o q hb => ?_⟩
      obtain ⟨u, hu, _⟩ := rvOs_get hb
      exact (hS.rel.gl g hg).2 b u q hu
    · intro b m s k hb hk
      obtain ⟨u, hu, e⟩ := rvOs_get hb
      rw [rvO_iter e.symm] at hu
      obtain ⟨es, hes⟩ := hS.rel.it b m s k hu hk
      refine ⟨es, ?_⟩
      show (tieL (rvOs i n a.os)).get m = _
      have hes : (tieL a.os).get m = some (.map es) := hes
      clear hb hu e hS hf he hst hk
      generalize a.os = l at hes
      induction l with
      | nil => simp only [tieL] at hes; rw [leaf_get] at hes; cases hes
      | cons p l ih =>
        obtain ⟨t, o⟩ := p
        simp only [rvOs, tieL] at hes ⊢
        rw [T.get_set] at hes ⊢
        by_cases e : m = t
        · rw [if_pos e] at hes ⊢; cases hes; rfl
        · rw [if_neg e] at hes ⊢; exact ih hes
    · have hc := hS.cur
      refine ⟨hc.fn, hc.mode, hc.kind, ⟨hc.tmps.size, fun t v hv => ?_⟩, hc.todo, hc.defers, hc.ro⟩
      obtain ⟨u, hu, rfl⟩ := rvTm_get hv
      exact rv_VR hi (hc.tmps.get t u hu)
  have hb : bot (a.rv i n).m.cur (a.rv i n).m.stk = bot a.m.cur a.m.stk := by
    cases a with
    | mk cur stk nx os => cases stk <;> rfl
  obtain ⟨h', this⟩ := he n r w fr frs hS2 hf cs
  rw [hb] at this
  refine ⟨h', ?_⟩
  unfold FinB at this ⊢
  split
  · rename_i e
    rw [e] at this
    obtain ⟨fr', x, r', w', g1, g2, g3, g4, g5⟩ := this
    exact ⟨fr', x, r', w', g1, g2, g3, g4, rv_Stp hS.rel hS2.rel g5⟩
  · rename_i e
    rw [e] at this
    intro c cs' hcs
    obtain ⟨x, r', w', g1, g4, g5⟩ := this c cs' hcs
    exact ⟨x, r', w', g1, g4, rv_Stp hS.rel hS2.rel g5⟩
  where
  rv_Stp {a : ML} {i : Nat} {n : Int} {r r' : Rho} {w w' : World} {h' : Hp} (_ : Rel P E r a.m.h w) (_ : Rel P E r (a.rv i n).m.h w) (g : Stp P E r (a.rv i n).m.h w r' h' w') : Stp P E r a.m.h w r' h' w' := by
    have key : ∀ k, Out r a.m.h k → Out r (a.rv i n).m.h k := by
      intro k ho b o q hb hq
      obtain ⟨u, hu, _⟩ := rvOs_get hb
      exact ho b u q hu hq
    exact ⟨g.rel, g.nx, g.same, g.size, fun k hk ho => g.keep k hk (key k ho), fun k hk ho => g.img k hk (key k ho), g.os, g.out⟩
/-- ... that a temporary holds. -/
theorem EndsA.revealT {a : ML} {i t : Nat} {v : V} (ht : (tieL a.cur.tm).get t = some (.stamp i)) (he : ∀ n : Int, EndsA P E (a.rv i n).m v) : EndsA P E a.m v :=
  EndsA.reveal' (fun hS => by obtain ⟨n, hn, _⟩ := hS.cur.tmps.get t _ ht; exact ⟨n, hn⟩) he
/-- ... that a cell holds. -/
theorem EndsA.revealC {a : ML} {i b k : Nat} {cs : List V} {ty : Nat} {f : Bool} {v : V} (hb : (tieL a.os).get b = some (.cells cs ty f)) (hk : cs[k]? = some (.stamp i)) (he : ∀ n : Int, EndsA P E (a.rv i n).m v) : EndsA P E a.m v :=
  EndsA.reveal' (fun hS => by
    obtain ⟨q, ob, _, _, c, lo, hi, _, hc⟩ := hS.rel.os b _ hb
    obtain ⟨x, _, n, hn, _⟩ := hc.get k _ hk
    exact ⟨n, hn⟩) he

/-- What is left when a number is divided. -/
theorem mod_cases (n : Int) (c : Nat) (hc : 0 < c) : ∃ j, j < c ∧ (wrapK .u64 n).tmod (c : Int) = (j : Int) := by
  have h0 : 0 ≤ wrapK .u64 n := by
    rw [wrapK_eq, wrap_if]
    have : (IntKind.u64.signed && decide (n % (2 ^ IntKind.u64.bits : Int) ≥ (2 ^ (IntKind.u64.bits - 1) : Int))) = false := rfl
    rw [this]
    simp only [Bool.false_eq_true, if_false]
    exact Int.emod_nonneg _ (by decide)
  rw [Int.tmod_eq_emod_of_nonneg h0]
  have h1 := Int.emod_nonneg (wrapK .u64 n) (b := (c : Int)) (by omega)
  have h2 := Int.emod_lt_of_pos (wrapK .u64 n) (b := (c : Int)) (by omega)
  exact ⟨((wrapK .u64 n) % (c : Int)).toNat, by omega, by omega⟩
end
end Go.Ev
