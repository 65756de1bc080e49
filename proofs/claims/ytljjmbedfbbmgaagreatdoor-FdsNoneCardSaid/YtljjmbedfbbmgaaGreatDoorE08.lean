/- An evaluator of the model's programs over abstract states, and the proof that the machine does what it says (part 8). No statement about the program. -/
import Derived.Test.YtljjmbedfbbmgaaGreatDoorE07
import Derived.Orders
namespace Go.Ev

/-! ### Lists that hold the same -/
theorem perm_of_mem {α : Type} : ∀ {l1 l2 : List α}, l1.Nodup → l2.Nodup → (∀ x, x ∈ l1 ↔ x ∈ l2) → l1.Perm l2 := by
  intro l1
  induction l1 with
  | nil =>
    intro l2 _ _ h
    cases l2 with
    | nil => exact .nil
    | cons y l2 => have := (h y).2 (by simp); simp at this
  | cons x l1 ih =>
    intro l2 h1 h2 h
    obtain ⟨a, b, rfl⟩ := List.append_of_mem ((h x).1 (by simp))
    obtain ⟨h3, h4⟩ := List.nodup_cons.1 h1
    have h5 : (x :: (a ++ b)).Nodup := (List.perm_middle.nodup_iff).1 h2
    obtain ⟨h6, h7⟩ := List.nodup_cons.1 h5
    refine (List.Perm.cons x (ih h4 h7 fun y => ?_)).trans List.perm_middle.symm
    have := h y
    simp only [List.mem_cons, List.mem_append] at this ⊢
    constructor
    · intro hy
      rcases this.1 (.inr hy) with h | h | h
      · exact .inl h
      · subst h; exact absurd hy h3
      · exact .inr h
    · intro hy
      have hne : y ≠ x := by intro e; subst e; exact h6 (by simpa using hy)
      rcases this.2 (by rcases hy with h | h <;> simp [h]) with h | h
      · exact absurd h hne
      · exact h
theorem F2.perm {α β : Type} {R : α → β → Prop} {l l' : List α} (hp : l.Perm l') : ∀ {m : List β}, F2 R l m → ∃ m', m'.Perm m ∧ F2 R l' m' := by
  induction hp with
  | nil => intro m h; exact ⟨m, .refl _, h⟩
  | cons x _ ih =>
    intro m h
    cases h with
    | cons h1 h2 =>
      obtain ⟨m', h3, h4⟩ := ih h2
      exact ⟨_ :: m', .cons _ h3, .cons h1 h4⟩
  | swap x y l =>
    intro m h
    cases h with
    | cons h1 h2 => cases h2 with | cons h3 h4 => exact ⟨_, .swap _ _ _, .cons h3 (.cons h1 h4)⟩
  | trans _ _ ih1 ih2 =>
    intro m h
    obtain ⟨m1, h1, h2⟩ := ih1 h
    obtain ⟨m2, h3, h4⟩ := ih2 h2
    exact ⟨m2, h3.trans h1, h4⟩
theorem kEq_comm (j k : IntKind) : kEq j k = kEq k j := by cases j <;> cases k <;> rfl
theorem eqCell_comm (x y : V) : eqCell x y = eqCell y x := by
  cases x <;> cases y <;> try rfl
  · rename_i a b; simp only [eqCell]; cases a <;> cases b <;> rfl
  · rename_i j a k b
    simp only [eqCell]
    rw [kEq_comm j k, eqI_eq, eqI_eq, Bool.beq_comm]
  · rename_i a b
    simp only [eqCell]
    rw [strEq_eq, strEq_eq, Bool.beq_comm]
theorem MR.perm {r : Rho} {es es' : List Me} {xs : Array MapEntry} {c : Nat} (h : MR r es xs c) (hp : es.Perm es') : MR r es' xs c := by
  obtain ⟨l, h1, h2⟩ := h.ents
  obtain ⟨l', h3, h4⟩ := F2.perm hp h2
  refine ⟨⟨l', h3.trans h1, h4⟩, ?_, h.born, h.apart⟩
  exact (hp.pairwise_iff (fun {a b} hab => by rw [eqCell_comm]; exact hab)).1 h.keys

/-! ### What is pending when the operations S are done -/
/-- Operation a, of S, makes block b, which is o, and no writing operation ahead of t has taken it in. -/
def Loose (E : Env) (ops : Array Oper) (f : Nat → RS) (S : Nat → Prop) (t a b : Nat) (o : O) : Prop :=
  S a ∧ Made E ops f a b o ∧ (a < t → Live f t a)
/-- What has become of it by the entries that S lays. -/
def LO (E : Env) (ops : Array Oper) (f : Nat → RS) (S : Nat → Prop) (b : Nat) (o o' : O) : Prop :=
  (o = .map [] ∧ ∃ es : List Me, es.Nodup ∧ (∀ e, e ∈ es ↔ ∃ i, S i ∧ Ins E ops f i b e) ∧ o' = .map es) ∨ ((∃ cs el, o = .cells cs el false) ∧ o' = o)

section
variable {P : Program} {E : Env} {rc : RC} {n : Nat} {ops : Array Oper} {f : Nat → RS} {val : Nat → V} {S : Nat → Prop} {r r' : Rho} {tmps : Array Value} {w w' : World}

theorem LO.kind {b : Nat} {o o' : O} (h : LO E ops f S b o o') : (∃ cs el, o' = .cells cs el false) ∨ ∃ es, o' = .map es := by
  rcases h with ⟨_, es, _, _, rfl⟩ | ⟨⟨cs, el, rfl⟩, rfl⟩
  · exact .inr ⟨es, rfl⟩
  · exact .inl ⟨cs, el, rfl⟩
/-- Rows and maps are the same in any world. -/
theorem OR.any {q : RB} {nx nx' : Nat} {o : O} {ob : Obj} (hk : (∃ cs el, o = .cells cs el false) ∨ ∃ es, o = .map es) (h : OR P r q w nx o ob) : OR P r q w' nx' o ob := by
  rcases hk with ⟨cs, el, rfl⟩ | ⟨es, rfl⟩ <;> exact h
theorem LO.or {b : Nat} {o o1 o2 : O} (h1 : LO E ops f S b o o1) (h2 : LO E ops f S b o o2) {q : RB} {nx : Nat} {ob : Obj} (h : OR P r q w nx o1 ob) : OR P r q w nx o2 ob := by
  rcases h1 with ⟨rfl, es1, n1, m1, rfl⟩ | ⟨⟨cs, el, rfl⟩, rfl⟩
  · rcases h2 with ⟨_, es2, n2, m2, rfl⟩ | ⟨⟨cs, el, e⟩, _⟩
    · obtain ⟨xs, c, he, hm⟩ := h
      exact ⟨xs, c, he, hm.perm (perm_of_mem n1 n2 fun e => (m1 e).trans (m2 e).symm)⟩
    · cases e
  · rcases h2 with ⟨e, _⟩ | ⟨_, rfl⟩
    · cases e
    · exact h
theorem LO.of_iff {S' : Nat → Prop} {b : Nat} {o o' : O} (hi : ∀ i e, Ins E ops f i b e → (S' i ↔ S i)) (h : LO E ops f S b o o') : LO E ops f S' b o o' := by
  rcases h with ⟨rfl, es, n1, m1, rfl⟩ | ⟨h1, h2⟩
  · refine .inl ⟨rfl, es, n1, fun e => (m1 e).trans ?_, rfl⟩
    exact ⟨fun ⟨i, h1, h2⟩ => ⟨i, (hi i e h2).2 h1, h2⟩, fun ⟨i, h1, h2⟩ => ⟨i, (hi i e h2).1 h1, h2⟩⟩
  · exact .inr ⟨h1, h2⟩

structure Inv (P : Program) (E : Env) (n : Nat) (ops : Array Oper) (f : Nat → RS) (val : Nat → V) (r0 : Rho) (w0 : World) (S : Nat → Prop) (t : Nat) (r : Rho) (tmps : Array Value) (w : World) : Prop where
  closed : ∀ i j, ord (bef ops) i j = true → S j → S i
  tm : TInv n ops f val S r tmps
  base : ∀ e, IsE E ops f e → (S e ↔ e < t)
  tle : t ≤ ops.size
  tE : t = 0 ∨ ∃ e, t = e + 1 ∧ IsE E ops f e
  rel : Rel P E r (f t).x w
  loose : ∀ a b o, Loose E ops f S t a b o → ∃ q ob o', r.bl b = some q ∧ w.heap[q.blk]? = some ob ∧ LO E ops f S b o o' ∧ OR P r q w 0 o' ob ∧ Out r (f t).x q.blk ∧ ∀ g, E.gl g = true → q.blk ≠ g
  apart : ∀ a b o a' b' o' q q', Loose E ops f S t a b o → Loose E ops f S t a' b' o' → r.bl b = some q → r.bl b' = some q' → q.blk = q'.blk → a = a'
  free : ∀ j, j < ops.size → ¬ S j → Free (f j).x.nx (f (j + 1)).x.nx r
  same : Same (f 0).x.nx (f ops.size).x.nx r0 r
  hsize : w0.heap.size ≤ w.heap.size
  keep : ∀ k, k < w0.heap.size → Out r0 (f 0).x k → w.heap[k]? = w0.heap[k]?
  img : ∀ k, k < w0.heap.size → Out r0 (f 0).x k → Out r (f t).x k ∧ ∀ a b o q, Loose E ops f S t a b o → r.bl b = some q → q.blk ≠ k
  os : w.os = w0.os
  out : w.output = w0.output
  insr : ∀ i b e, S i → Ins E ops f i b e → ∀ a o, Made E ops f a b o → S a

/-- A heap that holds nothing but what the base holds and what is loose. -/
structure HpIn (E : Env) (ops : Array Oper) (f : Nat → RS) (S : Nat → Prop) (t : Nat) (H : Hp) : Prop where
  nx : (f t).x.nx ≤ H.nx
  get : ∀ b o, H.get b = some o → (f t).x.get b = some o ∨ ∃ a o0, Loose E ops f S t a b o0 ∧ LO E ops f S b o0 o
  dom : ∀ b m s k, H.get b = some (.miter (some m) s k) → ∀ o, (f t).x.get m = some o → ∃ o', H.get m = some o'

theorem Inv.sub {r0 : Rho} {w0 : World} {t : Nat} (_hC : Ctx P E rc n ops f val) (hI : Inv P E n ops f val r0 w0 S t r tmps w) {H : Hp} (hH : HpIn E ops f S t H) : Rel P E r H w := by
  have hl : ∀ a b o0 o, Loose E ops f S t a b o0 → LO E ops f S b o0 o → ∃ q ob, r.bl b = some q ∧ w.heap[q.blk]? = some ob ∧ OR P r q w H.nx o ob ∧ Out r (f t).x q.blk ∧ ∀ g, E.gl g = true → q.blk ≠ g := by
    intro a b o0 o h1 h2
    obtain ⟨q, ob, o', h3, h4, h5, h6, h7, h8⟩ := hI.loose a b o0 h1
    exact ⟨q, ob, h3, h4, (h5.or h2 h6).any h2.kind, h7, h8⟩
  refine ⟨?_, ?_, ?_, ?_⟩
  · intro b o hb
    rcases hH.get b o hb with h | ⟨a, o0, h1, h2⟩
    · obtain ⟨q, ob, h3, h4, h5⟩ := hI.rel.os b o h
      exact ⟨q, ob, h3, h4, h5.ext (Le.refl r) hH.nx (fun _ k xs c hx => ⟨xs, hx⟩)⟩
    · obtain ⟨q, ob, h3, h4, h5, _⟩ := hl a b o0 o h1 h2
      exact ⟨q, ob, h3, h4, h5⟩
  · intro b b' o o' q q' hb hb' hq hq' he
    rcases hH.get b o hb with h | ⟨a, o0, h1, h2⟩
    · rcases hH.get b' o' hb' with h' | ⟨a', o0', h1', h2'⟩
      · exact hI.rel.inj b b' o o' q q' h h' hq hq' he
      · obtain ⟨q2, ob, h3, h4, h5, h6, _⟩ := hl a' b' o0' o' h1' h2'
        rw [hq'] at h3; cases h3
        exact absurd he (h6 b o q h hq)
    · rcases hH.get b' o' hb' with h' | ⟨a', o0', h1', h2'⟩
      · obtain ⟨q2, ob, h3, h4, h5, h6, _⟩ := hl a b o0 o h1 h2
        rw [hq] at h3; cases h3
        exact absurd he.symm (h6 b' o' q' h' hq')
      · have := hI.apart a b o0 a' b' o0' q q' h1 h1' hq hq' he
        subst this
        rw [h1.2.1.num, h1'.2.1.num]
  · intro g hg
    refine ⟨(hI.rel.gl g hg).1, fun b o q hb hq => ?_⟩
    rcases hH.get b o hb with h | ⟨a, o0, h1, h2⟩
    · exact (hI.rel.gl g hg).2 b o q h hq
    · obtain ⟨q2, ob, h3, h4, h5, h6, h7⟩ := hl a b o0 o h1 h2
      rw [hq] at h3; cases h3
      exact h7 g hg
  · intro b m s k hb hk
    rcases hH.get b _ hb with h | ⟨a, o0, h1, h2⟩
    · obtain ⟨q, ob, h3, h4, h5⟩ := hI.rel.os b _ h
      have h6 := h5.iter_le
      have h7 := hH.nx
      obtain ⟨es, he⟩ := hI.rel.it b m s k h (by omega)
      obtain ⟨o', ho'⟩ := hH.dom b m s k hb _ he
      rcases hH.get m o' ho' with h8 | ⟨a, o0, h8, h9⟩
      · rw [he] at h8; cases h8; exact ⟨es, ho'⟩
      · exfalso
        obtain ⟨q2, ob2, g1, g2, g3, g4, g5⟩ := hl a m o0 o' h8 h9
        exact g4 m _ q2 he g1 rfl
    · rcases h2.kind with ⟨_, _, e⟩ | ⟨_, e⟩ <;> cases e

/-- An operation that leaves the heap. -/
theorem Inv.quiet {r0 : Rho} {w0 : World} {t : Nat} (hC : Ctx P E rc n ops f val) (hI : Inv P E n ops f val r0 w0 S t r tmps w) {j : Nat} {o : Oper} (ho : ops[j]? = some o) (hj : ¬ S j) (hpre : ∀ i, ord (bef ops) i j = true → S i)
    (h1 : ∀ b o, ¬ Made E ops f j b o) (h2 : ∀ b e, ¬ Ins E ops f j b e) (h3 : ¬ IsE E ops f j) {x : Value} (hx : VR r (val j) x) (dfs : List Deferred) :
    Inv P E n ops f val r0 w0 (fun i => S i ∨ i = j) t r ((⟨tmps, dfs⟩ : Act).put o.dst x).tmps w := by
  have hL : ∀ a b o, Loose E ops f (fun i => S i ∨ i = j) t a b o → Loose E ops f S t a b o := by
    rintro a b o ⟨g1, g2, g3⟩
    rcases g1 with g1 | rfl
    · exact ⟨g1, g2, g3⟩
    · exact absurd g2 (h1 _ _)
  refine ⟨?_, hI.tm.put hC hI.closed ho hj (Le.refl r) hx dfs, ?_, hI.tle, hI.tE, hI.rel, ?_, ?_, ?_, hI.same, hI.hsize, hI.keep, ?_, hI.os, hI.out, ?_⟩
  · intro i k h hk
    rcases hk with hk | rfl
    · exact .inl (hI.closed i k h hk)
    · exact .inl (hpre i h)
  · intro e hE
    rw [← hI.base e hE]
    exact ⟨fun h => h.resolve_right (by intro e; subst e; exact h3 hE), .inl⟩
  · intro a b o hl
    obtain ⟨q, ob, o', g1, g2, g3, g4⟩ := hI.loose a b o (hL a b o hl)
    refine ⟨q, ob, o', g1, g2, g3.of_iff fun i e hI' => ?_, g4⟩
    exact ⟨fun h => h.resolve_right (by intro e; subst e; exact h2 _ _ hI'), .inl⟩
  · intro a b o a' b' o' q q' g1 g2
    exact hI.apart a b o a' b' o' q q' (hL _ _ _ g1) (hL _ _ _ g2)
  · intro i hi hni
    exact hI.free i hi fun h => hni (.inl h)
  · intro k hk ho
    obtain ⟨g1, g2⟩ := hI.img k hk ho
    exact ⟨g1, fun a b o q hl => g2 a b o q (hL a b o hl)⟩
  · intro i b e hi hI' a o hM
    rcases hi with hi | rfl
    · exact .inl (hI.insr i b e hi hI' a o hM)
    · exact absurd hI' (h2 _ _)
/-- Where nothing of the heap's has changed. -/
theorem Rel.frame {h : Hp} (hR : Rel P E r h w) (hl : Le r r') (hk : ∀ b o q, h.get b = some o → r.bl b = some q → w'.heap[q.blk]? = w.heap[q.blk]?) (hg : ∀ g, E.gl g = true → w'.heap[g]? = w.heap[g]?) : Rel P E r' h w' := by
  have back : ∀ b o q, h.get b = some o → r'.bl b = some q → r.bl b = some q := by
    intro b o q hb hq
    obtain ⟨q2, ob, h1, _⟩ := hR.os b o hb
    have := hl.bl _ _ h1
    rw [hq] at this; cases this
    exact h1
  refine ⟨?_, ?_, ?_, hR.it⟩
  · intro b o hb
    obtain ⟨q, ob, h1, h2, h3⟩ := hR.os b o hb
    refine ⟨q, ob, hl.bl _ _ h1, by rw [hk b o q hb h1]; exact h2, ?_⟩
    cases o with
    | miter m seen k =>
      cases m with
      | none => exact h3
      | some m =>
        obtain ⟨g0, p, since, sa, stepped, hp, he, hkk, hc, hs⟩ := h3
        refine ⟨g0, p, since, sa, stepped, hl.bl _ _ hp, he, hkk, fun e => ?_, ?_⟩
        · obtain ⟨xs, hx⟩ := hc e
          obtain ⟨es, hm⟩ := hR.it b m seen k hb e
          exact ⟨xs, by rw [hk m _ p hm hp]; exact hx⟩
        · cases seen with
          | none => exact hs
          | some i => obtain ⟨n, hn, h1, h2⟩ := hs; exact ⟨n, hl.st _ _ hn, h1, h2⟩
    | cells cs el fz => obtain ⟨c, lo, hi, he, hc⟩ := h3; exact ⟨c, lo, hi, he, hc.ext hl⟩
    | map es => obtain ⟨xs, clock, he, hm⟩ := h3; exact ⟨xs, clock, he, hm.ext hl⟩
    | siter s pos => exact h3
    | loop st pend fn n tm ps asg body d =>
      obtain ⟨L, p, he, h1, h2, h3, h4, h5, h6, h7, h8, h9⟩ := h3
      exact ⟨L, p, he, h1, h2, h3, h4.ext hl, h5, h6, h7, hl.bl _ _ h8, h9⟩
    | defd f => cases f <;> exact h3
  · intro b b' o o' q q' h1 h2 h3 h4
    exact hR.inj b b' o o' q q' h1 h2 (back _ _ _ h1 h3) (back _ _ _ h2 h4)
  · intro g hgl
    obtain ⟨⟨x, hx, h1⟩, h2⟩ := hR.gl g hgl
    refine ⟨⟨x, ?_, h1⟩, fun b o q hb hq => h2 b o q hb (back _ _ _ hb hq)⟩
    unfold World.cell? at hx ⊢
    simp only [hg g hgl]
    exact hx
theorem Rel.glt {h : Hp} (hR : Rel P E r h w) {g : Nat} (hg : E.gl g = true) : g < w.heap.size := by
  obtain ⟨⟨x, hx, _⟩, _⟩ := hR.gl g hg
  unfold World.cell? at hx
  by_cases h : g < w.heap.size
  · exact h
  · rw [Array.getElem?_eq_none (show w.heap.size ≤ g by omega)] at hx; cases hx
theorem Rel.blt {h : Hp} (hR : Rel P E r h w) {b : Nat} {o : O} {q : RB} (hb : h.get b = some o) (hq : r.bl b = some q) : q.blk < w.heap.size := by
  obtain ⟨q2, ob, h1, h2, _⟩ := hR.os b o hb
  rw [hq] at h1; cases h1
  exact lt_of_get h2
end
end Go.Ev
namespace Go.Ev

section
variable {P : Program} {E : Env} {rc : RC} {n : Nat} {ops : Array Oper} {f : Nat → RS} {val : Nat → V} {S : Nat → Prop} {r r' : Rho} {tmps : Array Value} {w w' : World} {r0 : Rho} {w0 : World} {t : Nat}

theorem Same.free {lo hi l2 h2 : Nat} (h : Same lo hi r r') (hf : Free l2 h2 r) (hd : h2 ≤ lo ∨ hi ≤ l2) : Free l2 h2 r' :=
  ⟨fun b h3 h4 => (h.bl b (by omega)).trans (hf.bl b h3 h4), fun b h3 h4 => (h.st b (by omega)).trans (hf.st b h3 h4)⟩
/-- The numbers of another operation lie apart. -/
theorem Ctx.apart_nx (hC : Ctx P E rc n ops f val) {i j : Nat} (hi : i < ops.size) (hj : j < ops.size) (hne : i ≠ j) : (f (i + 1)).x.nx ≤ (f j).x.nx ∨ (f (j + 1)).x.nx ≤ (f i).x.nx := by
  by_cases h : i < j
  · exact .inl (hC.tr.nx_le hC.mono (by omega) (by omega))
  · exact .inr (hC.tr.nx_le hC.mono (by omega) (by omega))
theorem Inv.closed' (hI : Inv P E n ops f val r0 w0 S t r tmps w) {j : Nat} (hpre : ∀ i, ord (bef ops) i j = true → S i) : ∀ i k, ord (bef ops) i k = true → (S k ∨ k = j) → (S i ∨ i = j) := by
  intro i k h hk
  rcases hk with hk | rfl
  · exact .inl (hI.closed i k h hk)
  · exact .inl (hpre i h)
theorem Inv.free' (hC : Ctx P E rc n ops f val) (hI : Inv P E n ops f val r0 w0 S t r tmps w) {j : Nat} (hjlt : j < ops.size) (hs : Same (f j).x.nx (f (j + 1)).x.nx r r') : ∀ i, i < ops.size → ¬ (S i ∨ i = j) → Free (f i).x.nx (f (i + 1)).x.nx r' := by
  intro i hi hni
  have hne : i ≠ j := fun e => hni (.inr e)
  have h1 := hI.free i hi fun h => hni (.inl h)
  refine Same.free hs h1 ?_
  rcases hC.apart_nx hi hjlt hne with h | h
  · exact .inl h
  · exact .inr h
theorem Inv.same' (hC : Ctx P E rc n ops f val) (hI : Inv P E n ops f val r0 w0 S t r tmps w) {j : Nat} (hjlt : j < ops.size) (hs : Same (f j).x.nx (f (j + 1)).x.nx r r') : Same (f 0).x.nx (f ops.size).x.nx r0 r' := by
  have h1 := hC.tr.nx_le hC.mono (Nat.zero_le j) (Nat.le_of_lt hjlt)
  have h2 := hC.tr.nx_le hC.mono (i := j + 1) (j := ops.size) hjlt (Nat.le_refl _)
  have h3 := hs.widen h1 h2
  exact ⟨fun b hb => (h3.bl b hb).trans (hI.same.bl b hb), fun b hb => (h3.st b hb).trans (hI.same.st b hb)⟩

/-- An operation that makes a block. -/
theorem Inv.make (hC : Ctx P E rc n ops f val) (hI : Inv P E n ops f val r0 w0 S t r tmps w) {j : Nat} {o : Oper} (ho : ops[j]? = some o) (hj : ¬ S j) (hpre : ∀ i, ord (bef ops) i j = true → S i) (hw : wantA ops.toList (f j).tm o.guard = some true) (hc : clOf E o.op = .a) (dfs : List Deferred) :
    ∃ x r' w', (execOp (⟨tmps, dfs⟩ : Act).eval o).run P w = .ok (.value x) w' ∧ Inv P E n ops f val r0 w0 (fun i => S i ∨ i = j) t r' ((⟨tmps, dfs⟩ : Act).put o.dst x).tmps w' := by
  have hjlt : j < ops.size := (Array.getElem?_eq_some_iff.1 ho).1
  obtain ⟨ob, hx, hM⟩ := hC.tr.a_step ho hw hc
  have hT := hI.tm.reads hC hI.closed ho hj hpre
  have hx2 := hx
  rw [execA_congr (tm' := restrict (f j).tm (readsOf ops.toList o)) reads_agree] at hx2
  obtain ⟨x, obj, q, w', hrun, h1, h2, h3, h4, h5⟩ := execA_sound (P := P) (w := w) (a := ⟨tmps, dfs⟩) hC.tis hT hx2
  have hnx := hC.tr.made_nx hM
  have hfree := hI.free j hjlt hj
  have hrn : r.bl (f j).x.nx = none := hfree.bl _ (Nat.le_refl _) (by omega)
  have hle := Rho.put_le (q := q) hrn
  obtain ⟨h6, h7⟩ := h5 (r.put (f j).x.nx q) hle (Rho.put_get _ _ _)
  have hsame : Same (f j).x.nx (f (j + 1)).x.nx r (r.put (f j).x.nx q) := by rw [hnx]; exact Rho.put_same _ _ _
  have hold : ∀ k, k < w.heap.size → w'.heap[k]? = w.heap[k]? := by
    intro k hk
    rw [h1, Array.getElem?_push, if_neg (by omega)]
  have noI : ∀ b e, ¬ Ins E ops f j b e := fun _ _ h => hM.notI h
  have back : ∀ b q', r.bl b ≠ none → (r.put (f j).x.nx q).bl b = some q' → r.bl b = some q' := by
    intro b q' hb h
    rw [Rho.put_get'] at h
    · exact h
    · intro e; subst e; exact hb hrn
  have hL : ∀ a b o, Loose E ops f (fun i => S i ∨ i = j) t a b o → Loose E ops f S t a b o ∨ (a = j ∧ b = (f j).x.nx ∧ o = ob) := by
    rintro a b o ⟨g1, g2, g3⟩
    rcases g1 with g1 | rfl
    · exact .inl ⟨g1, g2, g3⟩
    · refine .inr ⟨rfl, g2.num, ?_⟩
      have := g2.num; subst this
      exact g2.fn hM
  have lbl : ∀ a b o, Loose E ops f S t a b o → ∃ q', r.bl b = some q' ∧ q'.blk < w.heap.size := by
    intro a b o hl
    obtain ⟨q', ob', _, g1, g2, _⟩ := hI.loose a b o hl
    exact ⟨q', g1, lt_of_get g2⟩
  refine ⟨x, r.put (f j).x.nx q, w', hrun, ?_⟩
  refine ⟨hI.closed' hpre, hI.tm.put hC hI.closed ho hj hle h6 dfs, ?_, hI.tle, hI.tE, ?_, ?_, ?_, hI.free' hC hjlt hsame, hI.same' hC hjlt hsame, ?_, ?_, ?_, by rw [h2]; exact hI.os, by rw [h3]; exact hI.out, ?_⟩
  · intro e hE
    rw [← hI.base e hE]
    exact ⟨fun h => h.resolve_right (by intro e; subst e; exact hM.notE hE), .inl⟩
  · exact hI.rel.frame hle (fun b o q' hb hq => hold _ (hI.rel.blt hb hq)) (fun g hg => hold _ (hI.rel.glt hg))
  · intro a b o' hl
    rcases hL a b o' hl with hl | ⟨rfl, rfl, rfl⟩
    · obtain ⟨q', ob', oo, g1, g2, g3, g4, g5, g6⟩ := hI.loose a b o' hl
      have hbq : q'.blk < w.heap.size := lt_of_get g2
      refine ⟨q', ob', oo, hle.bl _ _ g1, by rw [hold _ hbq]; exact g2, g3.of_iff fun i e hI' => ?_, ?_, ?_, g6⟩
      · exact ⟨fun h => h.resolve_right (by intro e; subst e; exact noI _ _ hI'), .inl⟩
      · exact (g4.ext hle (Nat.le_refl _) (w' := w) (fun _ k xs c hx => ⟨xs, hx⟩)).any g3.kind
      · intro b1 o1 q1 hb1 hq1
        obtain ⟨q2, _, k1, _⟩ := hI.rel.os b1 o1 hb1
        exact g5 b1 o1 q1 hb1 (back b1 q1 (by rw [k1]; simp) hq1)
    · refine ⟨q, obj, o', Rho.put_get _ _ _, by rw [h1, h4]; simp, ?_, h7 _ _, ?_, ?_⟩
      · rcases execA_kind hx with ⟨cs, el, rfl⟩ | rfl
        · exact .inr ⟨⟨cs, el, rfl⟩, rfl⟩
        · refine .inl ⟨rfl, [], by simp, fun e => ⟨fun h => by simp at h, fun ⟨i, hi, hI'⟩ => ?_⟩, rfl⟩
          rcases hi with hi | rfl
          · exact absurd (hI.insr i _ e hi hI' _ _ hM) hj
          · exact absurd hI' (noI _ _)
      · intro b1 o1 q1 hb1 hq1
        obtain ⟨q2, _, k1, k2, _⟩ := hI.rel.os b1 o1 hb1
        have := back b1 q1 (by rw [k1]; simp) hq1
        rw [k1] at this; cases this
        have := lt_of_get k2
        omega
      · intro g hg
        have := hI.rel.glt hg
        omega
  · intro a b o1 a' b' o1' q1 q2 g1 g2 g3 g4 g5
    rcases hL a b o1 g1 with g1 | ⟨rfl, rfl, rfl⟩
    · obtain ⟨p1, k1, k2⟩ := lbl a b o1 g1
      have e1 := back b q1 (by rw [k1]; simp) g3
      rcases hL a' b' o1' g2 with g2 | ⟨rfl, rfl, rfl⟩
      · obtain ⟨p2, k3, k4⟩ := lbl a' b' o1' g2
        exact hI.apart a b o1 a' b' o1' q1 q2 g1 g2 e1 (back b' q2 (by rw [k3]; simp) g4) g5
      · rw [Rho.put_get] at g4; cases g4
        rw [k1] at e1; cases e1
        omega
    · rw [Rho.put_get] at g3; cases g3
      rcases hL a' b' o1' g2 with g2 | ⟨rfl, rfl, rfl⟩
      · obtain ⟨p2, k3, k4⟩ := lbl a' b' o1' g2
        have e2 := back b' q2 (by rw [k3]; simp) g4
        rw [k3] at e2; cases e2
        omega
      · rfl
  · have := hI.hsize; rw [h1]; simp; omega
  · intro k hk hout
    rw [hold k (Nat.lt_of_lt_of_le hk hI.hsize)]
    exact hI.keep k hk hout
  · intro k hk hout
    obtain ⟨g1, g2⟩ := hI.img k hk hout
    have hkw := Nat.lt_of_lt_of_le hk hI.hsize
    refine ⟨?_, ?_⟩
    · intro b1 o1 q1 hb1 hq1
      obtain ⟨q2, _, k1, _⟩ := hI.rel.os b1 o1 hb1
      exact g1 b1 o1 q1 hb1 (back b1 q1 (by rw [k1]; simp) hq1)
    · intro a b o1 q1 hl hq1
      rcases hL a b o1 hl with hl | ⟨rfl, rfl, rfl⟩
      · obtain ⟨p1, k1, k2⟩ := lbl a b o1 hl
        exact g2 a b o1 q1 hl (back b q1 (by rw [k1]; simp) hq1)
      · rw [Rho.put_get] at hq1; cases hq1; omega
  · intro i b e hi hI' a o1 hM'
    rcases hi with hi | rfl
    · exact .inl (hI.insr i b e hi hI' a o1 hM')
    · exact absurd hI' (noI _ _)

theorem first_gone {a : Nat} : ∀ {j t : Nat}, j ≤ t → Live f j a → ¬ Live f t a → ∃ e, j ≤ e ∧ e < t ∧ Live f e a ∧ ¬ Live f (e + 1) a := by
  intro j t
  induction t with
  | zero => intro h1 h2 h3; have : j = 0 := by omega
            subst this; exact absurd h2 h3
  | succ t ih =>
    intro h1 h2 h3
    by_cases e : j = t + 1
    · subst e; exact absurd h2 h3
    · by_cases hl : Live f t a
      · exact ⟨t, by omega, Nat.lt_succ_self _, hl, h3⟩
      · obtain ⟨e, g1, g2, g3⟩ := ih (by omega) h2 hl
        exact ⟨e, g1, by omega, g3⟩
theorem updV_new {i : Nat} {k v : V} : ∀ {es : List Me}, (∀ e ∈ es, eqCell k e.k = some false) → updV i k v es = some (es ++ [⟨i, k, v⟩]) := by
  intro es
  induction es with
  | nil => intro _; rfl
  | cons e es ih =>
    intro h
    simp only [updV, h e (by simp), ob, cond_false, ih fun e he => h e (by simp [he])]
    rfl
end
end Go.Ev
namespace Go.Ev

section
variable {P : Program} {E : Env} {rc : RC} {n : Nat} {ops : Array Oper} {f : Nat → RS} {val : Nat → V} {S : Nat → Prop} {r r' : Rho} {tmps : Array Value} {w w' : World} {r0 : Rho} {w0 : World} {t : Nat}

/-- The map literal that an operation lays an entry into, when it is its turn. -/
theorem Inv.ins_loose (hC : Ctx P E rc n ops f val) (hI : Inv P E n ops f val r0 w0 S t r tmps w) {j b : Nat} {e : Me} (hj : ¬ S j) (hIn : Ins E ops f j b e) {q : RB} (hq : r.bl b = some q) :
    ∃ a, Loose E ops f S t a b (.map []) ∧ Made E ops f a b (.map []) := by
  obtain ⟨p, hp, hb, hpo, _⟩ := hC.tr.ins_pend hIn
  have hjlt := hIn.lt
  have hPj := hC.tr.pinv hC.mono hC.p0 j (Nat.le_of_lt hjlt)
  obtain ⟨h1, h2⟩ := hPj.made p hp
  rw [hb, hpo] at h2
  have hS : S p.i := by
    apply Classical.byContradiction
    intro hn
    have := (hI.free p.i h2.lt hn).bl b (by rw [h2.num]; exact Nat.le_refl _) (by rw [hC.tr.made_nx h2, h2.num]; omega)
    rw [hq] at this; cases this
  refine ⟨p.i, ⟨hS, h2, fun hlt => ?_⟩, h2⟩
  by_cases htj : t ≤ j
  · exact hC.tr.live_le hlt htj (Nat.le_of_lt hjlt) ⟨p, hp, rfl⟩
  · apply Classical.byContradiction
    intro hn
    obtain ⟨e1, g1, g2, g3, g4⟩ := first_gone (by omega) ⟨p, hp, rfl⟩ hn
    have he1 : e1 < ops.size := by have := hI.tle; omega
    obtain ⟨hE1, hseen⟩ := hC.tr.gone he1 g3 g4
    have hne : e1 ≠ j := by intro h; subst h; exact hIn.notE hE1
    obtain ⟨p1, hp1, hpi⟩ := g3
    have hP1 := hC.tr.pinv hC.mono hC.p0 e1 (Nat.le_of_lt he1)
    have hM1 := (hP1.made p1 hp1).2
    rw [hpi] at hM1
    have hbb : p1.b = b := by rw [hM1.num, h2.num]
    have hin := hP1.insc p1 hp1 j e (by omega) (by rw [hbb]; exact hIn)
    have hord := (seenP_spec (hseen p1 hp1 hpi)).2 _ hin
    exact hj (hI.closed _ _ hord ((hI.base e1 hE1).2 g2))

/-- The keys that are there are others. -/
theorem Inv.ins_keys (hC : Ctx P E rc n ops f val) {j b : Nat} {e : Me} (hj : ¬ S j) (hIn : Ins E ops f j b e) {i : Nat} {e' : Me} (hi : S i) (hIn' : Ins E ops f i b e') : eqCell e.k e'.k = some false := by
  have hne : i ≠ j := by intro h; subst h; exact hj hi
  by_cases hlt : i < j
  · obtain ⟨p, hp, hb, _, hk⟩ := hC.tr.ins_pend hIn
    have hP := hC.tr.pinv hC.mono hC.p0 j (Nat.le_of_lt hIn.lt)
    exact hk _ (hP.insc p hp i e' hlt (by rw [hb]; exact hIn'))
  · obtain ⟨p, hp, hb, _, hk⟩ := hC.tr.ins_pend hIn'
    have hP := hC.tr.pinv hC.mono hC.p0 i (Nat.le_of_lt hIn'.lt)
    rw [eqCell_comm]
    exact hk _ (hP.insc p hp j e (by omega) (by rw [hb]; exact hIn))

theorem Inv.lay (hC : Ctx P E rc n ops f val) (hI : Inv P E n ops f val r0 w0 S t r tmps w) {j : Nat} {o : Oper} (ho : ops[j]? = some o) (hj : ¬ S j) (hpre : ∀ i, ord (bef ops) i j = true → S i) (hw : wantA ops.toList (f j).tm o.guard = some true) (hc : clOf E o.op = .i) (dfs : List Deferred) :
    ∃ nx x r' w', (execOp (⟨tmps, dfs⟩ : Act).eval o).run P w = .ok nx w' ∧ (nx = .value x ∨ (nx = .skip ∧ x = undef)) ∧ Inv P E n ops f val r0 w0 (fun i => S i ∨ i = j) t r' ((⟨tmps, dfs⟩ : Act).put o.dst x).tmps w' := by
  have hjlt : j < ops.size := (Array.getElem?_eq_some_iff.1 ho).1
  obtain ⟨hval, b, e, hIn⟩ := hC.tr.i_step ho hw hc
  have hT := hI.tm.reads hC hI.closed ho hj hpre
  have hIn2 := hIn
  obtain ⟨o2, tt, m, k, xo, ki, kv, xv, g1, g2, g3, g4, g5, g6, g7, g8, g9, g10⟩ := hIn2
  rw [ho] at g1; cases g1
  have ag : ∀ y ∈ o.op.operands, evo (f j).tm y = evo (restrict (f j).tm (readsOf ops.toList o)) y := reads_agree
  have hm' : evo (restrict (f j).tm (readsOf ops.toList o)) m = some (.map b) := by rw [← ag m (by rw [g4]; simp [Op.operands])]; exact g7
  have hk' : evo (restrict (f j).tm (readsOf ops.toList o)) k = some kv := by rw [← ag k (by rw [g4]; simp [Op.operands])]; exact g8
  have hx' : evo (restrict (f j).tm (readsOf ops.toList o)) xo = some xv := by rw [← ag xo (by rw [g4]; simp [Op.operands])]; exact g9
  obtain ⟨q, hq, _⟩ := evo_sound (a := ⟨tmps, dfs⟩) hT hm'
  obtain ⟨a, hLo, hM⟩ := hI.ins_loose hC hj hIn hq
  obtain ⟨q2, ob1, o', k1, k2, k3, k4, k5, k6⟩ := hI.loose a b _ hLo
  rw [hq] at k1; cases k1
  obtain ⟨es, hnd, hmem, rfl⟩ : ∃ es : List Me, es.Nodup ∧ (∀ e, e ∈ es ↔ ∃ i, S i ∧ Ins E ops f i b e) ∧ o' = .map es := by
    rcases k3 with ⟨_, es, h1, h2, h3⟩ | ⟨⟨_, _, h⟩, _⟩
    · exact ⟨es, h1, h2, h3⟩
    · cases h
  -- the small heap of that map alone
  let h1 : Hp := ⟨(f j).x.nx, T.set .leaf b (some (.map es))⟩
  have hget1 : ∀ b1, h1.get b1 = if b1 = b then some (.map es) else none := by
    intro b1
    show (T.set T.leaf b (some (O.map es))).get b1 = _
    rw [T.get_set, leaf_get]
  have hR1 : Rel P E r h1 w := by
    refine ⟨?_, ?_, ?_, ?_⟩
    · intro b1 o1 h
      rw [hget1] at h
      by_cases e1 : b1 = b
      · subst e1
        rw [if_pos rfl] at h; cases h
        exact ⟨q, ob1, hq, k2, OR.any (.inr ⟨es, rfl⟩) k4⟩
      · rw [if_neg e1] at h; cases h
    · intro b1 b2 o1 o2 q1 q2 h h' _ _ _
      rw [hget1] at h h'
      by_cases e1 : b1 = b
      · by_cases e2 : b2 = b
        · rw [e1, e2]
        · rw [if_neg e2] at h'; cases h'
      · rw [if_neg e1] at h; cases h
    · intro g hg
      refine ⟨(hI.rel.gl g hg).1, fun b1 o1 q1 h hq1 => ?_⟩
      rw [hget1] at h
      by_cases e1 : b1 = b
      · subst e1; rw [hq] at hq1; cases hq1; exact k6 g hg
      · rw [if_neg e1] at h; cases h
    · intro b1 m1 s1 k1 h
      rw [hget1] at h
      by_cases e1 : b1 = b
      · rw [if_pos e1] at h; cases h
      · rw [if_neg e1] at h; cases h
  have hupd : updV (f j).x.nx kv xv es = some (es ++ [e]) := by
    rw [g10]
    refine updV_new fun e' he' => ?_
    obtain ⟨i, hi, hIn'⟩ := (hmem e').1 he'
    have := Inv.ins_keys hC hj hIn hi hIn'
    rw [g10] at this
    exact this
  have hexec : execE E (restrict (f j).tm (readsOf ops.toList o)) o.op h1 = some (.tup [], h1.bump.set b (.map (es ++ [e]))) := by
    rw [g4]
    simp only [execE, g5, hm', hk', hx']
    have hg : h1.get b = some (.map es) := by rw [hget1, if_pos rfl]
    have : updateM ki.d (.map b) kv xv h1 = some (h1.bump.set b (.map (es ++ [e]))) := by
      unfold updateM
      rw [g6, cond_true]
      simp only [hg]
      show Ev.ob (updV (f j).x.nx kv xv es) _ = _
      rw [hupd]; rfl
    show Ev.ob (updateM ki.d (.map b) kv xv h1) _ = _
    rw [this]; rfl
  have hnx := hC.tr.ins_nx hIn
  have hfree := hI.free j hjlt hj
  obtain ⟨nx, x, r', w', hrun, hn, hv, hst⟩ := execE_sound (a := ⟨tmps, dfs⟩) hC.tis hR1 hT (by rw [hnx] at hfree; exact hfree) hexec
  have hsame : Same (f j).x.nx (f (j + 1)).x.nx r r' := by rw [hnx]; exact hst.same
  have hle : Le r r' := hfree.le hsame
  have hv' : VR r' (val j) x := by rw [hval]; exact hv
  -- what is there behind it
  obtain ⟨q', ob', hq', hob', hor'⟩ := hst.rel.os b (.map (es ++ [e])) (by rw [Hp.get_set, if_pos rfl])
  have := hle.bl _ _ hq
  rw [hq'] at this; cases this
  have hold : ∀ k, k < w.heap.size → k ≠ q.blk → w'.heap[k]? = w.heap[k]? := by
    intro k hk hne
    refine hst.keep k hk ?_
    intro b1 o1 q1 hb1 hq1
    rw [hget1] at hb1
    by_cases e1 : b1 = b
    · subst e1; rw [hq] at hq1; cases hq1; exact fun h => hne h.symm
    · rw [if_neg e1] at hb1; cases hb1
  have noM : ∀ b o, ¬ Made E ops f j b o := fun _ _ h => h.notI hIn
  have hL : ∀ a b o, Loose E ops f (fun i => S i ∨ i = j) t a b o → Loose E ops f S t a b o := by
    rintro a b o ⟨l1, l2, l3⟩
    rcases l1 with l1 | l1
    · exact ⟨l1, l2, l3⟩
    · exact absurd (l1 ▸ l2) (noM _ _)
  have lbl : ∀ a b o, Loose E ops f S t a b o → ∃ q', r.bl b = some q' ∧ q'.blk < w.heap.size := by
    intro a b o hl
    obtain ⟨q', ob', _, g1, g2, _⟩ := hI.loose a b o hl
    exact ⟨q', g1, lt_of_get g2⟩
  have back : ∀ b q', r.bl b ≠ none → r'.bl b = some q' → r.bl b = some q' := by
    intro b q' hb h
    cases hx : r.bl b with
    | none => exact absurd hx hb
    | some q2 => have := hle.bl _ _ hx; rw [h] at this; cases this; rfl
  refine ⟨nx, x, r', w', hrun, hn, ?_⟩
  refine ⟨hI.closed' hpre, hI.tm.put hC hI.closed ho hj hle hv' dfs, ?_, hI.tle, hI.tE, ?_, ?_, ?_, hI.free' hC hjlt hsame, hI.same' hC hjlt hsame, Nat.le_trans hI.hsize hst.size, ?_, ?_, by rw [hst.os]; exact hI.os, by rw [hst.out]; exact hI.out, ?_⟩
  · intro e1 hE
    rw [← hI.base e1 hE]
    exact ⟨fun h => h.resolve_right (by intro e; subst e; exact hIn.notE hE), .inl⟩
  · exact hI.rel.frame hle (fun b1 o1 q1 hb1 hq1 => hold _ (hI.rel.blt hb1 hq1) (k5 b1 o1 q1 hb1 hq1)) (fun g hg => hold _ (hI.rel.glt hg) (fun h => k6 g hg h.symm))
  · intro a1 b1 o1 hl
    have hl := hL a1 b1 o1 hl
    obtain ⟨q1, ob2, oo, g1, g2, g3, g4, g5, g6⟩ := hI.loose a1 b1 o1 hl
    have hbase : Out r' (f t).x q1.blk := by
      intro b2 o2 q2 hb2 hq2
      obtain ⟨q3, _, k1, _⟩ := hI.rel.os b2 o2 hb2
      exact g5 b2 o2 q2 hb2 (back b2 q2 (by rw [k1]; simp) hq2)
    by_cases e1 : a1 = a
    · subst e1
      have hbb : b1 = b := by rw [hl.2.1.num, hM.num]
      subst hbb
      rw [hq] at g1; cases g1
      have := hl.2.1.fn hM
      subst this
      refine ⟨q, ob', .map (es ++ [e]), hq', hob', .inl ⟨rfl, es ++ [e], ?_, ?_, rfl⟩, OR.any (.inr ⟨_, rfl⟩) hor', hbase, g6⟩
      · refine List.nodup_append.2 ⟨hnd, by simp, fun x hx y hy => ?_⟩
        simp only [List.mem_singleton] at hy
        subst hy
        intro h
        subst h
        obtain ⟨i, hi, hIn'⟩ := (hmem x).1 hx
        have := hC.tr.ins_inj hC.mono hIn' hIn rfl
        subst this
        exact hj hi
      · intro e'
        rw [List.mem_append, hmem, List.mem_singleton]
        constructor
        · rintro (⟨i, hi, hIn'⟩ | rfl)
          · exact ⟨i, .inl hi, hIn'⟩
          · exact ⟨j, .inr rfl, hIn⟩
        · rintro ⟨i, hi | rfl, hIn'⟩
          · exact .inl ⟨i, hi, hIn'⟩
          · exact .inr (hIn'.fn hIn).2
    · have hne : q1.blk ≠ q.blk := fun h => e1 (hI.apart a1 b1 o1 a b _ q1 q hl hLo g1 hq h)
      refine ⟨q1, ob2, oo, hle.bl _ _ g1, by rw [hold _ (lt_of_get g2) hne]; exact g2, g3.of_iff fun i e2 hI' => ?_, ?_, hbase, g6⟩
      · refine ⟨fun h => h.resolve_right ?_, .inl⟩
        intro h; subst h
        obtain ⟨hbb, _⟩ := hI'.fn hIn
        subst hbb
        exact e1 (hC.tr.made_inj hC.mono hl.2.1 hM)
      · exact (g4.ext hle (Nat.le_refl _) (w' := w) (fun _ k xs c hx => ⟨xs, hx⟩)).any g3.kind
  · intro a1 b1 o1 a2 b2 o2 q1 q2 g1 g2 g3 g4 g5
    have g1 := hL _ _ _ g1
    have g2 := hL _ _ _ g2
    obtain ⟨p1, k1, _⟩ := lbl _ _ _ g1
    obtain ⟨p2, k2, _⟩ := lbl _ _ _ g2
    exact hI.apart a1 b1 o1 a2 b2 o2 q1 q2 g1 g2 (back b1 q1 (by rw [k1]; simp) g3) (back b2 q2 (by rw [k2]; simp) g4) g5
  · intro k hk hout
    obtain ⟨_, g2⟩ := hI.img k hk hout
    rw [hold k (Nat.lt_of_lt_of_le hk hI.hsize) (fun h => g2 a b _ q hLo hq h.symm)]
    exact hI.keep k hk hout
  · intro k hk hout
    obtain ⟨g1, g2⟩ := hI.img k hk hout
    refine ⟨?_, ?_⟩
    · intro b1 o1 q1 hb1 hq1
      obtain ⟨q2, _, k1, _⟩ := hI.rel.os b1 o1 hb1
      exact g1 b1 o1 q1 hb1 (back b1 q1 (by rw [k1]; simp) hq1)
    · intro a1 b1 o1 q1 hl hq1
      have hl := hL _ _ _ hl
      obtain ⟨p1, k1, k2⟩ := lbl a1 b1 o1 hl
      exact g2 a1 b1 o1 q1 hl (back b1 q1 (by rw [k1]; simp) hq1)
  · intro i b1 e1 hi hI' a1 o1 hM'
    rcases hi with hi | rfl
    · exact .inl (hI.insr i b1 e1 hi hI' a1 o1 hM')
    · obtain ⟨hbb, _⟩ := hI'.fn hIn
      subst hbb
      have := hC.tr.made_inj hC.mono hM' hM
      subst this
      exact .inl hLo.1
end
end Go.Ev
namespace Go.Ev

section
variable {P : Program} {E : Env} {rc : RC} {n : Nat} {ops : Array Oper} {f : Nat → RS} {val : Nat → V} {S : Nat → Prop} {r r' : Rho} {tmps : Array Value} {w w' : World} {r0 : Rho} {w0 : World} {t : Nat}

theorem addL_get {b : List Nat} {j : Nat} {os : T O} {k : Nat} {o : O} : ∀ {l : List Pd}, (addL b j l os).get k = some o → os.get k = some o ∨ ∃ p ∈ l, ord b p.i j = true ∧ p.b = k ∧ p.o = o ∧ ∃ cs el fz, o = .cells cs el fz := by
  intro l
  induction l with
  | nil => intro h; exact .inl h
  | cons p l ih =>
    intro h
    simp only [addL] at h
    have old : (addL b j l os).get k = some o → os.get k = some o ∨ ∃ q ∈ p :: l, ord b q.i j = true ∧ q.b = k ∧ q.o = o ∧ ∃ cs el fz, o = .cells cs el fz := by
      intro h
      rcases ih h with h | ⟨q, h1, h2⟩
      · exact .inl h
      · exact .inr ⟨q, List.mem_cons_of_mem _ h1, h2⟩
    cases ho : ord b p.i j with
    | false => rw [ho] at h; exact old h
    | true =>
      rw [ho, cond_true] at h
      split at h
      · rename_i cs el fz hpo
        rw [T.get_set] at h
        by_cases e : k = p.b
        · rw [if_pos e] at h
          cases h
          exact .inr ⟨p, by simp, ho, e.symm, rfl, cs, el, fz, hpo⟩
        · rw [if_neg e] at h; exact old h
      · exact old h
theorem addL_dom {b : List Nat} {j : Nat} {os : T O} {k : Nat} {o : O} : ∀ {l : List Pd}, os.get k = some o → ∃ o', (addL b j l os).get k = some o' := by
  intro l
  induction l with
  | nil => intro h; exact ⟨o, h⟩
  | cons p l ih =>
    intro h
    obtain ⟨o', h'⟩ := ih h
    simp only [addL]
    cases ho : ord b p.i j with
    | false => exact ⟨o', h'⟩
    | true =>
      rw [cond_true]
      split
      · rw [T.get_set]
        by_cases e : k = p.b
        · exact ⟨p.o, by rw [if_pos e]⟩
        · exact ⟨o', by rw [if_neg e]; exact h'⟩
      · exact ⟨o', h'⟩
theorem addP_get {b : List Nat} {j : Nat} {os : T O} {k : Nat} {o : O} : ∀ {l : List Pd}, (addP b j l os).get k = some o → os.get k = some o ∨ ∃ p ∈ l, seenP b j p = true ∧ p.b = k ∧ p.obj = o := by
  intro l
  induction l with
  | nil => intro h; exact .inl h
  | cons p l ih =>
    intro h
    simp only [addP] at h
    have old : (addP b j l os).get k = some o → os.get k = some o ∨ ∃ q ∈ p :: l, seenP b j q = true ∧ q.b = k ∧ q.obj = o := by
      intro h
      rcases ih h with h | ⟨q, h1, h2⟩
      · exact .inl h
      · exact .inr ⟨q, List.mem_cons_of_mem _ h1, h2⟩
    cases ho : seenP b j p with
    | false => rw [ho] at h; exact old h
    | true =>
      rw [ho, cond_true, T.get_set] at h
      by_cases e : k = p.b
      · rw [if_pos e] at h
        exact .inr ⟨p, by simp, ho, e.symm, Option.some.inj h⟩
      · rw [if_neg e] at h; exact old h
theorem addP_dom {b : List Nat} {j : Nat} {os : T O} {k : Nat} {o : O} : ∀ {l : List Pd}, os.get k = some o → ∃ o', (addP b j l os).get k = some o' := by
  intro l
  induction l with
  | nil => intro h; exact ⟨o, h⟩
  | cons p l ih =>
    intro h
    obtain ⟨o', h'⟩ := ih h
    simp only [addP]
    cases ho : seenP b j p with
    | false => exact ⟨o', h'⟩
    | true =>
      rw [cond_true, T.get_set]
      by_cases e : k = p.b
      · exact ⟨p.obj, by rw [if_pos e]⟩
      · exact ⟨o', by rw [if_neg e]; exact h'⟩
theorem addAll_get {os : T O} {k : Nat} {o : O} : ∀ {l : List Pd}, (addAll l os).get k = some o → os.get k = some o ∨ ∃ p ∈ l, p.b = k ∧ p.obj = o := by
  intro l
  induction l with
  | nil => intro h; exact .inl h
  | cons p l ih =>
    intro h
    simp only [addAll] at h
    rw [T.get_set] at h
    by_cases e : k = p.b
    · rw [if_pos e] at h
      exact .inr ⟨p, by simp, e.symm, Option.some.inj h⟩
    · rw [if_neg e] at h
      rcases ih h with h | ⟨q, h1, h2⟩
      · exact .inl h
      · exact .inr ⟨q, List.mem_cons_of_mem _ h1, h2⟩
theorem addAll_dom {os : T O} {k : Nat} {o : O} : ∀ {l : List Pd}, os.get k = some o → ∃ o', (addAll l os).get k = some o' := by
  intro l
  induction l with
  | nil => intro h; exact ⟨o, h⟩
  | cons p l ih =>
    intro h
    obtain ⟨o', h'⟩ := ih h
    simp only [addAll]
    rw [T.get_set]
    by_cases e : k = p.b
    · exact ⟨p.obj, by rw [if_pos e]⟩
    · exact ⟨o', by rw [if_neg e]; exact h'⟩

theorem Made.kind {j b : Nat} {o : O} (h : Made E ops f j b o) : (∃ cs el, o = .cells cs el false) ∨ o = .map [] := by
  obtain ⟨_, _, _, _, _, hx, _⟩ := h
  exact execA_kind hx

theorem Inv.in_addL (hC : Ctx P E rc n ops f val) (_hI : Inv P E n ops f val r0 w0 S t r tmps w) {j u nx : Nat} (hpre : ∀ i, ord (bef ops) i j = true → S i) (htu : t ≤ u) (hu : u ≤ ops.size) (hn : (f t).x.nx ≤ nx) : HpIn E ops f S t ⟨nx, addL (bef ops) j (f u).pend (f t).x.os⟩ := by
  refine ⟨hn, ?_, ?_⟩
  · intro b o hb
    rcases addL_get hb with h | ⟨p, hp, ho, rfl, rfl, cs, el, fz, he⟩
    · exact .inl h
    · obtain ⟨h1, h2⟩ := (hC.tr.pinv hC.mono hC.p0 u hu).made p hp
      refine .inr ⟨p.i, p.o, ⟨hpre _ ho, h2, fun hlt => hC.tr.live_le hlt htu hu ⟨p, hp, rfl⟩⟩, .inr ⟨?_, rfl⟩⟩
      rcases h2.kind with h | h
      · exact h
      · rw [he] at h; cases h
  · intro b m s k hb o ho
    exact addL_dom ho

/-- What a reading operation finds. -/
theorem Inv.look (hC : Ctx P E rc n ops f val) (hI : Inv P E n ops f val r0 w0 S t r tmps w) {j : Nat} {o : Oper} (ho : ops[j]? = some o) (hj : ¬ S j) (hpre : ∀ i, ord (bef ops) i j = true → S i) (hw : wantA ops.toList (f j).tm o.guard = some true) (hc : clOf E o.op = .l) :
    ∃ H, HpIn E ops f S t H ∧ execL E (f j).tm o.op H = some (val j) := by
  have hjlt : j < ops.size := (Array.getElem?_eq_some_iff.1 ho).1
  obtain ⟨hx, hh⟩ := hC.tr.l_step ho hw hc
  have hEI := hC.tr.einv hC.l0 hC.i0 j (Nat.le_of_lt hjlt)
  have hjE : ¬ IsE E ops f j := by
    rintro ⟨o', h1, _, h3⟩
    rw [ho] at h1; cases h1
    rw [hc] at h3; cases h3
  by_cases hex : ∃ e, IsE E ops f e ∧ t ≤ e ∧ e < j
  · -- something ahead in the text has not written yet
    obtain ⟨e, hE, hte, hej, hmin⟩ : ∃ e, IsE E ops f e ∧ t ≤ e ∧ e < j ∧ ∀ e', t ≤ e' → e' < e → ¬ IsE E ops f e' := by
      obtain ⟨e, h1, h2, h3⟩ := hex
      induction e using Nat.strongRecOn with
      | ind e ih =>
        by_cases h : ∃ e', t ≤ e' ∧ e' < e ∧ IsE E ops f e'
        · obtain ⟨e', g1, g2, g3⟩ := h
          exact ih e' g2 g3 g1 (by omega)
        · exact ⟨e, h1, h2, h3, fun e' g1 g2 g3 => h ⟨e', g1, g2, g3⟩⟩
    obtain ⟨s, hs, hse, hso, hsp⟩ := hEI.hist e hej hE
    have hno : ∀ s' ∈ (f j).hist, s.e ≤ s'.e → ord (bef ops) s'.e j = false := by
      intro s' hs' hle
      cases hord : ord (bef ops) s'.e j with
      | false => rfl
      | true =>
        obtain ⟨_, g2⟩ := hEI.histm s' hs'
        have := (hI.base s'.e g2).1 (hpre _ hord)
        omega
    have := okHist_get hh hEI.histd s hs hno
    rw [hso, hsp, hC.tr.os_le hte (by omega) hmin] at this
    exact ⟨_, hI.in_addL hC hpre hte (by omega) (hC.tr.nx_le hC.mono (by omega) (by omega)), this⟩
  · by_cases htj : t ≤ j
    · have hos := hC.tr.os_le htj (Nat.le_of_lt hjlt) fun e h1 h2 h3 => hex ⟨e, h3, h1, h2⟩
      rw [hos] at hx
      exact ⟨_, hI.in_addL hC hpre htj (Nat.le_of_lt hjlt) (hC.tr.nx_le hC.mono htj (Nat.le_of_lt hjlt)), hx⟩
    · -- something behind it in the text has written already
      rcases hI.tE with h0 | ⟨e, rfl, hE⟩
      · omega
      · have hej : j < e := by
          by_cases h : j = e
          · subst h; exact absurd hE hjE
          · omega
        have hSe : S e := (hI.base e hE).2 (Nat.lt_succ_self _)
        have hEe := hC.tr.einv hC.l0 hC.i0 e (Nat.le_of_lt hE.lt)
        obtain ⟨oe, hoe, _⟩ := hE
        have hE2 : IsE E ops f e := ⟨oe, hoe, by assumption⟩
        obtain ⟨_, _, hlds, hpend⟩ := hC.tr.e_step hoe hE2
        rcases okLds_get hlds _ (hEe.lds j o hej ho hw hc) with h | h
        · exact absurd (hI.closed j e h hSe) hj
        · rw [← hpend] at h
          exact ⟨_, hI.in_addL hC hpre (Nat.le_refl _) hI.tle (Nat.le_refl _), h⟩

/-- A block that is pending, whole: what it is. -/
theorem Inv.whole (hC : Ctx P E rc n ops f val) {u : Nat} (hu : u ≤ ops.size) {p : Pd} (hp : p ∈ (f u).pend) (hin : ∀ x ∈ p.ins, S x.i) (hout : ∀ i e, S i → Ins E ops f i p.b e → i < u) : LO E ops f S p.b p.o p.obj := by
  have hP := hC.tr.pinv hC.mono hC.p0 u hu
  have hM := (hP.made p hp).2
  have hmem : ∀ e, e ∈ p.ins.map (·.e) ↔ ∃ i, S i ∧ Ins E ops f i p.b e := by
    intro e
    rw [List.mem_map]
    constructor
    · rintro ⟨x, hx, rfl⟩
      exact ⟨x.i, hin x hx, (hP.insm p hp x hx).2.2⟩
    · rintro ⟨i, hi, hI⟩
      exact ⟨⟨i, e⟩, hP.insc p hp i e (hout i e hi hI) hI, rfl⟩
  have hpairs : ∀ l : List In, pairsOf l = l.map (·.e) := by
    intro l
    induction l with
    | nil => rfl
    | cons x l ih => simp [pairsOf, ih]
  have hnd : (p.ins.map (·.e)).Nodup := by
    have h1 := hP.insd p hp
    have h2 := hP.insm p hp
    generalize p.ins = l at h1 h2
    induction l with
    | nil => simp
    | cons x l ih =>
      obtain ⟨g1, g2⟩ := List.pairwise_cons.1 h1
      rw [List.map_cons, List.nodup_cons]
      refine ⟨?_, ih g2 fun y hy => h2 y (by simp [hy])⟩
      intro h
      obtain ⟨y, hy, he⟩ := List.mem_map.1 h
      have := g1 y hy
      have := hC.tr.ins_inj hC.mono (h2 y (by simp [hy])).2.2 (h2 x (by simp)).2.2 (by rw [he])
      omega
  unfold Pd.obj
  cases hpi : p.ins with
  | nil =>
    rcases hM.kind with h | h
    · exact .inr ⟨h, rfl⟩
    · refine .inl ⟨h, [], by simp, ?_, h⟩
      rw [hpi] at hmem
      exact hmem
  | cons x l =>
    refine .inl ⟨hP.map p hp (by rw [hpi]; simp), p.ins.map (·.e), hnd, hmem, ?_⟩
    rw [hpi]
    show O.map (pairsOf (x :: l)) = _
    rw [hpairs]

/-- What a writing operation finds. -/
theorem Inv.in_addP (hC : Ctx P E rc n ops f val) (hI : Inv P E n ops f val r0 w0 S t r tmps w) {j : Nat} {o : Oper} (ho : ops[j]? = some o) (hj : ¬ S j) (hpre : ∀ i, ord (bef ops) i j = true → S i) (hE : IsE E ops f j) :
    t ≤ j ∧ (∀ e, t ≤ e → e < j → ¬ IsE E ops f e) ∧ HpIn E ops f S t ⟨(f j).x.nx, addP (bef ops) j (f j).pend (f j).x.os⟩ := by
  have hjlt : j < ops.size := (Array.getElem?_eq_some_iff.1 ho).1
  obtain ⟨hl, _, _, hpend⟩ := hC.tr.e_step ho hE
  have hEI := hC.tr.einv hC.l0 hC.i0 j (Nat.le_of_lt hjlt)
  have htj : t ≤ j := by
    rcases hI.tE with h0 | ⟨e, rfl, hEe⟩
    · omega
    · by_cases h : e < j
      · omega
      · exact absurd (hC.tr.e_down hC.l0 hC.i0 hI.closed e hEe ((hI.base e hEe).2 (Nat.lt_succ_self _)) j hE (by omega)) hj
  have hno : ∀ e, t ≤ e → e < j → ¬ IsE E ops f e := by
    intro e h1 h2 h3
    have hns : ¬ S e := fun h => by have := (hI.base e h3).1 h; omega
    cases hlast : (f j).last with
    | none => exact hEI.lastN hlast e h2 h3
    | some e2 =>
      rw [hlast] at hl
      obtain ⟨g1, g2, g3⟩ := hEI.lastS e2 hlast
      have hS2 := hpre e2 hl
      by_cases h : e ≤ e2
      · exact hns (hC.tr.e_down hC.l0 hC.i0 hI.closed e2 g2 hS2 e h3 h)
      · exact g3 e (by omega) h2 h3
  refine ⟨htj, hno, ⟨hC.tr.nx_le hC.mono htj (Nat.le_of_lt hjlt), ?_, ?_⟩⟩
  · intro b o' hb
    rw [hC.tr.os_le htj (Nat.le_of_lt hjlt) hno] at hb
    rcases addP_get hb with h | ⟨p, hp, hs, rfl, rfl⟩
    · exact .inl h
    · obtain ⟨h1, h2⟩ := (hC.tr.pinv hC.mono hC.p0 j (Nat.le_of_lt hjlt)).made p hp
      obtain ⟨g1, g2⟩ := seenP_spec hs
      refine .inr ⟨p.i, p.o, ⟨hpre _ g1, h2, fun hlt => hC.tr.live_le hlt htj (Nat.le_of_lt hjlt) ⟨p, hp, rfl⟩⟩, ?_⟩
      refine Inv.whole hC (Nat.le_of_lt hjlt) hp (fun x hx => hpre _ (g2 x hx)) fun i e hi hIn => ?_
      by_cases hij : i < j
      · exact hij
      · exfalso
        have hne : i ≠ j := by intro h; subst h; exact hj hi
        obtain ⟨_, hlv, _⟩ := hC.tr.ins_live hC.mono hC.p0 h2 hIn
        obtain ⟨p2, hp2, hpi⟩ := hC.tr.live_le (t := j + 1) (by omega) (by omega) (Nat.le_of_lt hIn.lt) hlv
        rw [hpend] at hp2
        obtain ⟨k1, k2⟩ := restP_mem.1 hp2
        have := (hC.tr.pinv hC.mono hC.p0 j (Nat.le_of_lt hjlt)).uniq k1 hp hpi
        rw [this, hs] at k2; cases k2
  · intro b m s k hb o ho'
    rw [hC.tr.os_le htj (Nat.le_of_lt hjlt) hno]
    exact addP_dom ho'

/-- Behind a writing operation. -/
theorem Inv.write (hC : Ctx P E rc n ops f val) (hI : Inv P E n ops f val r0 w0 S t r tmps w) {j : Nat} {o : Oper} (ho : ops[j]? = some o) (hj : ¬ S j) (hpre : ∀ i, ord (bef ops) i j = true → S i) (hE : IsE E ops f j) (dfs : List Deferred)
    {x : Value} (hv : VR r' (val j) x) (hst : Stp P E r ⟨(f j).x.nx, addP (bef ops) j (f j).pend (f j).x.os⟩ w r' (f (j + 1)).x w') :
    Inv P E n ops f val r0 w0 (fun i => S i ∨ i = j) (j + 1) r' ((⟨tmps, dfs⟩ : Act).put o.dst x).tmps w' := by
  have hjlt : j < ops.size := (Array.getElem?_eq_some_iff.1 ho).1
  obtain ⟨htj, hno, hin⟩ := hI.in_addP hC ho hj hpre hE
  obtain ⟨_, _, _, hpend⟩ := hC.tr.e_step ho hE
  have hfree := hI.free j hjlt hj
  have hsame : Same (f j).x.nx (f (j + 1)).x.nx r r' := hst.same
  have hle : Le r r' := hfree.le hsame
  have hPj := hC.tr.pinv hC.mono hC.p0 j (Nat.le_of_lt hjlt)
  have noM : ∀ b o, ¬ Made E ops f j b o := fun _ _ h => h.notE hE
  have noI : ∀ b e, ¬ Ins E ops f j b e := fun _ _ h => h.notE hE
  have hL : ∀ a b o, Loose E ops f (fun i => S i ∨ i = j) (j + 1) a b o → Loose E ops f S t a b o ∧ (a < j → Live f (j + 1) a) := by
    rintro a b o1 ⟨l1, l2, l3⟩
    have hne : a ≠ j := by intro h; subst h; exact noM _ _ l2
    refine ⟨⟨l1.resolve_right hne, l2, fun hlt => hC.tr.live_le hlt (by omega) (by omega) (l3 (by omega))⟩, fun h => l3 (by omega)⟩
  have lbl : ∀ a b o, Loose E ops f S t a b o → ∃ q', r.bl b = some q' ∧ q'.blk < w.heap.size := by
    intro a b o hl
    obtain ⟨q', ob', _, g1, g2, _⟩ := hI.loose a b o hl
    exact ⟨q', g1, lt_of_get g2⟩
  have back : ∀ b q', r.bl b ≠ none → r'.bl b = some q' → r.bl b = some q' := by
    intro b q' hb h
    cases hx : r.bl b with
    | none => exact absurd hx hb
    | some q2 => have := hle.bl _ _ hx; rw [h] at this; cases this; rfl
  -- what is loose behind it lies outside what it has seen
  have hout : ∀ a b o q, Loose E ops f (fun i => S i ∨ i = j) (j + 1) a b o → r.bl b = some q → Out r ⟨(f j).x.nx, addP (bef ops) j (f j).pend (f j).x.os⟩ q.blk := by
    intro a b o1 q hl hq b1 o2 q1 hb1 hq1
    obtain ⟨hl1, hlv⟩ := hL a b o1 hl
    obtain ⟨q2, ob, oo, g1, g2, g3, g4, g5, g6⟩ := hI.loose a b o1 hl1
    rw [hq] at g1; cases g1
    have hb1' : (addP (bef ops) j (f j).pend (f t).x.os).get b1 = some o2 := by
      have h : (addP (bef ops) j (f j).pend (f j).x.os).get b1 = some o2 := hb1
      rwa [hC.tr.os_le htj (Nat.le_of_lt hjlt) hno] at h
    rcases addP_get hb1' with h | ⟨p, hp, hs, rfl, rfl⟩
    · exact g5 b1 o2 q1 h hq1
    · obtain ⟨h1, h2⟩ := hPj.made p hp
      obtain ⟨k1, k2⟩ := seenP_spec hs
      intro he
      have := hI.apart p.i p.b p.o a b o1 q1 q ⟨hpre _ k1, h2, fun hlt => hC.tr.live_le hlt htj (Nat.le_of_lt hjlt) ⟨p, hp, rfl⟩⟩ hl1 hq1 hq he
      subst this
      obtain ⟨p2, hp2, hpi⟩ := hlv h1
      rw [hpend] at hp2
      obtain ⟨k3, k4⟩ := restP_mem.1 hp2
      have := hPj.uniq k3 hp hpi
      rw [this, hs] at k4; cases k4
  refine ⟨hI.closed' hpre, hI.tm.put hC hI.closed ho hj hle hv dfs, ?_, hjlt, .inr ⟨j, rfl, hE⟩, hst.rel, ?_, ?_, hI.free' hC hjlt hsame, hI.same' hC hjlt hsame, Nat.le_trans hI.hsize hst.size, ?_, ?_, by rw [hst.os]; exact hI.os, by rw [hst.out]; exact hI.out, ?_⟩
  · intro e hEe
    constructor
    · rintro (h | rfl)
      · have := (hI.base e hEe).1 h; omega
      · omega
    · intro h
      by_cases he : e = j
      · exact .inr he
      · refine .inl ((hI.base e hEe).2 ?_)
        by_cases h2 : e < t
        · exact h2
        · exact absurd hEe (hno e (by omega) (by omega))
  · intro a b o1 hl
    obtain ⟨hl1, hlv⟩ := hL a b o1 hl
    obtain ⟨q, ob, oo, g1, g2, g3, g4, g5, g6⟩ := hI.loose a b o1 hl1
    have ho2 := hout a b o1 q hl g1
    have hlt := lt_of_get g2
    refine ⟨q, ob, oo, hle.bl _ _ g1, by rw [hst.keep _ hlt ho2]; exact g2, g3.of_iff fun i e hI' => ?_, ?_, hst.img _ hlt ho2, g6⟩
    · exact ⟨fun h => h.resolve_right (by intro e; subst e; exact noI _ _ hI'), .inl⟩
    · exact (g4.ext hle (Nat.le_refl _) (w' := w) (fun _ k xs c hx => ⟨xs, hx⟩)).any g3.kind
  · intro a1 b1 o1 a2 b2 o2 q1 q2 g1 g2 g3 g4 g5
    have g1 := (hL _ _ _ g1).1
    have g2 := (hL _ _ _ g2).1
    obtain ⟨p1, k1, _⟩ := lbl _ _ _ g1
    obtain ⟨p2, k2, _⟩ := lbl _ _ _ g2
    exact hI.apart a1 b1 o1 a2 b2 o2 q1 q2 g1 g2 (back b1 q1 (by rw [k1]; simp) g3) (back b2 q2 (by rw [k2]; simp) g4) g5
  · intro k hk ho2
    have hkw := Nat.lt_of_lt_of_le hk hI.hsize
    obtain ⟨g1, g2⟩ := hI.img k hk ho2
    rw [hst.keep k hkw ?_]
    · exact hI.keep k hk ho2
    · intro b1 o1 q1 hb1 hq1
      rcases hin.get b1 o1 hb1 with h | ⟨a, o0, h1, _⟩
      · exact g1 b1 o1 q1 h hq1
      · exact g2 a b1 o0 q1 h1 hq1
  · intro k hk ho2
    have hkw := Nat.lt_of_lt_of_le hk hI.hsize
    obtain ⟨g1, g2⟩ := hI.img k hk ho2
    refine ⟨hst.img k hkw ?_, ?_⟩
    · intro b1 o1 q1 hb1 hq1
      rcases hin.get b1 o1 hb1 with h | ⟨a, o0, h1, _⟩
      · exact g1 b1 o1 q1 h hq1
      · exact g2 a b1 o0 q1 h1 hq1
    · intro a b o1 q1 hl hq1
      have hl := (hL _ _ _ hl).1
      obtain ⟨p1, k1, _⟩ := lbl _ _ _ hl
      exact g2 a b o1 q1 hl (back b q1 (by rw [k1]; simp) hq1)
  · intro i b1 e1 hi hI' a1 o1 hM'
    rcases hi with hi | rfl
    · exact .inl (hI.insr i b1 e1 hi hI' a1 o1 hM')
    · exact absurd hI' (noI _ _)
end
end Go.Ev
namespace Go.Ev

/-- What is claimed of calls out of a region. -/
structure RcOk (P : Program) (E : Env) (rc : RC) : Prop where
  mono : RcMono rc
  fn : ∀ f as h v h', rc (.fn f as) h = some (v, h') → ∀ r w (ys : Array Value), Free h.nx h'.nx r → Rel P E r h w → VRs r as ys.toList →
    Direct P E r h w f ys v h' ∨ ((callFunc f ys).run P w = .ok (.enter f ys) w ∧ Enters P E r h w f ys v h')
  yield : ∀ l as h v h', rc (.yield l as) h = some (v, h') → ∀ r w q (ys : Array Value), Free h.nx h'.nx r → Rel P E r h w → r.bl l = some q → VRs r as ys.toList →
    ∃ f tmps asg body, (Instr.yield q.blk ys).run P w = .ok (.round q.blk f tmps asg body) w ∧
      ∀ c cs, ∃ x r' w', Steps P (lone (Frame.round q.blk f tmps asg body .normal) (c :: cs) w) (lone (c.finish x) cs w') ∧ VR r' v x ∧ Stp P E r h w r' h' w'

section
variable {P : Program} {E : Env} {rc : RC} {n : Nat} {ops : Array Oper} {f : Nat → RS} {val : Nat → V} {S : Nat → Prop} {r r' : Rho} {tmps : Array Value} {w w' : World} {r0 : Rho} {w0 : World} {t : Nat}

theorem evalE_noDefer {tm : T V} {op : Op} {H : Hp} {v : V} {h' : Hp} (hx : evalE E rc tm op H = some (v, h')) : ∀ c, op ≠ .defer c := by
  intro c e
  rw [e] at hx
  cases hx

/-- A writing operation, by the machine. -/
theorem eval_step (hE : TisOk P E) (hRc : RcOk P E rc) {H : Hp} (hR : Rel P E r H w) {tm : T V} (hT : TR r n tm tmps) {o : Oper} {v : V} {h' : Hp} (hx : evalE E rc tm o.op H = some (v, h')) (hf : Free H.nx h'.nx r)
    {j : Nat} (ho : ops[j]? = some o) (hw : Region.wanted o (yielded ops tmps) = true) (b : Frame) (dfs : List Deferred) (rest : List Nat) (k : List Item) (cs : List Frame) :
    ∃ x r' w', Steps P (lone (b.atR ⟨tmps, dfs⟩ (.inRegion ops (j :: rest) :: k)) cs w) (lone ((b.atR ⟨tmps, dfs⟩ (.inRegion ops (j :: rest) :: k)).finish x) cs w') ∧ VR r' v x ∧ Stp P E r H w r' h' w' := by
  have hnd := evalE_noDefer hx
  have plainly : execE E tm o.op H = some (v, h') → ∃ x r' w', Steps P (lone (b.atR ⟨tmps, dfs⟩ (.inRegion ops (j :: rest) :: k)) cs w) (lone ((b.atR ⟨tmps, dfs⟩ (.inRegion ops (j :: rest) :: k)).finish x) cs w') ∧ VR r' v x ∧ Stp P E r H w r' h' w' := by
    intro hx
    obtain ⟨nx, x, r', w', hrun, hn, hv, hst⟩ := execE_sound (a := ⟨tmps, dfs⟩) hE hR hT hf hx
    exact ⟨x, r', w', .one (stepR_op_value ho hw hnd hrun hn), hv, hst⟩
  unfold evalE at hx
  split at hx
  · rename_i c hop
    split at hx
    · rename_i fo hcal
      obtain ⟨tg, ht, hx⟩ := ob_some hx
      have hcv : isCallV o.op = some c := by rw [hop]; simp [isCallV, hcal]
      have hsem := call_sem (P := P) (w := w) (a := ⟨tmps, dfs⟩) hT hcv ht
      cases tg with
      | fn fi as =>
        obtain ⟨ys, hys, hex⟩ := hsem
        rcases hRc.fn fi as H v h' hx r w ys hf hR hys with ⟨x, r', w', hrun, hv, hst⟩ | ⟨hrun, hent⟩
        · exact ⟨x, r', w', .one (stepR_op_value ho hw hnd (hex.trans hrun) (.inl rfl)), hv, hst⟩
        · obtain ⟨fr2, x, r', w', hsteps, _, hlv, hv, hst⟩ := hent (b.atR ⟨tmps, dfs⟩ (.inRegion ops (j :: rest) :: k) :: cs)
          exact ⟨x, r', w', .head (stepR_op_enter ho hw hnd (hex.trans hrun)) (hsteps.trans (.one (step_leave_returned hlv))), hv, hst⟩
      | yield l as =>
        obtain ⟨q, ys, hq, hys, hex⟩ := hsem
        obtain ⟨fi, tm2, asg, body, hrun, hrest⟩ := hRc.yield l as H v h' hx r w q ys hf hR hq hys
        obtain ⟨x, r', w', hsteps, hv, hst⟩ := hrest (b.atR ⟨tmps, dfs⟩ (.inRegion ops (j :: rest) :: k)) cs
        exact ⟨x, r', w', .head (stepR_op_round ho hw hnd (hex.trans hrun)) hsteps, hv, hst⟩
    · exact plainly hx
  · exact plainly hx

/-- One operation of the region, when it is its turn. -/
theorem Inv.op (hC : Ctx P E rc n ops f val) (hRc : RcOk P E rc) (hI : Inv P E n ops f val r0 w0 S t r tmps w) {j : Nat} {o : Oper} (ho : ops[j]? = some o) (hj : ¬ S j) (hpre : ∀ i, ord (bef ops) i j = true → S i)
    (b : Frame) (dfs : List Deferred) (rest : List Nat) (k : List Item) (cs : List Frame) :
    ∃ x t' r' w', Steps P (lone (b.atR ⟨tmps, dfs⟩ (.inRegion ops (j :: rest) :: k)) cs w) (lone (b.atR ((⟨tmps, dfs⟩ : Act).put o.dst x) (.inRegion ops rest :: k)) cs w') ∧
      Inv P E n ops f val r0 w0 (fun i => S i ∨ i = j) t' r' ((⟨tmps, dfs⟩ : Act).put o.dst x).tmps w' := by
  have hjlt : j < ops.size := (Array.getElem?_eq_some_iff.1 ho).1
  have hT := hI.tm.reads hC hI.closed ho hj hpre
  have hfin : ∀ x, (b.atR ⟨tmps, dfs⟩ (.inRegion ops (j :: rest) :: k)).finish x = b.atR ((⟨tmps, dfs⟩ : Act).put o.dst x) (.inRegion ops rest :: k) := by
    intro x; rw [Frame.finish_atR, ho]; rfl
  have ag : ∀ y ∈ o.op.operands, evo (f j).tm y = evo (restrict (f j).tm (readsOf ops.toList o)) y := reads_agree
  have want : ∀ {c : Bool}, wantA ops.toList (f j).tm o.guard = some c → Region.wanted o (yielded ops tmps) = c := by
    intro c h
    rw [reads_want] at h
    exact want_sound hT h
  have nm : ∀ {c : Cl}, c ≠ .a → clOf E o.op = c → ∀ b ob, ¬ Made E ops f j b ob := by
    rintro c hne hc b ob ⟨o', v, h1, _, h3, _⟩
    rw [ho] at h1; cases h1
    exact hne (hc.symm.trans h3)
  have ni : ∀ {c : Cl}, c ≠ .i → clOf E o.op = c → ∀ b e, ¬ Ins E ops f j b e := by
    rintro c hne hc b e ⟨o', _, _, _, _, _, _, _, h1, _, h3, _⟩
    rw [ho] at h1; cases h1
    exact hne (hc.symm.trans h3)
  have ne : ∀ {c : Cl}, c ≠ .e → clOf E o.op = c → ¬ IsE E ops f j := by
    rintro c hne hc ⟨o', h1, _, h3⟩
    rw [ho] at h1; cases h1
    exact hne (hc.symm.trans h3)
  have hsk := hC.tr.sk j o ho
  have hwant : (wantA ops.toList (f j).tm o.guard = some false) ∨ (wantA ops.toList (f j).tm o.guard = some true) := by
    generalize hs3 : (f (j + 1)).tm = tm2 at hsk
    generalize hs4 : f (j + 1) = s2 at hsk
    generalize hv : val j = vt at hsk
    cases hsk with
    | skip h => exact .inl h
    | p hw => exact .inr hw
    | l hw => exact .inr hw
    | a hw => exact .inr hw
    | i hw => exact .inr hw
    | e hw => exact .inr hw
  rcases hwant with hw | hw
  · -- it is passed by
    have hv : VR r (val j) undef := by rw [hC.tr.skip_step ho hw]; exact ⟨#[], rfl, rfl⟩
    have hstep := stepR_op_skip (P := P) (b := b) (a := ⟨tmps, dfs⟩) (k := k) (cs := cs) (w := w) (ops := ops) (i := j) (rest := rest) (by simp [ho, want hw])
    rw [ho] at hstep
    refine ⟨undef, t, r, w, .one hstep, hI.quiet hC ho hj hpre ?_ ?_ ?_ hv dfs⟩
    · rintro b' ob ⟨o', v, h1, h2, _⟩; rw [ho] at h1; cases h1; rw [hw] at h2; cases h2
    · rintro b' e ⟨o', _, _, _, _, _, _, _, h1, h2, _⟩; rw [ho] at h1; cases h1; rw [hw] at h2; cases h2
    · rintro ⟨o', h1, h2, _⟩; rw [ho] at h1; cases h1; rw [hw] at h2; cases h2
  · have hW := want hw
    cases hc : clOf E o.op with
    | p =>
      have hx := hC.tr.p_step ho hw hc
      have hnd : ∀ c, o.op ≠ .defer c := by intro c e; rw [e] at hx; cases hx
      rw [execP_congr ag] at hx
      obtain ⟨x, hrun, hv⟩ := execP_sound (w := w) (a := ⟨tmps, dfs⟩) hC.tis hT hx
      have hstep := stepR_op_value (P := P) (b := b) (a := ⟨tmps, dfs⟩) (k := k) (cs := cs) (rest := rest) ho hW hnd hrun (.inl rfl)
      rw [hfin] at hstep
      exact ⟨x, t, r, w, .one hstep, hI.quiet hC ho hj hpre (nm (by simp) hc) (ni (by simp) hc) (ne (by simp) hc) hv dfs⟩
    | l =>
      obtain ⟨H, hH, hx⟩ := hI.look hC ho hj hpre hw hc
      have hnd : ∀ c, o.op ≠ .defer c := by intro c e; rw [e] at hx; cases hx
      rw [execL_congr ag] at hx
      obtain ⟨x, hrun, hv⟩ := execL_sound (a := ⟨tmps, dfs⟩) hC.tis (hI.sub hC hH) hT hx
      have hstep := stepR_op_value (P := P) (b := b) (a := ⟨tmps, dfs⟩) (k := k) (cs := cs) (rest := rest) ho hW hnd hrun (.inl rfl)
      rw [hfin] at hstep
      exact ⟨x, t, r, w, .one hstep, hI.quiet hC ho hj hpre (nm (by simp) hc) (ni (by simp) hc) (ne (by simp) hc) hv dfs⟩
    | a =>
      obtain ⟨ob, hx, _⟩ := hC.tr.a_step ho hw hc
      have hnd : ∀ c, o.op ≠ .defer c := by intro c e; rw [e] at hx; cases hx
      obtain ⟨x, r', w', hrun, hI'⟩ := hI.make hC ho hj hpre hw hc dfs
      have hstep := stepR_op_value (P := P) (b := b) (a := ⟨tmps, dfs⟩) (k := k) (cs := cs) (rest := rest) ho hW hnd hrun (.inl rfl)
      rw [hfin] at hstep
      exact ⟨x, t, r', w', .one hstep, hI'⟩
    | i =>
      obtain ⟨_, b', e', hIn⟩ := hC.tr.i_step ho hw hc
      have hnd : ∀ c, o.op ≠ .defer c := by
        intro c e
        obtain ⟨o', _, _, _, _, _, _, _, h1, _, _, h4, _⟩ := hIn
        rw [ho] at h1; cases h1
        rw [e] at h4; cases h4
      obtain ⟨nx, x, r', w', hrun, hn, hI'⟩ := hI.lay hC ho hj hpre hw hc dfs
      have hstep := stepR_op_value (P := P) (b := b) (a := ⟨tmps, dfs⟩) (k := k) (cs := cs) (rest := rest) ho hW hnd hrun hn
      rw [hfin] at hstep
      exact ⟨x, t, r', w', .one hstep, hI'⟩
    | e =>
      have hE : IsE E ops f j := ⟨o, ho, hw, hc⟩
      obtain ⟨_, hx, _, _⟩ := hC.tr.e_step ho hE
      obtain ⟨_, _, hH⟩ := hI.in_addP hC ho hj hpre hE
      rw [evalE_congr ag] at hx
      obtain ⟨x, r', w', hsteps, hv, hst⟩ := eval_step hC.tis hRc (hI.sub hC hH) hT hx (hI.free j hjlt hj) ho hW b dfs rest k cs
      rw [hfin] at hsteps
      exact ⟨x, j + 1, r', w', hsteps, hI.write hC ho hj hpre hE dfs hv hst⟩
end
end Go.Ev
