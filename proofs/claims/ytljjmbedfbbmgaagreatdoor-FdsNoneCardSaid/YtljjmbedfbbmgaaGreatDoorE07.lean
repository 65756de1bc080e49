/- An evaluator of the model's programs over abstract states, and the proof that the machine does what it says (part 7). No statement about the program. -/
import Derived.Test.YtljjmbedfbbmgaaGreatDoorE06
namespace Go.Ev

theorem ord_bit {b : List Nat} {i j : Nat} : ord b i j = true ↔ ∃ m, b[j]? = some m ∧ m.testBit i = true := by
  unfold ord
  rw [nth_eq]
  constructor
  · intro h
    cases hb : b[j]? with
    | none => rw [hb] at h; cases h
    | some m =>
      rw [hb] at h
      refine ⟨m, rfl, ?_⟩
      rw [Nat.testBit_eq_decide_div_mod_eq]
      exact decide_eq_true (Nat.eq_of_beq_eq_true h)
  · rintro ⟨m, hb, h⟩
    rw [hb]
    rw [Nat.testBit_eq_decide_div_mod_eq] at h
    have := of_decide_eq_true h
    show Nat.beq (m / 2 ^ i % 2) 1 = true
    rw [this]; rfl

theorem maskOf_bit {acc : List Nat} {i : Nat} : ∀ {l : List Edge} {s : Nat}, (maskOf acc l s).testBit i = true →
    s.testBit i = true ∨ ∃ e ∈ l, bindsE e = true ∧ (e.on = i ∨ ∃ m, acc[e.on]? = some m ∧ m.testBit i = true) := by
  intro l
  induction l with
  | nil => intro s h; exact .inl h
  | cons e l ih =>
    intro s h
    simp only [maskOf] at h
    rcases ih h with h1 | ⟨e', h1, h2, h3⟩
    · cases hb : bindsE e with
      | false => rw [hb] at h1; exact .inl h1
      | true =>
        rw [hb, cond_true] at h1
        have h1 : (s ||| 2 ^ e.on ||| (match nth acc e.on with | some b => b | none => 0)).testBit i = true := h1
        rw [Nat.testBit_or, Nat.testBit_or, Bool.or_eq_true, Bool.or_eq_true] at h1
        rcases h1 with (h1 | h1) | h1
        · exact .inl h1
        · rw [Nat.testBit_two_pow] at h1
          exact .inr ⟨e, by simp, hb, .inl (of_decide_eq_true h1)⟩
        · rw [nth_eq] at h1
          cases ha : acc[e.on]? with
          | none => rw [ha] at h1; simp at h1
          | some m => rw [ha] at h1; exact .inr ⟨e, by simp, hb, .inr ⟨m, ha, h1⟩⟩
    · exact .inr ⟨e', by simp [h1], h2, h3⟩

theorem befGo_pre : ∀ {l : List Oper} {acc : List Nat} {k : Nat} {m : Nat}, acc[k]? = some m → (befGo l acc)[k]? = some m := by
  intro l
  induction l with
  | nil => intro acc k m h; exact h
  | cons o l ih =>
    intro acc k m h
    simp only [befGo]
    refine ih ?_
    rw [app_eq, List.getElem?_append_left (List.getElem?_eq_some_iff.1 h).1]
    exact h
theorem befGo_get : ∀ {l : List Oper} {acc : List Nat} {j : Nat} {m : Nat}, acc.length ≤ j → (befGo l acc)[j]? = some m →
    ∃ o acc', l[j - acc.length]? = some o ∧ m = maskOf acc' o.after.toList 0 ∧ ∀ k m', acc'[k]? = some m' → k < j ∧ (befGo l acc)[k]? = some m' := by
  intro l
  induction l with
  | nil =>
    intro acc j m hj h
    simp only [befGo] at h
    have := (List.getElem?_eq_some_iff.1 h).1
    omega
  | cons o l ih =>
    intro acc j m hj h
    simp only [befGo] at h ⊢
    by_cases e : j = acc.length
    · subst e
      refine ⟨o, acc, by simp, ?_, fun k m' hk => ⟨(List.getElem?_eq_some_iff.1 hk).1, befGo_pre ?_⟩⟩
      · have := befGo_pre (l := l) (acc := app acc [maskOf acc o.after.toList 0]) (k := acc.length) (m := maskOf acc o.after.toList 0) (by rw [app_eq]; simp)
        rw [this] at h
        exact (Option.some.inj h).symm
      · rw [app_eq, List.getElem?_append_left (List.getElem?_eq_some_iff.1 hk).1]
        exact hk
    · have hl : (app acc [maskOf acc o.after.toList 0]).length = acc.length + 1 := by rw [app_eq]; simp
      obtain ⟨o', acc', h1, h2, h3⟩ := ih (j := j) (by rw [hl]; omega) h
      refine ⟨o', acc', ?_, h2, h3⟩
      rw [hl] at h1
      have : j - acc.length = (j - (acc.length + 1)) + 1 := by omega
      rw [this]
      simpa using h1

section
variable {ops : Array Oper}

/-- A set that holds with each operation those that its edges name holds all that surely come ahead. -/
theorem ord_closed {S : Nat → Prop} (hS : ∀ j o, ops[j]? = some o → S j → ∀ e ∈ o.after.toList, bindsE e = true → S e.on) : ∀ (j i : Nat), S j → ord (bef ops) i j = true → S i := by
  intro j
  induction j using Nat.strongRecOn with
  | ind j ih =>
    intro i hj h
    obtain ⟨m, hm, hb⟩ := ord_bit.1 h
    obtain ⟨o, acc, h1, h2, h3⟩ := befGo_get (acc := []) (Nat.zero_le _) hm
    have ho : ops[j]? = some o := by simpa using h1
    subst h2
    rcases maskOf_bit hb with h4 | ⟨e, h4, h5, h6⟩
    · simp at h4
    · have := hS j o ho hj e h4 h5
      rcases h6 with rfl | ⟨m', h7, h8⟩
      · exact this
      · obtain ⟨h9, h10⟩ := h3 _ _ h7
        exact ih _ h9 i this (ord_bit.2 ⟨m', h10, h8⟩)
theorem edgesBack_mem {j : Nat} : ∀ {l : List Edge}, edgesBack j l = true → ∀ e ∈ l, bindsE e = true → e.on < j := by
  intro l
  induction l with
  | nil => intro _ e he; simp at he
  | cons x l ih =>
    intro h e he hb
    simp only [edgesBack] at h
    rcases List.mem_cons.1 he with rfl | he
    · rw [hb, cond_true] at h
      cases hc : Nat.ble (Nat.succ e.on) j with
      | true => exact Nat.le_of_ble_eq_true hc
      | false => rw [hc] at h; cases h
    · refine ih ?_ e he hb
      cases hx : bindsE x with
      | false => rw [hx] at h; exact h
      | true =>
        rw [hx, cond_true] at h
        cases hc : Nat.ble (Nat.succ x.on) j with
        | true => rw [hc] at h; exact h
        | false => rw [hc] at h; cases h
theorem okEdges_get : ∀ {l : List Oper} {k : Nat}, okEdges l k = true → ∀ j o, l[j]? = some o → ∀ e ∈ o.after.toList, bindsE e = true → e.on < k + j := by
  intro l
  induction l with
  | nil => intro k _ j o h; simp at h
  | cons x l ih =>
    intro k h j o hj e he hb
    simp only [okEdges] at h
    cases hx : edgesBack k x.after.toList with
    | false => rw [hx] at h; cases h
    | true =>
      rw [hx, cond_true] at h
      cases j with
      | zero => simp at hj; subst hj; exact edgesBack_mem hx e he hb
      | succ j => have := ih h j o (by simpa using hj) e he hb; show e.on < k + (j + 1); have h2 : Nat.succ k = k + 1 := rfl; omega
/-- What surely comes ahead stands ahead in the text. -/
theorem ord_lt (he : okEdges ops.toList 0 = true) {i j : Nat} (h : ord (bef ops) i j = true) : i < j := by
  obtain ⟨m, hm, _⟩ := ord_bit.1 h
  have := ord_closed (ops := ops) (S := fun i => i ≤ j) (fun k o hk hkj e hee hb => by
    have := okEdges_get he k o (by simpa using hk) e hee hb; omega) j i (Nat.le_refl _) h
  by_cases e : i = j
  · subst e
    exfalso
    have key := ord_closed (ops := ops) (S := fun k => k < i) (fun k o hk hkj e hee hb => by
      have := okEdges_get he k o (by simpa using hk) e hee hb; omega)
    obtain ⟨o, acc, h1, h2, h3⟩ := befGo_get (acc := []) (Nat.zero_le _) hm
    have ho : ops[i]? = some o := by simpa using h1
    obtain ⟨m', hm', hb⟩ := ord_bit.1 h
    rw [hm] at hm'
    cases hm'
    subst h2
    rcases maskOf_bit hb with h4 | ⟨e, h4, h5, h6⟩
    · simp at h4
    · have hlt := okEdges_get he i o (by simpa using ho) e h4 h5
      rcases h6 with h6 | ⟨m', h7, h8⟩
      · omega
      · obtain ⟨h9, h10⟩ := h3 _ _ h7
        have := key e.on i (by omega) (ord_bit.2 ⟨m', h10, h8⟩)
        omega
  · omega

theorem memN_iff {n : Nat} : ∀ {l : List Nat}, memN n l = true ↔ n ∈ l := by
  intro l
  induction l with
  | nil => simp [memN]
  | cons m l ih =>
    simp only [memN, List.mem_cons]
    cases h : Nat.beq n m with
    | true => have := Nat.eq_of_beq_eq_true h; simp [this]
    | false => have := Nat.ne_of_beq_eq_false h; rw [cond_false, ih]; simp [this]
theorem hitsD_iff {d : Option Nat} {l : List Nat} : hitsD d l = true ↔ ∃ t, d = some t ∧ t ∈ l := by
  cases d with
  | none => simp [hitsD]
  | some t => simp [hitsD, memN_iff]
theorem okWith_get {b : List Nat} {l0 : List Oper} {j : Nat} {y : Oper} : ∀ {l : List Oper} {k : Nat}, okWith l0 b j y l k = true → ∀ i x, l[i]? = some x → k + i < j → okPair l0 b (k + i) j x y = true := by
  intro l
  induction l with
  | nil => intro k _ i x h; simp at h
  | cons z l ih =>
    intro k h i x hi hlt
    simp only [okWith] at h
    have hne : Nat.beq k j = false := by
      cases hb : Nat.beq k j with
      | false => rfl
      | true => have := Nat.eq_of_beq_eq_true hb; omega
    rw [hne, cond_false] at h
    cases hp : okPair l0 b k j z y with
    | false => rw [hp] at h; cases h
    | true =>
      rw [hp, cond_true] at h
      cases i with
      | zero => simp at hi; subst hi; exact hp
      | succ i =>
        have := ih h i x (by simpa using hi) (by have h2 : Nat.succ k = k + 1 := rfl; omega)
        have e : Nat.succ k + i = k + (i + 1) := by have h2 : Nat.succ k = k + 1 := rfl; omega
        rwa [e] at this
theorem okAll_get {b : List Nat} {l0 : List Oper} : ∀ {l : List Oper} {k : Nat}, okAll l0 b l k = true → ∀ j y, l[j]? = some y → okWith l0 b (k + j) y l0 0 = true := by
  intro l
  induction l with
  | nil => intro k _ j y h; simp at h
  | cons z l ih =>
    intro k h j y hj
    simp only [okAll] at h
    cases hp : okWith l0 b k z l0 0 with
    | false => rw [hp] at h; cases h
    | true =>
      rw [hp, cond_true] at h
      cases j with
      | zero => simp at hj; subst hj; exact hp
      | succ j =>
        have := ih h j y (by simpa using hj)
        have e : Nat.succ k + j = k + (j + 1) := by have h2 : Nat.succ k = k + 1 := rfl; omega
        rwa [e] at this
/-- Operation x (number i) ahead of y (number j) in the text: where they touch each other's temporaries x surely comes first. -/
theorem okTmps_ord (h : okTmps ops = true) {i j : Nat} {x y : Oper} (hx : ops[i]? = some x) (hy : ops[j]? = some y) (hij : i < j)
    (ht : (∃ t, x.dst = some t ∧ (t ∈ readsOf ops.toList y ∨ y.dst = some t)) ∨ (∃ t, y.dst = some t ∧ t ∈ readsOf ops.toList x)) : ord (bef ops) i j = true := by
  have h1 := okAll_get h j y (by simpa using hy)
  rw [Nat.zero_add] at h1
  have h2 := okWith_get h1 i x (by simpa using hx) (by omega)
  rw [Nat.zero_add] at h2
  unfold okPair at h2
  have : (hitsD x.dst (app (readsOf ops.toList y) (optL y.dst)) || hitsD y.dst (readsOf ops.toList x)) = true := by
    rw [Bool.or_eq_true, hitsD_iff, hitsD_iff]
    rcases ht with ⟨t, h3, h4⟩ | ⟨t, h3, h4⟩
    · refine .inl ⟨t, h3, ?_⟩
      rw [app_eq, List.mem_append]
      rcases h4 with h4 | h4
      · exact .inl h4
      · exact .inr (by rw [h4]; simp [optL])
    · exact .inr ⟨t, h3, h4⟩
  rw [this, cond_true] at h2
  exact h2
end

/-! ### A part of the temporaries -/
def restrict {α : Type} (tm : T α) : List Nat → T α
  | [] => .leaf
  | t :: l => T.set (restrict tm l) t (tm.get t)
theorem restrict_get {α : Type} (tm : T α) (k : Nat) : ∀ (l : List Nat), (restrict tm l).get k = if k ∈ l then tm.get k else none := by
  intro l
  induction l with
  | nil => simp [restrict, leaf_get]
  | cons t l ih =>
    simp only [restrict]
    rw [T.get_set, ih]
    by_cases e : k = t
    · subst e; simp
    · simp [e]
theorem tmpsOf_mem {l : List Operand} {t : Nat} : t ∈ tmpsOf l ↔ .tmp t ∈ l := by
  induction l with
  | nil => simp [tmpsOf]
  | cons x l ih =>
    cases x <;> simp [tmpsOf, ih]
end Go.Ev
namespace Go.Ev

section
variable {tm tm' : T V}

theorem mapO_congr {α β : Type} {f g : α → Option β} : ∀ {l : List α}, (∀ x ∈ l, f x = g x) → mapO f l = mapO g l := by
  intro l
  induction l with
  | nil => intro _; rfl
  | cons x l ih => intro h; simp only [mapO]; rw [h x (by simp), ih fun y hy => h y (by simp [hy])]
theorem evos_congr {l : List Operand} (h : ∀ x ∈ l, evo tm x = evo tm' x) : evos tm l = evos tm' l := mapO_congr h
theorem parts_congr : ∀ {l : List (Nat × Operand)}, (∀ p ∈ l, evo tm p.2 = evo tm' p.2) → parts tm l = parts tm' l := by
  intro l
  induction l with
  | nil => intro _; rfl
  | cons p l ih =>
    intro h
    obtain ⟨i, x⟩ := p
    simp only [parts]
    rw [h (i, x) (by simp), ih fun y hy => h y (by simp [hy])]
theorem bound_congr {x : Option Operand} {d : Nat} (h : ∀ y ∈ x, evo tm y = evo tm' y) : bound tm x d = bound tm' x d := by
  cases x with
  | none => rfl
  | some x => simp only [bound]; rw [h x (by simp)]
theorem sliceV_congr {ti : TI} {x : V} {lo hi mx : Option Operand} (h1 : ∀ y ∈ lo, evo tm y = evo tm' y) (h2 : ∀ y ∈ hi, evo tm y = evo tm' y) (h3 : ∀ y ∈ mx, evo tm y = evo tm' y) : sliceV ti x lo hi mx tm = sliceV ti x lo hi mx tm' := by
  have e1 := bound_congr (d := 0) h1
  have e2 : ∀ d, bound tm hi d = bound tm' hi d := fun d => bound_congr h2
  unfold sliceV
  rw [e1]
  simp only [e2]
  cases mx with
  | none => rfl
  | some m =>
    cases hi with
    | none => rfl
    | some o => simp only [h3 m (by simp), h2 o (by simp)]

variable {E : Env} {op : Op}

theorem execP_congr (h : ∀ x ∈ op.operands, evo tm x = evo tm' x) : execP E tm op = execP E tm' op := by
  cases op with
  | move x => exact h x (by simp [Op.operands])
  | assign x => exact h x (by simp [Op.operands])
  | pick c a b => simp only [execP]; rw [h c (by simp [Op.operands]), h a (by simp [Op.operands]), h b (by simp [Op.operands])]
  | nilCheck x => simp only [execP]; rw [h x (by simp [Op.operands])]
  | binOp op t x y z => simp only [execP]; rw [h x (by simp [Op.operands]), h y (by simp [Op.operands])]
  | unOp op t x => simp only [execP]; rw [h x (by simp [Op.operands])]
  | makeInterface t x => simp only [execP]; rw [h x (by simp [Op.operands])]
  | makeFunc f first cap =>
    cases f <;> try rfl
    simp only [execP]
    rw [evos_congr (tm' := tm') (l := first.toList) fun x hx => h x (by simp [Op.operands] at hx ⊢; exact .inl hx), evos_congr (tm' := tm') (l := cap.toList) fun x hx => h x (by simp [Op.operands] at hx ⊢; exact .inr hx)]
  | slice t x lo hi mx =>
    simp only [execP]
    rw [h x (by simp [Op.operands])]
    have : ∀ v ti, sliceV ti v lo hi mx tm = sliceV ti v lo hi mx tm' := fun v ti =>
      sliceV_congr (fun y hy => h y (by simp [Op.operands] at hy ⊢; simp [hy])) (fun y hy => h y (by simp [Op.operands] at hy ⊢; simp [hy])) (fun y hy => h y (by simp [Op.operands] at hy ⊢; simp [hy]))
    simp only [this]
  | fieldAddr t x i => simp only [execP]; rw [h x (by simp [Op.operands])]
  | field t x i => simp only [execP]; rw [h x (by simp [Op.operands])]
  | indexAddr t x i => simp only [execP]; rw [h x (by simp [Op.operands]), h i (by simp [Op.operands])]
  | index t x i => simp only [execP]; rw [h x (by simp [Op.operands]), h i (by simp [Op.operands])]
  | extract x i => simp only [execP]; rw [h x (by simp [Op.operands])]
  | build t ps => simp only [execP]; rw [parts_congr (tm' := tm') (l := ps.toList) fun p hp => h p.2 (by simp [Op.operands] at hp ⊢; exact ⟨p.1, hp⟩)]
  | convert s d x => simp only [execP]; rw [h x (by simp [Op.operands])]
  | _ => rfl
theorem call_args (h : ∀ x ∈ op.operands, evo tm x = evo tm' x) {c : Go.Call} (hc : op = .call c) : evos tm c.args.toList = evos tm' c.args.toList :=
  evos_congr fun x hx => h x (by rw [hc]; simp [Op.operands, Call.operands] at hx ⊢; exact .inr hx)
theorem execL_congr (h : ∀ x ∈ op.operands, evo tm x = evo tm' x) (x : Hp) : execL E tm op x = execL E tm' op x := by
  cases op with
  | load t a => simp only [execL]; rw [h a (by simp [Op.operands])]
  | lookup t m k ok => simp only [execL]; rw [h m (by simp [Op.operands]), h k (by simp [Op.operands])]
  | convert s d x => simp only [execL]; rw [h x (by simp [Op.operands])]
  | call c => simp only [execL]; rw [call_args h rfl]
  | _ => rfl
theorem execA_congr (h : ∀ x ∈ op.operands, evo tm x = evo tm' x) (b : Nat) : execA E tm op b = execA E tm' op b := by
  cases op with
  | box t x => simp only [execA]; rw [h x (by simp [Op.operands])]
  | buildSlice t n ps => simp only [execA]; rw [parts_congr (tm' := tm') (l := ps.toList) fun p hp => h p.2 (by simp [Op.operands] at hp ⊢; exact ⟨p.1, hp⟩)]
  | makeMap t r =>
    cases r with
    | none => rfl
    | some x => simp only [execA]; rw [h x (by simp [Op.operands])]
  | makeSlice t l c => simp only [execA]; rw [h l (by simp [Op.operands]), h c (by simp [Op.operands])]
  | convert s d x => simp only [execA]; rw [h x (by simp [Op.operands])]
  | _ => rfl
theorem execE_congr (h : ∀ x ∈ op.operands, evo tm x = evo tm' x) (x : Hp) : execE E tm op x = execE E tm' op x := by
  cases op with
  | store t a v => simp only [execE]; rw [h a (by simp [Op.operands]), h v (by simp [Op.operands])]
  | mapUpdate t m k v => simp only [execE]; rw [h m (by simp [Op.operands]), h k (by simp [Op.operands]), h v (by simp [Op.operands])]
  | insert t m k v => simp only [execE]; rw [h m (by simp [Op.operands]), h k (by simp [Op.operands]), h v (by simp [Op.operands])]
  | mapEntry t m k => simp only [execE]; rw [h m (by simp [Op.operands]), h k (by simp [Op.operands])]
  | entryStore t m k v => simp only [execE]; rw [h m (by simp [Op.operands]), h k (by simp [Op.operands]), h v (by simp [Op.operands])]
  | call c => simp only [execE]; rw [call_args h rfl]
  | range t x => simp only [execE]; rw [h x (by simp [Op.operands])]
  | next it s => cases s <;> (simp only [execE]; rw [h it (by simp [Op.operands])])
  | entry it => simp only [execE]; rw [h it (by simp [Op.operands])]
  | _ => rfl
theorem callOf_congr (h : ∀ x ∈ op.operands, evo tm x = evo tm' x) {c : Go.Call} (hc : op = .call c) : callOf tm c = callOf tm' c := by
  unfold callOf
  split
  · rename_i f e
    rw [call_args h hc, h f (by rw [hc]; simp [Op.operands, Call.operands, e])]
  · rfl
theorem evalE_congr (h : ∀ x ∈ op.operands, evo tm x = evo tm' x) (rc : RC) (x : Hp) : evalE E rc tm op x = evalE E rc tm' op x := by
  unfold evalE
  split
  · rename_i c
    split
    · rw [callOf_congr h rfl]
    · rw [execE_congr h]
  · rw [execE_congr h]
end

theorem wantA_congr {ops : List Oper} {tm tm' : T V} {g : Option (Nat × Bool)} (h : ∀ i b o d, g = some (i, b) → ops[i]? = some o → o.dst = some d → tm.get d = tm'.get d) : wantA ops tm g = wantA ops tm' g := by
  cases g with
  | none => rfl
  | some g =>
    obtain ⟨i, b⟩ := g
    simp only [wantA]
    cases ho : nth ops i with
    | none => rfl
    | some o =>
      cases hd : o.dst with
      | none => simp only [ob, hd]
      | some d =>
        simp only [ob, hd]
        rw [h i b o d rfl (by rw [← nth_eq]; exact ho) hd]
end Go.Ev
namespace Go.Ev

/-- How the evaluator goes past operation j: what it answers, and the state behind it. -/
inductive SK (E : Env) (rc : RC) (ops : List Oper) (b : List Nat) (j : Nat) (o : Oper) (s : RS) (tm : T V) : V → RS → Prop
  | skip (h : wantA ops s.tm o.guard = some false) : SK E rc ops b j o s tm undefV { s with tm := tm }
  | p {v : V} (hw : wantA ops s.tm o.guard = some true) (hc : clOf E o.op = .p) (hx : execP E s.tm o.op = some v) : SK E rc ops b j o s tm v { s with tm := tm }
  | l {v : V} (hw : wantA ops s.tm o.guard = some true) (hc : clOf E o.op = .l) (hx : execL E s.tm o.op ⟨s.x.nx, addL b j s.pend s.x.os⟩ = some v) (hh : okHist E b s.x.nx j s.tm o.op v s.hist = true) :
      SK E rc ops b j o s tm v { s with tm := tm, lds := ⟨j, s.tm, o.op, v⟩ :: s.lds }
  | a {v : V} {ob : O} (hw : wantA ops s.tm o.guard = some true) (hc : clOf E o.op = .a) (hx : execA E s.tm o.op s.x.nx = some (v, ob)) :
      SK E rc ops b j o s tm v { s with tm := tm, x := ⟨Nat.succ s.x.nx, s.x.os⟩, pend := ⟨j, s.x.nx, ob, []⟩ :: s.pend }
  | i {t : Nat} {m k x : Operand} {ki : TI} {mb : Nat} {kv xv : V} {pend : List Pd} (hw : wantA ops s.tm o.guard = some true) (hc : clOf E o.op = .i) (ho : o.op = .insert t m k x) (hki : keyTi E t = some ki)
      (hm : evo s.tm m = some (.map mb)) (hk : evo s.tm k = some kv) (hv : evo s.tm x = some xv) (hok : keyOk ki.d kv = true) (hp : insP j mb s.x.nx kv xv s.pend = some pend) :
      SK E rc ops b j o s tm undefV { s with tm := tm, x := s.x.bump, pend := pend }
  | e {v : V} {h' : Hp} (hw : wantA ops s.tm o.guard = some true) (hc : clOf E o.op = .e) (hl : okLast b j s.last = true) (hx : evalE E rc s.tm o.op ⟨s.x.nx, addP b j s.pend s.x.os⟩ = some (v, h')) (hd : okLds E b j (restP b j s.pend) h' s.lds = true) :
      SK E rc ops b j o s tm v { tm := tm, x := h', pend := restP b j s.pend, hist := ⟨j, s.x.os, s.pend⟩ :: s.hist, lds := s.lds, last := some j }

theorem stepR_sk {E : Env} {rc : RC} {n : Nat} {ops : List Oper} {b : List Nat} {j : Nat} {o : Oper} {s s' : RS} (h : stepR E rc n ops b j o s = some s') :
    ∃ v tm, putT n s.tm o.dst v = some tm ∧ SK E rc ops b j o s tm v s' := by
  unfold stepR at h
  obtain ⟨wn, hw, h⟩ := ob_some h
  cases wn with
  | false =>
    rw [cond_false] at h
    obtain ⟨tm, ht, h⟩ := ob_some h
    cases h
    exact ⟨_, tm, ht, .skip hw⟩
  | true =>
    rw [cond_true] at h
    split at h
    · rename_i hc
      obtain ⟨v, hx, h⟩ := ob_some h
      obtain ⟨tm, ht, h⟩ := ob_some h
      cases h
      exact ⟨v, tm, ht, .p hw hc hx⟩
    · rename_i hc
      obtain ⟨v, hx, h⟩ := ob_some h
      obtain ⟨tm, ht, h⟩ := ob_some h
      obtain ⟨hh, h⟩ := bif_some h
      cases h
      exact ⟨v, tm, ht, .l hw hc hx hh⟩
    · rename_i hc
      obtain ⟨⟨v, ob⟩, hx, h⟩ := ob_some h
      obtain ⟨tm, ht, h⟩ := ob_some h
      cases h
      exact ⟨v, tm, ht, .a hw hc hx⟩
    · rename_i hc
      split at h
      · rename_i t m k x ho
        obtain ⟨ki, hki, h⟩ := ob_some h
        obtain ⟨mv, hm, h⟩ := ob_some h
        obtain ⟨kv, hk, h⟩ := ob_some h
        obtain ⟨xv, hv, h⟩ := ob_some h
        split at h
        · rename_i mb
          obtain ⟨hok, h⟩ := bif_some h
          obtain ⟨pend, hp, h⟩ := ob_some h
          obtain ⟨tm, ht, h⟩ := ob_some h
          cases h
          exact ⟨_, tm, ht, .i hw hc ho hki hm hk hv hok hp⟩
        · cases h
      · cases h
    · rename_i hc
      obtain ⟨hl, h⟩ := bif_some h
      obtain ⟨⟨v, h'⟩, hx, h⟩ := ob_some h
      obtain ⟨tm, ht, h⟩ := ob_some h
      obtain ⟨hd, h⟩ := bif_some h
      cases h
      exact ⟨v, tm, ht, .e hw hc hl hx hd⟩
theorem SK.tm_eq {E : Env} {rc : RC} {ops : List Oper} {b : List Nat} {j : Nat} {o : Oper} {s s' : RS} {tm : T V} {v : V} (h : SK E rc ops b j o s tm v s') : s'.tm = tm := by
  cases h <;> rfl

/-- The way through the text: the state ahead of each operation, and what each answers. -/
structure Tr (E : Env) (rc : RC) (n : Nat) (ops : Array Oper) (f : Nat → RS) (val : Nat → V) : Prop where
  put : ∀ j o, ops[j]? = some o → putT n (f j).tm o.dst (val j) = some (f (j + 1)).tm
  sk : ∀ j o, ops[j]? = some o → SK E rc ops.toList (bef ops) j o (f j) (f (j + 1)).tm (val j) (f (j + 1))

theorem goR_tr {E : Env} {rc : RC} {n : Nat} {ops : List Oper} {b : List Nat} : ∀ {l : List Oper} {j : Nat} {s s' : RS}, goR E rc n ops b l j s = some s' →
    ∃ (f : Nat → RS) (val : Nat → V), f j = s ∧ f (j + l.length) = s' ∧ ∀ i o, l[i]? = some o → putT n (f (j + i)).tm o.dst (val (j + i)) = some (f (j + i + 1)).tm ∧ SK E rc ops b (j + i) o (f (j + i)) (f (j + i + 1)).tm (val (j + i)) (f (j + i + 1)) := by
  intro l
  induction l with
  | nil => intro j s s' h; cases h; exact ⟨fun _ => s, fun _ => undefV, rfl, rfl, fun i o h => by simp at h⟩
  | cons o l ih =>
    intro j s s' h
    obtain ⟨s1, h1, h2⟩ := ob_some h
    obtain ⟨f, val, hf, hf', hs⟩ := ih h2
    obtain ⟨v, tm, ht, hsk⟩ := stepR_sk h1
    have e1 : Nat.succ j = j + 1 := rfl
    rw [e1] at hf hf' hs
    refine ⟨fun k => if k ≤ j then s else f k, fun k => if k = j then v else val k, by simp, ?_, ?_⟩
    · have : ¬ (j + (o :: l).length ≤ j) := by simp
      simp only [this, if_false]
      rw [← hf']
      congr 1
      simp; omega
    · intro i o' ho
      cases i with
      | zero =>
        simp at ho
        subst ho
        have : ¬ (j + 1 ≤ j) := by omega
        simp only [Nat.add_zero, Nat.le_refl, if_true, this, if_false]
        rw [hf]
        have := hsk.tm_eq
        rw [this]
        exact ⟨ht, hsk⟩
      | succ i =>
        have h3 : ¬ (j + (i + 1) ≤ j) := by omega
        have h4 : ¬ (j + (i + 1) + 1 ≤ j) := by omega
        have h5 : ¬ (j + (i + 1) = j) := by omega
        simp only [h3, h4, h5, if_false]
        have := hs i o' (by simpa using ho)
        have e2 : j + 1 + i = j + (i + 1) := by omega
        rw [e2] at this
        exact this

/-- What is claimed of calls out of a region: numbers only grow. -/
def RcMono (rc : RC) : Prop := ∀ t h v h', rc t h = some (v, h') → h.nx ≤ h'.nx
theorem evalE_mono {E : Env} {rc : RC} (hm : RcMono rc) {tm : T V} {op : Op} {x : Hp} {v : V} {h' : Hp} (h : evalE E rc tm op x = some (v, h')) : x.nx ≤ h'.nx := by
  unfold evalE at h
  split at h
  · split at h
    · obtain ⟨t, _, h⟩ := ob_some h
      exact hm _ _ _ _ h
    · exact execE_mono h
  · exact execE_mono h

section
variable {E : Env} {rc : RC} {n : Nat} {ops : Array Oper} {f : Nat → RS} {val : Nat → V}

theorem SK.nx {ops : List Oper} {b : List Nat} {j : Nat} {o : Oper} {s s' : RS} {tm : T V} {v : V} (hm : RcMono rc) (h : SK E rc ops b j o s tm v s') : s.x.nx ≤ s'.x.nx := by
  cases h with
  | skip h => exact Nat.le_refl _
  | p => exact Nat.le_refl _
  | l => exact Nat.le_refl _
  | a => exact Nat.le_succ _
  | i => exact Nat.le_succ _
  | e hw hc hl hx hd => exact evalE_mono (x := ⟨s.x.nx, addP b j s.pend s.x.os⟩) hm hx
theorem Tr.nx_le (hT : Tr E rc n ops f val) (hm : RcMono rc) {i j : Nat} (hij : i ≤ j) (hj : j ≤ ops.size) : (f i).x.nx ≤ (f j).x.nx := by
  induction j with
  | zero => have : i = 0 := by omega
            subst this; exact Nat.le_refl _
  | succ j ih =>
    by_cases e : i = j + 1
    · subst e; exact Nat.le_refl _
    · have h1 := ih (by omega) (by omega)
      have hlt : j < ops.size := by omega
      exact Nat.le_trans h1 ((hT.sk j ops[j] (by simp [hlt])).nx hm)

/-- Operation j makes block b, which is o. -/
def Made (E : Env) (ops : Array Oper) (f : Nat → RS) (j b : Nat) (ob : O) : Prop :=
  ∃ o v, ops[j]? = some o ∧ wantA ops.toList (f j).tm o.guard = some true ∧ clOf E o.op = .a ∧ execA E (f j).tm o.op (f j).x.nx = some (v, ob) ∧ b = (f j).x.nx
/-- Operation j lays entry e into the map literal of block b. -/
def Ins (E : Env) (ops : Array Oper) (f : Nat → RS) (j b : Nat) (e : Me) : Prop :=
  ∃ o t m k x ki kv xv, ops[j]? = some o ∧ wantA ops.toList (f j).tm o.guard = some true ∧ clOf E o.op = .i ∧ o.op = .insert t m k x ∧ keyTi E t = some ki ∧ keyOk ki.d kv = true ∧
    evo (f j).tm m = some (.map b) ∧ evo (f j).tm k = some kv ∧ evo (f j).tm x = some xv ∧ e = ⟨(f j).x.nx, kv, xv⟩
/-- Operation j writes. -/
def IsE (E : Env) (ops : Array Oper) (f : Nat → RS) (j : Nat) : Prop :=
  ∃ o, ops[j]? = some o ∧ wantA ops.toList (f j).tm o.guard = some true ∧ clOf E o.op = .e

theorem Made.lt {j b : Nat} {ob : O} (h : Made E ops f j b ob) : j < ops.size := by
  obtain ⟨o, _, ho, _⟩ := h; exact (Array.getElem?_eq_some_iff.1 ho).1
theorem IsE.lt {j : Nat} (h : IsE E ops f j) : j < ops.size := by
  obtain ⟨o, ho, _⟩ := h; exact (Array.getElem?_eq_some_iff.1 ho).1
theorem Made.num {j b : Nat} {ob : O} (h : Made E ops f j b ob) : b = (f j).x.nx := by
  obtain ⟨_, _, _, _, _, _, hb⟩ := h; exact hb
theorem Made.fn {j b b' : Nat} {ob ob' : O} (h : Made E ops f j b ob) (h' : Made E ops f j b' ob') : ob = ob' := by
  obtain ⟨o, v, h1, _, _, h4, _⟩ := h
  obtain ⟨o', v', g1, _, _, g4, _⟩ := h'
  rw [h1] at g1; cases g1
  rw [h4] at g4; cases g4; rfl
theorem Made.notE {j b : Nat} {ob : O} (h : Made E ops f j b ob) (h' : IsE E ops f j) : False := by
  obtain ⟨o, v, h1, _, h3, _⟩ := h
  obtain ⟨o', g1, _, g3⟩ := h'
  rw [h1] at g1; cases g1
  rw [h3] at g3; cases g3
theorem Made.notI {j b b' : Nat} {ob : O} {e : Me} (h : Made E ops f j b ob) (h' : Ins E ops f j b' e) : False := by
  obtain ⟨o, v, h1, _, h3, _⟩ := h
  obtain ⟨o', _, _, _, _, _, _, _, g1, _, g3, _⟩ := h'
  rw [h1] at g1; cases g1
  rw [h3] at g3; cases g3
theorem Ins.notE {j b : Nat} {e : Me} (h : Ins E ops f j b e) (h' : IsE E ops f j) : False := by
  obtain ⟨o, _, _, _, _, _, _, _, h1, _, h3, _⟩ := h
  obtain ⟨o', g1, _, g3⟩ := h'
  rw [h1] at g1; cases g1
  rw [h3] at g3; cases g3
theorem Ins.lt {j b : Nat} {e : Me} (h : Ins E ops f j b e) : j < ops.size := by
  obtain ⟨o, _, _, _, _, _, _, _, h1, _⟩ := h; exact (Array.getElem?_eq_some_iff.1 h1).1
theorem Ins.fn {j b b' : Nat} {e e' : Me} (h : Ins E ops f j b e) (h' : Ins E ops f j b' e') : b = b' ∧ e = e' := by
  obtain ⟨o, t, m, k, x, ki, kv, xv, h1, h2, h3, h4, h5, h6, h7, h8, h9, h10⟩ := h
  obtain ⟨o', t', m', k', x', ki', kv', xv', g1, g2, g3, g4, g5, g6, g7, g8, g9, g10⟩ := h'
  rw [h1] at g1; cases g1
  rw [h4] at g4; cases g4
  rw [h7] at g7; rw [h8] at g8; rw [h9] at g9
  cases g7; cases g8; cases g9
  exact ⟨rfl, by rw [h10, g10]⟩
theorem Ins.num {j b : Nat} {e : Me} (h : Ins E ops f j b e) : e.i = (f j).x.nx := by
  obtain ⟨o, t, m, k, x, ki, kv, xv, h1, h2, h3, h4, h5, h6, h7, h8, h9, h10⟩ := h
  rw [h10]

/-- A number that operation j gives out lies between. -/
theorem Tr.made_nx (hT : Tr E rc n ops f val) {j b : Nat} {ob : O} (h : Made E ops f j b ob) : (f (j + 1)).x.nx = (f j).x.nx + 1 := by
  obtain ⟨o, v, h1, h2, h3, h4, h5⟩ := h
  have hs := hT.sk j o h1
  generalize hv : val j = vj at hs
  generalize ht : (f (j + 1)).tm = tm2 at hs
  generalize hs2 : f (j + 1) = s2 at hs
  cases hs with
  | skip h => rw [h2] at h; cases h
  | p hw hc => rw [h3] at hc; cases hc
  | l hw hc => rw [h3] at hc; cases hc
  | a => rfl
  | i hw hc => rw [h3] at hc; cases hc
  | e hw hc => rw [h3] at hc; cases hc
theorem Tr.ins_nx (hT : Tr E rc n ops f val) {j b : Nat} {e : Me} (h : Ins E ops f j b e) : (f (j + 1)).x.nx = (f j).x.nx + 1 := by
  obtain ⟨o, t, m, k, x, ki, kv, xv, h1, h2, h3, _⟩ := h
  have hs := hT.sk j o h1
  generalize ht : (f (j + 1)).tm = tm2 at hs
  generalize hs2 : f (j + 1) = s2 at hs
  generalize hv : val j = vj at hs
  cases hs with
  | skip h => rw [h2] at h; cases h
  | p hw hc => rw [h3] at hc; cases hc
  | l hw hc => rw [h3] at hc; cases hc
  | a => rfl
  | i => rfl
  | e hw hc => rw [h3] at hc; cases hc
theorem Tr.made_inj (hT : Tr E rc n ops f val) (hm : RcMono rc) {j j' b : Nat} {ob ob' : O} (h : Made E ops f j b ob) (h' : Made E ops f j' b ob') : j = j' := by
  have e1 := h.num
  have e2 := h'.num
  have l1 := h.lt
  have l2 := h'.lt
  have n1 := hT.made_nx h
  have n2 := hT.made_nx h'
  by_cases hlt : j < j'
  · have := hT.nx_le hm (i := j + 1) (j := j') (by omega) (by omega); omega
  · by_cases hgt : j' < j
    · have := hT.nx_le hm (i := j' + 1) (j := j) (by omega) (by omega); omega
    · omega
theorem Tr.ins_inj (hT : Tr E rc n ops f val) (hm : RcMono rc) {j j' b b' : Nat} {e e' : Me} (h : Ins E ops f j b e) (h' : Ins E ops f j' b' e') (he : e.i = e'.i) : j = j' := by
  have e1 := h.num
  have e2 := h'.num
  have l1 := h.lt
  have l2 := h'.lt
  have n1 := hT.ins_nx h
  have n2 := hT.ins_nx h'
  by_cases hlt : j < j'
  · have := hT.nx_le hm (i := j + 1) (j := j') (by omega) (by omega); omega
  · by_cases hgt : j' < j
    · have := hT.nx_le hm (i := j' + 1) (j := j) (by omega) (by omega); omega
    · omega
end
end Go.Ev
namespace Go.Ev

/-! ### Two values of one text are one -/
theorem capEq_eq {a b : Cap} (h : capEq a b = true) : a = b := by
  cases a <;> cases b <;> simp only [capEq, Bool.and_eq_true] at h
  · rw [Nat.eq_of_beq_eq_true h]
  · cases h
  · cases h
  · rw [Nat.eq_of_beq_eq_true h.1, Nat.eq_of_beq_eq_true h.2]
theorem eqI_of {a b : Int} (h : eqI a b = true) : a = b := by rw [eqI_eq] at h; exact eq_of_beq h
theorem strEq_of {a b : List Nat} (h : strEq a b = true) : a = b := by rw [strEq_eq] at h; exact eq_of_beq h
mutual
theorem veq_eq : ∀ (a b : V), veq a b = true → a = b
  | .bool a, b, h => by cases b <;> simp only [veq] at h <;> first | cases h | (rw [eqCell_bool] at h; rw [eq_of_beq h])
  | .int j a, b, h => by
      cases b <;> simp only [veq, Bool.and_eq_true] at h <;> first | cases h | skip
      rename_i h1 h2; rw [kEq_eq h1, eqI_of h2]
  | .str a, b, h => by cases b <;> simp only [veq] at h <;> first | cases h | rw [strEq_of h]
  | .nilptr, b, h => by cases b <;> simp only [veq] at h <;> first | rfl | cases h
  | .ptr a c, b, h => by
      cases b <;> simp only [veq, Bool.and_eq_true] at h <;> first | cases h | skip
      rename_i h1 h2; rw [Nat.eq_of_beq_eq_true h1, Nat.eq_of_beq_eq_true h2]
  | .nilslice, b, h => by cases b <;> simp only [veq] at h <;> first | rfl | cases h
  | .slice a c d e, b, h => by
      cases b <;> simp only [veq, Bool.and_eq_true] at h <;> first | (cases h; done) | skip
      obtain ⟨⟨⟨h1, h2⟩, h3⟩, h4⟩ := h
      rw [Nat.eq_of_beq_eq_true h1, Nat.eq_of_beq_eq_true h2, Nat.eq_of_beq_eq_true h3, capEq_eq h4]
  | .nilmap, b, h => by cases b <;> simp only [veq] at h <;> first | rfl | cases h
  | .map a, b, h => by cases b <;> simp only [veq] at h <;> first | cases h | rw [Nat.eq_of_beq_eq_true h]
  | .nilfn, b, h => by cases b <;> simp only [veq] at h <;> first | rfl | cases h
  | .fn f a c, b, h => by
      cases b <;> simp only [veq, Bool.and_eq_true] at h <;> first | (cases h; done) | skip
      obtain ⟨⟨h1, h2⟩, h3⟩ := h
      rw [Nat.eq_of_beq_eq_true h1, veqs_eq _ _ h2, veqs_eq _ _ h3]
  | .yield a, b, h => by cases b <;> simp only [veq] at h <;> first | cases h | rw [Nat.eq_of_beq_eq_true h]
  | .niliface, b, h => by cases b <;> simp only [veq] at h <;> first | rfl | cases h
  | .iface t v, b, h => by
      cases b <;> simp only [veq, Bool.and_eq_true] at h <;> first | (cases h; done) | skip
      rw [Nat.eq_of_beq_eq_true h.1, veq_eq _ _ h.2]
  | .agg a, b, h => by cases b <;> simp only [veq] at h <;> first | cases h | rw [veqs_eq _ _ h]
  | .tup a, b, h => by cases b <;> simp only [veq] at h <;> first | cases h | rw [veqs_eq _ _ h]
  | .glob a, b, h => by cases b <;> simp only [veq] at h <;> first | cases h | rw [Nat.eq_of_beq_eq_true h]
  | .stamp a, b, h => by cases b <;> simp only [veq] at h <;> first | cases h | rw [Nat.eq_of_beq_eq_true h]
  | .unk, b, h => by cases b <;> simp only [veq] at h <;> first | rfl | cases h
theorem veqs_eq : ∀ (a b : List V), veqs a b = true → a = b
  | [], b, h => by cases b <;> simp only [veqs] at h <;> first | rfl | cases h
  | x :: a, b, h => by
      cases b <;> simp only [veqs, Bool.and_eq_true] at h <;> first | (cases h; done) | skip
      rw [veq_eq _ _ h.1, veqs_eq _ _ h.2]
end
theorem sameL_eq {r : Option V} {v : V} (h : sameL r v = true) : r = some v := by
  unfold sameL at h
  cases r with
  | none => cases h
  | some u => rw [veq_eq _ _ h]

theorem okHist_get {E : Env} {b : List Nat} {nx j : Nat} {tm : T V} {op : Op} {v : V} : ∀ {l : List Hist}, okHist E b nx j tm op v l = true → l.Pairwise (fun x y => y.e < x.e) →
    ∀ s ∈ l, (∀ s' ∈ l, s.e ≤ s'.e → ord b s'.e j = false) → execL E tm op ⟨nx, addL b j s.pend s.os⟩ = some v := by
  intro l
  induction l with
  | nil => intro _ _ s hs; simp at hs
  | cons x l ih =>
    intro h hp s hs hno
    simp only [okHist] at h
    have hx : ord b x.e j = false := by
      rcases List.mem_cons.1 hs with rfl | hs
      · exact hno _ (by simp) (Nat.le_refl _)
      · exact hno x (by simp) (Nat.le_of_lt ((List.pairwise_cons.1 hp).1 s hs))
    rw [hx, cond_false] at h
    cases hx : sameL (execL E tm op ⟨nx, addL b j x.pend x.os⟩) v with
    | false => rw [hx] at h; cases h
    | true =>
      rw [hx, cond_true] at h
      rcases List.mem_cons.1 hs with rfl | hs
      · exact sameL_eq hx
      · exact ih h (List.pairwise_cons.1 hp).2 s hs fun s' hs' => hno s' (by simp [hs'])
theorem okLds_get {E : Env} {b : List Nat} {j : Nat} {pend : List Pd} {x : Hp} : ∀ {l : List Ld}, okLds E b j pend x l = true → ∀ s ∈ l, ord b s.j j = true ∨ execL E s.tm s.op ⟨x.nx, addL b s.j pend x.os⟩ = some s.v := by
  intro l
  induction l with
  | nil => intro _ s hs; simp at hs
  | cons y l ih =>
    intro h s hs
    simp only [okLds] at h
    cases ho : ord b y.j j with
    | true =>
      rw [ho, cond_true] at h
      rcases List.mem_cons.1 hs with rfl | hs
      · exact .inl ho
      · exact ih h s hs
    | false =>
      rw [ho, cond_false] at h
      cases hx : sameL (execL E y.tm y.op ⟨x.nx, addL b y.j pend x.os⟩) y.v with
      | false => rw [hx] at h; cases h
      | true =>
        rw [hx, cond_true] at h
        rcases List.mem_cons.1 hs with rfl | hs
        · exact .inr (sameL_eq hx)
        · exact ih h s hs
theorem insP_spec {j m id : Nat} {k v : V} : ∀ {l l' : List Pd}, insP j m id k v l = some l' →
    ∃ l1 p l2, l = l1 ++ p :: l2 ∧ p.b = m ∧ p.o = .map [] ∧ freshKey k p.ins = true ∧ l' = l1 ++ { p with ins := ⟨j, ⟨id, k, v⟩⟩ :: p.ins } :: l2 := by
  intro l
  induction l with
  | nil => intro l' h; cases h
  | cons p l ih =>
    intro l' h
    simp only [insP] at h
    cases hb : Nat.beq p.b m with
    | true =>
      rw [hb, cond_true] at h
      split at h
      · rename_i ho
        obtain ⟨hf, h⟩ := bif_some h
        cases h
        exact ⟨[], p, l, rfl, Nat.eq_of_beq_eq_true hb, ho, hf, rfl⟩
      · cases h
    | false =>
      rw [hb, cond_false] at h
      obtain ⟨r, hr, h⟩ := ob_some h
      cases h
      obtain ⟨l1, q, l2, rfl, h1, h2, h3, rfl⟩ := ih hr
      exact ⟨p :: l1, q, l2, rfl, h1, h2, h3, rfl⟩
theorem freshKey_get {k : V} : ∀ {l : List In}, freshKey k l = true → ∀ x ∈ l, eqCell k x.e.k = some false := by
  intro l
  induction l with
  | nil => intro _ x hx; simp at hx
  | cons y l ih =>
    intro h x hx
    simp only [freshKey] at h
    split at h
    · rename_i he
      rcases List.mem_cons.1 hx with rfl | hx
      · exact he
      · exact ih h x hx
    · cases h
theorem restP_mem {b : List Nat} {j : Nat} {p : Pd} : ∀ {l : List Pd}, p ∈ restP b j l ↔ p ∈ l ∧ seenP b j p = false := by
  intro l
  induction l with
  | nil => simp [restP]
  | cons q l ih =>
    simp only [restP]
    cases hs : seenP b j q with
    | true =>
      rw [cond_true, ih]
      constructor
      · rintro ⟨h1, h2⟩; exact ⟨List.mem_cons_of_mem _ h1, h2⟩
      · rintro ⟨h1, h2⟩
        rcases List.mem_cons.1 h1 with rfl | h1
        · rw [hs] at h2; cases h2
        · exact ⟨h1, h2⟩
    | false =>
      rw [cond_false, List.mem_cons, ih]
      constructor
      · rintro (rfl | ⟨h1, h2⟩)
        · exact ⟨by simp, hs⟩
        · exact ⟨List.mem_cons_of_mem _ h1, h2⟩
      · rintro ⟨h1, h2⟩
        rcases List.mem_cons.1 h1 with rfl | h1
        · exact .inl rfl
        · exact .inr ⟨h1, h2⟩
theorem restP_sub {b : List Nat} {j : Nat} : ∀ (l : List Pd), (restP b j l).Sublist l := by
  intro l
  induction l with
  | nil => exact .slnil
  | cons q l ih =>
    simp only [restP]
    cases seenP b j q with
    | true => exact .cons _ ih
    | false => exact .cons_cons _ ih
theorem insOk_mem {b : List Nat} {j : Nat} : ∀ {l : List In}, insOk b j l = true → ∀ x ∈ l, ord b x.i j = true := by
  intro l
  induction l with
  | nil => intro _ x hx; simp at hx
  | cons y l ih =>
    intro h x hx
    simp only [insOk] at h
    cases ho : ord b y.i j with
    | false => rw [ho] at h; cases h
    | true =>
      rw [ho, cond_true] at h
      rcases List.mem_cons.1 hx with rfl | hx
      · exact ho
      · exact ih h x hx
theorem seenP_spec {b : List Nat} {j : Nat} {p : Pd} (h : seenP b j p = true) : ord b p.i j = true ∧ ∀ x ∈ p.ins, ord b x.i j = true := by
  unfold seenP at h
  cases ho : ord b p.i j with
  | false => rw [ho] at h; cases h
  | true => rw [ho, cond_true] at h; exact ⟨rfl, insOk_mem h⟩

section
variable {E : Env} {rc : RC} {n : Nat} {ops : Array Oper} {f : Nat → RS} {val : Nat → V}

/-- What is known of the blocks that are pending ahead of operation t. -/
structure PInv (E : Env) (ops : Array Oper) (f : Nat → RS) (t : Nat) : Prop where
  made : ∀ p ∈ (f t).pend, p.i < t ∧ Made E ops f p.i p.b p.o
  desc : (f t).pend.Pairwise fun p q => q.i < p.i
  insm : ∀ p ∈ (f t).pend, ∀ x ∈ p.ins, x.i < t ∧ p.i < x.i ∧ Ins E ops f x.i p.b x.e
  insc : ∀ p ∈ (f t).pend, ∀ i e, i < t → Ins E ops f i p.b e → ⟨i, e⟩ ∈ p.ins
  insd : ∀ p ∈ (f t).pend, p.ins.Pairwise fun x y => y.i < x.i
  keys : ∀ p ∈ (f t).pend, p.ins.Pairwise fun x y => eqCell x.e.k y.e.k = some false
  map : ∀ p ∈ (f t).pend, p.ins ≠ [] → p.o = .map []

/-- Is what operation a made still pending ahead of operation t? -/
def Live (f : Nat → RS) (t a : Nat) : Prop := ∃ p ∈ (f t).pend, p.i = a

theorem PInv.uniq {t : Nat} (h : PInv E ops f t) {p q : Pd} (hp : p ∈ (f t).pend) (hq : q ∈ (f t).pend) (e : p.i = q.i) : p = q := by
  have := h.desc
  generalize (f t).pend = l at this hp hq
  induction l with
  | nil => simp at hp
  | cons x l ih =>
    obtain ⟨h1, h2⟩ := List.pairwise_cons.1 this
    rcases List.mem_cons.1 hp with e1 | hp1
    · rcases List.mem_cons.1 hq with e2 | hq1
      · rw [e1, e2]
      · have := h1 q hq1; rw [e1] at e; omega
    · rcases List.mem_cons.1 hq with e2 | hq1
      · have := h1 p hp1; rw [e2] at e; omega
      · exact ih h2 hp1 hq1

/-- By cases on what operation t is. -/
theorem Tr.pend_step (hT : Tr E rc n ops f val) {t : Nat} (ht : t < ops.size) :
    ((f (t + 1)).pend = (f t).pend ∧ (∀ b o, ¬ Made E ops f t b o) ∧ (∀ b e, ¬ Ins E ops f t b e) ∧ ¬ IsE E ops f t) ∨
    (∃ b o, Made E ops f t b o ∧ (f (t + 1)).pend = ⟨t, b, o, []⟩ :: (f t).pend) ∨
    (∃ b e pend, Ins E ops f t b e ∧ insP t b e.i e.k e.v (f t).pend = some pend ∧ (f (t + 1)).pend = pend) ∨
    (IsE E ops f t ∧ (f (t + 1)).pend = restP (bef ops) t (f t).pend) := by
  obtain ⟨o, ho⟩ : ∃ o, ops[t]? = some o := ⟨ops[t], by simp [ht]⟩
  have hs := hT.sk t o ho
  have nm : ∀ {c : Cl}, c ≠ .a → clOf E o.op = c → ∀ b ob, ¬ Made E ops f t b ob := by
    rintro c hne hc b ob ⟨o', v, h1, _, h3, _⟩
    rw [ho] at h1; cases h1
    exact hne (hc.symm.trans h3)
  have ni : ∀ {c : Cl}, c ≠ .i → clOf E o.op = c → ∀ b e, ¬ Ins E ops f t b e := by
    rintro c hne hc b e ⟨o', _, _, _, _, _, _, _, h1, _, h3, _⟩
    rw [ho] at h1; cases h1
    exact hne (hc.symm.trans h3)
  have ne : ∀ {c : Cl}, c ≠ .e → clOf E o.op = c → ¬ IsE E ops f t := by
    rintro c hne hc ⟨o', h1, _, h3⟩
    rw [ho] at h1; cases h1
    exact hne (hc.symm.trans h3)
  generalize hs2 : (f (t + 1)).pend = pd
  generalize hs3 : (f (t + 1)).tm = tm2 at hs
  generalize hs4 : f (t + 1) = s2 at hs hs2
  generalize hv : val t = vt at hs
  cases hs with
  | skip h =>
    subst hs2
    refine .inl ⟨rfl, ?_, ?_, ?_⟩
    · rintro b ob ⟨o', v, h1, h2, _⟩; rw [ho] at h1; cases h1; rw [h] at h2; cases h2
    · rintro b e ⟨o', _, _, _, _, _, _, _, h1, h2, _⟩; rw [ho] at h1; cases h1; rw [h] at h2; cases h2
    · rintro ⟨o', h1, h2, _⟩; rw [ho] at h1; cases h1; rw [h] at h2; cases h2
  | p hw hc => subst hs2; exact .inl ⟨rfl, nm (by simp) hc, ni (by simp) hc, ne (by simp) hc⟩
  | l hw hc => subst hs2; exact .inl ⟨rfl, nm (by simp) hc, ni (by simp) hc, ne (by simp) hc⟩
  | a hw hc hx => subst hs2; exact .inr (.inl ⟨_, _, ⟨o, _, ho, hw, hc, hx, rfl⟩, rfl⟩)
  | i hw hc ho' hki hm hk hx hok hp => subst hs2; exact .inr (.inr (.inl ⟨_, ⟨_, _, _⟩, _, ⟨o, _, _, _, _, _, _, _, ho, hw, hc, ho', hki, hok, hm, hk, hx, rfl⟩, hp, rfl⟩))
  | e hw hc hl hx hd => subst hs2; exact .inr (.inr (.inr ⟨⟨o, ho, hw, hc⟩, rfl⟩))

theorem mid_mem {l1 l2 : List Pd} {p p' : Pd} (hd : (l1 ++ p :: l2).Pairwise fun p q => q.i < p.i) {q : Pd} (hq : q ∈ l1 ++ p' :: l2) : q = p' ∨ (q ∈ l1 ++ p :: l2 ∧ q.i ≠ p.i) := by
  obtain ⟨h1, h2, h3⟩ := List.pairwise_append.1 hd
  rcases List.mem_append.1 hq with hq | hq
  · have := h3 q hq p (by simp)
    exact .inr ⟨by simp [hq], by omega⟩
  · rcases List.mem_cons.1 hq with rfl | hq
    · exact .inl rfl
    · have := (List.pairwise_cons.1 h2).1 q hq
      exact .inr ⟨by simp [hq], by omega⟩
/-- An entry is laid into what is pending. -/
theorem Tr.ins_pend (hT : Tr E rc n ops f val) {i b : Nat} {e : Me} (hI : Ins E ops f i b e) : ∃ p ∈ (f i).pend, p.b = b ∧ p.o = .map [] ∧ ∀ x ∈ p.ins, eqCell e.k x.e.k = some false := by
  rcases hT.pend_step hI.lt with ⟨_, _, h2, _⟩ | ⟨_, _, h1, _⟩ | ⟨b', e', pend', hI', hp', _⟩ | ⟨h1, _⟩
  · exact absurd hI (h2 _ _)
  · exact (h1.notI hI).elim
  · obtain ⟨rfl, rfl⟩ := hI.fn hI'
    obtain ⟨l1, p, l2, hl, hb, ho, hf, _⟩ := insP_spec hp'
    exact ⟨p, by rw [hl]; simp, hb, ho, freshKey_get hf⟩
  · exact (hI.notE h1).elim

theorem Tr.pinv (hT : Tr E rc n ops f val) (hm : RcMono rc) (h0 : (f 0).pend = []) : ∀ t, t ≤ ops.size → PInv E ops f t := by
  intro t
  induction t using Nat.strongRecOn with
  | ind t ih =>
  cases t with
  | zero => intro _; constructor <;> simp [h0]
  | succ t =>
    intro ht
    have hP := ih t (by omega) (by omega)
    have made_old : ∀ p ∈ (f t).pend, p.i < t + 1 ∧ Made E ops f p.i p.b p.o := fun p hp => ⟨Nat.lt_succ_of_lt (hP.made p hp).1, (hP.made p hp).2⟩
    have insm_old : ∀ p ∈ (f t).pend, ∀ x ∈ p.ins, x.i < t + 1 ∧ p.i < x.i ∧ Ins E ops f x.i p.b x.e := fun p hp x hx => ⟨Nat.lt_succ_of_lt (hP.insm p hp x hx).1, (hP.insm p hp x hx).2⟩
    have htl : t < ops.size := by omega
    rcases hT.pend_step htl with ⟨he, _, hni, _⟩ | ⟨b, o, hM, he⟩ | ⟨b, e, pend, hI, hp, he⟩ | ⟨hE, he⟩
    · constructor <;> rw [he]
      · exact made_old
      · exact hP.desc
      · exact insm_old
      · intro p hp i e hi hI
        by_cases h : i = t
        · subst h; exact absurd hI (hni _ _)
        · exact hP.insc p hp i e (by omega) hI
      · exact hP.insd
      · exact hP.keys
      · exact hP.map
    · have noI : ∀ b e, ¬ Ins E ops f t b e := fun _ _ h => hM.notI h
      have new_i : ∀ i e, i < t + 1 → Ins E ops f i b e → False := by
        intro i e hi hI
        have hit : i < t := by
          by_cases h : i = t
          · subst h; exact absurd hI (noI _ _)
          · omega
        obtain ⟨p, hp, hb, _⟩ := hT.ins_pend hI
        obtain ⟨h1, h2⟩ := (ih i (by omega) (by omega)).made p hp
        rw [hb] at h2
        have := hT.made_inj hm h2 hM
        omega
      constructor <;> rw [he]
      · intro p hp
        rcases List.mem_cons.1 hp with rfl | hp
        · exact ⟨Nat.lt_succ_self _, hM⟩
        · exact made_old p hp
      · exact List.pairwise_cons.2 ⟨fun q hq => (hP.made q hq).1, hP.desc⟩
      · intro p hp
        rcases List.mem_cons.1 hp with rfl | hp
        · intro x hx; simp at hx
        · exact insm_old p hp
      · intro p hp i e hi hI
        rcases List.mem_cons.1 hp with rfl | hp
        · exact (new_i i e hi hI).elim
        · by_cases h : i = t
          · subst h; exact absurd hI (noI _ _)
          · exact hP.insc p hp i e (by omega) hI
      · intro p hp
        rcases List.mem_cons.1 hp with rfl | hp
        · exact .nil
        · exact hP.insd p hp
      · intro p hp
        rcases List.mem_cons.1 hp with rfl | hp
        · exact .nil
        · exact hP.keys p hp
      · intro p hp
        rcases List.mem_cons.1 hp with rfl | hp
        · intro h; exact absurd rfl h
        · exact hP.map p hp
    · obtain ⟨l1, p0, l2, hl, hb, ho, hf, rfl⟩ := insP_spec hp
      have hp0 : p0 ∈ (f t).pend := by rw [hl]; simp
      have hmem : ∀ q, q ∈ l1 ++ { p0 with ins := ⟨t, ⟨e.i, e.k, e.v⟩⟩ :: p0.ins } :: l2 → q = { p0 with ins := ⟨t, ⟨e.i, e.k, e.v⟩⟩ :: p0.ins } ∨ (q ∈ (f t).pend ∧ q.i ≠ p0.i) := by
        intro q hq
        rw [hl]
        exact mid_mem (by rw [← hl]; exact hP.desc) hq
      have hother : ∀ q ∈ (f t).pend, q.i ≠ p0.i → ∀ e', ¬ Ins E ops f t q.b e' := by
        intro q hq hne e' hI'
        obtain ⟨hbb, _⟩ := hI'.fn hI
        have h1 := (hP.made q hq).2
        have h2 := (hP.made p0 hp0).2
        rw [hbb, ← hb] at h1
        exact hne (hT.made_inj hm h1 h2)
      constructor <;> rw [he]
      · intro q hq
        rcases hmem q hq with rfl | ⟨h1, _⟩
        · exact made_old p0 hp0
        · exact made_old q h1
      · have := hP.desc
        rw [hl] at this
        obtain ⟨g1, g2, g3⟩ := List.pairwise_append.1 this
        obtain ⟨g4, g5⟩ := List.pairwise_cons.1 g2
        refine List.pairwise_append.2 ⟨g1, List.pairwise_cons.2 ⟨g4, g5⟩, ?_⟩
        intro x hx y hy
        rcases List.mem_cons.1 hy with rfl | hy
        · exact g3 x hx p0 (by simp)
        · exact g3 x hx y (by simp [hy])
      · intro q hq
        rcases hmem q hq with rfl | ⟨h1, _⟩
        · intro x hx
          rcases List.mem_cons.1 hx with rfl | hx
          · refine ⟨Nat.lt_succ_self _, (hP.made p0 hp0).1, ?_⟩
            show Ins E ops f t p0.b ⟨e.i, e.k, e.v⟩
            rw [hb]; exact hI
          · exact insm_old p0 hp0 x hx
        · exact insm_old q h1
      · intro q hq i e' hi hI'
        rcases hmem q hq with rfl | ⟨h1, h2⟩
        · by_cases h : i = t
          · subst h
            obtain ⟨_, rfl⟩ := hI'.fn hI
            exact List.mem_cons_self
          · exact List.mem_cons_of_mem _ (hP.insc p0 hp0 i e' (by omega) hI')
        · by_cases h : i = t
          · subst h; exact absurd hI' (hother q h1 h2 e')
          · exact hP.insc q h1 i e' (by omega) hI'
      · intro q hq
        rcases hmem q hq with rfl | ⟨h1, _⟩
        · exact List.pairwise_cons.2 ⟨fun x hx => (hP.insm p0 hp0 x hx).1, hP.insd p0 hp0⟩
        · exact hP.insd q h1
      · intro q hq
        rcases hmem q hq with rfl | ⟨h1, _⟩
        · exact List.pairwise_cons.2 ⟨fun x hx => freshKey_get hf x hx, hP.keys p0 hp0⟩
        · exact hP.keys q h1
      · intro q hq
        rcases hmem q hq with rfl | ⟨h1, _⟩
        · intro _; exact ho
        · exact hP.map q h1
    · constructor <;> rw [he]
      · intro p hp; exact made_old p (restP_mem.1 hp).1
      · exact hP.desc.sublist (restP_sub _)
      · intro p hp; exact insm_old p (restP_mem.1 hp).1
      · intro p hp i e hi hI
        by_cases h : i = t
        · subst h; exact (hI.notE hE).elim
        · exact hP.insc p (restP_mem.1 hp).1 i e (by omega) hI
      · intro p hp; exact hP.insd p (restP_mem.1 hp).1
      · intro p hp; exact hP.keys p (restP_mem.1 hp).1
      · intro p hp; exact hP.map p (restP_mem.1 hp).1

/-- What is pending later was pending earlier, if it was there. -/
theorem Tr.live_back (hT : Tr E rc n ops f val) {a t : Nat} (ha : a < t) (ht : t < ops.size) (h : Live f (t + 1) a) : Live f t a := by
  obtain ⟨p, hp, rfl⟩ := h
  rcases hT.pend_step ht with ⟨he, _⟩ | ⟨b, o, hM, he⟩ | ⟨b, e, pend, hI, hp', he⟩ | ⟨hE, he⟩
  · rw [he] at hp; exact ⟨p, hp, rfl⟩
  · rw [he] at hp
    rcases List.mem_cons.1 hp with rfl | hp
    · exact absurd ha (Nat.lt_irrefl _)
    · exact ⟨p, hp, rfl⟩
  · obtain ⟨l1, p0, l2, hl, hb, ho, hf, rfl⟩ := insP_spec hp'
    rw [he] at hp
    rcases List.mem_append.1 hp with hp | hp
    · exact ⟨p, by rw [hl]; simp [hp], rfl⟩
    · rcases List.mem_cons.1 hp with rfl | hp
      · exact ⟨p0, by rw [hl]; simp, rfl⟩
      · exact ⟨p, by rw [hl]; simp [hp], rfl⟩
  · rw [he] at hp
    exact ⟨p, (restP_mem.1 hp).1, rfl⟩
theorem Tr.live_le (hT : Tr E rc n ops f val) {a t t' : Nat} (ha : a < t) (h1 : t ≤ t') (ht : t' ≤ ops.size) (h : Live f t' a) : Live f t a := by
  induction t' with
  | zero => have : t = 0 := by omega
            subst this; exact h
  | succ t' ih =>
    by_cases e : t = t' + 1
    · subst e; exact h
    · exact ih (by omega) (by omega) (hT.live_back (by omega) (by omega) h)
/-- What is no longer pending behind operation t, but was: t writes, and surely comes behind it, and behind all its entries. -/
theorem Tr.gone (hT : Tr E rc n ops f val) {a t : Nat} (ht : t < ops.size) (h : Live f t a) (h' : ¬ Live f (t + 1) a) : IsE E ops f t ∧ ∀ p ∈ (f t).pend, p.i = a → seenP (bef ops) t p = true := by
  obtain ⟨p, hp, rfl⟩ := h
  rcases hT.pend_step ht with ⟨he, _⟩ | ⟨b, o, hM, he⟩ | ⟨b, e, pend, hI, hp', he⟩ | ⟨hE, he⟩
  · exact absurd ⟨p, by rw [he]; exact hp, rfl⟩ h'
  · exact absurd ⟨p, by rw [he]; simp [hp], rfl⟩ h'
  · exfalso
    apply h'
    obtain ⟨l1, p0, l2, hl, hb, ho, hf, rfl⟩ := insP_spec hp'
    rw [hl] at hp
    rcases List.mem_append.1 hp with hp | hp
    · exact ⟨p, by rw [he]; simp [hp], rfl⟩
    · rcases List.mem_cons.1 hp with rfl | hp
      · exact ⟨{ p with ins := ⟨t, ⟨e.i, e.k, e.v⟩⟩ :: p.ins }, by rw [he]; simp, rfl⟩
      · exact ⟨p, by rw [he]; simp [hp], rfl⟩
  · refine ⟨hE, fun q hq e => ?_⟩
    cases hs : seenP (bef ops) t q with
    | true => rfl
    | false => exact absurd ⟨q, by rw [he]; exact restP_mem.2 ⟨hq, hs⟩, e⟩ h'
theorem Tr.live_new (hT : Tr E rc n ops f val) {a b : Nat} {o : O} (hM : Made E ops f a b o) : Live f (a + 1) a := by
  rcases hT.pend_step hM.lt with ⟨_, h1, _⟩ | ⟨b', o', hM', he⟩ | ⟨b', e, pend, hI, _⟩ | ⟨hE, _⟩
  · exact absurd hM (h1 _ _)
  · exact ⟨_, by rw [he]; exact List.mem_cons_self, rfl⟩
  · exact (hM.notI hI).elim
  · exact (hM.notE hE).elim
/-- An entry's map is pending. -/
theorem Tr.ins_live (hT : Tr E rc n ops f val) (hm : RcMono rc) (h0 : (f 0).pend = []) {i a b : Nat} {o : O} {e : Me} (hM : Made E ops f a b o) (hI : Ins E ops f i b e) : a < i ∧ Live f i a ∧ o = .map [] := by
  obtain ⟨p, hp, hb, ho, _⟩ := hT.ins_pend hI
  obtain ⟨h1, h2⟩ := (hT.pinv hm h0 i (by have := hI.lt; omega)).made p hp
  rw [hb] at h2
  have := hT.made_inj hm h2 hM
  subst this
  exact ⟨h1, ⟨p, hp, rfl⟩, by rw [← h2.fn hM]; exact ho⟩
end
end Go.Ev
namespace Go.Ev

section
variable {E : Env} {rc : RC} {n : Nat} {ops : Array Oper} {f : Nat → RS} {val : Nat → V}

/-- What is known of the operations that wrote ahead of operation t. -/
structure EInv (E : Env) (ops : Array Oper) (f : Nat → RS) (val : Nat → V) (t : Nat) : Prop where
  lastN : (f t).last = none → ∀ e, e < t → ¬ IsE E ops f e
  lastS : ∀ e, (f t).last = some e → e < t ∧ IsE E ops f e ∧ ∀ e', e < e' → e' < t → ¬ IsE E ops f e'
  hist : ∀ e, e < t → IsE E ops f e → ∃ s ∈ (f t).hist, s.e = e ∧ s.os = (f e).x.os ∧ s.pend = (f e).pend
  histm : ∀ s ∈ (f t).hist, s.e < t ∧ IsE E ops f s.e
  histd : (f t).hist.Pairwise fun x y => y.e < x.e
  lds : ∀ j o, j < t → ops[j]? = some o → wantA ops.toList (f j).tm o.guard = some true → clOf E o.op = .l → ⟨j, (f j).tm, o.op, val j⟩ ∈ (f t).lds

theorem Tr.einv (hT : Tr E rc n ops f val) (h1 : (f 0).last = none) (h2 : (f 0).hist = []) : ∀ t, t ≤ ops.size → EInv E ops f val t := by
  intro t
  induction t with
  | zero => intro _; exact ⟨fun _ e he => by omega, (fun e he => by rw [h1] at he; cases he), fun e he => by omega, by simp [h2], by simp [h2], fun j o hj => by omega⟩
  | succ t ih =>
    intro ht
    have hI := ih (by omega)
    obtain ⟨o, ho⟩ : ∃ o, ops[t]? = some o := ⟨ops[t], by simp [show t < ops.size by omega]⟩
    have hs := hT.sk t o ho
    have same : ¬ IsE E ops f t → (f (t + 1)).last = (f t).last → (f (t + 1)).hist = (f t).hist → (∀ x ∈ (f t).lds, x ∈ (f (t + 1)).lds) → (wantA ops.toList (f t).tm o.guard = some true → clOf E o.op = .l → (⟨t, (f t).tm, o.op, val t⟩ : Ld) ∈ (f (t + 1)).lds) → EInv E ops f val (t + 1) := by
      intro hne e1 e2 e3 e4
      refine ⟨?_, ?_, ?_, ?_, ?_, ?_⟩
      · intro hl e he
        rw [e1] at hl
        by_cases h : e = t
        · subst h; exact hne
        · exact hI.lastN hl e (by omega)
      · intro e hl
        rw [e1] at hl
        obtain ⟨g1, g2, g3⟩ := hI.lastS e hl
        refine ⟨by omega, g2, fun e' h1 h2 => ?_⟩
        by_cases h : e' = t
        · subst h; exact hne
        · exact g3 e' h1 (by omega)
      · intro e he hE
        have : e ≠ t := by intro h; subst h; exact hne hE
        rw [e2]; exact hI.hist e (by omega) hE
      · intro s hs; rw [e2] at hs; obtain ⟨g1, g2⟩ := hI.histm s hs; exact ⟨by omega, g2⟩
      · rw [e2]; exact hI.histd
      · intro j o' hj ho' hw hc
        by_cases h : j = t
        · subst h; rw [ho] at ho'; cases ho'; exact e4 hw hc
        · exact e3 _ (hI.lds j o' (by omega) ho' hw hc)
    have ne : ∀ {c : Cl}, c ≠ .e → clOf E o.op = c → ¬ IsE E ops f t := by
      rintro c hne hc ⟨o', h1, _, h3⟩
      rw [ho] at h1; cases h1
      exact hne (hc.symm.trans h3)
    have nl : ∀ {c : Cl} {Q : Prop}, c ≠ .l → clOf E o.op = c → wantA ops.toList (f t).tm o.guard = some true → clOf E o.op = .l → Q := by
      intro c Q hne hc _ h3
      exact absurd (hc.symm.trans h3) hne
    have hval : ∀ {v : V}, val t = v → val t = v := fun h => h
    generalize hs3 : (f (t + 1)).tm = tm2 at hs
    generalize hs4 : f (t + 1) = s2 at hs
    generalize hv : val t = vt at hs
    cases hs with
    | skip h =>
      refine same ?_ (by rw [hs4]) (by rw [hs4]) (by rw [hs4]; exact fun _ h => h) (fun hw _ => by rw [h] at hw; cases hw)
      rintro ⟨o', h1, h2, _⟩; rw [ho] at h1; cases h1; rw [h] at h2; cases h2
    | p hw hc => exact same (ne (by simp) hc) (by rw [hs4]) (by rw [hs4]) (by rw [hs4]; exact fun _ h => h) (nl (by simp) hc)
    | l hw hc =>
      refine same (ne (by simp) hc) (by rw [hs4]) (by rw [hs4]) (by rw [hs4]; exact fun _ h => List.mem_cons_of_mem _ h) (fun _ _ => ?_)
      rw [hs4, hv]; exact List.mem_cons_self
    | a hw hc => exact same (ne (by simp) hc) (by rw [hs4]) (by rw [hs4]) (by rw [hs4]; exact fun _ h => h) (nl (by simp) hc)
    | i hw hc => exact same (ne (by simp) hc) (by rw [hs4]) (by rw [hs4]) (by rw [hs4]; exact fun _ h => h) (nl (by simp) hc)
    | e hw hc hl hx hd =>
      have hE : IsE E ops f t := ⟨o, ho, hw, hc⟩
      refine ⟨?_, ?_, ?_, ?_, ?_, ?_⟩
      · rw [hs4]; intro h; cases h
      · intro e he
        rw [hs4] at he
        cases he
        exact ⟨Nat.lt_succ_self _, hE, fun e' h1 h2 => by omega⟩
      · intro e he hE'
        rw [hs4]
        by_cases h : e = t
        · subst h; exact ⟨_, List.mem_cons_self, rfl, rfl, rfl⟩
        · obtain ⟨s, g1, g2⟩ := hI.hist e (by omega) hE'
          exact ⟨s, List.mem_cons_of_mem _ g1, g2⟩
      · intro s hs
        rw [hs4] at hs
        rcases List.mem_cons.1 hs with rfl | hs
        · exact ⟨Nat.lt_succ_self _, hE⟩
        · obtain ⟨g1, g2⟩ := hI.histm s hs; exact ⟨by omega, g2⟩
      · rw [hs4]
        exact List.pairwise_cons.2 ⟨fun s hs => (hI.histm s hs).1, hI.histd⟩
      · intro j o' hj ho' hw' hc'
        by_cases h : j = t
        · subst h; rw [ho] at ho'; cases ho'; rw [hc] at hc'; cases hc'
        · rw [hs4]; exact hI.lds j o' (by omega) ho' hw' hc'

/-- What a writing operation does. -/
theorem Tr.e_step (hT : Tr E rc n ops f val) {j : Nat} {o : Oper} (ho : ops[j]? = some o) (hE : IsE E ops f j) : okLast (bef ops) j (f j).last = true ∧
    evalE E rc (f j).tm o.op ⟨(f j).x.nx, addP (bef ops) j (f j).pend (f j).x.os⟩ = some (val j, (f (j + 1)).x) ∧ okLds E (bef ops) j (restP (bef ops) j (f j).pend) (f (j + 1)).x (f j).lds = true ∧ (f (j + 1)).pend = restP (bef ops) j (f j).pend := by
  obtain ⟨o', ho', hw', hc'⟩ := hE
  rw [ho] at ho'; cases ho'
  have hs := hT.sk j o ho
  generalize hs3 : (f (j + 1)).tm = tm2 at hs
  generalize hs4 : f (j + 1) = s2 at hs
  generalize hv : val j = vt at hs
  cases hs with
  | skip h => rw [hw'] at h; cases h
  | p hw hc => rw [hc] at hc'; cases hc'
  | l hw hc => rw [hc] at hc'; cases hc'
  | a hw hc => rw [hc] at hc'; cases hc'
  | i hw hc => rw [hc] at hc'; cases hc'
  | e hw hc hl hx hd => exact ⟨hl, hx, hd, rfl⟩
theorem Tr.l_step (hT : Tr E rc n ops f val) {j : Nat} {o : Oper} (ho : ops[j]? = some o) (hw' : wantA ops.toList (f j).tm o.guard = some true) (hc' : clOf E o.op = .l) :
    execL E (f j).tm o.op ⟨(f j).x.nx, addL (bef ops) j (f j).pend (f j).x.os⟩ = some (val j) ∧ okHist E (bef ops) (f j).x.nx j (f j).tm o.op (val j) (f j).hist = true := by
  have hs := hT.sk j o ho
  generalize hs3 : (f (j + 1)).tm = tm2 at hs
  generalize hs4 : f (j + 1) = s2 at hs
  generalize hv : val j = vt at hs
  cases hs with
  | skip h => rw [hw'] at h; cases h
  | p hw hc => rw [hc] at hc'; cases hc'
  | l hw hc hx hh => exact ⟨hx, hh⟩
  | a hw hc => rw [hc] at hc'; cases hc'
  | i hw hc => rw [hc] at hc'; cases hc'
  | e hw hc => rw [hc] at hc'; cases hc'
theorem Tr.p_step (hT : Tr E rc n ops f val) {j : Nat} {o : Oper} (ho : ops[j]? = some o) (hw' : wantA ops.toList (f j).tm o.guard = some true) (hc' : clOf E o.op = .p) : execP E (f j).tm o.op = some (val j) := by
  have hs := hT.sk j o ho
  generalize hs3 : (f (j + 1)).tm = tm2 at hs
  generalize hs4 : f (j + 1) = s2 at hs
  generalize hv : val j = vt at hs
  cases hs with
  | skip h => rw [hw'] at h; cases h
  | p hw hc hx => exact hx
  | l hw hc => rw [hc] at hc'; cases hc'
  | a hw hc => rw [hc] at hc'; cases hc'
  | i hw hc => rw [hc] at hc'; cases hc'
  | e hw hc => rw [hc] at hc'; cases hc'
theorem Tr.skip_step (hT : Tr E rc n ops f val) {j : Nat} {o : Oper} (ho : ops[j]? = some o) (hw' : wantA ops.toList (f j).tm o.guard = some false) : val j = undefV := by
  have hs := hT.sk j o ho
  generalize hs3 : (f (j + 1)).tm = tm2 at hs
  generalize hs4 : f (j + 1) = s2 at hs
  generalize hv : val j = vt at hs
  cases hs with
  | skip h => rfl
  | p hw => rw [hw] at hw'; cases hw'
  | l hw => rw [hw] at hw'; cases hw'
  | a hw => rw [hw] at hw'; cases hw'
  | i => rfl
  | e hw => rw [hw] at hw'; cases hw'
/-- An operation that makes a block: what it answers. -/
theorem Tr.a_step (hT : Tr E rc n ops f val) {j : Nat} {o : Oper} (ho : ops[j]? = some o) (hw' : wantA ops.toList (f j).tm o.guard = some true) (hc' : clOf E o.op = .a) :
    ∃ ob, execA E (f j).tm o.op (f j).x.nx = some (val j, ob) ∧ Made E ops f j (f j).x.nx ob := by
  have hs := hT.sk j o ho
  generalize hs3 : (f (j + 1)).tm = tm2 at hs
  generalize hs4 : f (j + 1) = s2 at hs
  generalize hv : val j = vt at hs
  cases hs with
  | skip h => rw [hw'] at h; cases h
  | p hw hc => rw [hc] at hc'; cases hc'
  | l hw hc => rw [hc] at hc'; cases hc'
  | a hw hc hx => exact ⟨_, hx, o, _, ho, hw, hc, hx, rfl⟩
  | i hw hc => rw [hc] at hc'; cases hc'
  | e hw hc => rw [hc] at hc'; cases hc'
theorem Tr.i_step (hT : Tr E rc n ops f val) {j : Nat} {o : Oper} (ho : ops[j]? = some o) (hw' : wantA ops.toList (f j).tm o.guard = some true) (hc' : clOf E o.op = .i) :
    val j = undefV ∧ ∃ b e, Ins E ops f j b e := by
  have hs := hT.sk j o ho
  generalize hs3 : (f (j + 1)).tm = tm2 at hs
  generalize hs4 : f (j + 1) = s2 at hs
  generalize hv : val j = vt at hs
  cases hs with
  | skip h => rw [hw'] at h; cases h
  | p hw hc => rw [hc] at hc'; cases hc'
  | l hw hc => rw [hc] at hc'; cases hc'
  | a hw hc => rw [hc] at hc'; cases hc'
  | i hw hc ho' hki hm hk hx hok hp => exact ⟨rfl, _, ⟨_, _, _⟩, o, _, _, _, _, _, _, _, ho, hw, hc, ho', hki, hok, hm, hk, hx, rfl⟩
  | e hw hc => rw [hc] at hc'; cases hc'

/-- Where nothing writes the heap stays. -/
theorem Tr.os_step (hT : Tr E rc n ops f val) {t : Nat} (ht : t < ops.size) (hne : ¬ IsE E ops f t) : (f (t + 1)).x.os = (f t).x.os := by
  obtain ⟨o, ho⟩ : ∃ o, ops[t]? = some o := ⟨ops[t], by simp [ht]⟩
  have hs := hT.sk t o ho
  generalize hs3 : (f (t + 1)).tm = tm2 at hs
  generalize hs4 : f (t + 1) = s2 at hs
  generalize hv : val t = vt at hs
  cases hs with
  | skip h => rfl
  | p hw hc => rfl
  | l hw hc => rfl
  | a hw hc => rfl
  | i hw hc => rfl
  | e hw hc => exact absurd ⟨o, ho, hw, hc⟩ hne
theorem Tr.os_le (hT : Tr E rc n ops f val) {t j : Nat} (htj : t ≤ j) (hj : j ≤ ops.size) (hne : ∀ e, t ≤ e → e < j → ¬ IsE E ops f e) : (f j).x.os = (f t).x.os := by
  induction j with
  | zero => have : t = 0 := by omega
            subst this; rfl
  | succ j ih =>
    by_cases e : t = j + 1
    · subst e; rfl
    · rw [hT.os_step (by omega) (hne j (by omega) (by omega)), ih (by omega) (by omega) fun e h1 h2 => hne e h1 (by omega)]
/-- With a writing operation all that wrote ahead of it in the text are done. -/
theorem Tr.e_down (hT : Tr E rc n ops f val) (h1 : (f 0).last = none) (h2 : (f 0).hist = []) {S : Nat → Prop} (hS : ∀ i j, ord (bef ops) i j = true → S j → S i) :
    ∀ e', IsE E ops f e' → S e' → ∀ e, IsE E ops f e → e ≤ e' → S e := by
  intro e'
  induction e' using Nat.strongRecOn with
  | ind e' ih =>
    intro hE' hS' e hE he
    by_cases h : e = e'
    · subst h; exact hS'
    · obtain ⟨o, ho, _⟩ := hE'
      have hE'2 : IsE E ops f e' := ⟨o, ho, by assumption⟩
      obtain ⟨hl, _⟩ := hT.e_step ho hE'2
      have hI := hT.einv h1 h2 e' (Nat.le_of_lt hE'2.lt)
      cases hlast : (f e').last with
      | none => exact absurd hE (hI.lastN hlast e (by omega))
      | some e2 =>
        rw [hlast] at hl
        obtain ⟨g1, g2, g3⟩ := hI.lastS e2 hlast
        have hS2 := hS e2 e' hl hS'
        by_cases h3 : e ≤ e2
        · exact ih e2 g1 g2 hS2 e hE h3
        · exact absurd hE (g3 e (by omega) (by omega))
end
end Go.Ev
namespace Go.Ev

/-- What is known of the region and of the evaluator's way through it. -/
structure Ctx (P : Program) (E : Env) (rc : RC) (n : Nat) (ops : Array Oper) (f : Nat → RS) (val : Nat → V) : Prop where
  tr : Tr E rc n ops f val
  mono : RcMono rc
  p0 : (f 0).pend = []
  l0 : (f 0).last = none
  i0 : (f 0).hist = []
  tmps : okTmps ops = true
  edges : okEdges ops.toList 0 = true
  tis : TisOk P E

/-- What is known of the temporaries when the operations S are done. -/
structure TInv (n : Nat) (ops : Array Oper) (f : Nat → RS) (val : Nat → V) (S : Nat → Prop) (r : Rho) (tmps : Array Value) : Prop where
  size : tmps.size = n
  vals : ∀ i o d, S i → ops[i]? = some o → o.dst = some d → (∀ i' o', S i' → ops[i']? = some o' → o'.dst = some d → i' ≤ i) → VR r (val i) (tmps.getD d undef)
  init : ∀ d v, (∀ i o, S i → ops[i]? = some o → o.dst ≠ some d) → (f 0).tm.get d = some v → VR r v (tmps.getD d undef)

section
variable {P : Program} {E : Env} {rc : RC} {n : Nat} {ops : Array Oper} {f : Nat → RS} {val : Nat → V} {S : Nat → Prop} {r r' : Rho} {tmps : Array Value}

theorem TInv.ext (hl : Le r r') (h : TInv n ops f val S r tmps) : TInv n ops f val S r' tmps :=
  ⟨h.size, fun i o d h1 h2 h3 h4 => VR.ext hl _ _ (h.vals i o d h1 h2 h3 h4), fun d v h1 h2 => VR.ext hl _ _ (h.init d v h1 h2)⟩

theorem Tr.tm_get (hT : Tr E rc n ops f val) {t : Nat} : ∀ {j : Nat} {v : V}, j ≤ ops.size → (f j).tm.get t = some v →
    (∃ i o, i < j ∧ ops[i]? = some o ∧ o.dst = some t ∧ (∀ i' o', i < i' → i' < j → ops[i']? = some o' → o'.dst ≠ some t) ∧ v = val i) ∨ ((∀ i o, i < j → ops[i]? = some o → o.dst ≠ some t) ∧ (f 0).tm.get t = some v) := by
  intro j
  induction j with
  | zero => intro v _ h; exact .inr ⟨fun i o hi => by omega, h⟩
  | succ j ih =>
    intro v hj h
    obtain ⟨o, ho⟩ : ∃ o, ops[j]? = some o := ⟨ops[j], by simp [show j < ops.size by omega]⟩
    have hp := hT.put j o ho
    have old : (f j).tm.get t = some v → o.dst ≠ some t → (∃ i o, i < j + 1 ∧ ops[i]? = some o ∧ o.dst = some t ∧ (∀ i' o', i < i' → i' < j + 1 → ops[i']? = some o' → o'.dst ≠ some t) ∧ v = val i) ∨ ((∀ i o, i < j + 1 → ops[i]? = some o → o.dst ≠ some t) ∧ (f 0).tm.get t = some v) := by
      intro h hne
      rcases ih (by omega) h with ⟨i, oi, h1, h2, h3, h4, h5⟩ | ⟨h1, h2⟩
      · refine .inl ⟨i, oi, by omega, h2, h3, fun i' o' g1 g2 g3 => ?_, h5⟩
        by_cases e : i' = j
        · subst e; rw [ho] at g3; cases g3; exact hne
        · exact h4 i' o' g1 (by omega) g3
      · refine .inr ⟨fun i oi g1 g2 => ?_, h2⟩
        by_cases e : i = j
        · subst e; rw [ho] at g2; cases g2; exact hne
        · exact h1 i oi (by omega) g2
    unfold putT at hp
    cases hd : o.dst with
    | none =>
      rw [hd] at hp
      simp only [Option.some.injEq] at hp
      rw [← hp] at h
      exact old h (by rw [hd]; simp)
    | some d =>
      rw [hd] at hp
      obtain ⟨_, hp⟩ := bif_some hp
      simp only [Option.some.injEq] at hp
      rw [← hp, T.get_set] at h
      by_cases e : t = d
      · subst e
        rw [if_pos rfl] at h
        cases h
        exact .inl ⟨j, o, by omega, ho, hd, fun i' o' g1 g2 => by omega, rfl⟩
      · rw [if_neg e] at h
        exact old h (by rw [hd]; simp; exact fun h => e h.symm)

/-- Behind operation j, too. -/
theorem TInv.put (hC : Ctx P E rc n ops f val) (h : TInv n ops f val S r tmps) (hS : ∀ i j, ord (bef ops) i j = true → S j → S i) {j : Nat} {o : Oper} (ho : ops[j]? = some o) (hj : ¬ S j) (hl : Le r r') {x : Value} (hx : VR r' (val j) x) (dfs : List Deferred) :
    TInv n ops f val (fun i => S i ∨ i = j) r' ((⟨tmps, dfs⟩ : Act).put o.dst x).tmps := by
  have h := h.ext hl
  have hp := hC.tr.put j o ho
  have later : ∀ d, o.dst = some d → ∀ i oi, S i → ops[i]? = some oi → oi.dst = some d → i < j := by
    intro d hd i oi hi hoi hdi
    by_cases e : i < j
    · exact e
    · have hne : i ≠ j := by intro e; subst e; exact hj hi
      exact absurd (hS j i (okTmps_ord hC.tmps ho hoi (by omega) (.inl ⟨d, hd, .inr hdi⟩)) hi) hj
  cases hd : o.dst with
  | none =>
    refine ⟨h.size, ?_, ?_⟩
    · intro i oi d hi hoi hdi hlast
      rcases hi with hi | rfl
      · exact h.vals i oi d hi hoi hdi fun i' o' g1 g2 g3 => hlast i' o' (.inl g1) g2 g3
      · rw [ho] at hoi; cases hoi; rw [hd] at hdi; cases hdi
    · intro d v hno hv
      exact h.init d v (fun i oi g1 g2 => hno i oi (.inl g1) g2) hv
  | some d0 =>
    have hlt : d0 < n := by
      unfold putT at hp
      rw [hd] at hp
      obtain ⟨h1, _⟩ := bif_some hp
      exact Nat.le_of_ble_eq_true h1
    have hget : ∀ d, (((⟨tmps, dfs⟩ : Act).put (some d0) x).tmps).getD d undef = if d = d0 then x else tmps.getD d undef := by
      intro d
      by_cases e : d = d0
      · subst e
        have : d < tmps.size := by rw [h.size]; exact hlt
        simp [Act.put, this]
      · simp [Act.put, Array.getElem?_setIfInBounds_ne (Ne.symm e), e]
    refine ⟨by simp [Act.put, h.size], ?_, ?_⟩
    · intro i oi d hi hoi hdi hlast
      rw [hget]
      by_cases e : d = d0
      · subst e
        rw [if_pos rfl]
        have h1 := hlast j o (.inr rfl) ho hd
        rcases hi with hi | rfl
        · have := later d hd i oi hi hoi hdi; omega
        · exact hx
      · rw [if_neg e]
        rcases hi with hi | rfl
        · exact h.vals i oi d hi hoi hdi fun i' o' g1 g2 g3 => hlast i' o' (.inl g1) g2 g3
        · rw [ho] at hoi; cases hoi; rw [hd] at hdi; cases hdi; exact absurd rfl e
    · intro d v hno hv
      rw [hget]
      by_cases e : d = d0
      · subst e; exact absurd hd (hno j o (.inr rfl) ho)
      · rw [if_neg e]
        exact h.init d v (fun i oi g1 g2 => hno i oi (.inl g1) g2) hv

/-- What operation j reads. -/
theorem TInv.reads (hC : Ctx P E rc n ops f val) (h : TInv n ops f val S r tmps) (hS : ∀ i j, ord (bef ops) i j = true → S j → S i) {j : Nat} {o : Oper} (ho : ops[j]? = some o) (hj : ¬ S j) (hpre : ∀ i, ord (bef ops) i j = true → S i) :
    TR r n (restrict (f j).tm (readsOf ops.toList o)) tmps := by
  refine ⟨h.size, fun t v hv => ?_⟩
  rw [restrict_get] at hv
  by_cases ht : t ∈ readsOf ops.toList o
  · rw [if_pos ht] at hv
    have hjlt : j < ops.size := (Array.getElem?_eq_some_iff.1 ho).1
    have later : ∀ i oi, S i → ops[i]? = some oi → oi.dst = some t → i < j := by
      intro i oi hi hoi hdi
      by_cases e : i < j
      · exact e
      · have hne : i ≠ j := by intro e; subst e; exact hj hi
        exact absurd (hS j i (okTmps_ord hC.tmps ho hoi (by omega) (.inr ⟨t, hdi, ht⟩)) hi) hj
    rcases hC.tr.tm_get (Nat.le_of_lt hjlt) hv with ⟨i, oi, h1, h2, h3, h4, rfl⟩ | ⟨h1, h2⟩
    · have hSi : S i := hpre i (okTmps_ord hC.tmps h2 ho h1 (.inl ⟨t, h3, .inl ht⟩))
      refine h.vals i oi t hSi h2 h3 fun i' o' g1 g2 g3 => ?_
      have := later i' o' g1 g2 g3
      by_cases e : i < i'
      · exact absurd g3 (h4 i' o' e this g2)
      · omega
    · refine h.init t v (fun i oi g1 g2 g3 => ?_) h2
      exact h1 i oi (later i oi g1 g2 g3) g2 g3
  · rw [if_neg ht] at hv; cases hv
/-- When all are done. -/
theorem TInv.all (hC : Ctx P E rc n ops f val) (h : TInv n ops f val S r tmps) (hall : ∀ i, i < ops.size → S i) : TR r n (f ops.size).tm tmps := by
  refine ⟨h.size, fun t v hv => ?_⟩
  rcases hC.tr.tm_get (Nat.le_refl _) hv with ⟨i, oi, h1, h2, h3, h4, rfl⟩ | ⟨h1, h2⟩
  · refine h.vals i oi t (hall i h1) h2 h3 fun i' o' g1 g2 g3 => ?_
    have hlt : i' < ops.size := (Array.getElem?_eq_some_iff.1 g2).1
    by_cases e : i < i'
    · exact absurd g3 (h4 i' o' e hlt g2)
    · omega
  · refine h.init t v (fun i oi g1 g2 => ?_) h2
    exact h1 i oi (Array.getElem?_eq_some_iff.1 g2).1 g2
theorem TInv.start {r : Rho} (h : TR r n (f 0).tm tmps) : TInv n ops f val (fun _ => False) r tmps :=
  ⟨h.size, fun _ _ _ h => h.elim, fun d v _ hv => h.get d v hv⟩

/-- The operands of an operation are among what it reads. -/
theorem reads_agree {o : Oper} {tm : T V} : ∀ x ∈ o.op.operands, evo tm x = evo (restrict tm (readsOf ops.toList o)) x := by
  intro x hx
  cases x with
  | tmp t =>
    show tm.get t = _
    have : t ∈ readsOf ops.toList o := by
      unfold readsOf
      rw [app_eq, List.mem_append]
      exact .inl (tmpsOf_mem.2 (by simpa using hx))
    show tm.get t = (restrict tm _).get t
    rw [restrict_get, if_pos this]
  | _ => rfl
theorem reads_want {o : Oper} {tm : T V} : wantA ops.toList tm o.guard = wantA ops.toList (restrict tm (readsOf ops.toList o)) o.guard := by
  apply wantA_congr
  intro i b og d hg ho hd
  have : d ∈ readsOf ops.toList o := by
    unfold readsOf
    rw [app_eq, List.mem_append, hg]
    refine .inr ?_
    simp only [dstOf]
    rw [nth_eq, ho]
    simp [hd]
  rw [restrict_get, if_pos this]
end
end Go.Ev
