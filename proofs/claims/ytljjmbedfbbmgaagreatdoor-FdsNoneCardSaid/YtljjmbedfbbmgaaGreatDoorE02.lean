/- An evaluator of the model's programs over abstract states, and the proof that the machine does what it says (part 2). No statement about the program. -/
import Derived.Test.YtljjmbedfbbmgaaGreatDoorE01
import Derived.Laws.Tables
namespace Go.Ev

theorem even_t {n : Nat} (h : Nat.beq (Nat.mod n 2) 0 = true) : n % 2 = 0 := Nat.eq_of_beq_eq_true h
theorem even_f {n : Nat} (h : Nat.beq (Nat.mod n 2) 0 = false) : n % 2 ≠ 0 := Nat.ne_of_beq_eq_false h

theorem T.get_put {α : Type} (x : Option α) : ∀ (f : Nat) (t : T α) (n m : Nat), n < f → (T.put x f t n).get m = if m = n then x else t.get m := by
  intro f
  induction f with
  | zero => intro t n m h; omega
  | succ f ih =>
    intro t n m h
    cases t with
    | leaf =>
      cases n with
      | zero => cases m <;> simp [T.put, T.get]
      | succ n =>
        have h2 : n / 2 < f := by omega
        simp only [T.put]
        cases hb : Nat.beq (Nat.mod n 2) 0 with
        | true =>
          have hn : n % 2 = 0 := even_t hb
          cases m with
          | zero => simp [T.get]
          | succ m =>
            simp only [cond_true, T.get]
            cases hc : Nat.beq (Nat.mod m 2) 0 with
            | true =>
              have hm : m % 2 = 0 := even_t hc
              rw [cond_true]; show (T.put x f .leaf (n / 2)).get (m / 2) = _
              rw [ih .leaf (n / 2) (m / 2) h2]
              by_cases e : m = n
              · simp [e]
              · rw [if_neg (by omega), if_neg (by omega)]; rfl
            | false =>
              have hm : m % 2 ≠ 0 := even_f hc
              rw [cond_false, if_neg (by omega)]
        | false =>
          have hn : n % 2 ≠ 0 := even_f hb
          cases m with
          | zero => simp [T.get]
          | succ m =>
            simp only [cond_false, T.get]
            cases hc : Nat.beq (Nat.mod m 2) 0 with
            | true =>
              have hm : m % 2 = 0 := even_t hc
              rw [cond_true, if_neg (by omega)]
            | false =>
              have hm : m % 2 ≠ 0 := even_f hc
              rw [cond_false]; show (T.put x f .leaf (n / 2)).get (m / 2) = _
              rw [ih .leaf (n / 2) (m / 2) h2]
              by_cases e : m = n
              · simp [e]
              · rw [if_neg (by omega), if_neg (by omega)]; rfl
    | node l v r =>
      cases n with
      | zero => cases m <;> simp [T.put, T.get]
      | succ n =>
        have h2 : n / 2 < f := by omega
        simp only [T.put]
        cases hb : Nat.beq (Nat.mod n 2) 0 with
        | true =>
          have hn : n % 2 = 0 := even_t hb
          cases m with
          | zero => simp [T.get]
          | succ m =>
            simp only [cond_true, T.get]
            cases hc : Nat.beq (Nat.mod m 2) 0 with
            | true =>
              have hm : m % 2 = 0 := even_t hc
              rw [cond_true, cond_true]; show (T.put x f l (n / 2)).get (m / 2) = _
              rw [ih l (n / 2) (m / 2) h2]
              by_cases e : m = n
              · simp [e]
              · rw [if_neg (by omega), if_neg (by omega)]; rfl
            | false =>
              have hm : m % 2 ≠ 0 := even_f hc
              rw [cond_false, cond_false, if_neg (by omega)]
        | false =>
          have hn : n % 2 ≠ 0 := even_f hb
          cases m with
          | zero => simp [T.get]
          | succ m =>
            simp only [cond_false, T.get]
            cases hc : Nat.beq (Nat.mod m 2) 0 with
            | true =>
              have hm : m % 2 = 0 := even_t hc
              rw [cond_true, cond_true, if_neg (by omega)]
            | false =>
              have hm : m % 2 ≠ 0 := even_f hc
              rw [cond_false, cond_false]; show (T.put x f r (n / 2)).get (m / 2) = _
              rw [ih r (n / 2) (m / 2) h2]
              by_cases e : m = n
              · simp [e]
              · rw [if_neg (by omega), if_neg (by omega)]; rfl
theorem T.get_set {α : Type} (t : T α) (n : Nat) (x : Option α) (m : Nat) : (t.set n x).get m = if m = n then x else t.get m :=
  T.get_put x _ t n m (Nat.lt_succ_self n)

/-! ### Lists -/
inductive F2 {α β : Type} (R : α → β → Prop) : List α → List β → Prop
  | nil : F2 R [] []
  | cons {a : α} {b : β} {l : List α} {m : List β} (h : R a b) (t : F2 R l m) : F2 R (a :: l) (b :: m)
theorem F2.length {α β : Type} {R : α → β → Prop} {l : List α} {m : List β} (h : F2 R l m) : l.length = m.length := by
  induction h <;> simp_all
theorem F2.get {α β : Type} {R : α → β → Prop} {l : List α} {m : List β} (h : F2 R l m) : ∀ (i : Nat) (a : α), l[i]? = some a → ∃ b, m[i]? = some b ∧ R a b := by
  induction h with
  | nil => intro i a h; simp at h
  | cons hr _ ih =>
    intro i a h
    cases i with
    | zero => simp at h; subst h; exact ⟨_, by simp, hr⟩
    | succ i => simpa using ih i a (by simpa using h)
theorem F2.get' {α β : Type} {R : α → β → Prop} {l : List α} {m : List β} (h : F2 R l m) : ∀ (i : Nat) (b : β), m[i]? = some b → ∃ a, l[i]? = some a ∧ R a b := by
  induction h with
  | nil => intro i a h; simp at h
  | cons hr _ ih =>
    intro i a h
    cases i with
    | zero => simp at h; subst h; exact ⟨_, by simp, hr⟩
    | succ i => simpa using ih i a (by simpa using h)
theorem F2.of_get {α β : Type} {R : α → β → Prop} : ∀ {l : List α} {m : List β}, l.length = m.length → (∀ (i : Nat) (a : α) (b : β), l[i]? = some a → m[i]? = some b → R a b) → F2 R l m := by
  intro l
  induction l with
  | nil => intro m h _; cases m with | nil => exact .nil | cons => simp at h
  | cons x l ih =>
    intro m h hr
    cases m with
    | nil => simp at h
    | cons y m => exact .cons (hr 0 x y (by simp) (by simp)) (ih (by simpa using h) fun i a b h1 h2 => hr (i + 1) a b (by simpa using h1) (by simpa using h2))
theorem F2.imp {α β : Type} {R S : α → β → Prop} (f : ∀ a b, R a b → S a b) {l : List α} {m : List β} (h : F2 R l m) : F2 S l m := by
  induction h with
  | nil => exact .nil
  | cons h _ ih => exact .cons (f _ _ h) ih
theorem F2.append {α β : Type} {R : α → β → Prop} {l l' : List α} {m m' : List β} (h : F2 R l m) (h' : F2 R l' m') : F2 R (l ++ l') (m ++ m') := by
  induction h with
  | nil => exact h'
  | cons h _ ih => exact .cons h ih
theorem F2.take {α β : Type} {R : α → β → Prop} {l : List α} {m : List β} (h : F2 R l m) : ∀ n, F2 R (l.take n) (m.take n) := by
  induction h with
  | nil => intro n; simp; exact .nil
  | cons h _ ih => intro n; cases n with | zero => exact .nil | succ n => exact .cons h (ih n)
theorem F2.drop {α β : Type} {R : α → β → Prop} {l : List α} {m : List β} (h : F2 R l m) : ∀ n, F2 R (l.drop n) (m.drop n) := by
  induction h with
  | nil => intro n; simp; exact .nil
  | cons h t ih => intro n; cases n with | zero => exact .cons h t | succ n => exact ih n

theorem ob_some {α β : Type} {o : Option α} {f : α → Option β} {b : β} (h : ob o f = some b) : ∃ a, o = some a ∧ f a = some b := by
  cases o with
  | none => cases h
  | some a => exact ⟨a, rfl, h⟩
theorem bif_some {β : Type} {c : Bool} {x : Option β} {b : β} (h : (bif c then x else none) = some b) : c = true ∧ x = some b := by
  cases c with
  | false => cases h
  | true => exact ⟨rfl, h⟩
theorem len_eq {α : Type} (l : List α) : len l = l.length := by induction l <;> simp_all [len]
theorem nth_eq {α : Type} (l : List α) : ∀ n, nth l n = l[n]? := by
  induction l with
  | nil => intro n; simp [nth]
  | cons x l ih => intro n; cases n <;> simp [nth, ih]
theorem app_eq {α : Type} (l m : List α) : app l m = l ++ m := by induction l <;> simp_all [app]
theorem takeO_some {α : Type} : ∀ (l : List α) (n : Nat) (r : List α), takeO l n = some r → n ≤ l.length ∧ r = l.take n := by
  intro l
  induction l with
  | nil => intro n r h; cases n <;> simp_all [takeO]
  | cons x l ih =>
    intro n r h
    cases n with
    | zero => simp_all [takeO]
    | succ n =>
      obtain ⟨q, hq, he⟩ := ob_some h
      obtain ⟨h1, rfl⟩ := ih n q hq
      simp at he
      exact ⟨by simp; omega, by simp [← he]⟩
theorem dropO_some {α : Type} : ∀ (l : List α) (n : Nat) (r : List α), dropO l n = some r → n ≤ l.length ∧ r = l.drop n := by
  intro l
  induction l with
  | nil => intro n r h; cases n <;> simp_all [dropO]
  | cons x l ih =>
    intro n r h
    cases n with
    | zero => simp_all [dropO]
    | succ n =>
      obtain ⟨h1, rfl⟩ := ih n r h
      exact ⟨by simp; omega, by simp⟩
theorem subO_some {α : Type} {l : List α} {o n : Nat} {r : List α} (h : subO l o n = some r) : o + n ≤ l.length ∧ r = (l.drop o).take n := by
  obtain ⟨d, hd, ht⟩ := ob_some h
  obtain ⟨h1, rfl⟩ := dropO_some _ _ _ hd
  obtain ⟨h2, rfl⟩ := takeO_some _ _ _ ht
  simp at h2
  exact ⟨by omega, rfl⟩
theorem over_some {α : Type} : ∀ (l vs r : List α), over l vs = some r → vs.length ≤ l.length ∧ r = vs ++ l.drop vs.length := by
  intro l
  induction l with
  | nil => intro vs r h; cases vs <;> simp_all [over]
  | cons x l ih =>
    intro vs r h
    cases vs with
    | nil => simp_all [over]
    | cons v vs =>
      obtain ⟨q, hq, he⟩ := ob_some h
      obtain ⟨h1, rfl⟩ := ih vs q hq
      simp at he
      exact ⟨by simp; omega, by simp [← he]⟩
theorem splice_some {α : Type} : ∀ (l : List α) (o : Nat) (vs r : List α), splice l o vs = some r → o + vs.length ≤ l.length ∧ r = l.take o ++ vs ++ l.drop (o + vs.length) := by
  intro l
  induction l with
  | nil =>
    intro o vs r h
    cases o with
    | zero => have := over_some _ _ _ (by simpa [splice] using h); simpa using this
    | succ o => simp [splice] at h
  | cons x l ih =>
    intro o vs r h
    cases o with
    | zero => have := over_some _ _ _ (by simpa [splice] using h); simpa using this
    | succ o =>
      obtain ⟨q, hq, he⟩ := ob_some (by simpa [splice] using h)
      obtain ⟨h1, rfl⟩ := ih o vs q hq
      simp at he
      exact ⟨by simp; omega, by simp [← he, Nat.add_right_comm]⟩
theorem mapO_some {α β : Type} {f : α → Option β} : ∀ {l : List α} {r : List β}, mapO f l = some r → F2 (fun x y => f x = some y) l r := by
  intro l
  induction l with
  | nil => intro r h; simp [mapO] at h; subst h; exact .nil
  | cons x l ih =>
    intro r h
    obtain ⟨y, hy, h2⟩ := ob_some h
    obtain ⟨q, hq, he⟩ := ob_some h2
    simp at he
    subst he
    exact .cons hy (ih hq)

/-! ### Values -/
structure RB where
  blk : Nat
  sh : Nat
  sz : Nat
/-- Where the evaluator's blocks lie: the machine's block, the cell at which ours begins, how many cells there are in all; and the map entries' stamps. -/
structure Rho where
  bl : Nat → Option RB
  st : Nat → Option Int

mutual
def VR (r : Rho) : V → Value → Prop
  | .bool b, x => x = .bool b
  | .int k n, x => x = .int k n
  | .str s, x => ∃ t, x = .string t ∧ bytesOf t = s
  | .nilptr, x => x = .pointer none
  | .ptr b o, x => ∃ q, r.bl b = some q ∧ x = .pointer (some ⟨q.blk, q.sh + o, none⟩)
  | .nilslice, x => x = .slice none 0 0
  | .slice b o n (.kn c), x => ∃ q, r.bl b = some q ∧ (x = .slice (some ⟨q.blk, q.sh + o, none⟩) n c ∨ (n = 0 ∧ c = 0 ∧ ∃ a, x = .slice (some a) 0 0))
  | .slice b o n (.un es lo), x => ∃ q, r.bl b = some q ∧
      ((∃ c, x = .slice (some ⟨q.blk, q.sh + o, none⟩) n c ∧ n ≤ c ∧ lo ≤ c ∧ q.sh + o + c * es = q.sz ∧ (q.sh + o) % es = 0) ∨ (n = 0 ∧ lo = 0 ∧ ∃ a, x = .slice (some a) 0 0))
  | .nilmap, x => x = .map none
  | .map b, x => ∃ q, r.bl b = some q ∧ x = .map (some q.blk)
  | .nilfn, x => x = .nilFunc
  | .fn f a c, x => ∃ a' c', x = .func (.func f) a' c' ∧ VRs r a a'.toList ∧ VRs r c c'.toList
  | .yield l, x => ∃ q, r.bl l = some q ∧ x = .func (.yield q.blk) #[] #[]
  | .niliface, x => x = .nilIface
  | .iface t v, x => ∃ y, x = .iface t y ∧ VR r v y
  | .agg cs, x => ∃ a, x = .agg a ∧ VRs r cs a.toList
  | .tup cs, x => ∃ a, x = .tuple a ∧ VRs r cs a.toList
  | .glob g, x => x = .pointer (some ⟨g, 0, none⟩)
  | .stamp i, x => ∃ n : Int, r.st i = some n ∧ x = .int .i64 n
  | .unk, x => x.oneCell' = true
def VRs (r : Rho) : List V → List Value → Prop
  | [], l => l = []
  | v :: vs, l => ∃ x xs, l = x :: xs ∧ VR r v x ∧ VRs r vs xs
end

/-- r' says all that r says. -/
structure Le (r r' : Rho) : Prop where
  bl : ∀ b q, r.bl b = some q → r'.bl b = some q
  st : ∀ i m, r.st i = some m → r'.st i = some m
/-- r' says, of all numbers but those from lo to below hi, what r says. -/
structure Same (lo hi : Nat) (r r' : Rho) : Prop where
  bl : ∀ b, (b < lo ∨ hi ≤ b) → r'.bl b = r.bl b
  st : ∀ i, (i < lo ∨ hi ≤ i) → r'.st i = r.st i
/-- r says nothing of the numbers from lo to below hi. -/
structure Free (lo hi : Nat) (r : Rho) : Prop where
  bl : ∀ b, lo ≤ b → b < hi → r.bl b = none
  st : ∀ i, lo ≤ i → i < hi → r.st i = none
theorem Le.refl (r : Rho) : Le r r := ⟨fun _ _ h => h, fun _ _ h => h⟩
theorem Le.trans {r r' r'' : Rho} (h : Le r r') (h' : Le r' r'') : Le r r'' := ⟨fun b q hq => h'.bl b q (h.bl b q hq), fun b q hq => h'.st b q (h.st b q hq)⟩
theorem Same.refl (lo hi : Nat) (r : Rho) : Same lo hi r r := ⟨fun _ _ => rfl, fun _ _ => rfl⟩
theorem Same.trans {lo m hi : Nat} {r r' r'' : Rho} (h : Same lo m r r') (h' : Same m hi r' r'') (h1 : lo ≤ m) (h2 : m ≤ hi) : Same lo hi r r'' :=
  ⟨fun b hb => (h'.bl b (by omega)).trans (h.bl b (by omega)), fun b hb => (h'.st b (by omega)).trans (h.st b (by omega))⟩
theorem Same.widen {lo hi lo' hi' : Nat} {r r' : Rho} (h : Same lo hi r r') (h1 : lo' ≤ lo) (h2 : hi ≤ hi') : Same lo' hi' r r' :=
  ⟨fun b hb => h.bl b (by omega), fun b hb => h.st b (by omega)⟩
theorem Free.le {lo hi : Nat} {r r' : Rho} (h : Free lo hi r) (h' : Same lo hi r r') : Le r r' := by
  constructor
  · intro b q hq
    by_cases hb : lo ≤ b ∧ b < hi
    · rw [h.bl b hb.1 hb.2] at hq; cases hq
    · rw [h'.bl b (by omega)]; exact hq
  · intro b q hq
    by_cases hb : lo ≤ b ∧ b < hi
    · rw [h.st b hb.1 hb.2] at hq; cases hq
    · rw [h'.st b (by omega)]; exact hq
theorem Free.sub {lo hi lo' hi' : Nat} {r : Rho} (h : Free lo hi r) (h1 : lo ≤ lo') (h2 : hi' ≤ hi) : Free lo' hi' r :=
  ⟨fun b h3 h4 => h.bl b (by omega) (by omega), fun b h3 h4 => h.st b (by omega) (by omega)⟩
theorem Free.step {lo m hi : Nat} {r r' : Rho} (h : Free lo hi r) (h' : Same lo m r r') (h1 : lo ≤ m) : Free m hi r' :=
  ⟨fun b h3 h4 => (h'.bl b (by omega)).trans (h.bl b (by omega) h4), fun b h3 h4 => (h'.st b (by omega)).trans (h.st b (by omega) h4)⟩

mutual
theorem VR.ext {r r' : Rho} (h : Le r r') : ∀ (v : V) (x : Value), VR r v x → VR r' v x
  | .bool b, x, hv => hv
  | .int k n, x, hv => hv
  | .str s, x, hv => hv
  | .nilptr, x, hv => hv
  | .ptr b o, x, hv => by obtain ⟨q, hq, he⟩ := hv; exact ⟨q, h.bl _ _ hq, he⟩
  | .nilslice, x, hv => hv
  | .slice b o n (.kn c), x, hv => by obtain ⟨q, hq, he⟩ := hv; exact ⟨q, h.bl _ _ hq, he⟩
  | .slice b o n (.un es lo), x, hv => by obtain ⟨q, hq, he⟩ := hv; exact ⟨q, h.bl _ _ hq, he⟩
  | .nilmap, x, hv => hv
  | .map b, x, hv => by obtain ⟨q, hq, he⟩ := hv; exact ⟨q, h.bl _ _ hq, he⟩
  | .nilfn, x, hv => hv
  | .fn f a c, x, hv => by obtain ⟨a', c', he, h1, h2⟩ := hv; exact ⟨a', c', he, VRs.ext h a _ h1, VRs.ext h c _ h2⟩
  | .yield l, x, hv => by obtain ⟨q, hq, he⟩ := hv; exact ⟨q, h.bl _ _ hq, he⟩
  | .niliface, x, hv => hv
  | .iface t v, x, hv => by obtain ⟨y, he, h1⟩ := hv; exact ⟨y, he, VR.ext h v y h1⟩
  | .agg cs, x, hv => by obtain ⟨a, he, h1⟩ := hv; exact ⟨a, he, VRs.ext h cs _ h1⟩
  | .tup cs, x, hv => by obtain ⟨a, he, h1⟩ := hv; exact ⟨a, he, VRs.ext h cs _ h1⟩
  | .glob g, x, hv => hv
  | .stamp i, x, hv => by obtain ⟨m, hq, he⟩ := hv; exact ⟨m, h.st _ _ hq, he⟩
  | .unk, x, hv => hv
theorem VRs.ext {r r' : Rho} (h : Le r r') : ∀ (vs : List V) (l : List Value), VRs r vs l → VRs r' vs l
  | [], l, hv => hv
  | v :: vs, l, hv => by obtain ⟨x, xs, he, h1, h2⟩ := hv; exact ⟨x, xs, he, VR.ext h v x h1, VRs.ext h vs xs h2⟩
end
theorem VRs.forall₂ {r : Rho} : ∀ {vs : List V} {l : List Value}, VRs r vs l ↔ F2 (VR r) vs l
  | [], l => by
    constructor
    · intro h; simp only [VRs] at h; subst h; exact .nil
    · intro h; cases h; simp [VRs]
  | v :: vs, l => by
    constructor
    · intro h; obtain ⟨x, xs, rfl, h1, h2⟩ := h; exact .cons h1 (VRs.forall₂.1 h2)
    · intro h; cases h with | cons h1 h2 => exact ⟨_, _, rfl, h1, VRs.forall₂.2 h2⟩
theorem VRs.length {r : Rho} {vs : List V} {l : List Value} (h : VRs r vs l) : l.length = vs.length := (VRs.forall₂.1 h).length.symm
theorem VR.cells {r : Rho} {v : V} {x : Value} (h : VR r v x) : VRs r v.cells x.cells.toList := by
  cases v with
  | agg cs => obtain ⟨a, rfl, h1⟩ := h; exact h1
  | slice b o n c => cases c <;> (refine ⟨x, [], ?_, h, rfl⟩; obtain ⟨q, hq, he⟩ := h)
                     · rcases he with he | ⟨_, _, a, he⟩ <;> rw [he] <;> rfl
                     · rcases he with ⟨c, he, _⟩ | ⟨_, _, a, he⟩ <;> rw [he] <;> rfl
  | unk => refine ⟨x, [], ?_, h, rfl⟩; cases x <;> first | rfl | (simp [VR, Value.oneCell'] at h)
  | bool b => exact ⟨x, [], by rw [show x = _ from h]; rfl, h, rfl⟩
  | int k n => exact ⟨x, [], by rw [show x = _ from h]; rfl, h, rfl⟩
  | str s => refine ⟨x, [], ?_, h, rfl⟩; obtain ⟨t, he, _⟩ := h; rw [he]; rfl
  | nilptr => exact ⟨x, [], by rw [show x = _ from h]; rfl, h, rfl⟩
  | ptr b o => refine ⟨x, [], ?_, h, rfl⟩; obtain ⟨q, _, he⟩ := h; rw [he]; rfl
  | nilslice => exact ⟨x, [], by rw [show x = _ from h]; rfl, h, rfl⟩
  | nilmap => exact ⟨x, [], by rw [show x = _ from h]; rfl, h, rfl⟩
  | map b => refine ⟨x, [], ?_, h, rfl⟩; obtain ⟨q, _, he⟩ := h; rw [he]; rfl
  | nilfn => exact ⟨x, [], by rw [show x = _ from h]; rfl, h, rfl⟩
  | fn f a c => refine ⟨x, [], ?_, h, rfl⟩; obtain ⟨_, _, he, _⟩ := h; rw [he]; rfl
  | yield l => refine ⟨x, [], ?_, h, rfl⟩; obtain ⟨q, _, he⟩ := h; rw [he]; rfl
  | niliface => exact ⟨x, [], by rw [show x = _ from h]; rfl, h, rfl⟩
  | iface t v => refine ⟨x, [], ?_, h, rfl⟩; obtain ⟨y, he, _⟩ := h; rw [he]; rfl
  | tup vs => refine ⟨x, [], ?_, h, rfl⟩; obtain ⟨y, he, _⟩ := h; rw [he]; rfl
  | glob g => exact ⟨x, [], by rw [show x = _ from h]; rfl, h, rfl⟩
  | stamp i => refine ⟨x, [], ?_, h, rfl⟩; obtain ⟨y, _, he⟩ := h; rw [he]; rfl
theorem VR.one {r : Rho} {v : V} {x : Value} (h : VR r v x) (ho : v.one = true) : x.oneCell' = true := by
  cases v with
  | agg cs => cases ho
  | tup cs => cases ho
  | slice b o n c => cases c <;> obtain ⟨q, hq, he⟩ := h
                     · rcases he with he | ⟨_, _, a, he⟩ <;> rw [he] <;> rfl
                     · rcases he with ⟨c, he, _⟩ | ⟨_, _, a, he⟩ <;> rw [he] <;> rfl
  | unk => exact h
  | str s => obtain ⟨t, he, _⟩ := h; rw [he]; rfl
  | ptr b o => obtain ⟨q, _, he⟩ := h; rw [he]; rfl
  | map b => obtain ⟨q, _, he⟩ := h; rw [he]; rfl
  | fn f a c => obtain ⟨_, _, he, _⟩ := h; rw [he]; rfl
  | yield l => obtain ⟨q, _, he⟩ := h; rw [he]; rfl
  | iface t v => obtain ⟨y, he, _⟩ := h; rw [he]; rfl
  | stamp i => obtain ⟨y, _, he⟩ := h; rw [he]; rfl
  | bool b => rw [show x = _ from h]; rfl
  | int k n => rw [show x = _ from h]; rfl
  | nilptr => rw [show x = _ from h]; rfl
  | nilslice => rw [show x = _ from h]; rfl
  | nilmap => rw [show x = _ from h]; rfl
  | nilfn => rw [show x = _ from h]; rfl
  | niliface => rw [show x = _ from h]; rfl
  | glob g => rw [show x = _ from h]; rfl
end Go.Ev
namespace Go.Ev

theorem leI_eq (x y : Int) : leI x y = decide (x ≤ y) := by
  cases x <;> cases y <;> simp only [leI, Int.ofNat_eq_natCast, Int.negSucc_eq]
  · rename_i a b; rw [Bool.eq_iff_iff]; simp only [Nat.ble_eq, decide_eq_true_eq]; omega
  · rename_i a b; symm; simp only [decide_eq_false_iff_not]; omega
  · rename_i a b; symm; simp only [decide_eq_true_eq]; omega
  · rename_i a b; rw [Bool.eq_iff_iff]; simp only [Nat.ble_eq, decide_eq_true_eq]; omega
theorem ltI_eq (x y : Int) : ltI x y = decide (x < y) := by
  rw [ltI, leI_eq, Bool.eq_iff_iff]; simp
theorem eqI_eq (x y : Int) : eqI x y = (x == y) := by
  cases x <;> cases y <;> simp only [eqI, Int.ofNat_eq_natCast, Int.negSucc_eq]
  · rename_i a b; rw [Bool.eq_iff_iff]; simp only [Nat.beq_eq, beq_iff_eq]; omega
  · rename_i a b; symm; rw [beq_eq_false_iff_ne]; omega
  · rename_i a b; symm; rw [beq_eq_false_iff_ne]; omega
  · rename_i a b; rw [Bool.eq_iff_iff]; simp only [Nat.beq_eq, beq_iff_eq]; omega
theorem addI_eq (x y : Int) : addI x y = x + y := by
  cases x <;> cases y <;> rfl
theorem wrap_if (k : IntKind) (n : Int) : k.wrap n = if (k.signed && decide (n % (2 ^ k.bits : Int) ≥ (2 ^ (k.bits - 1) : Int))) = true then n % (2 ^ k.bits : Int) - (2 ^ k.bits : Int) else n % (2 ^ k.bits : Int) := rfl
theorem maxK_lt (k : IntKind) : maxK k < 2 ^ k.bits := by cases k <;> decide
theorem maxK_lt' (k : IntKind) (hs : k.signed = true) : maxK k < 2 ^ (k.bits - 1) := by cases k <;> first | decide | cases hs
theorem wrap_pos (k : IntKind) (a : Nat) (h : a ≤ maxK k) : k.wrap (.ofNat a) = .ofNat a := by
  rw [Int.ofNat_eq_natCast, wrap_if]
  have h1 : (a : Int) % 2 ^ k.bits = a := Int.emod_eq_of_lt (by omega) (by have := maxK_lt k; exact_mod_cast Nat.lt_of_le_of_lt h this)
  rw [h1]
  cases hs : k.signed with
  | false => rfl
  | true =>
    have h2 : ¬ ((a : Int) ≥ 2 ^ (k.bits - 1)) := by
      have := Nat.lt_of_le_of_lt h (maxK_lt' k hs)
      have h3 : (a : Int) < 2 ^ (k.bits - 1) := by exact_mod_cast this
      omega
    rw [decide_eq_false h2]; rfl
theorem wrap_neg (a : Nat) (h : a < 2 ^ 63) : IntKind.wrap .i64 (.negSucc a) = .negSucc a := by
  have h0 : (a : Int) < 2 ^ 63 := by exact_mod_cast h
  have e : (Int.negSucc a) % (2 ^ IntKind.i64.bits : Int) = 2 ^ 64 - 1 - a := by
    rw [Int.negSucc_eq]
    show (-((a : Int) + 1)) % 2 ^ 64 = _
    have : (-((a : Int) + 1)) = (2 ^ 64 - 1 - a) + 2 ^ 64 * (-1) := by omega
    rw [this, Int.add_mul_emod_self_left, Int.emod_eq_of_lt (by omega) (by omega)]
  rw [wrap_if, e]
  have h2 : ((2 : Int) ^ 64 - 1 - a ≥ 2 ^ (IntKind.i64.bits - 1)) := by show (2 : Int) ^ 64 - 1 - a ≥ 2 ^ 63; omega
  rw [decide_eq_true h2]
  show (2 : Int) ^ 64 - 1 - a - 2 ^ 64 = _
  rw [Int.negSucc_eq]; omega
theorem M63_lt : M63 < 2 ^ 63 := by decide
theorem wrapK_eq (k : IntKind) (n : Int) : wrapK k n = k.wrap n := by
  cases n with
  | ofNat a =>
    unfold wrapK
    simp only
    generalize hm : maxK k = m
    cases h : Nat.ble a m with
    | true => rw [cond_true, wrap_pos k a (by rw [hm]; exact Nat.le_of_ble_eq_true h)]
    | false => rfl
  | negSucc a =>
    cases k with
    | i64 =>
      show (bif Nat.ble a M63 then Int.negSucc a else IntKind.wrap .i64 (.negSucc a)) = _
      cases h : Nat.ble a M63 with
      | true => rw [cond_true, wrap_neg a (Nat.lt_of_le_of_lt (Nat.le_of_ble_eq_true h) M63_lt)]
      | false => rw [cond_false]
    | _ => rfl
theorem minN_eq (a b : Nat) : minN a b = min a b := by
  unfold minN
  cases h : Nat.ble a b with
  | true => rw [cond_true, Nat.min_eq_left (Nat.le_of_ble_eq_true h)]
  | false => rw [cond_false, Nat.min_eq_right]; have : ¬ a ≤ b := by rw [← Nat.ble_eq, h]; simp
             omega
theorem bitsK_eq (k : IntKind) : bitsK k = k.bits := by cases k <;> rfl
theorem bits_toNat {n a : Nat} (h : a < 2 ^ n) : (BitVec.ofInt n (Int.ofNat a)).toNat = a := by
  rw [Int.ofNat_eq_natCast, BitVec.ofInt_natCast, BitVec.toNat_ofNat, Nat.mod_eq_of_lt h]
theorem and_le (k : IntKind) {a b : Nat} (ha : a ≤ maxK k) : a &&& b ≤ maxK k := Nat.le_trans Nat.and_le_left ha
theorem maxK_succ (k : IntKind) : ∃ n, maxK k + 1 = 2 ^ n ∧ n ≤ k.bits := by
  cases k
  · exact ⟨7, by decide, by decide⟩
  · exact ⟨15, by decide, by decide⟩
  · exact ⟨31, by decide, by decide⟩
  · exact ⟨63, by decide, by decide⟩
  · exact ⟨8, by decide, by decide⟩
  · exact ⟨16, by decide, by decide⟩
  · exact ⟨32, by decide, by decide⟩
  · exact ⟨64, by decide, by decide⟩
theorem or_le (k : IntKind) {a b : Nat} (ha : a ≤ maxK k) (hb : b ≤ maxK k) : a ||| b ≤ maxK k := by
  obtain ⟨n, hn, _⟩ := maxK_succ k
  have := Nat.or_lt_two_pow (x := a) (y := b) (n := n) (by omega) (by omega)
  omega
theorem xor_le (k : IntKind) {a b : Nat} (ha : a ≤ maxK k) (hb : b ≤ maxK k) : a ^^^ b ≤ maxK k := by
  obtain ⟨n, hn, _⟩ := maxK_succ k
  have := Nat.xor_lt_two_pow (x := a) (y := b) (n := n) (by omega) (by omega)
  omega
theorem and_eq (k : IntKind) (x y : Int) : bitK k x y Nat.land (k.wrap (BitVec.ofInt k.bits x &&& BitVec.ofInt k.bits y).toNat) = k.wrap (BitVec.ofInt k.bits x &&& BitVec.ofInt k.bits y).toNat := by
  cases x with
  | negSucc a => rfl
  | ofNat a =>
    cases y with
    | negSucc b => rfl
    | ofNat b =>
      simp only [bitK]
      cases ha : Nat.ble a (maxK k) with
      | false => rfl
      | true =>
        cases hb : Nat.ble b (maxK k) with
        | false => rfl
        | true =>
          have h1 := Nat.le_of_ble_eq_true ha
          have h2 := Nat.le_of_ble_eq_true hb
          have h3 := maxK_lt k
          rw [cond_true, cond_true, BitVec.toNat_and, bits_toNat (by omega), bits_toNat (by omega)]
          exact (wrap_pos k _ (and_le k h1)).symm
theorem or_eq (k : IntKind) (x y : Int) : bitK k x y Nat.lor (k.wrap (BitVec.ofInt k.bits x ||| BitVec.ofInt k.bits y).toNat) = k.wrap (BitVec.ofInt k.bits x ||| BitVec.ofInt k.bits y).toNat := by
  cases x with
  | negSucc a => rfl
  | ofNat a =>
    cases y with
    | negSucc b => rfl
    | ofNat b =>
      simp only [bitK]
      cases ha : Nat.ble a (maxK k) with
      | false => rfl
      | true =>
        cases hb : Nat.ble b (maxK k) with
        | false => rfl
        | true =>
          have h1 := Nat.le_of_ble_eq_true ha
          have h2 := Nat.le_of_ble_eq_true hb
          have h3 := maxK_lt k
          rw [cond_true, cond_true, BitVec.toNat_or, bits_toNat (by omega), bits_toNat (by omega)]
          exact (wrap_pos k _ (or_le k h1 h2)).symm
theorem xor_eq (k : IntKind) (x y : Int) : bitK k x y Nat.xor (k.wrap (BitVec.ofInt k.bits x ^^^ BitVec.ofInt k.bits y).toNat) = k.wrap (BitVec.ofInt k.bits x ^^^ BitVec.ofInt k.bits y).toNat := by
  cases x with
  | negSucc a => rfl
  | ofNat a =>
    cases y with
    | negSucc b => rfl
    | ofNat b =>
      simp only [bitK]
      cases ha : Nat.ble a (maxK k) with
      | false => rfl
      | true =>
        cases hb : Nat.ble b (maxK k) with
        | false => rfl
        | true =>
          have h1 := Nat.le_of_ble_eq_true ha
          have h2 := Nat.le_of_ble_eq_true hb
          have h3 := maxK_lt k
          rw [cond_true, cond_true, BitVec.toNat_xor, bits_toNat (by omega), bits_toNat (by omega)]
          exact (wrap_pos k _ (xor_le k h1 h2)).symm

/-- An operation's run, and what it answers, which the evaluator's answer stands for. -/
theorem run_as {α : Type} {P : Program} {s : Sem α} {w w' : World} {x : α} {R : α → Prop} (h : s.run P w = .ok x w') (hr : R x) : ∃ y, s.run P w = .ok y w' ∧ R y := ⟨x, h, hr⟩

theorem arith_sound {P : Program} {op : BinOp} {k : IntKind} {a b : Int} {v : V} (r : Rho) (h : arith op k a b = some v) (w : World) :
    ∃ x, (binOp op 0 (.int k a) (.int k b)).run P w = .ok x w ∧ VR r v x := by
  cases op <;> simp only [arith, Option.some.injEq, reduceCtorEq] at h
  case quo =>
    cases hb : eqI b 0 with
    | true => simp [hb] at h
    | false =>
      simp only [hb, cond_false, Option.some.injEq] at h
      rw [eqI_eq, beq_eq_false_iff_ne] at hb
      subst h; exact run_as (x := .int k (k.wrap (a.tdiv b))) (by simp [binOp, Op.intDiv, hb]) (by simp only [VR, wrapK_eq])
  case rem =>
    cases hb : eqI b 0 with
    | true => simp [hb] at h
    | false =>
      simp only [hb, cond_false, Option.some.injEq] at h
      rw [eqI_eq, beq_eq_false_iff_ne] at hb
      subst h; exact run_as (x := .int k (a.tmod b)) (by simp [binOp, Op.intDiv, hb]) (by simp only [VR])
  case add => subst h; exact run_as (x := .int k (k.wrap (a + b))) (by simp [binOp, Op.intArith]) (by simp only [VR, wrapK_eq, addI_eq])
  case sub => subst h; exact run_as (x := .int k (k.wrap (a - b))) (by simp [binOp, Op.intArith]) (by simp only [VR, wrapK_eq])
  case mul => subst h; exact run_as (x := .int k (k.wrap (a * b))) (by simp [binOp, Op.intArith]) (by simp only [VR, wrapK_eq])
  case and => subst h; exact run_as (x := .int k (k.wrap (BitVec.ofInt k.bits a &&& BitVec.ofInt k.bits b).toNat)) (by simp only [binOp, ne_eq, not_true_eq_false, if_false, Op.intBits, Sem.run_pure]) (by simp only [VR, and_eq])
  case or => subst h; exact run_as (x := .int k (k.wrap (BitVec.ofInt k.bits a ||| BitVec.ofInt k.bits b).toNat)) (by simp only [binOp, ne_eq, not_true_eq_false, if_false, Op.intBits, Sem.run_pure]) (by simp only [VR, or_eq])
  case xor => subst h; exact run_as (x := .int k (k.wrap (BitVec.ofInt k.bits a ^^^ BitVec.ofInt k.bits b).toNat)) (by simp only [binOp, ne_eq, not_true_eq_false, if_false, Op.intBits, Sem.run_pure]) (by simp only [VR, xor_eq])
  case andNot => subst h; exact run_as (x := .int k (k.wrap (BitVec.ofInt k.bits a &&& ~~~ BitVec.ofInt k.bits b).toNat)) (by simp only [binOp, ne_eq, not_true_eq_false, if_false, Op.intBits, Sem.run_pure]) (by simp only [VR])
  case eql => subst h; exact run_as (x := .bool (a == b)) (by simp [binOp, Op.intCmp]) (by simp only [VR, eqI_eq])
  case neq => subst h; exact run_as (x := .bool (a != b)) (by simp [binOp, Op.intCmp]) (by simp only [VR, eqI_eq]; rfl)
  case lss => subst h; exact run_as (x := .bool (a < b)) (by simp [binOp, Op.intCmp]) (by simp only [VR, ltI_eq])
  case leq => subst h; exact run_as (x := .bool (a ≤ b)) (by simp [binOp, Op.intCmp]) (by simp only [VR, leI_eq])
  case gtr => subst h; exact run_as (x := .bool (a > b)) (by simp [binOp, Op.intCmp]) (by simp only [VR, ltI_eq])
  case geq => subst h; exact run_as (x := .bool (a ≥ b)) (by simp [binOp, Op.intCmp]) (by simp only [VR, leI_eq])

theorem shift_sound {P : Program} {op : BinOp} {k j : IntKind} {a b : Int} {v : V} (r : Rho) (h : shiftK op k a b = some v) (w : World) :
    ∃ x, (Op.shift op k a j b).run P w = .ok x w ∧ VR r v x := by
  cases b with
  | negSucc b => cases h
  | ofNat n =>
    have h0 : ¬ (Int.ofNat n < 0) := by rw [Int.ofNat_eq_natCast]; omega
    cases op <;> simp only [shiftK, Option.some.injEq, reduceCtorEq] at h
    · subst h
      refine run_as (x := .int k (k.wrap (a * 2 ^ (min n k.bits)))) (by simp only [Op.shift, h0, if_false, Sem.run_pure]; rfl) ?_
      simp only [VR, wrapK_eq, minN_eq, bitsK_eq]
      cases a with
      | ofNat a => rfl
      | negSucc a => rfl
    · subst h
      refine run_as (x := .int k (a.fdiv (2 ^ (min n k.bits)))) (by simp only [Op.shift, h0, if_false, Sem.run_pure]; rfl) ?_
      simp only [VR, minN_eq, bitsK_eq]
      cases a with
      | ofNat a =>
        congr 1
        show Int.fdiv (Int.ofNat a) (2 ^ min n k.bits) = Int.ofNat (a / 2 ^ min n k.bits)
        rw [Int.fdiv_eq_ediv_of_nonneg _ (by exact Int.pow_nonneg (by decide))]
        push_cast
        rfl
      | negSucc a => rfl
end Go.Ev
namespace Go.Ev

/-- What the evaluator's row of a type says of the program's. -/
structure TiAt (P : Program) (t : Nat) (ti : TI) where
  i : TypeInfo
  d : TypeDesc
  z : Value
  hi : P.info? t = some i
  hd : P.underlying t = some d
  hz : i.zero = some z
  zero : absVal z = some ti.zero
  td : ti.d = tdOf P t d
  size : ti.size = i.size
  bytes : ti.bytes = i.bytes
  agg : ti.agg = aggD d
  comp : ti.comp = i.comparable
theorem tiAt_of {P : Program} {t : Nat} {ti : TI} (h : tiFrom P t = some ti) : Nonempty (TiAt P t ti) := by
  unfold tiFrom at h
  split at h
  · rename_i i d hi hd
    split at h
    · rename_i z hz
      obtain ⟨v, hv, he⟩ := ob_some h
      simp only [Option.some.injEq] at he
      subst he
      exact ⟨⟨i, d, z, hi, hd, hz, hv, rfl, rfl, rfl, rfl, rfl⟩⟩
    · cases h
  · cases h

section
variable {P : Program} {w : World}
theorem run_typeInfo {t : Nat} {i : TypeInfo} (h : P.info? t = some i) : (typeInfo t).run P w = .ok i w := by
  simp [typeInfo, h]
theorem run_underlying' {t : Nat} {d : TypeDesc} (h : P.underlying t = some d) : (underlying t).run P w = .ok d w := by
  simp [underlying, h]
theorem run_sizeOf {t : Nat} {i : TypeInfo} (h : P.info? t = some i) : (sizeOf t).run P w = .ok i.size w := by
  simp [sizeOf, run_typeInfo h]
theorem run_zeroValue {t : Nat} {i : TypeInfo} {z : Value} (h : P.info? t = some i) (hz : i.zero = some z) : (zeroValue t).run P w = .ok z w := by
  simp [zeroValue, run_typeInfo h, hz]
theorem run_isAgg {t : Nat} {d : TypeDesc} (h : P.underlying t = some d) :
    (isAgg t).run P w = .ok (aggD d) w := by
  unfold isAgg
  simp only [Sem.run_bind, run_underlying' h, Result.andThen_ok]
  cases d <;> rfl
end

theorem absCell_rel (r : Rho) {x : Value} {v : V} (h : absCell x = some v) : VR r v x := by
  cases x with
  | slice a n c =>
    cases a with
    | none =>
      simp only [absCell] at h
      obtain ⟨h1, h2⟩ := bif_some h
      obtain ⟨h3, h4⟩ := bif_some h2
      simp only [Option.some.injEq] at h4
      subst h4
      rw [Nat.eq_of_beq_eq_true h1, Nat.eq_of_beq_eq_true h3]; rfl
    | some a => cases h
  | pointer a => cases a with
    | none => simp only [absCell, Option.some.injEq] at h; subst h; rfl
    | some a => cases h
  | map a => cases a with
    | none => simp only [absCell, Option.some.injEq] at h; subst h; rfl
    | some a => cases h
  | string s => simp only [absCell, Option.some.injEq] at h; subst h; exact ⟨s, rfl, rfl⟩
  | bool b => simp only [absCell, Option.some.injEq] at h; subst h; rfl
  | int k n => simp only [absCell, Option.some.injEq] at h; subst h; rfl
  | nilFunc => simp only [absCell, Option.some.injEq] at h; subst h; rfl
  | nilIface => simp only [absCell, Option.some.injEq] at h; subst h; rfl
  | _ => cases h
theorem absVal_rel (r : Rho) {x : Value} {v : V} (h : absVal x = some v) : VR r v x := by
  cases x with
  | agg cs =>
    obtain ⟨l, hl, he⟩ := ob_some h
    simp only [Option.some.injEq] at he
    subst he
    refine ⟨cs, rfl, VRs.forall₂.2 ?_⟩
    have := mapO_some hl
    refine F2.of_get this.length.symm fun i a b h1 h2 => ?_
    obtain ⟨c, hc, he⟩ := this.get' i a h1
    rw [h2] at hc
    cases hc
    exact absCell_rel r he
  | _ => exact absCell_rel r h

/-- The temporaries. -/
structure TR (r : Rho) (n : Nat) (tm : T V) (tmps : Array Value) : Prop where
  size : tmps.size = n
  get : ∀ t v, tm.get t = some v → VR r v (tmps.getD t undef)
theorem TR.ext {n : Nat} {r r' : Rho} (h : Le r r') {tm : T V} {tmps : Array Value} (ht : TR r n tm tmps) : TR r' n tm tmps :=
  ⟨ht.size, fun t v hv => VR.ext h _ _ (ht.get t v hv)⟩
theorem TR.put {r : Rho} {n : Nat} {tm tm' : T V} {a : Act} (ht : TR r n tm a.tmps) {dst : Option Nat} {v : V} {x : Value} (hv : VR r v x)
    (h : putT n tm dst v = some tm') : TR r n tm' (a.put dst x).tmps := by
  cases dst with
  | none => simp only [putT, Option.some.injEq] at h; subst h; exact ht
  | some d =>
    obtain ⟨h1, h2⟩ := bif_some h
    have hd : d < n := Nat.le_of_ble_eq_true h1
    simp only [Option.some.injEq] at h2
    subst h2
    refine ⟨by simp [Act.put, ht.size], fun t u hu => ?_⟩
    rw [T.get_set] at hu
    by_cases e : t = d
    · subst e
      rw [if_pos rfl] at hu
      cases hu
      have : t < a.tmps.size := by rw [ht.size]; exact hd
      simpa [Act.put, this] using hv
    · rw [if_neg e] at hu
      have := ht.get t u hu
      simpa [Act.put, Array.getElem?_setIfInBounds_ne (Ne.symm e)] using this

theorem evo_sound {r : Rho} {n : Nat} {tm : T V} {a : Act} (ht : TR r n tm a.tmps) {x : Operand} {v : V} (h : evo tm x = some v) : VR r v (a.eval x) := by
  cases x with
  | tmp t => exact ht.get t v h
  | const c => exact absVal_rel r h
  | global g => simp only [evo, Option.some.injEq] at h; subst h; rfl
  | func f => simp only [evo, Option.some.injEq] at h; subst h; exact ⟨#[], #[], rfl, rfl, rfl⟩
theorem evos_sound {r : Rho} {n : Nat} {tm : T V} {a : Act} (ht : TR r n tm a.tmps) {xs : Array Operand} {vs : List V} (h : evos tm xs.toList = some vs) :
    VRs r vs (xs.map a.eval).toList := by
  have := mapO_some h
  refine VRs.forall₂.2 (F2.of_get (by simp [this.length.symm]) fun i v x h1 h2 => ?_)
  obtain ⟨o, ho, he⟩ := this.get' i v h1
  have : x = a.eval o := by
    simp at h2 ho
    obtain ⟨y, hy, rfl⟩ := h2
    rw [hy] at ho; cases ho; rfl
  subst this
  exact evo_sound ht he

/-- What the evaluator is told of the program is so. -/
structure TisOk (P : Program) (E : Env) : Prop where
  ti : ∀ t i, E.ti t = some i → tiFrom P t = some i
theorem TisOk.at {P : Program} {E : Env} (h : TisOk P E) {t : Nat} {ti : TI} (ht : E.ti t = some ti) : Nonempty (TiAt P t ti) := tiAt_of (h.ti t ti ht)

/-- 'Op's run answers x in world w, which v stands for, and leaves the world. -/
def Ans (P : Program) (r : Rho) (s : Sem Next) (v : V) (w : World) : Prop := ∃ x, s.run P w = .ok (.value x) w ∧ VR r v x
theorem Ans.of {P : Program} {r : Rho} {s : Sem Value} {v : V} {w : World} {x : Value} (h : s.run P w = .ok x w) (hv : VR r v x) :
    Ans P r (do pure (.value (← s))) v w := ⟨x, by simp [h], hv⟩

theorem part_sound {P : Program} {r : Rho} {t : Nat} {i : TypeInfo} {d : TypeDesc} (hi : P.info? t = some i) (hd : P.underlying t = some d) {cs : List V} {a : Array Value} (ha : VRs r cs a.toList) {off : Nat} {v : V}
    (h : part (aggD d) i.size cs off = some v) (w : World) :
    ∃ x, (Go.part t a off).run P w = .ok x w ∧ VR r v x := by
  unfold Go.part
  simp only [Sem.run_bind, run_isAgg hd, Result.andThen_ok]
  have hF := VRs.forall₂.1 ha
  cases hb : aggD d with
  | true =>
    rw [hb] at h
    obtain ⟨l, hl, he⟩ := ob_some (show ob (subO cs off i.size) _ = _ from h)
    simp only [Option.some.injEq] at he
    subst he
    obtain ⟨h1, rfl⟩ := subO_some hl
    refine ⟨.agg (a.extract off (off + i.size)), by simp [run_sizeOf hi], _, rfl, VRs.forall₂.2 ?_⟩
    have := (hF.drop off).take i.size
    simpa [Array.toList_extract, List.extract_eq_take_drop] using this
  | false =>
    rw [hb] at h
    have h' : nth cs off = some v := h
    rw [nth_eq] at h'
    obtain ⟨x, hx, hv⟩ := hF.get off v h'
    have : a[off]? = some x := by simpa using hx
    exact ⟨x, by simp [this], hv⟩
end Go.Ev
namespace Go.Ev

theorem tdOf_struct {P : Program} {t : Nat} {d : TypeDesc} {fs : List FD} {c : Bool} (h : tdOf P t d = .struct fs c) :
    ∃ F, d = .struct F ∧ fdsOf P F.toList = some fs ∧ c = (!P.stoodInHeld t && !P.eqGuardType P.depth t && F.all fun f => f.name != "_") := by
  unfold tdOf at h
  split at h <;> try (cases h; done)
  · split at h <;> cases h
  · split at h <;> cases h
  · rename_i F
    split at h
    · rename_i l hl
      cases h
      exact ⟨F, rfl, hl, rfl⟩
    · cases h
theorem tdOf_slice {P : Program} {t : Nat} {d : TypeDesc} {e es eb : Nat} (h : tdOf P t d = .slice e es eb) :
    d = .slice e ∧ ∃ i, P.info? e = some i ∧ i.size = es ∧ i.bytes = eb := by
  unfold tdOf at h
  split at h <;> try (cases h; done)
  · rename_i e'
    split at h
    · rename_i i hi; cases h; exact ⟨rfl, i, hi, rfl, rfl⟩
    · cases h
  · split at h <;> cases h
  · split at h <;> cases h
theorem tdOf_array {P : Program} {t : Nat} {d : TypeDesc} {n e es : Nat} {g : Bool} (h : tdOf P t d = .array n e es g) :
    d = .array n e ∧ ∃ i u, P.info? e = some i ∧ P.underlying e = some u ∧ i.size = es ∧ g = aggD u := by
  unfold tdOf at h
  split at h <;> try (cases h; done)
  · split at h <;> cases h
  · split at h
    · rename_i i u hi hu; cases h; exact ⟨rfl, i, u, hi, hu, rfl, rfl⟩
    · cases h
  · split at h <;> cases h
theorem tdOf_map {P : Program} {t : Nat} {d : TypeDesc} {k e : Nat} (h : tdOf P t d = .map k e) : d = .map k e := by
  unfold tdOf at h
  split at h <;> try (cases h; done)
  · split at h <;> cases h
  · split at h <;> cases h
  · cases h; rfl
  · split at h <;> cases h
theorem tdOf_pointer {P : Program} {t : Nat} {d : TypeDesc} {e : Nat} (h : tdOf P t d = .pointer e) : d = .pointer e := by
  unfold tdOf at h
  split at h <;> try (cases h; done)
  · cases h; rfl
  · split at h <;> cases h
  · split at h <;> cases h
  · split at h <;> cases h
theorem tdOf_int {P : Program} {t : Nat} {d : TypeDesc} {k : IntKind} (h : tdOf P t d = .int k) : d = .int k := by
  unfold tdOf at h
  split at h <;> try (cases h; done)
  · cases h; rfl
  · split at h <;> cases h
  · split at h <;> cases h
  · split at h <;> cases h
theorem tdOf_string {P : Program} {t : Nat} {d : TypeDesc} (h : tdOf P t d = .string) : d = .string := by
  unfold tdOf at h
  split at h <;> try (cases h; done)
  · rfl
  · split at h <;> cases h
  · split at h <;> cases h
  · split at h <;> cases h
theorem tdOf_uptr {P : Program} {t : Nat} {d : TypeDesc} (h : tdOf P t d = .uptr) : d = .unsafePointer := by
  unfold tdOf at h
  split at h <;> try (cases h; done)
  · rfl
  · split at h <;> cases h
  · split at h <;> cases h
  · split at h <;> cases h
theorem tdOf_bool {P : Program} {t : Nat} {d : TypeDesc} (h : tdOf P t d = .bool) : d = .bool := by
  unfold tdOf at h
  split at h <;> try (cases h; done)
  · rfl
  · split at h <;> cases h
  · split at h <;> cases h
  · split at h <;> cases h
theorem tdOf_func {P : Program} {t : Nat} {d : TypeDesc} (h : tdOf P t d = .func) : ∃ a b c, d = .func a b c := by
  unfold tdOf at h
  split at h <;> try (cases h; done)
  · split at h <;> cases h
  · split at h <;> cases h
  · split at h <;> cases h
  · exact ⟨_, _, _, rfl⟩
theorem tdOf_iface {P : Program} {t : Nat} {d : TypeDesc} (h : tdOf P t d = .iface) : ∃ a, d = .interface a := by
  unfold tdOf at h
  split at h <;> try (cases h; done)
  · split at h <;> cases h
  · split at h <;> cases h
  · split at h <;> cases h
  · exact ⟨_, rfl⟩
theorem tdOf_interface {P : Program} {t : Nat} {a : Array (String × TypeId)} : tdOf P t (.interface a) = .iface := rfl

/-- A field, as the evaluator has it. -/
structure FdAt (P : Program) (f : Field) (fd : FD) where
  i : TypeInfo
  d : TypeDesc
  hi : P.info? f.type = some i
  hd : P.underlying f.type = some d
  eq : fd = ⟨f.offset, i.size, aggD d, f.type⟩
theorem fdsOf_F2 {P : Program} : ∀ {l : List Field} {fs : List FD}, fdsOf P l = some fs → F2 (fun f fd => Nonempty (FdAt P f fd)) l fs := by
  intro l
  induction l with
  | nil => intro fs h; simp only [fdsOf, Option.some.injEq] at h; subst h; exact .nil
  | cons f l ih =>
    intro fs h
    unfold fdsOf at h
    split at h
    · rename_i i d hi hd
      obtain ⟨r, hr, he⟩ := ob_some h
      simp only [Option.some.injEq] at he
      subst he
      exact .cons ⟨⟨i, d, hi, hd, rfl⟩⟩ (ih hr)
    · cases h

theorem add_eq (b o n : Nat) : (⟨b, o, none⟩ : Addr).add n = ⟨b, o + n, none⟩ := by
  unfold Addr.add
  by_cases h : n = 0
  · subst h; rfl
  · rw [if_neg h]

section
variable {P : Program} {r : Rho}

theorem fieldAddr_sound {t : Nat} {ti : TI} (ht : TiAt P t ti) {v u : V} {x : Value} (hv : VR r v x) {i : Nat} (h : fieldAddrV ti v i = some u) (w : World) :
    ∃ y, (Instr.fieldAt t x i).run P w = .ok y w ∧ VR r u y := by
  unfold fieldAddrV at h
  split at h
  · rename_i fs c b o htd
    obtain ⟨fd, hf, h2⟩ := ob_some h
    rw [ht.td] at htd
    obtain ⟨F, hd, hfs, _⟩ := tdOf_struct htd
    rw [nth_eq] at hf
    obtain ⟨f, hf1, ⟨fa⟩⟩ := (fdsOf_F2 hfs).get' i fd hf
    have hfi : F[i]? = some f := by simpa using hf1
    rw [fa.eq] at h2
    simp only at h2
    cases hz : Nat.beq fa.i.size 0 with
    | true => rw [hz] at h2; cases h2
    | false =>
      rw [hz] at h2
      simp only [cond_false, Option.some.injEq] at h2
      subst h2
      obtain ⟨q, hq, rfl⟩ := hv
      have hne : fa.i.size ≠ 0 := Nat.ne_of_beq_eq_false hz
      refine ⟨.pointer (some ⟨q.blk, q.sh + o + f.offset, none⟩), ?_, q, hq, by rw [Nat.add_assoc]⟩
      have hu : (underlying t).run P w = .ok (.struct F) w := by rw [run_underlying' ht.hd, hd]
      simp [Instr.fieldAt, hu, hfi, Instr.sureAddr, fieldPlace, run_sizeOf fa.hi, hne, add_eq]
  · cases h
theorem field_sound {t : Nat} {ti : TI} (ht : TiAt P t ti) {v u : V} {x : Value} (hv : VR r v x) {i : Nat} (h : fieldV ti v i = some u) (w : World) :
    ∃ y, (Instr.field t x i).run P w = .ok y w ∧ VR r u y := by
  unfold fieldV at h
  split at h
  · rename_i fs c cs htd
    obtain ⟨fd, hf, h2⟩ := ob_some h
    rw [ht.td] at htd
    obtain ⟨F, hd, hfs, _⟩ := tdOf_struct htd
    rw [nth_eq] at hf
    obtain ⟨f, hf1, ⟨fa⟩⟩ := (fdsOf_F2 hfs).get' i fd hf
    have hfi : F[i]? = some f := by simpa using hf1
    rw [fa.eq] at h2
    obtain ⟨a, rfl, ha⟩ := hv
    obtain ⟨y, hy, hyv⟩ := part_sound fa.hi fa.hd ha h2 w
    have hu : (underlying t).run P w = .ok (.struct F) w := by rw [run_underlying' ht.hd, hd]
    exact ⟨y, by simp [Instr.field, hu, hfi, asAgg, hy], hyv⟩
  · cases h
theorem natOf_some {v : V} {n : Nat} (h : natOf v = some n) : ∃ k, v = .int k (.ofNat n) := by
  unfold natOf at h
  split at h
  · rename_i k m; cases h; exact ⟨k, rfl⟩
  · cases h
theorem indexAddr_sound {t : Nat} {ti : TI} (ht : TiAt P t ti) {v j u : V} {x y : Value} (hv : VR r v x) (hj : VR r j y) (h : indexAddrV ti v j = some u) (w : World) :
    ∃ z, (Instr.indexAt t x y).run P w = .ok z w ∧ VR r u z := by
  obtain ⟨i, hi, h2⟩ := ob_some h
  obtain ⟨k, rfl⟩ := natOf_some hi
  obtain rfl : y = _ := hj
  split at h2
  · rename_i n e es g b o htd
    rw [ht.td] at htd
    obtain ⟨hd, ii, uu, hii, huu, rfl, _⟩ := tdOf_array htd
    obtain ⟨hlt, he⟩ := bif_some h2
    have hlt : i < n := Nat.le_of_ble_eq_true hlt
    cases he
    obtain ⟨q, hq, rfl⟩ := hv
    have hu : (underlying t).run P w = .ok (.array n e) w := by rw [run_underlying' ht.hd, hd]
    refine ⟨.pointer (some ⟨q.blk, q.sh + o + i * ii.size, none⟩), ?_, q, hq, by rw [Nat.add_assoc]⟩
    have h1 : ((0 : Int) ≤ Int.ofNat i ∧ Int.ofNat i < (n : Int)) := ⟨by rw [Int.ofNat_eq_natCast]; omega, by rw [Int.ofNat_eq_natCast]; omega⟩
    simp [Instr.indexAt, asIntOf, hu, Instr.sureAddr, run_sizeOf hii, add_eq, hlt]
  · rename_i e es eb b o n c htd
    rw [ht.td] at htd
    obtain ⟨hd, ii, hii, rfl, _⟩ := tdOf_slice htd
    obtain ⟨hlt, he⟩ := bif_some h2
    have hlt : i < n := Nat.le_of_ble_eq_true hlt
    cases he
    have hu : (underlying t).run P w = .ok (.slice e) w := by rw [run_underlying' ht.hd, hd]
    obtain ⟨q, c', hq, rfl⟩ : ∃ q c', r.bl b = some q ∧ x = .slice (some ⟨q.blk, q.sh + o, none⟩) n c' := by
      cases c with
      | kn c =>
        obtain ⟨q, hq, he | ⟨h0, _⟩⟩ := hv
        · exact ⟨q, c, hq, he⟩
        · omega
      | un es lo =>
        obtain ⟨q, hq, ⟨c', he, _⟩ | ⟨h0, _⟩⟩ := hv
        · exact ⟨q, c', hq, he⟩
        · omega
    refine ⟨.pointer (some ⟨q.blk, q.sh + o + i * ii.size, none⟩), ?_, q, hq, by rw [Nat.add_assoc]⟩
    simp [Instr.indexAt, asIntOf, hu, run_sizeOf hii, add_eq, hlt]
  · cases h2
theorem bytesOf_get {t : ByteArray} {i c : Nat} (h : (bytesOf t)[i]? = some c) : ∃ b, t[i]? = some b ∧ b.toNat = c := by
  unfold bytesOf at h
  simp only [List.getElem?_map, Option.map_eq_some_iff] at h
  obtain ⟨b, hb, rfl⟩ := h
  refine ⟨b, ?_, rfl⟩
  have : t.data[i]? = some b := by simpa using hb
  rw [getElem?_def]
  obtain ⟨hlt, he⟩ := Array.getElem?_eq_some_iff.1 this
  have hs : i < t.size := hlt
  rw [dif_pos hs]
  exact congrArg some he
theorem bytesOf_length (t : ByteArray) : (bytesOf t).length = t.size := by
  unfold bytesOf; simp
theorem index_sound {t : Nat} {ti : TI} (ht : TiAt P t ti) {v j u : V} {x y : Value} (hv : VR r v x) (hj : VR r j y) (h : indexV ti v j = some u) (w : World) :
    ∃ z, (Instr.index t x y).run P w = .ok z w ∧ VR r u z := by
  obtain ⟨i, hi, h2⟩ := ob_some h
  obtain ⟨k, rfl⟩ := natOf_some hi
  obtain rfl : y = _ := hj
  split at h2
  · rename_i n e es g cs htd
    rw [ht.td] at htd
    obtain ⟨hd, ii, uu, hii, huu, rfl, rfl⟩ := tdOf_array htd
    obtain ⟨hlt, he⟩ := bif_some h2
    have hlt : i < n := Nat.le_of_ble_eq_true hlt
    obtain ⟨a, rfl, ha⟩ := hv
    obtain ⟨z, hz, hzv⟩ := part_sound hii huu ha he w
    have hu : (underlying t).run P w = .ok (.array n e) w := by rw [run_underlying' ht.hd, hd]
    exact ⟨z, by simp [Instr.index, asIntOf, hu, hlt, run_sizeOf hii, hz], hzv⟩
  · rename_i s htd
    rw [ht.td] at htd
    have hd := tdOf_string htd
    obtain ⟨c, hc, he⟩ := ob_some h2
    cases he
    obtain ⟨s', rfl, rfl⟩ := hv
    rw [nth_eq] at hc
    obtain ⟨b, hb, rfl⟩ := bytesOf_get hc
    have hu : (underlying t).run P w = .ok .string w := by rw [run_underlying' ht.hd, hd]
    exact ⟨_, by simp [Instr.index, asIntOf, hu, hb], rfl⟩
  · cases h2
end
end Go.Ev
namespace Go.Ev

theorem set_foldl : ∀ (l : List Value) (k off : Nat) (cells : Array Value), off + k + l.length ≤ cells.size →
    ((l.zipIdx k).foldl (fun cs (p : Value × Nat) => cs.setIfInBounds (off + p.2) p.1) cells).toList = cells.toList.take (off + k) ++ l ++ cells.toList.drop (off + k + l.length) := by
  intro l
  induction l with
  | nil => intro k off cells h; simp
  | cons v l ih =>
    intro k off cells h
    simp only [List.length_cons] at h
    simp only [List.zipIdx_cons, List.foldl_cons]
    rw [ih (k + 1) off _ (by simp; omega)]
    simp only [Array.toList_setIfInBounds, List.length_cons]
    have hlt : off + k < cells.toList.length := by simp; omega
    rw [show off + (k + 1) = off + k + 1 from by omega]
    rw [List.take_succ_eq_append_getElem (by simpa using hlt), List.take_set_of_le (by omega)]
    rw [List.getElem_set_self, List.drop_set_of_lt (by omega)]
    rw [show off + k + 1 + l.length = off + k + (l.length + 1) from by omega]
    simp only [List.append_assoc, List.cons_append, List.nil_append]
theorem fill_sound {r : Rho} {pa : Nat → Option (Nat × Nat)} {pb : Nat → Option (Nat × Nat)} (hp : ∀ i p, pa i = some p → pb i = some p) :
    ∀ {ps : List (Nat × V)} {qs : List (Nat × Value)}, F2 (fun p q => p.1 = q.1 ∧ VR r p.2 q.2) ps qs → ∀ {cs cs' : List V} {a : Array Value}, VRs r cs a.toList → fill pa cs ps = some cs' →
      ∃ a', Instr.fill pb a qs = some a' ∧ VRs r cs' a'.toList := by
  intro ps qs hF
  induction hF with
  | nil => intro cs cs' a ha h; simp only [fill, Option.some.injEq] at h; subst h; exact ⟨a, rfl, ha⟩
  | cons hr _ ih =>
    rename_i p q ps qs _
    intro cs cs' a ha h
    obtain ⟨i, v⟩ := p
    obtain ⟨j, x⟩ := q
    obtain ⟨rfl, hv⟩ := hr
    obtain ⟨⟨off, size⟩, hpi, h2⟩ := ob_some h
    obtain ⟨hl, h3⟩ := bif_some h2
    obtain ⟨cs2, hsp, h4⟩ := ob_some h3
    have hl : len v.cells = size := Nat.eq_of_beq_eq_true hl
    rw [len_eq] at hl
    have hc : VRs r v.cells x.cells.toList := VR.cells hv
    have hcl := hc.length
    have hal := ha.length
    obtain ⟨hle, rfl⟩ := splice_some _ _ _ _ hsp
    simp only at hle hl
    have hxs : x.cells.size = size := by have : x.cells.toList.length = x.cells.size := by simp
                                         omega
    have has : a.size = cs.length := by have : a.toList.length = a.size := by simp
                                        omega
    simp only [Instr.fill, hp i _ hpi]
    rw [if_neg (by simp; omega)]
    refine ih ?_ h4
    rw [← Array.foldl_toList, Array.toList_zipIdx]
    have := set_foldl x.cells.toList 0 off a (by simp; omega)
    have hfun : (fun (cs : Array Value) (p : Value × Nat) => cs.setIfInBounds (off + p.2) p.1) = (fun cs (c, j) => cs.setIfInBounds (off + j) c) := by funext cs p; rfl
    rw [← hfun, this]
    refine VRs.forall₂.2 ?_
    have hA := VRs.forall₂.1 ha
    have hC := VRs.forall₂.1 hc
    have e1 : x.cells.toList.length = v.cells.length := hcl
    rw [Nat.add_zero, e1]
    exact ((hA.take off).append hC).append (hA.drop (off + v.cells.length))
theorem parts_sound {r : Rho} {n : Nat} {tm : T V} {a : Act} (ht : TR r n tm a.tmps) : ∀ {l : List (Nat × Operand)} {ps : List (Nat × V)}, parts tm l = some ps →
    F2 (fun p q => p.1 = q.1 ∧ VR r p.2 q.2) ps (l.map fun (i, x) => (i, a.eval x)) := by
  intro l
  induction l with
  | nil => intro ps h; simp only [parts, Option.some.injEq] at h; subst h; exact .nil
  | cons p l ih =>
    intro ps h
    obtain ⟨i, x⟩ := p
    obtain ⟨v, hv, h2⟩ := ob_some h
    obtain ⟨q, hq, he⟩ := ob_some h2
    simp only [Option.some.injEq] at he
    subst he
    exact .cons ⟨rfl, evo_sound ht hv⟩ (ih hq)
section
variable {P : Program} {r : Rho}
theorem fdsOf_places {P : Program} : ∀ {l : List Field} {fs : List FD}, fdsOf P l = some fs →
    l.mapM (fun f => (P.info? f.type).map fun i => (f.offset, i.size)) = some (fs.map fun f => (f.off, f.size)) := by
  intro l
  induction l with
  | nil => intro fs h; simp only [fdsOf, Option.some.injEq] at h; subst h; rfl
  | cons f l ih =>
    intro fs h
    unfold fdsOf at h
    split at h
    · rename_i i d hi hd
      obtain ⟨q, hq, he⟩ := ob_some h
      simp only [Option.some.injEq] at he
      subst he
      simp [List.mapM_cons, hi, ih hq]
    · cases h
theorem build_sound {t : Nat} {ti : TI} (ht : TiAt P t ti) {ps : List (Nat × V)} {qs : Array (Nat × Value)} (hF : F2 (fun p q => p.1 = q.1 ∧ VR r p.2 q.2) ps qs.toList) {v : V} (h : buildV ti ps = some v) (w : World) :
    ∃ x, (Instr.build t qs).run P w = .ok x w ∧ VR r v x := by
  have hz : VRs r ti.zero.cells ht.z.cells.toList := (absVal_rel r ht.zero).cells
  unfold buildV at h
  split at h
  · rename_i fs c htd
    rw [ht.td] at htd
    obtain ⟨F, hd, hfs, _⟩ := tdOf_struct htd
    obtain ⟨cs, hcs, he⟩ := ob_some h
    simp only [Option.some.injEq] at he
    subst he
    have hpl := fdsOf_places hfs
    obtain ⟨a', ha', hv⟩ := fill_sound (pb := ((fs.map fun f => (f.off, f.size)).toArray[·]?)) (fun i p hp => by
      obtain ⟨fd, hfd, he⟩ := ob_some hp
      rw [nth_eq] at hfd
      simp only [Option.some.injEq] at he
      subst he
      simp [hfd]) hF hz hcs
    refine ⟨.agg a', run_build w t qs a' ?_, a', rfl, hv⟩
    simp only [Program.built, ht.hi, ht.hd, hd, ht.hz, hpl]
    exact ha'
  · rename_i n e es g htd
    rw [ht.td] at htd
    obtain ⟨hd, ii, uu, hii, huu, rfl, _⟩ := tdOf_array htd
    obtain ⟨cs, hcs, he⟩ := ob_some h
    simp only [Option.some.injEq] at he
    subst he
    obtain ⟨a', ha', hv⟩ := fill_sound (pb := fun i => some (i * ii.size, ii.size)) (fun i p hp => hp) hF hz hcs
    refine ⟨.agg a', run_build w t qs a' ?_, a', rfl, hv⟩
    simp only [Program.built, ht.hi, ht.hd, hd, ht.hz, hii]
    exact ha'
  · cases h
end
end Go.Ev
namespace Go.Ev

section
variable {P : Program} {r : Rho} {w : World}
theorem bound_run {k : IntKind} {i y : Nat} {code : BoundsCode} (h : i ≤ y) : (Instr.sliceBound (.int k (Int.ofNat i)) y code).run P w = .ok i w := by
  have h1 : ((0 : Int) ≤ Int.ofNat i ∧ Int.ofNat i ≤ (y : Int)) := by rw [Int.ofNat_eq_natCast]; omega
  simp [Instr.sliceBound, asIntOf, h]
theorem bound_run' {k : IntKind} {i y : Nat} {code : BoundsCode} (h : i ≤ y) : (Instr.sliceBound (.int k (i : Int)) y code).run P w = .ok i w := bound_run h
/-- One bound of a slice expression: left out, or a number. -/
def BR (x : Option Value) (dflt n : Nat) : Prop := (x = none ∧ n = dflt) ∨ ∃ k, x = some (.int k (Int.ofNat n))
theorem bound_BR {n : Nat} {tm : T V} {a : Act} (ht : TR r n tm a.tmps) {x : Option Operand} {d m : Nat} (h : bound tm x d = some m) : BR (x.map a.eval) d m := by
  cases x with
  | none => simp only [bound, Option.some.injEq] at h; exact .inl ⟨rfl, h.symm⟩
  | some o =>
    obtain ⟨v, hv, h2⟩ := ob_some h
    obtain ⟨k, rfl⟩ := natOf_some h2
    have := evo_sound ht hv
    exact .inr ⟨k, congrArg some this⟩
theorem bounds1 {s : Bool} {len cap l h : Nat} {lo hi : Option Value} (hl : BR lo 0 l) (hh : BR hi len h) (h1 : h ≤ cap) (h2 : l ≤ h) :
    (Instr.sliceBounds s len cap lo hi none).run P w = .ok (l, h, cap) w := by
  rcases hl with ⟨rfl, rfl⟩ | ⟨k, rfl⟩ <;> rcases hh with ⟨rfl, rfl⟩ | ⟨j, rfl⟩ <;> simp [Instr.sliceBounds, bound_run' h1, bound_run' h2]
theorem bounds2 {s : Bool} {len cap l h m : Nat} {lo : Option Value} {hk mk : IntKind} (hl : BR lo 0 l) (h0 : m ≤ cap) (h1 : h ≤ m) (h2 : l ≤ h) :
    (Instr.sliceBounds s len cap lo (some (.int hk (Int.ofNat h))) (some (.int mk (Int.ofNat m)))).run P w = .ok (l, h, m) w := by
  rcases hl with ⟨rfl, rfl⟩ | ⟨k, rfl⟩ <;> simp [Instr.sliceBounds, bound_run' h0, bound_run' h1, bound_run' h2]
theorem cut3_VR {b o es m h l : Nat} {q : RB} (hq : r.bl b = some q) :
    VR r (cut3 b o es m h l) (.slice (if m = l then some ⟨q.blk, q.sh + o, none⟩ else (some (⟨q.blk, q.sh + o, none⟩ : Addr)).map (·.add (l * es))) (h - l) (m - l)) := by
  unfold cut3
  by_cases e : m = l
  · subst e
    rw [if_pos rfl, show Nat.beq m m = true from Nat.beq_refl m]
    exact ⟨q, hq, .inl rfl⟩
  · rw [if_neg e, show Nat.beq m l = false from by cases hb : Nat.beq m l; rfl; exact absurd (Nat.eq_of_beq_eq_true hb) e]
    exact ⟨q, hq, .inl (by simp [add_eq, Nat.add_assoc])⟩
theorem bytesOf_extract (s : ByteArray) (l h : Nat) : bytesOf (s.extract l h) = ((bytesOf s).drop l).take (h - l) := by
  unfold bytesOf
  simp only [ByteArray.data_extract, Array.toList_extract, List.extract_eq_take_drop, List.map_take, List.map_drop]
theorem zero3 {b o es m h' l : Nat} {q : RB} (hq : r.bl b = some q) {t e : Nat} (hu : (underlying t).run P w = .ok (.slice e) w) {ii : TypeInfo} (hii : P.info? e = some ii) {lo : Option Value} (hlo : BR lo 0 l) (h9 : m ≤ 0) (h5 : h' ≤ m) (h7 : l ≤ h') {hk mk : IntKind} {a' : Addr} :
    ∃ y, (Instr.slice t (.slice (some a') 0 0) lo (some (.int hk (Int.ofNat h'))) (some (.int mk (Int.ofNat m)))).run P w = .ok y w ∧ VR r (cut3 b o es m h' l) y := by
  obtain rfl : m = 0 := by omega
  obtain rfl : h' = 0 := by omega
  obtain rfl : l = 0 := by omega
  refine ⟨.slice (some a') 0 0, ?_, q, hq, .inr ⟨rfl, rfl, a', rfl⟩⟩
  have := bounds2 (P := P) (w := w) (s := true) (len := 0) (cap := 0) (hk := hk) (mk := mk) hlo (Nat.le_refl 0) (Nat.le_refl 0) (Nat.le_refl 0)
  simp only [Instr.slice, Sem.run_bind, hu, Result.andThen_ok, this, run_sizeOf hii, Sem.run_pure, if_true]
theorem slice_sound {n : Nat} {tm : T V} {a : Act} (hT : TR r n tm a.tmps) {t : Nat} {ti : TI} (ht : TiAt P t ti) {v u : V} {x : Value} (hv : VR r v x) {lo hi mx : Option Operand} (h : sliceV ti v lo hi mx tm = some u) :
    ∃ y, (Instr.sliceAt t x (lo.map a.eval) (hi.map a.eval) (mx.map a.eval)).run P w = .ok y w ∧ VR r u y := by
  obtain ⟨l, hl, h2⟩ := ob_some h
  have hlo := bound_BR hT hl
  have plain : ∀ {d : TypeDesc}, P.underlying t = some d → (∀ m e, d ≠ .array m e) → (Instr.sliceAt t x (lo.map a.eval) (hi.map a.eval) (mx.map a.eval)).run P w = (Instr.slice t x (lo.map a.eval) (hi.map a.eval) (mx.map a.eval)).run P w := by
    intro d hd hn
    unfold Instr.sliceAt
    simp only [Sem.run_bind, run_underlying' hd, Result.andThen_ok]
  cases mx with
  | none =>
    simp only at h2
    split at h2
    · rename_i s htd
      rw [ht.td] at htd
      have hd := tdOf_string htd
      obtain ⟨m, hm, h3⟩ := ob_some h2
      obtain ⟨h4, h5⟩ := bif_some h3
      obtain ⟨h6, h7⟩ := bif_some h5
      obtain ⟨q, hq, he⟩ := ob_some h7
      have h4 := Nat.le_of_ble_eq_true h4
      have h6 := Nat.le_of_ble_eq_true h6
      cases he
      obtain ⟨s', rfl, rfl⟩ := hv
      obtain ⟨_, rfl⟩ := subO_some hq
      rw [len_eq, bytesOf_length] at h4 hm
      have hhi := bound_BR hT hm
      rw [plain (by rw [ht.hd, hd]) (by simp)]
      have hu : (underlying t).run P w = .ok .string w := by rw [run_underlying' ht.hd, hd]
      refine ⟨.string (s'.extract l m), ?_, s'.extract l m, rfl, bytesOf_extract s' l m⟩
      simp only [Instr.slice, Sem.run_bind, hu, Result.andThen_ok, Option.map_none, Option.isSome_none, Bool.false_eq_true, if_false, bounds1 hlo hhi h4 h6, Sem.run_pure]
    · rename_i e es eb htd
      rw [ht.td] at htd
      obtain ⟨hd, ii, hii, rfl, _⟩ := tdOf_slice htd
      obtain ⟨m, hm, h3⟩ := ob_some h2
      obtain ⟨h4, h5⟩ := bif_some h3
      obtain ⟨h6, h7⟩ := bif_some h5
      have h4 : m = 0 := Nat.eq_of_beq_eq_true h4
      have h6 : l = 0 := Nat.eq_of_beq_eq_true h6
      cases h7
      subst h4 h6
      have hhi := bound_BR hT hm
      obtain rfl : x = _ := hv
      rw [plain (by rw [ht.hd, hd]) (by simp)]
      have hu : (underlying t).run P w = .ok (.slice e) w := by rw [run_underlying' ht.hd, hd]
      refine ⟨.slice none 0 0, ?_, rfl⟩
      simp [Instr.slice, hu, bounds1 (s := true) (cap := 0) hlo hhi (Nat.le_refl 0) (Nat.le_refl 0), run_sizeOf hii]
    · rename_i e es eb b o n' c htd
      rw [ht.td] at htd
      obtain ⟨hd, ii, hii, rfl, _⟩ := tdOf_slice htd
      obtain ⟨m, hm, h3⟩ := ob_some h2
      obtain ⟨h4, h5⟩ := bif_some h3
      obtain ⟨h6, h7⟩ := bif_some h5
      have h4 := Nat.le_of_ble_eq_true h4
      have h6 := Nat.le_of_ble_eq_true h6
      cases h7
      have hhi := bound_BR hT hm
      rw [plain (by rw [ht.hd, hd]) (by simp)]
      have hu : (underlying t).run P w = .ok (.slice e) w := by rw [run_underlying' ht.hd, hd]
      obtain ⟨q, hq, rfl | ⟨rfl, rfl, a', rfl⟩⟩ := hv
      · refine ⟨_, ?_, cut3_VR hq⟩
        simp only [Instr.slice, Sem.run_bind, hu, Result.andThen_ok, Option.map_none, bounds1 (s := true) hlo hhi h4 h6, run_sizeOf hii, Sem.run_pure]
      · obtain rfl : m = 0 := by omega
        obtain rfl : l = 0 := by omega
        refine ⟨.slice (some a') 0 0, by simp [Instr.slice, hu, bounds1 (s := true) (cap := 0) hlo hhi (Nat.le_refl 0) (Nat.le_refl 0), run_sizeOf hii], ?_⟩
        unfold cut3
        exact ⟨q, hq, .inr ⟨rfl, rfl, a', rfl⟩⟩
    · rename_i e es eb b o n' e2 lw htd
      rw [ht.td] at htd
      obtain ⟨hd, ii, hii, rfl, _⟩ := tdOf_slice htd
      obtain ⟨he2, h2⟩ := bif_some h2
      have he2 := Nat.eq_of_beq_eq_true he2
      subst he2
      obtain ⟨m, hm, h3⟩ := ob_some h2
      obtain ⟨h4, h5⟩ := bif_some h3
      obtain ⟨h6, h7⟩ := bif_some h5
      have h4 := Nat.le_of_ble_eq_true h4
      have h6 := Nat.le_of_ble_eq_true h6
      cases h7
      have hhi := bound_BR hT hm
      rw [plain (by rw [ht.hd, hd]) (by simp)]
      have hu : (underlying t).run P w = .ok (.slice e) w := by rw [run_underlying' ht.hd, hd]
      obtain ⟨q, hq, ⟨c, rfl, hc1, hc2, hc3, hc4⟩ | ⟨rfl, rfl, a', rfl⟩⟩ := hv
      · refine ⟨.slice (if c = l then some ⟨q.blk, q.sh + o, none⟩ else (some (⟨q.blk, q.sh + o, none⟩ : Addr)).map (·.add (l * ii.size))) (m - l) (c - l), by simp only [Instr.slice, Sem.run_bind, hu, Result.andThen_ok, Option.map_none, bounds1 (s := true) hlo hhi (Nat.le_trans h4 hc2) h6, run_sizeOf hii, Sem.run_pure], q, hq, ?_⟩
        by_cases e : c = l
        · subst e
          have : m = c := by omega
          subst this
          right
          refine ⟨by omega, by omega, ⟨q.blk, q.sh + o, none⟩, ?_⟩
          simp
        · left
          refine ⟨c - l, ?_, by omega, by omega, ?_, by rw [← Nat.add_assoc, Nat.add_mul_mod_self_right]; exact hc4⟩
          · rw [if_neg e]; simp [add_eq, Nat.add_assoc]
          · rw [← hc3]
            have : l * ii.size + (c - l) * ii.size = c * ii.size := by rw [← Nat.add_mul]; congr 1; omega
            omega
      · have hm0 : m = 0 := by omega
        have hl0 : l = 0 := by omega
        subst hm0 hl0
        refine ⟨.slice (some a') 0 0, by simp [Instr.slice, hu, bounds1 (s := true) (cap := 0) hlo hhi (Nat.le_refl 0) (Nat.le_refl 0), run_sizeOf hii], q, hq, .inr ⟨rfl, rfl, a', rfl⟩⟩
    · rename_i n' e es g b o htd
      rw [ht.td] at htd
      obtain ⟨hd, ii, uu, hii, huu, rfl, _⟩ := tdOf_array htd
      obtain ⟨m, hm, h3⟩ := ob_some h2
      obtain ⟨h4, h5⟩ := bif_some h3
      obtain ⟨h6, h7⟩ := bif_some h5
      have h4 := Nat.le_of_ble_eq_true h4
      have h6 := Nat.le_of_ble_eq_true h6
      cases h7
      have hhi := bound_BR hT hm
      obtain ⟨q, hq, rfl⟩ := hv
      have hu : (underlying t).run P w = .ok (.array n' e) w := by rw [run_underlying' ht.hd, hd]
      refine ⟨_, ?_, cut3_VR hq⟩
      simp only [Instr.sliceAt, Sem.run_bind, hu, Result.andThen_ok, Instr.sureAddr, Sem.run_pure, Option.map_none, bounds1 (s := false) hlo hhi h4 h6, run_sizeOf hii, Option.map_some]
      by_cases e : n' = l
      · simp [e]
      · simp [e]
    · cases h2
  | some mo =>
    simp only at h2
    cases hi with
    | none => cases h2
    | some ho =>
      obtain ⟨m, hm, h3⟩ := ob_some h2
      obtain ⟨h', hh, h4⟩ := ob_some h3
      obtain ⟨mv, hmv, hm⟩ := ob_some hm
      obtain ⟨hv', hhv, hh⟩ := ob_some hh
      obtain ⟨mk, rfl⟩ := natOf_some hm
      obtain ⟨hk, rfl⟩ := natOf_some hh
      have em : a.eval mo = .int mk (Int.ofNat m) := evo_sound hT hmv
      have eh : a.eval ho = .int hk (Int.ofNat h') := evo_sound hT hhv
      obtain ⟨h5, h6⟩ := bif_some h4
      obtain ⟨h7, h8⟩ := bif_some h6
      have h5 := Nat.le_of_ble_eq_true h5
      have h7 := Nat.le_of_ble_eq_true h7
      simp only [Option.map_some, em, eh] at plain ⊢
      split at h8
      · rename_i e es eb htd
        rw [ht.td] at htd
        obtain ⟨hd, ii, hii, rfl, _⟩ := tdOf_slice htd
        obtain ⟨h9, h10⟩ := bif_some h8
        have h9 : m = 0 := Nat.eq_of_beq_eq_true h9
        cases h10
        subst h9
        obtain rfl : h' = 0 := by omega
        obtain rfl : l = 0 := by omega
        obtain rfl : x = _ := hv
        rw [plain (by rw [ht.hd, hd]) (by simp)]
        have hu : (underlying t).run P w = .ok (.slice e) w := by rw [run_underlying' ht.hd, hd]
        refine ⟨.slice none 0 0, ?_, rfl⟩
        have := bounds2 (P := P) (w := w) (s := true) (len := 0) (cap := 0) (hk := hk) (mk := mk) hlo (Nat.le_refl 0) (Nat.le_refl 0) (Nat.le_refl 0)
        simp only [Instr.slice, Sem.run_bind, hu, Result.andThen_ok, this, run_sizeOf hii, Sem.run_pure]; rfl
      · rename_i e es eb b o n' c htd
        rw [ht.td] at htd
        obtain ⟨hd, ii, hii, rfl, _⟩ := tdOf_slice htd
        obtain ⟨h9, h10⟩ := bif_some h8
        have h9 := Nat.le_of_ble_eq_true h9
        cases h10
        rw [plain (by rw [ht.hd, hd]) (by simp)]
        have hu : (underlying t).run P w = .ok (.slice e) w := by rw [run_underlying' ht.hd, hd]
        obtain ⟨q, hq, rfl | ⟨rfl, rfl, a', rfl⟩⟩ := hv
        · refine ⟨_, ?_, cut3_VR hq⟩
          simp only [Instr.slice, Sem.run_bind, hu, Result.andThen_ok, bounds2 (s := true) hlo h9 h5 h7, run_sizeOf hii, Sem.run_pure]
        · exact zero3 hq hu hii hlo h9 h5 h7
      · rename_i e es eb b o n' e2 lw htd
        rw [ht.td] at htd
        obtain ⟨hd, ii, hii, rfl, _⟩ := tdOf_slice htd
        obtain ⟨h9, h10⟩ := bif_some h8
        have h9 := Nat.le_of_ble_eq_true h9
        cases h10
        rw [plain (by rw [ht.hd, hd]) (by simp)]
        have hu : (underlying t).run P w = .ok (.slice e) w := by rw [run_underlying' ht.hd, hd]
        obtain ⟨q, hq, ⟨c, rfl, hc1, hc2, hc3⟩ | ⟨rfl, rfl, a', rfl⟩⟩ := hv
        · refine ⟨_, ?_, cut3_VR hq⟩
          simp only [Instr.slice, Sem.run_bind, hu, Result.andThen_ok, bounds2 (s := true) hlo (Nat.le_trans h9 hc2) h5 h7, run_sizeOf hii, Sem.run_pure]
        · exact zero3 hq hu hii hlo h9 h5 h7
      · rename_i n' e es g b o htd
        rw [ht.td] at htd
        obtain ⟨hd, ii, uu, hii, huu, rfl, _⟩ := tdOf_array htd
        obtain ⟨h9, h10⟩ := bif_some h8
        have h9 := Nat.le_of_ble_eq_true h9
        cases h10
        obtain ⟨q, hq, rfl⟩ := hv
        have hu : (underlying t).run P w = .ok (.array n' e) w := by rw [run_underlying' ht.hd, hd]
        refine ⟨_, ?_, cut3_VR hq⟩
        simp only [Instr.sliceAt, Sem.run_bind, hu, Result.andThen_ok, Instr.sureAddr, Sem.run_pure, bounds2 (s := false) hlo h9 h5 h7, run_sizeOf hii, Option.map_some]
        by_cases e : m = l
        · simp [e]
        · simp [e]
      · cases h8
end
end Go.Ev
