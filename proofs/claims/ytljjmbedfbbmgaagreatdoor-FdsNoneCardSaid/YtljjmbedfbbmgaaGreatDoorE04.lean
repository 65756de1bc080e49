/- An evaluator of the model's programs over abstract states, and the proof that the machine does what it says (part 4). No statement about the program. -/
import Derived.Test.YtljjmbedfbbmgaaGreatDoorE03
import Derived.Lib.UnsafeStr
import Derived.Laws.BytesString
namespace Go.Ev

section
variable {P : Program} {E : Env} {r : Rho} {h : Hp} {w : World}

theorem strOfBytes_vals : ∀ {l : List V} {s : List Nat}, strOfBytes l = some s → ∀ {xs : List Value}, VRs r l xs → ∃ bs : List UInt8, bs.map UInt8.toNat = s ∧ xs = bs.map fun b => Value.int .u8 b.toNat := by
  intro l
  induction l with
  | nil => intro s h xs hx; cases h; cases hx; exact ⟨[], rfl, rfl⟩
  | cons v l ih =>
    intro s h xs hx
    unfold strOfBytes at h
    split at h
    · cases ‹_ = ([] : List V)›
    · rename_i c l' e
      cases e
      obtain ⟨hc, h2⟩ := bif_some h
      obtain ⟨s', hs, he⟩ := ob_some h2
      cases he
      obtain ⟨x, xs', rfl, h1, h3⟩ := hx
      obtain ⟨bs, rfl, rfl⟩ := ih hs h3
      have hc : c ≤ 255 := Nat.le_of_ble_eq_true hc
      obtain rfl : x = _ := h1
      have : (UInt8.ofNat c).toNat = c := by simp; omega
      exact ⟨UInt8.ofNat c :: bs, by simp [this], by simp [this]⟩
    · cases h
theorem foldl_bytes : ∀ (bs : List UInt8) (s : ByteArray), (bs.map fun b => (b.toNat : Int)).foldl (fun r n => r.push (UInt8.ofNat n.toNat)) s = ⟨s.data ++ bs.toArray⟩ := by
  intro bs
  induction bs with
  | nil => intro s; simp
  | cons b bs ih =>
    intro s
    simp only [List.map_cons, List.foldl_cons]
    rw [ih]
    simp [ByteArray.push]
theorem bytesToString_sound {q o n : Nat} {c : Array Value} {t : TypeId} {fr : Nat × Nat} (hw : w.heap[q]? = some (.cells c t fr)) (h : o + n ≤ c.size) {l : List V} {s : List Nat} (hl : VRs r l (c.extract o (o + n)).toList) (hs : strOfBytes l = some s) {k : Nat} :
    ∃ y, (Conv.bytesToString (.slice (some ⟨q, o, none⟩) n k)).run P w = .ok y w ∧ VR r (.str s) y := by
  obtain ⟨bs, rfl, he⟩ := strOfBytes_vals hs hl
  refine ⟨.string ⟨bs.toArray⟩, ?_, _, rfl, by simp [bytesOf]⟩
  have := run_bytesToString (P := P) w ⟨q, o, none⟩ n k (bs.map fun b => (b.toNat : Int)) (by
    rw [run_loadRow hw h]
    congr 1
    rw [← Array.toList_inj, he]
    simp)
  rw [this, foldl_bytes]
  simp

theorem isU8_und (hE : TisOk P E) {e : Nat} (h : isU8 E e = true) : P.underlying e = some (.int .u8) := by
  unfold isU8 at h
  split at h
  · rename_i ti ht
    obtain ⟨tA⟩ := hE.at ht
    split at h
    · rename_i hd
      rw [tA.td] at hd
      rw [tA.hd, tdOf_int hd]
    · cases h
  · cases h

theorem lies_one {e s off sz : Nat} (hs : P.cellsOf e = s) (h0 : s ≠ 0) (ha : off % s = 0) (hf : off + s ≤ sz) : liesAt P P.depth e (sz / P.cellsOf e) off e 1 = true := by
  have hd : P.depth = (2 * (P.types.size + Made.depth) + 1) + 1 := rfl
  rw [hd]
  simp only [liesAt, Bool.or_eq_true]
  left
  rw [hd]
  have h1 : off / s + 1 ≤ sz / s := by
    have : (off + s) / s ≤ sz / s := Nat.div_le_div_right hf
    rwa [Nat.add_div_right _ (Nat.pos_of_ne_zero h0)] at this
  simp [rowAt, hs, h0, ha, h1, sameLayout]
theorem cellsOf_eq {t : Nat} {i : TypeInfo} (h : P.info? t = some i) : P.cellsOf t = i.size := by simp [Program.cellsOf, h]

theorem seenAt_row {q o : Nat} {c : Array Value} {t : TypeId} {fr : Nat × Nat} (hw : w.heap[q]? = some (.cells c t fr)) : (Conv.seenAt ⟨q, o, none⟩).run P w = .ok ⟨q, o, none⟩ w := by
  simp [Conv.seenAt, viewAt, shape, Sem.run, World.shape?, hw]

theorem toUptr_sound (hE : TisOk P E) (hR : Rel P E r h w) {s d t : Nat} {si di ei : TI} (hs : TiAt P s si) (hd : TiAt P d di) (es : si.d = .pointer t) (ed : di.d = .uptr) (ht : E.ti t = some ei) {v u : V} {x : Value} (hv : VR r v x)
    (hl : toUptrV ei h v = some u) : ∃ y, (convert s d x).run P w = .ok y w ∧ VR r u y := by
  obtain ⟨eA⟩ := hE.at ht
  rw [hs.td] at es
  rw [hd.td] at ed
  have es := tdOf_pointer es
  have ed := tdOf_uptr ed
  unfold convert
  simp only [Sem.run_bind, run_underlying' hs.hd, run_underlying' hd.hd, Result.andThen_ok, es, ed]
  unfold toUptrV at hl
  split at hl
  · cases hl
    obtain rfl : x = _ := hv
    exact ⟨.pointer none, by simp [Conv.unsafePointer, run_underlying' hs.hd, run_underlying' hd.hd, es, ed], rfl⟩
  · rename_i b o
    cases hz : Nat.beq ei.size 0 with
    | true => rw [hz] at hl; cases hl
    | false =>
      rw [hz] at hl
      obtain ⟨cs, hcs, h2⟩ := ob_some (show ob (h.cells b) _ = some u from hl)
      obtain ⟨hlt, he⟩ := bif_some h2
      cases he
      have hlt : o < len cs := Nat.le_of_ble_eq_true hlt
      rw [len_eq] at hlt
      obtain ⟨el, fz, q, c, lo, hi, _, hq, hw, hc⟩ := hR.cells hcs
      obtain ⟨q', hq', rfl⟩ := hv
      rw [hq] at hq'
      cases hq'
      have hne : eA.i.size ≠ 0 := by have := Nat.ne_of_beq_eq_false hz; rwa [eA.size] at this
      have h1 := hc.win
      have h2 := hc.size
      refine ⟨.pointer (some ⟨q.blk, q.sh + o, none⟩), ?_, q, hq, rfl⟩
      have hcin : (cellsIn q.blk).run P w = .ok (some c.size) w := by simp [cellsIn, shape, Sem.run, World.shape?, hw]
      have hlt2 : ¬ (c.size ≤ q.sh + o) := by omega
      simp [Conv.unsafePointer, run_underlying' hs.hd, run_underlying' hd.hd, es, ed, seenAt_row hw, hcin, run_sizeOf eA.hi, hne, hlt2]
  · cases hl
theorem ofUptr_sound (hE : TisOk P E) (hR : Rel P E r h w) {s d t : Nat} {si di ei : TI} (hs : TiAt P s si) (hd : TiAt P d di) (es : si.d = .uptr) (ed : di.d = .pointer t) (ht : E.ti t = some ei) {v u : V} {x : Value} (hv : VR r v x)
    (hl : ofUptrV t ei h v = some u) : ∃ y, (convert s d x).run P w = .ok y w ∧ VR r u y := by
  obtain ⟨eA⟩ := hE.at ht
  rw [hs.td] at es
  rw [hd.td] at ed
  have es := tdOf_uptr es
  have ed := tdOf_pointer ed
  unfold convert
  simp only [Sem.run_bind, run_underlying' hs.hd, run_underlying' hd.hd, Result.andThen_ok, es, ed]
  unfold ofUptrV at hl
  split at hl
  · cases hl
    obtain rfl : x = _ := hv
    exact ⟨.pointer none, by simp [Conv.unsafePointer, run_underlying' hs.hd, run_underlying' hd.hd, es, ed], rfl⟩
  · rename_i b o
    split at hl
    · rename_i cs el fz hg
      cases hz : Nat.beq ei.size 0 with
      | true => rw [hz] at hl; cases hl
      | false =>
        rw [hz] at hl
        obtain ⟨h3, hl⟩ := bif_some (show (bif Nat.beq el t then _ else none) = some u from hl)
        obtain ⟨h4, hl⟩ := bif_some hl
        obtain ⟨h5, hl⟩ := bif_some hl
        cases hl
        have h3 := Nat.eq_of_beq_eq_true h3
        have h4 := Nat.eq_of_beq_eq_true h4
        have h5 := Nat.le_of_ble_eq_true h5
        subst h3 h4
        rw [len_eq] at h5
        obtain ⟨q, ob, hq, hw, c, lo, hi, rfl, hc⟩ := hR.os _ _ hg
        obtain ⟨q', hq', rfl⟩ := hv
        rw [hq] at hq'
        cases hq'
        have hne : eA.i.size ≠ 0 := by have := Nat.ne_of_beq_eq_false hz; rwa [eA.size] at this
        have h1 := hc.win
        have h2 := hc.size
        rw [eA.size] at h5
        refine ⟨.pointer (some ⟨q.blk, q.sh + 0, none⟩), ?_, q, hq, rfl⟩
        have hvar : (variablesAt ⟨q.blk, q.sh, none⟩ el 1).run P w = .ok true w := by
          have := lies_one (P := P) (e := el) (sz := c.size) (cellsOf_eq eA.hi) hne (hc.al _ eA.hi) (by omega)
          simp [variablesAt, program, shape, Sem.run, World.shape?, hw, this]
        simp [Conv.unsafePointer, run_underlying' hs.hd, run_underlying' hd.hd, es, ed, seenAt_row hw, run_sizeOf eA.hi, hne, hvar]
    · cases hl
  · cases hl
theorem toStr_sound (hE : TisOk P E) (hR : Rel P E r h w) {s d e es eb : Nat} {si di : TI} (hs : TiAt P s si) (hd : TiAt P d di) (es : si.d = .slice e es eb) (ed : di.d = .string) (he : isU8 E e = true) {v u : V} {x : Value} (hv : VR r v x)
    (hl : toStrV h v = some u) : ∃ y, (convert s d x).run P w = .ok y w ∧ VR r u y := by
  rw [hs.td] at es
  rw [hd.td] at ed
  have es := (tdOf_slice es).1
  have ed := tdOf_string ed
  unfold convert
  simp only [Sem.run_bind, run_underlying' hs.hd, run_underlying' hd.hd, Result.andThen_ok, es, ed]
  unfold toStrV at hl
  split at hl
  · cases hl
    obtain rfl : x = _ := hv
    exact ⟨.string .empty, by simp [run_underlying' (isU8_und hE he), Conv.bytesToString], _, rfl, rfl⟩
  · rename_i b o n cp
    obtain ⟨cs, hcs, h2⟩ := ob_some hl
    obtain ⟨l, hl2, h3⟩ := ob_some h2
    obtain ⟨s', hs', h4⟩ := ob_some h3
    cases h4
    obtain ⟨el, fz, q, c, lo, hi, _, hq, hw, hc⟩ := hR.cells hcs
    obtain ⟨h5, h6, h7⟩ := hc.sub hl2
    have hx : (∃ k, x = .slice (some ⟨q.blk, q.sh + o, none⟩) n k) ∨ (n = 0 ∧ ∃ a, x = .slice (some a) 0 0) := by
      cases cp with
      | kn k =>
        obtain ⟨q', hq', he | ⟨h1, h2, a, he⟩⟩ := hv
        · rw [hq] at hq'; cases hq'; exact .inl ⟨_, he⟩
        · exact .inr ⟨h1, a, he⟩
      | un e lo =>
        obtain ⟨q', hq', ⟨k, he, _⟩ | ⟨h1, h2, a, he⟩⟩ := hv
        · rw [hq] at hq'; cases hq'; exact .inl ⟨_, he⟩
        · exact .inr ⟨h1, a, he⟩
    rcases hx with ⟨k, rfl⟩ | ⟨rfl, a, rfl⟩
    · obtain ⟨y, hy, hyv⟩ := bytesToString_sound (P := P) hw h5 h6 hs' (k := k)
      exact ⟨y, by simp [run_underlying' (isU8_und hE he), hy], hyv⟩
    · obtain rfl : l = [] := List.eq_nil_of_length_eq_zero h7
      cases hs'
      refine ⟨.string .empty, ?_, _, rfl, rfl⟩
      simp [run_underlying' (isU8_und hE he), Conv.bytesToString, loadCells, loadCellsFrom]
  · cases hl

theorem tiOf_sound (hE : TisOk P E) {ts : Array Nat} {i : Nat} {ti : TI} (h : tiOf E ts.toList i = some ti) : ∃ t, ts[i]? = some t ∧ Nonempty (TiAt P t ti) := by
  obtain ⟨t, ht, h2⟩ := ob_some h
  rw [nth_eq] at ht
  exact ⟨t, by simpa using ht, hE.at h2⟩

theorem minmax_sound {mx : Bool} {x y z : V} (h : minmax mx x y = some z) {a b : Value} (ha : VR r x a) (hb : VR r y b) :
    ∃ c, (bif mx then Builtin.max2 a b else Builtin.min2 a b).run P w = .ok c w ∧ VR r z c := by
  unfold minmax at h
  split at h
  · obtain rfl : a = _ := ha
    obtain rfl : b = _ := hb
    cases h
    cases mx
    · refine ⟨_, by simp only [cond_false, Builtin.min2, Sem.run_pure]; rfl, ?_⟩
      simp only [cond_false, ltI_eq]
      show _ = _
      rename_i m _ n
      by_cases h : n < m <;> simp [h]
    · refine ⟨_, by simp only [cond_true, Builtin.max2, Sem.run_pure]; rfl, ?_⟩
      simp only [cond_true, ltI_eq]
      show _ = _
      rename_i m _ n
      by_cases h : m < n <;> simp [h]
  · cases h
theorem foldMM_sound {mx : Bool} : ∀ {l : List V} {x z : V}, foldMM mx x l = some z → ∀ {a : Value} {bs : List Value}, VR r x a → VRs r l bs →
    ∃ c, (bs.foldlM (if mx then Builtin.max2 else Builtin.min2) a).run P w = .ok c w ∧ VR r z c := by
  intro l
  induction l with
  | nil => intro x z h a bs ha hb; cases h; cases hb; exact ⟨a, rfl, ha⟩
  | cons y l ih =>
    intro x z h a bs ha hb
    obtain ⟨m, hm, h2⟩ := ob_some h
    obtain ⟨b, bs', rfl, hy, hl⟩ := hb
    obtain ⟨c, hc, hcv⟩ := minmax_sound (P := P) (w := w) hm ha hy
    obtain ⟨d, hd, hdv⟩ := ih h2 hcv hl
    refine ⟨d, ?_, hdv⟩
    simp only [List.foldlM_cons, Sem.run_bind]
    cases mx
    · simp only [cond_false] at hc
      simp only [Bool.false_eq_true, if_false] at hd ⊢
      rw [hc]; exact hd
    · simp only [cond_true] at hc
      simp only [if_true] at hd ⊢
      rw [hc]; exact hd

theorem two_of {r : Rho} {x : V} {args : Array Value} (h : VRs r [x] args.toList) : ∃ a, args = #[a] ∧ VR r x a := by
  obtain ⟨a, l, he, h1, h2⟩ := h
  cases h2
  exact ⟨a, by rw [← Array.toList_inj, he], h1⟩
theorem VR.slice_len {b o n : Nat} {c : Cap} {x : Value} (h : VR r (.slice b o n c) x) : ∃ a k, x = .slice (some a) n k ∧ (∀ m, c = .kn m → k = m) := by
  cases c with
  | kn m =>
    obtain ⟨q, _, he | ⟨h1, h2, a, he⟩⟩ := h
    · exact ⟨_, _, he, fun _ e => by cases e; rfl⟩
    · subst h1; exact ⟨_, _, he, fun _ e => by cases e; exact h2.symm⟩
  | un es lo =>
    obtain ⟨q, _, ⟨k, he, _⟩ | ⟨h1, h2, a, he⟩⟩ := h
    · exact ⟨_, _, he, fun _ e => by cases e⟩
    · subst h1; exact ⟨_, _, he, fun _ e => by cases e⟩

theorem builtinL_sound (hE : TisOk P E) (hR : Rel P E r h w) {b : Builtin} (hb : readB b = true) {ts : Array Nat} {args : List V} {u : V} {h' : Hp} (hl : builtinV E b ts.toList args h = some (u, h')) {xs : Array Value} (hx : VRs r args xs.toList) {ty : TypeId} {cs : Array Bool} :
    ∃ y, (builtin b ts ty cs xs).run P w = .ok (.value y) w ∧ VR r u y := by
  have fin : ∀ {s : Sem Value} {y : Value}, s.run P w = .ok y w → (do pure (Next.value (← s)) : Sem Next).run P w = .ok (.value y) w := by
    intro s y h; simp [h]
  have int0 : ∀ n : Nat, VR r (.int .i64 (.ofNat n)) (goInt (n : Int)) := fun n => rfl
  unfold builtinV at hl
  split at hl
  all_goals first | (cases hb; done) | skip
  · obtain ⟨ti, ht, h2⟩ := ob_some hl
    obtain ⟨t, hts, ⟨tA⟩⟩ := tiOf_sound hE ht
    obtain ⟨a, rfl, ha⟩ := two_of hx
    split at h2
    · rename_i e
      rw [tA.td] at e
      obtain ⟨s, rfl, rfl⟩ := ha
      cases h2
      refine ⟨_, fin (y := goInt s.size) ?_, ?_⟩
      · simp [Builtin.len_, hts, run_underlying' tA.hd, tdOf_string e]
      · rw [len_eq, bytesOf_length]; exact int0 _
    · rename_i e
      rw [tA.td] at e
      obtain rfl : a = _ := ha
      cases h2
      refine ⟨_, fin (y := goInt (0 : Nat)) ?_, int0 _⟩
      simp [Builtin.len_, hts, run_underlying' tA.hd, (tdOf_slice e).1]
    · rename_i n _ e
      rw [tA.td] at e
      obtain ⟨a', k, rfl, _⟩ := ha.slice_len
      cases h2
      refine ⟨_, fin (y := goInt n) ?_, int0 _⟩
      simp [Builtin.len_, hts, run_underlying' tA.hd, (tdOf_slice e).1]
    · rename_i e
      rw [tA.td] at e
      obtain rfl : a = _ := ha
      cases h2
      refine ⟨_, fin (y := goInt (0 : Nat)) ?_, int0 _⟩
      simp [Builtin.len_, hts, run_underlying' tA.hd, tdOf_map e]
    · rename_i e
      rw [tA.td] at e
      split at h2
      · rename_i es hes
        cases h2
        obtain ⟨q, ob, hq, hw, xs, clock, rfl, hm⟩ := hR.os _ _ hes
        obtain ⟨q', hq', rfl⟩ := ha
        rw [hq] at hq'
        cases hq'
        obtain ⟨l, hp, hl⟩ := hm.ents
        have hsz : len es = xs.size := by rw [len_eq, hl.length, hp.length_eq]; simp
        refine ⟨_, fin (y := goInt xs.size) ?_, by rw [hsz]; exact int0 _⟩
        simp [Builtin.len_, hts, run_underlying' tA.hd, tdOf_map e, getObj, Sem.run, hw]
      · cases h2
    · cases h2
  · obtain ⟨ti, ht, h2⟩ := ob_some hl
    obtain ⟨t, hts, ⟨tA⟩⟩ := tiOf_sound hE ht
    obtain ⟨a, rfl, ha⟩ := two_of hx
    split at h2
    · rename_i e
      rw [tA.td] at e
      obtain rfl : a = _ := ha
      cases h2
      refine ⟨_, fin (y := goInt (0 : Nat)) ?_, int0 _⟩
      simp [Builtin.cap_, hts, run_underlying' tA.hd, (tdOf_slice e).1]
    · rename_i c e
      rw [tA.td] at e
      obtain ⟨a', k, rfl, hk⟩ := ha.slice_len
      cases h2
      rw [hk _ rfl]
      refine ⟨_, fin (y := goInt c) ?_, int0 _⟩
      simp [Builtin.cap_, hts, run_underlying' tA.hd, (tdOf_slice e).1]
    · cases h2
  · obtain ⟨z, hz, h2⟩ := ob_some hl
    cases h2
    obtain ⟨a, l, he, h1, h3⟩ := hx
    obtain ⟨c, hc, hv⟩ := foldMM_sound (P := P) (w := w) hz h1 h3
    refine ⟨c, fin ?_, hv⟩
    simp only [Builtin.max_, he]
    exact hc
  · obtain ⟨z, hz, h2⟩ := ob_some hl
    cases h2
    obtain ⟨a, l, he, h1, h3⟩ := hx
    obtain ⟨c, hc, hv⟩ := foldMM_sound (P := P) (w := w) hz h1 h3
    refine ⟨c, fin ?_, hv⟩
    simp only [Builtin.min_, he]
    exact hc
  · cases hl

theorem execL_sound (hE : TisOk P E) (hR : Rel P E r h w) {n : Nat} {tm : T V} {a : Act} (hT : TR r n tm a.tmps) {o : Oper} {v : V} (hx : execL E tm o.op h = some v) : Ans P r (execOp a.eval o) v w := by
  obtain ⟨dst, op, type, pos, after, guard⟩ := o
  simp only at hx
  unfold execL at hx
  split at hx
  · obtain ⟨ti, ht, h2⟩ := ob_some hx
    obtain ⟨tA⟩ := hE.at ht
    obtain ⟨x, hx, h3⟩ := ob_some h2
    obtain ⟨z, hz, hv⟩ := load_sound hR tA (evo_sound hT hx) h3
    exact Ans.of hz hv
  · obtain ⟨ti, ht, h2⟩ := ob_some hx
    obtain ⟨tA⟩ := hE.at ht
    split at h2
    · rename_i kt e hd
      obtain ⟨ki, hk, h2⟩ := ob_some h2
      obtain ⟨kA⟩ := hE.at hk
      obtain ⟨ei, he, h2⟩ := ob_some h2
      obtain ⟨eA⟩ := hE.at he
      obtain ⟨mv, hm, h2⟩ := ob_some h2
      obtain ⟨kv, hkv, h2⟩ := ob_some h2
      obtain ⟨z, hz, hv⟩ := lookup_sound hR tA hd kA eA (evo_sound hT hm) (evo_sound hT hkv) h2
      exact Ans.of hz hv
    · cases h2
  · obtain ⟨si, hs, h2⟩ := ob_some hx
    obtain ⟨sA⟩ := hE.at hs
    obtain ⟨di, hd, h2⟩ := ob_some h2
    obtain ⟨dA⟩ := hE.at hd
    split at h2
    · rename_i e1 e2
      obtain ⟨ei, he, h2⟩ := ob_some h2
      obtain ⟨x, hx, h3⟩ := ob_some h2
      obtain ⟨z, hz, hv⟩ := toUptr_sound hE hR sA dA e1 e2 he (evo_sound hT hx) h3
      exact Ans.of hz hv
    · rename_i e1 e2
      obtain ⟨ei, he, h2⟩ := ob_some h2
      obtain ⟨x, hx, h3⟩ := ob_some h2
      obtain ⟨z, hz, hv⟩ := ofUptr_sound hE hR sA dA e1 e2 he (evo_sound hT hx) h3
      exact Ans.of hz hv
    · rename_i e1 e2
      obtain ⟨hu, h2⟩ := bif_some h2
      obtain ⟨x, hx, h3⟩ := ob_some h2
      obtain ⟨z, hz, hv⟩ := toStr_sound hE hR sA dA e1 e2 hu (evo_sound hT hx) h3
      exact Ans.of hz hv
    · cases h2
  · rename_i c
    split at hx
    · rename_i b hb
      obtain ⟨hr, h2⟩ := bif_some hx
      obtain ⟨args, hargs, h3⟩ := ob_some h2
      obtain ⟨⟨u, h'⟩, hu, h4⟩ := ob_some h3
      cases h4
      obtain ⟨y, hy, hv⟩ := builtinL_sound hE hR hr hu (evos_sound hT hargs) (ty := type) (cs := c.args.map fun | .const _ => true | _ => false)
      refine ⟨y, ?_, hv⟩
      simp only [execOp, Sem.run_bind, resolve, hb, Sem.run_pure, Result.andThen_ok, invoke]
      exact hy
    · cases hx
  · cases hx
end
end Go.Ev
namespace Go.Ev

/-- The run s, in world w, makes one block, of which the evaluator has o under the number b, and answers what v stands for. -/
def AAns (P : Program) (r : Rho) (s : Sem Next) (b : Nat) (v : V) (o : O) (w : World) : Prop :=
  ∃ x ob q w', s.run P w = .ok (.value x) w' ∧ w'.heap = w.heap.push ob ∧ w'.os = w.os ∧ w'.output = w.output ∧ q.blk = w.heap.size ∧
    ∀ r', Le r r' → r'.bl b = some q → VR r' v x ∧ ∀ w'' nx, OR P r' q w'' nx o ob

section
variable {P : Program} {E : Env} {r : Rho} {w : World}

theorem AAns.of {s : Sem Value} {b : Nat} {v : V} {o : O} {x : Value} {ob : Obj} {q : RB} {w' : World} (h : s.run P w = .ok x w') (h1 : w'.heap = w.heap.push ob) (h2 : w'.os = w.os) (h3 : w'.output = w.output) (h4 : q.blk = w.heap.size)
    (h5 : ∀ r', Le r r' → r'.bl b = some q → VR r' v x ∧ ∀ w'' nx, OR P r' q w'' nx o ob) : AAns P r (do pure (.value (← s))) b v o w :=
  ⟨x, ob, q, w', by simp [h], h1, h2, h3, h4, h5⟩

def pushB (w : World) (ob : Obj) : World := { w with heap := w.heap.push ob }
theorem AAns.row {s : Sem Value} {b : Nat} {v : V} {o : O} {x : Value} {ob : Obj} {q : RB} (h : s.run P w = .ok x (pushB w ob)) (h4 : q.blk = w.heap.size)
    (h5 : ∀ r', Le r r' → r'.bl b = some q → VR r' v x ∧ ∀ w'' nx, OR P r' q w'' nx o ob) : AAns P r (do pure (.value (← s))) b v o w :=
  AAns.of h rfl rfl rfl h4 h5
theorem run_newRow (t : TypeId) (c : Array Value) : (newRow t c).run P w = .ok ⟨w.heap.size, 0, none⟩ (pushB w (.cells c t)) := by
  simp [newRow, newObj, Sem.run, pushB]

theorem CR.fresh {r : Rho} {el : Nat} {cs : List V} {c : Array Value} (h : VRs r cs c.toList) {k lo hi : Nat} (hm : ∀ i, i < c.size → (decide (lo ≤ i) && decide (i < hi)) = false) : CR P el r cs false ⟨k, 0, c.size⟩ c lo hi where
  size := rfl
  win := by have := h.length; simp at this; simp [this]
  get := fun i v hv => by
    obtain ⟨x, hx, hr⟩ := (VRs.forall₂.1 h).get i v hv
    exact ⟨x, by simpa using hx, hr⟩
  melt := fun _ i _ h2 => hm i h2
  al := fun i _ => Nat.zero_mod _

theorem repl_len (z : List V) : ∀ n, (repl n z).length = n * z.length := by
  intro n
  induction n with
  | zero => simp [repl]
  | succ n ih => simp [repl, app_eq, ih, Nat.succ_mul, Nat.add_comm]
theorem repl_get (z : List V) : ∀ n i, i < n * z.length → (repl n z)[i]? = z[i % z.length]? := by
  intro n
  induction n with
  | zero => intro i h; simp at h
  | succ n ih =>
    intro i h
    simp only [repl, app_eq]
    rw [List.getElem?_append]
    split
    · rename_i hi; rw [Nat.mod_eq_of_lt hi]
    · rename_i hi
      rw [ih _ (by rw [Nat.succ_mul] at h; omega)]
      congr 1
      rw [← Nat.mod_eq_sub_mod (by omega)]
theorem repl_rel {z : List V} {zero : Array Value} (h : VRs r z zero.toList) (n : Nat) : VRs r (repl n z) ((Array.range (n * zero.size)).map (zero[· % zero.size]!)).toList := by
  have hz : zero.size = z.length := by have := h.length; simpa using this
  refine VRs.forall₂.2 (F2.of_get (by simp [repl_len, hz]) fun i a b h1 h2 => ?_)
  have hi : i < n * z.length := by
    have := (List.getElem?_eq_some_iff.1 h1).1
    rwa [repl_len] at this
  rw [repl_get _ _ _ hi] at h1
  obtain ⟨x, hx, hr⟩ := (VRs.forall₂.1 h).get _ _ h1
  have hlt : i < n * zero.size := by rw [hz]; exact hi
  simp [hlt] at h2
  have hx' : zero[i % zero.size]? = some x := by rw [hz]; simpa using hx
  subst h2
  rw [getElem!_def, hx']
  exact hr
theorem bytesV_rel : ∀ (l : List UInt8), VRs r (bytesV (l.map UInt8.toNat)) (l.map fun b => Value.int .u8 b.toNat) := by
  intro l
  induction l with
  | nil => rfl
  | cons b l ih => exact ⟨_, _, rfl, rfl, ih⟩
theorem bytesV_len : ∀ (l : List Nat), (bytesV l).length = l.length := by
  intro l
  induction l with
  | nil => rfl
  | cons b l ih => simp [bytesV, ih]
theorem VRs.ext' {r r' : Rho} (h : Le r r') {vs : List V} {l : List Value} (hv : VRs r vs l) : VRs r' vs l := VRs.ext h vs l hv
/-- A new row, whole. -/
theorem row_fresh {t : Nat} {cs : List V} {c : Array Value} (hc : VRs r cs c.toList) {r' : Rho} (hl : Le r r') {k : Nat} (w'' : World) (nx : Nat) : OR P r' ⟨k, 0, c.size⟩ w'' nx (.cells cs t false) (.cells c t) :=
  ⟨c, 0, 0, rfl, CR.fresh (hc.ext' hl) fun i _ => by simp⟩

theorem freeze_last (c : Array Value) (t : TypeId) : (pushB w (.cells c t)).freeze ⟨w.heap.size, c.size, none⟩ 1 = pushB w (.cells c t (c.size, c.size + 1)) := by
  unfold World.freeze pushB
  simp only [Nat.one_ne_zero, if_false]
  congr 1
  apply Array.ext (by simp)
  intro i h1 h2
  rw [Array.getElem_modify]
  by_cases h : w.heap.size = i
  · subst h; simp
  · rw [if_neg h]
    simp only [Array.size_push] at h2
    rw [Array.getElem_push_lt (by omega), Array.getElem_push_lt (by omega)]
theorem toBytes_sound {e : Nat} {t : ByteArray} {b : Nat} : ∃ x ob q w', (Conv.stringToBytes e t).run P w = .ok x w' ∧ w'.heap = w.heap.push ob ∧ w'.os = w.os ∧ w'.output = w.output ∧ q.blk = w.heap.size ∧
    ∀ r' : Rho, r'.bl b = some q → VR r' (.slice b 0 (len (bytesOf t)) (.un 1 (len (bytesOf t)))) x ∧ ∀ w'' nx, OR P r' q w'' nx (.cells (bytesV (bytesOf t)) e false) ob := by
  let w1 : World := { w with drawn := w.drawn + 1 }
  let cap := Question.cut (.appendCap t.size 0 e) (w.tape w.drawn (.appendCap t.size 0 e))
  have hcap : t.size ≤ cap := Nat.le_add_right _ _
  let elems : Array Value := t.data.map fun b => .int .u8 b.toNat
  let c : Array Value := elems ++ Array.replicate (cap - t.size) (.int .u8 0)
  have hes : elems.size = t.size := by show (t.data.map _).size = t.data.size; simp
  have hcs : c.size = cap := by
    have : c.size = elems.size + (cap - t.size) := by simp [c]
    omega
  have hch : (choose (.appendCap t.size 0 e)).run P w = .ok cap w1 := by simp [choose, Sem.run, Question.forced, cap, w1]
  have hmk : (markStringish ⟨w1.heap.size, 0, none⟩).run P (pushB w1 (.cells c e)) = .ok () (pushB w1 (.cells c e (c.size, c.size + 1))) := by
    have hsh : (shape w1.heap.size).run P (pushB w1 (.cells c e)) = .ok (some (e, c.size)) (pushB w1 (.cells c e)) := by
      show Result.ok ((pushB w1 (.cells c e)).shape? w1.heap.size) _ = _
      simp only [World.shape?, pushB, Array.getElem?_push_size]
    unfold markStringish
    simp only [Sem.run_bind, hsh, Result.andThen_ok]
    show Result.ok () ((pushB w1 (.cells c e)).freeze ⟨w1.heap.size, c.size, none⟩ 1) = _
    rw [freeze_last]
  refine ⟨.slice (some ⟨w1.heap.size, 0, none⟩) t.size cap, .cells c e (c.size, c.size + 1), ⟨w1.heap.size, 0, c.size⟩, pushB w1 (.cells c e (c.size, c.size + 1)), ?_, rfl, rfl, rfl, rfl, ?_⟩
  · unfold Conv.stringToBytes
    simp only [Sem.run_bind, hch, Result.andThen_ok]
    have := run_newRow (P := P) (w := w1) e c
    simp only [c, elems] at this hmk
    simp only [this, Result.andThen_ok, hmk, Sem.run_pure]
    rfl
  · intro r' hb
    have hl : len (bytesOf t) = t.size := by rw [len_eq, bytesOf_length]
    refine ⟨⟨_, hb, .inl ⟨cap, by rw [hl], by omega, by omega, by simp only [hcs]; omega, by simp⟩⟩, fun _ _ => ⟨c, c.size, c.size + 1, rfl, ?_⟩⟩
    refine ⟨rfl, by simp only [bytesV_len]; rw [bytesOf_length]; omega, ?_, fun _ i _ h2 => ?_, fun i _ => Nat.zero_mod _⟩
    · intro i v hv
      have := VRs.forall₂.1 (bytesV_rel (r := r') t.data.toList)
      obtain ⟨x, hx, hr⟩ := this.get i v (by simpa [bytesOf] using hv)
      refine ⟨x, ?_, hr⟩
      have h1 : elems[i]? = some x := by simpa [elems] using hx
      have h2 : i < elems.size := (Array.getElem?_eq_some_iff.1 h1).1
      simp only [Nat.zero_add, c]
      rw [Array.getElem?_append_left h2]
      exact h1
    · have : i < c.size := h2
      simp
      omega

theorem execA_sound (hE : TisOk P E) {n : Nat} {tm : T V} {a : Act} (hT : TR r n tm a.tmps) {o : Oper} {b : Nat} {v : V} {ob : O} (hx : execA E tm o.op b = some (v, ob)) : AAns P r (execOp a.eval o) b v ob w := by
  obtain ⟨dst, op, type, pos, after, guard⟩ := o
  simp only at hx
  unfold execA at hx
  split at hx
  · rename_i t
    obtain ⟨ti, ht, h2⟩ := ob_some hx
    obtain ⟨tA⟩ := hE.at ht
    cases h2
    refine AAns.row (q := ⟨w.heap.size, 0, tA.z.cells.size⟩) (x := .pointer (some ⟨w.heap.size, 0, none⟩)) (ob := .cells tA.z.cells t) (by simp only [Instr.alloc, Sem.run_bind, run_zeroValue tA.hi tA.hz, Result.andThen_ok, newVar, run_newRow, Sem.run_pure]) rfl ?_
    intro r' hl hb
    exact ⟨⟨_, hb, rfl⟩, row_fresh (absVal_rel r tA.zero).cells hl⟩
  · rename_i t x
    obtain ⟨v', hv, h2⟩ := ob_some hx
    obtain ⟨_, h3⟩ := bif_some h2
    cases h3
    refine AAns.row (q := ⟨w.heap.size, 0, (a.eval x).cells.size⟩) (x := .pointer (some ⟨w.heap.size, 0, none⟩)) (ob := .cells (a.eval x).cells t) (by simp only [Instr.box, Sem.run_bind, newVar, run_newRow, Result.andThen_ok, Sem.run_pure]) rfl ?_
    intro r' hl hb
    exact ⟨⟨_, hb, rfl⟩, row_fresh (evo_sound hT hv).cells hl⟩
  · rename_i t n ps
    obtain ⟨ti, ht, h2⟩ := ob_some hx
    obtain ⟨tA⟩ := hE.at ht
    split at h2
    · rename_i e es eb hd
      obtain ⟨ei, he, h3⟩ := ob_some h2
      obtain ⟨eA⟩ := hE.at he
      obtain ⟨h4, h5⟩ := bif_some h3
      obtain ⟨h6, h7⟩ := bif_some h5
      obtain ⟨qs, hq, h8⟩ := ob_some h7
      obtain ⟨cs, hc, h9⟩ := ob_some h8
      cases h9
      rw [tA.td] at hd
      obtain ⟨hd2, ii, hii, rfl, _⟩ := tdOf_slice hd
      rw [eA.hi] at hii
      cases hii
      have hz := (absVal_rel r eA.zero).cells
      have hzs : eA.z.cells.size = eA.i.size := by
        have := hz.length
        have h6 := Nat.eq_of_beq_eq_true h6
        rw [len_eq] at h6
        simp at this
        omega
      have h4 := Nat.le_of_ble_eq_true h4
      have hF := parts_sound hT hq
      have hrow : VRs r (repl n ei.zero.cells) ((Array.range (n * eA.i.size)).map ((if n * eA.i.size = 0 then #[] else eA.z.cells)[· % (if n * eA.i.size = 0 then (#[] : Array Value) else eA.z.cells).size]!)).toList := by
        have := repl_rel hz n
        rw [hzs] at this
        by_cases h0 : n * eA.i.size = 0
        · rw [h0] at this ⊢
          simpa using this
        · simp only [h0, if_false]
          rw [hzs]
          exact this
      obtain ⟨c, hfill, hcs⟩ := fill_sound (pb := fun i => some (i * eA.i.size, eA.i.size)) (fun _ _ h => h) hF hrow hc
      refine AAns.row (q := ⟨w.heap.size, 0, c.size⟩) (x := .slice (some ⟨w.heap.size, 0, none⟩) n n) (ob := .cells c e) ?_ rfl ?_
      · have hu : (underlying t).run P w = .ok (.slice e) w := by rw [run_underlying' tA.hd, hd2]
        have hle : ¬ (n * eA.i.size > 2 ^ 24) := by omega
        have hfill' : Instr.fill (fun i => some (i * eA.i.size, eA.i.size)) ((Array.range (n * eA.i.size)).map ((if n * eA.i.size = 0 then #[] else eA.z.cells)[· % (if n * eA.i.size = 0 then (#[] : Array Value) else eA.z.cells).size]!))
            (ps.toList.map fun x => (x.fst, a.eval x.snd)) = some c := hfill
        unfold Instr.buildSlice
        by_cases h0 : n * eA.i.size = 0
        · simp only [h0, if_true] at hfill' hle
          simp only [Sem.run_bind, hu, Result.andThen_ok, run_sizeOf eA.hi, hle, if_false, Sem.run_pure, h0, if_true, Array.toList_map, hfill', run_newRow]
        · simp only [h0, if_false] at hfill'
          simp only [Sem.run_bind, hu, Result.andThen_ok, run_sizeOf eA.hi, hle, if_false, Sem.run_pure, h0, run_zeroValue eA.hi eA.hz, Array.toList_map, hfill', run_newRow]
      · intro r' hl hb
        exact ⟨⟨_, hb, .inl rfl⟩, row_fresh hcs hl⟩
    · cases h2
  · rename_i t y
    split at hx
    · cases hx
      refine AAns.row (q := ⟨w.heap.size, 0, 0⟩) (x := .map (some w.heap.size)) (ob := .map #[] 0) (by simp [Instr.makeMap, newObj, Sem.run, pushB]) rfl ?_
      intro r' hl hb
      exact ⟨⟨_, hb, rfl⟩, fun _ _ => ⟨#[], 0, rfl, ⟨[], by simp, .nil⟩, .nil, by simp, by simp⟩⟩
    · rename_i y
      obtain ⟨ti, ht, h2⟩ := ob_some hx
      obtain ⟨tA⟩ := hE.at ht
      split at h2
      · rename_i kt e hd
        obtain ⟨n', hn, h3⟩ := ob_some h2
        obtain ⟨v', hv, h4⟩ := ob_some hn
        cases h3
        obtain ⟨k, rfl⟩ := natOf_some h4
        have hv := evo_sound hT hv
        have hv : a.eval y = _ := hv
        rw [tA.td] at hd
        have hd := tdOf_map hd
        have hu : (underlying t).run P w = .ok (.map kt e) w := by rw [run_underlying' tA.hd, hd]
        refine AAns.row (q := ⟨w.heap.size, 0, 0⟩) (x := .map (some w.heap.size)) (ob := .map #[] 0) (by simp [Instr.makeMap, hv, hu, asInt, asIntOf, newObj, Sem.run, pushB]) rfl ?_
        intro r' hl hb
        exact ⟨⟨_, hb, rfl⟩, fun _ _ => ⟨#[], 0, rfl, ⟨[], by simp, .nil⟩, .nil, by simp, by simp⟩⟩
      · cases h2
  · rename_i t lo co
    obtain ⟨ti, ht, h2⟩ := ob_some hx
    obtain ⟨tA⟩ := hE.at ht
    split at h2
    · rename_i e es eb hd
      obtain ⟨ei, he, h3⟩ := ob_some h2
      obtain ⟨eA⟩ := hE.at he
      obtain ⟨ln, hln, h3⟩ := ob_some h3
      obtain ⟨cn, hcn, h3⟩ := ob_some h3
      obtain ⟨lv, hlv, hln⟩ := ob_some hln
      obtain ⟨cv, hcv, hcn⟩ := ob_some hcn
      obtain ⟨k1, rfl⟩ := natOf_some hln
      obtain ⟨k2, rfl⟩ := natOf_some hcn
      obtain ⟨h4, h3⟩ := bif_some h3
      obtain ⟨h5, h3⟩ := bif_some h3
      obtain ⟨h6, h3⟩ := bif_some h3
      obtain ⟨h7, h3⟩ := bif_some h3
      cases h3
      have hl1 : a.eval lo = .int k1 (ln : Int) := evo_sound hT hlv
      have hc1 : a.eval co = .int k2 (cn : Int) := evo_sound hT hcv
      have h4 := Nat.le_of_ble_eq_true h4
      have h5 := Nat.le_of_ble_eq_true h5
      have h6 := Nat.le_of_ble_eq_true h6
      rw [tA.td] at hd
      obtain ⟨hd2, ii, hii, rfl, _⟩ := tdOf_slice hd
      rw [eA.hi] at hii
      cases hii
      have hz := (absVal_rel r eA.zero).cells
      have hzs : eA.z.cells.size = eA.i.size := by
        have := hz.length
        have h7 := Nat.eq_of_beq_eq_true h7
        rw [len_eq] at h7
        simp at this
        omega
      have hu : (underlying t).run P w = .ok (.slice e) w := by rw [run_underlying' tA.hd, hd2]
      have hrow : VRs r (repl cn ei.zero.cells) ((Array.range (cn * eA.i.size)).map ((if cn * eA.i.size = 0 then #[] else eA.z.cells)[· % (if cn * eA.i.size = 0 then (#[] : Array Value) else eA.z.cells).size]!)).toList := by
        have := repl_rel hz cn
        rw [hzs] at this
        by_cases h0 : cn * eA.i.size = 0
        · rw [h0] at this ⊢
          simpa using this
        · simp only [h0, if_false]
          rw [hzs]
          exact this
      have w1 : IntKind.i64.wrap (ln : Int) = ln := wrap_pos .i64 ln (by simp [maxK]; omega)
      have w2 : IntKind.i64.wrap (cn : Int) = cn := wrap_pos .i64 cn (by simp [maxK]; omega)
      have hby : eA.i.bytes ≤ 65536 := by rw [← eA.bytes]; exact h6
      have hmul : eA.i.bytes * cn ≤ 65536 * 16777216 := Nat.mul_le_mul hby h5
      generalize hrw : (Array.range (cn * eA.i.size)).map ((if cn * eA.i.size = 0 then #[] else eA.z.cells)[· % (if cn * eA.i.size = 0 then (#[] : Array Value) else eA.z.cells).size]!) = row at hrow
      refine AAns.row (q := ⟨w.heap.size, 0, row.size⟩) (x := .slice (some ⟨w.heap.size, 0, none⟩) ln cn) (ob := .cells row e) ?_ rfl ?_
      · unfold Instr.makeSlice
        have c1 : (decide ((cn : Int) < 0) || decide ((eA.i.bytes : Int) * (cn : Int) > 2 ^ 48)) = false := by
          have : (eA.i.bytes : Int) * (cn : Int) = ((eA.i.bytes * cn : Nat) : Int) := by simp
          rw [this]
          simp
          omega
        have c2 : ¬ ((ln : Int) < 0) := by omega
        have c3 : ¬ ((ln : Int) > (cn : Int)) := by omega
        have c4 : ¬ (cn * eA.i.bytes > roomBytes) := by unfold roomBytes; rw [Nat.mul_comm]; omega
        by_cases h0 : cn * eA.i.size = 0
        · simp only [h0, if_true] at hrw
          simp only [Sem.run_bind, hu, Result.andThen_ok, hl1, hc1, asInt, asIntOf, Sem.run_pure, run_typeInfo eA.hi, run_sizeOf eA.hi, w1, w2, c1, c2, c3, Bool.false_or, decide_false, Bool.or_self, Bool.false_eq_true, if_false,
            Int.toNat_natCast, askRoom, c4, h0, if_true, hrw, run_newRow, gt_iff_lt]
        · simp only [h0, if_false] at hrw
          simp only [Sem.run_bind, hu, Result.andThen_ok, hl1, hc1, asInt, asIntOf, Sem.run_pure, run_typeInfo eA.hi, run_sizeOf eA.hi, w1, w2, c1, c2, c3, Bool.false_or, decide_false, Bool.or_self, Bool.false_eq_true, if_false,
            Int.toNat_natCast, askRoom, c4, h0, run_zeroValue eA.hi eA.hz, hrw, run_newRow, gt_iff_lt]
      · intro r' hl hb
        exact ⟨⟨_, hb, .inl rfl⟩, row_fresh hrow hl⟩
    · cases h2
  · rename_i s d y
    obtain ⟨si, hs, h2⟩ := ob_some hx
    obtain ⟨sA⟩ := hE.at hs
    obtain ⟨ti, ht, h2⟩ := ob_some h2
    obtain ⟨tA⟩ := hE.at ht
    split at h2
    · rename_i e es eb hd
      obtain ⟨hu, h2⟩ := bif_some h2
      obtain ⟨v', hv, h2⟩ := ob_some h2
      split at h2
      · rename_i l
        obtain ⟨_, h3⟩ := bif_some h2
        cases h3
        rw [tA.td] at hd
        have hd := (tdOf_slice hd).1
        obtain ⟨t, het, rfl⟩ := evo_sound hT hv
        have hue := isU8_und hE hu
        show AAns P r (do pure (.value (← convert s d (a.eval y)))) _ _ _ _
        rw [het]
        obtain ⟨x, ob, q, w', h3, h4, h5, h6, h7, h8⟩ := toBytes_sound (P := P) (w := w) (e := e) (b := b)
        refine AAns.of (x := x) ?_ h4 h5 h6 h7 (fun r' _ hb => h8 r' hb)
        unfold convert
        simp only [Sem.run_bind, run_underlying' sA.hd, run_underlying' tA.hd, Result.andThen_ok, hd]
        cases sA.d <;> simp [run_underlying' hue, h3]
      · cases h2
    · cases h2
  · cases hx
end
end Go.Ev
namespace Go.Ev

/-- The run s, in world w, goes on with what v stands for, and leaves the heap h'. -/
def EAns (P : Program) (E : Env) (r : Rho) (h : Hp) (s : Sem Next) (v : V) (h' : Hp) (w : World) : Prop :=
  ∃ n x r' w', s.run P w = .ok n w' ∧ (n = .value x ∨ (n = .skip ∧ x = undef)) ∧ VR r' v x ∧ Stp P E r h w r' h' w'

section
variable {P : Program} {E : Env} {r : Rho} {h h' : Hp} {w : World}

theorem EAns.unit {s : Sem Unit} {r' : Rho} {w' : World} (hs : s.run P w = .ok () w') (hr : Stp P E r h w r' h' w') : EAns P E r h (do s; pure .skip) (.tup []) h' w :=
  ⟨.skip, undef, r', w', by simp [hs], .inr ⟨rfl, rfl⟩, ⟨#[], rfl, rfl⟩, hr⟩
theorem EAns.val {s : Sem Value} {r' : Rho} {w' : World} {v : V} {x : Value} (hs : s.run P w = .ok x w') (hv : VR r' v x) (hr : Stp P E r h w r' h' w') : EAns P E r h (do pure (.value (← s))) v h' w :=
  ⟨.value x, x, r', w', by simp [hs], .inl rfl, hv, hr⟩

theorem allOne_mem : ∀ {vs : List V}, allOne vs = true → ∀ v ∈ vs, v.one = true := by
  intro vs
  induction vs with
  | nil => intro _ v h; simp at h
  | cons v vs ih =>
    intro h u hu
    cases hv : v.one with
    | false => simp [allOne, hv] at h
    | true =>
      simp [allOne, hv] at h
      simp at hu
      rcases hu with rfl | hu
      · exact hv
      · exact ih h u hu
theorem allOne_vals {vs : List V} {xs : List Value} (h : allOne vs = true) (hx : VRs r vs xs) : ∀ x ∈ xs, x.oneCell' = true := by
  intro x hxm
  obtain ⟨v, hv, hr⟩ := (VRs.forall₂.1 hx).mem' x hxm
  exact hr.one (allOne_mem h v hv)

theorem CR.put {el : Nat} {cs cs' : List V} {q : RB} {c : Array Value} {lo hi o : Nat} {vs : List V} {xs : List Value} {fz : Bool} (hc : CR P el r cs fz q c lo hi) (hx : VRs r vs xs) (hs : splice cs o vs = some cs') : CR P el r cs' fz q (putRow' c (q.sh + o) xs) lo hi := by
  obtain ⟨h1, rfl⟩ := splice_some _ _ _ _ hs
  have hw := hc.win
  have hz := hc.size
  have hl : xs.length = vs.length := hx.length
  refine ⟨by rw [putRow'_size]; exact hz, by simp; omega, fun i v hv => ?_, hc.melt, hc.al⟩
  rw [putRow'_get _ _ _ _ (by omega)]
  have hto : (cs.take o).length = o := by simp; omega
  by_cases h2 : i < o
  · rw [if_neg (by omega)]
    rw [List.append_assoc, List.getElem?_append_left (by omega), List.getElem?_take, if_pos h2] at hv
    exact hc.get i v hv
  · by_cases h3 : i < o + vs.length
    · rw [if_pos (by omega)]
      rw [List.append_assoc, List.getElem?_append_right (by omega), hto, List.getElem?_append_left (by omega)] at hv
      obtain ⟨x, hx, hr⟩ := (VRs.forall₂.1 hx).get _ _ hv
      exact ⟨x, by rw [← hx]; congr 1; omega, hr⟩
    · rw [if_neg (by omega)]
      rw [List.getElem?_append_right (by simp; omega)] at hv
      simp only [List.length_append, hto, List.getElem?_drop] at hv
      have : o + vs.length + (i - (o + vs.length)) = i := by omega
      rw [this] at hv
      exact hc.get i v hv
theorem storeRow_sound (hR : Rel P E r h w) {b o : Nat} {vs : List V} (hs : storeCells h b o vs = some h') {q : RB} (hq : r.bl b = some q) {xs : List Value} (hx : VRs r vs xs) :
    ∃ w', (Go.storeCells ⟨q.blk, q.sh + o, none⟩ xs).run P w = .ok () w' ∧ Stp P E r h w r h' w' := by
  unfold storeCells at hs
  split at hs
  · rename_i cs el fz hg
    cases fz with
    | true => cases hs
    | false =>
      obtain ⟨h1, h2⟩ := bif_some (show (bif allOne vs then _ else none) = some h' from hs)
      obtain ⟨cs', hcs, he⟩ := ob_some h2
      cases he
      obtain ⟨q', ob, hq', hw, c, lo, hi, rfl, hc⟩ := hR.os _ _ hg
      rw [hq] at hq'
      cases hq'
      have h3 := (splice_some _ _ _ _ hcs).1
      have hl : xs.length = vs.length := hx.length
      have hwin := hc.win
      have hz := hc.size
      refine ⟨_, run_storeRow xs 0 c w hw (by omega) (fun k h4 h5 => hc.melt rfl k (by omega) (by omega)) (allOne_vals h1 hx), ?_⟩
      exact hR.set hg hq hw ⟨_, lo, hi, rfl, hc.put hx hcs⟩ (fun xs c e => by cases e)
  · cases hs
theorem store_sound (hR : Rel P E r h w) {t : Nat} {ti : TI} (ht : TiAt P t ti) {v u : V} {x y : Value} (hv : VR r v x) (hu : VR r u y) (hs : storeAt ti v u h = some h') :
    ∃ w', (Instr.storeAt t x y).run P w = .ok () w' ∧ Stp P E r h w r h' w' := by
  unfold storeAt at hs
  split at hs
  · rename_i b o
    obtain ⟨h1, h2⟩ := bif_some hs
    obtain ⟨q, hq, rfl⟩ := hv
    obtain ⟨w', hw, hst⟩ := storeRow_sound hR h2 hq hu.cells
    refine ⟨w', ?_, hst⟩
    have h1 := Nat.eq_of_beq_eq_true h1
    rw [len_eq, ht.size] at h1
    have := hu.cells.length
    simp at this
    unfold Instr.storeAt Instr.sureAddr storeVar
    simp only [Sem.run_bind, Sem.run_pure, Result.andThen_ok, run_sizeOf ht.hi]
    rw [if_neg (by omega)]
    exact hw
  · cases hs
end
end Go.Ev
namespace Go.Ev

theorem findV_split {k : V} : ∀ {es : List Me} {e : Me}, findV k es = some (some e) → ∃ l1 l2, es = l1 ++ e :: l2 ∧ eqCell k e.k = some true := by
  intro es
  induction es with
  | nil => intro e h; cases h
  | cons e1 es ih =>
    intro e h
    obtain ⟨q, hq, h2⟩ := ob_some h
    cases q with
    | true => cases h2; exact ⟨[], es, rfl, hq⟩
    | false =>
      obtain ⟨l1, l2, rfl, h3⟩ := ih h2
      exact ⟨e1 :: l1, l2, rfl, h3⟩
theorem updV_spec {i : Nat} {k v : V} : ∀ {es es' : List Me}, updV i k v es = some es' →
    (findV k es = some none ∧ es' = es ++ [⟨i, k, v⟩]) ∨ (∃ e l1 l2, findV k es = some (some e) ∧ es = l1 ++ e :: l2 ∧ eqCell k e.k = some true ∧ es' = l1 ++ ⟨e.i, k, v⟩ :: l2) := by
  intro es
  induction es with
  | nil => intro es' h; cases h; exact .inl ⟨rfl, rfl⟩
  | cons e es ih =>
    intro es' h
    obtain ⟨q, hq, h2⟩ := ob_some h
    cases q with
    | true =>
      cases h2
      refine .inr ⟨e, [], es, ?_, rfl, hq, rfl⟩
      simp only [findV, hq]
      rfl
    | false =>
      obtain ⟨r, hr, h3⟩ := ob_some (show ob (updV i k v es) _ = some es' from h2)
      cases h3
      have hf : ∀ x, findV k es = x → findV k (e :: es) = x := by
        intro x hx
        simp only [findV, hq]
        exact hx
      rcases ih hr with ⟨h4, rfl⟩ | ⟨e', l1, l2, h4, rfl, h5, rfl⟩
      · exact .inl ⟨hf _ h4, rfl⟩
      · exact .inr ⟨e', e :: l1, l2, hf _ h4, rfl, h5, rfl⟩
theorem delV_spec {k : V} : ∀ {es es' : List Me}, delV k es = some es' →
    (findV k es = some none ∧ es' = es) ∨ (∃ e l1 l2, findV k es = some (some e) ∧ es = l1 ++ e :: l2 ∧ eqCell k e.k = some true ∧ es' = l1 ++ l2) := by
  intro es
  induction es with
  | nil => intro es' h; cases h; exact .inl ⟨rfl, rfl⟩
  | cons e es ih =>
    intro es' h
    obtain ⟨q, hq, h2⟩ := ob_some h
    cases q with
    | true =>
      cases h2
      refine .inr ⟨e, [], es, ?_, rfl, hq, rfl⟩
      simp only [findV, hq]
      rfl
    | false =>
      obtain ⟨r, hr, h3⟩ := ob_some (show ob (delV k es) _ = some es' from h2)
      cases h3
      have hf : ∀ x, findV k es = x → findV k (e :: es) = x := by
        intro x hx
        simp only [findV, hq]
        exact hx
      rcases ih hr with ⟨h4, rfl⟩ | ⟨e', l1, l2, h4, rfl, h5, rfl⟩
      · exact .inl ⟨hf _ h4, rfl⟩
      · exact .inr ⟨e', e :: l1, l2, hf _ h4, rfl, h5, rfl⟩
theorem setV_spec {i : Nat} {v : V} : ∀ {es es' : List Me}, setV i v es = some es' → ∃ e l1 l2, es = l1 ++ e :: l2 ∧ e.i = i ∧ es' = l1 ++ ⟨e.i, e.k, v⟩ :: l2 := by
  intro es
  induction es with
  | nil => intro es' h; cases h
  | cons e es ih =>
    intro es' h
    unfold setV at h
    cases hb : Nat.beq e.i i with
    | true =>
      rw [hb] at h
      cases h
      exact ⟨e, [], es, rfl, Nat.eq_of_beq_eq_true hb, rfl⟩
    | false =>
      rw [hb] at h
      obtain ⟨r, hr, h3⟩ := ob_some (show ob (setV i v es) _ = some es' from h)
      cases h3
      obtain ⟨e', l1, l2, rfl, h4, rfl⟩ := ih hr
      exact ⟨e', e :: l1, l2, rfl, h4, rfl⟩

theorem eqCell_symm {k k' : V} {q : Bool} (h : eqCell k k' = some q) (hi : ∃ d, keyOk d k = true) : eqCell k' k = some q := by
  obtain ⟨d, hd⟩ := hi
  rcases keyOk_cases hd with ⟨j, _, i, n, rfl⟩ | ⟨_, s, rfl⟩ | ⟨_, b, rfl⟩
  · cases k' with
    | int i' n' =>
      obtain ⟨e1, e2⟩ := bif_some (show (bif kEq i i' then some (eqI n n') else none) = some q from h)
      cases kEq_eq e1
      have : kEq i i = true := e1
      show (bif kEq i i then some (eqI n' n) else none) = some q
      rw [this, ← e2, eqI_eq, eqI_eq, Bool.beq_comm]
      rfl
    | _ => cases h
  · cases k' with
    | str s' =>
      have h : some (strEq s s') = some q := h
      show some (strEq s' s) = some q
      rw [← h, strEq_eq, strEq_eq, Bool.beq_comm]
    | _ => cases h
  · cases k' with
    | bool b' =>
      have h : some (!(xor b b')) = some q := h
      show some (!(xor b' b)) = some q
      rw [← h]
      cases b <;> cases b' <;> rfl
    | _ => cases h

theorem F2.split {α β : Type} {R : α → β → Prop} : ∀ {l1 : List α} {e : α} {l2 : List α} {m : List β}, F2 R (l1 ++ e :: l2) m → ∃ m1 z m2, m = m1 ++ z :: m2 ∧ F2 R l1 m1 ∧ R e z ∧ F2 R l2 m2 := by
  intro l1
  induction l1 with
  | nil => intro e l2 m h; cases h with | cons h t => exact ⟨[], _, _, rfl, .nil, h, t⟩
  | cons a l1 ih =>
    intro e l2 m h
    cases h with
    | cons h t =>
      obtain ⟨m1, z, m2, rfl, h1, h2, h3⟩ := ih t
      exact ⟨_ :: m1, z, m2, rfl, .cons h h1, h2, h3⟩
theorem list_at {α : Type} {l : List α} {j : Nat} {z : α} (h : l[j]? = some z) : l = l.take j ++ z :: l.drop (j + 1) := by
  obtain ⟨h1, h2⟩ := List.getElem?_eq_some_iff.1 h
  rw [← h2, List.getElem_cons_drop, List.take_append_drop]
theorem modify_at {α : Type} {l : Array α} {j : Nat} {z : α} (h : l[j]? = some z) (f : α → α) : (l.modify j f).toList = l.toList.take j ++ f z :: l.toList.drop (j + 1) := by
  obtain ⟨h1, h2⟩ := Array.getElem?_eq_some_iff.1 h
  apply List.ext_getElem?
  intro i
  rw [Array.getElem?_toList, Array.getElem?_modify]
  by_cases e : j = i
  · subst e
    rw [List.getElem?_append_right (by simp; omega)]
    have : j - (l.toList.take j).length = 0 := by simp; omega
    rw [this]
    simp [h]
  · rw [if_neg e]
    by_cases e2 : i < j
    · rw [List.getElem?_append_left (by simp; omega), List.getElem?_take, if_pos e2]; simp
    · rw [List.getElem?_append_right (by simp; omega)]
      have e3 : (l.toList.take j).length = j := by simp; omega
      rw [e3]
      have : i - j = (i - j - 1) + 1 := by omega
      rw [this, List.getElem?_cons_succ, List.getElem?_drop]
      have : j + 1 + (i - j - 1) = i := by omega
      rw [this]; simp
theorem erase_at {α : Type} (l : Array α) (j : Nat) : (l.eraseIdxIfInBounds j).toList = l.toList.take j ++ l.toList.drop (j + 1) := by
  rw [Array.toList_eraseIdxIfInBounds, List.eraseIdx_eq_take_drop_succ]

section
variable {P : Program} {E : Env} {r : Rho} {h h' : Hp} {w : World}

theorem MR.find {es : List Me} {xs : Array MapEntry} {clock : Nat} (hm : MR r es xs clock) {e : Me} {l1 l2 : List Me} (he : es = l1 ++ e :: l2) {j : Nat} {y : MapEntry} (hj : xs[j]? = some y) (hr : MeR r e y) :
    ∃ m1 m2, (m1 ++ m2).Perm (xs.toList.take j ++ xs.toList.drop (j + 1)) ∧ F2 (MeR r) l1 m1 ∧ F2 (MeR r) l2 m2 := by
  obtain ⟨l, hp, hl⟩ := hm.ents
  subst he
  obtain ⟨m1, z, m2, rfl, h1, h2, h3⟩ := hl.split
  have hj' : xs.toList[j]? = some y := by simpa using hj
  have hzy : z = y := by
    refine nodup_inj hm.apart (hp.mem_iff.1 (by simp)) (List.mem_of_getElem? hj') ?_
    have := h2.born
    rw [hr.born] at this
    exact (Int.ofNat.inj (Option.some.inj this)).symm
  subst hzy
  refine ⟨m1, m2, ?_, h1, h3⟩
  rw [list_at hj'] at hp
  exact List.Perm.cons_inv (List.perm_middle.symm.trans (hp.trans List.perm_middle))
theorem MR.setAt {es : List Me} {xs : Array MapEntry} {clock : Nat} (hm : MR r es xs clock) {e e' : Me} {l1 l2 : List Me} (he : es = l1 ++ e :: l2) {j : Nat} {y y' : MapEntry} (hj : xs[j]? = some y) (hr : MeR r e y) (hk : e'.k = e.k) (hb : y'.born = y.born) (hr' : MeR r e' y') {f : MapEntry → MapEntry} (hf : f y = y') :
    MR r (l1 ++ e' :: l2) (xs.modify j f) clock := by
  obtain ⟨m1, m2, hp, h1, h2⟩ := hm.find he hj hr
  have hj' : xs.toList[j]? = some y := by simpa using hj
  have hmod := modify_at hj f
  rw [hf] at hmod
  refine ⟨⟨m1 ++ y' :: m2, ?_, h1.append (.cons hr' h2)⟩, ?_, ?_, ?_⟩
  · rw [hmod]
    exact List.perm_middle.trans ((hp.cons y').trans List.perm_middle.symm)
  · have := hm.keys
    rw [he] at this
    have e1 : (l1 ++ e' :: l2).map Me.k = (l1 ++ e :: l2).map Me.k := by simp [hk]
    have p1 : ((l1 ++ e :: l2).map Me.k).Pairwise (fun a b => eqCell a b = some false) := List.pairwise_map.2 this
    rw [← e1] at p1
    exact List.pairwise_map.1 p1
  · intro x hx
    rw [hmod] at hx
    simp only [List.mem_append, List.mem_cons] at hx
    have hb2 := hm.born y (List.mem_of_getElem? hj')
    rcases hx with hx | rfl | hx
    · exact hm.born x (List.mem_of_mem_take hx)
    · omega
    · exact hm.born x (List.mem_of_mem_drop hx)
  · rw [hmod]
    have := hm.apart
    rw [list_at hj'] at this
    simpa [hb] using this
theorem MR.del {es : List Me} {xs : Array MapEntry} {clock : Nat} (hm : MR r es xs clock) {e : Me} {l1 l2 : List Me} (he : es = l1 ++ e :: l2) {j : Nat} {y : MapEntry} (hj : xs[j]? = some y) (hr : MeR r e y) :
    MR r (l1 ++ l2) (xs.eraseIdxIfInBounds j) clock := by
  obtain ⟨m1, m2, hp, h1, h2⟩ := hm.find he hj hr
  have hj' : xs.toList[j]? = some y := by simpa using hj
  have her := erase_at xs j
  refine ⟨⟨m1 ++ m2, by rw [her]; exact hp, h1.append h2⟩, ?_, ?_, ?_⟩
  · have := hm.keys
    rw [he] at this
    exact this.sublist (List.Sublist.append_left (List.sublist_cons_self e l2) l1)
  · intro x hx
    rw [her] at hx
    simp only [List.mem_append] at hx
    rcases hx with hx | hx
    · exact hm.born x (List.mem_of_mem_take hx)
    · exact hm.born x (List.mem_of_mem_drop hx)
  · rw [her]
    have := hm.apart
    rw [list_at hj'] at this
    refine this.sublist ?_
    exact ((List.Sublist.append_left (List.sublist_cons_self y _) _)).map _
theorem MR.push {es : List Me} {xs : Array MapEntry} {clock : Nat} (hm : MR r es xs clock) {i : Nat} (hi : r.st i = none) {k v : V} {d : TD} (hk : keyOk d k = true) (hf : findV k es = some none) {x y : Value} (hx : VR r k x) (hy : VR r v y) :
    MR (r.stamp i clock) (es ++ [⟨i, k, v⟩]) (xs.push { key := x, val := y, born := clock }) (clock + 1) := by
  obtain ⟨l, hp, hl⟩ := hm.ents
  have hle := Rho.stamp_le (n := clock) hi
  refine ⟨⟨l ++ [{ key := x, val := y, born := clock }], by simpa using hp.append_right _, ?_⟩, ?_, ?_, ?_⟩
  · exact (hl.imp fun _ _ => MeR.ext hle).append (.cons ⟨VR.ext hle _ _ hx, VR.ext hle _ _ hy, by simp [Rho.stamp]⟩ .nil)
  · rw [List.pairwise_append]
    refine ⟨hm.keys, by simp, fun a ha b hb => ?_⟩
    simp at hb
    subst hb
    exact eqCell_symm (findV_none hf a ha) ⟨d, hk⟩
  · intro z hz
    simp at hz
    rcases hz with hz | rfl
    · have := hm.born z (by simpa using hz); omega
    · simp
  · have := hm.apart
    simp only [Array.toList_push, List.map_append, List.map_cons, List.map_nil]
    rw [List.nodup_append]
    refine ⟨this, by simp, fun a ha b hb => ?_⟩
    simp at hb
    subst hb
    simp only [List.mem_map] at ha
    obtain ⟨z, hz, rfl⟩ := ha
    have := hm.born z hz
    omega
end
end Go.Ev
namespace Go.Ev

section
variable {P : Program} {E : Env} {r : Rho} {h h' : Hp} {w : World}

theorem Stp.congr {r' : Rho} {h' h2 : Hp} {w' : World} (a : Stp P E r h w r' h' w') (hg : ∀ k, h2.get k = h'.get k) (hn : h2.nx = h'.nx) : Stp P E r h w r' h2 w' := by
  refine ⟨⟨?_, ?_, ?_, ?_⟩, by rw [hn]; exact a.nx, by rw [hn]; exact a.same, a.size, a.keep, ?_, a.os, a.out⟩
  · intro b o hb
    rw [hg] at hb
    rw [hn]
    exact a.rel.os b o hb
  · intro b b' o o' q q' h1 h2
    rw [hg] at h1 h2
    exact a.rel.inj b b' o o' q q' h1 h2
  · intro g hgl
    refine ⟨(a.rel.gl g hgl).1, fun b o q h1 => ?_⟩
    rw [hg] at h1
    exact (a.rel.gl g hgl).2 b o q h1
  · intro b m s k h1 hk
    rw [hg] at h1 ⊢
    exact a.rel.it b m s k h1 (by rw [hk, hn])
  · intro k hk ho b o q h1
    rw [hg] at h1
    exact a.img k hk ho b o q h1
theorem key_eq {d : TD} {k : V} (hk : keyOk d k = true) {x y : Value} (hx : VR r k x) (hy : VR r k y) : x = y ∧ Instr.sameBits 10000 x y = true := by
  rcases keyOk_cases hk with ⟨j, _, i, n, rfl⟩ | ⟨_, s, rfl⟩ | ⟨_, b, rfl⟩
  · obtain rfl : x = _ := hx
    obtain rfl : y = _ := hy
    exact ⟨rfl, by simp [Instr.sameBits]⟩
  · obtain ⟨t, rfl, h1⟩ := hx
    obtain ⟨t', rfl, h2⟩ := hy
    have : t = t' := by
      have h3 := (bytesOf_inj (s := t) (t := t'))
      rw [h1, h2] at h3
      simp only [BEq.rfl] at h3
      have h3 := h3.symm
      rw [ByteArray.toList_eq, ByteArray.toList_eq, beq_iff_eq, Array.toList_inj] at h3
      exact ByteArray.ext h3
    subst this
    refine ⟨rfl, ?_⟩
    have : (t == t) = true := by rw [ba_beq]; simp
    simp [Instr.sameBits, this]
  · obtain rfl : x = _ := hx
    obtain rfl : y = _ := hy
    exact ⟨rfl, by simp [Instr.sameBits]⟩
theorem stays_run {d : TD} {k : V} (hk : keyOk d k = true) {x y : Value} (hx : VR r k x) (hy : VR r k y) : (Instr.keyThatStays x y).run P w = .ok y w := by
  unfold Instr.keyThatStays
  rw [if_pos (key_eq hk hx hy).2]
  rfl
theorem run_getMap {b : Nat} {xs : Array MapEntry} {c : Nat} (hw : w.heap[b]? = some (.map xs c)) : (getObj b).run P w = .ok (.map xs c) w := by simp [getObj, Sem.run, hw]
theorem run_setMap {b : Nat} {xs : Array MapEntry} {c : Nat} (hw : w.heap[b]? = some (.map xs c)) (ob : Obj) : (setObj b ob).run P w = .ok () (setB w b ob) := by simp [setObj, Sem.run, hw, setB]

theorem update_sound (hR : Rel P E r h w) {t kt et : Nat} {ti ki : TI} (ht : TiAt P t ti) (hd : ti.d = .map kt et) (hk : TiAt P kt ki) {m k v : V} {x y z : Value} (hm : VR r m x) (hkv : VR r k y) (hv : VR r v z)
    (hf : Free h.nx h'.nx r) (hu : updateM ki.d m k v h = some h') : ∃ r' w', (Instr.mapUpdate t x y z).run P w = .ok () w' ∧ Stp P E r h w r' h' w' := by
  obtain ⟨ho, h2⟩ := bif_some hu
  rw [ht.td] at hd
  have hd := tdOf_map hd
  split at h2
  · rename_i b
    split at h2
    · rename_i es hb
      obtain ⟨es', hes, h3⟩ := ob_some h2
      cases h3
      obtain ⟨q, ob, hq, hw, xs, clock, rfl, hmr⟩ := hR.os _ _ hb
      obtain ⟨q', hq', rfl⟩ := hm
      rw [hq] at hq'
      cases hq'
      have hnx : r.st h.nx = none := hf.st _ (Nat.le_refl _) (Nat.lt_succ_self _)
      unfold Instr.mapUpdate
      simp only [Sem.run_bind, run_underlying' ht.hd, Result.andThen_ok, hd, run_getMap hw, checkKey_run hk ho hkv]
      rcases updV_spec hes with ⟨h4, rfl⟩ | ⟨e, l1, l2, h4, rfl, h5, rfl⟩
      · obtain ⟨g, hg, h6⟩ := find_sound (w := w) hk ho hkv hmr h4
        subst h6
        refine ⟨r.stamp h.nx clock, _, by simp only [hg, Result.andThen_ok, run_setMap hw]; rfl, ?_⟩
        exact hR.up hb hq hw (Rho.stamp_le hnx) (Rho.stamp_same _ _ _) (fun _ => rfl) (Nat.le_succ _) ⟨_, _, rfl, hmr.push hnx ho h4 hkv hv⟩ (fun e => absurd e (Nat.ne_of_lt (Nat.lt_succ_self _)))
      · obtain ⟨g, hg, j, u, _, rfl, hj, hr, h8⟩ := find_sound (w := w) hk ho hkv hmr h4
        have hke := eqCell_same ho h8
        have hst : (Instr.keyThatStays u.key y).run P w = .ok y w := stays_run ho (by rw [hke]; exact hr.key) hkv
        refine ⟨r, setB w q.blk (.map (xs.modify j fun e => { e with key := y, val := z }) clock), ?_, ?_⟩
        · simp only [hg, Result.andThen_ok, hj, Option.map_some, Option.getD_some, Sem.run_bind, hst, run_setMap hw]
        · refine hR.up hb hq hw (Le.refl r) (Same.refl _ _ _) (fun _ => rfl) (Nat.le_succ _) ⟨_, _, rfl, ?_⟩ (fun e => absurd e (Nat.ne_of_lt (Nat.lt_succ_self _)))
          exact hmr.setAt (e' := ⟨e.i, k, v⟩) (y' := { key := y, val := z, born := u.born }) (f := fun e => { e with key := y, val := z }) rfl hj hr hke rfl ⟨hkv, hv, hr.born⟩ rfl
    · cases h2
  · cases h2
theorem entry_sound (hR : Rel P E r h w) {t kt et : Nat} {ti ki ei : TI} (ht : TiAt P t ti) (hd : ti.d = .map kt et) (hk : TiAt P kt ki) (he : TiAt P et ei) {m k u : V} {x y : Value} (hm : VR r m x) (hkv : VR r k y)
    (hf : Free h.nx h'.nx r) (hu : entryM ki.d ei.zero m k h = some (u, h')) : ∃ z r' w', (Instr.mapEntry t x y).run P w = .ok z w' ∧ VR r' u z ∧ Stp P E r h w r' h' w' := by
  obtain ⟨ho, h2⟩ := bif_some hu
  rw [ht.td] at hd
  have hd := tdOf_map hd
  split at h2
  · rename_i b
    split at h2
    · rename_i es hb
      obtain ⟨f, hfd, h3⟩ := ob_some h2
      obtain ⟨q, ob, hq, hw, xs, clock, rfl, hmr⟩ := hR.os _ _ hb
      obtain ⟨q', hq', rfl⟩ := hm
      rw [hq] at hq'
      cases hq'
      obtain ⟨g, hg, h6⟩ := find_sound (w := w) hk ho hkv hmr hfd
      unfold Instr.mapEntry
      simp only [Sem.run_bind, run_underlying' ht.hd, Result.andThen_ok, hd, run_getMap hw, checkKey_run hk ho hkv, hg]
      split at h3
      · rename_i e
        cases h3
        obtain ⟨j, z, hmem, rfl, hj, hr, h8⟩ := h6
        have hke := eqCell_same ho h8
        have hst : (Instr.keyThatStays z.key y).run P w = .ok y w := stays_run ho (by rw [hke]; exact hr.key) hkv
        obtain ⟨l1, l2, he2⟩ := List.append_of_mem hmem
        refine ⟨.tuple #[z.val, goInt z.born], r, setB w q.blk (.map (xs.modify j fun e => { e with key := y }) clock), ?_, ⟨_, rfl, ?_⟩, ?_⟩
        · simp only [hj, Option.map_some, Option.getD_some, Sem.run_bind, hst, Result.andThen_ok, run_setMap hw, Sem.run_pure]
        · exact ⟨_, _, rfl, hr.val, _, _, rfl, ⟨z.born, hr.born, rfl⟩, rfl⟩
        · refine (hR.set (o' := .map (l1 ++ e :: l2)) (ob' := .map (xs.modify j fun e => { e with key := y }) clock) hb hq hw ⟨_, _, rfl, hmr.setAt (y' := { key := y, val := z.val, born := z.born }) he2 hj hr rfl rfl ⟨by rw [← hke]; exact hkv, hr.val, hr.born⟩ rfl⟩ (fun _ _ e => by cases e; exact ⟨_, rfl⟩)).congr (fun k => ?_) rfl
          rw [Hp.get_set]
          by_cases e3 : k = b
          · subst e3; rw [if_pos rfl, hb, he2]
          · rw [if_neg e3]
      · cases hz : updV h.nx k ei.zero es with
        | none => rw [hz] at h3; cases h3
        | some es' =>
          rw [hz] at h3
          cases h3
          subst h6
          have hnx : r.st h.nx = none := hf.st _ (Nat.le_refl _) (Nat.lt_succ_self _)
          rcases updV_spec hz with ⟨h4, rfl⟩ | ⟨e, l1, l2, h4, _⟩
          · refine ⟨.tuple #[he.z, goInt clock], r.stamp h.nx clock, setB w q.blk (.map (xs.push { key := y, val := he.z, born := clock }) (clock + 1)), by simp only [run_zeroValue he.hi he.hz, Result.andThen_ok, Sem.run_bind, run_setMap hw, Sem.run_pure], ⟨_, rfl, ?_⟩, ?_⟩
            · exact ⟨_, _, rfl, absVal_rel _ he.zero, _, _, rfl, ⟨clock, by simp [Rho.stamp], rfl⟩, rfl⟩
            · exact hR.up (o' := .map (es ++ [⟨h.nx, k, ei.zero⟩])) hb hq hw (Rho.stamp_le hnx) (Rho.stamp_same _ _ _) (fun _ => rfl) (Nat.le_succ _) ⟨_, _, rfl, hmr.push hnx ho h4 hkv (absVal_rel r he.zero)⟩ (fun e => absurd e (Nat.ne_of_lt (Nat.lt_succ_self _)))
          · rw [hfd] at h4; cases h4
    · cases h2
  · cases h2

theorem entryStore_sound (hR : Rel P E r h w) {t : Nat} {m s v : V} {x y z : Value} (hm : VR r m x) (hs : VR r s y) (hv : VR r v z) (hu : entryStoreM m s v h = some h') :
    ∃ w', (Instr.entryStore t x y z).run P w = .ok () w' ∧ Stp P E r h w r h' w' := by
  unfold entryStoreM at hu
  split at hu
  · rename_i b i
    split at hu
    · rename_i es hb
      obtain ⟨es', hes, h3⟩ := ob_some hu
      cases h3
      obtain ⟨q, ob, hq, hw, xs, clock, rfl, hmr⟩ := hR.os _ _ hb
      obtain ⟨q', hq', rfl⟩ := hm
      rw [hq] at hq'
      cases hq'
      obtain ⟨n, hn, rfl⟩ := hs
      obtain ⟨e, l1, l2, he, hi, rfl⟩ := setV_spec hes
      obtain ⟨l, hp, hl⟩ := hmr.ents
      obtain ⟨u, hu, hr⟩ := hl.mem e (by rw [he]; simp)
      have hun : (u.born : Int) = n := by have := hr.born; rw [hi, hn] at this; exact (Option.some.inj this).symm
      have humem := hp.mem_iff.1 hu
      have hfi : ∃ j, xs.findIdx? (fun e => (e.born : Int) == n) = some j ∧ xs[j]? = some u := by
        cases hf : xs.findIdx? (fun e => (e.born : Int) == n) with
        | none =>
          rw [Array.findIdx?_eq_none_iff] at hf
          have := hf u (by simpa using humem)
          simp [hun] at this
        | some j =>
          rw [Array.findIdx?_eq_some_iff_getElem] at hf
          obtain ⟨hj, h1, _⟩ := hf
          refine ⟨j, rfl, ?_⟩
          rw [Array.getElem?_eq_getElem hj]
          congr 1
          refine nodup_inj hmr.apart (by simp) humem ?_
          simp at h1
          omega
      obtain ⟨j, hj1, hj2⟩ := hfi
      refine ⟨setB w q.blk (.map (xs.modify j fun e => { e with val := z }) clock), ?_, ?_⟩
      · unfold Instr.entryStore
        simp only [Sem.run_bind, run_getMap hw, Result.andThen_ok, asInt, asIntOf, Sem.run_pure, hj1, run_setMap hw]
      · exact hR.set hb hq hw ⟨_, _, rfl, hmr.setAt (e' := ⟨e.i, e.k, v⟩) (y' := { key := u.key, val := z, born := u.born }) (f := fun e => { e with val := z }) he hj2 hr rfl rfl ⟨hr.key, hv, hr.born⟩ rfl⟩ (fun _ _ e => by cases e; exact ⟨_, rfl⟩)
    · cases hu
  · cases hu
theorem delete_sound (hE : TisOk P E) (hR : Rel P E r h w) {ts : Array Nat} {args : List V} {u : V} (hl : builtinV E .delete ts.toList args h = some (u, h')) {xs : Array Value} (hx : VRs r args xs.toList) {ty : TypeId} :
    ∃ z w', (Builtin.delete_ ts ty xs).run P w = .ok z w' ∧ VR r u z ∧ Stp P E r h w r h' w' := by
  rcases args with _ | ⟨m, _ | ⟨k, _ | ⟨_, _⟩⟩⟩ <;> dsimp only [builtinV] at hl <;> try (cases hl; done)
  obtain ⟨ti, ht, h2⟩ := ob_some hl
  obtain ⟨t, hts, ⟨tA⟩⟩ := tiOf_sound hE ht
  split at h2
  · rename_i kt et hd
    obtain ⟨ki, hk, h3⟩ := ob_some h2
    obtain ⟨kA⟩ := hE.at hk
    obtain ⟨ho, h4⟩ := bif_some h3
    rw [tA.td] at hd
    have hd := tdOf_map hd
    obtain ⟨x, l, he, hm, y, l', rfl, hkv, hnil⟩ := hx
    cases hnil
    obtain rfl : xs = #[x, y] := by rw [← Array.toList_inj, he]
    unfold Builtin.delete_
    simp only [hts, List.getElem?_toArray, List.getElem?_cons_zero, List.getElem?_cons_succ, Sem.run_bind, run_underlying' tA.hd, hd, Result.andThen_ok]
    split at h4
    · cases h4
      obtain rfl : x = _ := hm
      exact ⟨.tuple #[], w, by simp [checkKey_run kA ho hkv], ⟨_, rfl, rfl⟩, Stp.refl hR⟩
    · rename_i b
      split at h4
      · rename_i es hb
        obtain ⟨es', hes, h5⟩ := ob_some h4
        cases h5
        obtain ⟨q, ob, hq, hw, ents, clock, rfl, hmr⟩ := hR.os _ _ hb
        obtain ⟨q', hq', rfl⟩ := hm
        rw [hq] at hq'
        cases hq'
        simp only [Sem.run_bind, run_getMap hw, Result.andThen_ok, checkKey_run kA ho hkv]
        rcases delV_spec hes with ⟨h6, rfl⟩ | ⟨e, l1, l2, h6, rfl, h5, rfl⟩
        · obtain ⟨g, hg, h7⟩ := find_sound (w := w) kA ho hkv hmr h6
          subst h7
          refine ⟨.tuple #[], setB w q.blk (.map ents clock), by simp [hg, run_setMap hw], ⟨_, rfl, rfl⟩, ?_⟩
          exact hR.set hb hq hw ⟨_, _, rfl, hmr⟩ (fun _ _ e => by cases e; exact ⟨_, rfl⟩)
        · obtain ⟨g, hg, j, u, _, rfl, hj, hr, h8⟩ := find_sound (w := w) kA ho hkv hmr h6
          refine ⟨.tuple #[], setB w q.blk (.map (ents.eraseIdxIfInBounds j) clock), by simp [hg, run_setMap hw], ⟨_, rfl, rfl⟩, ?_⟩
          exact hR.set hb hq hw ⟨_, _, rfl, hmr.del rfl hj hr⟩ (fun _ _ e => by cases e; exact ⟨_, rfl⟩)
      · cases h4
    · cases h4
  · cases h2
end
end Go.Ev
namespace Go.Ev

section
variable {P : Program} {E : Env} {r : Rho} {h h' : Hp} {w w' : World}

theorem Rel.del (hR : Rel P E r h w) (b : Nat) (hnm : ∀ es, h.get b ≠ some (.map es)) : Stp P E r h w r (h.del b) w := by
  have hget : ∀ {k o}, (h.del b).get k = some o → h.get k = some o := by
    intro k o hk
    rw [Hp.get_del] at hk
    by_cases e : k = b
    · rw [if_pos e] at hk; cases hk
    · rwa [if_neg e] at hk
  refine ⟨⟨fun k o hk => hR.os k o (hget hk), fun a c o o' q q' h1 h2 => hR.inj a c o o' q q' (hget h1) (hget h2), fun g hg => ⟨(hR.gl g hg).1, fun k o q hk => (hR.gl g hg).2 k o q (hget hk)⟩, fun b1 m s k h1 hk => by
      obtain ⟨es, he⟩ := hR.it b1 m s k (hget h1) hk
      refine ⟨es, ?_⟩
      rw [Hp.get_del, if_neg]
      · exact he
      · intro e; subst e; exact hnm _ he⟩,
    Nat.le_refl _, Same.refl _ _ _, Nat.le_refl _, fun _ _ _ => rfl, fun k _ ho a o q hk => ho a o q (hget hk), rfl, rfl⟩

/-- A block of ours is now known by another number. -/
theorem Rel.moved (hR : Rel P E r h w) {b : Nat} {o o' : O} {q q' : RB} {ob ob' : Obj} (hb : h.get b = some o) (hq : r.bl b = some q) (hk : w.heap[q.blk]? = some ob) (hnm : ∀ xs c, ob ≠ Obj.map xs c)
    (hf : r.bl h.nx = none) (hq' : q'.blk = q.blk) (ho : OR P (r.put h.nx q') q' (setB w q.blk ob') (h.nx + 1) o' ob') (hni : ∀ m s k, o' ≠ .miter m s k := by intro _ _ _ e; cases e) : Stp P E r h w (r.put h.nx q') ((h.del b).new o') (setB w q.blk ob') := by
  have hlt := lt_of_get hk
  have hl : Le r (r.put h.nx q') := Rho.put_le hf
  have hw : ∀ (k : Nat) (xs : Array MapEntry) (c : Nat), w.heap[k]? = some (Obj.map xs c) → ∃ xs', (setB w q.blk ob').heap[k]? = some (Obj.map xs' c) := by
    intro k xs c hx
    rw [setB_get]
    by_cases e : k = q.blk
    · subst e
      rw [hk] at hx
      exact absurd (Option.some.inj hx) (hnm _ _)
    · exact ⟨xs, by rw [if_neg (by omega)]; exact hx⟩
  have hne : ∀ k o1, h.get k = some o1 → k ≠ h.nx := by
    intro k o1 h1 e
    subst e
    obtain ⟨q1, _, h2, _⟩ := hR.os _ _ h1
    rw [hf] at h2; cases h2
  have hget : ∀ k o1, ((h.del b).new o').get k = some o1 → (k = h.nx ∧ o1 = o') ∨ (k ≠ h.nx ∧ k ≠ b ∧ h.get k = some o1) := by
    intro k o1 h1
    rw [Hp.get_new] at h1
    by_cases e : k = (h.del b).nx
    · rw [if_pos e] at h1; cases h1; exact .inl ⟨e, rfl⟩
    · rw [if_neg e, Hp.get_del] at h1
      by_cases e2 : k = b
      · rw [if_pos e2] at h1; cases h1
      · rw [if_neg e2] at h1; exact .inr ⟨e, e2, h1⟩
  have hout : ∀ k, Out r h k → Out (r.put h.nx q') ((h.del b).new o') k := by
    intro k hko b1 o1 q1 h1 h2
    rcases hget _ _ h1 with ⟨rfl, rfl⟩ | ⟨h3, h4, h5⟩
    · rw [Rho.put_get] at h2; cases h2
      rw [hq']; exact hko _ _ _ hb hq
    · rw [Rho.put_get' _ _ h3] at h2
      exact hko _ _ _ h5 h2
  refine ⟨⟨?_, ?_, ?_, ?_⟩, Nat.le_succ _, Rho.put_same _ _ _, by rw [setB_size]; exact Nat.le_refl _, ?_, fun k _ => hout k, rfl, rfl⟩
  · intro b1 o1 h1
    rcases hget _ _ h1 with ⟨rfl, rfl⟩ | ⟨h3, h4, h5⟩
    · exact ⟨q', ob', Rho.put_get _ _ _, by rw [hq', setB_get, if_pos ⟨rfl, hlt⟩], ho⟩
    · obtain ⟨q1, ob1, h6, h7, h8⟩ := hR.os b1 o1 h5
      refine ⟨q1, ob1, hl.bl _ _ h6, ?_, h8.ext hl (Nat.le_succ _) (fun _ => hw)⟩
      rw [setB_get, if_neg]
      · exact h7
      · rintro ⟨h9, _⟩
        exact h4 (hR.inj b1 b o1 o q1 q h5 hb h6 hq h9)
  · intro b1 b2 o1 o2 q1 q2 h1 h2 h3 h4 h5
    rcases hget _ _ h1 with ⟨rfl, rfl⟩ | ⟨e1, e2, e3⟩
    · rcases hget _ _ h2 with ⟨rfl, rfl⟩ | ⟨f1, f2, f3⟩
      · rfl
      · rw [Rho.put_get] at h3; cases h3
        rw [Rho.put_get' _ _ f1] at h4
        exact absurd (hR.inj b b2 o o2 q q2 hb f3 hq h4 (hq' ▸ h5)) (Ne.symm f2)
    · rw [Rho.put_get' _ _ e1] at h3
      rcases hget _ _ h2 with ⟨rfl, rfl⟩ | ⟨f1, f2, f3⟩
      · rw [Rho.put_get] at h4; cases h4
        exact absurd (hR.inj b1 b o1 o q1 q e3 hb h3 hq (h5.trans hq')) e2
      · rw [Rho.put_get' _ _ f1] at h4
        exact hR.inj b1 b2 o1 o2 q1 q2 e3 f3 h3 h4 h5
  · intro g hg
    obtain ⟨⟨x, hx, h1⟩, h2⟩ := hR.gl g hg
    refine ⟨⟨x, ?_, h1⟩, hout g h2⟩
    have : q.blk ≠ g := h2 b o q hb hq
    unfold World.cell? at hx ⊢
    simp only [setB_get]
    rw [if_neg (by omega)]
    exact hx
  · intro b1 m s k h1 hk1
    have hkn : k = h.nx + 1 := hk1
    rcases hget _ _ h1 with ⟨rfl, e⟩ | ⟨h3, h4, h5⟩
    · exact absurd e.symm (hni _ _ _)
    · obtain ⟨q1, ob1, h6, h7, h8⟩ := hR.os b1 _ h5
      have := h8.iter_le
      omega
  · intro k hk ho
    rw [setB_get, if_neg]
    rintro ⟨e, _⟩
    exact ho b o q hb hq e.symm

/-- A world that differs in what it has drawn alone. -/
theorem Stp.drawn (hR : Rel P E r h w) (hh : w'.heap = w.heap) (ho : w'.os = w.os) (hu : w'.output = w.output) : Stp P E r h w r h w' := by
  refine ⟨⟨?_, hR.inj, ?_, hR.it⟩, Nat.le_refl _, Same.refl _ _ _, by rw [hh]; exact Nat.le_refl _, fun _ _ _ => by rw [hh], fun _ _ h => h, ho, hu⟩
  · intro b o hb
    obtain ⟨q, ob, h1, h2, h3⟩ := hR.os b o hb
    exact ⟨q, ob, h1, by rw [hh]; exact h2, h3.ext (Le.refl r) (Nat.le_refl _) (fun _ k xs c hx => ⟨xs, by rw [hh]; exact hx⟩)⟩
  · intro g hg
    obtain ⟨⟨x, hx, h1⟩, h2⟩ := hR.gl g hg
    exact ⟨⟨x, by unfold World.cell? at hx ⊢; rw [hh]; exact hx, h1⟩, h2⟩

/-- What append takes. -/
theorem firstCells_sound (hR : Rel P E r h w) {es n m : Nat} {x : V} {cs : List V} (hf : firstCells es n x h = some cs) (hm : lenV x = some m) (hle : n ≤ m) {y : Value} (hx : VR r x y) :
    ∃ arr, (Builtin.firstCells es n y).run P w = .ok arr w ∧ VRs r cs arr.toList ∧ (x ≠ .nilslice → cs.length = n * es) := by
  unfold firstCells at hf
  split at hf
  · cases hf
    obtain rfl : y = _ := hx
    exact ⟨#[], rfl, rfl, fun h => absurd rfl h⟩
  · rename_i b o ln cp
    obtain ⟨bs, hbs, h2⟩ := ob_some hf
    obtain ⟨el, fz, q, c, lo, hi, _, hq, hw, hc⟩ := hR.cells hbs
    obtain ⟨h3, h4, h5⟩ := hc.sub h2
    have hlen : m = ln := by simpa [lenV, eq_comm] using hm
    subst hlen
    have hxx : (∃ k, y = .slice (some ⟨q.blk, q.sh + o, none⟩) m k) ∨ (m = 0 ∧ ∃ a, y = .slice (some a) 0 0) := by
      cases cp with
      | kn k =>
        obtain ⟨q', hq', he | ⟨h1, h2, a, he⟩⟩ := hx
        · rw [hq] at hq'; cases hq'; exact .inl ⟨_, he⟩
        · exact .inr ⟨h1, a, he⟩
      | un e lo =>
        obtain ⟨q', hq', ⟨k, he, _⟩ | ⟨h1, h2, a, he⟩⟩ := hx
        · rw [hq] at hq'; cases hq'; exact .inl ⟨_, he⟩
        · exact .inr ⟨h1, a, he⟩
    rcases hxx with ⟨k, rfl⟩ | ⟨h0, a, rfl⟩
    · exact ⟨_, by simp only [Builtin.firstCells]; exact run_loadRow hw h3, h4, fun _ => h5⟩
    · have : n = 0 := by omega
      subst this
      simp only [Nat.zero_mul] at h5
      have : cs = [] := List.eq_nil_of_length_eq_zero h5
      subst this
      exact ⟨#[], by simp [Builtin.firstCells, loadCells, loadCellsFrom], rfl, fun _ => by simp⟩
  · rename_i s
    obtain ⟨he, h2⟩ := bif_some hf
    obtain ⟨l, hl, h3⟩ := ob_some h2
    cases h3
    obtain ⟨h4, rfl⟩ := takeO_some _ _ _ hl
    obtain ⟨t, rfl, rfl⟩ := hx
    have he := Nat.eq_of_beq_eq_true he
    refine ⟨_, rfl, ?_, fun _ => by rw [bytesV_len, he]; simp; omega⟩
    have := bytesV_rel (r := r) (t.data.toList.take n)
    simp only [bytesOf, ← List.map_take]
    have e2 : ((t.extract 0 n).data.map fun b => Value.int .u8 b.toNat).toList = (t.data.toList.take n).map fun b => Value.int .u8 b.toNat := by
      simp [ByteArray.data_extract]
    rw [e2]
    exact this
  · cases hf
theorem lenOf_sound {x : V} {n : Nat} (hl : lenV x = some n) {y : Value} (hx : VR r x y) : (Builtin.lenOf y).run P w = .ok n w := by
  unfold lenV at hl
  split at hl
  · cases hl; obtain rfl : y = _ := hx; rfl
  · cases hl; obtain ⟨a, k, rfl, _⟩ := hx.slice_len; rfl
  · cases hl; obtain ⟨t, rfl, rfl⟩ := hx; rw [len_eq, bytesOf_length]; rfl
  · cases hl
end
end Go.Ev
