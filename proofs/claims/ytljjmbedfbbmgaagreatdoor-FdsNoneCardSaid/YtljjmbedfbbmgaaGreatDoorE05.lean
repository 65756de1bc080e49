/- An evaluator of the model's programs over abstract states, and the proof that the machine does what it says (part 5). No statement about the program. -/
import Derived.Test.YtljjmbedfbbmgaaGreatDoorE04
import Derived.Laws.RangeString
import Derived.AtR
import Derived.RangeFuncIn
namespace Go.Ev

section
variable {P : Program} {E : Env} {r : Rho} {h h' : Hp} {w w' : World}

theorem growBy_le (newLen : Nat) : ∀ (n c : Nat), Builtin.growBy newLen n c ≤ max c (newLen + (newLen + 768) / 4) := by
  intro n
  induction n with
  | zero => intro c; simp [Builtin.growBy]; omega
  | succ n ih =>
    intro c
    unfold Builtin.growBy
    split
    · omega
    · have := ih (c + (c + 768) / 4)
      omega
theorem next_le {need cap : Nat} (h : cap < need) (hn : need ≤ 67108864) : Builtin.nextslicecap need cap ≤ 134217728 := by
  unfold Builtin.nextslicecap
  split
  · omega
  · split
    · omega
    · have := growBy_le need 4 cap
      omega

structure AppArgs (P : Program) (ts : Array Nat) where
  t : Nat
  t1 : Nat
  el : Nat
  i : TypeInfo
  d1 : TypeDesc
  z : Value
  h0 : ts[0]? = some t
  h1 : ts[1]? = some t1
  hd : P.underlying t = some (.slice el)
  hd1 : P.underlying t1 = some d1
  hno : d1 = .string ∨ ∃ e, d1 = .slice e
  hi : P.info? el = some i
  hz : i.zero = some z

theorem append_place {ts : Array Nat} (A : AppArgs P ts) {base : Option Addr} {sLen sCap n : Nat} {x : Value} {ty : TypeId} (hn : (Builtin.lenOf x).run P w = .ok n w) (hle : sLen + n ≤ sCap) {arr : Array Value}
    (ha : (Builtin.firstCells A.i.size n x).run P w = .ok arr w) (hs : (match base with | some a => Go.storeCells (a.add (sLen * A.i.size)) arr.toList | none => pure ()).run P w = .ok () w') :
    (Builtin.append_ ts ty #[.slice base sLen sCap, x]).run P w = .ok (.slice base (sLen + n) sCap) w' := by
  unfold Builtin.append_
  have hd1 := A.hd1
  rcases A.hno with e1 | ⟨e, e1⟩ <;> rw [e1] at hd1
  all_goals
    simp only [A.h0, A.h1, List.getElem?_toArray, List.getElem?_cons_zero, List.getElem?_cons_succ, Sem.run_bind, run_underlying' A.hd, run_underlying' hd1, Result.andThen_ok, run_sizeOf A.hi, Sem.run_pure, Bool.false_eq_true, if_false, hn, hle, if_true, Bool.not_false, ha]
    cases base with
    | none => cases hs; rfl
    | some a => simp only at hs; simp only [Sem.run_bind, hs, Result.andThen_ok, Sem.run_pure]
theorem append_grow {ts : Array Nat} (A : AppArgs P ts) {base : Option Addr} {sLen sCap n : Nat} {x : Value} {ty : TypeId} (hn : (Builtin.lenOf x).run P w = .ok n w) (hlt : sCap < sLen + n) (hf1 : sLen + n ≤ 67108864) (hf2 : A.i.bytes ≤ 65536) {old new : Array Value}
    (ho : (Builtin.firstCells A.i.size sLen (.slice base sLen sCap)).run P { w with drawn := w.drawn + 1 } = .ok old { w with drawn := w.drawn + 1 })
    (ha : (Builtin.firstCells A.i.size n x).run P { w with drawn := w.drawn + 1 } = .ok new { w with drawn := w.drawn + 1 }) :
    ∃ cap, sLen + n ≤ cap ∧ (Builtin.append_ ts ty #[.slice base sLen sCap, x]).run P w = .ok (.slice (some ⟨w.heap.size, 0, none⟩) (sLen + n) cap) (pushB { w with drawn := w.drawn + 1 } (.cells (old ++ new ++ Builtin.zeroCells A.z.cells (cap - (sLen + n))) A.el)) := by
  let cap := Question.cut (.appendCap (sLen + n) sCap A.el) (w.tape w.drawn (.appendCap (sLen + n) sCap A.el))
  refine ⟨cap, Nat.le_add_right _ _, ?_⟩
  have hch : (choose (.appendCap (sLen + n) sCap A.el)).run P w = .ok cap { w with drawn := w.drawn + 1 } := by simp [choose, Sem.run, Question.forced, cap]
  have hroom : ∀ b w, (askRoom b).run P w = .ok () w := by intro b w; unfold askRoom; split <;> rfl
  have c1 : ¬ (sLen + n ≤ sCap) := by omega
  have c2 : ¬ (((sLen + n : Nat) : Int) > IntKind.i64.max) := by
    have : IntKind.i64.max = 9223372036854775807 := by decide
    omega
  have c3 : ¬ (Builtin.nextslicecap (sLen + n) sCap * A.i.bytes > 2 ^ 48) := by
    have h1 := next_le hlt hf1
    have := Nat.mul_le_mul h1 hf2
    omega
  unfold Builtin.append_
  have hd1 := A.hd1
  rcases A.hno with e1 | ⟨e, e1⟩ <;> rw [e1] at hd1
  all_goals
    simp only [A.h0, A.h1, List.getElem?_toArray, List.getElem?_cons_zero, List.getElem?_cons_succ, Sem.run_bind, run_underlying' A.hd, run_underlying' hd1, Result.andThen_ok, run_sizeOf A.hi, Sem.run_pure, Bool.false_eq_true, if_false, hn, c1, Bool.not_false, if_true,
      run_typeInfo A.hi, c2, false_and, c3, hch, hroom, ho, ha, run_zeroValue A.hi A.hz, run_newRow]

theorem zero_rows {z : List V} {zero : Array Value} (h : VRs r z zero.toList) (n : Nat) : VRs r (repl n z) (Builtin.zeroCells zero n).toList := by
  have := repl_rel h n
  exact this
theorem size_zero (zero : Array Value) (n : Nat) : (Builtin.zeroCells zero n).size = n * zero.size := by simp [Builtin.zeroCells]

/-- A row that append has made: the machine's has room behind it. -/
theorem grown_rel {el es n cap : Nat} {cs : List V} {row rest : Array Value} (hx : VRs r cs row.toList) (hn : cs.length = n * es) (hr : rest.size = (cap - n) * es) (hc : n ≤ cap) {r' : Rho} (hl : Le r r') {b k : Nat}
    (hb : r'.bl b = some ⟨k, 0, (row ++ rest).size⟩) : VR r' (.slice b 0 n (.un es n)) (.slice (some ⟨k, 0, none⟩) n cap) ∧ ∀ w'' nx, OR P r' ⟨k, 0, (row ++ rest).size⟩ w'' nx (.cells cs el false) (.cells (row ++ rest) el) := by
  have hrow : row.size = n * es := by have := hx.length; simp at this; omega
  refine ⟨⟨_, hb, .inl ⟨cap, rfl, hc, hc, ?_, by simp⟩⟩, fun _ _ => ⟨_, 0, 0, rfl, rfl, ?_, ?_, fun _ i _ _ => by simp, fun i _ => Nat.zero_mod _⟩⟩
  · simp only [Nat.zero_add, Array.size_append, hrow, hr]
    rw [← Nat.add_mul]; congr 1; omega
  · simp [hrow, hn]
  · intro i v hv
    obtain ⟨x, hx', hr'⟩ := (VRs.forall₂.1 (hx.ext' hl)).get i v hv
    have hlt := (List.getElem?_eq_some_iff.1 hx').1
    refine ⟨x, ?_, hr'⟩
    simp only [Nat.zero_add]
    rw [Array.getElem?_append_left (by simpa using hlt)]
    simpa using hx'

theorem append_sound (hE : TisOk P E) (hR : Rel P E r h w) {ts : Array Nat} {s x u : V} {ti t1 ei : TI} {el es eb : Nat} (h0 : tiOf E ts.toList 0 = some ti) (h1 : tiOf E ts.toList 1 = some t1) (hd : ti.d = .slice el es eb) (hd1 : t1.d = .string ∨ ∃ a b c, t1.d = .slice a b c)
    (he : E.ti el = some ei) (hz : Nat.beq (len ei.zero.cells) es = true) (hf : Free h.nx h'.nx r) (ha : appendV el es eb s x h = some (u, h')) {y z : Value} (hs : VR r s y) (hx : VR r x z) {ty : TypeId} :
    ∃ v r' w', (Builtin.append_ ts ty #[y, z]).run P w = .ok v w' ∧ VR r' u v ∧ Stp P E r h w r' h' w' := by
  obtain ⟨t, ht, ⟨tA⟩⟩ := tiOf_sound hE h0
  obtain ⟨t', ht', ⟨tA'⟩⟩ := tiOf_sound hE h1
  obtain ⟨eA⟩ := hE.at he
  rw [tA.td] at hd
  obtain ⟨hd2, i, hi, hes, heb⟩ := tdOf_slice hd
  rw [eA.hi] at hi
  cases hi
  have hdd : tA'.d = .string ∨ ∃ e, tA'.d = .slice e := by
    rcases hd1 with e | ⟨a, b, c, e⟩ <;> rw [tA'.td] at e
    · exact .inl (tdOf_string e)
    · exact .inr ⟨_, (tdOf_slice e).1⟩
  let A : AppArgs P ts := ⟨t, t', el, eA.i, tA'.d, eA.z, ht, ht', by rw [tA.hd, hd2], tA'.hd, hdd, eA.hi, eA.hz⟩
  have hzs : eA.z.cells.size = es := by
    have h1 := (absVal_rel r eA.zero).cells.length
    have h2 := Nat.eq_of_beq_eq_true hz
    rw [len_eq] at h2
    simp at h1
    omega
  obtain ⟨n, hn, h2⟩ := ob_some ha
  have hlen : ∀ w, (Builtin.lenOf z).run P w = .ok n w := fun w => lenOf_sound hn hx
  let w1 : World := { w with drawn := w.drawn + 1 }
  have hst1 : Stp P E r h w r h w1 := Stp.drawn hR rfl rfl rfl
  -- growth
  have grow : ∀ {h2 : Hp} {base : Option Addr} {sLen sCap : Nat} {old new : List V} {oldA newA : Array Value}, Stp P E r h w1 r h2 w1 → h2.nx = h.nx → sCap < sLen + n → fitsA (sLen + n) eb = true → Free h.nx (h.nx + 1) r →
      (Builtin.firstCells eA.i.size sLen (.slice base sLen sCap)).run P w1 = .ok oldA w1 → VRs r old oldA.toList → (Builtin.firstCells eA.i.size n z).run P w1 = .ok newA w1 → VRs r new newA.toList → (app old new).length = (sLen + n) * es →
      ∃ v r' w', (Builtin.append_ ts ty #[.slice base sLen sCap, z]).run P w = .ok v w' ∧ VR r' (.slice h2.nx 0 (sLen + n) (.un es (sLen + n))) v ∧ Stp P E r h w r' (h2.new (.cells (app old new) el false)) w' := by
    intro h2 base sLen sCap old new oldA newA hs2 hnx hlt hfit hfr ho hor hnw hnr hall
    obtain ⟨hf1, hf2⟩ : sLen + n ≤ 67108864 ∧ eA.i.bytes ≤ 65536 := by
      unfold fitsA at hfit
      cases hq : Nat.ble (sLen + n) 67108864 with
      | false => rw [hq] at hfit; cases hfit
      | true =>
        rw [hq] at hfit
        exact ⟨Nat.le_of_ble_eq_true hq, by rw [heb]; exact Nat.le_of_ble_eq_true hfit⟩
    obtain ⟨cap, hcap, hrun⟩ := append_grow A (ty := ty) (hlen w) hlt hf1 hf2 ho hnw
    have hrow : VRs r (app old new) (oldA ++ newA).toList := by
      rw [app_eq]; simp only [Array.toList_append]
      exact VRs.forall₂.2 ((VRs.forall₂.1 hor).append (VRs.forall₂.1 hnr))
    have hrest : (Builtin.zeroCells eA.z.cells (cap - (sLen + n))).size = (cap - (sLen + n)) * es := by rw [size_zero, hzs]
    have hnew := hs2.rel
    have hfn : r.bl h2.nx = none := hfr.bl _ (by omega) (by omega)
    refine ⟨_, r.put h2.nx ⟨w.heap.size, 0, (oldA ++ newA ++ Builtin.zeroCells eA.z.cells (cap - (sLen + n))).size⟩, _, hrun, ?_, ?_⟩
    · exact (grown_rel (P := P) (el := el) hrow hall hrest hcap (Rho.put_le hfn) (Rho.put_get _ _ _)).1
    · refine (hst1.trans hs2).trans (hnew.new hfn rfl rfl rfl rfl ?_)
      exact (grown_rel (P := P) (el := el) hrow hall hrest hcap (Rho.put_le hfn) (Rho.put_get _ _ _)).2 _ _
  have fc : ∀ {k m : Nat} {v : V} {cs : List V}, firstCells es k v h = some cs → lenV v = some m → k ≤ m → ∀ {y : Value}, VR r v y → ∀ {w2 : World}, Rel P E r h w2 → ∃ arr, (Builtin.firstCells eA.i.size k y).run P w2 = .ok arr w2 ∧ VRs r cs arr.toList ∧ (v ≠ .nilslice → cs.length = k * es) := by
    intro k m v cs h1 h2 h3 y h4 w2 hR2
    rw [hes]
    exact firstCells_sound hR2 h1 h2 h3 h4
  split at h2
  · -- onto nil
    obtain rfl : y = _ := hs
    cases h0n : Nat.beq n 0 with
    | true =>
      rw [h0n] at h2
      cases h2
      have : n = 0 := Nat.eq_of_beq_eq_true h0n
      subst this
      have hfx : ∃ arr, (Builtin.firstCells A.i.size 0 z).run P w = .ok arr w := by
        unfold lenV at hn
        split at hn
        · obtain rfl : z = _ := hx; exact ⟨_, rfl⟩
        · obtain ⟨a, k, rfl, _⟩ := hx.slice_len
          exact ⟨#[], by simp [Builtin.firstCells, loadCells, loadCellsFrom]⟩
        · obtain ⟨t, rfl, rfl⟩ := hx; exact ⟨_, rfl⟩
        · cases hn
      obtain ⟨arr, harr⟩ := hfx
      exact ⟨_, r, w, append_place A (hlen w) (Nat.le_refl _) harr rfl, rfl, Stp.refl hR⟩
    | false =>
      rw [h0n] at h2
      obtain ⟨new, hnew, h3⟩ := ob_some (show ob (firstCells es n x h) _ = some (u, h') from h2)
      obtain ⟨h4, h3⟩ := bif_some h3
      obtain ⟨h5, h3⟩ := bif_some h3
      cases h3
      have hne := Nat.ne_of_beq_eq_false h0n
      obtain ⟨arr, harr, hrel, hl⟩ := fc hnew hn (Nat.le_refl _) hx hst1.rel
      have hxn : x ≠ .nilslice := by
        intro e; subst e
        have : n = 0 := by simpa [lenV, eq_comm] using hn
        exact hne this
      have := grow (old := []) (sLen := 0) (base := none) (sCap := 0) (oldA := #[]) (Stp.refl hst1.rel) rfl (by omega) (by simpa using h4) hf rfl rfl harr hrel (by simpa [app] using hl hxn)
      simpa [app] using this
  · rename_i b o sn c
    cases hle : Nat.ble (sn + n) c with
    | true =>
      rw [hle] at h2
      obtain ⟨new, hnew, h3⟩ := ob_some (show ob (firstCells es n x h) _ = some (u, h') from h2)
      obtain ⟨h'', hst, h4⟩ := ob_some h3
      cases h4
      have hle := Nat.le_of_ble_eq_true hle
      obtain ⟨arr, harr, hrel, hl⟩ := fc hnew hn (Nat.le_refl _) hx hR
      obtain ⟨q, hq, he | ⟨e1, e2, a, he⟩⟩ := hs
      · subst he
        obtain ⟨w', hw', hstp⟩ := storeRow_sound hR hst hq hrel
        refine ⟨_, r, w', append_place A (hlen w) hle harr ?_, ⟨q, hq, .inl rfl⟩, hstp⟩
        simp only [add_none]
        have : q.sh + o + sn * A.i.size = q.sh + (o + sn * es) := by show q.sh + o + sn * eA.i.size = _; rw [hes]; omega
        rw [this]
        exact hw'
      · subst e1 e2
        have : n = 0 := by omega
        subst this
        have hnil : new = [] := by
          by_cases hxn : x = .nilslice
          · subst hxn; cases hnew; rfl
          · exact List.eq_nil_of_length_eq_zero (by simpa using hl hxn)
        subst hnil
        have harr0 : arr.toList = [] := hrel
        subst he
        obtain ⟨w', hw', hstp⟩ := storeRow_sound hR hst hq (xs := []) rfl
        cases hw'
        refine ⟨_, r, w, append_place A (hlen w) hle harr ?_, ⟨q, hq, .inr ⟨rfl, rfl, a, rfl⟩⟩, hstp⟩
        simp only [harr0]
        rfl
    | false =>
      rw [hle] at h2
      obtain ⟨new, hnew, h3⟩ := ob_some (show ob (firstCells es n x h) _ = some (u, h') from h2)
      obtain ⟨old, hold, h3⟩ := ob_some h3
      obtain ⟨h4, h3⟩ := bif_some h3
      obtain ⟨h5, h3⟩ := bif_some h3
      cases h3
      have hlt : c < sn + n := by
        rcases Nat.lt_or_ge c (sn + n) with h | h
        · exact h
        · rw [Nat.ble_eq_true_of_le h] at hle; cases hle
      obtain ⟨arr, harr, hrel, hl⟩ := fc hnew hn (Nat.le_refl _) hx hst1.rel
      obtain ⟨oarr, hoarr, horel, hol⟩ := fc hold rfl (Nat.le_refl _) hs hst1.rel
      obtain ⟨a', k', he, hk'⟩ := hs.slice_len
      have hkc := hk' _ rfl
      subst hkc he
      have hxl : new.length = n * es := by
        by_cases hxn : x = .nilslice
        · subst hxn
          have : n = 0 := by simpa [lenV, eq_comm] using hn
          subst this
          cases hnew; simp
        · exact hl hxn
      exact grow (Stp.refl hst1.rel) rfl hlt h4 hf hoarr horel harr hrel (by rw [app_eq, List.length_append, hol (by simp), hxl, Nat.add_mul])
  · rename_i b o sn e2 lo
    cases hle : Nat.ble (sn + n) lo with
    | true =>
      rw [hle] at h2
      obtain ⟨new, hnew, h3⟩ := ob_some (show ob (firstCells es n x h) _ = some (u, h') from h2)
      obtain ⟨h'', hst, h4⟩ := ob_some h3
      cases h4
      have hle := Nat.le_of_ble_eq_true hle
      obtain ⟨arr, harr, hrel, hl⟩ := fc hnew hn (Nat.le_refl _) hx hR
      obtain ⟨q, hq, ⟨c, he, hc1, hc2, hc3, hc4⟩ | ⟨e1, e2, a, he⟩⟩ := hs
      · subst he
        obtain ⟨w', hw', hstp⟩ := storeRow_sound hR hst hq hrel
        refine ⟨_, r, w', append_place A (hlen w) (Nat.le_trans hle hc2) harr ?_, ⟨q, hq, .inl ⟨c, rfl, by omega, hc2, hc3, hc4⟩⟩, hstp⟩
        simp only [add_none]
        have : q.sh + o + sn * A.i.size = q.sh + (o + sn * es) := by show q.sh + o + sn * eA.i.size = _; rw [hes]; omega
        rw [this]
        exact hw'
      · subst e1 e2
        have : n = 0 := by omega
        subst this
        have hnil : new = [] := by
          by_cases hxn : x = .nilslice
          · subst hxn; cases hnew; rfl
          · exact List.eq_nil_of_length_eq_zero (by simpa using hl hxn)
        subst hnil
        have harr0 : arr.toList = [] := hrel
        subst he
        obtain ⟨w', hw', hstp⟩ := storeRow_sound hR hst hq (xs := []) rfl
        cases hw'
        refine ⟨_, r, w, append_place A (hlen w) hle harr ?_, ⟨q, hq, .inr ⟨rfl, rfl, a, rfl⟩⟩, hstp⟩
        simp only [harr0]
        rfl
    | false =>
      rw [hle] at h2
      obtain ⟨h3, h2⟩ := bif_some (show (bif Nat.beq e2 es then _ else none) = some (u, h') from h2)
      have h3 := Nat.eq_of_beq_eq_true h3
      subst h3
      split at h2
      · rename_i cs e3 hg
        obtain ⟨h3, h2⟩ := bif_some h2
        have h3 := Nat.eq_of_beq_eq_true h3
        subst h3
        obtain ⟨new, hnew, h3⟩ := ob_some h2
        obtain ⟨old, hold, h3⟩ := ob_some h3
        obtain ⟨h4, h3⟩ := bif_some h3
        obtain ⟨h5, h3⟩ := bif_some h3
        cases h3
        have hlt : lo < sn + n := by
          rcases Nat.lt_or_ge lo (sn + n) with h | h
          · exact h
          · rw [Nat.ble_eq_true_of_le h] at hle; cases hle
        have hxl : new.length = n * e2 := by
          obtain ⟨_, _, _, hl⟩ := fc hnew hn (Nat.le_refl _) hx hst1.rel
          by_cases hxn : x = .nilslice
          · subst hxn
            have : n = 0 := by simpa [lenV, eq_comm] using hn
            subst this
            cases hnew; simp
          · exact hl hxn
        obtain ⟨a', k', he, _⟩ := hs.slice_len
        have hall : (app old new).length = (sn + n) * e2 := by
          obtain ⟨_, _, _, hol⟩ := fc hold rfl (Nat.le_refl _) hs hst1.rel
          rw [app_eq, List.length_append, hol (by simp), hxl, Nat.add_mul]
        by_cases hin : sn + n ≤ k'
        · -- in place
          obtain ⟨q, hq, ⟨c, he', hc1, hc2, hc3, hc4⟩ | ⟨e1, e2, a, he'⟩⟩ := hs
          · rw [he'] at he
            cases he
            subst he'
            obtain ⟨q', ob, hq', hw, c, l, hh, rfl, hc⟩ := hR.os _ _ hg
            rw [hq] at hq'
            cases hq'
            obtain ⟨arr, harr, hrel, _⟩ := fc hnew hn (Nat.le_refl _) hx hR
            have harrl : arr.toList.length = n * e2 := by rw [hrel.length, hxl]
            have hsz := hc.size
            have hk : (sn + n) * e2 ≤ k' * e2 := Nat.mul_le_mul_right _ hin
            rw [Nat.add_mul] at hk
            have hrun := run_storeRow (P := P) (b := q.blk) (o := q.sh + (o + sn * e2)) arr.toList 0 c w hw (by omega) (fun k h6 h7 => hc.melt rfl k (by omega) (by omega)) (allOne_vals h5 hrel)
            have hfn : r.bl h.nx = none := hf.bl _ (Nat.le_refl _) (Nat.lt_succ_self _)
            refine ⟨_, r.put h.nx ⟨q.blk, q.sh + o, q.sz⟩, setB w q.blk (.cells (putRow' c (q.sh + (o + sn * e2) + 0) arr.toList) e3 (l, hh)), append_place A (hlen w) hin harr ?_, ⟨_, Rho.put_get _ _ _, .inl ⟨k', rfl, hin, hin, by simpa using hc3, by simpa using hc4⟩⟩, hR.moved (ob' := .cells (putRow' c (q.sh + (o + sn * e2) + 0) arr.toList) e3 (l, hh)) hg hq hw (by intro _ _ e; cases e) hfn rfl ?_⟩
            · simp only [add_none]
              have : q.sh + o + sn * A.i.size = q.sh + (o + sn * e2) := by show q.sh + o + sn * eA.i.size = _; rw [hes]; omega
              rw [this]
              exact hrun
            · have hle' := Rho.put_le (q := ⟨q.blk, q.sh + o, q.sz⟩) hfn
              obtain ⟨bs, hbs, hsub⟩ := ob_some (show ob (h.cells b) _ = some old from hold)
              have hbs' : bs = cs := by
                unfold Hp.cells at hbs
                rw [hg] at hbs
                cases hbs; rfl
              subst hbs'
              obtain ⟨g1, g2⟩ := subO_some hsub
              have hwin := hc.win
              refine ⟨_, l, hh, rfl, by rw [putRow'_size]; exact hsz, ?_, ?_, fun _ i h6 h7 => hc.melt rfl i (Nat.le_trans (Nat.le_add_right _ _) h6) h7, fun i hi => ?_⟩
              · show q.sh + o + (app old new).length ≤ q.sz
                rw [hall, Nat.add_mul]; omega
              · intro i v hv
                have holdl : old.length = sn * e2 := by
                  rw [g2]; simp; omega
                rw [app_eq] at hv
                rw [putRow'_get _ _ _ _ (by omega)]
                by_cases hi : i < sn * e2
                · rw [List.getElem?_append_left (by omega), g2, List.getElem?_take, if_pos hi, List.getElem?_drop] at hv
                  obtain ⟨y, hy, hr⟩ := hc.get _ _ hv
                  refine ⟨y, ?_, VR.ext hle' _ _ hr⟩
                  rw [if_neg (by show ¬ (_ ≤ q.sh + o + i ∧ _); omega), ← hy]
                  congr 1; show q.sh + o + i = _; omega
                · rw [List.getElem?_append_right (by omega), holdl] at hv
                  obtain ⟨y, hy, hr⟩ := (VRs.forall₂.1 hrel).get _ _ hv
                  have hyl := (List.getElem?_eq_some_iff.1 hy).1
                  refine ⟨y, ?_, VR.ext hle' _ _ hr⟩
                  have e5 : q.sh + o + i - (q.sh + (o + sn * e2) + 0) = i - sn * e2 := by omega
                  show (if _ then arr.toList[q.sh + o + i - (q.sh + (o + sn * e2) + 0)]? else _) = _
                  rw [if_pos ⟨by show _ ≤ q.sh + o + i; omega, by show q.sh + o + i < _; omega⟩, e5]
                  exact hy
              · rw [eA.hi] at hi; cases hi; rw [hes]; exact hc4
          · rw [he'] at he; cases he; omega
        · obtain ⟨arr, harr, hrel, hl⟩ := fc hnew hn (Nat.le_refl _) hx hst1.rel
          obtain ⟨oarr, hoarr, horel, hol⟩ := fc hold rfl (Nat.le_refl _) hs hst1.rel
          subst he
          exact grow (hst1.rel.del b (fun es e => by rw [hg] at e; cases e)) rfl (by omega) h4 hf hoarr horel harr hrel hall
      · cases h2
  · cases h2
end
end Go.Ev
namespace Go.Ev

section
variable {P : Program} {E : Env} {r : Rho} {h h' : Hp} {w w' : World}

theorem three_of {x y : V} {args : Array Value} (h : VRs r [x, y] args.toList) : ∃ a b, args = #[a, b] ∧ VR r x a ∧ VR r y b := by
  obtain ⟨a, l, he, h1, b, l', rfl, h2, h3⟩ := h
  cases h3
  exact ⟨a, b, by rw [← Array.toList_inj, he], h1, h2⟩

theorem copy_sound (hE : TisOk P E) (hR : Rel P E r h w) {ts : Array Nat} {d x u : V} {ti : TI} {el es eb : Nat} (h0 : tiOf E ts.toList 0 = some ti) (hd : ti.d = .slice el es eb) (ha : copyV es d x h = some (u, h')) {y z : Value} (hs : VR r d y) (hx : VR r x z) {ty : TypeId} :
    ∃ v w', (Builtin.copy_ ts ty #[y, z]).run P w = .ok v w' ∧ VR r u v ∧ Stp P E r h w r h' w' := by
  obtain ⟨t, ht, ⟨tA⟩⟩ := tiOf_sound hE h0
  rw [tA.td] at hd
  obtain ⟨hd2, i, hi, rfl, _⟩ := tdOf_slice hd
  obtain ⟨n, hn, h2⟩ := ob_some ha
  obtain ⟨m, hm, h2⟩ := ob_some h2
  obtain ⟨cs, hcs, h2⟩ := ob_some h2
  have hk : (bif Nat.ble n m then n else m) = Nat.min n m := by
    cases hb : Nat.ble n m with
    | true => have := Nat.le_of_ble_eq_true hb; simp [Nat.min_eq_left this]
    | false =>
      have : m ≤ n := by rcases Nat.le_total n m with h | h; rw [Nat.ble_eq_true_of_le h] at hb; cases hb; exact h
      simp [Nat.min_eq_right this]
  simp only [hk] at hcs h2
  have hkn : Nat.min n m ≤ n := Nat.min_le_left _ _
  obtain ⟨arr, harr, hrel, hl⟩ := firstCells_sound hR hcs hn hkn hx
  have hu : (underlying t).run P w = .ok (.slice el) w := by rw [run_underlying' tA.hd, hd2]
  have hlen : (Builtin.lenOf z).run P w = .ok n w := lenOf_sound hn hx
  unfold Builtin.copy_
  cases d with
  | nilslice =>
    cases h2
    obtain rfl : y = _ := hs
    cases hm
    refine ⟨goInt (Nat.min n 0 : Nat), w, ?_, rfl, Stp.refl hR⟩
    simp only [ht, List.getElem?_toArray, List.getElem?_cons_zero, List.getElem?_cons_succ, Sem.run_bind, hu, Result.andThen_ok, hlen, run_sizeOf hi, harr, Sem.run_pure]
  | slice b o ln c =>
    obtain ⟨h'', hst, h4⟩ := ob_some h2
    cases h4
    have hm' : ln = m := by simpa [lenV] using hm
    subst hm'
    have hsh : ∃ q k, r.bl b = some q ∧ (y = .slice (some ⟨q.blk, q.sh + o, none⟩) ln k ∨ (ln = 0 ∧ ∃ a, y = .slice (some a) 0 0)) := by
      cases c with
      | kn k =>
        obtain ⟨q, hq, he | ⟨h1, h2, a, he⟩⟩ := hs
        · exact ⟨q, k, hq, .inl he⟩
        · exact ⟨q, 0, hq, .inr ⟨h1, a, he⟩⟩
      | un e lo =>
        obtain ⟨q, hq, ⟨k, he, _⟩ | ⟨h1, h2, a, he⟩⟩ := hs
        · exact ⟨q, k, hq, .inl he⟩
        · exact ⟨q, 0, hq, .inr ⟨h1, a, he⟩⟩
    obtain ⟨q, k, hq, rfl | ⟨e0, a, rfl⟩⟩ := hsh
    · obtain ⟨w', hw', hstp⟩ := storeRow_sound hR hst hq hrel
      refine ⟨goInt (Nat.min n ln : Nat), w', ?_, rfl, hstp⟩
      simp only [ht, List.getElem?_toArray, List.getElem?_cons_zero, List.getElem?_cons_succ, Sem.run_bind, hu, Result.andThen_ok, hlen, run_sizeOf hi, harr, Sem.run_pure, hw']
    · subst e0
      have hk0 : Nat.min n 0 = 0 := Nat.min_zero n
      have hnil : cs = [] := by
        by_cases hxn : x = .nilslice
        · subst hxn; rw [hk0] at hcs; cases hcs; rfl
        · have := hl hxn; rw [hk0] at this; exact List.eq_nil_of_length_eq_zero (by simpa using this)
      subst hnil
      have harr0 : arr.toList = [] := hrel
      obtain ⟨w', hw', hstp⟩ := storeRow_sound hR hst hq (xs := []) rfl
      cases hw'
      refine ⟨goInt (Nat.min n 0 : Nat), w, ?_, rfl, hstp⟩
      simp only [ht, List.getElem?_toArray, List.getElem?_cons_zero, List.getElem?_cons_succ, Sem.run_bind, hu, Result.andThen_ok, hlen, run_sizeOf hi, harr, Sem.run_pure, harr0, Go.storeCells]
  | _ => cases h2

theorem sliceData_sound (hR : Rel P E r h w) {ts : Array Nat} {x u : V} (hl : builtinV E .unsafeSliceData ts.toList [x] h = some (u, h')) {y : Value} (hx : VR r x y) {ty : TypeId} :
    ∃ v, (Builtin.unsafeSliceData_ ts ty #[y]).run P w = .ok v w ∧ VR r u v ∧ Stp P E r h w r h' w := by
  dsimp only [builtinV] at hl
  split at hl
  · cases hl; obtain rfl : y = _ := hx; exact ⟨.pointer none, rfl, rfl, Stp.refl hR⟩
  · rename_i b o n c
    cases hz : Nat.beq c 0 with
    | true => rw [hz] at hl; cases hl
    | false =>
      rw [hz] at hl
      cases hl
      have hne := Nat.ne_of_beq_eq_false hz
      obtain ⟨q, hq, rfl | ⟨_, h2, _⟩⟩ := hx
      · refine ⟨.pointer (some ⟨q.blk, q.sh + o, none⟩), Go.Lib.run_unsafeSliceData_row w ts ty _ _ _ hne, ⟨q, hq, rfl⟩, Stp.refl hR⟩
      · exact absurd h2 hne
  · rename_i b o n e lo
    cases hz : Nat.beq n 0 with
    | true => rw [hz] at hl; cases hl
    | false =>
      rw [hz] at hl
      cases hl
      have hne := Nat.ne_of_beq_eq_false hz
      obtain ⟨q, hq, ⟨c, rfl, h1, _⟩ | ⟨h2, _⟩⟩ := hx
      · have hc : c ≠ 0 := by omega
        refine ⟨.pointer (some ⟨q.blk, q.sh + o, none⟩), Go.Lib.run_unsafeSliceData_row w ts ty _ _ _ hc, ⟨q, hq, rfl⟩, Stp.refl hR⟩
      · exact absurd h2 hne
  · cases hl

theorem lies_bytes {e off n sz : Nat} (hs : P.cellsOf e = 1) (hf : off + n ≤ sz) : liesAt P P.depth e (sz / P.cellsOf e) off e n = true := by
  have hd : P.depth = (2 * (P.types.size + Made.depth) + 1) + 1 := rfl
  rw [hd]
  simp only [liesAt, Bool.or_eq_true]
  left
  rw [hd]
  simp [rowAt, hs, Nat.mod_one, hf, sameLayout]
theorem freeze_row {b o n : Nat} {c : Array Value} {t : TypeId} {fr : Nat × Nat} (hb : w.heap[b]? = some (.cells c t fr)) (hn : n ≠ 0) : ∃ lo hi, w.freeze ⟨b, o, none⟩ n = setB w b (.cells c t (lo, hi)) := by
  have hlt := lt_of_get hb
  have hb' : w.heap[b] = .cells c t fr := by simpa [hlt] using hb
  obtain ⟨lo, hi⟩ := fr
  refine ⟨(if lo == hi then (o, o + n) else (min lo o, max hi (o + n))).1, (if lo == hi then (o, o + n) else (min lo o, max hi (o + n))).2, ?_⟩
  unfold World.freeze setB
  rw [if_neg hn]
  congr 1
  apply Array.ext (by simp)
  intro i h1 h2
  simp only [Array.size_modify] at h1
  rw [Array.getElem_modify]
  by_cases h : b = i
  · subst h; simp [hb']
  · rw [Array.getElem_setIfInBounds h1]; simp [h]
theorem unsafeString_sound (hE : TisOk P E) (hR : Rel P E r h w) {ts : Array Nat} {p l u : V} (hl : builtinV E .unsafeString ts.toList [p, l] h = some (u, h')) {y z : Value} (hp : VR r p y) (hz : VR r l z) {ty : TypeId} :
    ∃ v w', (Builtin.unsafeString_ ts ty #[y, z]).run P w = .ok v w' ∧ VR r u v ∧ Stp P E r h w r h' w' := by
  dsimp only [builtinV] at hl
  obtain ⟨ti, ht, h2⟩ := ob_some hl
  obtain ⟨t, hts, ⟨tA⟩⟩ := tiOf_sound hE ht
  obtain ⟨n, hn, h2⟩ := ob_some h2
  obtain ⟨k, rfl⟩ := natOf_some hn
  obtain rfl : z = _ := hz
  have hmax : IntKind.i64.max = 9223372036854775807 := rfl
  cases p with
  | nilptr =>
    obtain ⟨h3, h4⟩ := bif_some h2
    cases h4
    have h3 := Nat.eq_of_beq_eq_true h3
    subst h3
    obtain rfl : y = _ := hp
    refine ⟨.string .empty, w, ?_, ⟨_, rfl, rfl⟩, Stp.refl hR⟩
    have hdef : Builtin.unsafeString_ ts ty #[.pointer none, .int k (Int.ofNat 0)] = (do
      let n ← asInt (.int k (Int.ofNat 0))
      let some _ := ts[0]? | stuck "unsafe.String: no argument types"
      if n < 0 then runtimePanic (.error "unsafe.String: len out of range")
      if n > IntKind.i64.max then unsupported (.unsafePointer "String: a length above the largest int")
      if n = 0 then pure (.string .empty)
      else runtimePanic (.error "unsafe.String: ptr is nil and len is not zero")) := rfl
    rw [hdef]
    simp [asInt, asIntOf, hmax, hts]
  | ptr b o =>
    obtain ⟨q, hq, rfl⟩ := hp
    have hdef : Builtin.unsafeString_ ts ty #[.pointer (some ⟨q.blk, q.sh + o, none⟩), .int k (Int.ofNat n)] = (do
      let m ← asInt (.int k (Int.ofNat n))
      let some pt := ts[0]? | stuck "unsafe.String: no argument types"
      if m < 0 then runtimePanic (.error "unsafe.String: len out of range")
      if m > IntKind.i64.max then unsupported (.unsafePointer "String: a length above the largest int")
      if m = 0 then pure (.string .empty)
      else if ← variablesAt ⟨q.blk, q.sh + o, none⟩ (← elemOf pt) m.toNat then do
        let s ← loadBytes ⟨q.blk, q.sh + o, none⟩ .empty m.toNat
        freeze ⟨q.blk, q.sh + o, none⟩ m.toNat
        pure (.string s)
      else unsupported (.unsafePointer "String: not so many bytes at ptr")) := rfl
    cases h0 : Nat.beq n 0 with
    | true =>
      have h0' := Nat.eq_of_beq_eq_true h0
      subst h0'
      cases h2
      refine ⟨.string .empty, w, ?_, ⟨_, rfl, rfl⟩, Stp.refl hR⟩
      rw [hdef]
      simp [asInt, asIntOf, hmax, hts]
    | false =>
      have hne := Nat.ne_of_beq_eq_false h0
      have h2 : (bif Nat.beq n 0 then some (V.str [], h) else bif Nat.ble n 9223372036854775807 then (match ti.d, h.get b with
        | .pointer u, some (.cells cs el _) => ob (E.ti el) fun ei => bif Nat.beq el u then bif Nat.beq ei.size 1 then ob (subO cs o n) fun l => ob (strOfBytes l) fun s => some (.str s, h.set b (.cells cs el true)) else none else none
        | _, _ => none) else none) = some (u, h') := h2
      rw [h0] at h2
      obtain ⟨h3, h2⟩ := bif_some (show (bif Nat.ble n 9223372036854775807 then _ else none) = some (u, h') from h2)
      have h3 := Nat.le_of_ble_eq_true h3
      split at h2
      · rename_i pe cs el fz hd hg
        obtain ⟨ei, he, h2⟩ := ob_some h2
        obtain ⟨eA⟩ := hE.at he
        obtain ⟨h4, h2⟩ := bif_some h2
        obtain ⟨h5, h2⟩ := bif_some h2
        obtain ⟨l, hsub, h2⟩ := ob_some h2
        obtain ⟨s, hs, h2⟩ := ob_some h2
        cases h2
        have h4 := Nat.eq_of_beq_eq_true h4
        have h5 := Nat.eq_of_beq_eq_true h5
        subst h4
        rw [tA.td] at hd
        have hd := tdOf_pointer hd
        obtain ⟨q', ob, hq', hw, c, lo, hi, rfl, hc⟩ := hR.os _ _ hg
        rw [hq] at hq'
        cases hq'
        obtain ⟨g1, g2, g3⟩ := hc.sub hsub
        obtain ⟨bs, rfl, hbs⟩ := strOfBytes_vals hs g2
        have hc1 : P.cellsOf el = 1 := by rw [cellsOf_eq eA.hi, ← eA.size, h5]
        have hbl : bs.length = n := by
          have := congrArg List.length hbs
          simp at this
          omega
        have hcell : ∀ j x, bs[j]? = some x → w.cell? ((⟨q.blk, q.sh + o, none⟩ : Addr).add j) = some (.int .u8 x.toNat) := by
          intro j x hx
          rw [add_none, cell_of hw]
          have hj := (List.getElem?_eq_some_iff.1 hx).1
          have : (c.extract (q.sh + o) (q.sh + o + n)).toList[j]? = some (.int .u8 x.toNat) := by rw [hbs]; simp [hx]
          rw [Array.getElem?_toList, Array.getElem?_extract] at this
          split at this
          · exact this
          · cases this
        have hlb := Go.Lib.run_loadBytes (P := P) w bs ⟨q.blk, q.sh + o, none⟩ .empty hcell
        rw [hbl] at hlb
        obtain ⟨lo', hi', hfr⟩ := freeze_row (o := q.sh + o) (n := n) hw hne
        have hlies := lies_bytes (P := P) (e := el) hc1 g1
        have hvar : (variablesAt ⟨q.blk, q.sh + o, none⟩ el n).run P w = .ok true w := by
          simp [variablesAt, program, shape, Sem.run, World.shape?, hw, hlies]
        have hel : (elemOf t).run P w = .ok el w := by simp [elemOf, run_underlying' tA.hd, hd]
        refine ⟨.string ⟨bs.toArray⟩, setB w q.blk (.cells c el (lo', hi')), ?_, ⟨_, rfl, by simp [bytesOf]⟩, ?_⟩
        · rw [hdef]
          have c1 : ¬ ((Int.ofNat n) < 0) := by rw [Int.ofNat_eq_natCast]; omega
          have c2 : ¬ ((Int.ofNat n) > IntKind.i64.max) := by rw [Int.ofNat_eq_natCast, hmax]; omega
          have c3 : ¬ (Int.ofNat n = 0) := by rw [Int.ofNat_eq_natCast]; omega
          have c4 : (Int.ofNat n).toNat = n := rfl
          simp only [asInt, asIntOf, Sem.run_bind, Sem.run_pure, Result.andThen_ok, hts, c1, c2, c3, if_false, c4, hel, hvar, if_true, hlb, run_freeze, hfr]
          simp
        · exact hR.set hg hq hw ⟨c, lo', hi', rfl, hc.size, hc.win, hc.get, (fun e => by cases e), hc.al⟩ (fun _ _ e => by cases e)
      · cases h2
  | _ => cases h2

theorem clear_sound (hE : TisOk P E) (hR : Rel P E r h w) {ts : Array Nat} {x u : V} (hl : builtinV E .clear ts.toList [x] h = some (u, h')) {y : Value} (hx : VR r x y) {ty : TypeId} :
    ∃ v w', (Builtin.clear_ ts ty #[y]).run P w = .ok v w' ∧ VR r u v ∧ Stp P E r h w r h' w' := by
  dsimp only [builtinV] at hl
  obtain ⟨ti, ht, h2⟩ := ob_some hl
  obtain ⟨t, hts, ⟨tA⟩⟩ := tiOf_sound hE ht
  unfold Builtin.clear_
  split at h2
  · rename_i el es eb b o n c hd
    obtain ⟨ei, he, h2⟩ := ob_some h2
    obtain ⟨eA⟩ := hE.at he
    obtain ⟨h'', hst, h2⟩ := ob_some h2
    obtain ⟨h3, h2⟩ := bif_some h2
    cases h2
    rw [tA.td] at hd
    obtain ⟨hd2, i, hi, rfl, _⟩ := tdOf_slice hd
    have hsh : ∃ q k, r.bl b = some q ∧ (y = .slice (some ⟨q.blk, q.sh + o, none⟩) n k ∨ (n = 0 ∧ ∃ a, y = .slice (some a) 0 0)) := by
      cases c with
      | kn k =>
        obtain ⟨q, hq, he | ⟨h1, h2, a, he⟩⟩ := hx
        · exact ⟨q, k, hq, .inl he⟩
        · exact ⟨q, 0, hq, .inr ⟨h1, a, he⟩⟩
      | un e lo =>
        obtain ⟨q, hq, ⟨k, he, _⟩ | ⟨h1, h2, a, he⟩⟩ := hx
        · exact ⟨q, k, hq, .inl he⟩
        · exact ⟨q, 0, hq, .inr ⟨h1, a, he⟩⟩
    have hz := zero_rows (absVal_rel r eA.zero).cells n
    obtain ⟨q, k, hq, hy⟩ := hsh
    obtain ⟨w', hw', hstp⟩ := storeRow_sound hR hst hq hz
    have hu : (underlying t).run P w = .ok (.slice el) w := by rw [run_underlying' tA.hd, hd2]
    by_cases hn : n = 0
    · subst hn
      have e0 : (Builtin.zeroCells eA.z.cells 0).toList = [] := by simp [Builtin.zeroCells]
      rw [e0] at hw'
      cases hw'
      refine ⟨.tuple #[], w, ?_, ⟨_, rfl, rfl⟩, hstp⟩
      rcases hy with rfl | ⟨_, a, rfl⟩ <;> simp [hts, hu]
    · rcases hy with rfl | ⟨e0, _⟩
      · refine ⟨.tuple #[], w', ?_, ⟨_, rfl, rfl⟩, hstp⟩
        obtain ⟨m, rfl⟩ : ∃ m, n = m + 1 := ⟨n - 1, by omega⟩
        simp [hts, hu, run_zeroValue eA.hi eA.hz, hw']
      · exact absurd e0 hn
  · rename_i hd
    cases h2
    obtain rfl : y = _ := hx
    rw [tA.td] at hd
    refine ⟨.tuple #[], w, by simp [hts, run_underlying' tA.hd], ⟨_, rfl, rfl⟩, Stp.refl hR⟩
  · cases h2
end
end Go.Ev
namespace Go.Ev

section
variable {P : Program} {E : Env} {r : Rho} {h h' : Hp} {w w' : World}

theorem range_sound (hR : Rel P E r h w) {t : Nat} {ti : TI} (ht : TiAt P t ti) {v u : V} {x : Value} (hv : VR r v x) (hf : Free h.nx h'.nx r)
    (hl : rangeV ti v h = some (u, h')) : ∃ z r' w', (Instr.range t x).run P w = .ok z w' ∧ VR r' u z ∧ Stp P E r h w r' h' w' := by
  unfold rangeV at hl
  have key : ∀ {o : O} {ob : Obj}, h' = h.new o → (∀ r' w'', Le r r' → OR P r' ⟨w.heap.size, 0, 0⟩ w'' (h.nx + 1) o ob) ∨ (∀ r', Le r r' → OR P r' ⟨w.heap.size, 0, 0⟩ (pushB w ob) (h.nx + 1) o ob) → (∀ m s k, o = .miter (some m) s k → ∃ es, h.get m = some (.map es)) → Stp P E r h w (r.put h.nx ⟨w.heap.size, 0, 0⟩) h' (pushB w ob) ∧ VR (r.put h.nx ⟨w.heap.size, 0, 0⟩) (.ptr h.nx 0) (.pointer (some ⟨w.heap.size, 0, none⟩)) := by
    intro o ob e hor hit
    subst e
    have hfn : r.bl h.nx = none := hf.bl _ (Nat.le_refl _) (Nat.lt_succ_self _)
    refine ⟨hR.new hfn rfl rfl rfl rfl ?_ hit, ⟨_, Rho.put_get _ _ _, rfl⟩⟩
    rcases hor with ho | ho
    · exact ho _ _ (Rho.put_le hfn)
    · exact ho _ (Rho.put_le hfn)
  split at hl
  · rename_i s hd
    cases hl
    obtain ⟨t', rfl, rfl⟩ := hv
    rw [ht.td] at hd
    obtain ⟨k1, k2⟩ := key (ob := .stringIter t' 0) rfl (.inr fun _ _ => ⟨rfl, _, rfl, rfl⟩) (fun _ _ _ e => by cases e)
    refine ⟨_, _, _, ?_, k2, k1⟩
    simp [Instr.range, run_underlying' ht.hd, tdOf_string hd, newObj, Sem.run, pushB]
  · rename_i hd
    cases hl
    obtain rfl : x = _ := hv
    rw [ht.td] at hd
    obtain ⟨k1, k2⟩ := key (ob := .mapIter none 0 #[] 0) rfl (.inr fun _ _ => ⟨rfl, rfl⟩) (fun _ _ _ e => by cases e)
    refine ⟨_, _, _, ?_, k2, k1⟩
    simp [Instr.range, run_underlying' ht.hd, tdOf_map hd, newObj, Sem.run, pushB]
  · rename_i b hd
    split at hl
    · rename_i es hb
      cases hl
      obtain ⟨q, ob, hq, hw, xs, clock, rfl, hm⟩ := hR.os _ _ hb
      obtain ⟨q', hq', rfl⟩ := hv
      rw [hq] at hq'
      cases hq'
      rw [ht.td] at hd
      obtain ⟨k1, k2⟩ := key (ob := .mapIter (some q.blk) clock #[] clock) rfl (.inr fun r' hl => ⟨rfl, q, clock, #[], clock, hl.bl _ _ hq, rfl, Nat.le_refl _, fun _ => ⟨xs, by
        have := lt_of_get hw
        simp only [pushB]
        rw [Array.getElem?_push, if_neg (by omega)]
        exact hw⟩, rfl, rfl⟩) (fun _ _ _ e => by cases e; exact ⟨es, hb⟩)
      refine ⟨_, _, _, ?_, k2, k1⟩
      simp [Instr.range, run_underlying' ht.hd, tdOf_map hd, run_getMap hw, newObj, Sem.run, pushB]
    · cases hl
  · cases hl

theorem ptr0 {b : Nat} {x : Value} (hv : VR r (.ptr b 0) x) {q : RB} (hq : r.bl b = some q) (h0 : q.sh = 0) : x = .pointer (some ⟨q.blk, 0, none⟩) := by
  obtain ⟨q', hq', rfl⟩ := hv
  rw [hq] at hq'
  cases hq'
  rw [h0]

theorem nextS_sound (hR : Rel P E r h w) {v u : V} {x : Value} (hv : VR r v x) {ty : TypeId} (hl : nextSV v h = some (u, h')) : ∃ z w', (Instr.next x true ty).run P w = .ok z w' ∧ VR r u z ∧ Stp P E r h w r h' w' := by
  unfold nextSV at hl
  split at hl
  · rename_i b
    split at hl
    · rename_i s pos hb
      obtain ⟨q, ob, hq, hw, h0, t, rfl, rfl⟩ := hR.os _ _ hb
      obtain rfl := ptr0 hv hq h0
      have hg : (getObj q.blk).run P w = .ok (.stringIter t pos) w := by simp [getObj, Sem.run, hw]
      unfold Instr.next
      simp only [Sem.run_bind, hg, Result.andThen_ok]
      split at hl
      · rename_i hn
        obtain ⟨h1, h2⟩ := bif_some hl
        cases h2
        have h1 := Nat.le_of_ble_eq_true h1
        rw [len_eq, bytesOf_length] at h1
        rw [if_neg (by omega)]
        exact ⟨_, w, rfl, ⟨_, rfl, _, _, rfl, rfl, rfl⟩, Stp.refl hR⟩
      · rename_i c hn
        obtain ⟨h1, h2⟩ := bif_some hl
        cases h2
        have h1 := Nat.le_of_ble_eq_true h1
        rw [nth_eq] at hn
        obtain ⟨bb, hbb, rfl⟩ := bytesOf_get hn
        have hlt : pos < t.size := by
          have := (List.getElem?_eq_some_iff.1 hn).1
          rwa [bytesOf_length] at this
        have hbe : t[pos] = bb := by rw [ByteArray.getElem?_lt' _ _ hlt] at hbb; exact Option.some.inj hbb
        have hdec := decode_ascii t pos hlt (by rw [hbe]; omega)
        rw [if_pos hlt, hdec, hbe]
        refine ⟨_, setB w q.blk (.stringIter t (pos + 1)), by simp [setObj, Sem.run, hw, setB]; rfl, ⟨_, rfl, ?_⟩, hR.set hb hq hw ⟨h0, t, rfl, rfl⟩ (fun _ _ e => by cases e)⟩
        exact ⟨_, _, rfl, rfl, _, _, rfl, rfl, _, _, rfl, rfl, rfl⟩
    · cases hl
  · cases hl

theorem MR.nil {xs : Array MapEntry} {clock : Nat} (hm : MR r [] xs clock) : xs = #[] := by
  obtain ⟨l, hp, hl⟩ := hm.ents
  cases hl
  have := hp.symm.eq_nil
  exact Array.toList_eq_nil_iff.1 this
theorem MR.single {e : Me} {xs : Array MapEntry} {clock : Nat} (hm : MR r [e] xs clock) : ∃ z, xs = #[z] ∧ MeR r e z ∧ z.born < clock := by
  obtain ⟨l, hp, hl⟩ := hm.ents
  cases hl with
  | cons h t =>
    cases t
    rename_i z
    have hx : xs.toList = [z] := List.perm_singleton.1 hp.symm
    refine ⟨z, by rw [← Array.toList_inj, hx], h, hm.born z (by rw [hx]; simp)⟩
theorem run_choose1 (n : Nat) (h : n ≤ 1) : (choose (.mapNext n)).run P w = .ok 0 w := by
  simp [choose, Sem.run, Question.forced, h]
theorem nextM_sound (hR : Rel P E r h w) {v u : V} {x : Value} (hv : VR r v x) {ty : TypeId} (hl : nextMV v h = some (u, h')) : ∃ z w', (Instr.next x false ty).run P w = .ok z w' ∧ VR r u z ∧ Stp P E r h w r h' w' := by
  have hF : ∀ q : MapEntry → Bool, Array.filter q (#[] : Array MapEntry) 0 0 = #[] := fun _ => rfl
  have hover : VR r (.tup [.bool false]) (.tuple #[.bool false]) := ⟨_, rfl, _, _, rfl, rfl, rfl⟩
  unfold nextMV at hl
  split at hl
  · rename_i b
    split at hl
    · rename_i hb
      obtain ⟨q, ob, hq, hw, h0, rfl⟩ := hR.os _ _ hb
      obtain rfl := ptr0 hv hq h0
      cases hl
      have hg : (getObj q.blk).run P w = .ok (.mapIter none 0 #[] 0) w := by simp [getObj, Sem.run, hw]
      refine ⟨_, w, ?_, hover, Stp.refl hR⟩
      unfold Instr.next
      simp only [Sem.run_bind, hg, Result.andThen_ok, Sem.run_pure]
    · rename_i m nx hb
      obtain ⟨q, ob, hq, hw, h0, p, since, sa, stepped, hp, rfl, hk, hc, rfl, rfl⟩ := hR.os _ _ hb
      obtain rfl := ptr0 hv hq h0
      have hg : (getObj q.blk).run P w = .ok (.mapIter (some p.blk) since #[] since) w := by simp [getObj, Sem.run, hw]
      unfold Instr.next
      split at hl
      · rename_i hm
        obtain ⟨_, h2⟩ := bif_some hl
        cases h2
        obtain ⟨p', ob, hp', hw', xs, clock, rfl, hmr⟩ := hR.os _ _ hm
        rw [hp] at hp'
        cases hp'
        cases hmr.nil
        refine ⟨_, w, ?_, hover, Stp.refl hR⟩
        simp only [Sem.run_bind, hg, Result.andThen_ok, run_getMap hw']
        simp [Question.forced, hF]
      · rename_i e hm
        obtain ⟨hnx, h2⟩ := bif_some hl
        cases h2
        have hnx := Nat.eq_of_beq_eq_true hnx
        obtain ⟨p', ob, hp', hw', xs, clock, rfl, hmr⟩ := hR.os _ _ hm
        rw [hp] at hp'
        cases hp'
        obtain ⟨z, rfl, hz, hzb⟩ := hmr.single
        obtain ⟨xs', hx'⟩ := hc hnx
        rw [hw'] at hx'
        cases hx'
        have hne : p.blk ≠ q.blk := by intro e; rw [e, hw] at hw'; cases hw'
        refine ⟨.tuple #[.bool true, z.key, z.val], setB w q.blk (.mapIter (some p.blk) since #[z.born] since), ?_, ⟨_, rfl, ?_⟩, hR.set hb hq hw ⟨h0, p, since, #[z.born], since, hp, rfl, Nat.le_refl _, fun _ => ⟨#[z], ?_⟩, z.born, hz.born, rfl, hzb⟩ (fun _ _ e => by cases e) (fun m' s k e _ => by cases e; exact ⟨(by intro e; subst e; rw [hb] at hm; cases hm), _, hm⟩)⟩
        · simp only [Sem.run_bind, hg, Result.andThen_ok, run_getMap hw']
          simp [hzb, Question.forced, setObj, Sem.run, hw, setB]
        · exact ⟨_, _, rfl, rfl, _, _, rfl, hz.key, _, _, rfl, hz.val, rfl⟩
        · rw [setB_get, if_neg (by omega)]; exact hw'
      · cases hl
    · rename_i m i nx hb
      obtain ⟨q, ob, hq, hw, h0, p, since, sa, stepped, hp, rfl, hk, hc, n, hn, rfl, hns⟩ := hR.os _ _ hb
      obtain rfl := ptr0 hv hq h0
      have hg : (getObj q.blk).run P w = .ok (.mapIter (some p.blk) since #[n] stepped) w := by simp [getObj, Sem.run, hw]
      unfold Instr.next
      split at hl
      · rename_i hm
        cases hl
        obtain ⟨p', ob, hp', hw', xs, clock, rfl, hmr⟩ := hR.os _ _ hm
        rw [hp] at hp'
        cases hp'
        cases hmr.nil
        refine ⟨_, w, ?_, hover, Stp.refl hR⟩
        simp only [Sem.run_bind, hg, Result.andThen_ok, run_getMap hw']
        simp [Question.forced, hF]
      · rename_i e hm
        obtain ⟨hei, h2⟩ := bif_some hl
        cases h2
        have hei := Nat.eq_of_beq_eq_true hei
        obtain ⟨p', ob, hp', hw', xs, clock, rfl, hmr⟩ := hR.os _ _ hm
        rw [hp] at hp'
        cases hp'
        obtain ⟨z, rfl, hz, hzb⟩ := hmr.single
        have hzn : z.born = n := by have := hz.born; rw [hei, hn] at this; exact (Int.ofNat.inj (Option.some.inj this)).symm
        refine ⟨_, w, ?_, hover, Stp.refl hR⟩
        simp only [Sem.run_bind, hg, Result.andThen_ok, run_getMap hw']
        have : ¬ (stepped ≤ n) := by omega
        simp [Question.forced, hzn, this]
      · cases hl
    · cases hl
  · cases hl
theorem entryI_sound (hR : Rel P E r h w) {v u : V} {x : Value} (hv : VR r v x) (hl : entryV v h = some (u, h')) : ∃ z w', (Instr.entry x).run P w = .ok z w' ∧ VR r u z ∧ Stp P E r h w r h' w' := by
  unfold entryV at hl
  split at hl
  · rename_i b
    split at hl
    · rename_i m i nx hb
      obtain ⟨q, ob, hq, hw, h0, p, since, sa, stepped, hp, rfl, hk, hc, n, hn, rfl, hns⟩ := hR.os _ _ hb
      obtain rfl := ptr0 hv hq h0
      have hg : (getObj q.blk).run P w = .ok (.mapIter (some p.blk) since #[n] stepped) w := by simp [getObj, Sem.run, hw]
      split at hl
      · rename_i e hm
        obtain ⟨hnx, h2⟩ := bif_some hl
        obtain ⟨hei, h2⟩ := bif_some h2
        cases h2
        have hnx := Nat.eq_of_beq_eq_true hnx
        have hei := Nat.eq_of_beq_eq_true hei
        obtain ⟨p', ob, hp', hw', xs, clock, rfl, hmr⟩ := hR.os _ _ hm
        rw [hp] at hp'
        cases hp'
        obtain ⟨z, rfl, hz, hzb⟩ := hmr.single
        obtain ⟨xs', hx'⟩ := hc hnx
        rw [hw'] at hx'
        cases hx'
        have hzn : z.born = n := by have := hz.born; rw [hei, hn] at this; exact (Int.ofNat.inj (Option.some.inj this)).symm
        refine ⟨.tuple #[z.key, z.val], w, ?_, ⟨_, rfl, _, _, rfl, hz.key, _, _, rfl, hz.val, rfl⟩, Stp.refl hR⟩
        unfold Instr.entry
        simp only [Sem.run_bind, hg, Result.andThen_ok]
        simp [hzn, run_getMap hw']
      · cases hl
    · cases hl
  · cases hl
end
end Go.Ev
namespace Go.Ev

section
variable {P : Program} {E : Env} {r : Rho} {h h' : Hp} {w w' : World}

theorem builtinE_sound (hE : TisOk P E) (hR : Rel P E r h w) {b : Builtin} (hb : readB b = false) {ts : Array Nat} {args : List V} {u : V} (hf : Free h.nx h'.nx r) (hl : builtinV E b ts.toList args h = some (u, h')) {xs : Array Value} (hx : VRs r args xs.toList) {ty : TypeId} {cs : Array Bool} :
    EAns P E r h (builtin b ts ty cs xs) u h' w := by
  have hl0 := hl
  unfold builtinV at hl
  split at hl
  · cases hb
  · cases hb
  · obtain ⟨y, z, rfl, h1, h2⟩ := three_of hx
    obtain ⟨ti, ht, h3⟩ := ob_some hl
    obtain ⟨t1, ht1, h3⟩ := ob_some h3
    split at h3
    · rename_i hd hd1
      obtain ⟨ei, he, h3⟩ := ob_some h3
      obtain ⟨hz, h3⟩ := bif_some h3
      obtain ⟨v, r', w', hv, hr, hs⟩ := append_sound hE hR ht ht1 hd (.inr ⟨_, _, _, hd1⟩) he hz hf h3 h1 h2 (ty := ty)
      exact EAns.val hv hr hs
    · rename_i hd hd1
      obtain ⟨ei, he, h3⟩ := ob_some h3
      obtain ⟨hz, h3⟩ := bif_some h3
      obtain ⟨v, r', w', hv, hr, hs⟩ := append_sound hE hR ht ht1 hd (.inl hd1) he hz hf h3 h1 h2 (ty := ty)
      exact EAns.val hv hr hs
    · cases h3
  · obtain ⟨y, z, rfl, h1, h2⟩ := three_of hx
    obtain ⟨ti, ht, h3⟩ := ob_some hl
    split at h3
    · rename_i hd
      obtain ⟨v, w', hv, hr, hs⟩ := copy_sound hE hR ht hd h3 h1 h2 (ty := ty)
      exact EAns.val hv hr hs
    · cases h3
  · cases hb
  · cases hb
  · obtain ⟨v, w', hv, hr, hs⟩ := delete_sound hE hR hl0 hx (ty := ty)
    exact EAns.val hv hr hs
  · obtain ⟨y, rfl, h1⟩ := two_of hx
    obtain ⟨v, hv, hr, hs⟩ := sliceData_sound hR hl0 h1 (ty := ty)
    exact EAns.val hv hr hs
  · obtain ⟨y, z, rfl, h1, h2⟩ := three_of hx
    obtain ⟨v, w', hv, hr, hs⟩ := unsafeString_sound hE hR hl0 h1 h2 (ty := ty)
    exact EAns.val hv hr hs
  · obtain ⟨y, rfl, h1⟩ := two_of hx
    obtain ⟨v, w', hv, hr, hs⟩ := clear_sound hE hR hl0 h1 (ty := ty)
    exact EAns.val hv hr hs
  · cases hl

theorem keyTi_sound (hE : TisOk P E) {t : Nat} {ki : TI} (h : keyTi E t = some ki) : ∃ ti kt et, Nonempty (TiAt P t ti) ∧ ti.d = .map kt et ∧ Nonempty (TiAt P kt ki) := by
  obtain ⟨ti, ht, h2⟩ := ob_some h
  split at h2
  · rename_i k e hd
    exact ⟨ti, k, e, hE.at ht, hd, hE.at h2⟩
  · cases h2

theorem execE_sound (hE : TisOk P E) (hR : Rel P E r h w) {n : Nat} {tm : T V} {a : Act} (hT : TR r n tm a.tmps) {o : Oper} {v : V} (hf : Free h.nx h'.nx r) (hx : execE E tm o.op h = some (v, h')) : EAns P E r h (execOp a.eval o) v h' w := by
  obtain ⟨dst, op, type, pos, after, guard⟩ := o
  simp only at hx
  unfold execE at hx
  split at hx
  · obtain ⟨ti, ht, h2⟩ := ob_some hx
    obtain ⟨tA⟩ := hE.at ht
    obtain ⟨av, hav, h2⟩ := ob_some h2
    obtain ⟨xv, hxv, h2⟩ := ob_some h2
    obtain ⟨h'', hs, h2⟩ := ob_some h2
    cases h2
    obtain ⟨w', hw, hst⟩ := store_sound hR tA (evo_sound hT hav) (evo_sound hT hxv) hs
    exact EAns.unit hw hst
  · obtain ⟨ki, hk, h2⟩ := ob_some hx
    obtain ⟨ti, kt, et, ⟨tA⟩, hd, ⟨kA⟩⟩ := keyTi_sound hE hk
    obtain ⟨mv, hmv, h2⟩ := ob_some h2
    obtain ⟨kv, hkv, h2⟩ := ob_some h2
    obtain ⟨xv, hxv, h2⟩ := ob_some h2
    obtain ⟨h'', hs, h2⟩ := ob_some h2
    cases h2
    obtain ⟨r', w', hw, hst⟩ := update_sound hR tA hd kA (evo_sound hT hmv) (evo_sound hT hkv) (evo_sound hT hxv) hf hs
    exact EAns.unit hw hst
  · obtain ⟨ki, hk, h2⟩ := ob_some hx
    obtain ⟨ti, kt, et, ⟨tA⟩, hd, ⟨kA⟩⟩ := keyTi_sound hE hk
    obtain ⟨mv, hmv, h2⟩ := ob_some h2
    obtain ⟨kv, hkv, h2⟩ := ob_some h2
    obtain ⟨xv, hxv, h2⟩ := ob_some h2
    obtain ⟨h'', hs, h2⟩ := ob_some h2
    cases h2
    obtain ⟨r', w', hw, hst⟩ := update_sound hR tA hd kA (evo_sound hT hmv) (evo_sound hT hkv) (evo_sound hT hxv) hf hs
    exact EAns.unit hw hst
  · obtain ⟨ti, ht, h2⟩ := ob_some hx
    obtain ⟨tA⟩ := hE.at ht
    split at h2
    · rename_i kt et hd
      obtain ⟨ki, hk, h2⟩ := ob_some h2
      obtain ⟨kA⟩ := hE.at hk
      obtain ⟨ei, he, h2⟩ := ob_some h2
      obtain ⟨eA⟩ := hE.at he
      obtain ⟨mv, hmv, h2⟩ := ob_some h2
      obtain ⟨kv, hkv, h2⟩ := ob_some h2
      obtain ⟨z, r', w', hw, hr, hst⟩ := entry_sound hR tA hd kA eA (evo_sound hT hmv) (evo_sound hT hkv) hf h2
      exact EAns.val hw hr hst
    · cases h2
  · obtain ⟨mv, hmv, h2⟩ := ob_some hx
    obtain ⟨sv, hsv, h2⟩ := ob_some h2
    obtain ⟨xv, hxv, h2⟩ := ob_some h2
    obtain ⟨h'', hs, h2⟩ := ob_some h2
    cases h2
    obtain ⟨w', hw, hst⟩ := entryStore_sound (t := _) hR (evo_sound hT hmv) (evo_sound hT hsv) (evo_sound hT hxv) hs
    exact EAns.unit hw hst
  · rename_i c
    split at hx
    · rename_i b hb
      cases hrb : readB b with
      | true => rw [hrb] at hx; cases hx
      | false =>
        rw [hrb] at hx
        obtain ⟨args, hargs, h2⟩ := ob_some (show ob (evos tm c.args.toList) _ = some (v, h') from hx)
        have := builtinE_sound hE hR hrb hf h2 (evos_sound hT hargs) (ty := type) (cs := c.args.map fun | .const _ => true | _ => false)
        obtain ⟨nx, x, r', w', h3, h4⟩ := this
        refine ⟨nx, x, r', w', ?_, h4⟩
        simp only [execOp, Sem.run_bind, resolve, hb, Sem.run_pure, Result.andThen_ok, invoke]
        exact h3
    · cases hx
  · obtain ⟨ti, ht, h2⟩ := ob_some hx
    obtain ⟨tA⟩ := hE.at ht
    obtain ⟨xv, hxv, h2⟩ := ob_some h2
    obtain ⟨z, r', w', hw, hr, hst⟩ := range_sound hR tA (evo_sound hT hxv) hf h2
    exact EAns.val hw hr hst
  · obtain ⟨xv, hxv, h2⟩ := ob_some hx
    obtain ⟨z, w', hw, hr, hst⟩ := nextS_sound hR (evo_sound hT hxv) (ty := type) h2
    exact EAns.val hw hr hst
  · obtain ⟨xv, hxv, h2⟩ := ob_some hx
    obtain ⟨z, w', hw, hr, hst⟩ := nextM_sound hR (evo_sound hT hxv) (ty := type) h2
    exact EAns.val hw hr hst
  · obtain ⟨xv, hxv, h2⟩ := ob_some hx
    obtain ⟨z, w', hw, hr, hst⟩ := entryI_sound hR (evo_sound hT hxv) h2
    exact EAns.val hw hr hst
  · cases hx
end
end Go.Ev
namespace Go.Ev

def ItR (r : Rho) : It → Item → Prop
  | .code c, i => i = .code c
  | .inBlock id, i => i = .inBlock id
  | .inLoop c, i => i = .inLoop c
  | .ops all rest, i => ∃ l, i = .inRegion all l ∧ l.map (fun j => all[j]?) = rest.map some
  | .inRF l, i => ∃ q, r.bl l = some q ∧ i = .inRangeFunc q.blk
  | .endRF l, i => ∃ q, r.bl l = some q ∧ i = .endRangeFunc q.blk
  | .beginRound, i => i = .beginRound
def MarkR (r : Rho) (d : Nat) (x : Deferred) : Prop := ∃ q, r.bl d = some q ∧ x = { target := .collected q.blk, args := #[] }
def RoR (r : Rho) : Option Nat → Option Nat → Prop
  | none, x => x = none
  | some l, x => ∃ q, r.bl l = some q ∧ x = some q.blk
structure FrR (r : Rho) (f : Fr) (fr : Frame) : Prop where
  fn : fr.fn = f.fn
  mode : fr.mode = .run
  kind : fr.kind = .normal
  tmps : TR r f.n f.tm fr.tmps
  todo : F2 (ItR r) f.todo fr.todo
  defers : F2 (MarkR r) f.ds fr.defers
  ro : RoR r f.ro fr.roundOf
section
variable {P : Program} {E : Env} {r r' : Rho} {h h' : Hp} {w w' : World}

theorem ItR.ext (hl : Le r r') {i : It} {x : Item} (h : ItR r i x) : ItR r' i x := by
  cases i with
  | inRF l => obtain ⟨q, hq, he⟩ := h; exact ⟨q, hl.bl _ _ hq, he⟩
  | endRF l => obtain ⟨q, hq, he⟩ := h; exact ⟨q, hl.bl _ _ hq, he⟩
  | _ => exact h
theorem MarkR.ext (hl : Le r r') {d : Nat} {x : Deferred} (h : MarkR r d x) : MarkR r' d x := by
  obtain ⟨q, hq, he⟩ := h; exact ⟨q, hl.bl _ _ hq, he⟩
theorem RoR.ext (hl : Le r r') {o x : Option Nat} (h : RoR r o x) : RoR r' o x := by
  cases o with
  | none => exact h
  | some l => obtain ⟨q, hq, he⟩ := h; exact ⟨q, hl.bl _ _ hq, he⟩
theorem FrR.ext (hl : Le r r') {f : Fr} {fr : Frame} (h : FrR r f fr) : FrR r' f fr :=
  ⟨h.fn, h.mode, h.kind, h.tmps.ext hl, h.todo.imp fun _ _ => ItR.ext hl, h.defers.imp fun _ _ => MarkR.ext hl, h.ro.ext hl⟩

/-- Is the operation wanted? -/
theorem want_sound {all : Array Oper} {n : Nat} {tm : T V} {tmps : Array Value} (hT : TR r n tm tmps) {o : Oper} {b : Bool} (h : wantA all.toList tm o.guard = some b) : Region.wanted o (yielded all tmps) = b := by
  unfold wantA at h
  unfold Region.wanted
  cases hg : o.guard with
  | none => rw [hg] at h; cases h; rfl
  | some gw =>
    obtain ⟨g, want⟩ := gw
    rw [hg] at h
    obtain ⟨og, ho, h2⟩ := ob_some h
    obtain ⟨d, hd, h2⟩ := ob_some h2
    obtain ⟨v, hv, h2⟩ := ob_some h2
    rw [nth_eq] at ho
    have ho' : all[g]? = some og := by simpa using ho
    have hr := hT.get d v hv
    simp only [yielded, ho', Option.bind_some, hd]
    split at h2
    · rename_i c
      cases h2
      have hr : tmps.getD d undef = .bool c := hr
      have : tmps[d]? = some (.bool c) := by
        cases ht : tmps[d]? with
        | none => rw [Array.getD_eq_getD_getElem?, ht] at hr; cases hr
        | some y => rw [Array.getD_eq_getD_getElem?, ht] at hr; rw [← hr]; rfl
      simp only [this]
      cases c <;> cases want <;> rfl
    · cases h2
    · rename_i h3 h4
      cases h2
      have hc : ∀ c, tmps.getD d undef ≠ .bool c := by
        intro c hc
        rw [hc] at hr
        cases v with
        | bool b => exact h3 _ rfl
        | unk => exact h4 rfl
        | slice b o n cp => obtain ⟨a, m, k, he⟩ := hr.slice_is; cases he
        | _ => simp [VR] at hr
      cases ht : tmps[d]? with
      | none => rfl
      | some y =>
        have hy : tmps.getD d undef = y := by simp [Array.getD_eq_getD_getElem?, ht]
        cases y <;> first | rfl | exact absurd hy (hc _)
end
end Go.Ev
namespace Go.Ev

/-- What the evaluator is told of the program's functions is so. -/
structure FnsOk (P : Program) (E : Env) : Prop where
  fn : ∀ f fn, E.fn f = some fn → P.funcs[f]? = some fn
  nm : ∀ f fn, E.fn f = some fn → (fn.name == "runtime.NumGoroutine") = false

section
variable {P : Program} {E : Env} {r r' : Rho} {h h' : Hp} {w w' : World}

theorem ops_cons {all : Array Oper} {l : List Nat} {o : Oper} {rest : List Oper} (h : l.map (fun j => all[j]?) = (o :: rest).map some) : ∃ i l', l = i :: l' ∧ all[i]? = some o ∧ l'.map (fun j => all[j]?) = rest.map some := by
  cases l with
  | nil => simp at h
  | cons i l' => simp at h; exact ⟨i, l', rfl, h.1, by simpa using h.2⟩

theorem finish_sound {c c' : Fr} {v : V} (hc : finish c v = some c') {fr : Frame} (hF : FrR r c fr) {x : Value} (hv : VR r v x) : FrR r c' (fr.finish x) := by
  unfold finish at hc
  have htodo := hF.todo
  split at hc
  · rename_i all o rest k e
    obtain ⟨tm, htm, h2⟩ := ob_some hc
    cases h2
    rw [e] at htodo
    cases hk : fr.todo with
    | nil => rw [hk] at htodo; cases htodo
    | cons it k' =>
      rw [hk] at htodo
      cases htodo with
      | cons h1 h2 =>
        obtain ⟨l, rfl, hl⟩ := h1
        obtain ⟨i, l', rfl, hi, hl'⟩ := ops_cons hl
        have hput := TR.put (a := ⟨fr.tmps, []⟩) hF.tmps hv htm
        have e3 : (match (all[i]?).bind (·.dst) with | some d => fr.tmps.setIfInBounds d x | none => fr.tmps) = (Act.put ⟨fr.tmps, []⟩ o.dst x).tmps := by
          rw [hi]; simp only [Option.bind_some]; cases o.dst <;> rfl
        unfold Frame.finish
        rw [hk]
        refine ⟨hF.fn, hF.mode, hF.kind, ?_, .cons ⟨l', rfl, hl'⟩ h2, hF.defers, hF.ro⟩
        show TR r c.n tm _
        rw [← e3] at hput
        exact hput
  · rename_i l k e
    cases hc
    rw [e] at htodo
    cases hk : fr.todo with
    | nil => rw [hk] at htodo; cases htodo
    | cons it k' =>
      rw [hk] at htodo
      cases htodo with
      | cons h1 h2 =>
        obtain ⟨q, hq, rfl⟩ := h1
        unfold Frame.finish
        rw [hk]
        exact ⟨hF.fn, hF.mode, hF.kind, hF.tmps, .cons ⟨q, hq, rfl⟩ h2, hF.defers, hF.ro⟩
  · cases hc

theorem fromArgs_get : ∀ (l : List V) (i : Nat) (t : T V) (k : Nat), (fromArgs l i t).get k = if i ≤ k ∧ k < i + l.length then l[k - i]? else t.get k := by
  intro l
  induction l with
  | nil => intro i t k; simp [fromArgs]; omega
  | cons v l ih =>
    intro i t k
    simp only [fromArgs]
    rw [ih, T.get_set]
    simp only [List.length_cons]
    by_cases h1 : i + 1 ≤ k ∧ k < i + 1 + l.length
    · rw [if_pos h1, if_pos (by omega)]
      have : k - i = (k - (i + 1)) + 1 := by omega
      rw [this]; simp
    · rw [if_neg h1]
      by_cases h2 : k = i
      · subst h2; rw [if_pos rfl, if_pos (by omega)]; simp
      · rw [if_neg h2, if_neg (by omega)]
theorem leaf_get {α : Type} (k : Nat) : (T.leaf : T α).get k = none := by simp [T.get]

theorem enter_sound (hF : FnsOk P E) {f : Nat} {args : List V} {c : Fr} (hc : enter E f args = some c) {xs : Array Value} (hx : VRs r args xs.toList) : FrR r c (Frame.enter P f xs .normal) ∧ (callFunc f xs).run P w = .ok (.enter f xs) w := by
  obtain ⟨fn, hfn, h2⟩ := ob_some hc
  obtain ⟨b, hb, h2⟩ := ob_some h2
  cases h2
  have hp := hF.fn _ _ hfn
  have hl : xs.size = args.length := by have := hx.length; simpa using this
  refine ⟨⟨rfl, rfl, rfl, ?_, ?_, .nil, rfl⟩, ?_⟩
  · simp only [Frame.enter, hp, Option.map_some, Option.getD_some]
    refine ⟨by simp [len_eq, hl], fun t v hv => ?_⟩
    rw [fromArgs_get, leaf_get] at hv
    split at hv
    · rename_i ht
      obtain ⟨x, hx', hr⟩ := (VRs.forall₂.1 hx).get _ _ (by simpa using hv)
      have : xs[t]? = some x := by simpa using hx'
      have hlt := (Array.getElem?_eq_some_iff.1 this).1
      have e : (xs ++ Array.replicate (fn.ntmps - xs.size) undef).getD t undef = x := by
        rw [Array.getD_eq_getD_getElem?, Array.getElem?_append_left hlt, this]; rfl
      rw [e]; exact hr
    · cases hv
  · simp only [Frame.enter, hp, Option.bind_some, hb, Option.getD_some]
    exact .cons rfl .nil
  · unfold callFunc
    have hnm : (fn.name == "runtime.NumGoroutine") = false := hF.nm _ _ hfn
    have hbn : fn.body.isNone = false := by rw [hb]; rfl
    simp only [Sem.run_bind, run_program, Result.andThen_ok, hp, hnm, hbn, Bool.false_eq_true, if_false, Sem.run_pure]
end
end Go.Ev
namespace Go.Ev

section
variable {P : Program} {E : Env} {r r' : Rho} {h h' : Hp} {w w' : World}

theorem VRs.app {a b : List V} {x y : List Value} (h1 : VRs r a x) (h2 : VRs r b y) : VRs r (a ++ b) (x ++ y) :=
  VRs.forall₂.2 ((VRs.forall₂.1 h1).append (VRs.forall₂.1 h2))
theorem tgt_sound {fv : V} {args : List V} {t : Tgt} (ht : tgtOf fv args = some t) {x : Value} {xs : Array Value} (hx : VR r fv x) (ha : VRs r args xs.toList) :
    ∃ d, (Deferred.ofValue x xs).run P w = .ok d w ∧ (match t with
      | .fn f as => ∃ ys : Array Value, VRs r as ys.toList ∧ invoke d.target d.args = callFunc f ys
      | .yield l as => ∃ q, ∃ ys : Array Value, r.bl l = some q ∧ VRs r as ys.toList ∧ invoke d.target d.args = Instr.yield q.blk ys) := by
  unfold tgtOf at ht
  split at ht
  · rename_i f first cap
    cases ht
    obtain ⟨a, c, rfl, h1, h2⟩ := hx
    refine ⟨{ target := .fn (.func f) c, args := a ++ xs }, rfl, (a ++ xs) ++ c, ?_, rfl⟩
    rw [app_eq, app_eq]
    simp only [Array.toList_append, List.append_assoc]
    exact h1.app (ha.app h2)
  · rename_i l
    cases ht
    obtain ⟨q, hq, rfl⟩ := hx
    refine ⟨{ target := .fn (.yield q.blk) #[], args := #[] ++ xs }, rfl, q, #[] ++ xs, hq, by simpa using ha, rfl⟩
  · cases ht

theorem zipPut_sound {n : Nat} : ∀ {ps : List Nat} {as : List V} {tm tm' : T V}, zipPut n ps as tm = some tm' → ∀ {ys : List Value} {tmps : Array Value}, VRs r as ys → TR r n tm tmps →
    ps.length = ys.length ∧ TR r n tm' ((ps.zip ys).foldl (fun tmps (t, a) => tmps.setIfInBounds t a) tmps) := by
  intro ps
  induction ps with
  | nil =>
    intro as tm tm' h ys tmps hy hT
    cases as with
    | nil => cases h; cases hy; exact ⟨rfl, hT⟩
    | cons => cases h
  | cons p ps ih =>
    intro as tm tm' h ys tmps hy hT
    cases as with
    | nil => cases h
    | cons v as =>
      obtain ⟨t', ht, h2⟩ := ob_some h
      obtain ⟨y, ys', rfl, h3, h4⟩ := hy
      have hput := TR.put (a := ⟨tmps, []⟩) hT h3 ht
      obtain ⟨h5, h6⟩ := ih h2 h4 hput
      exact ⟨by simp [h5], h6⟩
theorem round_sound (hR : Rel P E r h w) {l : Nat} {args : List V} {c : Fr} (hc : roundF l args h = some c) {q : RB} (hq : r.bl l = some q) {ys : Array Value} (hy : VRs r args ys.toList) :
    ∃ f tmps asg body, (Instr.yield q.blk ys).run P w = .ok (.round q.blk f tmps asg body) w ∧ FrR r c (Frame.round q.blk f tmps asg body .normal) := by
  unfold roundF at hc
  split at hc
  · rename_i st pend fn n tm ps asg body d hg
    obtain ⟨tm', htm, h2⟩ := ob_some hc
    cases h2
    obtain ⟨q', ob, hq', hw, L, p, rfl, h1, h2, h3, h4, h5, h6, h7, h8, h9⟩ := hR.os _ _ hg
    rw [hq] at hq'
    cases hq'
    have hgl : (Instr.getLoop q.blk).run P w = .ok L w := by simp [Instr.getLoop, getObj, Sem.run, hw]
    rw [← h5] at htm
    obtain ⟨hsz, hT⟩ := zipPut_sound htm hy h4
    refine ⟨L.fn, (L.params.zip ys).foldl (fun tmps (t, a) => tmps.setIfInBounds t a) L.tmps, L.assign, L.body, ?_, ?_⟩
    · unfold Instr.yield
      simp only [Sem.run_bind, hgl, Result.andThen_ok]
      have : ¬ (ys.size ≠ L.params.size) := by simp at hsz ⊢; omega
      rw [if_neg this]
      rfl
    · refine ⟨h3, rfl, rfl, ?_, ?_, .nil, ⟨q, hq, rfl⟩⟩
      · show TR r n tm' _
        simp only [Frame.round]
        rw [← Array.foldl_toList, Array.toList_zip]
        exact hT
      · simp only [Frame.round]
        exact .cons (by rw [← h6]; rfl) (.cons rfl (.cons (by rw [← h7]; rfl) .nil))
  · cases hc

/-! ### Numbers only grow -/
theorem storeCells_nx {b o : Nat} {vs : List V} (hs : storeCells h b o vs = some h') : h'.nx = h.nx := by
  unfold storeCells at hs
  split at hs
  · rename_i fz _
    cases fz with
    | true => cases hs
    | false =>
      obtain ⟨_, h2⟩ := bif_some (show (bif allOne vs then _ else none) = some h' from hs)
      obtain ⟨_, _, he⟩ := ob_some h2
      cases he; rfl
  · cases hs
theorem bif_split {β : Type} {c : Bool} {x y : Option β} {b : β} (h : (bif c then x else y) = some b) : x = some b ∨ y = some b := by
  cases c with
  | false => exact .inr h
  | true => exact .inl h
theorem appendV_mono {el es eb : Nat} {s x u : V} (hl : appendV el es eb s x h = some (u, h')) : h.nx ≤ h'.nx := by
  obtain ⟨n, _, h2⟩ := ob_some hl
  split at h2
  · rcases bif_split h2 with h3 | h3
    · cases h3; exact Nat.le_refl _
    · obtain ⟨_, _, h3⟩ := ob_some h3
      obtain ⟨_, h3⟩ := bif_some h3
      obtain ⟨_, h3⟩ := bif_some h3
      cases h3; exact Nat.le_succ _
  · rcases bif_split h2 with h3 | h3
    · obtain ⟨_, _, h3⟩ := ob_some h3
      obtain ⟨_, hs, h3⟩ := ob_some h3
      cases h3; rw [storeCells_nx hs]; exact Nat.le_refl _
    · obtain ⟨_, _, h3⟩ := ob_some h3
      obtain ⟨_, _, h3⟩ := ob_some h3
      obtain ⟨_, h3⟩ := bif_some h3
      obtain ⟨_, h3⟩ := bif_some h3
      cases h3; exact Nat.le_succ _
  · rcases bif_split h2 with h3 | h3
    · obtain ⟨_, _, h3⟩ := ob_some h3
      obtain ⟨_, hs, h3⟩ := ob_some h3
      cases h3; rw [storeCells_nx hs]; exact Nat.le_refl _
    · obtain ⟨_, h3⟩ := bif_some h3
      split at h3
      · obtain ⟨_, h3⟩ := bif_some h3
        obtain ⟨_, _, h3⟩ := ob_some h3
        obtain ⟨_, _, h3⟩ := ob_some h3
        obtain ⟨_, h3⟩ := bif_some h3
        obtain ⟨_, h3⟩ := bif_some h3
        cases h3; exact Nat.le_succ _
      · cases h3
  · cases h2
theorem builtinV_mono {b : Builtin} {ts : List Nat} {args : List V} {u : V} (hl : builtinV E b ts args h = some (u, h')) : h.nx ≤ h'.nx := by
  unfold builtinV at hl
  split at hl
  · obtain ⟨_, _, h2⟩ := ob_some hl
    split at h2 <;> first | (cases h2; exact Nat.le_refl _) | cases h2 | skip
    split at h2
    · cases h2; exact Nat.le_refl _
    · cases h2
  · obtain ⟨_, _, h2⟩ := ob_some hl
    split at h2 <;> first | (cases h2; exact Nat.le_refl _) | cases h2
  · obtain ⟨_, _, h2⟩ := ob_some hl
    obtain ⟨_, _, h2⟩ := ob_some h2
    split at h2
    · obtain ⟨_, _, h2⟩ := ob_some h2
      exact appendV_mono (bif_some h2).2
    · obtain ⟨_, _, h2⟩ := ob_some h2
      exact appendV_mono (bif_some h2).2
    · cases h2
  · obtain ⟨_, _, h2⟩ := ob_some hl
    split at h2
    · obtain ⟨_, _, h2⟩ := ob_some h2
      obtain ⟨_, _, h2⟩ := ob_some h2
      obtain ⟨_, _, h2⟩ := ob_some h2
      split at h2
      · cases h2; exact Nat.le_refl _
      · obtain ⟨_, hs, h2⟩ := ob_some h2
        cases h2; rw [storeCells_nx hs]; exact Nat.le_refl _
      · cases h2
    · cases h2
  · obtain ⟨_, _, h2⟩ := ob_some hl
    cases h2; exact Nat.le_refl _
  · obtain ⟨_, _, h2⟩ := ob_some hl
    cases h2; exact Nat.le_refl _
  · obtain ⟨_, _, h2⟩ := ob_some hl
    split at h2
    · obtain ⟨_, _, h2⟩ := ob_some h2
      obtain ⟨_, h2⟩ := bif_some h2
      split at h2
      · cases h2; exact Nat.le_refl _
      · split at h2
        · obtain ⟨_, _, h2⟩ := ob_some h2
          cases h2; exact Nat.le_refl _
        · cases h2
      · cases h2
    · cases h2
  · split at hl
    · cases hl; exact Nat.le_refl _
    · rcases bif_split hl with h2 | h2 <;> cases h2
      exact Nat.le_refl _
    · rcases bif_split hl with h2 | h2 <;> cases h2
      exact Nat.le_refl _
    · cases hl
  · obtain ⟨_, _, h2⟩ := ob_some hl
    obtain ⟨_, _, h2⟩ := ob_some h2
    split at h2
    · obtain ⟨_, h2⟩ := bif_some h2
      cases h2; exact Nat.le_refl _
    · rcases bif_split h2 with h2 | h2
      · cases h2; exact Nat.le_refl _
      · obtain ⟨_, h2⟩ := bif_some h2
        split at h2
        · obtain ⟨_, _, h2⟩ := ob_some h2
          obtain ⟨_, h2⟩ := bif_some h2
          obtain ⟨_, h2⟩ := bif_some h2
          obtain ⟨_, _, h2⟩ := ob_some h2
          obtain ⟨_, _, h2⟩ := ob_some h2
          cases h2; exact Nat.le_refl _
        · cases h2
    · cases h2
  · obtain ⟨_, _, h2⟩ := ob_some hl
    split at h2
    · obtain ⟨_, _, h2⟩ := ob_some h2
      obtain ⟨_, hs, h2⟩ := ob_some h2
      obtain ⟨_, h2⟩ := bif_some h2
      cases h2; rw [storeCells_nx hs]; exact Nat.le_refl _
    · cases h2; exact Nat.le_refl _
    · cases h2
  · cases hl
theorem updateM_mono {kd : TD} {m k v : V} (hs : updateM kd m k v h = some h') : h.nx ≤ h'.nx := by
  obtain ⟨_, h2⟩ := bif_some hs
  split at h2
  · split at h2
    · obtain ⟨_, _, h2⟩ := ob_some h2
      cases h2; exact Nat.le_succ _
    · cases h2
  · cases h2
theorem execE_mono {tm : T V} {op : Op} {u : V} (hl : execE E tm op h = some (u, h')) : h.nx ≤ h'.nx := by
  unfold execE at hl
  split at hl
  · obtain ⟨_, _, h2⟩ := ob_some hl
    obtain ⟨_, _, h2⟩ := ob_some h2
    obtain ⟨_, _, h2⟩ := ob_some h2
    obtain ⟨_, hs, h2⟩ := ob_some h2
    cases h2
    unfold storeAt at hs
    split at hs
    · obtain ⟨_, hs⟩ := bif_some hs
      rw [storeCells_nx hs]; exact Nat.le_refl _
    · cases hs
  · obtain ⟨_, _, h2⟩ := ob_some hl
    obtain ⟨_, _, h2⟩ := ob_some h2
    obtain ⟨_, _, h2⟩ := ob_some h2
    obtain ⟨_, _, h2⟩ := ob_some h2
    obtain ⟨_, hs, h2⟩ := ob_some h2
    cases h2
    exact updateM_mono hs
  · obtain ⟨_, _, h2⟩ := ob_some hl
    obtain ⟨_, _, h2⟩ := ob_some h2
    obtain ⟨_, _, h2⟩ := ob_some h2
    obtain ⟨_, _, h2⟩ := ob_some h2
    obtain ⟨_, hs, h2⟩ := ob_some h2
    cases h2
    exact updateM_mono hs
  · obtain ⟨_, _, h2⟩ := ob_some hl
    split at h2
    · obtain ⟨_, _, h2⟩ := ob_some h2
      obtain ⟨_, _, h2⟩ := ob_some h2
      obtain ⟨_, _, h2⟩ := ob_some h2
      obtain ⟨_, _, h2⟩ := ob_some h2
      obtain ⟨_, h2⟩ := bif_some h2
      split at h2
      · split at h2
        · obtain ⟨_, _, h2⟩ := ob_some h2
          split at h2
          · cases h2; exact Nat.le_refl _
          · obtain ⟨_, _, h2⟩ := ob_some h2
            cases h2; exact Nat.le_succ _
        · cases h2
      · cases h2
    · cases h2
  · obtain ⟨_, _, h2⟩ := ob_some hl
    obtain ⟨_, _, h2⟩ := ob_some h2
    obtain ⟨_, _, h2⟩ := ob_some h2
    obtain ⟨_, hs, h2⟩ := ob_some h2
    cases h2
    unfold entryStoreM at hs
    split at hs
    · split at hs
      · obtain ⟨_, _, hs⟩ := ob_some hs
        cases hs; exact Nat.le_refl _
      · cases hs
    · cases hs
  · split at hl
    · rcases bif_split hl with h2 | h2
      · cases h2
      · obtain ⟨_, _, h2⟩ := ob_some h2
        exact builtinV_mono h2
    · cases hl
  · obtain ⟨_, _, h2⟩ := ob_some hl
    obtain ⟨_, _, h2⟩ := ob_some h2
    unfold rangeV at h2
    split at h2
    · cases h2; exact Nat.le_succ _
    · cases h2; exact Nat.le_succ _
    · split at h2
      · cases h2; exact Nat.le_succ _
      · cases h2
    · cases h2
  · obtain ⟨_, _, h2⟩ := ob_some hl
    unfold nextSV at h2
    split at h2
    · split at h2
      · split at h2
        · obtain ⟨_, h2⟩ := bif_some h2
          cases h2; exact Nat.le_refl _
        · obtain ⟨_, h2⟩ := bif_some h2
          cases h2; exact Nat.le_refl _
      · cases h2
    · cases h2
  · obtain ⟨_, _, h2⟩ := ob_some hl
    unfold nextMV at h2
    split at h2
    · split at h2
      · cases h2; exact Nat.le_refl _
      · split at h2
        · obtain ⟨_, h2⟩ := bif_some h2
          cases h2; exact Nat.le_refl _
        · obtain ⟨_, h2⟩ := bif_some h2
          cases h2; exact Nat.le_refl _
        · cases h2
      · split at h2
        · cases h2; exact Nat.le_refl _
        · obtain ⟨_, h2⟩ := bif_some h2
          cases h2; exact Nat.le_refl _
        · cases h2
      · cases h2
    · cases h2
  · obtain ⟨_, _, h2⟩ := ob_some hl
    unfold entryV at h2
    split at h2
    · split at h2
      · split at h2
        · obtain ⟨_, h2⟩ := bif_some h2
          obtain ⟨_, h2⟩ := bif_some h2
          cases h2; exact Nat.le_refl _
        · cases h2
      · cases h2
    · cases h2
  · cases hl
end
end Go.Ev
