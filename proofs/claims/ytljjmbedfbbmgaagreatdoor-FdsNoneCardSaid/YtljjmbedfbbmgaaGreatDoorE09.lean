/- An evaluator of the model's programs over abstract states, and the proof that the machine does what it says (part 9). No statement about the program. -/
import Derived.Test.YtljjmbedfbbmgaaGreatDoorE08
namespace Go.Ev

theorem binds_any (e : Edge) : Region.binds .any e = bindsE e := by
  unfold Region.binds bindsE
  cases e.ground <;> rfl
theorem ord_cases {ops : Array Oper} {i j : Nat} (h : ord (bef ops) i j = true) : ∃ o e, ops[j]? = some o ∧ e ∈ o.after.toList ∧ bindsE e = true ∧ (e.on = i ∨ ord (bef ops) i e.on = true) := by
  obtain ⟨m, hm, hb⟩ := ord_bit.1 h
  obtain ⟨o, acc, h1, h2, h3⟩ := befGo_get (acc := []) (Nat.zero_le _) hm
  have ho : ops[j]? = some o := by simpa using h1
  subst h2
  rcases maskOf_bit hb with h4 | ⟨e, h4, h5, h6⟩
  · simp at h4
  · refine ⟨o, e, ho, h4, h5, ?_⟩
    rcases h6 with rfl | ⟨m', h7, h8⟩
    · exact .inl rfl
    · exact .inr (ord_bit.2 ⟨m', (h3 _ _ h7).2, h8⟩)
/-- What is listed. -/
def Lst (listed : Array Bool) (i : Nat) : Prop := listed.getD i false = true
theorem Lst.set {listed : Array Bool} {j : Nat} (hj : j < listed.size) (i : Nat) : Lst (listed.setIfInBounds j true) i ↔ (Lst listed i ∨ i = j) := by
  unfold Lst
  by_cases e : i = j
  · subst e; simp [hj]
  · have : (listed.setIfInBounds j true).getD i false = listed.getD i false := by
      simp [Array.getElem?_setIfInBounds_ne (Ne.symm e)]
    rw [this]; simp [e]
/-- How many are left. -/
def left (N : Nat) (listed : Array Bool) : List Nat := (List.range N).filter fun i => !listed.getD i false
theorem left_set {N j : Nat} {listed : Array Bool} (hj : j < N) (hs : listed.size = N) (hl : ¬ Lst listed j) : (left N (listed.setIfInBounds j true)).length < (left N listed).length := by
  have hsub : (left N (listed.setIfInBounds j true)).Sublist (left N listed) := by
    unfold left
    have : (fun i => !(listed.setIfInBounds j true).getD i false) = fun i => (!listed.getD i false) && !(listed.setIfInBounds j true).getD i false := by
      funext i
      by_cases h : Lst (listed.setIfInBounds j true) i
      · have h2 : (listed.setIfInBounds j true).getD i false = true := h
        rw [h2]; simp
      · have h2 : (listed.setIfInBounds j true).getD i false = false := by
          unfold Lst at h; simpa using h
        have h3 : listed.getD i false = false := by
          have : ¬ Lst listed i := fun h4 => h ((Lst.set (by omega) i).2 (.inl h4))
          unfold Lst at this; simpa using this
        rw [h2, h3]; rfl
    rw [this, ← List.filter_filter]
    have e2 : ∀ (p q : Nat → Bool) (l : List Nat), (l.filter q).filter p = (l.filter p).filter q := by
      intro p q l; rw [List.filter_filter, List.filter_filter]; congr 1; funext x; exact Bool.and_comm _ _
    rw [e2]
    exact List.filter_sublist
  have hj1 : j ∈ left N listed := by
    unfold left
    rw [List.mem_filter]
    refine ⟨List.mem_range.2 hj, ?_⟩
    unfold Lst at hl
    simpa using hl
  have hj2 : j ∉ left N (listed.setIfInBounds j true) := by
    unfold left
    rw [List.mem_filter]
    rintro ⟨_, h⟩
    have : Lst (listed.setIfInBounds j true) j := (Lst.set (by omega) j).2 (.inr rfl)
    unfold Lst at this
    rw [this] at h; cases h
  have hle := hsub.length_le
  by_cases e : (left N (listed.setIfInBounds j true)).length = (left N listed).length
  · have := hsub.eq_of_length e
    rw [this] at hj2
    exact absurd hj1 hj2
  · omega

section
variable {P : Program} {E : Env} {rc : RC} {n : Nat} {ops : Array Oper} {f : Nat → RS} {val : Nat → V} {r0 : Rho} {w0 : World}

theorem ready_nil (hC : Ctx P E rc n ops f val) {listed : Array Bool} (hs : listed.size = ops.size) (h : Region.ready .any ops listed = []) : ∀ i, i < ops.size → Lst listed i := by
  intro i
  induction i using Nat.strongRecOn with
  | ind i ih =>
    intro hi
    apply Classical.byContradiction
    intro hn
    have : i ∈ Region.ready .any ops listed := by
      rw [mem_ready]
      refine ⟨?_, ops[i], by simp [hi], ?_⟩
      · have hlt : i < listed.size := by omega
        unfold Lst at hn
        simp only [Array.getD_eq_getD_getElem?, Array.getElem?_eq_getElem hlt, Option.getD_some] at hn ⊢
        simpa using hn
      · intro e he hb
        rw [binds_any] at hb
        have := okEdges_get hC.edges i ops[i] (by simp [hi]) e (by simpa using he) hb
        exact ih e.on (by omega) (by omega)
    rw [h] at this; simp at this

/-- All that is left, in the order that is drawn. -/
theorem Inv.rest (hC : Ctx P E rc n ops f val) (hRc : RcOk P E rc) (b : Frame) (k : List Item) (cs : List Frame) : ∀ (fuel d : Nat) (listed : Array Bool) {t : Nat} {r : Rho} {tmps : Array Value} {w : World} (dfs : List Deferred),
    listed.size = ops.size → (left ops.size listed).length ≤ fuel → Inv P E n ops f val r0 w0 (Lst listed) t r tmps w →
    ∃ S t' r' a' w', Steps P (lone (b.atR ⟨tmps, dfs⟩ (.inRegion ops (Region.linearise.go .any ops fuel d listed []) :: k)) cs w) (lone (b.atR a' k) cs w') ∧ (∀ i, i < ops.size → S i) ∧ a'.defers = dfs ∧
      Inv P E n ops f val r0 w0 S t' r' a'.tmps w' := by
  have done : ∀ (listed : Array Bool) {t : Nat} {r : Rho} {tmps : Array Value} {w : World} (dfs : List Deferred), (∀ i, i < ops.size → Lst listed i) → Inv P E n ops f val r0 w0 (Lst listed) t r tmps w →
      ∃ S t' r' a' w', Steps P (lone (b.atR ⟨tmps, dfs⟩ (.inRegion ops [] :: k)) cs w) (lone (b.atR a' k) cs w') ∧ (∀ i, i < ops.size → S i) ∧ a'.defers = dfs ∧ Inv P E n ops f val r0 w0 S t' r' a'.tmps w' :=
    fun listed t r tmps w dfs hall hI => ⟨_, t, r, ⟨tmps, dfs⟩, w, .one stepR_region_end, hall, rfl, hI⟩
  intro fuel
  induction fuel with
  | zero =>
    intro d listed t r tmps w dfs hs hf hI
    refine done listed dfs (fun i hi => ?_) hI
    apply Classical.byContradiction
    intro hn
    have : i ∈ left ops.size listed := by
      unfold left
      rw [List.mem_filter]
      refine ⟨List.mem_range.2 hi, ?_⟩
      unfold Lst at hn
      simpa using hn
    have := List.length_pos_of_mem this
    omega
  | succ fuel ih =>
    intro d listed t r tmps w dfs hs hf hI
    simp only [Region.linearise.go]
    change ∃ S t' r' a' w', Steps P (lone (b.atR ⟨tmps, dfs⟩ (.inRegion ops (match (Region.ready .any ops listed)[d % (Region.ready .any ops listed).length]? with
      | some i => Region.linearise.go .any ops fuel (d / (Region.ready .any ops listed).length) (listed.setIfInBounds i true) [i]
      | none => [].reverse) :: k)) cs w) (lone (b.atR a' k) cs w') ∧ _
    cases hi : (Region.ready .any ops listed)[d % (Region.ready .any ops listed).length]? with
    | none =>
      have hnil : Region.ready .any ops listed = [] := by
        cases hr : Region.ready .any ops listed with
        | nil => rfl
        | cons x xs =>
          rw [hr] at hi
          have hlt : d % (x :: xs).length < (x :: xs).length := Nat.mod_lt _ (by simp)
          simp at hi
          simp at hlt
          omega
      exact done listed dfs (ready_nil hC hs hnil) hI
    | some j =>
      obtain ⟨h1, o, ho, h2⟩ := mem_ready.1 (List.mem_of_getElem? hi)
      have hjlt : j < ops.size := (Array.getElem?_eq_some_iff.1 ho).1
      have hj : ¬ Lst listed j := by
        unfold Lst
        have hlt : j < listed.size := by omega
        simp only [Array.getD_eq_getD_getElem?, Array.getElem?_eq_getElem hlt, Option.getD_some] at h1 ⊢
        rw [h1]; simp
      have hpre : ∀ i, ord (bef ops) i j = true → Lst listed i := by
        intro i hord
        obtain ⟨o', e, ho', he, hb, hor⟩ := ord_cases hord
        rw [ho] at ho'; cases ho'
        have hon : Lst listed e.on := h2 e (by simpa using he) (by rw [binds_any]; exact hb)
        rcases hor with rfl | hor
        · exact hon
        · exact hI.closed i e.on hor hon
      simp only []
      rw [linearise_go_acc, List.reverse_singleton, List.singleton_append]
      obtain ⟨x, t', r', w', hsteps, hI'⟩ := hI.op hC hRc ho hj hpre b dfs (Region.linearise.go .any ops fuel (d / (Region.ready .any ops listed).length) (listed.setIfInBounds j true) []) k cs
      have hS : (fun i => Lst listed i ∨ i = j) = Lst (listed.setIfInBounds j true) := by
        funext i
        exact propext (Lst.set (by omega) i).symm
      rw [hS] at hI'
      have hd : ((⟨tmps, dfs⟩ : Act).put o.dst x).defers = dfs := by cases o.dst <;> rfl
      obtain ⟨S, t2, r2, a2, w2, hsteps2, hall, hd2, hI2⟩ := ih (d / (Region.ready .any ops listed).length) (listed.setIfInBounds j true) dfs (by simp [hs]) (by have := left_set hjlt hs hj; omega) hI'
      refine ⟨S, t2, r2, a2, w2, hsteps.trans ?_, hall, hd2, hI2⟩
      have ha : ((⟨tmps, dfs⟩ : Act).put o.dst x) = ⟨((⟨tmps, dfs⟩ : Act).put o.dst x).tmps, dfs⟩ := by
        cases hh : (⟨tmps, dfs⟩ : Act).put o.dst x with
        | mk a c => rw [hh] at hd; simp only at hd; rw [hd]
      rw [ha]
      exact hsteps2

/-- Where it begins. -/
theorem Inv.start (hC : Ctx P E rc n ops f val) {r : Rho} {tmps : Array Value} {w : World} (hR : Rel P E r (f 0).x w) (hT : TR r n (f 0).tm tmps) (hf : Free (f 0).x.nx (f ops.size).x.nx r) : Inv P E n ops f val r w (Lst (Array.replicate ops.size false)) 0 r tmps w := by
  have hS : Lst (Array.replicate ops.size false) = fun _ => False := by
    funext i
    unfold Lst
    refine propext ⟨fun h => ?_, False.elim⟩
    by_cases hi : i < ops.size <;> simp [hi] at h
  rw [hS]
  refine ⟨fun _ _ _ h => h.elim, .start hT, fun e he => ⟨False.elim, fun h => by omega⟩, Nat.zero_le _, .inl rfl, hR, ?_, ?_, ?_, Same.refl _ _ _, Nat.le_refl _, fun _ _ _ => rfl, ?_, rfl, rfl, fun _ _ _ h => h.elim⟩
  · intro a b o h; exact h.1.elim
  · intro a b o a' b' o' q q' h; exact h.1.elim
  · intro j hj _
    exact hf.sub (hC.tr.nx_le hC.mono (Nat.zero_le _) (Nat.le_of_lt hj)) (hC.tr.nx_le hC.mono hj (Nat.le_refl _))
  · intro k hk ho
    exact ⟨ho, fun a b o q h => h.1.elim⟩

/-- Where it ends. -/
theorem Inv.stop (hC : Ctx P E rc n ops f val) {S : Nat → Prop} {t : Nat} {r : Rho} {tmps : Array Value} {w : World} (hI : Inv P E n ops f val r0 w0 S t r tmps w) (hall : ∀ i, i < ops.size → S i) :
    Stp P E r0 (f 0).x w0 r ⟨(f ops.size).x.nx, addAll (f ops.size).pend (f ops.size).x.os⟩ w := by
  have hno : ∀ e, t ≤ e → e < ops.size → ¬ IsE E ops f e := by
    intro e h1 h2 h3
    have := (hI.base e h3).1 (hall e h2)
    omega
  have hos := hC.tr.os_le hI.tle (Nat.le_refl _) hno
  have hin : HpIn E ops f S t ⟨(f ops.size).x.nx, addAll (f ops.size).pend (f ops.size).x.os⟩ := by
    refine ⟨hC.tr.nx_le hC.mono hI.tle (Nat.le_refl _), ?_, ?_⟩
    · intro b o hb
      have hb : (addAll (f ops.size).pend (f ops.size).x.os).get b = some o := hb
      rw [hos] at hb
      rcases addAll_get hb with h | ⟨p, hp, rfl, rfl⟩
      · exact .inl h
      · have hP := hC.tr.pinv hC.mono hC.p0 ops.size (Nat.le_refl _)
        obtain ⟨h1, h2⟩ := hP.made p hp
        refine .inr ⟨p.i, p.o, ⟨hall _ h2.lt, h2, fun hlt => hC.tr.live_le hlt hI.tle (Nat.le_refl _) ⟨p, hp, rfl⟩⟩, ?_⟩
        exact Inv.whole hC (Nat.le_refl _) hp (fun x hx => hall _ (hP.insm p hp x hx).1) fun i e _ hIn => hIn.lt
    · intro b m s k hb o ho
      rw [hos]
      exact addAll_dom ho
  refine ⟨hI.sub hC hin, hC.tr.nx_le hC.mono (Nat.zero_le _) (Nat.le_refl _), hI.same, hI.hsize, hI.keep, ?_, hI.os, hI.out⟩
  intro k hk ho b1 o1 q1 hb1 hq1
  obtain ⟨g1, g2⟩ := hI.img k hk ho
  rcases hin.get b1 o1 hb1 with h | ⟨a, o0, h1, _⟩
  · exact g1 b1 o1 q1 h hq1
  · exact g2 a b1 o0 q1 h1 hq1

theorem region_ctx {E : Env} {rc : RC} (hE : TisOk P E) (hm : RcMono rc) {n : Nat} {ops : Array Oper} {tm tm' : T V} {h h' : Hp} (hr : region E rc n ops tm h = some (tm', h')) :
    ∃ f val, Ctx P E rc n ops f val ∧ (f 0).tm = tm ∧ (f 0).x = h ∧ (f ops.size).tm = tm' ∧ h' = ⟨(f ops.size).x.nx, addAll (f ops.size).pend (f ops.size).x.os⟩ := by
  obtain ⟨h1, hr⟩ := bif_some hr
  obtain ⟨h2, hr⟩ := bif_some hr
  obtain ⟨s, hs, hr⟩ := ob_some hr
  cases hr
  obtain ⟨f, val, hf0, hfN, hsk⟩ := goR_tr hs
  rw [Nat.zero_add] at hfN
  have hN : ops.toList.length = ops.size := by simp
  rw [hN] at hfN
  refine ⟨f, val, ⟨⟨?_, ?_⟩, hm, by rw [hf0], by rw [hf0], by rw [hf0], h1, h2, hE⟩, by rw [hf0], by rw [hf0], by rw [hfN], by rw [hfN]⟩
  · intro j o ho
    have := (hsk j o (by simpa using ho)).1
    rwa [Nat.zero_add] at this
  · intro j o ho
    have := (hsk j o (by simpa using ho)).2
    rwa [Nat.zero_add] at this

/-- Regions that draw are sound where calls out of them are. -/
theorem RegOk.of (hE : TisOk P E) (hP : P.follows .mixedOrders = true) (hRc : RcOk P E rc) : RegOk P E rc := by
  constructor
  · intro n ops tm h tm' h' hr
    obtain ⟨f, val, hC, h1, h2, h3, rfl⟩ := region_ctx (P := P) hE hRc.mono hr
    rw [← h2]
    exact hC.tr.nx_le hC.mono (Nat.zero_le _) (Nat.le_refl _)
  · intro r w m fr frs cs id ops k tm' h' hS he hr hf
    obtain ⟨f, val, hC, h1, h2, h3, rfl⟩ := region_ctx (P := P) hE hRc.mono hr
    obtain ⟨xs, hk, hfr⟩ := code_head hS he
    have hd := Stp.drawn (w' := { w with drawn := w.drawn + 1 }) hS.rel rfl rfl rfl
    have hstep := stepR_region_draw (P := P) (b := fr) (a := ⟨fr.tmps, fr.defers⟩) (k := xs) (cs := frs ++ cs) (w := w) (ops := ops) (id := id)
    rw [← hfr] at hstep
    simp only [Region.schedule, hP, Bool.true_or, if_true] at hstep
    have hR0 := hd.rel
    rw [← h2] at hR0
    have hT0 := hS.cur.tmps
    rw [← h1] at hT0
    rw [← h2] at hf
    have hI := Inv.start hC hR0 hT0 hf
    obtain ⟨S, t', r', a', w', hsteps, hall, hdf, hI'⟩ := Inv.rest hC hRc fr xs (frs ++ cs) ops.size _ _ fr.defers (by simp) (by unfold left; exact Nat.le_trans (List.length_filter_le _ _) (by simp)) hI
    have hst := hI'.stop hC hall
    rw [h2] at hst
    have hle : Le r r' := by rw [h2] at hf; exact hf.le hst.same
    have hTN := hI'.tm.all hC hall
    refine ⟨_, frs, w', r', .head hstep hsteps, ⟨hst.rel, ?_, F2.ext hle hS.stk⟩, hd.trans hst⟩
    refine ⟨hS.cur.fn, rfl, hS.cur.kind, ?_, hk.imp fun _ _ => ItR.ext hle, ?_, hS.cur.ro.ext hle⟩
    · show TR r' m.cur.n tm' a'.tmps
      rw [← h3]; exact hTN
    · show F2 (MarkR r') m.cur.ds a'.defers
      rw [hdf]
      exact hS.cur.defers.imp fun _ _ => MarkR.ext hle
end
end Go.Ev
namespace Go.Ev

section
variable {P : Program} {E : Env} {rc : RC}

theorem enter_fn {f : Nat} {args : List V} {fr : Fr} (h : enter E f args = some fr) : fr.fn = f ∧ fr.ro = none := by
  obtain ⟨fn, _, h⟩ := ob_some h
  obtain ⟨c, _, h⟩ := ob_some h
  cases h
  exact ⟨rfl, rfl⟩
theorem roundF_ro {l : Nat} {args : List V} {h : Hp} {fr : Fr} (hr : roundF l args h = some fr) : fr.ro = some l := by
  unfold roundF at hr
  split at hr
  · obtain ⟨_, _, hr⟩ := ob_some hr
    cases hr; rfl
  · cases hr

/-- A call that the evaluator runs to its end. -/
theorem enters_sound (hE : TisOk P E) (hFn : FnsOk P E) (hSm : SmOk P E) (hrg : RegOk P E rc) {f : Nat} {args : List V} {fr : Fr} (hen : enter E f args = some fr) {n : Nat} {h h' : Hp} {v : V} (hr : run E rc n ⟨fr, [], h⟩ = some (v, h'))
    {r : Rho} {w : World} {ys : Array Value} (hf : Free h.nx h'.nx r) (hR : Rel P E r h w) (hy : VRs r args ys.toList) : (callFunc f ys).run P w = .ok (.enter f ys) w ∧ Enters P E r h w f ys v h' := by
  obtain ⟨hF, hrun⟩ := enter_sound (w := w) hFn hen hy
  refine ⟨hrun, fun cs => ?_⟩
  have := run_sound hE hFn hSm hrg n hr (fr := Frame.enter P f ys .normal) (frs := []) ⟨hR, hF, .nil⟩ hf cs
  obtain ⟨e1, e2⟩ := enter_fn hen
  unfold FinB at this
  simp only [bot, e2, e1, List.nil_append] at this
  exact this

theorem rcall_ok (hE : TisOk P E) (hFn : FnsOk P E) (hSm : SmOk P E) (hP : P.follows .mixedOrders = true) (N : Nat) : ∀ d, RcOk P E (rcall E N d) := by
  intro d
  induction d with
  | zero => exact ⟨fun _ _ _ _ h => (by cases h), fun _ _ _ _ _ h => (by cases h), fun _ _ _ _ _ h => (by cases h)⟩
  | succ d ih =>
    have hrg := RegOk.of hE hP ih
    constructor
    · intro t h v h' hr
      unfold rcall at hr
      split at hr
      · split at hr
        · rename_i hsm
          cases hr
          exact (hSm _ _ _ _ _ hsm).1
        · obtain ⟨fr, _, hr⟩ := ob_some hr
          exact run_mono hSm hrg N hr
      · obtain ⟨fr, _, hr⟩ := ob_some hr
        exact run_mono hSm hrg N hr
    · intro f as h v h' hr r w ys hf hR hy
      unfold rcall at hr
      simp only at hr
      split at hr
      · rename_i hsm
        cases hr
        exact (hSm _ _ _ _ _ hsm).2 r w ys hf hR hy
      · obtain ⟨fr, hen, hr⟩ := ob_some hr
        exact .inr (enters_sound hE hFn hSm hrg hen hr hf hR hy)
    · intro l as h v h' hr r w q ys hf hR hq hy
      unfold rcall at hr
      simp only at hr
      obtain ⟨fr, hro, hr⟩ := ob_some hr
      obtain ⟨fi, tmps, asg, body, hrun, hF⟩ := round_sound hR hro hq hy
      refine ⟨fi, tmps, asg, body, hrun, fun c cs => ?_⟩
      have := run_sound hE hFn hSm hrg N hr (fr := Frame.round q.blk fi tmps asg body .normal) (frs := []) ⟨hR, hF, .nil⟩ hf (c :: cs)
      have e := roundF_ro hro
      unfold FinB at this
      simp only [bot, e, List.nil_append] at this
      exact this c cs rfl

/-- A whole call. -/
theorem call_ok (hE : TisOk P E) (hFn : FnsOk P E) (hSm : SmOk P E) (hP : P.follows .mixedOrders = true) {N d n : Nat} {f : Nat} {args : List V} {fr : Fr} (hen : enter E f args = some fr) {h h' : Hp} {v : V} (hr : run E (rcall E N d) n ⟨fr, [], h⟩ = some (v, h'))
    {r : Rho} {w : World} {ys : Array Value} (hf : Free h.nx h'.nx r) (hR : Rel P E r h w) (hy : VRs r args ys.toList) : (callFunc f ys).run P w = .ok (.enter f ys) w ∧ Enters P E r h w f ys v h' :=
  enters_sound hE hFn hSm (RegOk.of hE hP (rcall_ok hE hFn hSm hP N d)) hen hr hf hR hy
end
end Go.Ev
namespace Go.Ev

/-! ### Tables -/
noncomputable def obF {α β : Type} (o : Option α) (f : α → Option β) : Option β := @Option.rec α (fun _ => (α → Option β) → Option β) (fun _ => none) (fun a f => f a) o f
theorem obF_eq {α β : Type} (o : Option α) (f : α → Option β) : obF o f = ob o f := by cases o <;> rfl
noncomputable def sobF {α : Type} (o : Option α) (f : α → SR) : SR := @Option.rec α (fun _ => (α → SR) → SR) (fun _ => .fail) (fun a f => f a) o f
theorem sobF_eq {α : Type} (o : Option α) (f : α → SR) : sobF o f = sob o f := by cases o <;> rfl
noncomputable def bifF {β : Type} : Bool → Option β → Option β := @Bool.rec (fun _ => Option β → Option β) (fun _ => none) (fun x => x)
theorem bifF_eq {β : Type} (c : Bool) (x : Option β) : bifF c x = (bif c then x else none) := by cases c <;> rfl
noncomputable def getF {α : Type} : T α → Nat → Option α :=
  @T.rec α (fun _ => Nat → Option α) (fun _ => none) (fun _ v _ il ir n => @Nat.rec (fun _ => Option α) v (fun m _ => @Bool.rec (fun _ => Nat → Option α) ir il (Nat.beq (Nat.mod m 2) 0) (Nat.div m 2)) n)
theorem getF_eq {α : Type} (t : T α) : ∀ n, getF t n = t.get n := by
  induction t with
  | leaf => intro n; rfl
  | node l v r ihl ihr =>
    intro n
    cases n with
    | zero => rfl
    | succ m =>
      show @Bool.rec (fun _ => Nat → Option α) (getF r) (getF l) (Nat.beq (Nat.mod m 2) 0) (Nat.div m 2) = _
      simp only [T.get]
      cases Nat.beq (Nat.mod m 2) 0 with
      | true => exact ihl _
      | false => exact ihr _
noncomputable def putLeaf {α : Type} (ih : T α → Nat → T α) (x : Option α) (n : Nat) : T α :=
  @Nat.rec (fun _ => T α) (.node .leaf x .leaf) (fun m _ => @Bool.rec (fun _ => T α) (.node .leaf none (ih .leaf (Nat.div m 2))) (.node (ih .leaf (Nat.div m 2)) none .leaf) (Nat.beq (Nat.mod m 2) 0)) n
noncomputable def putNode {α : Type} (l : T α) (v : Option α) (r : T α) (ih : T α → Nat → T α) (x : Option α) (n : Nat) : T α :=
  @Nat.rec (fun _ => T α) (.node l x r) (fun m _ => @Bool.rec (fun _ => T α) (.node l v (ih r (Nat.div m 2))) (.node (ih l (Nat.div m 2)) v r) (Nat.beq (Nat.mod m 2) 0)) n
noncomputable def putSel {α : Type} : T α → (T α → Nat → T α) → Option α → Nat → T α :=
  @T.rec α (fun _ => (T α → Nat → T α) → Option α → Nat → T α) putLeaf (fun l v r _ _ => putNode l v r)
noncomputable def putF {α : Type} (x : Option α) : Nat → T α → Nat → T α := @Nat.rec (fun _ => T α → Nat → T α) (fun t _ => t) (fun _ ih t => putSel t ih x)
theorem putF_eq {α : Type} (x : Option α) : ∀ (f : Nat) (t : T α) (n : Nat), putF x f t n = T.put x f t n := by
  intro f
  induction f with
  | zero => intro t n; rfl
  | succ f ih =>
    intro t n
    show putSel t (putF x f) x n = _
    cases t with
    | leaf =>
      cases n with
      | zero => rfl
      | succ m =>
        show @Bool.rec (fun _ => T α) _ _ (Nat.beq (Nat.mod m 2) 0) = _
        simp only [T.put]
        cases Nat.beq (Nat.mod m 2) 0 with
        | true => show T.node _ _ _ = _; rw [ih]; rfl
        | false => show T.node _ _ _ = _; rw [ih]; rfl
    | node l v r =>
      cases n with
      | zero => rfl
      | succ m =>
        show @Bool.rec (fun _ => T α) _ _ (Nat.beq (Nat.mod m 2) 0) = _
        simp only [T.put]
        cases Nat.beq (Nat.mod m 2) 0 with
        | true => show T.node _ _ _ = _; rw [ih]; rfl
        | false => show T.node _ _ _ = _; rw [ih]; rfl
noncomputable def setF {α : Type} (t : T α) (n : Nat) (x : Option α) : T α := putF x (Nat.succ n) t n
theorem setF_eq {α : Type} (t : T α) (n : Nat) (x : Option α) : setF t n x = T.set t n x := putF_eq x _ t n
noncomputable def putTF (n : Nat) (tm : T V) (v : V) : Option Nat → Option (T V) :=
  @Option.rec Nat (fun _ => Option (T V)) (some tm) (fun d => bifF (Nat.ble (Nat.succ d) n) (some (setF tm d (some v))))
theorem putTF_eq (n : Nat) (tm : T V) (d : Option Nat) (v : V) : putTF n tm v d = putT n tm d v := by
  cases d with
  | none => rfl
  | some d => show bifF _ _ = (bif _ then _ else none); rw [bifF_eq, setF_eq]
noncomputable def newF (h : Hp) (o : O) : Hp := ⟨Nat.succ h.nx, setF h.os h.nx (some o)⟩
theorem newF_eq (h : Hp) (o : O) : newF h o = h.new o := by unfold newF Hp.new; rw [setF_eq]
noncomputable def hsetF (h : Hp) (b : Nat) (o : O) : Hp := ⟨h.nx, setF h.os b (some o)⟩
theorem hsetF_eq (h : Hp) (b : Nat) (o : O) : hsetF h b o = h.set b o := by unfold hsetF Hp.set; rw [setF_eq]
noncomputable def fromF : List V → Nat → T V → T V := @List.rec V (fun _ => Nat → T V → T V) (fun _ t => t) (fun v _ ih i t => ih (Nat.succ i) (setF t i (some v)))
theorem fromF_eq : ∀ (l : List V) (i : Nat) (t : T V), fromF l i t = fromArgs l i t := by
  intro l
  induction l with
  | nil => intro i t; rfl
  | cons v l ih => intro i t; show fromF l (Nat.succ i) (setF t i (some v)) = _; rw [ih, setF_eq]; rfl
noncomputable def nthF {α : Type} : List α → Nat → Option α :=
  @List.rec α (fun _ => Nat → Option α) (fun _ => none) (fun x _ ih n => @Nat.rec (fun _ => Option α) (some x) (fun m _ => ih m) n)
theorem nthF_eq {α : Type} (l : List α) : ∀ n, nthF l n = nth l n := by
  induction l with
  | nil => intro n; rfl
  | cons x l ih =>
    intro n
    cases n with
    | zero => rfl
    | succ m => exact ih m

noncomputable def dBool {β : Type} : V → (Bool → Option β) → Option β :=
  @V.rec (fun _ => (Bool → Option β) → Option β) (fun _ => PUnit) (fun x0 k => k x0) (fun _ _ => (fun _ => none)) (fun _ => (fun _ => none)) (fun _ => none) (fun _ _ => (fun _ => none)) (fun _ => none) (fun _ _ _ _ => (fun _ => none)) (fun _ => none) (fun _ => (fun _ => none)) (fun _ => none) (fun _ _ _ _ _ => (fun _ => none)) (fun _ => (fun _ => none)) (fun _ => none) (fun _ _ _ => (fun _ => none)) (fun _ _ => (fun _ => none)) (fun _ _ => (fun _ => none)) (fun _ => (fun _ => none)) (fun _ => (fun _ => none)) (fun _ => none) PUnit.unit (fun _ _ _ _ => PUnit.unit)

noncomputable def dInt {β : Type} : V → (IntKind → Int → Option β) → Option β :=
  @V.rec (fun _ => (IntKind → Int → Option β) → Option β) (fun _ => PUnit) (fun _ => (fun _ => none)) (fun x0 x1 k => k x0 x1) (fun _ => (fun _ => none)) (fun _ => none) (fun _ _ => (fun _ => none)) (fun _ => none) (fun _ _ _ _ => (fun _ => none)) (fun _ => none) (fun _ => (fun _ => none)) (fun _ => none) (fun _ _ _ _ _ => (fun _ => none)) (fun _ => (fun _ => none)) (fun _ => none) (fun _ _ _ => (fun _ => none)) (fun _ _ => (fun _ => none)) (fun _ _ => (fun _ => none)) (fun _ => (fun _ => none)) (fun _ => (fun _ => none)) (fun _ => none) PUnit.unit (fun _ _ _ _ => PUnit.unit)

noncomputable def dStr {β : Type} : V → (List Nat → Option β) → Option β :=
  @V.rec (fun _ => (List Nat → Option β) → Option β) (fun _ => PUnit) (fun _ => (fun _ => none)) (fun _ _ => (fun _ => none)) (fun x0 k => k x0) (fun _ => none) (fun _ _ => (fun _ => none)) (fun _ => none) (fun _ _ _ _ => (fun _ => none)) (fun _ => none) (fun _ => (fun _ => none)) (fun _ => none) (fun _ _ _ _ _ => (fun _ => none)) (fun _ => (fun _ => none)) (fun _ => none) (fun _ _ _ => (fun _ => none)) (fun _ _ => (fun _ => none)) (fun _ _ => (fun _ => none)) (fun _ => (fun _ => none)) (fun _ => (fun _ => none)) (fun _ => none) PUnit.unit (fun _ _ _ _ => PUnit.unit)

noncomputable def dPtr {β : Type} : V → (Nat → Nat → Option β) → Option β :=
  @V.rec (fun _ => (Nat → Nat → Option β) → Option β) (fun _ => PUnit) (fun _ => (fun _ => none)) (fun _ _ => (fun _ => none)) (fun _ => (fun _ => none)) (fun _ => none) (fun x0 x1 k => k x0 x1) (fun _ => none) (fun _ _ _ _ => (fun _ => none)) (fun _ => none) (fun _ => (fun _ => none)) (fun _ => none) (fun _ _ _ _ _ => (fun _ => none)) (fun _ => (fun _ => none)) (fun _ => none) (fun _ _ _ => (fun _ => none)) (fun _ _ => (fun _ => none)) (fun _ _ => (fun _ => none)) (fun _ => (fun _ => none)) (fun _ => (fun _ => none)) (fun _ => none) PUnit.unit (fun _ _ _ _ => PUnit.unit)

noncomputable def dAgg {β : Type} : V → (List V → Option β) → Option β :=
  @V.rec (fun _ => (List V → Option β) → Option β) (fun _ => PUnit) (fun _ => (fun _ => none)) (fun _ _ => (fun _ => none)) (fun _ => (fun _ => none)) (fun _ => none) (fun _ _ => (fun _ => none)) (fun _ => none) (fun _ _ _ _ => (fun _ => none)) (fun _ => none) (fun _ => (fun _ => none)) (fun _ => none) (fun _ _ _ _ _ => (fun _ => none)) (fun _ => (fun _ => none)) (fun _ => none) (fun _ _ _ => (fun _ => none)) (fun x0 _ => (fun x0 k => k x0) x0) (fun _ _ => (fun _ => none)) (fun _ => (fun _ => none)) (fun _ => (fun _ => none)) (fun _ => none) PUnit.unit (fun _ _ _ _ => PUnit.unit)

noncomputable def dTup {β : Type} : V → (List V → Option β) → Option β :=
  @V.rec (fun _ => (List V → Option β) → Option β) (fun _ => PUnit) (fun _ => (fun _ => none)) (fun _ _ => (fun _ => none)) (fun _ => (fun _ => none)) (fun _ => none) (fun _ _ => (fun _ => none)) (fun _ => none) (fun _ _ _ _ => (fun _ => none)) (fun _ => none) (fun _ => (fun _ => none)) (fun _ => none) (fun _ _ _ _ _ => (fun _ => none)) (fun _ => (fun _ => none)) (fun _ => none) (fun _ _ _ => (fun _ => none)) (fun _ _ => (fun _ => none)) (fun x0 _ => (fun x0 k => k x0) x0) (fun _ => (fun _ => none)) (fun _ => (fun _ => none)) (fun _ => none) PUnit.unit (fun _ _ _ _ => PUnit.unit)

noncomputable def dMap {β : Type} : V → (Nat → Option β) → Option β :=
  @V.rec (fun _ => (Nat → Option β) → Option β) (fun _ => PUnit) (fun _ => (fun _ => none)) (fun _ _ => (fun _ => none)) (fun _ => (fun _ => none)) (fun _ => none) (fun _ _ => (fun _ => none)) (fun _ => none) (fun _ _ _ _ => (fun _ => none)) (fun _ => none) (fun x0 k => k x0) (fun _ => none) (fun _ _ _ _ _ => (fun _ => none)) (fun _ => (fun _ => none)) (fun _ => none) (fun _ _ _ => (fun _ => none)) (fun _ _ => (fun _ => none)) (fun _ _ => (fun _ => none)) (fun _ => (fun _ => none)) (fun _ => (fun _ => none)) (fun _ => none) PUnit.unit (fun _ _ _ _ => PUnit.unit)

noncomputable def dGlob {β : Type} : V → (Nat → Option β) → Option β :=
  @V.rec (fun _ => (Nat → Option β) → Option β) (fun _ => PUnit) (fun _ => (fun _ => none)) (fun _ _ => (fun _ => none)) (fun _ => (fun _ => none)) (fun _ => none) (fun _ _ => (fun _ => none)) (fun _ => none) (fun _ _ _ _ => (fun _ => none)) (fun _ => none) (fun _ => (fun _ => none)) (fun _ => none) (fun _ _ _ _ _ => (fun _ => none)) (fun _ => (fun _ => none)) (fun _ => none) (fun _ _ _ => (fun _ => none)) (fun _ _ => (fun _ => none)) (fun _ _ => (fun _ => none)) (fun x0 k => k x0) (fun _ => (fun _ => none)) (fun _ => none) PUnit.unit (fun _ _ _ _ => PUnit.unit)

noncomputable def dStruct {β : Type} : TD → (List FD → Bool → Option β) → Option β :=
  @TD.rec (fun _ => (List FD → Bool → Option β) → Option β) (fun _ => none) (fun _ => none) (fun _ => none) (fun _ => none) (fun _ => none) (fun _ => none) (fun _ => none) (fun _ => (fun _ => none)) (fun _ => (fun _ => none)) (fun _ _ _ => (fun _ => none)) (fun _ _ _ _ => (fun _ => none)) (fun _ _ => (fun _ => none)) (fun fs c k => k fs c)

noncomputable def dCells {β : Type} : O → (List V → Nat → Bool → Option β) → Option β :=
  @O.rec (fun _ => (List V → Nat → Bool → Option β) → Option β) (fun a b c k => k a b c) (fun _ => (fun _ => none)) (fun _ _ _ => (fun _ => none)) (fun _ _ => (fun _ => none)) (fun _ _ _ _ _ _ _ _ _ => (fun _ => none)) (fun _ => (fun _ => none))

noncomputable def evoF : Operand → T V → Option V :=
  @Operand.rec (fun _ => T V → Option V) (fun t tm => getF tm t) (fun v _ => absVal v) (fun g _ => some (.glob g)) (fun f _ => some (.fn f [] []))
theorem evoF_eq (x : Operand) (tm : T V) : evoF x tm = evo tm x := by
  cases x with
  | tmp t => exact getF_eq tm t
  | _ => rfl
noncomputable def isConstF : Operand → Bool := @Operand.rec (fun _ => Bool) (fun _ => false) (fun _ => true) (fun _ => false) (fun _ => false)
theorem isConstF_eq (x : Operand) : isConstF x = isConstO x := by cases x <;> rfl

noncomputable def arithF : BinOp → IntKind → Int → Int → Option V :=
  @BinOp.rec (fun _ => IntKind → Int → Int → Option V) (fun k x y => some (.int k (wrapK k (addI x y)))) (fun k x y => some (.int k (wrapK k (x - y)))) (fun k x y => some (.int k (wrapK k (x * y)))) (fun k x y => bif eqI y 0 then none else some (.int k (wrapK k (x.tdiv y)))) (fun k x y => bif eqI y 0 then none else some (.int k (x.tmod y))) (fun k x y => arith .and k x y) (fun k x y => arith .or k x y) (fun k x y => arith .xor k x y) (fun _ _ _ => none) (fun _ _ _ => none) (fun k x y => arith .andNot k x y) (fun _ x y => some (.bool (eqI x y))) (fun _ x y => some (.bool (!eqI x y))) (fun _ x y => some (.bool (ltI x y))) (fun _ x y => some (.bool (leI x y))) (fun _ x y => some (.bool (ltI y x))) (fun _ x y => some (.bool (leI y x)))

theorem arithF_eq (op : BinOp) (k : IntKind) (x y : Int) : arithF op k x y = arith op k x y := by cases op <;> rfl

noncomputable def eqBF : BinOp → Env → Nat → Bool → Bool → V → V → Option V :=
  @BinOp.rec (fun _ => Env → Nat → Bool → Bool → V → V → Option V) (fun _ _ _ _ _ _ => none) (fun _ _ _ _ _ _ => none) (fun _ _ _ _ _ _ => none) (fun _ _ _ _ _ _ => none) (fun _ _ _ _ _ _ => none) (fun _ _ _ _ _ _ => none) (fun _ _ _ _ _ _ => none) (fun _ _ _ _ _ _ => none) (fun _ _ _ _ _ _ => none) (fun _ _ _ _ _ _ => none) (fun _ _ _ _ _ _ => none) (fun E t cx cy x y => ob (eqO E t cx cy x y) fun q => some (.bool q)) (fun E t cx cy x y => ob (eqO E t cx cy x y) fun q => some (.bool (!q))) (fun _ _ _ _ _ _ => none) (fun _ _ _ _ _ _ => none) (fun _ _ _ _ _ _ => none) (fun _ _ _ _ _ _ => none)

noncomputable def intBF (op : BinOp) (k : IntKind) (a : Int) (j : IntKind) (b : Int) : Option V := bifF (kEq k j) (arithF op k a b)

noncomputable def binII : BinOp → IntKind → Int → IntKind → Int → Option V :=
  @BinOp.rec (fun _ => IntKind → Int → IntKind → Int → Option V) (fun k a j b => intBF .add k a j b) (fun k a j b => intBF .sub k a j b) (fun k a j b => intBF .mul k a j b) (fun k a j b => intBF .quo k a j b) (fun k a j b => intBF .rem k a j b) (fun k a j b => intBF .and k a j b) (fun k a j b => intBF .or k a j b) (fun k a j b => intBF .xor k a j b) (fun k a _ b => shiftK .shl k a b) (fun k a _ b => shiftK .shr k a b) (fun k a j b => intBF .andNot k a j b) (fun k a j b => intBF .eql k a j b) (fun k a j b => intBF .neq k a j b) (fun k a j b => intBF .lss k a j b) (fun k a j b => intBF .leq k a j b) (fun k a j b => intBF .gtr k a j b) (fun k a j b => intBF .geq k a j b)

noncomputable def binIE (k : IntKind) (a : Int) (b : V) (op : BinOp) (E : Env) (t : Nat) (cx cy : Bool) : Option V := eqBF op E t cx cy (.int k a) b

noncomputable def binI2 : V → IntKind → Int → BinOp → Env → Nat → Bool → Bool → Option V :=
  @V.rec (fun _ => IntKind → Int → BinOp → Env → Nat → Bool → Bool → Option V) (fun _ => PUnit) (fun x0  k a op E t cx cy => binIE k a (.bool x0) op E t cx cy) (fun j b k a op _ _ _ _ => binII op k a j b) (fun x0  k a op E t cx cy => binIE k a (.str x0) op E t cx cy) (fun   k a op E t cx cy => binIE k a .nilptr op E t cx cy) (fun x0 x1  k a op E t cx cy => binIE k a (.ptr x0 x1) op E t cx cy) (fun   k a op E t cx cy => binIE k a .nilslice op E t cx cy) (fun x0 x1 x2 x3  k a op E t cx cy => binIE k a (.slice x0 x1 x2 x3) op E t cx cy) (fun   k a op E t cx cy => binIE k a .nilmap op E t cx cy) (fun x0  k a op E t cx cy => binIE k a (.map x0) op E t cx cy) (fun   k a op E t cx cy => binIE k a .nilfn op E t cx cy) (fun x0 x1 x2 _ _ k a op E t cx cy => binIE k a (.fn x0 x1 x2) op E t cx cy) (fun x0  k a op E t cx cy => binIE k a (.yield x0) op E t cx cy) (fun   k a op E t cx cy => binIE k a .niliface op E t cx cy) (fun x0 x1 _ k a op E t cx cy => binIE k a (.iface x0 x1) op E t cx cy) (fun x0 _ k a op E t cx cy => binIE k a (.agg x0) op E t cx cy) (fun x0 _ k a op E t cx cy => binIE k a (.tup x0) op E t cx cy) (fun x0  k a op E t cx cy => binIE k a (.glob x0) op E t cx cy) (fun x0  k a op E t cx cy => binIE k a (.stamp x0) op E t cx cy) (fun   k a op E t cx cy => binIE k a .unk op E t cx cy) PUnit.unit (fun _ _ _ _ => PUnit.unit)

noncomputable def binS2 : V → List Nat → BinOp → Env → Nat → Bool → Bool → Option V :=
  @V.rec (fun _ => List Nat → BinOp → Env → Nat → Bool → Bool → Option V) (fun _ => PUnit) (fun x0  x op E t cx cy => eqBF op E t cx cy (.str x) (.bool x0)) (fun x0 x1  x op E t cx cy => eqBF op E t cx cy (.str x) (.int x0 x1)) (fun y x op _ _ _ _ => strOp op x y) (fun   x op E t cx cy => eqBF op E t cx cy (.str x) .nilptr) (fun x0 x1  x op E t cx cy => eqBF op E t cx cy (.str x) (.ptr x0 x1)) (fun   x op E t cx cy => eqBF op E t cx cy (.str x) .nilslice) (fun x0 x1 x2 x3  x op E t cx cy => eqBF op E t cx cy (.str x) (.slice x0 x1 x2 x3)) (fun   x op E t cx cy => eqBF op E t cx cy (.str x) .nilmap) (fun x0  x op E t cx cy => eqBF op E t cx cy (.str x) (.map x0)) (fun   x op E t cx cy => eqBF op E t cx cy (.str x) .nilfn) (fun x0 x1 x2 _ _ x op E t cx cy => eqBF op E t cx cy (.str x) (.fn x0 x1 x2)) (fun x0  x op E t cx cy => eqBF op E t cx cy (.str x) (.yield x0)) (fun   x op E t cx cy => eqBF op E t cx cy (.str x) .niliface) (fun x0 x1 _ x op E t cx cy => eqBF op E t cx cy (.str x) (.iface x0 x1)) (fun x0 _ x op E t cx cy => eqBF op E t cx cy (.str x) (.agg x0)) (fun x0 _ x op E t cx cy => eqBF op E t cx cy (.str x) (.tup x0)) (fun x0  x op E t cx cy => eqBF op E t cx cy (.str x) (.glob x0)) (fun x0  x op E t cx cy => eqBF op E t cx cy (.str x) (.stamp x0)) (fun   x op E t cx cy => eqBF op E t cx cy (.str x) .unk) PUnit.unit (fun _ _ _ _ => PUnit.unit)

noncomputable def binF : V → V → BinOp → Env → Nat → Bool → Bool → Option V :=
  @V.rec (fun _ => V → BinOp → Env → Nat → Bool → Bool → Option V) (fun _ => PUnit) (fun x0  b op E t cx cy => eqBF op E t cx cy (.bool x0) b) (fun k a b op E t cx cy => binI2 b k a op E t cx cy) (fun x b op E t cx cy => binS2 b x op E t cx cy) (fun   b op E t cx cy => eqBF op E t cx cy .nilptr b) (fun x0 x1  b op E t cx cy => eqBF op E t cx cy (.ptr x0 x1) b) (fun   b op E t cx cy => eqBF op E t cx cy .nilslice b) (fun x0 x1 x2 x3  b op E t cx cy => eqBF op E t cx cy (.slice x0 x1 x2 x3) b) (fun   b op E t cx cy => eqBF op E t cx cy .nilmap b) (fun x0  b op E t cx cy => eqBF op E t cx cy (.map x0) b) (fun   b op E t cx cy => eqBF op E t cx cy .nilfn b) (fun x0 x1 x2 _ _ b op E t cx cy => eqBF op E t cx cy (.fn x0 x1 x2) b) (fun x0  b op E t cx cy => eqBF op E t cx cy (.yield x0) b) (fun   b op E t cx cy => eqBF op E t cx cy .niliface b) (fun x0 x1 _ b op E t cx cy => eqBF op E t cx cy (.iface x0 x1) b) (fun x0 _ b op E t cx cy => eqBF op E t cx cy (.agg x0) b) (fun x0 _ b op E t cx cy => eqBF op E t cx cy (.tup x0) b) (fun x0  b op E t cx cy => eqBF op E t cx cy (.glob x0) b) (fun i b op E t cx cy => binV E op t cx cy (.stamp i) b) (fun   b op E t cx cy => eqBF op E t cx cy .unk b) PUnit.unit (fun _ _ _ _ => PUnit.unit)

theorem binF_eq (a b : V) (op : BinOp) (E : Env) (t : Nat) (cx cy : Bool) : binF a b op E t cx cy = binV E op t cx cy a b := by
  cases a with
  | int k n =>
    cases b with
    | int j m =>
      cases op <;> first | rfl | (show bifF _ (arithF _ k n m) = _; rw [bifF_eq, arithF_eq]; rfl)
    | _ => cases op <;> rfl
  | str x => cases b <;> cases op <;> rfl
  | _ => cases b <;> cases op <;> rfl

/-! ### Operations -/
noncomputable def pMove (x : Operand) (_ : Env) (tm : T V) : Option V := evoF x tm
noncomputable def pPick (c a b : Operand) (_ : Env) (tm : T V) : Option V := obF (evoF c tm) fun q => dBool q fun q => @Bool.rec (fun _ => Option V) (evoF b tm) (evoF a tm) q
noncomputable def nilOkF : V → Option V := @V.rec (fun _ => Option V) (fun _ => PUnit) (fun x0  => some (.bool x0)) (fun x0 x1  => some (.int x0 x1)) (fun x0  => some (.str x0)) (none) (fun x0 x1  => some (.ptr x0 x1)) (some .nilslice) (fun x0 x1 x2 x3  => some (.slice x0 x1 x2 x3)) (some .nilmap) (fun x0  => some (.map x0)) (none) (fun x0 x1 x2 _ _ => some (.fn x0 x1 x2)) (fun x0  => some (.yield x0)) (none) (fun x0 x1 _ => some (.iface x0 x1)) (fun x0 _ => some (.agg x0)) (fun x0 _ => some (.tup x0)) (fun x0  => some (.glob x0)) (fun x0  => some (.stamp x0)) (none) PUnit.unit (fun _ _ _ _ => PUnit.unit)
theorem nilOkF_eq (v : V) : nilOkF v = nilOk v := by cases v <;> rfl
noncomputable def pNil (x : Operand) (_ : Env) (tm : T V) : Option V := obF (evoF x tm) nilOkF
noncomputable def pBin (op : BinOp) (t : Nat) (x y : Operand) (_ : Nat) (E : Env) (tm : T V) : Option V := obF (evoF x tm) fun a => obF (evoF y tm) fun b => binF a b op E t (isConstF x) (isConstF y)
noncomputable def pUn (op : UnOp) (_ : Nat) (x : Operand) (_ : Env) (tm : T V) : Option V := obF (evoF x tm) (unV op)
noncomputable def fieldAddrF (ti : TI) (x : V) (i : Nat) : Option V := dStruct ti.d fun fs _ => dPtr x fun b o => obF (nthF fs i) fun f => bif Nat.beq f.size 0 then none else some (.ptr b (o + f.off))
noncomputable def pFieldAddr (t : Nat) (x : Operand) (i : Nat) (E : Env) (tm : T V) : Option V := obF (E.ti t) fun ti => obF (evoF x tm) fun v => fieldAddrF ti v i
noncomputable def fieldF (ti : TI) (x : V) (i : Nat) : Option V := dStruct ti.d fun fs _ => dAgg x fun cs => obF (nthF fs i) fun f => part f.agg f.size cs f.off
noncomputable def pField (t : Nat) (x : Operand) (i : Nat) (E : Env) (tm : T V) : Option V := obF (E.ti t) fun ti => obF (evoF x tm) fun v => fieldF ti v i
noncomputable def pExtract (x : Operand) (i : Nat) (_ : Env) (tm : T V) : Option V := obF (evoF x tm) fun v => dTup v fun vs => nthF vs i
noncomputable def pIndexAddr (t : Nat) (x i : Operand) (E : Env) (tm : T V) : Option V := obF (E.ti t) fun ti => obF (evoF x tm) fun v => obF (evoF i tm) fun j => indexAddrV ti v j
noncomputable def pIndex (t : Nat) (x i : Operand) (E : Env) (tm : T V) : Option V := obF (E.ti t) fun ti => obF (evoF x tm) fun v => obF (evoF i tm) fun j => indexV ti v j
theorem dStruct_eq {β : Type} (d : TD) (k : List FD → Bool → Option β) : dStruct d k = (match d with | .struct fs c => k fs c | _ => none) := by cases d <;> rfl
theorem dPtr_eq {β : Type} (v : V) (k : Nat → Nat → Option β) : dPtr v k = (match v with | .ptr b o => k b o | _ => none) := by cases v <;> rfl
theorem dAgg_eq {β : Type} (v : V) (k : List V → Option β) : dAgg v k = (match v with | .agg b => k b | _ => none) := by cases v <;> rfl
theorem fieldAddrF_eq (ti : TI) (x : V) (i : Nat) : fieldAddrF ti x i = fieldAddrV ti x i := by
  unfold fieldAddrF fieldAddrV
  rw [dStruct_eq]
  cases ti.d <;> try rfl
  rename_i fs c
  simp only [dPtr_eq]
  cases x <;> try rfl
  simp only [obF_eq, nthF_eq]
theorem fieldF_eq (ti : TI) (x : V) (i : Nat) : fieldF ti x i = fieldV ti x i := by
  unfold fieldF fieldV
  rw [dStruct_eq]
  cases ti.d <;> try rfl
  rename_i fs c
  simp only [dAgg_eq]
  cases x <;> try rfl
  simp only [obF_eq, nthF_eq]

noncomputable def pTab : Op → Env → T V → Option V :=
  @Op.rec (fun _ => Env → T V → Option V) pMove pMove pPick (fun _ => (fun _ _ => none)) (fun _ _ => (fun _ _ => none)) (fun x0 x1 E tm => execP E tm (.build x0 x1)) (fun _ _ _ => (fun _ _ => none)) (fun _ _ _ _ => (fun _ _ => none)) (fun _ _ => (fun _ _ => none)) (fun _ _ _ => (fun _ _ => none)) (fun _ => (fun _ _ => none)) (fun _ => (fun _ _ => none)) pNil pBin pUn (fun x0 x1 x2 E tm => execP E tm (.convert x0 x1 x2)) (fun _ _ => (fun _ _ => none)) (fun x0 x1 E tm => execP E tm (.makeInterface x0 x1)) (fun x0 x1 x2 E tm => execP E tm (.makeFunc x0 x1 x2)) (fun _ _ => (fun _ _ => none)) (fun _ _ => (fun _ _ => none)) (fun _ _ _ => (fun _ _ => none)) (fun x0 x1 x2 x3 x4 E tm => execP E tm (.slice x0 x1 x2 x3 x4)) pFieldAddr pField pIndexAddr pIndex (fun _ _ _ _ => (fun _ _ => none)) (fun _ _ _ _ => (fun _ _ => none)) (fun _ _ _ => (fun _ _ => none)) (fun _ _ _ _ => (fun _ _ => none)) (fun _ _ => (fun _ _ => none)) (fun _ _ => (fun _ _ => none)) (fun _ => (fun _ _ => none)) (fun _ _ _ _ => (fun _ _ => none)) pExtract (fun _ => (fun _ _ => none)) (fun _ => (fun _ _ => none)) (fun _ => (fun _ _ => none)) (fun _ => (fun _ _ => none)) (fun _ _ => (fun _ _ => none)) (fun _ _ _ => (fun _ _ => none)) (fun _ _ => (fun _ _ => none))

theorem dBool_eq {β : Type} (v : V) (k : Bool → Option β) : dBool v k = (match v with | .bool b => k b | _ => none) := by cases v <;> rfl
theorem dTup_eq {β : Type} (v : V) (k : List V → Option β) : dTup v k = (match v with | .tup b => k b | _ => none) := by cases v <;> rfl
theorem ob_congr {α β : Type} {o : Option α} {f g : α → Option β} (h : ∀ a, f a = g a) : ob o f = ob o g := by cases o <;> simp [ob, h]
theorem pTab_eq (op : Op) (E : Env) (tm : T V) : pTab op E tm = execP E tm op := by
  cases op <;> try rfl
  · exact evoF_eq _ _
  · exact evoF_eq _ _
  · show pPick _ _ _ E tm = _
    unfold pPick execP
    simp only [obF_eq, evoF_eq]
    refine ob_congr fun q => ?_
    rw [dBool_eq]
    cases q <;> try rfl
    rename_i b
    cases b <;> rfl
  · show pNil _ E tm = _
    unfold pNil execP
    simp only [obF_eq, evoF_eq]
    exact ob_congr nilOkF_eq
  · show pBin _ _ _ _ 0 E tm = _
    unfold pBin execP
    simp only [obF_eq, evoF_eq, binF_eq, isConstF_eq]
  · show pUn _ 0 _ E tm = _
    unfold pUn execP
    simp only [obF_eq, evoF_eq]
  · show pFieldAddr _ _ _ E tm = _
    unfold pFieldAddr execP
    simp only [obF_eq, evoF_eq, fieldAddrF_eq]
  · show pField _ _ _ E tm = _
    unfold pField execP
    simp only [obF_eq, evoF_eq, fieldF_eq]
  · show pIndexAddr _ _ _ E tm = _
    unfold pIndexAddr execP
    simp only [obF_eq, evoF_eq]
  · show pIndex _ _ _ E tm = _
    unfold pIndex execP
    simp only [obF_eq, evoF_eq]
  · show pExtract _ _ E tm = _
    unfold pExtract execP
    simp only [obF_eq, evoF_eq]
    refine ob_congr fun q => ?_
    rw [dTup_eq]
    cases q <;> try rfl
    exact nthF_eq _ _

noncomputable def cellsF (h : Hp) (b : Nat) : Option (List V) := obF (getF h.os b) fun o => dCells o fun cs _ _ => some cs
theorem cellsF_eq (h : Hp) (b : Nat) : cellsF h b = h.cells b := by
  unfold cellsF Hp.cells Hp.get
  rw [obF_eq, getF_eq]
  cases T.get h.os b with
  | none => rfl
  | some o => cases o <;> rfl
noncomputable def loadG (g : Nat) (E : Env) (ti : TI) (_ : Hp) : Option V := bif ti.agg then none else bif E.gl g then some .unk else none
noncomputable def loadP (b o : Nat) (_ : Env) (ti : TI) (h : Hp) : Option V := obF (cellsF h b) fun cs => part ti.agg ti.size cs o

noncomputable def loadF : V → Env → TI → Hp → Option V :=
  @V.rec (fun _ => Env → TI → Hp → Option V) (fun _ => PUnit) (fun _ => (fun _ _ _ => none)) (fun _ _ => (fun _ _ _ => none)) (fun _ => (fun _ _ _ => none)) (fun _ _ _ => none) loadP (fun _ _ _ => none) (fun _ _ _ _ => (fun _ _ _ => none)) (fun _ _ _ => none) (fun _ => (fun _ _ _ => none)) (fun _ _ _ => none) (fun _ _ _ _ _ => (fun _ _ _ => none)) (fun _ => (fun _ _ _ => none)) (fun _ _ _ => none) (fun _ _ _ => (fun _ _ _ => none)) (fun _ _ => (fun _ _ _ => none)) (fun _ _ => (fun _ _ _ => none)) loadG (fun _ => (fun _ _ _ => none)) (fun _ _ _ => none) PUnit.unit (fun _ _ _ _ => PUnit.unit)

theorem loadF_eq (v : V) (E : Env) (ti : TI) (h : Hp) : loadF v E ti h = loadAt E ti v h := by
  cases v <;> try rfl
  show loadP _ _ E ti h = _
  unfold loadP loadAt
  simp only [obF_eq, cellsF_eq]
noncomputable def lLoad (t : Nat) (a : Operand) (E : Env) (tm : T V) (h : Hp) : Option V := obF (E.ti t) fun ti => obF (evoF a tm) fun v => loadF v E ti h

noncomputable def lTab : Op → Env → T V → Hp → Option V :=
  @Op.rec (fun _ => Env → T V → Hp → Option V) (fun _ => (fun _ _ _ => none)) (fun _ => (fun _ _ _ => none)) (fun _ _ _ => (fun _ _ _ => none)) (fun _ => (fun _ _ _ => none)) (fun _ _ => (fun _ _ _ => none)) (fun _ _ => (fun _ _ _ => none)) (fun _ _ _ => (fun _ _ _ => none)) (fun _ _ _ _ => (fun _ _ _ => none)) lLoad (fun _ _ _ => (fun _ _ _ => none)) (fun _ => (fun _ _ _ => none)) (fun _ => (fun _ _ _ => none)) (fun _ => (fun _ _ _ => none)) (fun _ _ _ _ _ => (fun _ _ _ => none)) (fun _ _ _ => (fun _ _ _ => none)) (fun x0 x1 x2 E tm h => execL E tm (.convert x0 x1 x2) h) (fun _ _ => (fun _ _ _ => none)) (fun _ _ => (fun _ _ _ => none)) (fun _ _ _ => (fun _ _ _ => none)) (fun _ _ => (fun _ _ _ => none)) (fun _ _ => (fun _ _ _ => none)) (fun _ _ _ => (fun _ _ _ => none)) (fun _ _ _ _ _ => (fun _ _ _ => none)) (fun _ _ _ => (fun _ _ _ => none)) (fun _ _ _ => (fun _ _ _ => none)) (fun _ _ _ => (fun _ _ _ => none)) (fun _ _ _ => (fun _ _ _ => none)) (fun x0 x1 x2 x3 E tm h => execL E tm (.lookup x0 x1 x2 x3) h) (fun _ _ _ _ => (fun _ _ _ => none)) (fun _ _ _ => (fun _ _ _ => none)) (fun _ _ _ _ => (fun _ _ _ => none)) (fun _ _ => (fun _ _ _ => none)) (fun _ _ => (fun _ _ _ => none)) (fun _ => (fun _ _ _ => none)) (fun _ _ _ _ => (fun _ _ _ => none)) (fun _ _ => (fun _ _ _ => none)) (fun x0 E tm h => execL E tm (.call x0) h) (fun _ => (fun _ _ _ => none)) (fun _ => (fun _ _ _ => none)) (fun _ => (fun _ _ _ => none)) (fun _ _ => (fun _ _ _ => none)) (fun _ _ _ => (fun _ _ _ => none)) (fun _ _ => (fun _ _ _ => none))

theorem lTab_eq (op : Op) (E : Env) (tm : T V) (h : Hp) : lTab op E tm h = execL E tm op h := by
  cases op <;> try rfl
  show lLoad _ _ E tm h = _
  unfold lLoad execL
  simp only [obF_eq, evoF_eq, loadF_eq]

noncomputable def aAlloc (t : Nat) (E : Env) (_ : T V) (b : Nat) : Option (V × O) := obF (E.ti t) fun ti => some (.ptr b 0, .cells ti.zero.cells t false)
noncomputable def aBox (t : Nat) (x : Operand) (_ : Env) (tm : T V) (b : Nat) : Option (V × O) := obF (evoF x tm) fun v => bif allOne v.cells then some (.ptr b 0, .cells v.cells t false) else none

noncomputable def aTab : Op → Env → T V → Nat → Option (V × O) :=
  @Op.rec (fun _ => Env → T V → Nat → Option (V × O)) (fun _ => (fun _ _ _ => none)) (fun _ => (fun _ _ _ => none)) (fun _ _ _ => (fun _ _ _ => none)) aAlloc aBox (fun _ _ => (fun _ _ _ => none)) (fun x0 x1 x2 E tm b => execA E tm (.buildSlice x0 x1 x2) b) (fun _ _ _ _ => (fun _ _ _ => none)) (fun _ _ => (fun _ _ _ => none)) (fun _ _ _ => (fun _ _ _ => none)) (fun _ => (fun _ _ _ => none)) (fun _ => (fun _ _ _ => none)) (fun _ => (fun _ _ _ => none)) (fun _ _ _ _ _ => (fun _ _ _ => none)) (fun _ _ _ => (fun _ _ _ => none)) (fun x0 x1 x2 E tm b => execA E tm (.convert x0 x1 x2) b) (fun _ _ => (fun _ _ _ => none)) (fun _ _ => (fun _ _ _ => none)) (fun _ _ _ => (fun _ _ _ => none)) (fun x0 x1 E tm b => execA E tm (.makeMap x0 x1) b) (fun _ _ => (fun _ _ _ => none)) (fun x0 x1 x2 E tm b => execA E tm (.makeSlice x0 x1 x2) b) (fun _ _ _ _ _ => (fun _ _ _ => none)) (fun _ _ _ => (fun _ _ _ => none)) (fun _ _ _ => (fun _ _ _ => none)) (fun _ _ _ => (fun _ _ _ => none)) (fun _ _ _ => (fun _ _ _ => none)) (fun _ _ _ _ => (fun _ _ _ => none)) (fun _ _ _ _ => (fun _ _ _ => none)) (fun _ _ _ => (fun _ _ _ => none)) (fun _ _ _ _ => (fun _ _ _ => none)) (fun _ _ => (fun _ _ _ => none)) (fun _ _ => (fun _ _ _ => none)) (fun _ => (fun _ _ _ => none)) (fun _ _ _ _ => (fun _ _ _ => none)) (fun _ _ => (fun _ _ _ => none)) (fun _ => (fun _ _ _ => none)) (fun _ => (fun _ _ _ => none)) (fun _ => (fun _ _ _ => none)) (fun _ => (fun _ _ _ => none)) (fun _ _ => (fun _ _ _ => none)) (fun _ _ _ => (fun _ _ _ => none)) (fun _ _ => (fun _ _ _ => none))

theorem aTab_eq (op : Op) (E : Env) (tm : T V) (b : Nat) : aTab op E tm b = execA E tm op b := by
  cases op <;> try rfl
  · show aAlloc _ E tm b = _
    unfold aAlloc execA
    simp only [obF_eq]
  · show aBox _ _ E tm b = _
    unfold aBox execA
    simp only [obF_eq, evoF_eq]

noncomputable def storeCellsF (h : Hp) (b o : Nat) (vs : List V) : Option Hp := obF (getF h.os b) fun ob => dCells ob fun cs el fz => bif fz then none else bifF (allOne vs) (obF (splice cs o vs) fun cs' => some (h.set b (.cells cs' el fz)))
theorem storeCellsF_eq (h : Hp) (b o : Nat) (vs : List V) : storeCellsF h b o vs = storeCells h b o vs := by
  unfold storeCellsF storeCells Hp.get
  rw [obF_eq, getF_eq]
  cases T.get h.os b with
  | none => rfl
  | some ob =>
    cases ob <;> try rfl
    show (bif _ then none else bifF _ (obF _ _)) = (bif _ then none else bif _ then _ else none)
    simp only [bifF_eq, obF_eq]
noncomputable def storeF (ti : TI) (v x : V) (h : Hp) : Option Hp := dPtr v fun b o => bifF (Nat.beq (len x.cells) ti.size) (storeCellsF h b o x.cells)
theorem storeF_eq (ti : TI) (v x : V) (h : Hp) : storeF ti v x h = storeAt ti v x h := by
  unfold storeF storeAt
  rw [dPtr_eq]
  cases v <;> try rfl
  simp only [bifF_eq, storeCellsF_eq]
noncomputable def eStore (t : Nat) (a x : Operand) (E : Env) (tm : T V) (h : Hp) : Option (V × Hp) := obF (E.ti t) fun ti => obF (evoF a tm) fun av => obF (evoF x tm) fun xv => obF (storeF ti av xv h) fun h' => some (.tup [], h')

noncomputable def eTab : Op → Env → T V → Hp → Option (V × Hp) :=
  @Op.rec (fun _ => Env → T V → Hp → Option (V × Hp)) (fun _ => (fun _ _ _ => none)) (fun _ => (fun _ _ _ => none)) (fun _ _ _ => (fun _ _ _ => none)) (fun _ => (fun _ _ _ => none)) (fun _ _ => (fun _ _ _ => none)) (fun _ _ => (fun _ _ _ => none)) (fun _ _ _ => (fun _ _ _ => none)) (fun x0 x1 x2 x3 E tm h => execE E tm (.insert x0 x1 x2 x3) h) (fun _ _ => (fun _ _ _ => none)) eStore (fun _ => (fun _ _ _ => none)) (fun _ => (fun _ _ _ => none)) (fun _ => (fun _ _ _ => none)) (fun _ _ _ _ _ => (fun _ _ _ => none)) (fun _ _ _ => (fun _ _ _ => none)) (fun _ _ _ => (fun _ _ _ => none)) (fun _ _ => (fun _ _ _ => none)) (fun _ _ => (fun _ _ _ => none)) (fun _ _ _ => (fun _ _ _ => none)) (fun _ _ => (fun _ _ _ => none)) (fun _ _ => (fun _ _ _ => none)) (fun _ _ _ => (fun _ _ _ => none)) (fun _ _ _ _ _ => (fun _ _ _ => none)) (fun _ _ _ => (fun _ _ _ => none)) (fun _ _ _ => (fun _ _ _ => none)) (fun _ _ _ => (fun _ _ _ => none)) (fun _ _ _ => (fun _ _ _ => none)) (fun _ _ _ _ => (fun _ _ _ => none)) (fun x0 x1 x2 x3 E tm h => execE E tm (.mapUpdate x0 x1 x2 x3) h) (fun x0 x1 x2 E tm h => execE E tm (.mapEntry x0 x1 x2) h) (fun x0 x1 x2 x3 E tm h => execE E tm (.entryStore x0 x1 x2 x3) h) (fun x0 x1 E tm h => execE E tm (.range x0 x1) h) (fun x0 x1 E tm h => execE E tm (.next x0 x1) h) (fun x0 E tm h => execE E tm (.entry x0) h) (fun _ _ _ _ => (fun _ _ _ => none)) (fun _ _ => (fun _ _ _ => none)) (fun x0 E tm h => execE E tm (.call x0) h) (fun _ => (fun _ _ _ => none)) (fun _ => (fun _ _ _ => none)) (fun _ => (fun _ _ _ => none)) (fun _ _ => (fun _ _ _ => none)) (fun _ _ _ => (fun _ _ _ => none)) (fun _ _ => (fun _ _ _ => none))

theorem eTab_eq (op : Op) (E : Env) (tm : T V) (h : Hp) : eTab op E tm h = execE E tm op h := by
  cases op <;> try rfl
  show eStore _ _ _ E tm h = _
  unfold eStore execE
  simp only [obF_eq, evoF_eq, storeF_eq]

noncomputable def clTab : Op → Env → Cl :=
  @Op.rec (fun _ => Env → Cl) (fun _ => (fun _ => .p)) (fun _ => (fun _ => .p)) (fun _ _ _ => (fun _ => .p)) (fun _ => (fun _ => .a)) (fun _ _ => (fun _ => .a)) (fun _ _ => (fun _ => .p)) (fun _ _ _ => (fun _ => .a)) (fun _ _ _ _ => (fun _ => .i)) (fun _ _ => (fun _ => .l)) (fun _ _ _ => (fun _ => .e)) (fun _ => (fun _ => .e)) (fun _ => (fun _ => .e)) (fun _ => (fun _ => .p)) (fun _ _ _ _ _ => (fun _ => .p)) (fun _ _ _ => (fun _ => .p)) (fun s d x E => clOf E (.convert s d x)) (fun _ _ => (fun _ => .e)) (fun _ _ => (fun _ => .p)) (fun _ _ _ => (fun _ => .p)) (fun _ _ => (fun _ => .a)) (fun _ _ => (fun _ => .e)) (fun _ _ _ => (fun _ => .a)) (fun _ _ _ _ _ => (fun _ => .p)) (fun _ _ _ => (fun _ => .p)) (fun _ _ _ => (fun _ => .p)) (fun _ _ _ => (fun _ => .p)) (fun _ _ _ => (fun _ => .p)) (fun _ _ _ _ => (fun _ => .l)) (fun _ _ _ _ => (fun _ => .e)) (fun _ _ _ => (fun _ => .e)) (fun _ _ _ _ => (fun _ => .e)) (fun _ _ => (fun _ => .e)) (fun _ _ => (fun _ => .e)) (fun _ => (fun _ => .e)) (fun _ _ _ _ => (fun _ => .e)) (fun _ _ => (fun _ => .p)) (fun c E => clOf E (.call c)) (fun _ => (fun _ => .e)) (fun _ => (fun _ => .e)) (fun _ => (fun _ => .e)) (fun _ _ => (fun _ => .e)) (fun _ _ _ => (fun _ => .e)) (fun _ _ => (fun _ => .e))

theorem clTab_eq (op : Op) (E : Env) : clTab op E = clOf E op := by cases op <;> rfl

noncomputable def callTab : Op → Option Go.Call :=
  @Op.rec (fun _ => Option Go.Call) (fun _ => none) (fun _ => none) (fun _ _ _ => none) (fun _ => none) (fun _ _ => none) (fun _ _ => none) (fun _ _ _ => none) (fun _ _ _ _ => none) (fun _ _ => none) (fun _ _ _ => none) (fun _ => none) (fun _ => none) (fun _ => none) (fun _ _ _ _ _ => none) (fun _ _ _ => none) (fun _ _ _ => none) (fun _ _ => none) (fun _ _ => none) (fun _ _ _ => none) (fun _ _ => none) (fun _ _ => none) (fun _ _ _ => none) (fun _ _ _ _ _ => none) (fun _ _ _ => none) (fun _ _ _ => none) (fun _ _ _ => none) (fun _ _ _ => none) (fun _ _ _ _ => none) (fun _ _ _ _ => none) (fun _ _ _ => none) (fun _ _ _ _ => none) (fun _ _ => none) (fun _ _ => none) (fun _ => none) (fun _ _ _ _ => none) (fun _ _ => none) (fun c => isCallV (.call c)) (fun _ => none) (fun _ => none) (fun _ => none) (fun _ _ => none) (fun _ _ _ => none) (fun _ _ => none)

theorem callTab_eq (op : Op) : callTab op = isCallV op := by cases op <;> rfl

noncomputable def clSel (op : Op) (E : Env) (tm : T V) (h : Hp) : Cl → Option (V × Hp) :=
  @Cl.rec (fun _ => Option (V × Hp)) (obF (pTab op E tm) fun v => some (v, h)) (obF (lTab op E tm h) fun v => some (v, h)) (obF (aTab op E tm h.nx) fun r => some (r.1, newF h r.2)) (eTab op E tm h) (eTab op E tm h)
/-- An operation that is no call of a function, in the order of the text. -/
noncomputable def exoF (op : Op) (E : Env) (tm : T V) (h : Hp) : Option (V × Hp) := clSel op E tm h (clTab op E)
theorem exoF_eq (op : Op) (E : Env) (tm : T V) (h : Hp) : exoF op E tm h = (match clOf E op with
        | .p => ob (execP E tm op) fun v => some (v, h)
        | .l => ob (execL E tm op h) fun v => some (v, h)
        | .a => ob (execA E tm op h.nx) fun r => some (r.1, h.new r.2)
        | .i => execE E tm op h
        | .e => execE E tm op h) := by
  unfold exoF
  rw [clTab_eq]
  unfold clSel
  cases clOf E op <;> simp only [obF_eq, pTab_eq, lTab_eq, aTab_eq, eTab_eq, newF_eq]
end Go.Ev
