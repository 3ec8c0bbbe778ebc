import Derived.Test.YtikganlbnhapcaaAvWp
namespace Go.Proofs.Ytikganlbnhapcaa
open Go.RowKit
set_option linter.unusedVariables false
set_option linter.unusedSimpArgs false

def initSt (args : List AV) (md : Md) : St := ⟨fun t => .k (args.getD t .any), fun _ => none, 0, md⟩
/-- the results, as plain abstract values -/
def aOuts (P : Program) (s : St) : List ResultVar → List TypeId → Option (List AV)
  | [], _ => some []
  | .tmp t :: rs, ty :: tys => match aArg P s ty (s.fr t), aOuts P s rs tys with
    | some x, some xs => some (x :: xs)
    | _, _ => none
  | .cell p u :: rs, _ :: tys => match aLoad P s u (s.fr p), aOuts P s rs tys with
    | some y, some xs => match y with
      | .k x => some (x :: xs)
      | _ => none
    | _, _ => none
  | _ :: _, [] => none
def oneOf : List AV → AV
  | [x] => x
  | xs => .tup xs
/-- what may be said less -/
def Wk (x y : AV) : Prop := ∀ (K : Kd) (v : Value), KRep K x v → KRep K y v
theorem Wk.of_eq {x y : AV} (h : y = x) : Wk x y := by subst h; exact fun _ _ h => h
def aEndK (P : Program) (rs : List ResultVar) (tys : List TypeId) (s : St) (r : AV) : Prop :=
  match aOuts P s rs tys with
  | some xs => Wk (oneOf xs) r
  | none => False
def AEx.fin : AEx → Bool
  | .exit _ => false
  | _ => true
section
variable {P : Program} {w0 : Base} {w w' : World} {K0 : Anc} {G : Gh} {us : Nat → Prop} {s : St} {a : Act}
/-- a depth more -/
def Kd.up (K : Kd) : Kd := ⟨K.val, K.hw, K.rw, K.dp + 1, fun δ d g h => K.fr δ d g (by omega)⟩
theorem Kd.up_le (K : Kd) : K.le K.up := ⟨fun _ => Nat.le_refl _, fun _ _ _ => rfl, fun _ _ _ _ h => h, Nat.le_succ _⟩
theorem slots_init {K : Kd} {args : List AV} {vs : Array Value} (ha : ArgsR K args vs) (G : Gh) (hG : K.le G.K) (n t : Nat) : SRep G (.k (args.getD t .any)) ((vs ++ Array.replicate (n - vs.size) undef).getD t undef) := by
  by_cases ht : t < args.length
  · refine .k _ _ ((ha.2 t _ _ (by simp [List.getD, ht]) ?_).mono hG)
    have h1 := ha.1
    have ht2 : t < vs.size := by omega
    rw [Array.getD_eq_getD_getElem?, Array.getElem?_append_left ht2]
    simp [ht2]
  · rw [List.getD_eq_getElem?_getD, List.getElem?_eq_none (by omega)]
    exact .k _ _ (.any _)
theorem init_real {K : Kd} {args : List AV} {vs : Array Value} {os : Nat → Bool} {nest : Bool} (hk : KOk K w) (ha : ArgsR K args vs) (n : Nat) :
    Real P (Base.all w) ⟨K, ⟨K.up, fun _ _ => none, fun _ _ => none, fun _ => none⟩⟩ ⟨K.up, fun _ _ => none, fun _ _ => none, fun _ => none⟩ (fun g => g < (initSt args ⟨os, K.dp, nest⟩).nx) (initSt args ⟨os, K.dp, nest⟩) { tmps := vs ++ Array.replicate (n - vs.size) undef, defers := [] } w :=
  ⟨Base.Kp.refl _, hk, fun t => slots_init ha _ K.up_le n t, fun d g e he => (by simp [initSt] at he), fun d1 g1 e1 d2 g2 e2 b he => (by simp [initSt] at he), fun d g _ => ⟨rfl, rfl⟩, Mks.nil _ _, fun d g r hr => (by simp at hr), fun d g b o hb => (by simp at hb), K.up_le, fun _ _ => rfl, fun b o ho => (by cases ho),
    fun d g => K.fr _ d g (Nat.le_refl _), Nat.lt_succ_self _, Nat.le_refl _, fun _ _ _ _ => rfl, .refl _⟩
def resOne (tmps : Array Value) : ResultVar → Sem Value
  | .tmp t => pure (tmps.getD t undef)
  | .cell p t => do loadVar t (← asAddr (tmps.getD p undef))
theorem outs_sound (h : Real P w0 K0 G us s a w) : ∀ (rs : List ResultVar) (tys : List TypeId) (xs : List AV), aOuts P s rs tys = some xs →
    ∃ vs : List Value, (rs.mapM (resOne a.tmps)).run P w = .ok vs w ∧ vs.length = xs.length ∧ ∀ (i : Nat) (x : AV) (v : Value), xs[i]? = some x → vs[i]? = some v → KRep (lendK s G w) x v
  | [], _, xs, ha => by simp only [aOuts, Option.some.injEq] at ha; subst ha; exact ⟨[], rfl, rfl, fun i x v hx => by simp at hx⟩
  | .tmp t :: rs, [], xs, ha => by simp [aOuts] at ha
  | .cell p u :: rs, [], xs, ha => by simp [aOuts] at ha
  | .tmp t :: rs, ty :: tys, xs, ha => by
    simp only [aOuts] at ha
    split at ha
    · rename_i x xs' h1 h2
      injection ha with ha; subst ha
      obtain ⟨vs, k1, k2, k3⟩ := outs_sound h rs tys xs' h2
      have hx := aArg_lend h (h.slots t) h1
      refine ⟨a.tmps.getD t undef :: vs, ?_, by simp [k2], fun i x v hx' hv => ?_⟩
      · rw [List.mapM_cons]; simp only [resOne, Sem.run_bind, Sem.run_pure, Result.andThen_ok, k1]
      · cases i with
        | zero => simp at hx' hv; subst hx'; subst hv; simpa using hx
        | succ i => exact k3 i x v (by simpa using hx') (by simpa using hv)
    · cases ha
  | .cell p u :: rs, ty :: tys, xs, ha => by
    simp only [aOuts] at ha
    split at ha
    · rename_i y xs' h1 h2
      split at ha
      · rename_i x
        injection ha with ha; subst ha
        obtain ⟨vs, k1, k2, k3⟩ := outs_sound h rs tys xs' h2
        obtain ⟨r, hr, hs⟩ := aLoad_sound h (h.slots p) h1
        have hptr : ∃ ad, a.tmps.getD p undef = .pointer (some ad) := by
          generalize a.tmps.getD p undef = q at hr
          unfold Instr.loadAt Instr.sureAddr at hr
          split at hr
          · exact ⟨_, rfl⟩
          · simp [stuck, Sem.run] at hr
        obtain ⟨ad, hp⟩ := hptr
        rw [hp] at hr
        have hr2 : (loadVar u ad).run P w = .ok r w := by simpa [Instr.loadAt, Instr.sureAddr] using hr
        refine ⟨r :: vs, ?_, by simp [k2], fun i x' v hx' hv => ?_⟩
        · rw [List.mapM_cons]; simp only [resOne, hp, asAddr, Sem.run_bind, Sem.run_pure, Result.andThen_ok, k1, hr2]
        · cases i with
          | zero =>
            simp at hx' hv; subst hx'; subst hv
            cases hs with | k _ _ hk => exact hk.mono (lend_le h)
          | succ i => exact k3 i x' v (by simpa using hx') (by simpa using hv)
      · cases ha
    · cases ha
theorem lend_below (h : Real P w0 K0 G us s a w) {b : Nat} (hb : w0.pr b) : (lendK s G w).hw b = G.K.hw b := by
  refine lend_hw0 fun hc => ?_
  obtain ⟨d, g, cs, h1, h2⟩ := hc
  exact ((h.ents _ _ _ h1).base h2).1 hb
theorem results_run {fn : Func} {tmps : Array Value} {vs : List Value} (h : (fn.results.toList.mapM (resOne tmps)).run P w = .ok vs w) : (results fn tmps).run P w = .ok (if h : vs.toArray.size = 1 then vs.toArray[0] else .tuple vs.toArray) w := by
  have e : results fn tmps = (do
      let vs ← fn.results.mapM (resOne tmps)
      pure (if h : vs.size = 1 then vs[0] else .tuple vs) : Sem Value) := by
    unfold results
    congr 1
  rw [e, Array.mapM_eq_mapM_toList]
  simp [h]
theorem finish (h : Real P w0 K0 G us s a w) {fn : Func} {r : AV} (hr : aEndK P fn.results.toList fn.resultTypes.toList s r) :
    ∃ v, (results fn a.tmps).run P w = .ok v w ∧ KRep (lendK s G w) r v := by
  unfold aEndK at hr
  split at hr
  · rename_i xs hxs
    obtain ⟨vs, q1, q2, q3⟩ := outs_sound h _ _ xs hxs
    refine ⟨_, results_run q1, hr _ _ ?_⟩
    unfold oneOf
    split
    · rename_i x
      have hl : vs.toArray.size = 1 := by simpa using q2
      rw [dif_pos hl]
      have h0 : 0 < vs.length := by simp at q2; omega
      exact q3 0 x _ rfl (by simp [h0])
    · rename_i hne
      have hl : ¬ vs.toArray.size = 1 := fun hc => by
        have : xs.length = 1 := by rw [← q2]; simpa using hc
        obtain ⟨x, rfl⟩ := List.length_eq_one_iff.1 this
        exact hne x rfl
      rw [dif_neg hl]
      exact .tup _ _ (by simp [q2]) fun i x v hx hv => q3 i x v hx (by simpa using hv)
  · exact hr.elim
/-- a mark is taken off -/
theorem Real.unmark {D : Nat} {ds : List Deferred} (h : Real P w0 K0 G us s a w) (hd : a.defers = { target := .collected D, args := #[] } :: ds) :
    (Instr.takeDeferred D).run P w = .ok [] (w.putObj D (.deferred none)) ∧
      Real P w0 ⟨K0.K, G.wo fun b => if b = D then none else G.oth b⟩ (G.wo fun b => if b = D then none else G.oth b) us s { tmps := a.tmps, defers := ds } (w.putObj D (.deferred none)) := by
  obtain ⟨l, h1, h2, h3⟩ := h.defers
  rw [hd] at h2
  cases l with
  | nil => cases h2
  | cons D' l =>
    simp only [List.map_cons, List.cons.injEq] at h2
    obtain ⟨e1, e2⟩ := h2
    have e3 : D = D' := by injection e1 with e1 _; injection e1
    subst e3
    obtain ⟨q1, q2⟩ := h3 D (by simp)
    obtain ⟨q3, q4⟩ := h.oth D _ q2
    refine ⟨run_takeDeferred q3, ?_⟩
    have hoth : ∀ b, b ≠ D → (w.putObj D (.deferred none)).heap[b]? = w.heap[b]? := fun b hb => World.putObj_heap_other hb
    have hcell : ∀ (b : Nat) (o : Obj), w.heap[b]? = some o → o.isCells = true → b ≠ D := fun b o hb ho e => by
      subst e; rw [q3] at hb; injection hb with hb; subst hb; cases ho
    have hblk : ∀ d g e, s.tb d = some (g, e) → ∀ b, entBlk G d g e = some b → b ≠ D := fun d g e he b hb => by
      have hE := h.ents d g e he
      cases e with
      | obj cs =>
        obtain ⟨b', p, arr, ty, k1, k2, k3, _⟩ := hE
        simp [entBlk, k1] at hb; subst hb
        exact hcell _ _ k3 rfl
      | fz cs => simp [entBlk] at hb
      | tag =>
        obtain ⟨r, k1, k2, _⟩ := hE
        simp [entBlk, k1] at hb
        rcases k2.2 with ⟨q, _⟩ | ⟨g', cap, cur, q1, _, q3, _⟩
        · rw [q] at hb; cases hb
        · rw [q1] at hb; injection hb with hb; simp only at hb; subst hb; exact hcell _ _ q3 rfl
    refine ⟨⟨h.below.os, h.below.tape, h.below.output, by have := h.below.size; simpa [World.putObj] using this, fun b hb => (hoth b (fun e => q1 (e ▸ hb))).trans (h.below.block b hb)⟩, h.kok.below fun b hb => ?_, fun t => (h.slots t).wo,
      fun d g e he => ((h.ents d g e he).carry (.refl G) fun b hb => ⟨hoth b (hblk d g e he b hb), rfl⟩).wo w0 rfl, fun d1 g1 e1 d2 g2 e2 b h1 h2 k1 k2 => ?_, h.fresh, ⟨l, (List.nodup_cons.1 h1).2, e2, fun D' hD' => ?_⟩, h.rows, h.offs, h.kle, h.kold, fun b o ho => ?_, h.krw, h.dpl, h.dp0, h.kro, .refl _⟩
    · obtain ⟨o, k1, k2⟩ := (h.kok b 0 (by omega)).1
      exact hoth b (hcell b o k1 k2)
    · rw [entBlk_wo] at k1 k2
      exact h.dist d1 g1 e1 d2 g2 e2 b h1 h2 k1 k2
    · have hne : D' ≠ D := fun e => (List.nodup_cons.1 h1).1 (e ▸ hD')
      refine ⟨(h3 D' (by simp [hD'])).1, ?_⟩
      show (if D' = D then none else G.oth D') = _
      rw [if_neg hne]; exact (h3 D' (by simp [hD'])).2
    · have ho' : (if b = D then none else G.oth b) = some o := ho
      split at ho'
      · cases ho'
      · rename_i hne; rw [hoth b hne]; exact h.oth b o ho'
/-- a body's end: the marks are taken off one by one -/
theorem leaves {fn : Func} {R : Ending → World → Prop} : ∀ (ds : List Deferred) (K0 : Anc) (G : Gh) (a : Act) (w : World), a.defers = ds → Real P w0 K0 G us s a w →
    (∀ (A : Anc) (G' : Gh) (a' : Act) (w' : World), A.K = K0.K → a'.tmps = a.tmps → a'.defers = [] → G'.K = G.K → G'.at_ = G.at_ → Real P w0 A G' us s a' w' → ∃ v, (results fn a.tmps).run P w' = .ok v w' ∧ R (.returned v) w') → LeavesInM Fence.wide 5 P fn a.tmps R ds .returning w
  | [], K0, G, a, w, hd, h, hR => hR K0 G a w rfl rfl hd rfl rfl h
  | d :: ds, K0, G, a, w, hd, h, hR => by
    obtain ⟨D, hD⟩ : ∃ D, d = { target := .collected D, args := #[] } := by
      obtain ⟨l, h1, h2, h3⟩ := h.defers
      rw [hd] at h2
      cases l with
      | nil => cases h2
      | cons D' l => simp only [List.map_cons, List.cons.injEq] at h2; exact ⟨D', h2.1⟩
    subst hD
    obtain ⟨q1, q2⟩ := h.unmark hd
    refine ⟨by simp, .inl ⟨D, _, rfl, q1, ?_⟩⟩
    exact leaves (fn := fn) (R := R) ds _ _ { tmps := a.tmps, defers := ds } _ rfl q2 fun A G' a' w' e1 e2 e3 e4 e5 hr => hR A G' a' w' e1 e2 e3 e4 e5 hr
/-- a body's walk, and what it leaves -/
theorem calls_av {f : FuncId} {fn : Func} {c : Code} {vs : Array Value} {R : Ending → World → Prop} (hmo : P.follows .mixedOrders = true) (hf : P.funcs[f]? = some fn) (hb : fn.body = some c) (hok : codeOk fn.ntmps true c = true) (Q : AEx → St → Prop) (hQ : ∀ e s, Q e s → e.fin = true)
    (h : aWp P c Q s) (hN : vs.size ≤ fn.ntmps) (hr : Real P w0 K0 G (fun g => g < s.nx) s { tmps := vs ++ Array.replicate (fn.ntmps - vs.size) undef, defers := [] } w)
    (hR : ∀ (e : AEx) (s' : St) (A : Anc) (G' : Gh) (a' : Act) (w' : World), Q e s' → A.K = K0.K → (∀ d g x, K0.G.at_ d g = some x → G'.at_ d g = some x) → Real P w0 A G' (fun g => g < s'.nx) s' a' w' → ∃ v, (results fn a'.tmps).run P w' = .ok v w' ∧ R (.returned v) w') : Calls P f vs w R := by
  refine callsIn_wide.1 (callsIn_of_wp_marks (n := 5) hf hb trivial (wpIn_mono (aWp_sound (N := fn.ntmps) hmo c true Fence.wide 5 w0 K0 Q s _ w G .wide (fun _ => rfl) hok h hr (by simp; omega)) ?_))
  rintro e a' w' ⟨e', s', G', rfl, k1, k2, k3⟩
  have hl := leaves (fn := fn) (R := R) a'.defers K0 G' a' w' rfl k2 fun A G2 a2 w2 q1 q2 _ q4 q5 q6 => by
    have := hR e' s' A G2 a2 w2 k1 q1 (fun d g x hx => by rw [q5]; exact k2.gle.at_ d g x hx) q6
    rw [q2] at this; exact this
  have := hQ _ _ k1
  cases e' with
  | normal => exact hl
  | ret => exact hl
  | exit id => cases this
theorem lend_rw : (lendK s G w).rw = G.K.rw := rfl
/-- a function's contract out of its walk: plain results -/
theorem spec_of' {f : FuncId} {fn : Func} {c : Code} {args : List AV} {r : AV} (os : Nat → Bool) (nest : Bool) (hmo : P.follows .mixedOrders = true) (hf : P.funcs[f]? = some fn) (hname : (fn.name == "runtime.NumGoroutine") = false) (hb : fn.body = some c) (hlen : args.length ≤ fn.ntmps) (hok : codeOk fn.ntmps true c = true)
    (h : ∀ δ, aWp P c (fun e s => e.fin = true ∧ aEndK P fn.results.toList fn.resultTypes.toList s r) (initSt args ⟨os, δ, nest⟩)) : Spec P f args (.k r) := by
  refine ⟨⟨fn, hf, hname, by rw [hb]; rfl⟩, fun K w vs hk ha => ?_⟩
  refine calls_av hmo hf hb hok _ (fun e s hq => hq.1) (h K.dp) (by rw [ha.1]; exact hlen) (init_real hk ha fn.ntmps) ?_
  rintro e s' A G' a' w' ⟨k1, k2⟩ hA _ k3
  obtain ⟨v, h1, h6⟩ := finish k3 k2
  have hkle : K.le G'.K := by have := k3.kle; rw [hA] at this; exact this
  refine ⟨v, h1, v, lendK s' G' w', rfl, k3.below.below, hkle.trans (lend_le k3), lend_ok k3, fun b hb => (lend_below k3 hb).trans (by have := k3.kold b hb; rw [hA] at this; exact this), fun δ hδ d g => ?_, h6⟩
  have := k3.kro δ (by rw [hA]; exact hδ) d g
  rw [hA] at this; exact this
theorem spec_of {f : FuncId} {fn : Func} {c : Code} {args : List AV} {r : AV} (os : Nat → Bool) (hmo : P.follows .mixedOrders = true) (hf : P.funcs[f]? = some fn) (hname : (fn.name == "runtime.NumGoroutine") = false) (hb : fn.body = some c) (hlen : args.length ≤ fn.ntmps) (hok : codeOk fn.ntmps true c = true)
    (h : ∀ δ, aWp P c (fun e s => e.fin = true ∧ aEndK P fn.results.toList fn.resultTypes.toList s r) (initSt args ⟨os, δ, false⟩)) : Spec P f args (.k r) := spec_of' os false hmo hf hname hb hlen hok h
theorem ownsRow_up {w : World} {B e size n : Nat} {v : Value} {xs : List Value} (h : w.ownsRow 0 e size v n xs) (hb : ∀ b, v.ownBlock = some b → B ≤ b) : w.ownsRow B e size v n xs := by
  obtain ⟨h1, h2⟩ := h
  refine ⟨h1, ?_⟩
  rcases h2 with h2 | ⟨g, cap, cur, e1, e2, e3⟩
  · exact .inl h2
  · exact .inr ⟨g, cap, cur, e1, hb g (by rw [e1]; rfl), e3⟩
/-- the result is a growing slice that nobody else has -/
def aEndO (rs : List ResultVar) (s : St) (n : Nat) (e : TypeId) (cells : List AV) : Prop :=
  ∃ t d g, rs = [.tmp t] ∧ s.fr t = .ow d g n e cells ∧ s.tb d = some (g, .tag) ∧ cells.all AV.sc = true
theorem spec_of_own {f : FuncId} {fn : Func} {c : Code} {args : List AV} {n : Nat} {e : TypeId} {cells : List AV} (os : Nat → Bool) (hmo : P.follows .mixedOrders = true) (hf : P.funcs[f]? = some fn) (hname : (fn.name == "runtime.NumGoroutine") = false) (hb : fn.body = some c) (hlen : args.length ≤ fn.ntmps) (hok : codeOk fn.ntmps true c = true)
    (h : ∀ δ, aWp P c (fun x s => x.fin = true ∧ aEndO fn.results.toList s n e cells) (initSt args ⟨os, δ, false⟩)) : Spec P f args (.own n e cells) := by
  refine ⟨⟨fn, hf, hname, by rw [hb]; rfl⟩, fun K w vs hk ha => ?_⟩
  refine calls_av hmo hf hb hok _ (fun e s hq => hq.1) (h K.dp) (by rw [ha.1]; exact hlen) (init_real hk ha fn.ntmps) ?_
  rintro x s' A G' a' w' ⟨k1, t, d, g, k2, k5, k6, k7⟩ hA _ k3
  have hkle : K.le G'.K := by have := k3.kle; rw [hA] at this; exact this
  have hkold : ∀ b, b < w.heap.size → G'.K.hw b = K.hw b := fun b hb => by have := k3.kold b hb; rw [hA] at this; exact this
  have hkro : ∀ δ, δ < K.dp → ∀ d g, G'.K.rw δ d g = K.rw δ d g := fun δ hδ d g => by
    have := k3.kro δ (by rw [hA]; exact hδ) d g
    rw [hA] at this; exact this
  have hs := k3.slots t
  rw [k5] at hs
  have hrun : (results fn a'.tmps).run P w' = .ok (a'.tmps.getD t undef) w' := by
    have := results_run (P := P) (w := w') (fn := fn) (tmps := a'.tmps) (vs := [a'.tmps.getD t undef]) (by rw [k2]; rfl)
    simpa using this
  refine ⟨_, hrun, ?_⟩
  generalize a'.tmps.getD t undef = v at hs
  cases hs with
  | ow d g n e cells r hr he hn hl hx hkk =>
    obtain ⟨r', hr', hown, hblk, hone⟩ := k3.ents _ _ _ k6
    rw [hr] at hr'
    injection hr' with hr'
    subst hr' he hn
    have hsz := k3.rows _ _ _ hr
    rw [hsz] at hown
    have hown := ownsRow_up (B := w.heap.size) hown (fun b hb => Nat.le_of_not_lt (hblk b hb).1)
    refine ⟨_, ⟨G'.K.val, fun b => if r.v.ownBlock = some b then 0 else G'.K.hw b, G'.K.rw, G'.K.dp, G'.K.fr⟩, rfl, k3.below.below, ?_, ?_, ?_, hkro, r.xs, hown, ?_, hone, hl, fun i x u hx' hu => (hx i x u hx' hu).of_sc (List.all_eq_true.1 k7 x (List.mem_of_getElem? hx'))⟩
    · refine ⟨fun b => ?_, fun b i hi => hkle.val b i hi, hkle.rw, hkle.dp⟩
      show K.hw b ≤ if r.v.ownBlock = some b then 0 else G'.K.hw b
      split
      · rename_i hb'
        have h1 := (World.ownsRow.lt hown b hb').1
        have := hk.hw0 (b := b) h1
        omega
      · exact hkle.hw b
    · intro b i hi
      have hi' : i < if r.v.ownBlock = some b then 0 else G'.K.hw b := hi
      split at hi'
      · omega
      · exact k3.kok b i hi'
    · intro b hb'
      show (if r.v.ownBlock = some b then 0 else G'.K.hw b) = K.hw b
      split
      · rename_i hb2
        have h1 := (World.ownsRow.lt hown b hb2).1
        omega
      · exact hkold b hb'
    · intro b hb'
      show (if r.v.ownBlock = some b then 0 else G'.K.hw b) = 0
      rw [if_pos hb']
end

end Go.Proofs.Ytikganlbnhapcaa
