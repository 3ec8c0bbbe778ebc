import Derived.Test.YtikganlbnhapcaaAvIn
namespace Go.Proofs.Ytikganlbnhapcaa
open Go.RowKit
set_option linter.unusedVariables false
set_option linter.unusedSimpArgs false

def idxFrom : Nat → List Oper → List (Nat × Oper)
  | _, [] => []
  | i, o :: l => (i, o) :: idxFrom (i + 1) l
theorem idx_ge : ∀ (l : List Oper) (i : Nat) (q : Nat × Oper), q ∈ idxFrom i l → i ≤ q.1
  | [], i, q, h => by simp [idxFrom] at h
  | o :: l, i, q, h => by
    rcases List.mem_cons.1 h with rfl | h
    · exact Nat.le_refl _
    · have := idx_ge l (i + 1) q h; omega
theorem idx_pw : ∀ (l : List Oper) (i : Nat), (idxFrom i l).Pairwise fun x y => x.1 < y.1
  | [], i => .nil
  | o :: l, i => .cons (fun q hq => by have := idx_ge l (i + 1) q hq; show i < q.1; omega) (idx_pw l (i + 1))
theorem idx_mem : ∀ (l : List Oper) (i j : Nat) (o : Oper), (i + j, o) ∈ idxFrom i l ↔ l[j]? = some o
  | [], i, j, o => by simp [idxFrom]
  | p :: l, i, 0, o => by
    simp only [idxFrom, List.mem_cons, Prod.mk.injEq, Nat.add_zero, true_and, List.getElem?_cons_zero, Option.some.injEq]
    constructor
    · rintro (h | h)
      · exact h.symm
      · have := idx_ge l (i + 1) _ h; simp only at this; omega
    · intro h; exact .inl h.symm
  | p :: l, i, j + 1, o => by
    simp only [idxFrom, List.mem_cons, Prod.mk.injEq, List.getElem?_cons_succ]
    rw [← idx_mem l (i + 1) j o, show i + 1 + j = i + (j + 1) by omega]
    constructor
    · rintro (h | h)
      · omega
      · exact h
    · intro h; exact .inr h
theorem idx_len : ∀ (l : List Oper) (i : Nat), (idxFrom i l).length = l.length
  | [], _ => rfl
  | o :: l, i => by simp [idxFrom, idx_len l]
/-- what a loop over a function assigns ahead of its body -/
def asgs : List Oper → Option (List (Nat × Nat))
  | [] => some []
  | ⟨some d, .assign (.tmp p), _, _, _, none⟩ :: l => (asgs l).map ((d, p) :: ·)
  | _ => none
def asgC : Code → Option (List (Nat × Nat))
  | .skip => some []
  | .region _ ops false => asgs ops.toList
  | _ => none
def runAs {α : Type} (F : Nat → α) : List (Nat × Nat) → Nat → α
  | [] => F
  | (d, p) :: l => runAs (upd F d (F p)) l
def putPs (F : Nat → SV) : List Nat → List AV → Nat → SV
  | p :: ps, x :: xs => putPs (upd F p (.k x)) ps xs
  | _, _ => F
def codeOk (N : Nat) (rf : Bool) : Code → Bool
  | .skip => true
  | .region _ ops _ => dstsOk N ops.toList && noDef ops.toList
  | .seq a b => codeOk N rf a && codeOk N rf b
  | .cond _ a b => codeOk N rf a && codeOk N rf b
  | .block _ c => codeOk N rf c
  | .loop c => codeOk N rf c
  | .exit _ => true
  | .ret => true
  | .rangeFunc _ ps a c => rf && ps.toList.all (· < N) && (match asgC a with
    | some l => l.all fun q => decide (q.1 < N)
    | none => false) && codeOk N false c
  | _ => false
/-- a closure that hands on these, one by one -/
def Iter (P : Program) (gf : Nat) (caps : List AV) (els : List (List AV)) : Prop :=
  (∀ args w, (callFunc gf args).run P w = .ok (.enter gf args) w) ∧ ∀ (K : Kd) (w : World) (vs : Array Value), KOk K w → ArgsR K caps vs → ∃ vals : Nat → Array Value, (∀ (i : Nat) (x : List AV), els[i]? = some x → ArgsR K x (vals i)) ∧
    ∀ n, SeqStopsK (α := Fin els.length) Fence.wide n P gf vs (fun i => vals i.val) (fun A B => KOk K A → KOk K B) (fun xs => xs.map (·.val) = List.range els.length) (fun _ => True) els.length w
/-- the walk, in plain words -/
def aWp (P : Program) : Code → (AEx → St → Prop) → St → Prop
  | .skip, Q, s => Q .normal s
  | .region _ ops false, Q, s => aRun P ops.toList 0 ops.toList s fun s' => Q .normal (s'.bump ops.size)
  | .region _ ops true, Q, s => ∃ kw, chkD ops.toList kw = true ∧ xRun P ops.toList kw (idxFrom 0 ops.toList) s fun s' => Q .normal (s'.bump ops.size)
  | .seq a b, Q, s => aWp P a (AEx.seq (aWp P b Q) Q) s
  | .cond c a b, Q, s => match (s.ev c).av with
    | .bool t => (t = true → aWp P a Q s) ∧ (t = false → aWp P b Q s)
    | _ => False
  | .block id c, Q, s => aWp P c (AEx.inBlock id Q) s
  | .loop c, Q, s => ∃ (I : Nat → St → Prop) (n : Nat), I n s ∧ ∀ n s, I n s → aWp P c (AEx.seq (fun s' => ∃ m, m < n ∧ I m s') Q) s
  | .exit id, Q, s => Q (.exit id) s
  | .ret, Q, s => Q .ret s
  | .rangeFunc g ps asg body, Q, s => ∃ (gf : Nat) (caps : List AV) (els : List (List AV)) (I : List (List AV) → St → Prop) (l : List (Nat × Nat)), s.ev g = .k (.fn gf caps) ∧ Iter P gf caps els ∧ (∀ x ∈ els, x.length = ps.size) ∧ asgC asg = some l ∧ I [] s ∧
      (∀ pre x s', I pre s' → pre.length < els.length → (∀ y ∈ pre, y ∈ els) → x ∈ els → aWp P body (fun e s'' => match e with
        | .normal => s''.md = s.md ∧ I (pre ++ [x]) s''
        | e => s''.md = s.md ∧ Q e ⟨s.fr, s''.tb, s''.nx, s.md⟩) ⟨runAs (putPs s.fr ps.toList x) l, s'.tb, s'.nx, s.md⟩) ∧ ∀ s', I els s' → Q .normal ⟨s.fr, s'.tb, s'.nx, s.md⟩
  | _, _, _ => False

section
variable {P : Program} {w0 : Base} {w w' : World} {K0 : Anc} {G : Gh} {us : Nat → Prop} {s : St} {a : Act}
/-- what a piece of code leaves -/
def Post (P : Program) (w0 : Base) (K0 : Anc) (N : Nat) (Q : AEx → St → Prop) (e : Exit) (a : Act) (w : World) : Prop := ∃ e' s G, e = AEx.to e' ∧ Q e' s ∧ Real P w0 K0 G (fun g => g < s.nx) s a w ∧ a.tmps.size = N
theorem post_out {N : Nat} {Q : AEx → St → Prop} : ¬ LetsOut (Post P w0 K0 N Q) := by
  rintro ⟨a, w, e', s, G, h, _⟩
  cases e' <;> cases h
theorem wpIn_n {F : Fence} (hF : Wd F) {n m : Nat} {c : Code} {Q : Exit → Act → World → Prop} (h : c.wpIn F n P Q a w) : c.wpIn F m P Q a w := fun b k cs hro hb _ => h b k cs hro hb (fun d hd => by rw [hF.dep] at hd; cases hd)
def SlR (G : Gh) (F : Nat → SV) (tmps : Array Value) : Prop := ∀ t, SRep G (F t) (tmps.getD t undef)
theorem SlR.put {G : Gh} {F : Nat → SV} {tmps : Array Value} (h : SlR G F tmps) {d : Nat} {x : SV} {v : Value} (hd : d < tmps.size) (hx : SRep G x v) : SlR G (upd F d x) (tmps.setIfInBounds d v) := by
  intro t
  by_cases e : t = d
  · subst e
    rw [upd_same, show (tmps.setIfInBounds t v).getD t undef = v by simp [Array.getD, hd]]; exact hx
  · rw [upd_ne _ _ _ _ e, show (tmps.setIfInBounds d v).getD t undef = tmps.getD t undef by
      rw [Array.getD_eq_getD_getElem?, Array.getD_eq_getD_getElem?, Array.getElem?_setIfInBounds_ne (Ne.symm e)]]
    exact h t
theorem putPs_R {G : Gh} : ∀ (ps : List Nat) (xs : List AV) (vs : List Value) (F : Nat → SV) (tmps : Array Value), SlR G F tmps → (∀ p ∈ ps, p < tmps.size) → xs.length = vs.length → (∀ (i : Nat) (x : AV) (v : Value), xs[i]? = some x → vs[i]? = some v → KRep G.K x v) →
    SlR G (putPs F ps xs) ((ps.zip vs).foldl (fun t (p, v) => t.setIfInBounds p v) tmps)
  | [], xs, vs, F, tmps, h, _, _, _ => by simpa [putPs] using h
  | p :: ps, [], vs, F, tmps, h, _, hl, _ => by
    have : vs = [] := List.length_eq_zero_iff.1 (by simpa using hl.symm)
    subst this; simpa [putPs] using h
  | p :: ps, x :: xs, [], F, tmps, h, _, hl, _ => by simp at hl
  | p :: ps, x :: xs, v :: vs, F, tmps, h, hp, hl, hk => by
    simp only [putPs, List.zip_cons_cons, List.foldl_cons]
    exact putPs_R ps xs vs _ _ (h.put (hp p (by simp)) (.k _ _ (hk 0 x v rfl rfl))) (fun q hq => by simpa using hp q (by simp [hq])) (by simpa using hl) (fun i x v h1 h2 => hk (i + 1) x v (by simpa using h1) (by simpa using h2))
def runT (tmps : Array Value) : List (Nat × Nat) → Array Value
  | [] => tmps
  | (d, p) :: l => runT (tmps.setIfInBounds d (tmps.getD p undef)) l
theorem runT_size : ∀ (l : List (Nat × Nat)) (tmps : Array Value), (runT tmps l).size = tmps.size
  | [], _ => rfl
  | (d, p) :: l, tmps => by rw [runT, runT_size l]; simp
theorem runAs_R {G : Gh} : ∀ (l : List (Nat × Nat)) (F : Nat → SV) (tmps : Array Value), SlR G F tmps → (∀ q ∈ l, q.1 < tmps.size) → SlR G (runAs F l) (runT tmps l)
  | [], F, tmps, h, _ => h
  | (d, p) :: l, F, tmps, h, hl => by
    simp only [runAs, runT]
    exact runAs_R l _ _ (h.put (hl (d, p) (by simp)) (h p)) (fun q hq => by simpa using hl q (by simp [hq]))
theorem foldl_size : ∀ (l : List (Nat × Value)) (tmps : Array Value), (l.foldl (fun t (p, v) => t.setIfInBounds p v) tmps).size = tmps.size
  | [], _ => rfl
  | q :: l, tmps => by rw [List.foldl_cons, foldl_size l]; simp
theorem asgs_wp {F : Fence} (hF : Wd F) {n : Nat} {ops : Array Oper} {K : Act → World → Prop} : ∀ (l : List Oper) (as : List (Nat × Nat)) (a : Act) (w : World), asgs l = some as → K { tmps := runT a.tmps as, defers := a.defers } w → wpListIn F n P ops (Exit.then K (fun _ _ _ => False)) l a w
  | [], as, a, w, h, hk => by
    simp only [asgs, Option.some.injEq] at h; subst h
    exact hk
  | o :: l, as, a, w, h, hk => by
    unfold asgs at h
    split at h
    · rename_i hc; cases hc
    · rename_i d p _ _ _ l' hc
      injection hc with h1 h2
      subst h1 h2
      simp only [Option.map_eq_some_iff] at h
      obtain ⟨as', h1, rfl⟩ := h
      refine wpListIn_plain rfl fun K' hK' => ?_
      refine ⟨fun f _ => hF.fn f, ?_⟩
      rw [Oper.semAt_eq _ _ _ (by intro c hc; cases hc)]
      exact hK' _ _ (asgs_wp hF l as' _ w h1 hk)
    · cases h
theorem asgC_wp {F : Fence} (hF : Wd F) {n : Nat} {K : Act → World → Prop} {c : Code} {as : List (Nat × Nat)} (h : asgC c = some as) (hk : K { tmps := runT a.tmps as, defers := a.defers } w) : c.wpIn F n P (Exit.then K (fun _ _ _ => False)) a w := by
  unfold asgC at h
  split at h
  · injection h with h; subst h; exact wpIn_skip hk
  · rename_i id ops
    refine wpIn_region_list (asgs_wp hF _ as a w h hk)
  · cases h
/-- the blocks that are no cells -/
def nonCells (W : World) : Nat → Option Obj := fun b => match W.heap[b]? with
  | some o => if o.isCells = false then some o else none
  | none => none
theorem nonCells_iff {W : World} {b : Nat} {o : Obj} : nonCells W b = some o ↔ W.heap[b]? = some o ∧ o.isCells = false := by
  unfold nonCells
  cases h : W.heap[b]? with
  | none => simp
  | some o' =>
    simp only [Option.some.injEq]
    split
    · rename_i hc
      constructor
      · intro e; injection e with e; subst e; exact ⟨rfl, hc⟩
      · rintro ⟨rfl, _⟩; rfl
    · rename_i hc
      constructor
      · intro e; cases e
      · rintro ⟨rfl, h⟩; exact absurd h hc
def Gh.wo (G : Gh) (o : Nat → Option Obj) : Gh := ⟨G.K, G.at_, G.row, o⟩
def Base.at_ (B : Base) (W : World) (h : B.Kp W) : Base := ⟨W, B.pr, fun b hb => Nat.lt_of_lt_of_le (B.lt b hb) h.size⟩
theorem Base.Kp.from {B : Base} {W W' : World} (h : B.Kp W) (k : (B.at_ W h).Kp W') : B.Kp W' :=
  ⟨k.os.trans h.os, k.tape.trans h.tape, k.output.trans h.output, Nat.le_trans h.size k.size, fun b hb => (k.block b hb).trans (h.block b hb)⟩
theorem EntOk.wo {G : Gh} {o : Nat → Option Obj} {B : Base} {d g : Nat} {e : Ent} (h : EntOk G B w d g e) (B' : Base) (hB : B'.pr = B.pr) : EntOk (G.wo o) B' w d g e := by
  cases e with
  | obj cs => obtain ⟨b, p, arr, ty, h1, h2, h3⟩ := h; exact ⟨b, p, arr, ty, h1, by rw [hB]; exact h2, h3⟩
  | fz cs => exact h
  | tag => obtain ⟨r, h1, h2, h3⟩ := h; exact ⟨r, h1, h2, fun b hb => by rw [hB]; exact h3.1 b hb, h3.2⟩
theorem entBlk_wo {G : Gh} {o : Nat → Option Obj} {d g : Nat} {e : Ent} : entBlk (G.wo o) d g e = entBlk G d g e := by cases e <;> rfl
theorem SRep.wo {G : Gh} {o : Nat → Option Obj} {x : SV} {v : Value} (h : SRep G x v) : SRep (G.wo o) x v := by
  cases h with
  | k x v hk => exact .k x v hk
  | ob d g off b o ha => exact .ob d g off b o ha
  | os d g off n cap b o c ha hn hc hm => exact .os d g off n cap b o c ha hn hc hm
  | ow d g n e cells r hr he hn hl hx hk => exact .ow d g n e cells r hr he hn hl hx hk
/-- another frame over the same table -/
theorem Real.frame (h : Real P w0 K0 G us s a w) {F : Nat → SV} {a' : Act} {B' : Base} (hB : B'.pr = w0.pr) (hk : B'.Kp w) (o : Nat → Option Obj) (ho : ∀ (b : Nat) (x : Obj), o b = some x → w.heap[b]? = some x ∧ x.isCells = false) (hd : Mks B' (G.wo o) a'.defers) (hs : SlR G F a'.tmps) :
    Real P B' ⟨K0.K, G.wo o⟩ (G.wo o) us ⟨F, s.tb, s.nx, s.md⟩ a' w := by
  refine ⟨hk, h.kok, fun t => (hs t).wo, fun d g e he => (h.ents d g e he).wo B' hB, fun d1 g1 e1 d2 g2 e2 b h1 h2 k1 k2 => ?_, h.fresh, hd, h.rows, h.offs, h.kle, fun b hb => h.kold b (by rw [← hB]; exact hb), ho, h.krw, h.dpl, h.dp0, h.kro, .refl _⟩
  rw [entBlk_wo] at k1 k2
  exact h.dist d1 g1 e1 d2 g2 e2 b h1 h2 k1 k2
/-- back to the frame that a round was called from -/
theorem Real.back {w1 : Base} {A : Anc} (h : Real P w1 A G us s a w) (hp : w1.pr = w0.pr) (hk : w0.Kp w) (hA : A.K = K0.K) {G1 : Gh} (hg : K0.G.lo G1) (ho1 : ∀ b o, G1.oth b = some o → G.oth b = some o) (hlo : ∀ x y, SRep G1 x y → SRep (G.wo G1.oth) x y) (hgl : (G1.wo G.oth).lo G)
    {F : Nat → SV} {a' : Act} (hd : Mks w0 G1 a'.defers) (hs : SlR G1 F a'.tmps) : Real P w0 K0 (G.wo G1.oth) us ⟨F, s.tb, s.nx, s.md⟩ a' w := by
  refine ⟨hk, h.kok, fun t => hlo _ _ (hs t), fun d g e he => (h.ents d g e he).wo w0 hp.symm, fun d1 g1 e1 d2 g2 e2 b h1 h2 k1 k2 => ?_, h.fresh, hd, h.rows, h.offs, by rw [← hA]; exact h.kle, fun b hb => by rw [← hA]; exact h.kold b (by rw [hp]; exact hb), fun b o ho => h.oth b o (ho1 b o ho), h.krw, h.dpl, by rw [← hA]; exact h.dp0, by rw [← hA]; exact h.kro, ?_⟩
  · rw [entBlk_wo] at k1 k2
    exact h.dist d1 g1 e1 d2 g2 e2 b h1 h2 k1 k2
  · exact ⟨hg.K.trans hgl.K, fun d g x e => hgl.at_ d g x (hg.at_ d g x e), fun d g x e => hgl.row d g x (hg.row d g x e), hg.oth⟩
theorem SRep.lo {G G' : Gh} (h : G.lo G') {x : SV} {v : Value} (hr : SRep G x v) : SRep G' x v := by
  cases hr with
  | k x v hk => exact .k x v (hk.mono h.K)
  | ob d g off b o ha => exact .ob d g off b o (h.at_ _ _ _ ha)
  | os d g off n cap b o c ha hn hc hm => exact .os d g off n cap b o c (h.at_ _ _ _ ha) hn hc hm
  | ow d g n e cells r hr he hn hl hx hk => exact .ow d g n e cells r (h.row _ _ _ hr) he hn hl (fun i x v h1 h2 => (hx i x v h1 h2).mono h.K) (hk.mono h.K)
/-- a loop over a function leaves its mark -/
theorem Real.mark (h : Real P w0 K0 G us s a w) (D : Nat) (hp : ¬ w0.pr D) (hn : ∀ o, G.oth D ≠ some o) (hd : w.heap[D]? = some (.deferred (some []))) :
    Real P w0 K0 (G.wo fun b => if b = D then some (.deferred (some [])) else G.oth b) us s { a with defers := { target := .collected D, args := #[] } :: a.defers } w := by
  have hlo : G.lo (G.wo fun b => if b = D then some (.deferred (some [])) else G.oth b) := ⟨.refl _, fun _ _ _ h => h, fun _ _ _ h => h, fun b o e => by
    show (if b = D then some (.deferred (some [])) else G.oth b) = some o
    rw [if_neg (fun q : b = D => hn o (by rw [← q]; exact e))]; exact e⟩
  refine ⟨h.below, h.kok, fun t => (h.slots t).wo, fun d g e he => (h.ents d g e he).wo w0 rfl, fun d1 g1 e1 d2 g2 e2 b h1 h2 k1 k2 => ?_, h.fresh, ?_, h.rows, h.offs, h.kle, h.kold, fun b o ho => ?_, h.krw, h.dpl, h.dp0, h.kro, h.gle.trans hlo⟩
  · rw [entBlk_wo] at k1 k2
    exact h.dist d1 g1 e1 d2 g2 e2 b h1 h2 k1 k2
  · obtain ⟨l, h1, h2, h3⟩ := h.defers
    refine ⟨D :: l, List.nodup_cons.2 ⟨fun hm => hn _ (h3 D hm).2, h1⟩, by simp [h2], fun D' hD' => ?_⟩
    show ¬ w0.pr D' ∧ (if D' = D then some (.deferred (some [])) else G.oth D') = _
    rcases List.mem_cons.1 hD' with rfl | hm
    · exact ⟨hp, if_pos rfl⟩
    · exact ⟨(h3 D' hm).1, by rw [if_neg (fun q => hn _ (by rw [← q]; exact (h3 D' hm).2))]; exact (h3 D' hm).2⟩
  · have ho' : (if b = D then some (.deferred (some [])) else G.oth b) = some o := ho
    split at ho'
    · rename_i e; injection ho' with ho'; subst e ho'; exact ⟨hd, rfl⟩
    · exact h.oth b o ho'
theorem aWp_sound {N : Nat} (hmo : P.follows .mixedOrders = true) : ∀ (c : Code) (rf : Bool) (F : Fence) (n : Nat) (w0 : Base) (K0 : Anc) (Q : AEx → St → Prop) (s : St) (a : Act) (w : World) (G : Gh), Wd F → (rf = true → F = Fence.wide) → codeOk N rf c = true → aWp P c Q s → Real P w0 K0 G (fun g => g < s.nx) s a w → a.tmps.size = N → c.wpIn F n P (Post P w0 K0 N Q) a w := by
  intro c
  induction c with
  | skip => intro rf F n w0 K0 Q s a w G hF hrf _ ha h hN; exact wpIn_skip ⟨.normal, s, G, rfl, ha, h, hN⟩
  | region id ops draw =>
    intro rf F n w0 K0 Q s a w G hF hrf hok ha h hN
    simp only [codeOk, Bool.and_eq_true] at hok
    obtain ⟨hok, hnd⟩ := hok
    obtain ⟨ops⟩ := ops
    cases draw with
    | true =>
    obtain ⟨kw, hck, ha⟩ := ha
    refine wpIn_region_any hmo (any_in hF post_out hnd _ _ _ _ ?_)
    refine any_sound (G := G) (n0 := s.nx) hck hok ops.length _ (idxFrom 0 ops) s a w.drew (by simp [idx_len]) (by simp) ?_ (idx_pw _ _) ?_ rfl (h.drew.us_mono fun g hg => .inl hg) hN ha ?_
    · intro i o
      have := idx_mem ops 0 i o
      rw [Nat.zero_add] at this
      rw [this]
      constructor
      · intro h1
        refine ⟨h1, ?_⟩
        have hl : i < ops.length := by
          rcases Nat.lt_or_ge i ops.length with h | h
          · exact h
          · rw [List.getElem?_eq_none h] at h1; cases h1
        simp [Array.getD, hl]
      · exact fun h1 => h1.1
    · intro j o hj hl
      exfalso
      have hl2 : j < ops.length := by
        rcases Nat.lt_or_ge j ops.length with h | h
        · exact h
        · rw [List.getElem?_eq_none h] at hj; cases hj
      simp [Array.getD, hl2] at hl
    · intro s' G' a' w' k1 k2 k3 k4
      refine ⟨.normal, s'.bump ops.length, G', rfl, by simpa using k1, ?_, k3⟩
      have k5 : Real P w0 K0 G' (fun g => g < s'.nx + ops.length) s' a' w' := by rw [k4]; exact k2
      exact ⟨k5.below, k5.kok, k5.slots, k5.ents, k5.dist, k5.fresh, k5.defers, k5.rows, k5.offs, k5.kle, k5.kold, k5.oth, k5.krw, k5.dpl, k5.dp0, k5.kro, k5.gle⟩
    | false =>
    refine wpIn_region_lit (list_in hF post_out _ _ _ hnd (aRun_sound ops 0 s a w G hok (by simpa using h) hN ha ?_))
    intro s' G' a' w' k1 k2 k3 k4
    refine ⟨.normal, s'.bump ops.length, G', rfl, by simpa using k1, ?_, k3⟩
    have k5 : Real P w0 K0 G' (fun g => g < s'.nx + ops.length) s' a' w' := by rw [k4]; exact k2.us_mono fun g hg => by omega
    exact ⟨k5.below, k5.kok, k5.slots, k5.ents, k5.dist, k5.fresh, k5.defers, k5.rows, k5.offs, k5.kle, k5.kold, k5.oth, k5.krw, k5.dpl, k5.dp0, k5.kro, k5.gle⟩
  | seq x y ihx ihy =>
    intro rf F n w0 K0 Q s a w G hF hrf hok ha h hN
    simp only [codeOk, Bool.and_eq_true] at hok
    refine wpIn_seq (wpIn_mono (ihx rf F n w0 K0 _ s a w G hF hrf hok.1 ha h hN) ?_)
    rintro e a' w' ⟨e', s', G', rfl, k1, k2, k3⟩
    cases e' with
    | normal => exact ihy rf F n w0 K0 Q s' a' w' G' hF hrf hok.2 k1 k2 k3
    | exit id => exact ⟨.exit id, s', G', rfl, k1, k2, k3⟩
    | ret => exact ⟨.ret, s', G', rfl, k1, k2, k3⟩
  | cond c x y ihx ihy =>
    intro rf F n w0 K0 Q s a w G hF hrf hok ha h hN
    simp only [codeOk, Bool.and_eq_true] at hok
    simp only [aWp] at ha
    split at ha
    · rename_i t ht
      have hc := (h.ev c).av
      rw [ht] at hc
      refine wpIn_cond_split hc.bool_inv (fun e => ?_) (fun e => ?_)
      · exact ihx rf F n w0 K0 Q s a w G hF hrf hok.1 (ha.1 e) h hN
      · exact ihy rf F n w0 K0 Q s a w G hF hrf hok.2 (ha.2 e) h hN
    · exact ha.elim
  | block id c ih =>
    intro rf F n w0 K0 Q s a w G hF hrf hok ha h hN
    refine wpIn_block (wpIn_mono (ih rf F n w0 K0 _ s a w G hF hrf hok ha h hN) ?_)
    rintro e a' w' ⟨e', s', G', rfl, k1, k2, k3⟩
    cases e' with
    | normal => exact ⟨.normal, s', G', rfl, k1, k2, k3⟩
    | exit id' =>
      show if id' = id then _ else _
      have k1' : if id' = id then Q .normal s' else Q (.exit id') s' := k1
      split at k1'
      · rename_i e; rw [if_pos e]; exact ⟨.normal, s', G', rfl, k1', k2, k3⟩
      · rename_i e; rw [if_neg e]; exact ⟨.exit id', s', G', rfl, k1', k2, k3⟩
    | ret => exact ⟨.ret, s', G', rfl, k1, k2, k3⟩
  | loop c ih =>
    intro rf F n w0 K0 Q s a w G hF hrf hok ha h hN
    obtain ⟨I, m, hI, hround⟩ := ha
    refine wpIn_loop_ghost (fun n a w => ∃ s G, I n s ∧ Real P w0 K0 G (fun g => g < s.nx) s a w ∧ a.tmps.size = N) m ⟨s, G, hI, h, hN⟩ ?_
    rintro m a w ⟨s, G, k1, k2, k3⟩
    refine wpIn_mono (ih rf F n w0 K0 _ s a w G hF hrf hok (hround m s k1) k2 k3) ?_
    rintro e a' w' ⟨e', s', G', rfl, q1, q2, q3⟩
    cases e' with
    | normal =>
      obtain ⟨m, hm, hIm⟩ := q1
      exact ⟨m, hm, s', G', hIm, q2, q3⟩
    | exit id => exact ⟨.exit id, s', G', rfl, q1, q2, q3⟩
    | ret => exact ⟨.ret, s', G', rfl, q1, q2, q3⟩
  | exit id => intro rf F n w0 K0 Q s a w G hF hrf _ ha h hN; exact wpIn_exit ⟨.exit id, s, G, rfl, ha, h, hN⟩
  | ret => intro rf F n w0 K0 Q s a w G hF hrf _ ha h hN; exact wpIn_ret ⟨.ret, s, G, rfl, ha, h, hN⟩
  | rangeFunc g ps asg body iha ih =>
    intro rf F n w0 K0 Q s a w G hF hrf hok ha h hN
    simp only [codeOk, Bool.and_eq_true] at hok
    obtain ⟨⟨⟨hr, hps⟩, hasg⟩, hbok⟩ := hok
    have hFw := hrf hr
    subst hFw
    refine wpIn_n (n := 2) .wide ?_
    obtain ⟨gf, caps, els, I, l, hg, ⟨hcf, hit⟩, hlen, hl, hI0, hround, hend⟩ := ha
    rw [hl] at hasg
    have hlN : ∀ q ∈ l, q.1 < N := fun q hq => by have := List.all_eq_true.1 hasg q hq; simpa using this
    have hpN : ∀ p ∈ ps.toList, p < N := fun p hp => by have := List.all_eq_true.1 hps p hp; simpa using this
    have hge : ∃ vs, a.eval g = .func (.func gf) #[] vs ∧ ArgsR G.K caps vs := by
      have hc := h.ev g
      rw [hg] at hc
      generalize a.eval g = v at hc
      cases hc with
      | k _ _ hk => cases hk with | fn f caps vs hl h => exact ⟨vs, rfl, hl, h⟩
    obtain ⟨vs, hge, hcaps⟩ := hge
    obtain ⟨vals, hvals, hseq⟩ := hit G.K w vs h.kok hcaps
    have hvs : ∀ i : Fin els.length, (vals i.val).size = ps.size := fun i => by
      have := (hvals i.val els[i.val] (by simp)).1
      rw [this]; exact hlen _ (List.getElem_mem _)
    -- between two rounds
    let el : Fin els.length → List AV := fun i => els[i.val]
    let J : List (Fin els.length) → World → Prop := fun pre W => ∃ (s' : St) (G' : Gh), I (pre.map el) s' ∧ (G.lo G' ∧ G'.oth = G.oth) ∧ Real P w0 K0 G' (fun g => g < s'.nx) ⟨s.fr, s'.tb, s'.nx, s.md⟩ a W
    let Jx : Code → List (Fin els.length) → World → Prop := fun c pre W => ∃ (e : AEx) (s' : St) (G' : Gh), c = (match e with | AEx.exit id => Code.exit id | _ => Code.ret) ∧ e ≠ .normal ∧ Q e ⟨s.fr, s'.tb, s'.nx, s.md⟩ ∧ (G.lo G' ∧ G'.oth = G.oth) ∧ Real P w0 K0 G' (fun g => g < s'.nx) ⟨s.fr, s'.tb, s'.nx, s.md⟩ a W
    have stay : ∀ (W W' : World) (row : Option Nat) (s' : St) (G' : Gh), (G.lo G' ∧ G'.oth = G.oth) → Real P w0 K0 G' (fun g => g < s'.nx) ⟨s.fr, s'.tb, s'.nx, s.md⟩ a W → W.grownBy W' row → (∀ r, row = some r → w.heap.size ≤ r ∧ ∃ o : Obj, W.heap[r]? = some o ∧ o.isCells = false) →
        Real P w0 K0 G' (fun g => g < s'.nx) ⟨s.fr, s'.tb, s'.nx, s.md⟩ a W' := by
      intro W W' row s' G' hle hR hgr hrow
      have hcell : ∀ (b : Nat) (o : Obj), W.heap[b]? = some o → o.isCells = true → W'.heap[b]? = W.heap[b]? := fun b o hb ho =>
        hgr.block b (Array.getElem?_eq_some_iff.1 hb).1 (fun e => by
          obtain ⟨_, o', h1, h2⟩ := hrow b e.symm
          rw [hb] at h1; injection h1 with h1; subst h1; rw [ho] at h2; cases h2)
      have hkc : ∀ b, G'.K.hw b ≠ 0 → ∃ o : Obj, W.heap[b]? = some o ∧ o.isCells = true := fun b hb => (hR.kok b 0 (by omega)).1
      have hsz := h.size
      refine ⟨hR.below.grown hgr (fun k hk hp => ?_), hR.kok.below fun b hb => ?_, hR.slots, fun d g e he => (hR.ents d g e he).carry (.refl _) fun b hb => ⟨?_, rfl⟩, hR.dist, hR.fresh, hR.defers, hR.rows, hR.offs, hR.kle, hR.kold, fun b o ho => ?_, hR.krw, hR.dpl, hR.dp0, hR.kro, hR.gle⟩
      · have := (hrow k hk).1
        have := w0.lt k hp
        omega
      · obtain ⟨o, h1, h2⟩ := hkc b hb
        exact hcell b o h1 h2
      · obtain ⟨o, h1, h2⟩ : ∃ o : Obj, W.heap[b]? = some o ∧ o.isCells = true := by
          have hE := hR.ents d g e he
          cases e with
          | obj cs =>
            obtain ⟨b', p, arr, ty, k1, k2, k3, _⟩ := hE
            simp [entBlk, k1] at hb; subst hb
            exact ⟨_, k3, rfl⟩
          | fz cs => simp [entBlk] at hb
          | tag =>
            obtain ⟨r, k1, k2, _⟩ := hE
            simp [entBlk, k1] at hb
            rcases k2.2 with ⟨q, _⟩ | ⟨g', cap, cur, q1, _, q3, _⟩
            · rw [q] at hb; cases hb
            · rw [q1] at hb; injection hb with hb; simp only at hb; subst hb; exact ⟨_, q3, rfl⟩
        exact hcell b o h1 h2
      · have h1 := hR.oth b o ho
        refine ⟨?_, h1.2⟩
        rw [hle.2] at ho
        have hb := (Array.getElem?_eq_some_iff.1 (h.oth b o ho).1).1
        exact (hgr.block b (Array.getElem?_eq_some_iff.1 h1.1).1 (fun e => by have := (hrow b e.symm).1; omega)).trans h1.1
    refine wpIn_rangeFunc_ownF (F := Fence.wide) (n := 2) rfl (by omega) hge trivial hcf (hseq 1) (hKt := fun h k q => k (h q)) (hKb := fun W l o o' _ hl ho _ hk => hk.below fun b hb => ?_) (Below.refl _ w) hvs J Jx
      (fun pre W W' row hs hgr hrow => ?_) (fun c pre W W' row hs hgr hrow => ?_) ⟨s, G, hI0, ⟨.refl G, rfl⟩, h⟩ (fun i => { tmps := runT ((ps.zip (vals i.val)).foldl (fun t (p, v) => t.setIfInBounds p v) a.tmps) l, defers := [] }) ?_ ?_ ?_ ?_
    · obtain ⟨o2, h1, h2⟩ := (hk b 0 (by omega)).1
      exact World.putObj_heap_other (fun e => by subst e; rw [hl] at h1; injection h1 with h1; subst h1; rw [ho] at h2; cases h2)
    · obtain ⟨s', G', q1, q2, q3⟩ := hs
      exact ⟨s', G', q1, q2, stay W W' row s' G' q2 q3 hgr hrow⟩
    · obtain ⟨e, s', G', q0, q1, q2, q3, q4⟩ := hs
      exact ⟨e, s', G', q0, q1, q2, q3, stay W W' row s' G' q3 q4 hgr hrow⟩
    · intro l' i W K hk
      exact asgC_wp (.rnd l') hl hk
    · rintro l' pre i W ⟨s', G', q1, q2, q3⟩ hlt
      have hsl0 : SlR G' s.fr a.tmps := q3.slots
      have hsz0 : a.tmps.size = N := hN
      have hv := hvals i.val els[i.val] (by simp)
      have e1 : (ps.zip (vals i.val)).foldl (fun t (p, v) => t.setIfInBounds p v) a.tmps = (ps.toList.zip (vals i.val).toList).foldl (fun t (p, v) => t.setIfInBounds p v) a.tmps := by
        rw [← Array.foldl_toList, Array.toList_zip]
      have hsl1 : SlR G' (runAs (putPs s.fr ps.toList els[i.val]) l) (runT ((ps.zip (vals i.val)).foldl (fun t (p, v) => t.setIfInBounds p v) a.tmps) l) := by
        rw [e1]
        refine runAs_R l _ _ (putPs_R ps.toList els[i.val] (vals i.val).toList _ _ hsl0 (fun p hp => by rw [hsz0]; exact hpN p hp) (by simpa using hv.1.symm) (fun j x v h1 h2 => (hv.2 j x v h1 (by simpa using h2)).mono q2.1.K)) (fun q hq => by rw [foldl_size, hsz0]; exact hlN q hq)
      have hR := q3.frame (B' := w0.at_ W q3.below) rfl (Base.Kp.refl (w0.at_ W q3.below)) (nonCells W) (fun b o ho => nonCells_iff.1 ho) (a' := { tmps := runT ((ps.zip (vals i.val)).foldl (fun t (p, v) => t.setIfInBounds p v) a.tmps) l, defers := [] }) (Mks.nil _ _) hsl1
      have hmem : ∀ y ∈ pre.map el, y ∈ els := fun y hy => by
        obtain ⟨j, _, rfl⟩ := List.mem_map.1 hy
        exact List.getElem_mem _
      have hbody := hround (pre.map el) els[i.val] s' q1 (by simpa using hlt) hmem (List.getElem_mem _)
      refine wpIn_mono (ih false (Fence.wide.inRound l') _ (w0.at_ W q3.below) _ _ _ _ W (G'.wo (nonCells W)) (.rnd l') (fun h => by cases h) hbok hbody hR (by rw [runT_size, e1, foldl_size]; exact hN)) ?_
      rintro e a3 W3 ⟨e', s3, G3, rfl, k1, k2, k3⟩
      have hg3 : (G'.wo (nonCells W)).lo G3 := k2.gle
      have hko : KeepsOthers W W3 := ⟨k2.below.size, fun b o hb ho => (k2.oth b o (hg3.oth b o (nonCells_iff.2 ⟨hb, ho⟩))).1⟩
      have hkk : KOk G.K W → KOk G.K W3 := fun hk b i hi => by
        have hw := (q2.1.K.trans hg3.K).hw b
        have hv1 := (q2.1.K.trans hg3.K).val b i hi
        rw [← hv1]; exact k2.kok b i (by omega)
      have hR3 : Real P w0 K0 (G3.wo G'.oth) (fun g => g < s3.nx) ⟨s.fr, s3.tb, s3.nx, s3.md⟩ a W3 := by
        refine k2.back (w0 := w0) (K0 := K0) rfl (q3.below.from k2.below) rfl (G1 := G') q3.gle (fun b o ho => ?_) (fun x y hxy => ?_) ?_ q3.defers hsl0
        · exact hg3.oth b o (nonCells_iff.2 ⟨(q3.oth b o ho).1, (q3.oth b o ho).2⟩)
        · have h1 : SRep (G'.wo (nonCells W)) x y := hxy.wo
          exact (h1.lo hg3).wo
        · exact ⟨hg3.K, hg3.at_, hg3.row, fun b o ho => ho⟩
      have hlo3 : G.lo (G3.wo G'.oth) ∧ (G3.wo G'.oth).oth = G.oth := ⟨⟨q2.1.K.trans hg3.K, fun d g x e => hg3.at_ d g x (q2.1.at_ d g x e), fun d g x e => hg3.row d g x (q2.1.row d g x e), fun b o e => by show G'.oth b = some o; rw [q2.2]; exact e⟩, q2.2⟩
      cases e' with
      | normal => rw [k1.1] at hR3; exact ⟨hko, hkk, s3, _, by have := k1.2; rw [List.map_append]; exact this, hlo3, hR3⟩
      | exit id => rw [k1.1] at hR3; exact ⟨hko, .exit id, s3, _, rfl, (fun h => by cases h), k1.2, hlo3, hR3⟩
      | ret => rw [k1.1] at hR3; exact ⟨hko, .ret, s3, _, rfl, (fun h => by cases h), k1.2, hlo3, hR3⟩
    · rintro D xs W hD hS ⟨s', G', q1, q2, q3⟩ hdef
      have hels : xs.map el = els := by
        apply List.ext_getElem?
        intro i
        have h1 := congrArg List.length hS
        simp only [List.length_map, List.length_range] at h1
        by_cases hi : i < els.length
        · have h2 := congrArg (fun q : List Nat => q[i]?) hS
          simp only [List.getElem?_map] at h2
          rw [List.getElem?_range hi] at h2
          have hix : i < xs.length := by omega
          rw [List.getElem?_map, List.getElem?_eq_getElem hix] at *
          simp only [Option.map_some, Option.some.injEq] at h2
          simp [el, h2, hi]
        · rw [List.getElem?_eq_none (by simp; omega), List.getElem?_eq_none (by omega)]
      rw [hels] at q1
      exact ⟨.normal, _, _, rfl, hend s' q1, q3.mark D (fun hc => by have := w0.lt D hc; have := h.size; omega) (fun o ho => by rw [q2.2] at ho; have := (Array.getElem?_eq_some_iff.1 (h.oth D o ho).1).1; omega) hdef, hN⟩
    · rintro D c pre W hD hS ⟨e, s', G', rfl, q0, q1, q2, q3⟩ hdef
      have hR := q3.mark D (fun hc => by have := w0.lt D hc; have := h.size; omega) (fun o ho => by rw [q2.2] at ho; have := (Array.getElem?_eq_some_iff.1 (h.oth D o ho).1).1; omega) hdef
      cases e with
      | normal => exact absurd rfl q0
      | exit id => exact wpIn_exit ⟨.exit id, _, _, rfl, q1, hR, hN⟩
      | ret => exact wpIn_ret ⟨.ret, _, _, rfl, q1, hR, hN⟩
  | scope => intro rf F n w0 K0 Q s a w G hF hrf hok; cases hok
  | label => intro rf F n w0 K0 Q s a w G hF hrf hok; cases hok
  | goto => intro rf F n w0 K0 Q s a w G hF hrf hok; cases hok
  | refuse => intro rf F n w0 K0 Q s a w G hF hrf hok; cases hok
end

end Go.Proofs.Ytikganlbnhapcaa
