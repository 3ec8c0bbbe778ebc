import Derived.Test.YtikganlbnhapcaaAvOp
namespace Go.Proofs.Ytikganlbnhapcaa
open Go.RowKit
set_option linter.unusedVariables false
set_option linter.unusedSimpArgs false
section
variable {P : Program} {Q : AEx → St → Prop} {F : Nat → SV} {T : Nat → Option (Nat × Ent)} {ν : Nat} {md : Md} {K : St → Prop}
/-- what is left of one step -/
def Stp (P : Program) (ops : List Oper) (ν i : Nat) (l : List Oper) (dst : Option Nat) (op : Op) (F : Nat → SV) (T : Nat → Option (Nat × Ent)) (md : Md) (K : St → Prop) : Prop :=
  ∀ ty pos af, aRun P ops i (⟨dst, op, ty, pos, af, none⟩ :: l) ⟨F, T, ν, md⟩ K
variable {ops : List Oper} {i : Nat} {l : List Oper} {s' : St} {dst : Option Nat} {op : Op} {ty : TypeId} {pos : String} {af : Array Edge} {j : Nat} {b want : Bool}
theorem g0 (h : Stp P ops ν i l dst op F T md K) : aRun P ops i (⟨dst, op, ty, pos, af, none⟩ :: l) ⟨F, T, ν, md⟩ K := h ty pos af
theorem g1 (hy : yld ops ⟨F, T, ν, md⟩ j = some want) (h : Stp P ops ν i l dst op F T md K) : aRun P ops i (⟨dst, op, ty, pos, af, some (j, want)⟩ :: l) ⟨F, T, ν, md⟩ K := by
  have h := h ty pos af
  show aGuard P ops (ν + i) _ _ _
  simp only [aGuard, hy, if_true]
  exact h
theorem sd (h : Det P (ν + i) ⟨F, T, ν, md⟩ dst op s') (hk : aRun P ops (i + 1) l s' K) : Stp P ops ν i l dst op F T md K := fun ty pos af => rn h.h hk
theorem sc {f : FuncId} {args : Array Operand} {ts : Array TypeId} {ys : List AV} {r : RV} (h1 : aArgs P ⟨F, T, ν, md⟩ (args.toList.map (St.ev ⟨F, T, ν, md⟩)) ts.toList = some ys) (h2 : Spec P f ys r) (h3 : (args.toList.all fun x => St.isK ⟨F, T, ν, md⟩ (St.ev ⟨F, T, ν, md⟩ x)) = true ∨ r.noal = true) (h4 : St.res ⟨F, T, ν, md⟩ dst (ν + i) r = some s')
    (hk : aRun P ops (i + 1) l s' K) : Stp P ops ν i l dst (.call ⟨.value (.func f), args, ts⟩) F T md K := fun ty pos af => rc h1 h2 h3 h4 hk
theorem rz (h : K ⟨F, T, ν, md⟩) : aRun P ops i [] ⟨F, T, ν, md⟩ K := h
theorem gt_ {d : Nat} (h1 : (ops[j]?).bind (·.dst) = some d) (h2 : F d = .k (.bool b)) (h3 : b = want) : yld ops ⟨F, T, ν, md⟩ j = some want := gy h1 h2 h3
theorem gf_ {d : Nat} (h1 : (ops[j]?).bind (·.dst) = some d) (h2 : F d = .k (.bool b)) (h3 : b = !want) : yld ops ⟨F, T, ν, md⟩ j = some (!want) := gy h1 h2 h3
theorem cnd {c : Operand} {a b : Code} {t : Bool} (hc : St.ev ⟨F, T, ν, md⟩ c = .k (.bool t)) (h1 : t = true → aWp P a Q ⟨F, T, ν, md⟩) (h2 : t = false → aWp P b Q ⟨F, T, ν, md⟩) : aWp P (.cond c a b) Q ⟨F, T, ν, md⟩ :=
  aWp_cond (by rw [hc]; rfl) h1 h2
theorem cndT {c : Operand} {a b : Code} {t : Bool} (hc : St.ev ⟨F, T, ν, md⟩ c = .k (.bool t)) (ht : t = true) (h1 : aWp P a Q ⟨F, T, ν, md⟩) : aWp P (.cond c a b) Q ⟨F, T, ν, md⟩ := cnd hc (fun _ => h1) (fun h => by subst ht; cases h)
theorem cndF {c : Operand} {a b : Code} {t : Bool} (hc : St.ev ⟨F, T, ν, md⟩ c = .k (.bool t)) (ht : t = false) (h1 : aWp P b Q ⟨F, T, ν, md⟩) : aWp P (.cond c a b) Q ⟨F, T, ν, md⟩ := cnd hc (fun h => by subst ht; cases h) (fun _ => h1)
theorem wskip (h : Q .normal ⟨F, T, ν, md⟩) : aWp P .skip Q ⟨F, T, ν, md⟩ := h
/-! drawn regions -/
def yRun (P : Program) (ops : List Oper) (kw : Nat → List Nat × List Nat) (i : Nat) (l : List Oper) (s : St) (K : St → Prop) : Prop := xRun P ops kw (idxFrom i l) s K
/-- keys: what is said of a place, else the slot that a maker fills -/
def kwX (ops : List Oper) (ex : List (Nat × List Nat × List Nat)) (i : Nat) : List Nat × List Nat :=
  match ex.lookup i with
  | some p => p
  | none => match ops[i]? with
    | some o => ([], wrKeys ⟨fun _ => .k .any, fun _ => none, 0, ⟨fun _ => false, 0, false⟩⟩ o.dst o.op)
    | none => ([], [])
theorem rgx {id : Nat} {ops : List Oper} (ex : List (Nat × List Nat × List Nat)) (hc : chkD ops (kwX ops ex) = true) (h : ∀ K : St → Prop, (∀ F T md, (∀ ν', Q .normal ⟨F, T, ν', md⟩) → K ⟨F, T, ν, md⟩) → yRun P ops (kwX ops ex) 0 ops ⟨F, T, ν, md⟩ K) : aWp P (.region id ops.toArray true) Q ⟨F, T, ν, md⟩ := by
  show ∃ kw, chkD ops.toArray.toList kw = true ∧ xRun P ops.toArray.toList kw (idxFrom 0 ops.toArray.toList) _ _
  exact ⟨kwX ops ex, hc, h _ (fun F T md hq => by simpa [St.bump] using hq _)⟩
def Stx (P : Program) (ops : List Oper) (kw : Nat → List Nat × List Nat) (ν i : Nat) (l : List Oper) (dst : Option Nat) (op : Op) (F : Nat → SV) (T : Nat → Option (Nat × Ent)) (md : Md) (K : St → Prop) : Prop :=
  ∃ s', (∀ ty pos af gd, AStep P (ν + i) ⟨F, T, ν, md⟩ ⟨dst, op, ty, pos, af, gd⟩ s') ∧ yRun P ops kw (i + 1) l s' K
variable {kw : Nat → List Nat × List Nat} {gd : Option (Nat × Bool)}
theorem x0 (hk : keysOk (kw i) ⟨F, T, ν, md⟩ ⟨dst, op, ty, pos, af, none⟩ = true) (h : Stx P ops kw ν i l dst op F T md K) : yRun P ops kw i (⟨dst, op, ty, pos, af, none⟩ :: l) ⟨F, T, ν, md⟩ K := by
  obtain ⟨s', h1, h2⟩ := h
  exact ⟨hk, s', h1 _ _ _ _, h2⟩
theorem x1 (hk : keysOk (kw i) ⟨F, T, ν, md⟩ ⟨dst, op, ty, pos, af, some (j, want)⟩ = true) (hy : yld ops ⟨F, T, ν, md⟩ j = some want) (h : Stx P ops kw ν i l dst op F T md K) : yRun P ops kw i (⟨dst, op, ty, pos, af, some (j, want)⟩ :: l) ⟨F, T, ν, md⟩ K := by
  obtain ⟨s', h1, h2⟩ := h
  exact ⟨hk, s', ⟨want, hy, .inl ⟨rfl, h1 _ _ _ _⟩⟩, h2⟩
theorem xf {d : Nat} (hk : keysOk (kw i) ⟨F, T, ν, md⟩ ⟨some d, op, ty, pos, af, some (j, want)⟩ = true) (hy : yld ops ⟨F, T, ν, md⟩ j = some (!want)) (h : yRun P ops kw (i + 1) l ⟨upd F d (.k .any), T, ν, md⟩ K) : yRun P ops kw i (⟨some d, op, ty, pos, af, some (j, want)⟩ :: l) ⟨F, T, ν, md⟩ K :=
  ⟨hk, _, ⟨!want, hy, .inr ⟨by cases want <;> simp, rfl⟩⟩, h⟩
theorem xf0 (hk : keysOk (kw i) ⟨F, T, ν, md⟩ ⟨none, op, ty, pos, af, some (j, want)⟩ = true) (hy : yld ops ⟨F, T, ν, md⟩ j = some (!want)) (h : yRun P ops kw (i + 1) l ⟨F, T, ν, md⟩ K) : yRun P ops kw i (⟨none, op, ty, pos, af, some (j, want)⟩ :: l) ⟨F, T, ν, md⟩ K :=
  ⟨hk, _, ⟨!want, hy, .inr ⟨by cases want <;> simp, rfl⟩⟩, h⟩
theorem xd (h : Det P (ν + i) ⟨F, T, ν, md⟩ dst op s') (hk : yRun P ops kw (i + 1) l s' K) : Stx P ops kw ν i l dst op F T md K := by
  refine ⟨s', fun ty pos af gd => ?_, hk⟩
  have h := h.h
  unfold AStep
  split
  · rename_i f args ts ho
    simp only at ho; subst ho
    simp [aDet] at h
  · exact h
theorem xc {f : FuncId} {args : Array Operand} {ts : Array TypeId} {ys : List AV} {r : RV} (h1 : aArgs P ⟨F, T, ν, md⟩ (args.toList.map (St.ev ⟨F, T, ν, md⟩)) ts.toList = some ys) (h2 : Spec P f ys r) (h3 : (args.toList.all fun x => St.isK ⟨F, T, ν, md⟩ (St.ev ⟨F, T, ν, md⟩ x)) = true ∨ r.noal = true) (h4 : St.res ⟨F, T, ν, md⟩ dst (ν + i) r = some s')
    (hk : yRun P ops kw (i + 1) l s' K) : Stx P ops kw ν i l dst (.call ⟨.value (.func f), args, ts⟩) F T md K :=
  ⟨s', fun ty pos af gd => ⟨ys, r, h1, h2, h3, h4⟩, hk⟩
theorem xz (h : K ⟨F, T, ν, md⟩) : yRun P ops kw i [] ⟨F, T, ν, md⟩ K := h
/-! words for whole numbers -/
section
variable {k : IntKind} {a c r : Int}
theorem ai_add {b : Int} (hc : a + b = c) (h : k.wrap c = r) : aInt .add k k a b = some (.int k r) := by subst hc; simp [aInt, h]
theorem ai_sub {b : Int} (hc : a - b = c) (h : k.wrap c = r) : aInt .sub k k a b = some (.int k r) := by subst hc; simp [aInt, h]
theorem ai_mul {b : Int} (hc : a * b = c) (h : k.wrap c = r) : aInt .mul k k a b = some (.int k r) := by subst hc; simp [aInt, h]
theorem ai_quo {b : Int} (h0 : 0 ≤ a) (h1 : 0 < b) (hc : a / b = c) (h : k.wrap c = r) : aInt .quo k k a b = some (.int k r) := by
  subst hc
  have : ¬ b = 0 := by omega
  simp [aInt, this, Int.tdiv_eq_ediv_of_nonneg h0, h]
theorem ai_rem {b : Int} (h0 : 0 ≤ a) (h1 : 0 < b) (hc : a % b = c) : aInt .rem k k a b = some (.int k c) := by
  subst hc
  have : ¬ b = 0 := by omega
  simp [aInt, this, Int.tmod_eq_emod_of_nonneg h0]
theorem ai_shl {k' : IntKind} {b : Int} (h0 : 0 ≤ b) (hc : a * 2 ^ (min b.toNat k.bits) = c) (h : k.wrap c = r) : aInt .shl k k' a b = some (.int k r) := by subst hc; simp [aInt, h0, h]
theorem ai_shlN {k' : IntKind} {b m : Int} {n : Nat} (h0 : 0 ≤ b) (hn : min b.toNat k.bits = n) (hm : (2 : Int) ^ n = m) (hc : a * m = c) (h : k.wrap c = r) : aInt .shl k k' a b = some (.int k r) := by subst hc; subst hm; subst hn; simp [aInt, h0, h]
theorem ai_shr {k' : IntKind} {b : Int} {n : Nat} (h0 : 0 ≤ b) (hn : min b.toNat k.bits = n) (hc : a / 2 ^ n = c) : aInt .shr k k' a b = some (.int k c) := by
  subst hc; subst hn; simp [aInt, h0]
  exact Int.fdiv_eq_ediv_of_nonneg _ (Int.pow_nonneg (by omega))
theorem ai_and {b : Int} (h : bits .and k a b = r) : aInt .and k k a b = some (.int k r) := by simp [aInt, h]
theorem ai_or {b : Int} (h : bits .or k a b = r) : aInt .or k k a b = some (.int k r) := by simp [aInt, h]
theorem ai_xor {b : Int} (h : bits .xor k a b = r) : aInt .xor k k a b = some (.int k r) := by simp [aInt, h]
theorem ai_andNot {b : Int} (h : bits .andNot k a b = r) : aInt .andNot k k a b = some (.int k r) := by simp [aInt, h]
theorem ai_eql {b : Int} {t : Bool} (h : decide (a = b) = t) : aInt .eql k k a b = some (.bool t) := by simp only [aInt, if_true, h]
theorem ai_neq {b : Int} {t : Bool} (h : (!decide (a = b)) = t) : aInt .neq k k a b = some (.bool t) := by simp only [aInt, if_true, h]
theorem ai_lss {b : Int} {t : Bool} (h : decide (a < b) = t) : aInt .lss k k a b = some (.bool t) := by simp only [aInt, if_true, h]
theorem ai_leq {b : Int} {t : Bool} (h : decide (a ≤ b) = t) : aInt .leq k k a b = some (.bool t) := by simp only [aInt, if_true, h]
theorem ai_gtr {b : Int} {t : Bool} (h : decide (b < a) = t) : aInt .gtr k k a b = some (.bool t) := by simp only [aInt, if_true, h]
theorem ai_geq {b : Int} {t : Bool} (h : decide (b ≤ a) = t) : aInt .geq k k a b = some (.bool t) := by simp only [aInt, if_true, h]
theorem neq_t {b : Int} (h : a ≠ b) : (!decide (a = b)) = true := by simp [h]
theorem neq_f {b : Int} (h : a = b) : (!decide (a = b)) = false := by simp [h]
end
/-! beginnings -/
theorem init0 (md : Md) : initSt [] md = ⟨fun _ => .k .any, fun _ => none, 0, md⟩ := by
  unfold initSt; congr 1
theorem init1 (a : AV) (md : Md) : initSt [a] md = ⟨upd (fun _ => .k .any) 0 (.k a), fun _ => none, 0, md⟩ := by
  unfold initSt; congr 1; funext t
  match t with
  | 0 => rfl
  | t + 1 => simp [upd]
theorem init2 (a b : AV) (md : Md) : initSt [a, b] md = ⟨upd (upd (fun _ => .k .any) 0 (.k a)) 1 (.k b), fun _ => none, 0, md⟩ := by
  unfold initSt; congr 1; funext t
  match t with
  | 0 => rfl
  | 1 => rfl
  | t + 2 => simp [upd]
theorem init3 (a b c : AV) (md : Md) : initSt [a, b, c] md = ⟨upd (upd (upd (fun _ => .k .any) 0 (.k a)) 1 (.k b)) 2 (.k c), fun _ => none, 0, md⟩ := by
  unfold initSt; congr 1; funext t
  match t with
  | 0 => rfl
  | 1 => rfl
  | 2 => rfl
  | t + 3 => simp [upd]
theorem init4 (a b c d : AV) (md : Md) : initSt [a, b, c, d] md = ⟨upd (upd (upd (upd (fun _ => .k .any) 0 (.k a)) 1 (.k b)) 2 (.k c)) 3 (.k d), fun _ => none, 0, md⟩ := by
  unfold initSt; congr 1; funext t
  match t with
  | 0 => rfl
  | 1 => rfl
  | 2 => rfl
  | 3 => rfl
  | t + 4 => simp [upd]
/-! ends -/
theorem end1 {rs : List ResultVar} {tys : List TypeId} {t : Nat} {u : TypeId} {v r : AV} {s : St} (h1 : rs = [.tmp t]) (h2 : tys = [u]) (h3 : aArg P s u (s.fr t) = some v) (h4 : r = v) : aEndK P rs tys s r := by
  subst h1; subst h2; subst h4; simp [aEndK, aOuts, h3, oneOf, Wk.of_eq]
theorem end2 {rs : List ResultVar} {tys : List TypeId} {t t' : Nat} {u u' : TypeId} {v v' r : AV} {s : St} (h1 : rs = [.tmp t, .tmp t']) (h2 : tys = [u, u']) (h3 : aArg P s u (s.fr t) = some v) (h3' : aArg P s u' (s.fr t') = some v') (h4 : r = .tup [v, v']) : aEndK P rs tys s r := by
  subst h1; subst h2; subst h4; simp [aEndK, aOuts, h3, h3', oneOf, Wk.of_eq]
theorem end3 {rs : List ResultVar} {tys : List TypeId} {t t' t2 : Nat} {u u' u2 : TypeId} {v v' v2 r : AV} {s : St} (h1 : rs = [.tmp t, .tmp t', .tmp t2]) (h2 : tys = [u, u', u2]) (h3 : aArg P s u (s.fr t) = some v) (h3' : aArg P s u' (s.fr t') = some v') (h32 : aArg P s u2 (s.fr t2) = some v2) (h4 : r = .tup [v, v', v2]) : aEndK P rs tys s r := by
  subst h1; subst h2; subst h4; simp [aEndK, aOuts, h3, h3', h32, oneOf, Wk.of_eq]
theorem end2c {rs : List ResultVar} {tys : List TypeId} {p t' : Nat} {u w u' : TypeId} {v v' r : AV} {s : St} (h1 : rs = [.cell p u, .tmp t']) (h2 : tys = [w, u']) (h3 : aLoad P s u (s.fr p) = some (.k v)) (h3' : aArg P s u' (s.fr t') = some v') (h4 : r = .tup [v, v']) : aEndK P rs tys s r := by
  subst h1; subst h2; subst h4; simp [aEndK, aOuts, h3, h3', oneOf, Wk.of_eq]
theorem end1c {rs : List ResultVar} {tys : List TypeId} {p : Nat} {u w : TypeId} {v r : AV} {s : St} (h1 : rs = [.cell p u]) (h2 : tys = [w]) (h3 : aLoad P s u (s.fr p) = some (.k v)) (h4 : r = v) : aEndK P rs tys s r := by
  subst h1; subst h2; subst h4; simp [aEndK, aOuts, h3, oneOf, Wk.of_eq]
theorem loadC {t : TypeId} {x : SV} {e g off sz by_ : Nat} {un : TU} {zr cs : List AV} {v : AV} (hx : x = .ob e g off) (hT : T e = some (g, .obj cs)) (ht : tiOf P t = ⟨true, sz, by_, un, zr⟩) (hl : ldAgg un sz (cs.drop off) = some v) (ho : v.isOw = false) : aLoad P ⟨F, T, ν, md⟩ t x = some (.k v) := by
  subst hx; simp only [aLoad, ht, if_true, St.objOf, hT, Option.bind_some, hl, Option.map_some, of_k ho]
theorem end_r {R : Prop} (h : R) : AEx.fin .ret = true ∧ R := ⟨rfl, h⟩
theorem end_n {R : Prop} (h : R) : AEx.fin .normal = true ∧ R := ⟨rfl, h⟩
theorem endO {rs : List ResultVar} {t d g n : Nat} {e : TypeId} {cs : List AV} (h1 : rs = [.tmp t]) (h2 : F t = .ow d g n e cs) (h3 : T d = some (g, .tag)) (h4 : cs.all AV.sc = true) : aEndO rs ⟨F, T, ν, md⟩ n e cs :=
  ⟨t, d, g, h1, h2, h3, h4⟩
/-- a state, as an invariant wants it -/
theorem upd_self {α : Type} {F : Nat → α} {d : Nat} {v : α} (h : F d = v) : F = upd F d v := by
  funext t; unfold upd; split
  · rename_i e; rw [e, h]
  · rfl
end
end Go.Proofs.Ytikganlbnhapcaa
