import Derived.Test.YtikganlbnhapcaaAvCall2
import Derived.Deep.LoopGhost
namespace Go.Proofs.Ytikganlbnhapcaa
open Go.RowKit
set_option linter.unusedVariables false
set_option linter.unusedSimpArgs false

def aConvX (P : Program) (s : St) (t u : TypeId) (dst : Option Nat) (x : SV) : Option St :=
  match aConv P s t u x with
  | some y => some (s.put dst y)
  | none => (aMark P s t u x).map fun p => p.1.put dst p.2
def aBuiltX (P : Program) (γ : Nat) (s : St) (dst : Option Nat) (b : Builtin) (args : List Operand) (ts : List TypeId) : Option St :=
  match b, args, ts, dst with
  | .append, [x, y], [t, t'], some d => aApp P γ s d t t' (s.ev x) (s.ev y)
  | .copy, [x, y], [t, _], dst => (aCopy P s t (s.ev x) (s.ev y)).map fun p => p.1.put dst (.k (.int .i64 (p.2 : Int)))
  | b, args, ts, dst => (aBuiltin P s b args ts).map (s.put dst)
/-- an operation that is no call of a function -/
def aDet (P : Program) (γ : Nat) (s : St) (dst : Option Nat) : Op → Option St
  | .alloc e => dst.bind fun d => aAlloc P γ s d e
  | .box _ x => dst.bind fun d => aBox γ s d (s.avn x)
  | .buildSlice t n parts => dst.bind fun d => aBuildSl P γ s d t n parts.toList
  | .makeSlice t l c => dst.bind fun d => (s.int? l).bind fun l => (s.int? c).bind fun c => aMake P γ s d t l c
  | .store t x y => (aStore P s t (s.ev x) (s.avn y)).map fun s' => s'.put dst (.k .any)
  | .convert t u x => aConvX P s t u dst (s.ev x)
  | .call c => match c.callee with
    | .builtin b => aBuiltX P γ s dst b c.args.toList c.argTypes.toList
    | _ => none
  | op => (aVal P s op).map (s.put dst)
/-- a call of a function -/
def aCall (P : Program) (γ : Nat) (s : St) (dst : Option Nat) (f : FuncId) (args : List Operand) (ts : List TypeId) (K : St → Prop) : Prop :=
  ∃ ys r s', aArgs P s (args.map s.ev) ts = some ys ∧ Spec P f ys r ∧ ((args.all fun x => s.isK (s.ev x)) = true ∨ r.noal = true) ∧ s.res dst γ r = some s' ∧ K s'
def aOp (P : Program) (γ : Nat) (s : St) (o : Oper) (K : St → Prop) : Prop :=
  match o.op with
  | .call { callee := .value (.func f), args := args, argTypes := ts } => aCall P γ s o.dst f args.toList ts.toList K
  | op => match aDet P γ s o.dst op with
    | some s' => K s'
    | none => False
def yld (ops : List Oper) (s : St) (j : Nat) : Option Bool :=
  match (ops[j]?).bind (·.dst) with
  | some d => match s.fr d with
    | .k (.bool b) => some b
    | _ => none
  | none => none
def aGuard (P : Program) (ops : List Oper) (γ : Nat) (s : St) (o : Oper) (K : St → Prop) : Prop :=
  match o.guard with
  | none => aOp P γ s o K
  | some (j, want) => match yld ops s j with
    | some b => if b = want then aOp P γ s o K else K (s.put o.dst (.k .any))
    | none => False
def aRun (P : Program) (ops : List Oper) : Nat → List Oper → St → (St → Prop) → Prop
  | _, [], s, K => K s
  | i, o :: l, s, K => aGuard P ops (s.nx + i) s o fun s' => aRun P ops (i + 1) l s' K
def St.bump (s : St) (n : Nat) : St := ⟨s.fr, s.tb, s.nx + n, s.md⟩
def dstsOk (N : Nat) (ops : List Oper) : Bool := ops.all fun o => match o.dst with
  | some d => decide (d < N)
  | none => true
inductive AEx where
  | normal | exit (id : Nat) | ret
def AEx.to : AEx → Exit
  | .normal => .normal
  | .exit id => .exit id
  | .ret => .ret
def AEx.seq (K : St → Prop) (Q : AEx → St → Prop) : AEx → St → Prop
  | .normal, s => K s
  | .exit id, s => Q (.exit id) s
  | .ret, s => Q .ret s
def AEx.inBlock (id : Nat) (Q : AEx → St → Prop) : AEx → St → Prop
  | .exit id', s => if id' = id then Q .normal s else Q (.exit id') s
  | .normal, s => Q .normal s
  | .ret, s => Q .ret s
section
variable {P : Program} {w0 : Base} {w w' : World} {K0 : Anc} {G : Gh} {us : Nat → Prop} {s : St} {a : Act}
theorem St.put_nx (s : St) (d : Option Nat) (x : SV) : (s.put d x).nx = s.nx := by cases d <;> rfl
theorem St.mkSl_nx (s : St) (d γ n : Nat) (e : TypeId) (cells : List AV) : (s.mkSl d γ n e cells).nx = s.nx := by
  unfold St.mkSl; split
  · split <;> rfl
  · rfl
theorem put_size (a : Act) (d : Option Nat) (v : Value) : (a.put d v).tmps.size = a.tmps.size := by cases d <;> simp [Act.put]
/-- what a step leaves -/
def Nx (P : Program) (w0 : Base) (K0 : Anc) (N nx : Nat) (us : Nat → Prop) (K : St → Prop) (a : Act) (w : World) : Prop := ∃ s G, K s ∧ Real P w0 K0 G us s a w ∧ a.tmps.size = N ∧ s.nx = nx
theorem wp_val {o : Oper} {v : Value} {next : Act → World → Prop} {Q : Exit → Act → World → Prop} (h : (execOp a.eval o).run P w = .ok (.value v) w') (hn : next (a.put o.dst v) w') : o.wp P a w next Q := by
  unfold Oper.wp; rw [h]; exact hn
theorem wp_skp {o : Oper} {next : Act → World → Prop} {Q : Exit → Act → World → Prop} (h : (execOp a.eval o).run P w = .ok .skip w') (hn : next (a.put o.dst undef) w') : o.wp P a w next Q := by
  unfold Oper.wp; rw [h]; exact hn
theorem aDet_nx {γ : Nat} {dst : Option Nat} {op : Op} {s' : St} (h : aDet P γ s dst op = some s') : s'.nx = s.nx := by
  cases op <;> simp only [aDet] at h <;> try (simp only [Option.map_eq_some_iff] at h; obtain ⟨y, _, rfl⟩ := h; exact St.put_nx _ _ _)
  case alloc e =>
    simp only [Option.bind_eq_some_iff] at h
    obtain ⟨d, _, h⟩ := h
    unfold aAlloc at h; split at h
    · injection h with h; subst h; rfl
    · cases h
  case box e x =>
    simp only [Option.bind_eq_some_iff] at h
    obtain ⟨d, _, h⟩ := h
    unfold aBox at h; split at h
    · injection h with h; subst h; rfl
    · cases h
  case buildSlice t n parts =>
    simp only [Option.bind_eq_some_iff] at h
    obtain ⟨d, _, h⟩ := h
    unfold aBuildSl at h
    simp only [Option.bind_eq_some_iff] at h
    obtain ⟨e, _, h⟩ := h
    split at h
    · simp only [Option.map_eq_some_iff] at h
      obtain ⟨cs, _, rfl⟩ := h
      exact St.mkSl_nx _ _ _ _ _ _
    · cases h
  case store t x y =>
    simp only [Option.map_eq_some_iff] at h
    obtain ⟨s1, h, rfl⟩ := h
    rw [St.put_nx]
    unfold aStore at h
    split at h
    · split at h
      · split at h
        · injection h with h; subst h; rfl
        · cases h
      · cases h
    · cases h
  case makeSlice t l c =>
    simp only [Option.bind_eq_some_iff] at h
    obtain ⟨d, _, l', _, c', _, h⟩ := h
    unfold aMake at h
    simp only [Option.bind_eq_some_iff] at h
    obtain ⟨e, _, h⟩ := h
    split at h
    · injection h with h; subst h
      exact St.mkSl_nx _ _ _ _ _ _
    · cases h
  case convert t u x =>
    unfold aConvX at h
    split at h
    · injection h with h; subst h; exact St.put_nx _ _ _
    · simp only [Option.map_eq_some_iff] at h
      obtain ⟨⟨s1, y⟩, h, rfl⟩ := h
      rw [St.put_nx]
      unfold aMark at h
      simp only [Option.bind_eq_some_iff] at h
      obtain ⟨e, _, h⟩ := h
      split at h
      · split at h
        · split at h
          · split at h
            · injection h with h; injection h with h1 h2; subst h1; rfl
            · cases h
          · cases h
        · cases h
      · cases h
  case call c =>
    split at h
    · unfold aBuiltX at h
      split at h
      · unfold aApp at h
        simp only [Option.bind_eq_some_iff] at h
        obtain ⟨e, _, cc, _, h⟩ := h
        split at h
        · split at h
          · split at h
            · injection h with h; subst h; exact St.put_nx _ _ _
            · split at h
              · injection h with h; subst h
                split <;> rfl
              · cases h
          · split at h
            · split at h
              · injection h with h; subst h; rfl
              · cases h
            · cases h
          · cases h
        · cases h
      · simp only [Option.map_eq_some_iff] at h
        obtain ⟨⟨s1, k⟩, h, rfl⟩ := h
        rw [St.put_nx]
        unfold aCopy at h
        simp only [Option.bind_eq_some_iff] at h
        obtain ⟨e, _, cc, _, h⟩ := h
        split at h
        · split at h
          · split at h
            · split at h
              · injection h with h; injection h with h1 h2; subst h1; rfl
              · cases h
            · cases h
          · cases h
        · cases h
      · simp only [Option.map_eq_some_iff] at h
        obtain ⟨y, _, rfl⟩ := h
        exact St.put_nx _ _ _
    · cases h
theorem aDet_sound (h : Real P w0 K0 G us s a w) {γ : Nat} (hu : ¬ us γ) {o : Oper} (hd : ∀ d, o.dst = some d → d < a.tmps.size) {s' : St} (ha : aDet P γ s o.dst o.op = some s') {next : Act → World → Prop} {Q : Exit → Act → World → Prop}
    (hn : ∀ v w' G', Real P w0 K0 G' (fun g => us g ∨ g = γ) s' (a.put o.dst v) w' → next (a.put o.dst v) w') : o.wp P a w next Q := by
  have us' : ∀ g, us g → (us g ∨ g = γ) := fun g hg => .inl hg
  have val : ∀ y, aVal P s o.op = some y → s' = s.put o.dst y → o.wp P a w next Q := by
    intro y hy e
    obtain ⟨r, h1, h2⟩ := aVal_sound h hy
    exact wp_val h1 (hn r w G (e ▸ ((h.us_mono us').put o.dst y r h2 hd)))
  cases ho : o.op <;> rw [ho] at ha <;> simp only [aDet] at ha <;> try (simp only [Option.map_eq_some_iff] at ha; obtain ⟨y, hy, rfl⟩ := ha; exact val y (by rw [ho]; exact hy) rfl)
  case alloc e =>
    simp only [Option.bind_eq_some_iff] at ha
    obtain ⟨d, hdd, ha⟩ := ha
    obtain ⟨v, w', h1, G', h2⟩ := aAlloc_sound h hu (hd d hdd) ha
    exact wp_val (v := v) (w' := w') (by unfold execOp; simp [ho, h1]) (by have q := hn v w' G'; rw [hdd] at q ⊢; exact q h2)
  case box e x =>
    simp only [Option.bind_eq_some_iff] at ha
    obtain ⟨d, hdd, ha⟩ := ha
    obtain ⟨v, w', h1, G', h2⟩ := aBox_sound (e := e) h hu (hd d hdd) (h.avn (h.ev x)) ha
    exact wp_val (v := v) (w' := w') (by unfold execOp; simp [ho, h1]) (by have q := hn v w' G'; rw [hdd] at q ⊢; exact q h2)
  case buildSlice t n parts =>
    simp only [Option.bind_eq_some_iff] at ha
    obtain ⟨d, hdd, ha⟩ := ha
    obtain ⟨v, w', h1, G', h2⟩ := aBuildSl_sound h hu (hd d hdd) ha
    exact wp_val (v := v) (w' := w') (by unfold execOp; simp [ho, h1]) (by have q := hn v w' G'; rw [hdd] at q ⊢; exact q h2)
  case store t x y =>
    simp only [Option.map_eq_some_iff] at ha
    obtain ⟨s1, ha, rfl⟩ := ha
    obtain ⟨w', h1, h2⟩ := aStore_sound h (h.ev x) (h.avn (h.ev y)) ha
    exact wp_skp (w' := w') (by unfold execOp; simp [ho, h1]) (hn undef w' G ((h2.us_mono us').put o.dst _ _ (.k _ _ (.any _)) hd))
  case makeSlice t l c =>
    simp only [Option.bind_eq_some_iff] at ha
    obtain ⟨d, hdd, l', hl, c', hc, ha⟩ := ha
    obtain ⟨k, hk⟩ := int_of (h.ev l).av hl
    obtain ⟨k', hk'⟩ := int_of (h.ev c).av hc
    obtain ⟨v, w', h1, G', h2⟩ := aMake_sound (k := k) (k' := k') h hu (hd d hdd) ha
    exact wp_val (v := v) (w' := w') (by unfold execOp; simp [ho, hk, hk', h1]) (by have q := hn v w' G'; rw [hdd] at q ⊢; exact q h2)
  case convert t u x =>
    unfold aConvX at ha
    split at ha
    · rename_i y hy
      injection ha with ha
      exact val y (by rw [ho]; exact hy) ha.symm
    · simp only [Option.map_eq_some_iff] at ha
      obtain ⟨⟨s1, y⟩, ha, rfl⟩ := ha
      obtain ⟨w', h1, h2, h3⟩ := aMark_sound h (h.ev x) ha
      exact wp_val (v := a.eval x) (w' := w') (by unfold execOp; simp [ho, h1]) (hn _ w' G ((h2.us_mono us').put o.dst _ _ h3 hd))
  case call c =>
    obtain ⟨callee, args, ts⟩ := c
    cases callee <;> simp only at ha <;> try (cases ha; done)
    rename_i b
    obtain ⟨args⟩ := args
    obtain ⟨ts⟩ := ts
    unfold aBuiltX at ha
    split at ha
    · rename_i x y t t' d ea et hq
      simp only at ea et
      subst ea et
      obtain ⟨v, w', h1, G', h2⟩ := aApp_sound (ty := o.type) h hu (hd d hq) (h.ev x) (h.ev y) ha
      exact wp_val (v := v) (w' := w') (by unfold execOp; simp [ho, resolve, invoke, builtin, h1]) (by have q := hn v w' G'; rw [hq] at q ⊢; exact q h2)
    · rename_i x y t t' ea et
      simp only at ea et
      subst ea et
      simp only [Option.map_eq_some_iff] at ha
      obtain ⟨⟨s1, k⟩, ha, rfl⟩ := ha
      obtain ⟨w', h1, h2⟩ := aCopy_sound (u := t') (ty := o.type) h (h.ev x) (h.ev y) ha
      exact wp_val (v := .int .i64 k) (w' := w') (by unfold execOp; simp [ho, resolve, invoke, builtin, h1]) (hn _ w' G ((h2.us_mono us').put o.dst _ _ (.k _ _ (.int _ _)) hd))
    · simp only [Option.map_eq_some_iff] at ha
      obtain ⟨y, hy, rfl⟩ := ha
      exact val y (by rw [ho]; simpa [aVal] using hy) rfl
end

end Go.Proofs.Ytikganlbnhapcaa
