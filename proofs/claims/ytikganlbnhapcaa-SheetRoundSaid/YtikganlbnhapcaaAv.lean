import Derived.Below
import Derived.Deep.Draws
import Derived.OwnWalk
import Derived.Tactics
import Derived.WalkKit
import Derived.KernelRfl
import Derived.RowKit3
import Derived.IntWalk
import Derived.Laws.Rows
import Derived.Laws.OwnMore
import Derived.Laws.AppendOwnNone
import Derived.RangeFuncFrom
import Derived.RangeFuncLeaves
import Derived.RangeFuncCalls
namespace Go.Proofs.Ytikganlbnhapcaa
open Go.RowKit
set_option linter.unusedVariables false
set_option linter.unusedSimpArgs false

/-! abstract values: what a value is together with the contents of the memory behind it that never turns -/
inductive AV where
  | int (k : IntKind) (n : Int)
  | bool (b : Bool)
  | str (s : ByteArray)
  | raw (v : Value)
  | cp (cells : List AV)
  | sl (full : Bool) (n : Nat) (cells : List AV)
  | agg (cells : List AV)
  | tup (parts : List AV)
  | fn (f : Nat) (caps : List AV)
  | ow (δ d g n : Nat) (e : TypeId) (cells : List AV)
  | any
instance : Inhabited AV := ⟨.any⟩
/-- what a slot holds: an abstract value, or a pointer to a local object, a slice of one, a growing slice of one's own -/
inductive SV where
  | k (x : AV)
  | ob (d g off : Nat)
  | os (d g off n cap : Nat)
  | ow (d g n : Nat) (e : TypeId) (cells : List AV)
instance : Inhabited SV := ⟨.k .any⟩

/-! types -/
inductive TU where
  | int (k : IntKind) | bool | str | sl (e : TypeId) | arr (n : Nat) (e : TypeId) | st (fs : List (Nat × Nat)) | ptr (e : TypeId) | other | bad
structure TI where
  ok : Bool
  sz : Nat
  by_ : Nat
  un : TU
  zr : List AV
def ofVal : Value → AV
  | .int k n => .int k n
  | .bool b => .bool b
  | .string s => .str s
  | .slice none 0 0 => .sl true 0 []
  | .agg cs => .any
  | .tuple cs => .any
  | v => .raw v
def tuOf (P : Program) (d : Option TypeDesc) : TU :=
  match d with
  | some (.int k) => .int k
  | some .bool => .bool
  | some .string => .str
  | some (.slice e) => .sl e
  | some (.array n e) => .arr n e
  | some (.struct fs) => if fs.toList.all (fun f => (P.info? f.type).isSome) = true then .st (fs.toList.map fun f => (f.offset, ((P.info? f.type).map (·.size)).getD 0)) else .bad
  | some (.pointer e) => .ptr e
  | _ => .other
def okInfo : Option TypeInfo → Bool
  | some i => match i.zero with
    | some z => z.cells.size == i.size && z.cells.all (·.oneCell')
    | none => false
  | none => false
def tiOf (P : Program) (t : TypeId) : TI :=
  ⟨okInfo (P.info? t) && (P.underlying t).isSome, ((P.info? t).map (·.size)).getD 0, ((P.info? t).map (·.bytes)).getD 0, tuOf P (P.underlying t), (((P.info? t).bind (·.zero)).map fun z => z.cells.toList.map ofVal).getD []⟩

/-! the state of a body -/
inductive Ent where
  | obj (cells : List AV)
  | fz (cells : List AV)
  | tag
def upd {α : Type} (f : Nat → α) (d : Nat) (v : α) (t : Nat) : α := if t = d then v else f t
theorem upd_same {α : Type} (f : Nat → α) (d : Nat) (v : α) : upd f d v d = v := by simp [upd]
theorem upd_ne {α : Type} (f : Nat → α) (d : Nat) (v : α) (t : Nat) (h : t ≠ d) : upd f d v t = f t := by simp [upd, h]
/-- a walk's words: which makers make objects; its depth; whether a growing slice keeps its right inside an object -/
structure Md where
  os : Nat → Bool
  dp : Nat
  nest : Bool
instance : CoeFun Md (fun _ => Nat → Bool) := ⟨Md.os⟩
structure St where
  fr : Nat → SV
  tb : Nat → Option (Nat × Ent)
  nx : Nat
  md : Md
def St.ev (s : St) : Operand → SV
  | .tmp t => s.fr t
  | .const v => .k (ofVal v)
  | .func f => .k (.raw (.func (.func f) #[] #[]))
  | .global _ => .k .any
def St.put (s : St) (d : Option Nat) (x : SV) : St :=
  match d with
  | some d => ⟨upd s.fr d x, s.tb, s.nx, s.md⟩
  | none => s
def St.set (s : St) (d : Nat) (e : Option (Nat × Ent)) : St := ⟨s.fr, upd s.tb d e, s.nx, s.md⟩

/-! what never turns -/
structure Row where
  e : TypeId
  size : Nat
  v : Value
  n : Nat
  xs : List Value
structure Kd where
  val : Nat → Nat → Value
  hw : Nat → Nat
  rw : Nat → Nat → Nat → Option Row
  dp : Nat
  fr : ∀ δ d g, dp ≤ δ → rw δ d g = none
/-- cells that are known -/
def Kd.In (K : Kd) (b o n : Nat) : Prop := o + n ≤ K.hw b ∧ ∀ i, i < n → (K.val b (o + i)).oneCell' = true
inductive KRep (K : Kd) : AV → Value → Prop
  | any (v : Value) : KRep K .any v
  | int (k : IntKind) (n : Int) : KRep K (.int k n) (.int k n)
  | bool (b : Bool) : KRep K (.bool b) (.bool b)
  | str (s : ByteArray) : KRep K (.str s) (.string s)
  | raw (v : Value) (h : v.oneCell' = true) : KRep K (.raw v) v
  | cp (cells : List AV) (b o : Nat) (h1 : K.In b o cells.length) (h3 : ∀ (i : Nat) (x : AV), cells[i]? = some x → KRep K x (K.val b (o + i))) : KRep K (.cp cells) (.pointer (some ⟨b, o, none⟩))
  | sl0 (full : Bool) (a : Option Addr) (cap : Nat) (hm : cap ≤ maxLen) (hf : full = true → cap = 0) : KRep K (.sl full 0 []) (.slice a 0 cap)
  | sl (full : Bool) (n : Nat) (cells : List AV) (b o cap : Nat) (hn : n ≤ cap) (hm : cap ≤ maxLen) (hf : full = true → cap = n) (h1 : K.In b o cells.length) (h3 : ∀ (i : Nat) (x : AV), cells[i]? = some x → KRep K x (K.val b (o + i))) : KRep K (.sl full n cells) (.slice (some ⟨b, o, none⟩) n cap)
  | agg (cells : List AV) (vs : Array Value) (hl : vs.size = cells.length) (h1 : ∀ (i : Nat) (v : Value), vs[i]? = some v → v.oneCell' = true) (h : ∀ (i : Nat) (x : AV) (v : Value), cells[i]? = some x → vs[i]? = some v → KRep K x v) : KRep K (.agg cells) (.agg vs)
  | tup (cells : List AV) (vs : Array Value) (hl : vs.size = cells.length) (h : ∀ (i : Nat) (x : AV) (v : Value), cells[i]? = some x → vs[i]? = some v → KRep K x v) : KRep K (.tup cells) (.tuple vs)
  | fn (f : Nat) (caps : List AV) (vs : Array Value) (hl : vs.size = caps.length) (h : ∀ (i : Nat) (x : AV) (v : Value), caps[i]? = some x → vs[i]? = some v → KRep K x v) : KRep K (.fn f caps) (.func (.func f) #[] vs)
  | ow (δ d g n : Nat) (e : TypeId) (cells : List AV) (r : Row) (h : K.rw δ d g = some r) (he : r.e = e) (hn : r.n = n) (hl : cells.length = r.xs.length)
      (hx : ∀ (i : Nat) (x : AV) (v : Value), cells[i]? = some x → r.xs[i]? = some v → KRep K x v) (hk : KRep K (.sl false n cells) r.v) : KRep K (.ow δ d g n e cells) r.v
structure Kd.le (K K' : Kd) : Prop where
  hw : ∀ b, K.hw b ≤ K'.hw b
  val : ∀ b i, i < K.hw b → K'.val b i = K.val b i
  rw : ∀ δ d g r, K.rw δ d g = some r → K'.rw δ d g = some r
  dp : K.dp ≤ K'.dp
theorem Kd.le.refl (K : Kd) : K.le K := ⟨fun _ => Nat.le_refl _, fun _ _ _ => rfl, fun _ _ _ _ h => h, Nat.le_refl _⟩
theorem Kd.le.trans {a b c : Kd} (h : a.le b) (k : b.le c) : a.le c :=
  ⟨fun i => Nat.le_trans (h.hw i) (k.hw i), fun i j hj => (k.val i j (Nat.lt_of_lt_of_le hj (h.hw i))).trans (h.val i j hj), fun δ d g r e => k.rw δ d g r (h.rw δ d g r e), Nat.le_trans h.dp k.dp⟩
theorem Kd.In.mono {K K' : Kd} (hK : K.le K') {b o n : Nat} (h : K.In b o n) : K'.In b o n :=
  ⟨Nat.le_trans h.1 (hK.hw b), fun i hi => by rw [hK.val b (o + i) (by have := h.1; omega)]; exact h.2 i hi⟩
theorem Kd.In.drop {K : Kd} {b o n : Nat} (h : K.In b o n) (k : Nat) : K.In b (o + k) (n - k) ∨ n < k := by
  by_cases hk : k ≤ n
  · refine .inl ⟨by have := h.1; omega, fun i hi => by rw [Nat.add_assoc]; exact h.2 (k + i) (by omega)⟩
  · exact .inr (by omega)
theorem Kd.In.take {K : Kd} {b o n m : Nat} (h : K.In b o n) (hm : m ≤ n) : K.In b o m := ⟨by have := h.1; omega, fun i hi => h.2 i (by omega)⟩
theorem getq_lt {α : Type} {l : List α} {i : Nat} {x : α} (h : l[i]? = some x) : i < l.length := (List.getElem?_eq_some_iff.1 h).1
theorem KRep.mono {K K' : Kd} (hK : K.le K') {x : AV} {v : Value} (h : KRep K x v) : KRep K' x v := by
  induction h with
  | any v => exact .any v
  | int k n => exact .int k n
  | bool b => exact .bool b
  | str s => exact .str s
  | raw v h => exact .raw v h
  | cp cells b o h1 h3 ih =>
    refine .cp cells b o (h1.mono hK) (fun i x hx => ?_)
    rw [hK.val b (o + i) (by have := getq_lt hx; have := h1.1; omega)]; exact ih i x hx
  | sl0 full a cap hm hf => exact .sl0 full a cap hm hf
  | sl full n cells b o cap hn hm hf h1 h3 ih =>
    refine .sl full n cells b o cap hn hm hf (h1.mono hK) (fun i x hx => ?_)
    rw [hK.val b (o + i) (by have := getq_lt hx; have := h1.1; omega)]; exact ih i x hx
  | agg cells vs hl h1 h ih => exact .agg cells vs hl h1 ih
  | tup cells vs hl h ih => exact .tup cells vs hl ih
  | fn f caps vs hl h ih => exact .fn f caps vs hl ih
  | ow δ d g n e cells r h he hn hl hx hk ih ih2 => exact .ow δ d g n e cells r (hK.rw _ _ _ _ h) he hn hl ih ih2

theorem ofVal_rep (K : Kd) (v : Value) : KRep K (ofVal v) v := by
  unfold ofVal
  split
  · exact .int _ _
  · exact .bool _
  · exact .str _
  · exact .sl0 true none 0 (Nat.zero_le _) (fun _ => rfl)
  · exact .any _
  · exact .any _
  · rename_i h1 h2 h3 h4 h5 h6
    refine .raw _ ?_
    cases v <;> first | rfl | exact absurd rfl (h5 _) | exact absurd rfl (h6 _)

/-! ghosts -/
structure Gh where
  K : Kd
  at_ : Nat → Nat → Option (Nat × Nat)
  row : Nat → Nat → Option Row
  oth : Nat → Option Obj
structure Gh.le (G G' : Gh) : Prop where
  K : G.K.le G'.K
  at_ : ∀ d g x, G.at_ d g = some x → G'.at_ d g = some x
  row : ∀ d g x, G.row d g = some x → G'.row d g = some x
  oth : G'.oth = G.oth
theorem Gh.le.refl (G : Gh) : G.le G := ⟨.refl _, fun _ _ _ h => h, fun _ _ _ h => h, rfl⟩
theorem Gh.le.trans {a b c : Gh} (h : a.le b) (k : b.le c) : a.le c := ⟨h.K.trans k.K, fun d g x e => k.at_ d g x (h.at_ d g x e), fun d g x e => k.row d g x (h.row d g x e), k.oth.trans h.oth⟩
def KOk (K : Kd) (w : World) : Prop := ∀ b i, i < K.hw b → (∃ o : Obj, w.heap[b]? = some o ∧ o.isCells = true) ∧ ((K.val b i).oneCell' = true → w.cell? ⟨b, i, none⟩ = some (K.val b i))
theorem KOk.at_ {K : Kd} {w : World} (h : KOk K w) {b o n i : Nat} (hin : K.In b o n) (hi : i < n) : w.cell? ⟨b, o + i, none⟩ = some (K.val b (o + i)) ∧ (K.val b (o + i)).oneCell' = true :=
  ⟨(h b (o + i) (by have := hin.1; omega)).2 (hin.2 i hi), hin.2 i hi⟩
inductive SRep (G : Gh) : SV → Value → Prop
  | k (x : AV) (v : Value) (h : KRep G.K x v) : SRep G (.k x) v
  | ob (d g off b o : Nat) (h : G.at_ d g = some (b, o)) : SRep G (.ob d g off) (.pointer (some ⟨b, o + off, none⟩))
  | os (d g off n cap b o c : Nat) (h : G.at_ d g = some (b, o)) (hn : n ≤ cap) (hc : cap ≤ c) (hm : c ≤ maxLen) : SRep G (.os d g off n cap) (.slice (some ⟨b, o + off, none⟩) n c)
  | ow (d g n : Nat) (e : TypeId) (cells : List AV) (r : Row) (h : G.row d g = some r) (he : r.e = e) (hn : r.n = n) (hl : cells.length = r.xs.length)
      (hx : ∀ (i : Nat) (x : AV) (v : Value), cells[i]? = some x → r.xs[i]? = some v → KRep G.K x v) (hk : KRep G.K (.sl false n cells) r.v) : SRep G (.ow d g n e cells) r.v
theorem SRep.mono {G G' : Gh} (h : G.le G') {x : SV} {v : Value} (hr : SRep G x v) : SRep G' x v := by
  cases hr with
  | k x v hk => exact .k x v (hk.mono h.K)
  | ob d g off b o ha => exact .ob d g off b o (h.at_ _ _ _ ha)
  | os d g off n cap b o c ha hn hc hm => exact .os d g off n cap b o c (h.at_ _ _ _ ha) hn hc hm
  | ow d g n e cells r hr he hn hl hx hk => exact .ow d g n e cells r (h.row _ _ _ hr) he hn hl (fun i x v h1 h2 => (hx i x v h1 h2).mono h.K) (hk.mono h.K)

/-- where a walk began, and which blocks of that world it leaves as they are -/
structure Base where
  w : World
  pr : Nat → Prop
  lt : ∀ b, pr b → b < w.heap.size
structure Base.Kp (B : Base) (w : World) : Prop where
  os : w.os = B.w.os
  tape : w.tape = B.w.tape
  output : w.output = B.w.output
  size : B.w.heap.size ≤ w.heap.size
  block : ∀ b, B.pr b → w.heap[b]? = B.w.heap[b]?
theorem Base.Kp.refl (B : Base) : B.Kp B.w := ⟨rfl, rfl, rfl, Nat.le_refl _, fun _ _ => rfl⟩
theorem Base.Kp.then_ {B : Base} {w w' : World} (h : B.Kp w) (k : Below w.heap.size w w') : B.Kp w' :=
  ⟨k.os.trans h.os, k.tape.trans h.tape, k.output.trans h.output, Nat.le_trans h.size k.size, fun b hb => (k.block b (Nat.lt_of_lt_of_le (B.lt b hb) h.size)).trans (h.block b hb)⟩
theorem Base.Kp.alloc {B : Base} {w : World} (h : B.Kp w) (o : Obj) : B.Kp (w.alloc o) := h.then_ ((Below.refl _ w).alloc (Nat.le_refl _) o)
theorem Base.Kp.drew {B : Base} {w : World} (h : B.Kp w) : B.Kp w.drew := ⟨h.os, h.tape, h.output, h.size, h.block⟩
theorem Base.Kp.grown {B : Base} {w w' : World} {row : Option Nat} (h : B.Kp w) (hg : w.grownBy w' row) (hr : ∀ k, row = some k → ¬ B.pr k) : B.Kp w' :=
  ⟨hg.os.trans h.os, hg.tape.trans h.tape, hg.output.trans h.output, Nat.le_trans h.size hg.size, fun b hb => (hg.block b (Nat.lt_of_lt_of_le (B.lt b hb) h.size) (fun e => hr b e.symm hb)).trans (h.block b hb)⟩
def Base.all (w : World) : Base := ⟨w, fun b => b < w.heap.size, fun _ h => h⟩
theorem Base.Kp.below {w w' : World} (h : (Base.all w).Kp w') : Below w.heap.size w w' := ⟨h.os, h.tape, h.output, h.size, h.block⟩
def entBlk (G : Gh) (d g : Nat) : Ent → Option Nat
  | .obj _ => (G.at_ d g).map (·.1)
  | .fz _ => none
  | .tag => (G.row d g).bind (·.v.ownBlock)
def EntOk (G : Gh) (B : Base) (w : World) (d g : Nat) : Ent → Prop
  | .obj cells => ∃ (b o : Nat) (arr : Array Value) (ty : TypeId), G.at_ d g = some (b, o) ∧ ¬ B.pr b ∧ w.heap[b]? = some (.cells arr ty (0, 0)) ∧ G.K.hw b = 0 ∧ o + cells.length ≤ arr.size ∧
      (∀ (i : Nat) (v : Value), i < cells.length → arr[o + i]? = some v → v.oneCell' = true) ∧ ∀ (i : Nat) (x : AV) (v : Value), cells[i]? = some x → arr[o + i]? = some v → KRep G.K x v
  | .fz cells => ∃ b o : Nat, G.at_ d g = some (b, o) ∧ G.K.In b o cells.length ∧ ∀ (i : Nat) (x : AV), cells[i]? = some x → KRep G.K x (G.K.val b (o + i))
  | .tag => ∃ r : Row, G.row d g = some r ∧ w.ownsRow 0 r.e r.size r.v r.n r.xs ∧ (∀ b, r.v.ownBlock = some b → ¬ B.pr b ∧ G.K.hw b = r.n * r.size ∧ ∀ (i : Nat) (x : Value), r.xs[i]? = some x → G.K.val b i = x) ∧ ∀ x ∈ r.xs, x.oneCell' = true
structure Gh.lo (G G' : Gh) : Prop where
  K : G.K.le G'.K
  at_ : ∀ d g x, G.at_ d g = some x → G'.at_ d g = some x
  row : ∀ d g x, G.row d g = some x → G'.row d g = some x
  oth : ∀ b o, G.oth b = some o → G'.oth b = some o
theorem Gh.lo.refl (G : Gh) : G.lo G := ⟨.refl _, fun _ _ _ h => h, fun _ _ _ h => h, fun _ _ h => h⟩
theorem Gh.le.lo {G G' : Gh} (h : G.le G') : G.lo G' := ⟨h.K, h.at_, h.row, fun b o e => by rw [h.oth]; exact e⟩
theorem Gh.lo.trans {a b c : Gh} (h : a.lo b) (k : b.lo c) : a.lo c := ⟨h.K.trans k.K, fun d g x e => k.at_ d g x (h.at_ d g x e), fun d g x e => k.row d g x (h.row d g x e), fun b o e => k.oth b o (h.oth b o e)⟩
/-- where a walk began: the kinds, and the ghosts -/
structure Anc where
  K : Kd
  G : Gh
/-- the marks that loops over functions have left -/
def Mks (w0 : Base) (G : Gh) (ds : List Deferred) : Prop := ∃ l : List Nat, l.Nodup ∧ ds = l.map (fun D => { target := .collected D, args := #[] }) ∧ ∀ D ∈ l, ¬ w0.pr D ∧ G.oth D = some (.deferred (some []))
theorem Mks.nil (w0 : Base) (G : Gh) : Mks w0 G [] := ⟨[], .nil, rfl, fun D h => by cases h⟩
structure Real (P : Program) (w0 : Base) (K0 : Anc) (G : Gh) (us : Nat → Prop) (s : St) (a : Act) (w : World) : Prop where
  below : w0.Kp w
  kok : KOk G.K w
  slots : ∀ t, SRep G (s.fr t) (a.tmps.getD t undef)
  ents : ∀ d g e, s.tb d = some (g, e) → EntOk G w0 w d g e
  dist : ∀ d1 g1 e1 d2 g2 e2 b, s.tb d1 = some (g1, e1) → s.tb d2 = some (g2, e2) → entBlk G d1 g1 e1 = some b → entBlk G d2 g2 e2 = some b → d1 = d2
  fresh : ∀ d g, ¬ us g → G.at_ d g = none ∧ G.row d g = none
  defers : Mks w0 G a.defers
  rows : ∀ d g r, G.row d g = some r → r.size = (tiOf P r.e).sz
  offs : ∀ d g b o, G.at_ d g = some (b, o) → o = 0
  kle : K0.K.le G.K
  kold : ∀ b, w0.pr b → G.K.hw b = K0.K.hw b
  oth : ∀ (b : Nat) (o : Obj), G.oth b = some o → w.heap[b]? = some o ∧ o.isCells = false
  krw : ∀ d g, G.K.rw s.md.dp d g = G.row d g
  dpl : s.md.dp < G.K.dp
  dp0 : K0.K.dp ≤ s.md.dp
  kro : ∀ δ, δ < K0.K.dp → ∀ d g, G.K.rw δ d g = K0.K.rw δ d g
  gle : K0.G.lo G

/-- an entry stays good where its block stays -/
theorem EntOk.carry {G G' : Gh} {B : Base} {w w' : World} {d g : Nat} {e : Ent} (h : EntOk G B w d g e) (hG : G.le G')
    (hb : ∀ b, entBlk G d g e = some b → w'.heap[b]? = w.heap[b]? ∧ G'.K.hw b = G.K.hw b) : EntOk G' B w' d g e := by
  cases e with
  | obj cells =>
    obtain ⟨b, o, arr, ty, h1, h2, h3, h4, h5, h6, h7⟩ := h
    obtain ⟨k1, k2⟩ := hb b (by simp [entBlk, h1])
    exact ⟨b, o, arr, ty, hG.at_ _ _ _ h1, h2, k1.trans h3, k2.trans h4, h5, h6, fun i x v e1 e2 => (h7 i x v e1 e2).mono hG.K⟩
  | fz cells =>
    obtain ⟨b, o, h1, h2, h3⟩ := h
    refine ⟨b, o, hG.at_ _ _ _ h1, h2.mono hG.K, fun i x hx => ?_⟩
    rw [hG.K.val b (o + i) (by have := getq_lt hx; have := h2.1; omega)]
    exact (h3 i x hx).mono hG.K
  | tag =>
    obtain ⟨r, h1, h2, h3, h4⟩ := h
    refine ⟨r, hG.row _ _ _ h1, ?_, ?_, h4⟩
    · obtain ⟨l1, l2⟩ := h2
      refine ⟨l1, ?_⟩
      rcases l2 with l2 | ⟨gb, cap, cur, e1, e2, e3, e4⟩
      · exact .inl l2
      · refine .inr ⟨gb, cap, cur, e1, e2, ?_, e4⟩
        rw [(hb gb (by simp [entBlk, h1, e1, Value.ownBlock])).1]; exact e3
    · intro b hb'
      obtain ⟨k0, k1, k2⟩ := h3 b hb'
      have := hb b (by simp [entBlk, h1, hb'])
      refine ⟨k0, this.2.trans k1, fun i x hx => ?_⟩
      rw [hG.K.val b i ?_]
      · exact k2 i x hx
      · rw [k1, ← h2.1]; exact getq_lt hx
theorem entBlk_le {G G' : Gh} (hG : G.le G') {B : Base} {w : World} {d g : Nat} {e : Ent} (h : EntOk G B w d g e) : entBlk G' d g e = entBlk G d g e := by
  cases e with
  | obj cells =>
    obtain ⟨b, o, arr, ty, h1, _⟩ := h
    simp [entBlk, h1, hG.at_ _ _ _ h1]
  | fz cells => rfl
  | tag =>
    obtain ⟨r, h1, _⟩ := h
    simp [entBlk, h1, hG.row _ _ _ h1]
theorem EntOk.base {G : Gh} {B : Base} {w : World} {d g : Nat} {e : Ent} (h : EntOk G B w d g e) {b : Nat} (hb : entBlk G d g e = some b) : ¬ B.pr b ∧ b < w.heap.size := by
  cases e with
  | obj cells =>
    obtain ⟨b', o, arr, ty, h1, h2, h3, _⟩ := h
    simp [entBlk, h1] at hb
    subst hb
    exact ⟨h2, (Array.getElem?_eq_some_iff.1 h3).1⟩
  | fz cells => simp [entBlk] at hb
  | tag =>
    obtain ⟨r, h1, h2, h3, _⟩ := h
    simp [entBlk, h1] at hb
    exact ⟨(h3 b hb).1, (World.ownsRow.lt h2 b hb).2⟩

section
variable {P : Program} {w0 : Base} {w w' : World} {K0 : Anc} {G G' : Gh} {us us' : Nat → Prop} {s : St} {a : Act}
theorem Real.put (h : Real P w0 K0 G us s a w) (d : Option Nat) (x : SV) (v : Value) (hx : SRep G x v) (hd : ∀ t, d = some t → t < a.tmps.size) : Real P w0 K0 G us (s.put d x) (a.put d v) w := by
  cases d with
  | none => exact h
  | some d =>
    refine ⟨h.below, h.kok, fun t => ?_, h.ents, h.dist, h.fresh, h.defers, h.rows, h.offs, h.kle, h.kold, h.oth, h.krw, h.dpl, h.dp0, h.kro, h.gle⟩
    by_cases e : t = d
    · subst e
      have := hd t rfl
      simp only [St.put, upd_same, Act.put]
      rw [show (a.tmps.setIfInBounds t v).getD t undef = v by simp [Array.getD, this]]
      exact hx
    · simp only [St.put, Act.put]
      rw [upd_ne _ _ _ _ e, show (a.tmps.setIfInBounds d v).getD t undef = a.tmps.getD t undef by
        rw [Array.getD_eq_getD_getElem?, Array.getD_eq_getD_getElem?, Array.getElem?_setIfInBounds_ne (Ne.symm e)]]
      exact h.slots t
/-- the world goes on: one entry may turn, the others stay -/
theorem Real.go (h : Real P w0 K0 G us s a w) (hb : w0.Kp w') (hG : G.le G') (hk : KOk G'.K w') (hu : ∀ g, us g → us' g) (hnc : ∀ (b : Nat) (o : Obj), w.heap[b]? = some o → o.isCells = false → w'.heap[b]? = some o) (hrw : (∀ d g, G'.K.rw s.md.dp d g = G'.row d g) ∧ ∀ δ, δ < K0.K.dp → ∀ d g, G'.K.rw δ d g = G.K.rw δ d g)
    (hf : ∀ d g, ¬ us' g → G'.at_ d g = none ∧ G'.row d g = none) (hrows : ∀ d g r, G'.row d g = some r → r.size = (tiOf P r.e).sz) (hoff : ∀ d g b o, G'.at_ d g = some (b, o) → o = 0) (hko : ∀ b, w0.pr b → G'.K.hw b = G.K.hw b)
    (hs : ∀ d g e, s.tb d = some (g, e) → ∀ b, entBlk G d g e = some b → w'.heap[b]? = w.heap[b]? ∧ G'.K.hw b = G.K.hw b) : Real P w0 K0 G' us' s a w' := by
  refine ⟨hb, hk, fun t => (h.slots t).mono hG, fun d g e he => (h.ents d g e he).carry hG (hs d g e he), ?_, hf, (by obtain ⟨l, h1, h2, h3⟩ := h.defers; exact ⟨l, h1, h2, by rw [hG.oth]; exact h3⟩), hrows, hoff, h.kle.trans hG.K, fun b hb => (hko b hb).trans (h.kold b hb), fun b o hb => by rw [hG.oth] at hb; exact ⟨hnc b o (h.oth b o hb).1 (h.oth b o hb).2, (h.oth b o hb).2⟩, hrw.1, Nat.lt_of_lt_of_le h.dpl hG.K.dp, h.dp0, fun δ hδ d g => (hrw.2 δ hδ d g).trans (h.kro δ hδ d g), h.gle.trans hG.lo⟩
  intro d1 g1 e1 d2 g2 e2 b h1 h2 k1 k2
  rw [entBlk_le hG (h.ents _ _ _ h1)] at k1
  rw [entBlk_le hG (h.ents _ _ _ h2)] at k2
  exact h.dist d1 g1 e1 d2 g2 e2 b h1 h2 k1 k2
/-- an entry is set anew, at a block that no other entry has -/
theorem Real.set (h : Real P w0 K0 G us s a w) (d : Nat) (x : Option (Nat × Ent)) (hx : ∀ g e, x = some (g, e) → EntOk G w0 w d g e ∧
      ∀ b, entBlk G d g e = some b → ∀ d' g' e', d' ≠ d → s.tb d' = some (g', e') → entBlk G d' g' e' ≠ some b) : Real P w0 K0 G us (s.set d x) a w := by
  refine ⟨h.below, h.kok, h.slots, ?_, ?_, h.fresh, h.defers, h.rows, h.offs, h.kle, h.kold, h.oth, h.krw, h.dpl, h.dp0, h.kro, h.gle⟩
  · intro d' g e he
    by_cases hd : d' = d
    · subst hd
      simp only [St.set, upd_same] at he
      exact (hx g e he).1
    · simp only [St.set] at he
      rw [upd_ne _ _ _ _ hd] at he
      exact h.ents d' g e he
  · intro d1 g1 e1 d2 g2 e2 b h1 h2 k1 k2
    simp only [St.set] at h1 h2
    by_cases hd1 : d1 = d
    · by_cases hd2 : d2 = d
      · rw [hd1, hd2]
      · subst hd1
        rw [upd_same] at h1
        rw [upd_ne _ _ _ _ hd2] at h2
        exact absurd k2 ((hx g1 e1 h1).2 b k1 d2 g2 e2 hd2 h2)
    · rw [upd_ne _ _ _ _ hd1] at h1
      by_cases hd2 : d2 = d
      · subst hd2
        rw [upd_same] at h2
        exact absurd k1 ((hx g2 e2 h2).2 b k2 d1 g1 e1 hd1 h1)
      · rw [upd_ne _ _ _ _ hd2] at h2
        exact h.dist d1 g1 e1 d2 g2 e2 b h1 h2 k1 k2
theorem Real.us_mono (h : Real P w0 K0 G us s a w) (hu : ∀ g, us g → us' g) : Real P w0 K0 G us' s a w :=
  ⟨h.below, h.kok, h.slots, h.ents, h.dist, fun d g hn => h.fresh d g fun hc => hn (hu g hc), h.defers, h.rows, h.offs, h.kle, h.kold, h.oth, h.krw, h.dpl, h.dp0, h.kro, h.gle⟩
end

end Go.Proofs.Ytikganlbnhapcaa
