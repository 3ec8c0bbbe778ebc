import Derived.Below
import Derived.Deep.Draws
import Derived.OwnWalk
import Derived.Tactics
import Derived.WalkKit
import Derived.KernelRfl
import Derived.RowKit3
import Derived.IntWalk
import Derived.Laws.Rows
import Derived.Laws.OwnMore
import Derived.Laws.AppendOwnNone
import Derived.RangeFuncFrom
import Derived.RangeFuncLeaves
import Derived.RangeFuncCalls
import Derived.Maps.AppendAt
import Derived.Deep.AppendSrc
import Derived.Laws.BytesString
import Derived.Laws.Cover3
import Derived.Lib.AppendStr
import Derived.DeepKeys
namespace Go.Proofs.Ytikganlbnhapcaa
open Go.RowKit
set_option linter.unusedVariables false
set_option linter.unusedSimpArgs false

/-! abstract values: what a value is together with the contents of the memory behind it that never turns -/
inductive AV where
  | int (k : IntKind) (n : Int)
  | bool (b : Bool)
  | str (s : ByteArray)
  | raw (v : Value)
  | cp (cells : List AV)
  | sl (full : Bool) (n : Nat) (cells : List AV)
  | agg (cells : List AV)
  | tup (parts : List AV)
  | fn (f : Nat) (caps : List AV)
  | ow (δ d g n : Nat) (e : TypeId) (cells : List AV)
  | any
instance : Inhabited AV := ⟨.any⟩
/-- what a slot holds: an abstract value, or a pointer to a local object, a slice of one, a growing slice of one's own -/
inductive SV where
  | k (x : AV)
  | ob (d g off : Nat)
  | os (d g off n cap : Nat)
  | pk (d g off n d2 g2 off2 n2 : Nat)
  | ow (d g n : Nat) (e : TypeId) (cells : List AV)
instance : Inhabited SV := ⟨.k .any⟩

/-! types -/
inductive TU where
  | int (k : IntKind) | bool | str | sl (e : TypeId) | arr (n : Nat) (e : TypeId) | st (fs : List (Nat × Nat)) | ptr (e : TypeId) | other | bad
structure TI where
  ok : Bool
  sz : Nat
  by_ : Nat
  un : TU
  zr : List AV
def ofVal : Value → AV
  | .int k n => .int k n
  | .bool b => .bool b
  | .string s => .str s
  | .slice none 0 0 => .sl true 0 []
  | .agg cs => .any
  | .tuple cs => .any
  | v => .raw v
def tuOf (P : Program) (d : Option TypeDesc) : TU :=
  match d with
  | some (.int k) => .int k
  | some .bool => .bool
  | some .string => .str
  | some (.slice e) => .sl e
  | some (.array n e) => .arr n e
  | some (.struct fs) => if fs.toList.all (fun f => (P.info? f.type).isSome) = true then .st (fs.toList.map fun f => (f.offset, ((P.info? f.type).map (·.size)).getD 0)) else .bad
  | some (.pointer e) => .ptr e
  | _ => .other
def okInfo : Option TypeInfo → Bool
  | some i => match i.zero with
    | some z => z.cells.size == i.size && z.cells.all (·.oneCell')
    | none => false
  | none => false
def tiOf (P : Program) (t : TypeId) : TI :=
  ⟨okInfo (P.info? t) && (P.underlying t).isSome, ((P.info? t).map (·.size)).getD 0, ((P.info? t).map (·.bytes)).getD 0, tuOf P (P.underlying t), (((P.info? t).bind (·.zero)).map fun z => z.cells.toList.map ofVal).getD []⟩

/-! the state of a body -/
inductive Ent where
  | obj (cells : List AV)
  | fz (cells : List AV)
  | tag
def upd {α : Type} (f : Nat → α) (d : Nat) (v : α) (t : Nat) : α := if t = d then v else f t
theorem upd_same {α : Type} (f : Nat → α) (d : Nat) (v : α) : upd f d v d = v := by simp [upd]
theorem upd_ne {α : Type} (f : Nat → α) (d : Nat) (v : α) (t : Nat) (h : t ≠ d) : upd f d v t = f t := by simp [upd, h]
/-- a walk's words: which makers make objects; its depth; whether a growing slice keeps its right inside an object -/
structure Md where
  os : Nat → Bool
  dp : Nat
  nest : Bool
instance : CoeFun Md (fun _ => Nat → Bool) := ⟨Md.os⟩
structure St where
  fr : Nat → SV
  tb : Nat → Option (Nat × Ent)
  nx : Nat
  md : Md
def St.ev (s : St) : Operand → SV
  | .tmp t => s.fr t
  | .const v => .k (ofVal v)
  | .func f => .k (.raw (.func (.func f) #[] #[]))
  | .global _ => .k .any
def St.put (s : St) (d : Option Nat) (x : SV) : St :=
  match d with
  | some d => ⟨upd s.fr d x, s.tb, s.nx, s.md⟩
  | none => s
def St.set (s : St) (d : Nat) (e : Option (Nat × Ent)) : St := ⟨s.fr, upd s.tb d e, s.nx, s.md⟩

/-! what never turns -/
structure Row where
  e : TypeId
  size : Nat
  v : Value
  n : Nat
  xs : List Value
structure Kd where
  val : Nat → Nat → Value
  hw : Nat → Nat
  rw : Nat → Nat → Nat → Option Row
  dp : Nat
  fr : ∀ δ d g, dp ≤ δ → rw δ d g = none
/-- cells that are known -/
def Kd.In (K : Kd) (b o n : Nat) : Prop := o + n ≤ K.hw b ∧ ∀ i, i < n → (K.val b (o + i)).oneCell' = true
inductive KRep (K : Kd) : AV → Value → Prop
  | any (v : Value) : KRep K .any v
  | int (k : IntKind) (n : Int) : KRep K (.int k n) (.int k n)
  | bool (b : Bool) : KRep K (.bool b) (.bool b)
  | str (s : ByteArray) : KRep K (.str s) (.string s)
  | raw (v : Value) (h : v.oneCell' = true) : KRep K (.raw v) v
  | cp (cells : List AV) (b o : Nat) (h1 : K.In b o cells.length) (h3 : ∀ (i : Nat) (x : AV), cells[i]? = some x → KRep K x (K.val b (o + i))) : KRep K (.cp cells) (.pointer (some ⟨b, o, none⟩))
  | sl0 (full : Bool) (a : Option Addr) (cap : Nat) (hm : cap ≤ maxLen) (hf : full = true → cap = 0) : KRep K (.sl full 0 []) (.slice a 0 cap)
  | sl (full : Bool) (n : Nat) (cells : List AV) (b o cap : Nat) (hn : n ≤ cap) (hm : cap ≤ maxLen) (hf : full = true → cap = n) (h1 : K.In b o cells.length) (h3 : ∀ (i : Nat) (x : AV), cells[i]? = some x → KRep K x (K.val b (o + i))) : KRep K (.sl full n cells) (.slice (some ⟨b, o, none⟩) n cap)
  | agg (cells : List AV) (vs : Array Value) (hl : vs.size = cells.length) (h1 : ∀ (i : Nat) (v : Value), vs[i]? = some v → v.oneCell' = true) (h : ∀ (i : Nat) (x : AV) (v : Value), cells[i]? = some x → vs[i]? = some v → KRep K x v) : KRep K (.agg cells) (.agg vs)
  | tup (cells : List AV) (vs : Array Value) (hl : vs.size = cells.length) (h : ∀ (i : Nat) (x : AV) (v : Value), cells[i]? = some x → vs[i]? = some v → KRep K x v) : KRep K (.tup cells) (.tuple vs)
  | fn (f : Nat) (caps : List AV) (vs : Array Value) (hl : vs.size = caps.length) (h : ∀ (i : Nat) (x : AV) (v : Value), caps[i]? = some x → vs[i]? = some v → KRep K x v) : KRep K (.fn f caps) (.func (.func f) #[] vs)
  | ow (δ d g n : Nat) (e : TypeId) (cells : List AV) (r : Row) (h : K.rw δ d g = some r) (he : r.e = e) (hn : r.n = n) (hl : cells.length = r.xs.length)
      (hx : ∀ (i : Nat) (x : AV) (v : Value), cells[i]? = some x → r.xs[i]? = some v → KRep K x v) (hk : KRep K (.sl false n cells) r.v) : KRep K (.ow δ d g n e cells) r.v
structure Kd.le (K K' : Kd) : Prop where
  hw : ∀ b, K.hw b ≤ K'.hw b
  val : ∀ b i, i < K.hw b → K'.val b i = K.val b i
  rw : ∀ δ d g r, K.rw δ d g = some r → K'.rw δ d g = some r
  dp : K.dp ≤ K'.dp
theorem Kd.le.refl (K : Kd) : K.le K := ⟨fun _ => Nat.le_refl _, fun _ _ _ => rfl, fun _ _ _ _ h => h, Nat.le_refl _⟩
theorem Kd.le.trans {a b c : Kd} (h : a.le b) (k : b.le c) : a.le c :=
  ⟨fun i => Nat.le_trans (h.hw i) (k.hw i), fun i j hj => (k.val i j (Nat.lt_of_lt_of_le hj (h.hw i))).trans (h.val i j hj), fun δ d g r e => k.rw δ d g r (h.rw δ d g r e), Nat.le_trans h.dp k.dp⟩
theorem Kd.In.mono {K K' : Kd} (hK : K.le K') {b o n : Nat} (h : K.In b o n) : K'.In b o n :=
  ⟨Nat.le_trans h.1 (hK.hw b), fun i hi => by rw [hK.val b (o + i) (by have := h.1; omega)]; exact h.2 i hi⟩
theorem Kd.In.drop {K : Kd} {b o n : Nat} (h : K.In b o n) (k : Nat) : K.In b (o + k) (n - k) ∨ n < k := by
  by_cases hk : k ≤ n
  · refine .inl ⟨by have := h.1; omega, fun i hi => by rw [Nat.add_assoc]; exact h.2 (k + i) (by omega)⟩
  · exact .inr (by omega)
theorem Kd.In.take {K : Kd} {b o n m : Nat} (h : K.In b o n) (hm : m ≤ n) : K.In b o m := ⟨by have := h.1; omega, fun i hi => h.2 i (by omega)⟩
theorem getq_lt {α : Type} {l : List α} {i : Nat} {x : α} (h : l[i]? = some x) : i < l.length := (List.getElem?_eq_some_iff.1 h).1
theorem KRep.mono {K K' : Kd} (hK : K.le K') {x : AV} {v : Value} (h : KRep K x v) : KRep K' x v := by
  induction h with
  | any v => exact .any v
  | int k n => exact .int k n
  | bool b => exact .bool b
  | str s => exact .str s
  | raw v h => exact .raw v h
  | cp cells b o h1 h3 ih =>
    refine .cp cells b o (h1.mono hK) (fun i x hx => ?_)
    rw [hK.val b (o + i) (by have := getq_lt hx; have := h1.1; omega)]; exact ih i x hx
  | sl0 full a cap hm hf => exact .sl0 full a cap hm hf
  | sl full n cells b o cap hn hm hf h1 h3 ih =>
    refine .sl full n cells b o cap hn hm hf (h1.mono hK) (fun i x hx => ?_)
    rw [hK.val b (o + i) (by have := getq_lt hx; have := h1.1; omega)]; exact ih i x hx
  | agg cells vs hl h1 h ih => exact .agg cells vs hl h1 ih
  | tup cells vs hl h ih => exact .tup cells vs hl ih
  | fn f caps vs hl h ih => exact .fn f caps vs hl ih
  | ow δ d g n e cells r h he hn hl hx hk ih ih2 => exact .ow δ d g n e cells r (hK.rw _ _ _ _ h) he hn hl ih ih2

theorem ofVal_rep (K : Kd) (v : Value) : KRep K (ofVal v) v := by
  unfold ofVal
  split
  · exact .int _ _
  · exact .bool _
  · exact .str _
  · exact .sl0 true none 0 (Nat.zero_le _) (fun _ => rfl)
  · exact .any _
  · exact .any _
  · rename_i h1 h2 h3 h4 h5 h6
    refine .raw _ ?_
    cases v <;> first | rfl | exact absurd rfl (h5 _) | exact absurd rfl (h6 _)

/-! ghosts -/
structure Gh where
  K : Kd
  at_ : Nat → Nat → Option (Nat × Nat)
  row : Nat → Nat → Option Row
  oth : Nat → Option Obj
structure Gh.le (G G' : Gh) : Prop where
  K : G.K.le G'.K
  at_ : ∀ d g x, G.at_ d g = some x → G'.at_ d g = some x
  row : ∀ d g x, G.row d g = some x → G'.row d g = some x
  oth : G'.oth = G.oth
theorem Gh.le.refl (G : Gh) : G.le G := ⟨.refl _, fun _ _ _ h => h, fun _ _ _ h => h, rfl⟩
theorem Gh.le.trans {a b c : Gh} (h : a.le b) (k : b.le c) : a.le c := ⟨h.K.trans k.K, fun d g x e => k.at_ d g x (h.at_ d g x e), fun d g x e => k.row d g x (h.row d g x e), k.oth.trans h.oth⟩
def KOk (K : Kd) (w : World) : Prop := ∀ b i, i < K.hw b → (∃ o : Obj, w.heap[b]? = some o ∧ o.isCells = true) ∧ ((K.val b i).oneCell' = true → w.cell? ⟨b, i, none⟩ = some (K.val b i))
theorem KOk.at_ {K : Kd} {w : World} (h : KOk K w) {b o n i : Nat} (hin : K.In b o n) (hi : i < n) : w.cell? ⟨b, o + i, none⟩ = some (K.val b (o + i)) ∧ (K.val b (o + i)).oneCell' = true :=
  ⟨(h b (o + i) (by have := hin.1; omega)).2 (hin.2 i hi), hin.2 i hi⟩
inductive SRep (G : Gh) : SV → Value → Prop
  | k (x : AV) (v : Value) (h : KRep G.K x v) : SRep G (.k x) v
  | ob (d g off b o : Nat) (h : G.at_ d g = some (b, o)) : SRep G (.ob d g off) (.pointer (some ⟨b, o + off, none⟩))
  | os (d g off n cap b o c : Nat) (h : G.at_ d g = some (b, o)) (hn : n ≤ cap) (hc : cap ≤ c) (hm : c ≤ maxLen) : SRep G (.os d g off n cap) (.slice (some ⟨b, o + off, none⟩) n c)
  | ow (d g n : Nat) (e : TypeId) (cells : List AV) (r : Row) (h : G.row d g = some r) (he : r.e = e) (hn : r.n = n) (hl : cells.length = r.xs.length)
      (hx : ∀ (i : Nat) (x : AV) (v : Value), cells[i]? = some x → r.xs[i]? = some v → KRep G.K x v) (hk : KRep G.K (.sl false n cells) r.v) : SRep G (.ow d g n e cells) r.v
  | pk (d g off n d2 g2 off2 n2 b cap b1 o1 c1 b2 o2 c2 : Nat) (hb : G.K.In b 0 2) (hc : 2 ≤ cap) (hm : cap ≤ maxLen) (h1 : G.at_ d g = some (b1, o1)) (hc1 : n ≤ c1) (hm1 : c1 ≤ maxLen) (hv1 : G.K.val b 0 = .slice (some ⟨b1, o1 + off, none⟩) n c1)
      (h2 : G.at_ d2 g2 = some (b2, o2)) (hc2 : n2 ≤ c2) (hm2 : c2 ≤ maxLen) (hv2 : G.K.val b 1 = .slice (some ⟨b2, o2 + off2, none⟩) n2 c2) : SRep G (.pk d g off n d2 g2 off2 n2) (.slice (some ⟨b, 0, none⟩) 2 cap)
theorem SRep.mono {G G' : Gh} (h : G.le G') {x : SV} {v : Value} (hr : SRep G x v) : SRep G' x v := by
  cases hr with
  | k x v hk => exact .k x v (hk.mono h.K)
  | ob d g off b o ha => exact .ob d g off b o (h.at_ _ _ _ ha)
  | os d g off n cap b o c ha hn hc hm => exact .os d g off n cap b o c (h.at_ _ _ _ ha) hn hc hm
  | ow d g n e cells r hr he hn hl hx hk => exact .ow d g n e cells r (h.row _ _ _ hr) he hn hl (fun i x v h1 h2 => (hx i x v h1 h2).mono h.K) (hk.mono h.K)
  | pk d g off n d2 g2 off2 n2 b cap b1 o1 c1 b2 o2 c2 hb hc hm h1 hc1 hm1 hv1 h2 hc2 hm2 hv2 =>
    have hb2 := hb.1
    exact .pk d g off n d2 g2 off2 n2 b cap b1 o1 c1 b2 o2 c2 (hb.mono h.K) hc hm (h.at_ _ _ _ h1) hc1 hm1 ((h.K.val b 0 (by omega)).trans hv1) (h.at_ _ _ _ h2) hc2 hm2 ((h.K.val b 1 (by omega)).trans hv2)

/-- where a walk began, and which blocks of that world it leaves as they are -/
structure Base where
  w : World
  pr : Nat → Prop
  lt : ∀ b, pr b → b < w.heap.size
structure Base.Kp (B : Base) (w : World) : Prop where
  os : w.os = B.w.os
  tape : w.tape = B.w.tape
  output : w.output = B.w.output
  size : B.w.heap.size ≤ w.heap.size
  block : ∀ b, B.pr b → w.heap[b]? = B.w.heap[b]?
theorem Base.Kp.refl (B : Base) : B.Kp B.w := ⟨rfl, rfl, rfl, Nat.le_refl _, fun _ _ => rfl⟩
theorem Base.Kp.then_ {B : Base} {w w' : World} (h : B.Kp w) (k : Below w.heap.size w w') : B.Kp w' :=
  ⟨k.os.trans h.os, k.tape.trans h.tape, k.output.trans h.output, Nat.le_trans h.size k.size, fun b hb => (k.block b (Nat.lt_of_lt_of_le (B.lt b hb) h.size)).trans (h.block b hb)⟩
theorem Base.Kp.alloc {B : Base} {w : World} (h : B.Kp w) (o : Obj) : B.Kp (w.alloc o) := h.then_ ((Below.refl _ w).alloc (Nat.le_refl _) o)
theorem Base.Kp.drew {B : Base} {w : World} (h : B.Kp w) : B.Kp w.drew := ⟨h.os, h.tape, h.output, h.size, h.block⟩
theorem Base.Kp.grown {B : Base} {w w' : World} {row : Option Nat} (h : B.Kp w) (hg : w.grownBy w' row) (hr : ∀ k, row = some k → ¬ B.pr k) : B.Kp w' :=
  ⟨hg.os.trans h.os, hg.tape.trans h.tape, hg.output.trans h.output, Nat.le_trans h.size hg.size, fun b hb => (hg.block b (Nat.lt_of_lt_of_le (B.lt b hb) h.size) (fun e => hr b e.symm hb)).trans (h.block b hb)⟩
def Base.all (w : World) : Base := ⟨w, fun b => b < w.heap.size, fun _ h => h⟩
theorem Base.Kp.below {w w' : World} (h : (Base.all w).Kp w') : Below w.heap.size w w' := ⟨h.os, h.tape, h.output, h.size, h.block⟩
def entBlk (G : Gh) (d g : Nat) : Ent → Option Nat
  | .obj _ => (G.at_ d g).map (·.1)
  | .fz _ => none
  | .tag => (G.row d g).bind (·.v.ownBlock)
def EntOk (G : Gh) (B : Base) (w : World) (d g : Nat) : Ent → Prop
  | .obj cells => ∃ (b o : Nat) (arr : Array Value) (ty : TypeId), G.at_ d g = some (b, o) ∧ ¬ B.pr b ∧ w.heap[b]? = some (.cells arr ty (0, 0)) ∧ G.K.hw b = 0 ∧ o + cells.length ≤ arr.size ∧
      (∀ (i : Nat) (v : Value), i < cells.length → arr[o + i]? = some v → v.oneCell' = true) ∧ ∀ (i : Nat) (x : AV) (v : Value), cells[i]? = some x → arr[o + i]? = some v → KRep G.K x v
  | .fz cells => ∃ b o : Nat, G.at_ d g = some (b, o) ∧ G.K.In b o cells.length ∧ ∀ (i : Nat) (x : AV), cells[i]? = some x → KRep G.K x (G.K.val b (o + i))
  | .tag => ∃ r : Row, G.row d g = some r ∧ w.ownsRow 0 r.e r.size r.v r.n r.xs ∧ (∀ b, r.v.ownBlock = some b → ¬ B.pr b ∧ G.K.hw b = r.n * r.size ∧ ∀ (i : Nat) (x : Value), r.xs[i]? = some x → G.K.val b i = x) ∧ ∀ x ∈ r.xs, x.oneCell' = true
structure Gh.lo (G G' : Gh) : Prop where
  K : G.K.le G'.K
  at_ : ∀ d g x, G.at_ d g = some x → G'.at_ d g = some x
  row : ∀ d g x, G.row d g = some x → G'.row d g = some x
  oth : ∀ b o, G.oth b = some o → G'.oth b = some o
theorem Gh.lo.refl (G : Gh) : G.lo G := ⟨.refl _, fun _ _ _ h => h, fun _ _ _ h => h, fun _ _ h => h⟩
theorem Gh.le.lo {G G' : Gh} (h : G.le G') : G.lo G' := ⟨h.K, h.at_, h.row, fun b o e => by rw [h.oth]; exact e⟩
theorem Gh.lo.trans {a b c : Gh} (h : a.lo b) (k : b.lo c) : a.lo c := ⟨h.K.trans k.K, fun d g x e => k.at_ d g x (h.at_ d g x e), fun d g x e => k.row d g x (h.row d g x e), fun b o e => k.oth b o (h.oth b o e)⟩
/-- where a walk began: the kinds, and the ghosts -/
structure Anc where
  K : Kd
  G : Gh
/-- the marks that loops over functions have left -/
def Mks (w0 : Base) (G : Gh) (ds : List Deferred) : Prop := ∃ l : List Nat, l.Nodup ∧ ds = l.map (fun D => { target := .collected D, args := #[] }) ∧ ∀ D ∈ l, ¬ w0.pr D ∧ G.oth D = some (.deferred (some []))
theorem Mks.nil (w0 : Base) (G : Gh) : Mks w0 G [] := ⟨[], .nil, rfl, fun D h => by cases h⟩
structure Real (P : Program) (w0 : Base) (K0 : Anc) (G : Gh) (us : Nat → Prop) (s : St) (a : Act) (w : World) : Prop where
  below : w0.Kp w
  kok : KOk G.K w
  slots : ∀ t, SRep G (s.fr t) (a.tmps.getD t undef)
  ents : ∀ d g e, s.tb d = some (g, e) → EntOk G w0 w d g e
  dist : ∀ d1 g1 e1 d2 g2 e2 b, s.tb d1 = some (g1, e1) → s.tb d2 = some (g2, e2) → entBlk G d1 g1 e1 = some b → entBlk G d2 g2 e2 = some b → d1 = d2
  fresh : ∀ d g, ¬ us g → G.at_ d g = none ∧ G.row d g = none
  defers : Mks w0 G a.defers
  rows : ∀ d g r, G.row d g = some r → r.size = (tiOf P r.e).sz
  offs : ∀ d g b o, G.at_ d g = some (b, o) → o = 0
  kle : K0.K.le G.K
  kold : ∀ b, w0.pr b → G.K.hw b = K0.K.hw b
  oth : ∀ (b : Nat) (o : Obj), G.oth b = some o → w.heap[b]? = some o ∧ o.isCells = false
  krw : ∀ d g, G.K.rw s.md.dp d g = G.row d g
  dpl : s.md.dp < G.K.dp
  dp0 : K0.K.dp ≤ s.md.dp
  kro : ∀ δ, δ < K0.K.dp → ∀ d g, G.K.rw δ d g = K0.K.rw δ d g
  gle : K0.G.lo G

/-- an entry stays good where its block stays -/
theorem EntOk.carry {G G' : Gh} {B : Base} {w w' : World} {d g : Nat} {e : Ent} (h : EntOk G B w d g e) (hG : G.le G')
    (hb : ∀ b, entBlk G d g e = some b → w'.heap[b]? = w.heap[b]? ∧ G'.K.hw b = G.K.hw b) : EntOk G' B w' d g e := by
  cases e with
  | obj cells =>
    obtain ⟨b, o, arr, ty, h1, h2, h3, h4, h5, h6, h7⟩ := h
    obtain ⟨k1, k2⟩ := hb b (by simp [entBlk, h1])
    exact ⟨b, o, arr, ty, hG.at_ _ _ _ h1, h2, k1.trans h3, k2.trans h4, h5, h6, fun i x v e1 e2 => (h7 i x v e1 e2).mono hG.K⟩
  | fz cells =>
    obtain ⟨b, o, h1, h2, h3⟩ := h
    refine ⟨b, o, hG.at_ _ _ _ h1, h2.mono hG.K, fun i x hx => ?_⟩
    rw [hG.K.val b (o + i) (by have := getq_lt hx; have := h2.1; omega)]
    exact (h3 i x hx).mono hG.K
  | tag =>
    obtain ⟨r, h1, h2, h3, h4⟩ := h
    refine ⟨r, hG.row _ _ _ h1, ?_, ?_, h4⟩
    · obtain ⟨l1, l2⟩ := h2
      refine ⟨l1, ?_⟩
      rcases l2 with l2 | ⟨gb, cap, cur, e1, e2, e3, e4⟩
      · exact .inl l2
      · refine .inr ⟨gb, cap, cur, e1, e2, ?_, e4⟩
        rw [(hb gb (by simp [entBlk, h1, e1, Value.ownBlock])).1]; exact e3
    · intro b hb'
      obtain ⟨k0, k1, k2⟩ := h3 b hb'
      have := hb b (by simp [entBlk, h1, hb'])
      refine ⟨k0, this.2.trans k1, fun i x hx => ?_⟩
      rw [hG.K.val b i ?_]
      · exact k2 i x hx
      · rw [k1, ← h2.1]; exact getq_lt hx
theorem entBlk_le {G G' : Gh} (hG : G.le G') {B : Base} {w : World} {d g : Nat} {e : Ent} (h : EntOk G B w d g e) : entBlk G' d g e = entBlk G d g e := by
  cases e with
  | obj cells =>
    obtain ⟨b, o, arr, ty, h1, _⟩ := h
    simp [entBlk, h1, hG.at_ _ _ _ h1]
  | fz cells => rfl
  | tag =>
    obtain ⟨r, h1, _⟩ := h
    simp [entBlk, h1, hG.row _ _ _ h1]
theorem EntOk.base {G : Gh} {B : Base} {w : World} {d g : Nat} {e : Ent} (h : EntOk G B w d g e) {b : Nat} (hb : entBlk G d g e = some b) : ¬ B.pr b ∧ b < w.heap.size := by
  cases e with
  | obj cells =>
    obtain ⟨b', o, arr, ty, h1, h2, h3, _⟩ := h
    simp [entBlk, h1] at hb
    subst hb
    exact ⟨h2, (Array.getElem?_eq_some_iff.1 h3).1⟩
  | fz cells => simp [entBlk] at hb
  | tag =>
    obtain ⟨r, h1, h2, h3, _⟩ := h
    simp [entBlk, h1] at hb
    exact ⟨(h3 b hb).1, (World.ownsRow.lt h2 b hb).2⟩

section
variable {P : Program} {w0 : Base} {w w' : World} {K0 : Anc} {G G' : Gh} {us us' : Nat → Prop} {s : St} {a : Act}
theorem Real.put (h : Real P w0 K0 G us s a w) (d : Option Nat) (x : SV) (v : Value) (hx : SRep G x v) (hd : ∀ t, d = some t → t < a.tmps.size) : Real P w0 K0 G us (s.put d x) (a.put d v) w := by
  cases d with
  | none => exact h
  | some d =>
    refine ⟨h.below, h.kok, fun t => ?_, h.ents, h.dist, h.fresh, h.defers, h.rows, h.offs, h.kle, h.kold, h.oth, h.krw, h.dpl, h.dp0, h.kro, h.gle⟩
    by_cases e : t = d
    · subst e
      have := hd t rfl
      simp only [St.put, upd_same, Act.put]
      rw [show (a.tmps.setIfInBounds t v).getD t undef = v by simp [Array.getD, this]]
      exact hx
    · simp only [St.put, Act.put]
      rw [upd_ne _ _ _ _ e, show (a.tmps.setIfInBounds d v).getD t undef = a.tmps.getD t undef by
        rw [Array.getD_eq_getD_getElem?, Array.getD_eq_getD_getElem?, Array.getElem?_setIfInBounds_ne (Ne.symm e)]]
      exact h.slots t
/-- the world goes on: one entry may turn, the others stay -/
theorem Real.go (h : Real P w0 K0 G us s a w) (hb : w0.Kp w') (hG : G.le G') (hk : KOk G'.K w') (hu : ∀ g, us g → us' g) (hnc : ∀ (b : Nat) (o : Obj), w.heap[b]? = some o → o.isCells = false → w'.heap[b]? = some o) (hrw : (∀ d g, G'.K.rw s.md.dp d g = G'.row d g) ∧ ∀ δ, δ < K0.K.dp → ∀ d g, G'.K.rw δ d g = G.K.rw δ d g)
    (hf : ∀ d g, ¬ us' g → G'.at_ d g = none ∧ G'.row d g = none) (hrows : ∀ d g r, G'.row d g = some r → r.size = (tiOf P r.e).sz) (hoff : ∀ d g b o, G'.at_ d g = some (b, o) → o = 0) (hko : ∀ b, w0.pr b → G'.K.hw b = G.K.hw b)
    (hs : ∀ d g e, s.tb d = some (g, e) → ∀ b, entBlk G d g e = some b → w'.heap[b]? = w.heap[b]? ∧ G'.K.hw b = G.K.hw b) : Real P w0 K0 G' us' s a w' := by
  refine ⟨hb, hk, fun t => (h.slots t).mono hG, fun d g e he => (h.ents d g e he).carry hG (hs d g e he), ?_, hf, (by obtain ⟨l, h1, h2, h3⟩ := h.defers; exact ⟨l, h1, h2, by rw [hG.oth]; exact h3⟩), hrows, hoff, h.kle.trans hG.K, fun b hb => (hko b hb).trans (h.kold b hb), fun b o hb => by rw [hG.oth] at hb; exact ⟨hnc b o (h.oth b o hb).1 (h.oth b o hb).2, (h.oth b o hb).2⟩, hrw.1, Nat.lt_of_lt_of_le h.dpl hG.K.dp, h.dp0, fun δ hδ d g => (hrw.2 δ hδ d g).trans (h.kro δ hδ d g), h.gle.trans hG.lo⟩
  intro d1 g1 e1 d2 g2 e2 b h1 h2 k1 k2
  rw [entBlk_le hG (h.ents _ _ _ h1)] at k1
  rw [entBlk_le hG (h.ents _ _ _ h2)] at k2
  exact h.dist d1 g1 e1 d2 g2 e2 b h1 h2 k1 k2
/-- an entry is set anew, at a block that no other entry has -/
theorem Real.set (h : Real P w0 K0 G us s a w) (d : Nat) (x : Option (Nat × Ent)) (hx : ∀ g e, x = some (g, e) → EntOk G w0 w d g e ∧
      ∀ b, entBlk G d g e = some b → ∀ d' g' e', d' ≠ d → s.tb d' = some (g', e') → entBlk G d' g' e' ≠ some b) : Real P w0 K0 G us (s.set d x) a w := by
  refine ⟨h.below, h.kok, h.slots, ?_, ?_, h.fresh, h.defers, h.rows, h.offs, h.kle, h.kold, h.oth, h.krw, h.dpl, h.dp0, h.kro, h.gle⟩
  · intro d' g e he
    by_cases hd : d' = d
    · subst hd
      simp only [St.set, upd_same] at he
      exact (hx g e he).1
    · simp only [St.set] at he
      rw [upd_ne _ _ _ _ hd] at he
      exact h.ents d' g e he
  · intro d1 g1 e1 d2 g2 e2 b h1 h2 k1 k2
    simp only [St.set] at h1 h2
    by_cases hd1 : d1 = d
    · by_cases hd2 : d2 = d
      · rw [hd1, hd2]
      · subst hd1
        rw [upd_same] at h1
        rw [upd_ne _ _ _ _ hd2] at h2
        exact absurd k2 ((hx g1 e1 h1).2 b k1 d2 g2 e2 hd2 h2)
    · rw [upd_ne _ _ _ _ hd1] at h1
      by_cases hd2 : d2 = d
      · subst hd2
        rw [upd_same] at h2
        exact absurd k1 ((hx g2 e2 h2).2 b k2 d1 g1 e1 hd1 h1)
      · rw [upd_ne _ _ _ _ hd2] at h2
        exact h.dist d1 g1 e1 d2 g2 e2 b h1 h2 k1 k2
theorem Real.us_mono (h : Real P w0 K0 G us s a w) (hu : ∀ g, us g → us' g) : Real P w0 K0 G us' s a w :=
  ⟨h.below, h.kok, h.slots, h.ents, h.dist, fun d g hn => h.fresh d g fun hc => hn (hu g hc), h.defers, h.rows, h.offs, h.kle, h.kold, h.oth, h.krw, h.dpl, h.dp0, h.kro, h.gle⟩
end

end Go.Proofs.Ytikganlbnhapcaa

namespace Go.Proofs.Ytikganlbnhapcaa
open Go.RowKit
set_option linter.unusedVariables false
set_option linter.unusedSimpArgs false

theorem cell_lt {w : World} {p : Addr} {x : Value} (h : w.cell? p = some x) : p.block < w.heap.size := by
  unfold World.cell? at h
  by_cases hb : p.block < w.heap.size
  · exact hb
  · simp [Array.getElem?_eq_none (by omega : w.heap.size ≤ p.block)] at h
theorem KOk.lt {K : Kd} {w : World} (h : KOk K w) {b i : Nat} (hi : i < K.hw b) : b < w.heap.size := by
  obtain ⟨o, h1, _⟩ := (h b i hi).1
  exact (Array.getElem?_eq_some_iff.1 h1).1
theorem KOk.hw0 {K : Kd} {w : World} (h : KOk K w) {b : Nat} (hb : w.heap.size ≤ b) : K.hw b = 0 := by
  by_cases h0 : K.hw b = 0
  · exact h0
  · have := h.lt (b := b) (i := 0) (by omega); omega
/-- the old blocks are as they were: what never turns reads on -/
theorem KOk.below {K : Kd} {w w' : World} (h : KOk K w) (hb : ∀ b, K.hw b ≠ 0 → w'.heap[b]? = w.heap[b]?) : KOk K w' := fun b i hi => by
  have := h b i hi
  rw [World.cell?_of_block (a := ⟨b, i, none⟩) (hb b (by omega)), hb b (by omega)]; exact this
def Gh.addAt (G : Gh) (d g : Nat) (x : Nat × Nat) : Gh := ⟨G.K, fun d' g' => if d' = d ∧ g' = g then some x else G.at_ d' g', G.row, G.oth⟩
def Kd.addRw (K : Kd) (δ d g : Nat) (r : Row) (h : δ < K.dp) : Kd := ⟨K.val, K.hw, fun δ' d' g' => if δ' = δ ∧ d' = d ∧ g' = g then some r else K.rw δ' d' g', K.dp, fun δ' d' g' h' => by rw [if_neg (fun e => by omega)]; exact K.fr δ' d' g' h'⟩
theorem Kd.addRw_le {K : Kd} {δ d g : Nat} {r : Row} {h : δ < K.dp} (hn : K.rw δ d g = none) : K.le (K.addRw δ d g r h) := by
  refine ⟨fun _ => Nat.le_refl _, fun _ _ _ => rfl, fun δ' d' g' r' e => ?_, Nat.le_refl _⟩
  show (if δ' = δ ∧ d' = d ∧ g' = g then some r else K.rw δ' d' g') = some r'
  split
  · rename_i q; obtain ⟨rfl, rfl, rfl⟩ := q; rw [hn] at e; cases e
  · exact e
def Gh.addRow (G : Gh) (δ d g : Nat) (r : Row) (h : δ < G.K.dp) : Gh := ⟨G.K.addRw δ d g r h, G.at_, fun d' g' => if d' = d ∧ g' = g then some r else G.row d' g', G.oth⟩
def Gh.withK (G : Gh) (K : Kd) : Gh := ⟨K, G.at_, G.row, G.oth⟩
theorem Gh.addAt_le {G : Gh} {d g : Nat} {x : Nat × Nat} (h : G.at_ d g = none) : G.le (G.addAt d g x) := by
  refine ⟨.refl _, fun d' g' y hy => ?_, fun _ _ _ h => h, rfl⟩
  show (if d' = d ∧ g' = g then some x else G.at_ d' g') = some y
  split
  · rename_i e; rw [e.1, e.2, h] at hy; cases hy
  · exact hy
theorem Gh.addRow_le {G : Gh} {δ d g : Nat} {r : Row} {hδ : δ < G.K.dp} (h : G.row d g = none) (hk : G.K.rw δ d g = none) : G.le (G.addRow δ d g r hδ) := by
  refine ⟨Kd.addRw_le (h := hδ) hk, fun _ _ _ h => h, fun d' g' y hy => ?_, rfl⟩
  show (if d' = d ∧ g' = g then some r else G.row d' g') = some y
  split
  · rename_i e; rw [e.1, e.2, h] at hy; cases hy
  · exact hy
theorem Gh.withK_le {G : Gh} {K : Kd} (h : G.K.le K) : G.le (G.withK K) := ⟨h, fun _ _ _ h => h, fun _ _ _ h => h, rfl⟩
/-- a block's first cells are as they will be for ever -/
def Kd.ext (K : Kd) (b n : Nat) (xs : List Value) : Kd := ⟨fun b' i => if b' = b then xs.getD i undef else K.val b' i, fun b' => if b' = b then n else K.hw b', K.rw, K.dp, K.fr⟩
theorem Kd.ext_le {K : Kd} {b n : Nat} {xs : List Value} (hn : K.hw b ≤ n) (hv : ∀ i, i < K.hw b → xs.getD i undef = K.val b i) : K.le (K.ext b n xs) := by
  refine ⟨fun b' => ?_, fun b' i hi => ?_, fun _ _ _ _ h => h, Nat.le_refl _⟩
  · show K.hw b' ≤ if b' = b then n else K.hw b'
    split
    · rename_i e; rw [e]; exact hn
    · exact Nat.le_refl _
  · show (if b' = b then xs.getD i undef else K.val b' i) = K.val b' i
    split
    · rename_i e; rw [e]; rw [e] at hi; exact hv i hi
    · rfl
theorem KOk.ext {K : Kd} {w : World} {b n : Nat} {xs : List Value} (h : KOk K w) (hn : n ≤ xs.length) (h1 : ∀ x ∈ xs, x.oneCell' = true) (hc : ∀ i, i < n → w.cell? ⟨b, i, none⟩ = some (xs.getD i undef)) : KOk (K.ext b n xs) w := by
  intro b' i hi
  by_cases e : b' = b
  · subst e
    have hi' : i < n := by simpa [Kd.ext] using hi
    have : (K.ext b' n xs).val b' i = xs.getD i undef := by simp [Kd.ext]
    rw [this]
    exact ⟨cells_of_cell (hc i hi'), fun _ => hc i hi'⟩
  · have hi' : i < K.hw b' := by simpa [Kd.ext, e] using hi
    have : (K.ext b n xs).val b' i = K.val b' i := by simp [Kd.ext, e]
    rw [this]; exact h b' i hi'

theorem St.set_set (s : St) (d : Nat) (x y : Option (Nat × Ent)) : (s.set d x).set d y = s.set d y := by
  show (⟨s.fr, upd (upd s.tb d x) d y, s.nx, s.md⟩ : St) = ⟨s.fr, upd s.tb d y, s.nx, s.md⟩
  congr 1
  funext t
  by_cases ht : t = d
  · subst ht; rw [upd_same, upd_same]
  · rw [upd_ne _ _ _ _ ht, upd_ne _ _ _ _ ht, upd_ne _ _ _ _ ht]

section
variable {P : Program} {w0 : Base} {w w' : World} {K0 : Anc} {G : Gh} {us : Nat → Prop} {s : St} {a : Act}
theorem Real.size (h : Real P w0 K0 G us s a w) : w0.w.heap.size ≤ w.heap.size := h.below.size
theorem Base.new {B : Base} {w : World} (h : B.Kp w) {b : Nat} (hb : w.heap.size ≤ b) : ¬ B.pr b := fun hc => by
  have := B.lt b hc; have := h.size; omega
theorem Real.hw_live (h : Real P w0 K0 G us s a w) {d g : Nat} {e : Ent} (he : s.tb d = some (g, e)) {b : Nat} (hb : entBlk G d g e = some b) : b < w.heap.size := ((h.ents d g e he).base hb).2

/-- a new block whose first cells are an object -/
theorem Real.newBig (h : Real P w0 K0 G us s a w) (d γ : Nat) (hu : ¬ us γ) (cells : List AV) (arr : Array Value) (ty : TypeId) (hl : cells.length ≤ arr.size) (h1 : ∀ (i : Nat) (v : Value), i < cells.length → arr[i]? = some v → v.oneCell' = true)
    (hr : ∀ (i : Nat) (x : AV) (v : Value), cells[i]? = some x → arr[i]? = some v → KRep G.K x v) :
    ∃ G', G.le G' ∧ G'.K = G.K ∧ G'.at_ d γ = some (w.heap.size, 0) ∧ Real P w0 K0 G' (fun g => us g ∨ g = γ) (s.set d (some (γ, .obj cells))) a (w.alloc (.cells arr ty)) := by
  have hat : (G.addAt d γ (w.heap.size, 0)).at_ d γ = some (w.heap.size, 0) := by simp [Gh.addAt]
  have hle := Gh.addAt_le (x := (w.heap.size, 0)) (h.fresh d γ hu).1
  have hgo := h.go (us' := fun g => us g ∨ g = γ) (h.below.alloc (.cells arr ty)) hle (h.kok.below fun b hb => Below.heap_alloc w _ b (by
      refine Decidable.byContradiction fun hc => hb (h.kok.hw0 (by omega)))) (fun g hg => .inl hg) (fun b o hb _ => (Below.heap_alloc w _ b (Array.getElem?_eq_some_iff.1 hb).1).trans hb) ⟨h.krw, fun _ _ _ _ => rfl⟩ (fun d' g' hn => by
      have := h.fresh d' g' (fun hc => hn (.inl hc))
      refine ⟨?_, this.2⟩
      show (if d' = d ∧ g' = γ then some (w.heap.size, 0) else G.at_ d' g') = none
      rw [if_neg (fun hc => hn (.inr hc.2))]; exact this.1) h.rows (fun d' g' b' o' hb' => by
      by_cases hq : d' = d ∧ g' = γ
      · obtain ⟨rfl, rfl⟩ := hq
        rw [hat] at hb'; injection hb' with hb'; injection hb' with q1 q2; exact q2.symm
      · refine h.offs d' g' b' o' ?_
        have hr2 : (if d' = d ∧ g' = γ then _ else G.at_ d' g') = some (b', o') := hb'
        rwa [if_neg hq] at hr2) (fun b _ => rfl) (fun d' g' e he b hb => ⟨Below.heap_alloc w _ b (h.hw_live he hb), rfl⟩)
  refine ⟨_, hle, rfl, hat, hgo.set d _ ?_⟩
  intro g e hx
  injection hx with hx
  injection hx with e1 e2
  subst e1 e2
  refine ⟨⟨w.heap.size, 0, arr, ty, hat, Base.new h.below (Nat.le_refl _), heap_alloc_new w _, h.kok.hw0 (Nat.le_refl _), by omega, fun i v hi hv => ?_, fun i x v hx hv => ?_⟩, ?_⟩
  · rw [Nat.zero_add] at hv; exact h1 i v hi hv
  · rw [Nat.zero_add] at hv; exact hr i x v hx hv
  · intro b hb d' g' e' hd he' hc
    simp [entBlk, hat] at hb
    rw [entBlk_le hle (h.ents _ _ _ he')] at hc
    have := h.hw_live he' hc
    omega
/-- a new block that is an object -/
theorem Real.newObj (h : Real P w0 K0 G us s a w) (d γ : Nat) (hu : ¬ us γ) (cells : List AV) (arr : Array Value) (ty : TypeId) (hl : arr.size = cells.length) (h1 : ∀ (i : Nat) (v : Value), arr[i]? = some v → v.oneCell' = true)
    (hr : ∀ (i : Nat) (x : AV) (v : Value), cells[i]? = some x → arr[i]? = some v → KRep G.K x v) :
    ∃ G', G.le G' ∧ G'.K = G.K ∧ G'.at_ d γ = some (w.heap.size, 0) ∧ Real P w0 K0 G' (fun g => us g ∨ g = γ) (s.set d (some (γ, .obj cells))) a (w.alloc (.cells arr ty)) :=
  h.newBig d γ hu cells arr ty (by omega) (fun i v _ hv => h1 i v hv) hr
/-- an object's cells turn -/
theorem Real.turnObj (h : Real P w0 K0 G us s a w) {d g : Nat} {cells : List AV} (he : s.tb d = some (g, .obj cells)) (cells' : List AV) (b o : Nat) (arr arr' : Array Value) (ty : TypeId) (hat : G.at_ d g = some (b, o)) (hg : w.heap[b]? = some (.cells arr ty (0, 0)))
    (hs : arr'.size = arr.size) (hl : cells'.length = cells.length) (h1 : ∀ (i : Nat) (v : Value), i < cells'.length → arr'[o + i]? = some v → v.oneCell' = true)
    (hr : ∀ (i : Nat) (x : AV) (v : Value), cells'[i]? = some x → arr'[o + i]? = some v → KRep G.K x v) :
    Real P w0 K0 G us (s.set d (some (g, .obj cells'))) a (w.setRow b arr') := by
  obtain ⟨b', o', arr0, ty0, k1, k2, k3, k4, k5, k6, k7⟩ := h.ents d g _ he
  rw [hat] at k1
  injection k1 with k1
  injection k1 with e1 e2
  subst e1 e2
  rw [hg] at k3
  injection k3 with k3
  injection k3 with e1 e2 e3
  subst e1 e2
  have hother : ∀ k, k ≠ b → (w.setRow b arr').heap[k]? = w.heap[k]? := fun k hk => setRow_other w b k _ hk
  have hbelow : w0.Kp (w.setRow b arr') :=
    ⟨h.below.os, h.below.tape, h.below.output, by have := h.below.size; simpa [World.setRow] using this, fun k hk => (hother k (fun e => k2 (e ▸ hk))).trans (h.below.block k hk)⟩
  have hk : KOk G.K (w.setRow b arr') := h.kok.below fun b' hb' => hother b' fun e => hb' (e ▸ k4)
  refine ⟨hbelow, hk, h.slots, ?_, ?_, h.fresh, h.defers, h.rows, h.offs, h.kle, h.kold, fun bb o ho => ⟨(hother bb (fun e => by have := (h.oth bb o ho); rw [e, hg] at this; obtain ⟨q1, q2⟩ := this; injection q1 with q1; subst q1; cases q2)).trans (h.oth bb o ho).1, (h.oth bb o ho).2⟩, h.krw, h.dpl, h.dp0, h.kro, h.gle⟩
  · intro d' g' e' he'
    by_cases hd : d' = d
    · subst hd
      simp only [St.set, upd_same] at he'
      injection he' with he'
      injection he' with e1 e2
      subst e1 e2
      exact ⟨b, o, arr', ty, hat, k2, setRow_heap w b arr arr' ty _ hg, k4, by omega, h1, hr⟩
    · simp only [St.set] at he'
      rw [upd_ne _ _ _ _ hd] at he'
      refine (h.ents d' g' e' he').carry (.refl G) fun b' hb' => ⟨hother b' fun e => hd ?_, rfl⟩
      exact h.dist d' g' e' d g _ b he' he (e ▸ hb') (by simp [entBlk, hat])
  · intro d1 g1 e1 d2 g2 e2 bb h1' h2' c1 c2
    have conv : ∀ d3 g3 e3, (s.set d (some (g, .obj cells'))).tb d3 = some (g3, e3) → entBlk G d3 g3 e3 = some bb → ∃ e4, s.tb d3 = some (g3, e4) ∧ entBlk G d3 g3 e4 = some bb := by
      intro d3 g3 e3 q1 q2
      by_cases hd : d3 = d
      · subst hd
        simp only [St.set, upd_same] at q1
        injection q1 with q1
        injection q1 with f1 f2
        subst f1 f2
        exact ⟨_, he, q2⟩
      · simp only [St.set] at q1
        rw [upd_ne _ _ _ _ hd] at q1
        exact ⟨e3, q1, q2⟩
    obtain ⟨e3, q1, q2⟩ := conv _ _ _ h1' c1
    obtain ⟨e4, q3, q4⟩ := conv _ _ _ h2' c2
    exact h.dist d1 g1 e3 d2 g2 e4 bb q1 q3 q2 q4
/-- a growing slice of one's own: made, or grown out of nothing, or out of an elder one (whose right to grow is gone with it) -/
theorem Real.newRow (h : Real P w0 K0 G us s a w) (d γ : Nat) (hu : ¬ us γ) (e size n : Nat) (v' : Value) (xs : List Value) (cells : List AV) (hsz : size = (tiOf P e).sz) (hown : w'.ownsRow 0 e size v' n xs) (hnp : ∀ b, v'.ownBlock = some b → ¬ w0.pr b) (row : Option Nat) (hgr : w.grownBy w' row)
    (hrow : ∀ b, row = some b → ¬ w0.pr b) (hrc : ∀ (b : Nat) (o : Obj), row = some b → w.heap[b]? = some o → o.isCells = true) (hdead : ∀ b, row = some b → ∀ d' g' e', d' ≠ d → s.tb d' = some (g', e') → entBlk G d' g' e' ≠ some b)
    (hdead2 : ∀ b, row = some b → ∀ g' e', s.tb d = some (g', e') → entBlk G d g' e' ≠ some b)
    (hv : ∀ b, v'.ownBlock = some b → row = some b ∨ (G.K.hw b = 0 ∧ ∀ d' g' e', d' ≠ d → s.tb d' = some (g', e') → entBlk G d' g' e' ≠ some b)) (hpre : ∀ b, row = some b → v'.ownBlock ≠ row → G.K.hw b = 0 ∨ w'.heap[b]? = w.heap[b]?)
    (hpre2 : ∀ b, row = some b → v'.ownBlock = row → G.K.hw b ≤ n * size ∧ ∀ i, i < G.K.hw b → xs.getD i undef = G.K.val b i)
    (h1 : ∀ x ∈ xs, x.oneCell' = true) (hl : cells.length = xs.length) (hr : ∀ (i : Nat) (x : AV) (v : Value), cells[i]? = some x → xs[i]? = some v → KRep G.K x v) :
    ∃ G', G.le G' ∧ SRep G' (.ow d γ n e cells) v' ∧ Real P w0 K0 G' (fun g => us g ∨ g = γ) (s.set d (some (γ, .tag))) a w' := by
  have hxl := hown.1
  have hbel : w0.Kp w' := h.below.grown hgr (fun k hk => hrow k hk)
  have hkeep : ∀ b, b < w.heap.size → some b ≠ row → w'.heap[b]? = w.heap[b]? := hgr.block
  rcases hown.2 with ⟨rfl, rfl⟩ | ⟨g, cap, cur, rfl, hbg, hg, hnc, hcm, hcs, htake⟩
  · -- the nil slice
    have hx0 : xs = [] := List.eq_nil_of_length_eq_zero (by simpa using hxl)
    subst hx0
    have hc0 : cells = [] := List.eq_nil_of_length_eq_zero (by simpa using hl)
    subst hc0
    have hkn : G.K.rw s.md.dp d γ = none := (h.krw d γ).trans (h.fresh d γ hu).2
    have hle := Gh.addRow_le (hδ := h.dpl) (r := ⟨e, size, .slice none 0 0, 0, []⟩) (h.fresh d γ hu).2 hkn
    have hk : KOk G.K w' := h.kok.below fun b hb => by
      have hlt : b < w.heap.size := Decidable.byContradiction fun hc => hb (h.kok.hw0 (by omega))
      by_cases er : some b = row
      · rcases hpre b er.symm (by rw [← er]; simp [Value.ownBlock]) with q | q
        · exact absurd q hb
        · exact q
      · exact hkeep b hlt er
    have hrw : (G.addRow s.md.dp d γ ⟨e, size, .slice none 0 0, 0, []⟩ h.dpl).row d γ = some ⟨e, size, .slice none 0 0, 0, []⟩ := by simp [Gh.addRow]
    have hlive : ∀ d' g' e', d' ≠ d → s.tb d' = some (g', e') → ∀ b, entBlk G d' g' e' = some b → w'.heap[b]? = w.heap[b]? ∧ (G.addRow s.md.dp d γ ⟨e, size, .slice none 0 0, 0, []⟩ h.dpl).K.hw b = G.K.hw b :=
      fun d' g' e' hd he' b hb => ⟨hkeep b (h.hw_live he' hb) fun er => hdead b er.symm d' g' e' hd he' hb, rfl⟩
    refine ⟨_, hle, .ow d γ 0 e [] ⟨e, size, .slice none 0 0, 0, []⟩ hrw rfl rfl rfl (fun i x v hx => by simp at hx) (.sl0 _ _ _ (Nat.zero_le _) (fun hc => by cases hc)), ?_⟩
    have hno : Real P w0 K0 G us (s.set d none) a w := h.set d none (fun g e hx => by cases hx)
    have hgo := hno.go (us' := fun g => us g ∨ g = γ) hbel hle hk (fun g hg => .inl hg) (fun b o hb ho => (hgr.block b (Array.getElem?_eq_some_iff.1 hb).1 (fun e => by rw [hrc b o e.symm hb] at ho; cases ho)).trans hb) ⟨fun d' g' => by
        show (if s.md.dp = s.md.dp ∧ d' = d ∧ g' = γ then _ else G.K.rw s.md.dp d' g') = if d' = d ∧ g' = γ then _ else G.row d' g'
        by_cases q : d' = d ∧ g' = γ
        · rw [if_pos ⟨rfl, q⟩, if_pos q]
        · rw [if_neg (fun c => q c.2), if_neg q]; exact h.krw d' g', fun δ hδ d' g' => by
        show (if δ = s.md.dp ∧ d' = d ∧ g' = γ then _ else G.K.rw δ d' g') = G.K.rw δ d' g'
        rw [if_neg (fun c => by have := h.dp0; omega)]⟩ (fun d' g' hn => by
      have := h.fresh d' g' (fun hc => hn (.inl hc))
      refine ⟨this.1, ?_⟩
      show (if d' = d ∧ g' = γ then some _ else G.row d' g') = none
      rw [if_neg (fun hc => hn (.inr hc.2))]; exact this.2) (fun d' g' r' hr' => by
        by_cases hq : d' = d ∧ g' = γ
        · obtain ⟨rfl, rfl⟩ := hq
          rw [hrw] at hr'; injection hr' with hr'; subst hr'; exact hsz
        · refine h.rows d' g' r' ?_
          have hr2 : (if d' = d ∧ g' = γ then _ else G.row d' g') = some r' := hr'
          rwa [if_neg hq] at hr2) h.offs (fun b _ => rfl) (fun d' g' e' he' b hb => by
        by_cases hd : d' = d
        · subst hd; simp [St.set, upd_same] at he'
        · simp only [St.set] at he'
          rw [upd_ne _ _ _ _ hd] at he'
          exact hlive d' g' e' hd he' b hb)
    have hset := hgo.set d (some (γ, .tag)) (fun g e' hx => by
      injection hx with hx
      injection hx with e1 e2
      subst e1 e2
      refine ⟨⟨_, hrw, ⟨hxl, .inl ⟨rfl, rfl⟩⟩, fun b hb => by simp [Value.ownBlock] at hb, fun x hx => by cases hx⟩, fun b hb => by simp [entBlk, hrw, Value.ownBlock] at hb⟩)
    rwa [St.set_set] at hset
  · -- a block
    have hgb := hv g rfl
    have hcell : ∀ i, i < n * size → w'.cell? ⟨g, i, none⟩ = some (xs.getD i undef) := fun i hi => by
      rw [cell_of_row w' g i cur e _ hg]
      have hi2 : i < cur.size := by rw [hcs]; have := Nat.mul_le_mul_right size hnc; omega
      have hi3 : i < xs.length := by omega
      rw [← htake]
      simp [List.getD, hi, hi2]
    have hhw : G.K.hw g ≤ n * size ∧ ∀ i, i < G.K.hw g → xs.getD i undef = G.K.val g i := by
      rcases hgb with q | ⟨q, _⟩
      · exact hpre2 g q (by simp [Value.ownBlock, q])
      · rw [q]; exact ⟨Nat.zero_le _, fun i hi => by omega⟩
    have hKle : G.K.le (G.K.ext g (n * size) xs) := Kd.ext_le hhw.1 hhw.2
    -- all that stood reads on in the new world
    have hk0 : ∀ b, b ≠ g → G.K.hw b ≠ 0 → w'.heap[b]? = w.heap[b]? := fun b hbg' hb => by
      have hlt : b < w.heap.size := Decidable.byContradiction fun hc => hb (h.kok.hw0 (by omega))
      by_cases er : some b = row
      · rcases hgb with q | q
        · rw [q] at er; injection er with er; exact absurd er hbg'
        · rcases hpre b er.symm (by rw [← er]; simp [Value.ownBlock]; omega) with q2 | q2
          · exact absurd q2 hb
          · exact q2
      · exact hkeep b hlt er
    have hk : KOk (G.K.ext g (n * size) xs) w' := by
      intro b i hi
      by_cases eb : b = g
      · subst eb
        have hi' : i < n * size := by simpa [Kd.ext] using hi
        have hval : (G.K.ext b (n * size) xs).val b i = xs.getD i undef := by simp [Kd.ext]
        rw [hval]
        exact ⟨cells_of_cell (hcell i hi'), fun _ => hcell i hi'⟩
      · have hi' : i < G.K.hw b := by simpa [Kd.ext, eb] using hi
        have hval : (G.K.ext g (n * size) xs).val b i = G.K.val b i := by simp [Kd.ext, eb]
        rw [hval, World.cell?_of_block (a := ⟨b, i, none⟩) (hk0 b eb (by omega)), hk0 b eb (by omega)]
        exact h.kok b i hi'
    have hle1 := Gh.withK_le (G := G) hKle
    have hle2 := Gh.addRow_le (G := G.withK (G.K.ext g (n * size) xs)) (r := ⟨e, size, .slice (some ⟨g, 0, none⟩) n cap, n, xs⟩) (d := d) (g := γ) (δ := s.md.dp) (hδ := h.dpl) (h.fresh d γ hu).2 ((h.krw d γ).trans (h.fresh d γ hu).2)
    have hle := hle1.trans hle2
    have hrw : ((G.withK (G.K.ext g (n * size) xs)).addRow s.md.dp d γ ⟨e, size, .slice (some ⟨g, 0, none⟩) n cap, n, xs⟩ h.dpl).row d γ = some ⟨e, size, .slice (some ⟨g, 0, none⟩) n cap, n, xs⟩ := by simp [Gh.addRow]
    have hval : ∀ i x, xs[i]? = some x → (G.K.ext g (n * size) xs).val g i = x := fun i x hx => by simp [Kd.ext, List.getD, hx]
    have hsl : KRep (G.K.ext g (n * size) xs) (.sl false n cells) (.slice (some ⟨g, 0, none⟩) n cap) := by
      refine .sl _ n cells g 0 cap hnc hcm (fun hc => by cases hc) ?_ ?_
      · refine ⟨?_, fun i hi => ?_⟩
        · show 0 + cells.length ≤ if g = g then n * size else G.K.hw g
          rw [if_pos rfl]; omega
        · have hi' : i < xs.length := by omega
          rw [Nat.zero_add, hval i xs[i] (by simp [hi'])]; exact h1 _ (List.getElem_mem _)
      · intro i x hx
        have hi : i < xs.length := by have := getq_lt hx; omega
        rw [Nat.zero_add, hval i xs[i] (by simp [hi])]
        exact (hr i x xs[i] hx (by simp [hi])).mono hKle
    refine ⟨_, hle, .ow d γ n e cells ⟨e, size, .slice (some ⟨g, 0, none⟩) n cap, n, xs⟩ hrw rfl rfl hl (fun i x v hx hv => ((hr i x v hx hv).mono hKle).mono hle2.K) (hsl.mono hle2.K), ?_⟩
    have hno : Real P w0 K0 G us (s.set d none) a w := h.set d none (fun g e hx => by cases hx)
    have hnob : ∀ d' g' e', d' ≠ d → s.tb d' = some (g', e') → entBlk G d' g' e' ≠ some g := fun d' g' e' hd he' hc => by
      rcases hgb with q | ⟨_, q⟩
      · exact hdead g q d' g' e' hd he' hc
      · exact q d' g' e' hd he' hc
    have hgo := hno.go (us' := fun g => us g ∨ g = γ) hbel hle hk (fun g hg => .inl hg) (fun b o hb ho => (hgr.block b (Array.getElem?_eq_some_iff.1 hb).1 (fun e => by rw [hrc b o e.symm hb] at ho; cases ho)).trans hb) ⟨fun d' g' => by
        show (if s.md.dp = s.md.dp ∧ d' = d ∧ g' = γ then _ else G.K.rw s.md.dp d' g') = if d' = d ∧ g' = γ then _ else G.row d' g'
        by_cases q : d' = d ∧ g' = γ
        · rw [if_pos ⟨rfl, q⟩, if_pos q]
        · rw [if_neg (fun c => q c.2), if_neg q]; exact h.krw d' g', fun δ hδ d' g' => by
        show (if δ = s.md.dp ∧ d' = d ∧ g' = γ then _ else G.K.rw δ d' g') = G.K.rw δ d' g'
        rw [if_neg (fun c => by have := h.dp0; omega)]⟩ (fun d' g' hn => by
      have := h.fresh d' g' (fun hc => hn (.inl hc))
      refine ⟨this.1, ?_⟩
      show (if d' = d ∧ g' = γ then some _ else G.row d' g') = none
      rw [if_neg (fun hc => hn (.inr hc.2))]; exact this.2) (fun d' g' r' hr' => by
        by_cases hq : d' = d ∧ g' = γ
        · obtain ⟨rfl, rfl⟩ := hq
          rw [hrw] at hr'; injection hr' with hr'; subst hr'; exact hsz
        · refine h.rows d' g' r' ?_
          have hr2 : (if d' = d ∧ g' = γ then _ else G.row d' g') = some r' := hr'
          rwa [if_neg hq] at hr2) h.offs (fun b hb => by
          show (if b = g then n * size else G.K.hw b) = G.K.hw b
          rw [if_neg (fun e => hnp g rfl (by rw [← e]; exact hb))]) (fun d' g' e' he' b hb => by
        by_cases hd : d' = d
        · subst hd; simp [St.set, upd_same] at he'
        · simp only [St.set] at he'
          rw [upd_ne _ _ _ _ hd] at he'
          have hbne : b ≠ g := fun e => hnob d' g' e' hd he' (e ▸ hb)
          refine ⟨hkeep b (h.hw_live he' hb) fun er => hdead b er.symm d' g' e' hd he' hb, ?_⟩
          show (if b = g then n * size else G.K.hw b) = G.K.hw b
          rw [if_neg hbne])
    have hset := hgo.set d (some (γ, .tag)) (fun g1 e' hx => by
      injection hx with hx
      injection hx with e1 e2
      subst e1 e2
      refine ⟨⟨_, hrw, hown, fun b hb => ?_, h1⟩, fun b hb d' g' e' hd he' => ?_⟩
      · obtain rfl : g = b := by simpa [Value.ownBlock] using hb
        refine ⟨hnp g rfl, ?_, fun i x hx => hval i x hx⟩
        show (if g = g then n * size else G.K.hw g) = n * size
        rw [if_pos rfl]
      · obtain rfl : g = b := by simpa [entBlk, hrw, Value.ownBlock] using hb
        simp only [St.set] at he'
        rw [upd_ne _ _ _ _ hd] at he'
        rw [entBlk_le hle (h.ents _ _ _ he')]
        exact hnob d' g' e' hd he')
    rwa [St.set_set] at hset
end

/-- what is appended: a slice's cells, a text's bytes, so many zeros -/
structure ASrc (P : Program) (e t' : TypeId) (i : TypeInfo) (z : Value) (v : Value) (m : Nat) (vs : List Value) (w : World) : Prop where
  len : vs.length = m * i.size
  one : ∀ u ∈ vs, u.oneCell' = true
  nil : m = 0 → ∀ (t ty : TypeId) (base : Option Addr) (n c : Nat), P.underlying t = some (.slice e) → n ≤ c → (Builtin.append_ #[t, t'] ty #[.slice base n c, v]).run P w = .ok (.slice base n c) w
  room : ∀ (t ty : TypeId) (g n c : Nat) (cur : Array Value), P.underlying t = some (.slice e) → w.heap[g]? = some (.cells cur e (0, 0)) → n + m ≤ c → n * i.size + vs.length ≤ cur.size →
    (Builtin.append_ #[t, t'] ty #[.slice (some ⟨g, 0, none⟩) n c, v]).run P w = .ok (.slice (some ⟨g, 0, none⟩) (n + m) c) (w.setRow g (cur.toList.take (n * i.size) ++ vs ++ cur.toList.drop (n * i.size + vs.length)).toArray)
  grow : ∀ (t ty : TypeId) (base : Option Addr) (n c : Nat) (olds : List Value), P.underlying t = some (.slice e) → (Builtin.firstCells i.size n (.slice base n c)).run P w.drew = .ok olds.toArray w.drew → 0 < m → c < n + m → n + m ≤ 9223372036854775807 → (n + m) * i.bytes ≤ 140737488355328 →
    (Builtin.append_ #[t, t'] ty #[.slice base n c, v]).run P w = .ok (.slice (some ⟨w.heap.size, 0, none⟩) (n + m) (grownCap w (n + m) c e)) (w.drew.alloc (.cells (olds.toArray ++ vs.toArray ++ Builtin.zeroCells z.cells (grownCap w (n + m) c e - (n + m))) e))
theorem ASrc.ofSrc {P : Program} {w : World} {e t' : TypeId} {i : TypeInfo} {z v : Value} {m : Nat} {vs : List Value} (hi : P.info? e = some i) (hz : i.zero = some z) (hs : Src P i.size t' v m vs w) : ASrc P e t' i z v m vs w := by
  refine ⟨hs.newsLen, hs.one, fun h t ty base n c ht hn => ?_, fun t ty g n c cur ht hg hr hf => ?_, fun t ty base n c olds ht ho hm0 hc h63 hb => ?_⟩
  · subst h
    have : vs = [] := List.eq_nil_of_length_eq_zero (by rw [hs.newsLen]; simp)
    subst this
    rcases hs.kind with ⟨e', hk⟩ | hk <;> cases base <;> simp [Builtin.append_, run_underlying ht, run_underlying hk, sizeOf, typeInfo, hi, hs.len, hn, hs.cells, storeCells]
  · have hst := run_storeCells_at P g (n * i.size) e vs 0 cur w hg (by simpa using hf) hs.one
    simp only [Nat.add_zero] at hst
    rcases hs.kind with ⟨e', hk⟩ | hk <;> simp [Builtin.append_, run_underlying ht, run_underlying hk, sizeOf, typeInfo, hi, hs.len, hr, hs.cells, Addr.add_lit, hst]
  · rw [run_append_grow_src w t t' ty e i z ht hi hz base n c olds ho v m vs hs hc (by omega) (growslice_fits (by omega) hb)]
    simp
theorem ASrc.ofZeros {P : Program} {w : World} {e t' : TypeId} {i : TypeInfo} {z : Value} {m : Nat} {k : IntKind} (hi : P.info? e = some i) (hz : i.zero = some z) (hzs : z.cells.size = i.size) (hone : ∀ u ∈ (Builtin.zeroCells z.cells m).toList, u.oneCell' = true) (hu : P.underlying t' = some (.int k)) (hsz : 0 < i.size)
    (hm : m ≤ 140737488355328) (hmb : m * i.bytes ≤ 140737488355328) (k2 : IntKind) : ASrc P e t' i z (.int k2 (m : Int)) m (Builtin.zeroCells z.cells m).toList w := by
  have hw : IntKind.i64.wrap (m : Int) = m := IntWalk.i64_in _ ⟨by omega, by omega⟩
  have hl : (Builtin.zeroCells z.cells m).toList.length = m * i.size := by rw [Array.length_toList, size_zeroCells, hzs]
  have hsz' : m ≠ 0 → ¬ m * i.size = 0 := fun h e => by rcases Nat.mul_eq_zero.1 e with e | e <;> omega
  have hw0 : IntKind.i64.wrap 0 = 0 := IntWalk.i64_in _ ⟨by omega, by omega⟩
  have hbi : ¬ ((281474976710656 : Int) < (m : Int) * (i.bytes : Int)) := by
    have : (m : Int) * (i.bytes : Int) = ((m * i.bytes : Nat) : Int) := by simp
    omega
  have hn0 : ¬ ((m : Int) < 0) := by omega
  refine ⟨hl, hone, fun h t ty base n c ht hn => ?_, fun t ty g n c cur ht hg hr hf => ?_, fun t ty base n c olds ht ho hm0 hc h63 hb => ?_⟩
  · subst h
    cases base <;> simp [Builtin.append_, run_underlying ht, run_underlying hu, sizeOf, typeInfo, hi, asInt, asIntOf, hw0, hn, storeCells]
  · have hst := run_storeCells_at P g (n * i.size) e (Builtin.zeroCells z.cells m).toList 0 cur w hg (by simpa using hf) hone
    simp only [Nat.add_zero] at hst
    have hsz0 : ¬ i.size = 0 := by omega
    by_cases h0 : m = 0
    · subst h0
      simp only [Nat.zero_mul] at hl
      have hv : (Builtin.zeroCells z.cells 0).toList = [] := List.eq_nil_of_length_eq_zero hl
      rw [hv] at hst ⊢
      have hr' : n ≤ c := by simpa using hr
      simp [Builtin.append_, run_underlying ht, run_underlying hu, sizeOf, typeInfo, zeroValue, hi, hz, asInt, asIntOf, hw0, hr', Addr.add_lit, hst]
    · simp [Builtin.append_, run_underlying ht, run_underlying hu, sizeOf, typeInfo, zeroValue, hi, hz, asInt, asIntOf, hw, hbi, hn0, hr, hsz' h0, Addr.add_lit, hst]
  · have h63' : ¬ (9223372036854775807 < ((n : Int) + (m : Int))) := by omega
    have hfit := growslice_fits (bytes := i.bytes) (old := c) (need := n + m) (by omega) hb
    have h48' : ¬ (281474976710656 < Builtin.nextslicecap (n + m) c * i.bytes) := by omega
    have hnc : ¬ (n + m ≤ c) := by omega
    have hsz0 : ¬ i.size = 0 := by omega
    have h0 : ¬ m = 0 := by omega
    simp [Builtin.append_, run_underlying ht, run_underlying hu, sizeOf, typeInfo, zeroValue, hi, hz, asInt, asIntOf, hw, hbi, hn0, hnc, h63', h48', hsz' h0, Question.forced, ho, newRow, grownCap]
/-- append onto a slice that the call owns: in its own row, or in a block that was just made -/
theorem run_app {P : Program} (w : World) (base : Nat) (t ty e : TypeId) (i : TypeInfo) (z : Value) (ht : P.underlying t = some (.slice e)) (hi : P.info? e = some i) (hz : i.zero = some z)
    (hzs : z.cells.size = i.size) (hsz : 0 < i.size) (v : Value) (n : Nat) (xs : List Value) (hown : w.ownsRow base e i.size v n xs)
    {t' : TypeId} {y : Value} {m : Nat} {news : List Value} (hs : ASrc P e t' i z y m news w)
    (h63 : n + m ≤ maxLen) (hbytes : (n + m) * i.bytes ≤ 140737488355328) (hbase : base ≤ w.heap.size) :
    ∃ v' w', (Builtin.append_ #[t, t'] ty #[v, y]).run P w = .ok v' w' ∧ w'.ownsRow base e i.size v' (n + m) (xs ++ news) ∧
      ((v'.ownBlock = v.ownBlock ∧ w.grownBy w' v.ownBlock) ∨ (v'.ownBlock = some w.heap.size ∧ w.grownBy w' none)) := by
  have hl := hs.len
  have h1 := hs.one
  have hsmall : n + m ≤ 9223372036854775807 := by simp only [maxLen] at h63; omega
  have hlen : (xs ++ news).length = (n + m) * i.size := by rw [List.length_append, hown.1, hl, Nat.add_mul]
  have grown : ∀ (old : Nat), old < n + m →
      (w.drew.alloc (.cells (xs.toArray ++ news.toArray ++ Builtin.zeroCells z.cells (grownCap w (n + m) old e - (n + m))) e)).ownsRow base e i.size
        (.slice (some ⟨w.heap.size, 0, none⟩) (n + m) (grownCap w (n + m) old e)) (n + m) (xs ++ news) ∧
      w.grownBy (w.drew.alloc (.cells (xs.toArray ++ news.toArray ++ Builtin.zeroCells z.cells (grownCap w (n + m) old e - (n + m))) e)) none := by
    intro old ho
    have hge := grownCap_ge w (n + m) old e
    have hcm : grownCap w (n + m) old e ≤ maxLen := grownCap_le_maxLen w (n + m) old e h63
    refine ⟨⟨hlen, .inr ⟨w.heap.size, _, _, rfl, hbase, heap_alloc_new w.drew _, hge, hcm, ?_, ?_⟩⟩, ⟨rfl, rfl, rfl, by simp, fun k hk _ => Below.heap_alloc w.drew _ k hk⟩⟩
    · simp only [Array.size_append, List.size_toArray, size_zeroCells, hzs, hown.1, hl, ← Nat.add_mul]
      congr 1
      omega
    · simp only [Array.toList_append, List.append_assoc]
      rw [← List.append_assoc, ← hlen]
      exact List.take_left
  rcases hown.2 with ⟨rfl, rfl⟩ | ⟨g, cap, cur, rfl, hbg, hg, hnc, hcm, hcs, htake⟩
  · have hx : xs = [] := List.eq_nil_of_length_eq_zero (by simpa using hown.1)
    subst hx
    by_cases hm : m = 0
    · subst hm
      have hn : news = [] := List.eq_nil_of_length_eq_zero (by simpa using hl)
      subst hn
      refine ⟨.slice none 0 0, w, ?_, World.ownsRow_nil w base e i.size, .inl ⟨rfl, ⟨rfl, rfl, rfl, Nat.le_refl _, fun _ _ _ => rfl⟩⟩⟩
      exact hs.nil rfl t ty none 0 0 ht (Nat.le_refl _)
    · have hr := hs.grow t ty none 0 0 [] ht (run_firstCells_none w.drew i.size 0 0 0) (by omega) (by omega) (by omega) (by simpa using hbytes)
      have hgr := grown 0 (by omega)
      simp only [Nat.zero_add, List.nil_append, Array.empty_append] at hgr hr ⊢
      exact ⟨_, _, hr, hgr.1, .inr ⟨rfl, hgr.2⟩⟩
  · by_cases hroom : n + m ≤ cap
    · have hfit : n * i.size + news.length ≤ cur.size := by rw [hl, hcs, ← Nat.add_mul]; exact Nat.mul_le_mul_right _ hroom
      have hr := hs.room t ty g n cap cur ht hg hroom hfit
      refine ⟨_, _, hr, ⟨hlen, .inr ⟨g, cap, _, rfl, hbg, setRow_heap w g cur _ e _ hg, hroom, hcm, ?_, ?_⟩⟩, .inl ⟨rfl, ⟨rfl, rfl, rfl, by simp [World.setRow], fun k _ hk => setRow_other w g k _ (fun e => hk (by simp [Value.ownBlock, e]))⟩⟩⟩
      · simp only [List.size_toArray, List.length_append, List.length_take, List.length_drop, Array.length_toList]
        omega
      · rw [htake, ← hlen]
        exact List.take_left
    · have hcur : ∀ j u, xs[j]? = some u → w.cell? ((⟨g, 0, none⟩ : Addr).add j) = some u := World.ownsRow.cells hown rfl
      have hr := hs.grow t ty (some ⟨g, 0, none⟩) n cap xs ht (run_firstCells_some w.drew i.size n ⟨g, 0, none⟩ n cap xs hown.1 hcur) (by omega) (by omega) (by omega) hbytes
      have hgr := grown cap (by omega)
      exact ⟨_, _, hr, hgr.1, .inr ⟨rfl, hgr.2⟩⟩

end Go.Proofs.Ytikganlbnhapcaa

namespace Go.Proofs.Ytikganlbnhapcaa
open Go.RowKit
set_option linter.unusedVariables false
set_option linter.unusedSimpArgs false

/-! what each operation does -/
def SV.av : SV → AV
  | .k x => x
  | .ow _ _ n _ cs => .sl false n cs
  | _ => .any
/-- as it goes into memory: a growing slice of one's own may keep its name there -/
def SV.avn (m : Md) : SV → AV
  | .ow d g n e cs => match m.nest with
    | true => .ow m.dp d g n e cs
    | false => .sl false n cs
  | x => x.av
def St.avn (s : St) (x : Operand) : AV := (s.ev x).avn s.md
/-- as it comes out of memory -/
def SV.of (m : Md) : AV → SV
  | .ow δ d g n e cs => if δ = m.dp then .ow d g n e cs else .k (.sl false n cs)
  | x => .k x
def AV.isOw : AV → Bool
  | .ow _ _ _ _ _ _ => true
  | _ => false
def AV.flat : AV → Bool
  | .any => false
  | .tup _ => false
  | _ => true
def AV.cells : AV → List AV
  | .agg cs => cs
  | x => [x]
def St.objOf (s : St) (d g : Nat) : Option (List AV) :=
  match s.tb d with
  | some (g', .obj cs) => if g' = g then some cs else none
  | some (g', .fz cs) => if g' = g then some cs else none
  | _ => none
/-- the contents of a slice: how many elements, and their cells -/
def St.cont (s : St) (sz : Nat) : SV → Option (Nat × List AV)
  | .k (.sl _ n cs) => if cs.length = n * sz then some (n, cs) else none
  | .ow _ _ n _ cs => if cs.length = n * sz then some (n, cs) else none
  | .os d g off n _ => match s.objOf d g with
    | some cs => if off + n * sz ≤ cs.length then some (n, (cs.drop off).take (n * sz)) else none
    | none => none
  | _ => none
def aInt (op : BinOp) (k k' : IntKind) (a b : Int) : Option AV :=
  match op with
  | .shl => if 0 ≤ b then some (.int k (k.wrap (a * 2 ^ (min b.toNat k.bits)))) else none
  | .shr => if 0 ≤ b then some (.int k (a.fdiv (2 ^ (min b.toNat k.bits)))) else none
  | op => if k = k' then
      match op with
      | .add => some (.int k (k.wrap (a + b)))
      | .sub => some (.int k (k.wrap (a - b)))
      | .mul => some (.int k (k.wrap (a * b)))
      | .quo => if b = 0 then none else some (.int k (k.wrap (a.tdiv b)))
      | .rem => if b = 0 then none else some (.int k (a.tmod b))
      | .and => some (.int k (bits .and k a b))
      | .or => some (.int k (bits .or k a b))
      | .xor => some (.int k (bits .xor k a b))
      | .andNot => some (.int k (bits .andNot k a b))
      | .eql => some (.bool (decide (a = b)))
      | .neq => some (.bool (!decide (a = b)))
      | .lss => some (.bool (decide (a < b)))
      | .leq => some (.bool (decide (a ≤ b)))
      | .gtr => some (.bool (decide (b < a)))
      | .geq => some (.bool (decide (b ≤ a)))
      | _ => none
    else none
def SV.isNil : SV → Option Bool
  | .ob _ _ _ => some false
  | .k (.cp _) => some false
  | .k (.raw (.pointer none)) => some true
  | _ => none
def aBin (u : TU) (op : BinOp) (x y : SV) : Option AV :=
  match x.av, y.av with
  | .int k a, .int k' b => aInt op k k' a b
  | .str a, .str b => match op with
    | .eql => some (.bool (a.toList == b.toList))
    | .neq => some (.bool (!(a.toList == b.toList)))
    | _ => none
  | .bool a, .bool b => match u, op with
    | .bool, .eql => some (.bool (a == b))
    | .bool, .neq => some (.bool (!(a == b)))
    | _, _ => none
  | _, .raw (.pointer none) => match u, op, x.isNil with
    | .ptr _, .eql, some t => some (.bool t)
    | .ptr _, .neq, some t => some (.bool (!t))
    | _, _, _ => none
  | _, _ => none
def aUn (op : UnOp) (x : AV) : Option AV :=
  match op, x with
  | .not, .bool b => some (.bool (!b))
  | .neg, .int k n => some (.int k (k.wrap (0 - n)))
  | .xor, .int k n => some (.int k (bits .xor k (if k.signed then -1 else k.max) n))
  | _, _ => none
def aByte : AV → Option UInt8
  | .int .u8 n => some (UInt8.ofNat n.toNat)
  | _ => none
def aBytes : List AV → Option (List UInt8)
  | [] => some []
  | x :: r => match aByte x, aBytes r with
    | some b, some l => some (b :: l)
    | _, _ => none
def aOfBytes (l : List UInt8) : List AV := l.map fun b => .int .u8 (b.toNat : Int)
/-- parts put into cells -/
def aFill (place : Nat → Option (Nat × Nat)) (cells : List AV) : List (Nat × AV) → Option (List AV)
  | [] => some cells
  | (i, x) :: r => match place i with
    | none => none
    | some (off, size) => if x.flat = true ∧ x.cells.length = size ∧ off + size ≤ cells.length then aFill place (cells.take off ++ x.cells ++ cells.drop (off + size)) r else none
def St.int? (s : St) (x : Operand) : Option Int :=
  match (s.ev x).av with
  | .int _ n => some n
  | _ => none
def St.bnd (s : St) (x : Option Operand) (dflt : Int) : Option Int :=
  match x with
  | none => some dflt
  | some x => s.int? x
def ldAgg (u : TU) (sz : Nat) (cs : List AV) : Option AV :=
  match u with
  | .st _ => if sz ≤ cs.length then some (.agg (cs.take sz)) else none
  | .arr _ _ => if sz ≤ cs.length then some (.agg (cs.take sz)) else none
  | .bad => none
  | _ => cs.head?
def TU.isAgg : TU → Bool
  | .st _ => true
  | .arr _ _ => true
  | .bad => true
  | _ => false
def pickSV (t : Bool) (a b : SV) : SV :=
  match a, b with
  | .k (.bool x), .k (.bool y) => .k (.bool (bif t then x else y))
  | a, b => bif t then a else b
def aBuild (P : Program) (s : St) (t : TypeId) (parts : List (Nat × Operand)) : Option SV :=
  if (tiOf P t).ok = true then
    match (tiOf P t).un with
    | .st fs => (aFill (fun j => fs[j]?) (tiOf P t).zr (parts.map fun (j, x) => (j, s.avn x))).map fun cs => .k (.agg cs)
    | .arr _ e => if (tiOf P e).ok = true then (aFill (fun j => some (j * (tiOf P e).sz, (tiOf P e).sz)) (tiOf P t).zr (parts.map fun (j, x) => (j, s.avn x))).map fun cs => .k (.agg cs) else none
    | _ => none
  else none
def aLoad (P : Program) (s : St) (t : TypeId) (x : SV) : Option SV :=
  if (tiOf P t).ok = true then
    match x with
    | .k (.cp cs) => (ldAgg (tiOf P t).un (tiOf P t).sz cs).map (SV.of s.md)
    | .ob d g off => (s.objOf d g).bind fun cs => (ldAgg (tiOf P t).un (tiOf P t).sz (cs.drop off)).map (SV.of s.md)
    | _ => none
  else none
def aConv (P : Program) (s : St) (a b : TypeId) (x : SV) : Option SV :=
  if (tiOf P a).ok = true then
    match (tiOf P a).un, (tiOf P b).un with
    | .sl e, .str => match (tiOf P e).un with
      | .int .u8 => ((s.cont 1 x).bind fun c => aBytes c.2).map fun l => .k (.str ⟨l.toArray⟩)
      | _ => none
    | _, .int k => match x.av with
      | .int _ n => some (.k (.int k (k.wrap n)))
      | _ => none
    | _, _ => none
  else none
def aArrPtr (u : TU) (x : SV) : Option SV :=
  match u, x with
  | .arr n _, .k (.sl _ m cs) => if n ≤ m ∧ 0 < cs.length then some (.k (.cp cs)) else none
  | .arr n _, .ow _ _ m _ cs => if n ≤ m ∧ 0 < cs.length then some (.k (.cp cs)) else none
  | .arr n _, .os d g off m _ => if n ≤ m then some (.ob d g off) else none
  | _, _ => none
def aField (P : Program) (t : TypeId) (x : SV) (f : Nat) : Option SV :=
  if (tiOf P t).ok = true then
    match (tiOf P t).un, x with
    | .st fs, .ob d g off => (fs[f]?).bind fun p => if 0 < p.2 then some (.ob d g (off + p.1)) else none
    | .st fs, .k (.cp cs) => (fs[f]?).bind fun p => if 0 < p.2 ∧ p.1 ≤ cs.length then some (.k (.cp (cs.drop p.1))) else none
    | _, _ => none
  else none
def aIdxAt (u : TU) (T : TypeId → TI) (x : SV) (j : Int) : Option SV :=
  match u, x with
  | .sl e, .k (.sl _ n cs) => if (T e).ok = true ∧ 0 ≤ j ∧ j < n ∧ n * (T e).sz = cs.length ∧ 0 < (T e).sz then some (.k (.cp (cs.drop (j.toNat * (T e).sz)))) else none
  | .sl e, .ow _ _ n _ cs => if (T e).ok = true ∧ 0 ≤ j ∧ j < n ∧ n * (T e).sz = cs.length ∧ 0 < (T e).sz then some (.k (.cp (cs.drop (j.toNat * (T e).sz)))) else none
  | .sl e, .os d g off n _ => if (T e).ok = true ∧ 0 ≤ j ∧ j < n then some (.ob d g (off + j.toNat * (T e).sz)) else none
  | .arr n e, .ob d g off => if (T e).ok = true ∧ 0 ≤ j ∧ j < n then some (.ob d g (off + j.toNat * (T e).sz)) else none
  | .arr n e, .k (.cp cs) => if (T e).ok = true ∧ 0 ≤ j ∧ j < n ∧ n * (T e).sz ≤ cs.length then some (.k (.cp (cs.drop (j.toNat * (T e).sz)))) else none
  | _, _ => none
def aIdx (u : TU) (T : TypeId → TI) (x : AV) (j : Int) : Option SV :=
  match u, x with
  | .arr n e, .agg cs => if (T e).ok = true ∧ 0 ≤ j ∧ j < n then (ldAgg (T e).un (T e).sz (cs.drop (j.toNat * (T e).sz))).map .k else none
  | .str, .str b => if h : 0 ≤ j ∧ j.toNat < b.size then some (.k (.int .u8 ((b[j.toNat]'h.2).toNat : Int))) else none
  | _, _ => none
def aExtract (x : AV) (j : Nat) : Option SV :=
  match x with
  | .tup ps => (ps[j]?).map .k
  | _ => none
/-- x[l:h], x[l:h:h] -/
def aCut (u : TU) (T : TypeId → TI) (x : SV) (l h : Int) (mx : Bool) : Option SV :=
  match u, x with
  | .sl e, .k (.sl full n cs) => if (T e).ok = true ∧ 0 ≤ l ∧ l ≤ h ∧ h ≤ n ∧ n * (T e).sz = cs.length then some (.k (.sl (mx || (full && decide (h = n))) (h.toNat - l.toNat) ((cs.take (h.toNat * (T e).sz)).drop (l.toNat * (T e).sz)))) else none
  | .sl e, .ow _ _ n _ cs => if (T e).ok = true ∧ 0 ≤ l ∧ l ≤ h ∧ h ≤ n ∧ n * (T e).sz = cs.length then some (.k (.sl mx (h.toNat - l.toNat) ((cs.take (h.toNat * (T e).sz)).drop (l.toNat * (T e).sz)))) else none
  | .sl e, .os d g off n cap => if (T e).ok = true ∧ 0 ≤ l ∧ l ≤ h ∧ h ≤ cap ∧ l < cap ∧ mx = false then some (.os d g (off + l.toNat * (T e).sz) (h.toNat - l.toNat) (cap - l.toNat)) else none
  | .arr n e, .ob d g off => if (T e).ok = true ∧ 0 ≤ l ∧ l ≤ h ∧ h ≤ n ∧ l < n ∧ (n : Int) ≤ 9223372036854775807 ∧ mx = false then some (.os d g (off + l.toNat * (T e).sz) (h.toNat - l.toNat) (n - l.toNat)) else none
  | .arr n e, .k (.cp cs) => if (T e).ok = true ∧ 0 ≤ l ∧ l ≤ h ∧ h ≤ n ∧ l < n ∧ (n : Int) ≤ 9223372036854775807 ∧ n * (T e).sz ≤ cs.length ∧ mx = false then some (.k (.sl (decide (h = n)) (h.toNat - l.toNat) ((cs.take (h.toNat * (T e).sz)).drop (l.toNat * (T e).sz)))) else none
  | .str, .k (.str b) => if 0 ≤ l ∧ l ≤ h ∧ h ≤ b.size ∧ mx = false then some (.k (.str (b.extract l.toNat h.toNat))) else none
  | _, _ => none
def lenSV (u : TU) (x : SV) : Option Nat :=
  match u, x with
  | .sl _, .k (.sl _ n _) => some n
  | .sl _, .ow _ _ n _ _ => some n
  | .sl _, .os _ _ _ n _ => some n
  | .str, .k (.str b) => some b.size
  | .arr n _, _ => some n
  | _, _ => none
def aSlice (P : Program) (s : St) (t : TypeId) (x : SV) (lo hi mx : Option Operand) : Option SV :=
  (lenSV (tiOf P t).un x).bind fun n =>
    (s.bnd lo 0).bind fun l => (s.bnd hi n).bind fun h =>
      match mx with
      | none => aCut (tiOf P t).un (tiOf P) x l h false
      | some m => if hi.isSome = true ∧ s.int? m = some h then aCut (tiOf P t).un (tiOf P) x l h true else none
def aBuiltin (P : Program) (s : St) (b : Builtin) (args : List Operand) (ts : List TypeId) : Option SV :=
  match b, args, ts with
  | .len, [x], [t] => (lenSV (tiOf P t).un (s.ev x)).map fun (n : Nat) => SV.k (.int .i64 (n : Int))
  | .max, [x, y], _ => match (s.ev x).av, (s.ev y).av with
    | .int k a, .int _ b => some (.k (.int k (if a < b then b else a)))
    | _, _ => none
  | .min, [x, y], _ => match (s.ev x).av, (s.ev y).av with
    | .int k a, .int _ b => some (.k (.int k (if b < a then b else a)))
    | _, _ => none
  | _, _, _ => none
def aPick (c : AV) (a b : SV) : Option SV :=
  match c with
  | .bool t => some (pickSV t a b)
  | _ => none
def aNilCheck (x : SV) : Option SV :=
  match x.isNil with
  | some false => some x
  | _ => none
/-- a slice beside the literal nil -/
def nilSl : SV → Option Bool
  | .k (.sl _ _ cs) => if 0 < cs.length then some false else none
  | .ow _ _ _ _ cs => if 0 < cs.length then some false else none
  | .os _ _ _ _ _ => some false
  | _ => none
def isNilC : Operand → Bool
  | .const (.slice none 0 0) => true
  | _ => false
def aCmpNil (u : TU) (op : BinOp) (x : SV) (y : Operand) : Option AV :=
  match u, op, nilSl x, isNilC y with
  | .sl _, .eql, some b, true => some (.bool b)
  | .sl _, .neq, some b, true => some (.bool (!b))
  | _, _, _, _ => none
/-- equality of arrays and structs of whole numbers -/
def aEqCs : List AV → List AV → Option Bool
  | [], [] => some true
  | .int k a :: xs, .int k' b :: ys => if k = k' then (aEqCs xs ys).map fun r => decide (a = b) && r else none
  | _, _ => none
def flatFs (g : TypeId → Option Nat) (P : Program) : Nat → List Field → Option Nat
  | off, [] => some off
  | off, f :: fs => match g f.type, P.info? f.type with
    | some m, some i => if i.size = m ∧ f.name ≠ "_" ∧ f.offset = off then flatFs g P (off + m) fs else none
    | _, _ => none
def flatU (P : Program) : Nat → TypeId → Option Nat
  | 0, _ => none
  | d + 1, t => match P.underlying t with
    | some (.int _) => some 1
    | some (.array n e) => match flatU P d e, P.info? e with
      | some m, some i => if i.size = m then some (n * m) else none
      | _, _ => none
    | some (.struct fs) => if P.stoodInHeld t = true then none else flatFs (flatU P d) P 0 fs.toList
    | _ => none
def flatT (P : Program) (t : TypeId) : Option Nat := if P.eqGuardType P.depth t = false ∧ (tiOf P t).un.isAgg = true then flatU P 5 t else none
def aAggEq (P : Program) (t : TypeId) (op : BinOp) (x y : AV) : Option AV :=
  match op, x, y with
  | .eql, .agg xs, .agg ys => if flatT P t = some xs.length then (aEqCs xs ys).map .bool else none
  | .neq, .agg xs, .agg ys => if flatT P t = some xs.length then (aEqCs xs ys).map fun b => .bool (!b) else none
  | _, _, _ => none
/-- a step that only makes a value -/
def aVal (P : Program) (s : St) : Op → Option SV
  | .move x => some (s.ev x)
  | .assign x => some (s.ev x)
  | .pick c a b => aPick (s.ev c).av (s.ev a) (s.ev b)
  | .build t parts => aBuild P s t parts.toList
  | .load t x => aLoad P s t (s.ev x)
  | .nilCheck x => aNilCheck (s.ev x)
  | .binOp op t x y _ => match aCmpNil (tiOf P t).un op (s.ev x) y with
    | some r => some (.k r)
    | none => match aBin (tiOf P t).un op (s.ev x) (s.ev y) with
      | some r => some (.k r)
      | none => (aAggEq P t op (s.ev x).av (s.ev y).av).map .k
  | .unOp op _ x => (aUn op (s.ev x).av).map .k
  | .convert a b x => aConv P s a b (s.ev x)
  | .sliceToArrayPointer t x => aArrPtr (tiOf P t).un (s.ev x)
  | .fieldAddr t x f => aField P t (s.ev x) f
  | .indexAddr t x j => (s.int? j).bind fun j => aIdxAt (tiOf P t).un (tiOf P) (s.ev x) j
  | .index t x j => (s.int? j).bind fun j => aIdx (tiOf P t).un (tiOf P) (s.ev x).av j
  | .extract x j => aExtract (s.ev x).av j
  | .slice t x lo hi mx => aSlice P s t (s.ev x) lo hi mx
  | .call c => match c.callee with
    | .builtin b => aBuiltin P s b c.args.toList c.argTypes.toList
    | _ => none
  | _ => none

end Go.Proofs.Ytikganlbnhapcaa

namespace Go.Proofs.Ytikganlbnhapcaa
open Go.RowKit
set_option linter.unusedVariables false
set_option linter.unusedSimpArgs false

theorem SRep.av {G : Gh} {x : SV} {v : Value} (h : SRep G x v) : KRep G.K x.av v := by
  cases h with
  | k x v h => exact h
  | ob => exact .any _
  | os => exact .any _
  | pk => exact .any _
  | ow d g n e cells r h he hn hl hx hk => exact hk
theorem Real.ev {P : Program} {w0 : Base} {w : World} {K0 : Anc} {G : Gh} {us : Nat → Prop} {s : St} {a : Act} (h : Real P w0 K0 G us s a w) (x : Operand) : SRep G (s.ev x) (a.eval x) := by
  cases x with
  | tmp t => exact h.slots t
  | const v => exact .k _ _ (ofVal_rep _ v)
  | global g => exact .k _ _ (.any _)
  | func f => exact .k _ _ (.raw _ rfl)
theorem ti_ok {P : Program} {t : TypeId} (h : (tiOf P t).ok = true) : ∃ i z d, P.info? t = some i ∧ i.zero = some z ∧ z.cells.size = i.size ∧ (∀ c ∈ z.cells, c.oneCell' = true) ∧ (tiOf P t).sz = i.size ∧ (tiOf P t).by_ = i.bytes ∧
    (tiOf P t).zr = z.cells.toList.map ofVal ∧ P.underlying t = some d := by
  simp only [tiOf, Bool.and_eq_true] at h
  obtain ⟨h, hu⟩ := h
  obtain ⟨d, hd⟩ := Option.isSome_iff_exists.1 hu
  cases hi : P.info? t with
  | none => rw [hi] at h; cases h
  | some i =>
    rw [hi] at h
    simp only [okInfo] at h
    cases hz : i.zero with
    | none => rw [hz] at h; cases h
    | some z =>
      rw [hz] at h
      simp only [Bool.and_eq_true, beq_iff_eq] at h
      refine ⟨i, z, d, rfl, hz, h.1, fun c hc => ?_, by simp [tiOf, hi], by simp [tiOf, hi], by simp [tiOf, hi, hz], hd⟩
      exact Array.all_eq_true_iff_forall_mem.1 h.2 c hc
theorem tu_int {P : Program} {d : Option TypeDesc} {k : IntKind} (h : tuOf P d = .int k) : d = some (.int k) := by
  unfold tuOf at h; split at h <;> first | (injection h with h; subst h; rfl) | cases h | (split at h <;> cases h)
theorem tu_bool {P : Program} {d : Option TypeDesc} (h : tuOf P d = .bool) : d = some .bool := by
  unfold tuOf at h; split at h <;> first | rfl | cases h | (split at h <;> cases h)
theorem tu_str {P : Program} {d : Option TypeDesc} (h : tuOf P d = .str) : d = some .string := by
  unfold tuOf at h; split at h <;> first | rfl | cases h | (split at h <;> cases h)
theorem tu_sl {P : Program} {d : Option TypeDesc} {e : TypeId} (h : tuOf P d = .sl e) : d = some (.slice e) := by
  unfold tuOf at h; split at h <;> first | (injection h with h; subst h; rfl) | cases h | (split at h <;> cases h)
theorem tu_ptr {P : Program} {d : Option TypeDesc} {e : TypeId} (h : tuOf P d = .ptr e) : d = some (.pointer e) := by
  unfold tuOf at h; split at h <;> first | (injection h with h; subst h; rfl) | cases h | (split at h <;> cases h)
theorem tu_arr {P : Program} {d : Option TypeDesc} {n : Nat} {e : TypeId} (h : tuOf P d = .arr n e) : d = some (.array n e) := by
  unfold tuOf at h; split at h <;> first | (injection h with h1 h2; subst h1 h2; rfl) | cases h | (split at h <;> cases h)
theorem tu_st {P : Program} {d : Option TypeDesc} {fs : List (Nat × Nat)} (h : tuOf P d = .st fs) : ∃ f, d = some (.struct f) ∧ (fs = f.toList.map fun f => (f.offset, ((P.info? f.type).map (·.size)).getD 0)) ∧ ∀ x ∈ f.toList, (P.info? x.type).isSome = true := by
  unfold tuOf at h; split at h <;> first | (split at h <;> first | (rename_i hall; injection h with h; exact ⟨_, rfl, h.symm, fun x hx => List.all_eq_true.1 hall x hx⟩) | cases h) | cases h
theorem un_eq (P : Program) (t : TypeId) : (tiOf P t).un = tuOf P (P.underlying t) := rfl
theorem run_isAgg {P : Program} {t : TypeId} {d : TypeDesc} (h : P.underlying t = some d) (w : World) : (isAgg t).run P w = .ok (tiOf P t).un.isAgg w := by
  rw [un_eq, h]
  unfold isAgg
  simp only [Sem.run_bind, run_underlying h, Result.andThen_ok]
  cases d <;> first | rfl | (unfold tuOf; simp only; split <;> first | rfl | skip)
theorem run_sizeOf' {P : Program} {t : TypeId} {i : TypeInfo} (h : P.info? t = some i) (w : World) : (sizeOf t).run P w = .ok i.size w := by
  simp [sizeOf, typeInfo, h]

/-- the cells from an address on are these -/
def CR (K : Kd) (w : World) (b o : Nat) (cs : List AV) : Prop := ∀ (i : Nat) (x : AV), cs[i]? = some x → ∃ v : Value, w.cell? ⟨b, o + i, none⟩ = some v ∧ v.oneCell' = true ∧ KRep K x v
theorem CR.drop {K : Kd} {w : World} {b o : Nat} {cs : List AV} (h : CR K w b o cs) (k : Nat) : CR K w b (o + k) (cs.drop k) := by
  intro i x hx
  rw [List.getElem?_drop] at hx
  have := h (k + i) x hx
  rwa [← Nat.add_assoc] at this
theorem CR.take {K : Kd} {w : World} {b o : Nat} {cs : List AV} (h : CR K w b o cs) (k : Nat) : CR K w b o (cs.take k) := by
  intro i x hx
  rw [List.getElem?_take] at hx
  split at hx
  · exact h i x hx
  · cases hx
theorem CR.vals {K : Kd} {w : World} {b : Nat} : ∀ {cs : List AV} {o : Nat}, CR K w b o cs → ∃ vs : List Value, vs.length = cs.length ∧ (∀ (j : Nat) (v : Value), vs[j]? = some v → w.cell? ((⟨b, o, none⟩ : Addr).add j) = some v) ∧ (∀ v ∈ vs, v.oneCell' = true) ∧
    ∀ (i : Nat) (x : AV) (v : Value), cs[i]? = some x → vs[i]? = some v → KRep K x v
  | [], o, h => ⟨[], rfl, (fun j v hv => by simp at hv), (fun v hv => by cases hv), (fun i x v hx => by simp at hx)⟩
  | c :: cs, o, h => by
    obtain ⟨v0, h1, h2, h3⟩ := h 0 c rfl
    have ht : CR K w b (o + 1) cs := by have := h.drop 1; simpa using this
    obtain ⟨vs, k1, k2, k3, k4⟩ := ht.vals
    refine ⟨v0 :: vs, by simp [k1], ?_, ?_, ?_⟩
    · intro j v hv
      cases j with
      | zero =>
        simp at hv; subst hv
        rw [show (⟨b, o, none⟩ : Addr).add 0 = ⟨b, o, none⟩ from rfl]; simpa using h1
      | succ j =>
        rw [List.getElem?_cons_succ] at hv
        have := k2 j v hv
        rw [show (⟨b, o, none⟩ : Addr).add (j + 1) = ⟨b, o + (j + 1), none⟩ by simp [Addr.add]]
        rw [show (⟨b, o + 1, none⟩ : Addr).add j = ⟨b, o + 1 + j, none⟩ by unfold Addr.add; split <;> simp_all] at this
        rwa [show o + (j + 1) = o + 1 + j by omega]
    · intro v hv
      rcases List.mem_cons.1 hv with rfl | hv
      · exact h2
      · exact k3 v hv
    · intro i x v hx hv
      cases i with
      | zero => simp at hx hv; subst hx hv; exact h3
      | succ i =>
        rw [List.getElem?_cons_succ] at hx hv
        exact k4 i x v hx hv
theorem KRep.cr {K : Kd} {w : World} (hk : KOk K w) {cs : List AV} {v : Value} (h : KRep K (.cp cs) v) : ∃ b o, v = .pointer (some ⟨b, o, none⟩) ∧ CR K w b o cs ∧ K.In b o cs.length := by
  cases h with
  | cp cells b o h1 h3 =>
    refine ⟨b, o, rfl, fun i x hx => ?_, h1⟩
    have := hk.at_ h1 (getq_lt hx)
    exact ⟨_, this.1, this.2, h3 i x hx⟩
theorem KRep.cr_sl {K : Kd} {w : World} (hk : KOk K w) {full : Bool} {n : Nat} {cs : List AV} {v : Value} (h : KRep K (.sl full n cs) v) :
    ∃ a cap, v = .slice a n cap ∧ n ≤ cap ∧ cap ≤ maxLen ∧ (full = true → cap = n) ∧ ((n = 0 ∧ cs = []) ∨ ∃ b o, a = some ⟨b, o, none⟩ ∧ CR K w b o cs ∧ K.In b o cs.length) := by
  cases h with
  | sl0 full a cap hm hf => exact ⟨a, cap, rfl, Nat.zero_le _, hm, hf, .inl ⟨rfl, rfl⟩⟩
  | sl full n cells b o cap hn hm hf h1 h3 =>
    refine ⟨_, cap, rfl, hn, hm, hf, .inr ⟨b, o, rfl, fun i x hx => ?_, h1⟩⟩
    have := hk.at_ h1 (getq_lt hx)
    exact ⟨_, this.1, this.2, h3 i x hx⟩
section
variable {P : Program} {w0 : Base} {w : World} {K0 : Anc} {G : Gh} {us : Nat → Prop} {s : St} {a : Act}
theorem Real.obj (h : Real P w0 K0 G us s a w) {d g : Nat} {cs : List AV} (ho : s.objOf d g = some cs) : ∃ b o, G.at_ d g = some (b, o) ∧ CR G.K w b o cs := by
  unfold St.objOf at ho
  split at ho
  · rename_i g' cs' he
    split at ho
    · rename_i e; injection ho with ho; subst e ho
      obtain ⟨b, o, arr, ty, h1, h2, h3, h4, h5, h6, h7⟩ := h.ents _ _ _ he
      refine ⟨b, o, h1, fun i x hx => ?_⟩
      have hi := getq_lt hx
      have hlt : o + i < arr.size := by omega
      refine ⟨arr[o + i], by rw [cell_of_row w b (o + i) arr ty _ h3]; simp [hlt], h6 i _ hi (by simp [hlt]), h7 i x _ hx (by simp [hlt])⟩
    · cases ho
  · rename_i g' cs' he
    split at ho
    · rename_i e; injection ho with ho; subst e ho
      obtain ⟨b, o, h1, h2, h3⟩ := h.ents _ _ _ he
      refine ⟨b, o, h1, fun i x hx => ?_⟩
      have := h.kok.at_ h2 (getq_lt hx)
      exact ⟨_, this.1, this.2, h3 i x hx⟩
    · cases ho
  · cases ho
/-- the contents of a slice, in memory -/
theorem Real.cont (h : Real P w0 K0 G us s a w) {sz : Nat} {x : SV} {v : Value} {n : Nat} {cs : List AV} (hc : s.cont sz x = some (n, cs)) (hx : SRep G x v) :
    ∃ ad cap, v = .slice ad n cap ∧ cs.length = n * sz ∧ (cs = [] ∨ ∃ b o, ad = some ⟨b, o, none⟩ ∧ CR G.K w b o cs) := by
  have slc : ∀ (full : Bool) (n' : Nat) (cs' : List AV), KRep G.K (.sl full n' cs') v → (if cs'.length = n' * sz then some (n', cs') else none) = some (n, cs) → ∃ ad cap, v = .slice ad n cap ∧ cs.length = n * sz ∧ (cs = [] ∨ ∃ b o, ad = some ⟨b, o, none⟩ ∧ CR G.K w b o cs) := by
    intro full n' cs' hk hc
    split at hc
    · rename_i hl
      injection hc with hc
      injection hc with e1 e2
      subst e1 e2
      obtain ⟨ad, cap, rfl, _, _, _, h5⟩ := hk.cr_sl h.kok
      refine ⟨ad, cap, rfl, hl, ?_⟩
      rcases h5 with ⟨_, h5⟩ | ⟨b, o, e, h5, _⟩
      · exact .inl h5
      · exact .inr ⟨b, o, e, h5⟩
    · cases hc
  cases hx with
  | k x v hk =>
    cases x <;> simp only [St.cont] at hc <;> try cases hc
    exact slc _ _ _ hk hc
  | ob => simp [St.cont] at hc
  | pk => simp [St.cont] at hc
  | os d g off n' cap b o c hat hn hcc hm =>
    simp only [St.cont] at hc
    split at hc
    · rename_i cs' ho
      split at hc
      · rename_i hl
        injection hc with hc
        injection hc with e1 e2
        subst e1 e2
        obtain ⟨b', o', h1, h2⟩ := h.obj ho
        rw [hat] at h1
        injection h1 with h1
        injection h1 with e1 e2
        subst e1 e2
        exact ⟨_, c, rfl, by simp; omega, .inr ⟨b, o + off, rfl, (h2.drop off).take _⟩⟩
      · cases hc
    · cases hc
  | ow d g n' e cells r hr he hn hl hx hk =>
    simp only [St.cont] at hc
    exact slc _ _ _ hk hc

theorem Real.avn (h : Real P w0 K0 G us s a w) {x : SV} {v : Value} (hx : SRep G x v) : KRep G.K (x.avn s.md) v := by
  cases hx with
  | k x v hk => exact hk
  | ob => exact .any _
  | os => exact .any _
  | pk => exact .any _
  | ow d g n e cells r hr he hn hl hx hk =>
    unfold SV.avn
    cases s.md.nest with
    | true => exact .ow _ _ _ _ _ _ r ((h.krw d g).trans hr) he hn hl hx hk
    | false => exact hk
theorem Real.of_ (h : Real P w0 K0 G us s a w) {x : AV} {v : Value} (hx : KRep G.K x v) : SRep G (SV.of s.md x) v := by
  unfold SV.of
  split
  · rename_i δ d g n e cs
    cases hx with
    | ow _ _ _ _ _ _ r hr he hn hl hx hk =>
      split
      · rename_i q; subst q; exact .ow d g n e cs r ((h.krw d g).symm.trans hr) he hn hl hx hk
      · exact .k _ _ hk
  · exact .k _ _ hx
theorem aLoad_sound (h : Real P w0 K0 G us s a w) {t : TypeId} {x y : SV} {v : Value} (hx : SRep G x v) (ha : aLoad P s t x = some y) : ∃ r, (Instr.loadAt t v).run P w = .ok r w ∧ SRep G y r := by
  have ld : ∀ (b o : Nat) (cs : List AV) (r : AV), (tiOf P t).ok = true → CR G.K w b o cs → ldAgg (tiOf P t).un (tiOf P t).sz cs = some r → ∃ q, (loadVar t ⟨b, o, none⟩).run P w = .ok q w ∧ KRep G.K r q := by
    intro b o cs r hok hcr hl
    obtain ⟨i, z, d, hi, hz, _, _, hsz, _, _, hu⟩ := ti_ok hok
    have hag := run_isAgg hu w
    unfold loadVar
    simp only [Sem.run_bind, hag, Result.andThen_ok]
    have agg : ∀ (hle : (tiOf P t).sz ≤ cs.length), ∃ q, (do pure (Value.agg (← loadCells ⟨b, o, none⟩ (← sizeOf t))) : Sem Value).run P w = .ok q w ∧ KRep G.K (.agg (cs.take (tiOf P t).sz)) q := by
      intro hle
      obtain ⟨vs, k1, k2, k3, k4⟩ := (hcr.take (tiOf P t).sz).vals
      have hlen : vs.length = i.size := by rw [k1, ← hsz]; simp; omega
      have hrun := run_loadCells_list (P := P) w ⟨b, o, none⟩ vs k2
      rw [hlen] at hrun
      refine ⟨.agg vs.toArray, by simp [run_sizeOf' hi, hrun], .agg _ _ (by simp only [List.size_toArray]; exact k1) (fun i v hv => k3 v ?_) (fun i x v hx hv => k4 i x v hx (by simpa using hv))⟩
      rw [List.getElem?_toArray] at hv
      exact List.mem_of_getElem? hv
    unfold ldAgg at hl
    split at hl
    · rename_i fs hun
      split at hl
      · rename_i hle
        injection hl with hl; subst hl
        rw [hun]; exact agg hle
      · cases hl
    · rename_i hun
      split at hl
      · rename_i hle
        injection hl with hl; subst hl
        rw [hun]; exact agg hle
      · cases hl
    · cases hl
    · rename_i h1 h2 h3
      have hna : (tiOf P t).un.isAgg = false := by
        cases hq : (tiOf P t).un <;> first | rfl | exact absurd hq (h1 _) | exact absurd hq (h2 _ _) | exact absurd hq h3
      rw [hna]
      rw [List.head?_eq_getElem?] at hl
      obtain ⟨q, q1, q2, q3⟩ := hcr 0 r hl
      rw [Nat.add_zero] at q1
      exact ⟨q, by simp [load, Sem.run, q1], q3⟩
  unfold aLoad at ha
  split at ha
  · rename_i hok
    split at ha
    · rename_i cs
      cases hx with
      | k x v hk =>
        obtain ⟨b, o, rfl, hcr, _⟩ := hk.cr h.kok
        simp only [Option.map_eq_some_iff] at ha
        obtain ⟨r, hr, rfl⟩ := ha
        obtain ⟨q, hq, hk2⟩ := ld b o cs r hok hcr hr
        exact ⟨q, by simp [Instr.loadAt, Instr.sureAddr, hq], h.of_ hk2⟩
    · rename_i d g off
      simp only [Option.bind_eq_some_iff, Option.map_eq_some_iff] at ha
      obtain ⟨cs, ho, r, hr, rfl⟩ := ha
      cases hx with
      | ob d g off b o hat =>
        obtain ⟨b', o', h1, h2⟩ := h.obj ho
        rw [hat] at h1
        injection h1 with h1
        injection h1 with e1 e2
        subst e1 e2
        obtain ⟨q, hq, hk2⟩ := ld b (o + off) _ r hok (h2.drop off) hr
        exact ⟨q, by simp [Instr.loadAt, Instr.sureAddr, hq], h.of_ hk2⟩
    · cases ha
  · cases ha
end

end Go.Proofs.Ytikganlbnhapcaa

namespace Go.Proofs.Ytikganlbnhapcaa
open Go.RowKit
set_option linter.unusedVariables false
set_option linter.unusedSimpArgs false

theorem addr_add (b o k : Nat) : (⟨b, o, none⟩ : Addr).add k = ⟨b, o + k, none⟩ := by unfold Addr.add; split <;> simp_all
section
variable {P : Program} {w0 : Base} {w : World} {K0 : Anc} {G : Gh} {us : Nat → Prop} {s : St} {a : Act}
theorem KRep.sl_cp {K : Kd} {full : Bool} {n : Nat} {cs : List AV} {v : Value} (h : KRep K (.sl full n cs) v) (h0 : 0 < cs.length) :
    ∃ b o cap, v = .slice (some ⟨b, o, none⟩) n cap ∧ n ≤ cap ∧ cap ≤ maxLen ∧ (full = true → cap = n) ∧ KRep K (.cp cs) (.pointer (some ⟨b, o, none⟩)) := by
  cases h with
  | sl0 => simp at h0
  | sl full n cells b o cap hn hm hf h1 h3 => exact ⟨b, o, cap, rfl, hn, hm, hf, .cp _ _ _ h1 h3⟩
theorem KRep.cp_drop {K : Kd} {cs : List AV} {b o : Nat} (h : KRep K (.cp cs) (.pointer (some ⟨b, o, none⟩))) (k : Nat) (hk : k ≤ cs.length) : KRep K (.cp (cs.drop k)) (.pointer (some ⟨b, o + k, none⟩)) := by
  cases h with
  | cp _ _ _ h1 h3 =>
    refine .cp _ _ _ (by
      rw [List.length_drop]
      rcases h1.drop k with q | q
      · exact q
      · omega) fun i x hx => ?_
    rw [List.getElem?_drop] at hx
    rw [Nat.add_assoc]; exact h3 _ _ hx
theorem KRep.cp_cut {K : Kd} {cs : List AV} {b o : Nat} (h : KRep K (.cp cs) (.pointer (some ⟨b, o, none⟩))) (k : Nat) : KRep K (.cp (cs.take k)) (.pointer (some ⟨b, o, none⟩)) := by
  cases h with
  | cp _ _ _ h1 h3 =>
    refine .cp _ _ _ (h1.take (by simp; omega)) fun i x hx => ?_
    rw [List.getElem?_take] at hx
    split at hx
    · exact h3 _ _ hx
    · cases hx
theorem KRep.sl_of_cp {K : Kd} {cs : List AV} {b o : Nat} (h : KRep K (.cp cs) (.pointer (some ⟨b, o, none⟩))) (full : Bool) (n cap : Nat) (hn : n ≤ cap) (hm : cap ≤ maxLen) (hf : full = true → cap = n) :
    KRep K (.sl full n cs) (.slice (some ⟨b, o, none⟩) n cap) := by
  cases h with
  | cp _ _ _ h1 h3 => exact .sl _ _ _ _ _ _ hn hm hf h1 h3

theorem aArrPtr_sound (h : Real P w0 K0 G us s a w) {t : TypeId} {x y : SV} {v : Value} (hx : SRep G x v) (ha : aArrPtr (tiOf P t).un x = some y) : ∃ r, (Instr.arrayAt t v).run P w = .ok r w ∧ SRep G y r := by
  unfold aArrPtr at ha
  split at ha
  · rename_i n e full m cs hu
    rw [un_eq] at hu
    split at ha
    · rename_i hc
      injection ha with ha; subst ha
      cases hx with
      | k x v hk =>
        obtain ⟨b, o, cap, rfl, _, _, _, hk2⟩ := hk.sl_cp hc.2
        exact ⟨_, run_arrayAt w t _ n _ m cap (tu_arr hu) hc.1, .k _ _ hk2⟩
    · cases ha
  · rename_i n e d g m e' cs hu
    rw [un_eq] at hu
    split at ha
    · rename_i hc
      injection ha with ha; subst ha
      cases hx with
      | ow d g n' e cells r hr he hn hl hx hk =>
        obtain ⟨b, o, cap, hv, _, _, _, hk2⟩ := hk.sl_cp hc.2
        rw [hv]
        exact ⟨_, run_arrayAt w t _ n _ _ cap (tu_arr hu) hc.1, .k _ _ hk2⟩
    · cases ha
  · rename_i n e d g off m cap hu
    rw [un_eq] at hu
    split at ha
    · rename_i hc
      injection ha with ha; subst ha
      cases hx with
      | os d g off n' cap b o c hat hn hcc hm => exact ⟨_, run_arrayAt w t _ n _ _ c (tu_arr hu) hc, .ob _ _ _ _ _ hat⟩
    · cases ha
  · cases ha

theorem aField_sound (h : Real P w0 K0 G us s a w) {t : TypeId} {x y : SV} {v : Value} {f : Nat} (hx : SRep G x v) (ha : aField P t x f = some y) : ∃ r, (Instr.fieldAt t v f).run P w = .ok r w ∧ SRep G y r := by
  have fld : ∀ (fs : List (Nat × Nat)) (p : Nat × Nat) (ad : Addr), tuOf P (P.underlying t) = .st fs → fs[f]? = some p → 0 < p.2 → (Instr.fieldAt t (.pointer (some ad)) f).run P w = .ok (.pointer (some (ad.add p.1))) w := by
    intro fs p ad hu hp h0
    obtain ⟨fields, hd, rfl, _⟩ := tu_st hu
    rw [List.getElem?_map, Option.map_eq_some_iff] at hp
    obtain ⟨fl, hf, rfl⟩ := hp
    simp only at h0
    rw [Array.getElem?_toList] at hf
    cases hi : P.info? fl.type with
    | none => simp [hi] at h0
    | some i =>
      simp only [hi, Option.map_some, Option.getD_some] at h0
      have hz : i.size ≠ 0 := by omega
      simp [Instr.fieldAt, run_underlying hd, hf, Instr.sureAddr, fieldPlace, run_sizeOf' hi, hz]
  unfold aField at ha
  split at ha
  · split at ha
    · rename_i fs d g off hu
      rw [un_eq] at hu
      simp only [Option.bind_eq_some_iff] at ha
      obtain ⟨p, hp, ha⟩ := ha
      split at ha
      · rename_i h0
        injection ha with ha; subst ha
        cases hx with
        | ob d g off b o hat =>
          refine ⟨_, fld fs p _ hu hp h0, ?_⟩
          rw [addr_add, Nat.add_assoc]
          exact .ob _ _ _ _ _ hat
      · cases ha
    · rename_i fs cs hu
      rw [un_eq] at hu
      simp only [Option.bind_eq_some_iff] at ha
      obtain ⟨p, hp, ha⟩ := ha
      split at ha
      · rename_i h0
        injection ha with ha; subst ha
        cases hx with
        | k x v hk =>
          obtain ⟨b, o, rfl, _⟩ := hk.cr h.kok
          refine ⟨_, fld fs p _ hu hp h0.1, ?_⟩
          rw [addr_add]
          exact .k _ _ (hk.cp_drop _ h0.2)
      · cases ha
    · cases ha
  · cases ha

theorem run_idxSl {w : World} {t e : TypeId} {i : TypeInfo} (ht : P.underlying t = some (.slice e)) (hi : P.info? e = some i) (ad : Addr) (n cap : Nat) (k : IntKind) (j : Int) (h0 : 0 ≤ j) (h1 : j < n) :
    (Instr.indexAt t (.slice (some ad) n cap) (.int k j)).run P w = .ok (.pointer (some (ad.add (j.toNat * i.size)))) w := by
  simp [Instr.indexAt, asIntOf, run_underlying ht, run_sizeOf' hi, h0, h1]
theorem run_idxArr {w : World} {t e : TypeId} {i : TypeInfo} {n : Nat} (ht : P.underlying t = some (.array n e)) (hi : P.info? e = some i) (ad : Addr) (k : IntKind) (j : Int) (h0 : 0 ≤ j) (h1 : j < n) :
    (Instr.indexAt t (.pointer (some ad)) (.int k j)).run P w = .ok (.pointer (some (ad.add (j.toNat * i.size)))) w := by
  simp [Instr.indexAt, asIntOf, run_underlying ht, run_sizeOf' hi, h0, h1, Instr.sureAddr]
theorem mul_le_of {j : Int} {n z : Nat} (h0 : 0 ≤ j) (h1 : j < n) : j.toNat * z ≤ n * z := Nat.mul_le_mul_right z (by omega)
theorem aIdxAt_sound (h : Real P w0 K0 G us s a w) {t : TypeId} {x y : SV} {v : Value} {k : IntKind} {j : Int} (hx : SRep G x v) (ha : aIdxAt (tiOf P t).un (tiOf P) x j = some y) : ∃ r, (Instr.indexAt t v (.int k j)).run P w = .ok r w ∧ SRep G y r := by
  have slc : ∀ (full : Bool) (n : Nat) (cs : List AV) (e : TypeId) (v : Value), tuOf P (P.underlying t) = .sl e → KRep G.K (.sl full n cs) v → (tiOf P e).ok = true → 0 ≤ j → j < n → n * (tiOf P e).sz = cs.length → 0 < (tiOf P e).sz →
      ∃ r, (Instr.indexAt t v (.int k j)).run P w = .ok r w ∧ SRep G (.k (.cp (cs.drop (j.toNat * (tiOf P e).sz)))) r := by
    intro full n cs e v hu hk hok h0 h1 h2 h3
    obtain ⟨i, z, d, hi, hz, _, _, hsz, _⟩ := ti_ok hok
    have hpos : 0 < cs.length := by rw [← h2]; exact Nat.mul_pos (by omega) h3
    obtain ⟨b, o, cap, rfl, _, _, _, hk2⟩ := hk.sl_cp hpos
    refine ⟨_, run_idxSl (tu_sl hu) hi _ n cap k j h0 h1, ?_⟩
    rw [addr_add, ← hsz]
    exact .k _ _ (hk2.cp_drop _ (by rw [← h2]; exact mul_le_of h0 h1))
  unfold aIdxAt at ha
  split at ha
  · rename_i e full n cs hu
    rw [un_eq] at hu
    split at ha
    · rename_i hc
      injection ha with ha; subst ha
      cases hx with
      | k x v hk => exact slc full n cs e v hu hk hc.1 hc.2.1 hc.2.2.1 hc.2.2.2.1 hc.2.2.2.2
    · cases ha
  · rename_i e d g n e' cs hu
    rw [un_eq] at hu
    split at ha
    · rename_i hc
      injection ha with ha; subst ha
      cases hx with
      | ow d g n' e cells r hr he hn hl hx hk => exact slc false n cs _ _ hu hk hc.1 hc.2.1 hc.2.2.1 hc.2.2.2.1 hc.2.2.2.2
    · cases ha
  · rename_i e d g off n cap hu
    rw [un_eq] at hu
    split at ha
    · rename_i hc
      injection ha with ha; subst ha
      obtain ⟨i, z, d', hi, hz, _, _, hsz, _⟩ := ti_ok hc.1
      cases hx with
      | os d g off n' cap b o c hat hn hcc hm =>
        refine ⟨_, run_idxSl (tu_sl hu) hi _ n c k j hc.2.1 hc.2.2, ?_⟩
        rw [addr_add, ← hsz, Nat.add_assoc]
        exact .ob _ _ _ _ _ hat
    · cases ha
  · rename_i n e d g off hu
    rw [un_eq] at hu
    split at ha
    · rename_i hc
      injection ha with ha; subst ha
      obtain ⟨i, z, d', hi, hz, _, _, hsz, _⟩ := ti_ok hc.1
      cases hx with
      | ob d g off b o hat =>
        refine ⟨_, run_idxArr (tu_arr hu) hi _ k j hc.2.1 hc.2.2, ?_⟩
        rw [addr_add, ← hsz, Nat.add_assoc]
        exact .ob _ _ _ _ _ hat
    · cases ha
  · rename_i n e cs hu
    rw [un_eq] at hu
    split at ha
    · rename_i hc
      injection ha with ha; subst ha
      obtain ⟨i, z, d', hi, hz, _, _, hsz, _⟩ := ti_ok hc.1
      cases hx with
      | k x v hk =>
        obtain ⟨b, o, rfl, _⟩ := hk.cr h.kok
        refine ⟨_, run_idxArr (tu_arr hu) hi _ k j hc.2.1 hc.2.2.1, ?_⟩
        rw [addr_add, ← hsz]
        exact .k _ _ (hk.cp_drop _ (Nat.le_trans (mul_le_of hc.2.1 hc.2.2.1) hc.2.2.2))
    · cases ha
  · cases ha

theorem aExtract_sound {K : Kd} {G : Gh} (hG : G.K = K) {x : AV} {y : SV} {v : Value} {j : Nat} (hx : KRep K x v) (ha : aExtract x j = some y) : ∃ r, (Instr.extract v j).run P w = .ok r w ∧ SRep G y r := by
  subst hG
  unfold aExtract at ha
  split at ha
  · rename_i ps
    simp only [Option.map_eq_some_iff] at ha
    obtain ⟨q, hq, rfl⟩ := ha
    cases hx with
    | tup cells vs hl hr =>
      have hj := getq_lt hq
      refine ⟨vs[j]'(by omega), ?_, .k _ _ (hr j q _ hq (by simp [show j < vs.size by omega]))⟩
      have : vs[j]? = some (vs[j]'(by omega)) := by simp [show j < vs.size by omega]
      simp [Instr.extract, this]
  · cases ha
theorem isNil_sound {G : Gh} {x : SV} {v : Value} {t : Bool} (hx : SRep G x v) (hn : x.isNil = some t) : (t = true ∧ v = .pointer none) ∨ (t = false ∧ ∃ ad, v = .pointer (some ad)) := by
  unfold SV.isNil at hn
  split at hn
  · injection hn with hn; subst hn
    cases hx with
    | ob => exact .inr ⟨rfl, _, rfl⟩
  · injection hn with hn; subst hn
    cases hx with
    | k x v hk => cases hk with | cp => exact .inr ⟨rfl, _, rfl⟩
  · injection hn with hn; subst hn
    cases hx with
    | k x v hk => cases hk with | raw => exact .inl ⟨rfl, rfl⟩
  · cases hn
end

end Go.Proofs.Ytikganlbnhapcaa

namespace Go.Proofs.Ytikganlbnhapcaa
open Go.RowKit
set_option linter.unusedVariables false
set_option linter.unusedSimpArgs false

section
variable {P : Program} {w0 : Base} {w : World} {K0 : Anc} {G : Gh} {us : Nat → Prop} {s : St} {a : Act}
theorem aIdx_sound {K : Kd} {G : Gh} (hG : G.K = K) {t : TypeId} {x : AV} {y : SV} {v : Value} {k : IntKind} {j : Int} (hx : KRep K x v) (ha : aIdx (tiOf P t).un (tiOf P) x j = some y) : ∃ r, (Instr.index t v (.int k j)).run P w = .ok r w ∧ SRep G y r := by
  subst hG
  unfold aIdx at ha
  split at ha
  · rename_i n e cs hu
    rw [un_eq] at hu
    split at ha
    · rename_i hc
      obtain ⟨hok, h0, h1⟩ := hc
      obtain ⟨i, z, d, hi, hz, _, _, hsz, _, _, hue⟩ := ti_ok hok
      simp only [Option.map_eq_some_iff] at ha
      obtain ⟨r, hr, rfl⟩ := ha
      cases hx with
      | agg cells vs hl h1' hrr =>
        have hpart : (Instr.index t (.agg vs) (.int k j)).run P w = (part e vs (j.toNat * i.size)).run P w := by
          simp [Instr.index, asIntOf, run_underlying (tu_arr hu), h0, h1, run_sizeOf' hi]
        rw [hpart, ← hsz]
        have hag := run_isAgg hue w
        unfold part
        simp only [Sem.run_bind, hag, Result.andThen_ok]
        have agg : ∀ (hle : (tiOf P e).sz ≤ (cs.drop (j.toNat * (tiOf P e).sz)).length), ∃ q, (do pure (Value.agg (vs.extract (j.toNat * (tiOf P e).sz) (j.toNat * (tiOf P e).sz + (← sizeOf e)))) : Sem Value).run P w = .ok q w ∧ SRep G (.k (.agg ((cs.drop (j.toNat * (tiOf P e).sz)).take (tiOf P e).sz))) q := by
          intro hle
          refine ⟨.agg (vs.extract (j.toNat * (tiOf P e).sz) (j.toNat * (tiOf P e).sz + (tiOf P e).sz)), by simp [run_sizeOf' hi, hsz], .k _ _ (.agg _ _ ?_ (fun i v hv => ?_) (fun i x v hx hv => ?_))⟩
          · simp at hle; simp [Array.size_extract]; omega
          · rw [Array.getElem?_extract] at hv
            split at hv
            · exact h1' _ _ hv
            · cases hv
          · rw [Array.getElem?_extract] at hv
            rw [List.getElem?_take] at hx
            split at hv
            · split at hx
              · rw [List.getElem?_drop] at hx
                exact hrr _ _ _ hx hv
              · cases hx
            · cases hv
        unfold ldAgg at hr
        split at hr
        · rename_i fs hun
          split at hr
          · rename_i hle; injection hr with hr; subst hr; rw [hun]; exact agg hle
          · cases hr
        · rename_i hun
          split at hr
          · rename_i hle; injection hr with hr; subst hr; rw [hun]; exact agg hle
          · cases hr
        · cases hr
        · rename_i h1 h2 h3
          have hna : (tiOf P e).un.isAgg = false := by
            cases hq : (tiOf P e).un <;> first | rfl | exact absurd hq (h1 _) | exact absurd hq (h2 _ _) | exact absurd hq h3
          rw [hna]
          rw [List.head?_eq_getElem?, List.getElem?_drop, Nat.add_zero] at hr
          have hlt := getq_lt hr
          refine ⟨vs[j.toNat * (tiOf P e).sz]'(by omega), ?_, .k _ _ (hrr _ _ _ hr (by simp [show j.toNat * (tiOf P e).sz < vs.size by omega]))⟩
          have : vs[j.toNat * (tiOf P e).sz]? = some (vs[j.toNat * (tiOf P e).sz]'(by omega)) := by simp [show j.toNat * (tiOf P e).sz < vs.size by omega]
          simp [this]
    · cases ha
  · rename_i b hu
    rw [un_eq] at hu
    split at ha
    · rename_i hc
      injection ha with ha; subst ha
      cases hx with
      | str =>
        have : b[j.toNat]? = some (b[j.toNat]'hc.2) := by simp [hc.2]
        exact ⟨_, by simp [Instr.index, asIntOf, run_underlying (tu_str hu), hc.1, this], .k _ _ (.int _ _)⟩
    · cases ha
  · cases ha

theorem int_of {K : Kd} {s : St} {x : Operand} {v : Value} {n : Int} (hk : KRep K (s.ev x).av v) (hn : s.int? x = some n) : ∃ k, v = .int k n := by
  unfold St.int? at hn
  split at hn
  · rename_i k m he
    injection hn with hn; subst hn
    rw [he] at hk
    cases hk with | int => exact ⟨k, rfl⟩
  · cases hn
/-- a bound that is good -/
theorem run_sliceBound' {w : World} (k : IntKind) (i : Int) (y : Nat) (c : BoundsCode) (h0 : 0 ≤ i) (h1 : i ≤ y) : (Instr.sliceBound (.int k i) y c).run P w = .ok i.toNat w := by
  simp [Instr.sliceBound, asIntOf, h0, h1]
theorem run_bounds (h : Real P w0 K0 G us s a w) (isS : Bool) (len cap : Nat) {lo hi mx : Option Operand} {l hh : Int} (hl : s.bnd lo 0 = some l) (hh' : s.bnd hi len = some hh) (h0 : 0 ≤ l) (h1 : l ≤ hh) (h2 : hh ≤ cap)
    (hm : mx = none ∨ ∃ m, mx = some m ∧ hi.isSome = true ∧ s.int? m = some hh) :
    (Instr.sliceBounds isS len cap (lo.map a.eval) (hi.map a.eval) (mx.map a.eval)).run P w = .ok (l.toNat, hh.toNat, if mx.isSome then hh.toNat else cap) w := by
  have hlo : (lo = none ∧ l = 0) ∨ ∃ x k, lo = some x ∧ a.eval x = .int k l := by
    cases lo with
    | none => simp only [St.bnd] at hl; injection hl with hl; exact .inl ⟨rfl, hl.symm⟩
    | some x => obtain ⟨k, hk⟩ := int_of (h.ev x).av hl; exact .inr ⟨x, k, rfl, hk⟩
  have hhi : (hi = none ∧ hh = len) ∨ ∃ x k, hi = some x ∧ a.eval x = .int k hh := by
    cases hi with
    | none => simp only [St.bnd] at hh'; injection hh' with hh'; exact .inl ⟨rfl, hh'.symm⟩
    | some x => obtain ⟨k, hk⟩ := int_of (h.ev x).av hh'; exact .inr ⟨x, k, rfl, hk⟩
  have h3 : 0 ≤ hh := by omega
  have h4 : l ≤ (hh.toNat : Int) := by omega
  have h5 : hh ≤ (hh.toNat : Int) := by omega
  rcases hm with rfl | ⟨m, rfl, hs, hmm⟩
  · rcases hlo with ⟨rfl, rfl⟩ | ⟨x, k, rfl, hx⟩ <;> rcases hhi with ⟨rfl, rfl⟩ | ⟨y, k', rfl, hy⟩
    · simp [Instr.sliceBounds]
    · simp [Instr.sliceBounds, hy, run_sliceBound' _ _ _ _ h3 h2]
    · have h6 : l ≤ (len : Int) := h1
      simp [Instr.sliceBounds, hx, run_sliceBound' _ _ _ _ h0 h6]
    · simp [Instr.sliceBounds, hx, hy, run_sliceBound' _ _ _ _ h3 h2, run_sliceBound' _ _ _ _ h0 h4]
  · obtain ⟨km, hkm⟩ := int_of (h.ev m).av hmm
    rcases hhi with ⟨rfl, _⟩ | ⟨y, k', rfl, hy⟩
    · cases hs
    · rcases hlo with ⟨rfl, rfl⟩ | ⟨x, k, rfl, hx⟩
      · simp [Instr.sliceBounds, hy, hkm, run_sliceBound' _ _ _ _ h3 h2, run_sliceBound' _ _ _ _ h3 h5]
      · simp [Instr.sliceBounds, hx, hy, hkm, run_sliceBound' _ _ _ _ h3 h2, run_sliceBound' _ _ _ _ h3 h5, run_sliceBound' _ _ _ _ h0 h4]

theorem KRep.cut {K : Kd} {full : Bool} {n : Nat} {cs : List AV} {ad : Option Addr} {cap : Nat} (hk : KRep K (.sl full n cs) (.slice ad n cap)) (sz l h m : Nat) (full' : Bool) (h1 : l ≤ h) (h2 : h ≤ n) (hm : h ≤ m) (hm2 : m ≤ cap) (hc : n * sz = cs.length) (hz : 0 < sz)
    (hf : full' = true → m = h) : KRep K (.sl full'  (h - l) ((cs.take (h * sz)).drop (l * sz))) (.slice (if m = l then ad else ad.map (·.add (l * sz))) (h - l) (m - l)) := by
  have hcap : cap ≤ maxLen := by cases hk <;> assumption
  have hlen : ((cs.take (h * sz)).drop (l * sz)).length = (h - l) * sz := by
    have : h * sz ≤ cs.length := by rw [← hc]; exact Nat.mul_le_mul_right _ h2
    rw [List.length_drop, List.length_take, Nat.sub_mul]; omega
  by_cases h0 : h - l = 0
  · have : (cs.take (h * sz)).drop (l * sz) = [] := List.eq_nil_of_length_eq_zero (by rw [hlen, h0, Nat.zero_mul])
    rw [this, h0]
    exact .sl0 _ _ _ (by omega) (fun e => by have := hf e; omega)
  · have hpos : 0 < cs.length := by rw [← hc]; exact Nat.mul_pos (by omega) hz
    obtain ⟨b, o, cap', e, _, _, _, hk2⟩ := hk.sl_cp hpos
    injection e with e1 _ e3
    subst e1 e3
    rw [if_neg (by omega)]
    simp only [Option.map_some]
    rw [addr_add]
    have hk3 := (hk2.cp_cut (h * sz)).cp_drop (l * sz) (by rw [List.length_take, ← hc]; have := Nat.mul_le_mul_right sz h1; have := Nat.mul_le_mul_right sz h2; omega)
    exact hk3.sl_of_cp _ _ _ (by omega) (by omega) (fun e => by rw [hf e])

theorem aSlice_sound (h : Real P w0 K0 G us s a w) {t : TypeId} {x y : SV} {v : Value} {lo hi mx : Option Operand} (hx : SRep G x v) (ha : aSlice P s t x lo hi mx = some y) :
    ∃ r, (Instr.sliceAt t v (lo.map a.eval) (hi.map a.eval) (mx.map a.eval)).run P w = .ok r w ∧ SRep G y r := by
  unfold aSlice at ha
  simp only [Option.bind_eq_some_iff] at ha
  obtain ⟨n, hn, l, hl, hh, hh', ha⟩ := ha
  obtain ⟨mb, hmb, ha'⟩ : ∃ mb : Bool, (mb = false ∧ mx = none ∨ mb = true ∧ ∃ m, mx = some m ∧ hi.isSome = true ∧ s.int? m = some hh) ∧ aCut (tiOf P t).un (tiOf P) x l hh mb = some y := by
    split at ha
    · exact ⟨false, .inl ⟨rfl, rfl⟩, ha⟩
    · rename_i m
      split at ha
      · rename_i hc; exact ⟨true, .inr ⟨rfl, m, rfl, hc.1, hc.2⟩, ha⟩
      · cases ha
  replace ha := ha'
  clear ha'
  have hm : mx = none ∨ ∃ m, mx = some m ∧ hi.isSome = true ∧ s.int? m = some hh := by
    rcases hmb with ⟨_, q⟩ | ⟨_, q⟩
    · exact .inl q
    · exact .inr q
  have hmis : mx.isSome = mb := by
    rcases hmb with ⟨q1, q⟩ | ⟨q1, m, q, _⟩ <;> subst q1 q <;> rfl
  -- a slice of memory that never turns
  have slc : ∀ (full : Bool) (cs : List AV) (e : TypeId) (v : Value) (full' : Bool), tuOf P (P.underlying t) = .sl e → KRep G.K (.sl full n cs) v → (tiOf P e).ok = true → 0 ≤ l → l ≤ hh → hh ≤ n → n * (tiOf P e).sz = cs.length →
      (full' = true → mb = true ∨ (full = true ∧ hh = n)) →
      ∃ r, (Instr.sliceAt t v (lo.map a.eval) (hi.map a.eval) (mx.map a.eval)).run P w = .ok r w ∧ SRep G (.k (.sl full'  (hh.toNat - l.toNat) ((cs.take (hh.toNat * (tiOf P e).sz)).drop (l.toNat * (tiOf P e).sz)))) r := by
    intro full cs e v full' hu hk hok h0 h1 h2 h3 hf
    obtain ⟨i, z, d, hi', hz, _, _, hsz, _⟩ := ti_ok hok
    obtain ⟨ad, cap, rfl, hnc, hcm, hfull, _⟩ := hk.cr_sl h.kok
    have hb := run_bounds (P := P) h true n cap hl hh' h0 h1 (by omega) hm
    rw [hmis] at hb
    have hrun : (Instr.sliceAt t (.slice ad n cap) (lo.map a.eval) (hi.map a.eval) (mx.map a.eval)).run P w = .ok (.slice (if (if mb then hh.toNat else cap) = l.toNat then ad else ad.map (·.add (l.toNat * i.size))) (hh.toNat - l.toNat) ((if mb then hh.toNat else cap) - l.toNat)) w := by
      simp [Instr.sliceAt, run_underlying (tu_sl hu), Instr.slice, hb, run_sizeOf' hi']
    refine ⟨_, hrun, .k _ _ ?_⟩
    rw [← hsz]
    by_cases hz0 : 0 < (tiOf P e).sz
    · refine hk.cut _ _ _ _ _ (by omega) (by omega) (by split <;> omega) (by split <;> omega) h3 hz0 ?_
      intro hq
      rcases hf hq with q | ⟨q1, q2⟩
      · rw [q]; rfl
      · have := hfull q1; split <;> omega
    · have hz1 : (tiOf P e).sz = 0 := by omega
      have hcs : cs = [] := List.eq_nil_of_length_eq_zero (by rw [← h3, hz1, Nat.mul_zero])
      subst hcs
      rw [hz1]
      simp only [Nat.mul_zero, List.take_nil, List.drop_nil]
      cases hk with
      | sl0 _ _ _ hm' hf' =>
        have e1 : hh.toNat - l.toNat = 0 := by omega
        rw [e1]
        refine .sl0 _ _ _ (by split <;> omega) ?_
        intro hq
        rcases hf hq with q | ⟨q1, q2⟩
        · rw [q]; simp; omega
        · have := hf' q1; split <;> omega
      | sl _ _ _ b o _ hn' hm' hf' g1 g3 =>
        have hadd : (if (if mb = true then hh.toNat else cap) = l.toNat then some (⟨b, o, none⟩ : Addr) else Option.map (fun x : Addr => x.add 0) (some (⟨b, o, none⟩ : Addr))) = some (⟨b, o, none⟩ : Addr) := by repeat (first | rfl | split)
        rw [hadd]
        refine .sl _ _ _ _ _ _ ?_ ?_ ?_ g1 g3
        · split <;> omega
        · split <;> omega
        · intro hq
          rcases hf hq with q | ⟨q1, q2⟩
          · rw [q]; simp
          · have := hf' q1; split <;> omega
  unfold aCut at ha
  split at ha
  · rename_i e full n' cs hu
    simp only [lenSV, hu] at hn
    injection hn with hn; subst hn
    rw [un_eq] at hu
    split at ha
    · rename_i hc
      injection ha with ha; subst ha
      obtain ⟨c1, c2, c3, c4, c5⟩ := hc
      cases hx with
      | k x v hk =>
        refine slc full cs e v _ hu hk c1 c2 c3 c4 c5 fun hq => ?_
        simp only [Bool.or_eq_true, Bool.and_eq_true, decide_eq_true_eq] at hq
        exact hq
    · cases ha
  · rename_i e d g n' e' cs hu
    simp only [lenSV, hu] at hn
    injection hn with hn; subst hn
    rw [un_eq] at hu
    split at ha
    · rename_i hc
      injection ha with ha; subst ha
      obtain ⟨c1, c2, c3, c4, c5⟩ := hc
      cases hx with
      | ow d g n' e cells r hr he hn hl hx hk => exact slc false cs _ _ _ hu hk c1 c2 c3 c4 c5 fun hq => .inl hq
    · cases ha
  · rename_i e d g off n' cap hu
    simp only [lenSV, hu] at hn
    injection hn with hn; subst hn
    rw [un_eq] at hu
    split at ha
    · rename_i hc
      injection ha with ha; subst ha
      obtain ⟨c1, c2, c3, c4, c5, c6⟩ := hc
      subst c6
      obtain ⟨i, z, d', hi', hz, _, _, hsz, _⟩ := ti_ok c1
      have hmn : mx = none := by rcases hmb with ⟨_, q⟩ | ⟨q, _⟩; exact q; cases q
      subst hmn
      cases hx with
      | os d g off n' cap b o c hat hn hcc hm' =>
        have hb := run_bounds (P := P) h true n' c hl hh' c2 c3 (by omega) hm
        rw [hmis] at hb
        simp only [Option.map_none] at hb
        refine ⟨_, by simp [Instr.sliceAt, run_underlying (tu_sl hu), Instr.slice, hb, run_sizeOf' hi']; rfl, ?_⟩
        rw [if_neg (by omega), addr_add, ← hsz, Nat.add_assoc]
        exact .os _ _ _ _ _ _ _ _ hat (by omega) (by omega) (by omega)
    · cases ha
  · rename_i n' e d g off hu
    simp only [lenSV, hu] at hn
    injection hn with hn; subst hn
    rw [un_eq] at hu
    split at ha
    · rename_i hc
      injection ha with ha; subst ha
      obtain ⟨c1, c2, c3, c4, c5, c5', c6⟩ := hc
      subst c6
      obtain ⟨i, z, d', hi', hz, _, _, hsz, _⟩ := ti_ok c1
      have hb := run_bounds (P := P) h false n' n' hl hh' c2 c3 (by omega) hm
      rw [hmis] at hb
      have hmn : mx = none := by rcases hmb with ⟨_, q⟩ | ⟨q, _⟩; exact q; cases q
      subst hmn
      simp only [Option.map_none] at hb
      cases hx with
      | ob d g off b o hat =>
        refine ⟨_, by simp [Instr.sliceAt, run_underlying (tu_arr hu), Instr.sureAddr, hb, run_sizeOf' hi']; rfl, ?_⟩
        rw [if_neg (by omega), addr_add, ← hsz, Nat.add_assoc]
        exact .os _ _ _ _ _ _ _ _ hat (by omega) (Nat.le_refl _) (by unfold maxLen; omega)
    · cases ha
  · rename_i n' e cs hu
    simp only [lenSV, hu] at hn
    injection hn with hn; subst hn
    rw [un_eq] at hu
    split at ha
    · rename_i hc
      injection ha with ha; subst ha
      obtain ⟨c1, c2, c3, c4, c5, c5', c7, c6⟩ := hc
      subst c6
      obtain ⟨i, z, d', hi', hz, _, _, hsz, _⟩ := ti_ok c1
      have hb := run_bounds (P := P) h false n' n' hl hh' c2 c3 (by omega) hm
      rw [hmis] at hb
      have hmn : mx = none := by rcases hmb with ⟨_, q⟩ | ⟨q, _⟩; exact q; cases q
      subst hmn
      simp only [Option.map_none] at hb
      cases hx with
      | k x v hk =>
        obtain ⟨b, o, rfl, _⟩ := hk.cr h.kok
        refine ⟨_, by simp [Instr.sliceAt, run_underlying (tu_arr hu), Instr.sureAddr, hb, run_sizeOf' hi']; rfl, ?_⟩
        rw [if_neg (by omega), addr_add, ← hsz]
        have q1 : l.toNat * (tiOf P e).sz ≤ hh.toNat * (tiOf P e).sz := Nat.mul_le_mul_right _ (by omega)
        have q2 : hh.toNat * (tiOf P e).sz ≤ n' * (tiOf P e).sz := Nat.mul_le_mul_right _ (by omega)
        have hk3 := (hk.cp_cut (hh.toNat * (tiOf P e).sz)).cp_drop (l.toNat * (tiOf P e).sz) (by rw [List.length_take]; omega)
        exact .k _ _ (hk3.sl_of_cp _ _ _ (by omega) (by unfold maxLen; omega) (fun q => by simp at q; omega))
    · cases ha
  · rename_i b hu
    simp only [lenSV, hu] at hn
    injection hn with hn; subst hn
    rw [un_eq] at hu
    split at ha
    · rename_i hc
      injection ha with ha; subst ha
      obtain ⟨c2, c3, c4, c6⟩ := hc
      subst c6
      have hb := run_bounds (P := P) h false b.size b.size hl hh' c2 c3 (by omega) hm
      rw [hmis] at hb
      have hmn : mx = none := by rcases hmb with ⟨_, q⟩ | ⟨q, _⟩; exact q; cases q
      subst hmn
      simp only [Option.map_none] at hb
      cases hx with
      | k x v hk =>
        cases hk with
        | str => exact ⟨_, by simp [Instr.sliceAt, run_underlying (tu_str hu), Instr.slice, hb], .k _ _ (.str _)⟩
    · cases ha
  · cases ha
end

end Go.Proofs.Ytikganlbnhapcaa

namespace Go.Proofs.Ytikganlbnhapcaa
open Go.RowKit
set_option linter.unusedVariables false
set_option linter.unusedSimpArgs false

section
variable {P : Program} {w0 : Base} {w : World} {K0 : Anc} {G : Gh} {us : Nat → Prop} {s : St} {a : Act}
/-- values and their abstract ones, cell by cell -/
def CellsR (K : Kd) (cs : List AV) (vs : Array Value) : Prop := vs.size = cs.length ∧ (∀ (i : Nat) (v : Value), vs[i]? = some v → v.oneCell' = true) ∧ ∀ (i : Nat) (x : AV) (v : Value), cs[i]? = some x → vs[i]? = some v → KRep K x v
theorem KRep.cells {K : Kd} {x : AV} {v : Value} (h : KRep K x v) (hf : x.flat = true) : CellsR K x.cells v.cells := by
  have one : ∀ (x : AV) (v : Value), x.cells = [x] → v.cells = #[v] → v.oneCell' = true → KRep K x v → CellsR K x.cells v.cells := by
    intro x v h1 h2 h3 h4
    rw [h1, h2]
    refine ⟨rfl, fun i u hu => ?_, fun i y u hy hu => ?_⟩
    · cases i with
      | zero => simp at hu; subst hu; exact h3
      | succ i => simp at hu
    · cases i with
      | zero => simp at hu hy; subst hu hy; exact h4
      | succ i => simp at hu
  cases h with
  | any => cases hf
  | tup => cases hf
  | int k n => exact one _ _ rfl rfl rfl (.int k n)
  | bool b => exact one _ _ rfl rfl rfl (.bool b)
  | str b => exact one _ _ rfl rfl rfl (.str b)
  | raw v hv =>
    refine one _ _ rfl ?_ hv (.raw v hv)
    cases v <;> first | rfl | cases hv
  | cp cells b o h1 h3 => exact one _ _ rfl rfl rfl (.cp cells b o h1 h3)
  | sl0 full ad cap hm hf' => exact one _ _ rfl rfl rfl (.sl0 full ad cap hm hf')
  | sl full n cells b o cap hn hm hf' h1 h3 => exact one _ _ rfl rfl rfl (.sl full n cells b o cap hn hm hf' h1 h3)
  | agg cells vs hl h1 h => exact ⟨hl, h1, h⟩
  | fn f caps vs hl hc => exact one _ _ rfl rfl rfl (.fn f caps vs hl hc)
  | ow δ d g n e cs r hr he hn hl hx hk =>
    have hs : ∃ p m c, r.v = .slice p m c := by
      generalize r.v = q at hk
      cases hk with
      | sl0 => exact ⟨_, _, _, rfl⟩
      | sl => exact ⟨_, _, _, rfl⟩
    obtain ⟨p, m, c, e1⟩ := hs
    refine one _ _ rfl ?_ ?_ (.ow δ d g n e cs r hr he hn hl hx hk)
    · rw [e1]; rfl
    · rw [e1]; rfl
theorem CellsR.zero {K : Kd} (z : Array Value) (h1 : ∀ c ∈ z, c.oneCell' = true) : CellsR K (z.toList.map ofVal) z := by
  refine ⟨by simp, fun i v hv => h1 v (Array.mem_of_getElem? hv), fun i x v hx hv => ?_⟩
  rw [List.getElem?_map, Array.getElem?_toList, hv] at hx
  simp at hx; subst hx; exact ofVal_rep _ v
theorem foldl_put (off : Nat) : ∀ (l : List Value) (j : Nat) (cs : Array Value), off + j + l.length ≤ cs.size →
    ((l.zipIdx j).foldl (fun cs (c, j) => cs.setIfInBounds (off + j) c) cs).toList = cs.toList.take (off + j) ++ l ++ cs.toList.drop (off + j + l.length)
  | [], j, cs, _ => by simp
  | c :: l, j, cs, h => by
    simp only [List.length_cons] at h
    simp only [List.zipIdx_cons, List.foldl_cons]
    rw [foldl_put off l (j + 1) _ (by simp; omega)]
    have hlt : off + j < cs.toList.length := by simp; omega
    rw [Array.toList_setIfInBounds, List.length_cons]
    rw [show off + (j + 1) = off + j + 1 by omega]
    rw [List.take_succ_eq_append_getElem (by simpa using hlt)]
    rw [List.take_set_of_le (Nat.le_refl _)]
    rw [List.drop_set_of_lt (by omega)]
    simp
    omega
theorem CellsR.put {K : Kd} {cs : List AV} {vs : Array Value} (h : CellsR K cs vs) {xs : List AV} {us : Array Value} (k : CellsR K xs us) (off : Nat) (hfit : off + xs.length ≤ cs.length) :
    CellsR K (cs.take off ++ xs ++ cs.drop (off + xs.length)) (us.zipIdx.foldl (fun cs (c, j) => cs.setIfInBounds (off + j) c) vs) := by
  have hl := foldl_put off us.toList 0 vs (by have := h.1; have := k.1; simp; omega)
  rw [Nat.add_zero] at hl
  have he : (us.zipIdx.foldl (fun cs (c, j) => cs.setIfInBounds (off + j) c) vs).toList = vs.toList.take off ++ us.toList ++ vs.toList.drop (off + us.toList.length) := by
    rw [← hl, ← Array.foldl_toList, Array.toList_zipIdx]
  have hget : ∀ i, (us.zipIdx.foldl (fun cs (c, j) => cs.setIfInBounds (off + j) c) vs)[i]? = (vs.toList.take off ++ us.toList ++ vs.toList.drop (off + us.toList.length))[i]? := fun i => by rw [← he, Array.getElem?_toList]
  obtain ⟨h1, h2, h3⟩ := h
  obtain ⟨k1, k2, k3⟩ := k
  have kl : us.toList.length = xs.length := by simpa using k1
  have hvl : vs.toList.length = cs.length := by simpa using h1
  have part : ∀ (i : Nat) (v : Value), (vs.toList.take off ++ us.toList ++ vs.toList.drop (off + us.toList.length))[i]? = some v →
      (i < off ∧ vs[i]? = some v ∧ (cs.take off ++ xs ++ cs.drop (off + xs.length))[i]? = cs[i]?) ∨ (off ≤ i ∧ i < off + xs.length ∧ us[i - off]? = some v ∧ (cs.take off ++ xs ++ cs.drop (off + xs.length))[i]? = xs[i - off]?) ∨ (off + xs.length ≤ i ∧ vs[i]? = some v ∧ (cs.take off ++ xs ++ cs.drop (off + xs.length))[i]? = cs[i]?) := by
    intro i v hv
    have lt1 : (vs.toList.take off).length = off := by simp; omega
    have lt2 : (cs.take off).length = off := by simp; omega
    rw [List.append_assoc] at hv ⊢
    by_cases c1 : i < off
    · rw [List.getElem?_append_left (by omega), List.getElem?_take, if_pos c1, Array.getElem?_toList] at hv
      exact .inl ⟨c1, hv, by rw [List.getElem?_append_left (by omega), List.getElem?_take, if_pos c1]⟩
    · rw [List.getElem?_append_right (by omega), lt1] at hv
      by_cases c2 : i < off + xs.length
      · rw [List.getElem?_append_left (by omega), Array.getElem?_toList] at hv
        exact .inr (.inl ⟨by omega, c2, hv, by rw [List.getElem?_append_right (by omega), lt2, List.getElem?_append_left (by omega)]⟩)
      · rw [List.getElem?_append_right (by omega), List.getElem?_drop, Array.getElem?_toList] at hv
        refine .inr (.inr ⟨by omega, ?_, ?_⟩)
        · rwa [show off + us.toList.length + (i - off - us.toList.length) = i by omega] at hv
        · rw [List.getElem?_append_right (by omega), lt2, List.getElem?_append_right (by omega), List.getElem?_drop]; congr 1; omega
  refine ⟨?_, fun i v hv => ?_, fun i x v hx hv => ?_⟩
  · rw [← Array.length_toList, he]; simp; omega
  · rw [hget] at hv
    rcases part i v hv with ⟨_, q, _⟩ | ⟨_, _, q, _⟩ | ⟨_, q, _⟩
    · exact h2 _ _ q
    · exact k2 _ _ q
    · exact h2 _ _ q
  · rw [hget] at hv
    rcases part i v hv with ⟨_, q, e⟩ | ⟨_, _, q, e⟩ | ⟨_, q, e⟩
    · rw [e] at hx; exact h3 _ _ _ hx q
    · rw [e] at hx; exact k3 _ _ _ hx q
    · rw [e] at hx; exact h3 _ _ _ hx q
theorem aFill_sound {K : Kd} (place : Nat → Option (Nat × Nat)) : ∀ (l : List (Nat × AV)) (l' : List (Nat × Value)) (cs cs' : List AV) (vs : Array Value), CellsR K cs vs → l.length = l'.length →
    (∀ (i : Nat) (p : Nat × AV) (q : Nat × Value), l[i]? = some p → l'[i]? = some q → p.1 = q.1 ∧ KRep K p.2 q.2) → aFill place cs l = some cs' → ∃ vs', Instr.fill place vs l' = some vs' ∧ CellsR K cs' vs'
  | [], [], cs, cs', vs, h, _, _, ha => by simp only [aFill, Option.some.injEq] at ha; subst ha; exact ⟨vs, rfl, h⟩
  | (i, x) :: l, [], _, _, _, _, hl, _, _ => by simp at hl
  | [], _ :: _, _, _, _, _, hl, _, _ => by simp at hl
  | (i, x) :: l, (i', v) :: l', cs, cs', vs, h, hl, hr, ha => by
    obtain ⟨e, hk⟩ := hr 0 _ _ rfl rfl
    simp only at e hk
    subst e
    simp only [aFill] at ha
    cases hp : place i with
    | none => simp [hp] at ha
    | some p =>
      obtain ⟨off, size⟩ := p
      simp only [hp] at ha
      split at ha
      · rename_i hc
        obtain ⟨c1, c2, c3⟩ := hc
        have hcell := hk.cells c1
        have hput := h.put hcell off (by omega)
        rw [c2] at hput
        obtain ⟨vs', g1, g2⟩ := aFill_sound place l l' _ cs' _ hput (by simpa using hl) (fun j p q h1 h2 => hr (j + 1) p q (by simpa using h1) (by simpa using h2)) ha
        refine ⟨vs', ?_, g2⟩
        simp only [Instr.fill, hp]
        have s1 : v.cells.size = size := by rw [hcell.1]; exact c2
        have s2 := h.1
        rw [if_neg (by simp; omega)]
        exact g1
      · cases ha
theorem parts_rep (h : Real P w0 K0 G us s a w) (parts : List (Nat × Operand)) : (parts.map fun (j, x) => (j, s.avn x)).length = (parts.map fun (j, x) => (j, a.eval x)).length ∧
    ∀ (i : Nat) (p : Nat × AV) (q : Nat × Value), (parts.map fun (j, x) => (j, s.avn x))[i]? = some p → (parts.map fun (j, x) => (j, a.eval x))[i]? = some q → p.1 = q.1 ∧ KRep G.K p.2 q.2 := by
  refine ⟨by simp, fun i p q hp hq => ?_⟩
  rw [List.getElem?_map, Option.map_eq_some_iff] at hp hq
  obtain ⟨r, hr, rfl⟩ := hp
  obtain ⟨r', hr', rfl⟩ := hq
  rw [hr] at hr'
  injection hr' with e; subst e
  exact ⟨rfl, h.avn (h.ev r.2)⟩
theorem map_parts (parts : Array (Nat × Operand)) : (parts.map fun (i, x) => (i, a.eval x)).toList = parts.toList.map fun (j, x) => (j, a.eval x) := by simp
theorem fields_ok {fs : List Field} (hall : ∀ f ∈ fs, (P.info? f.type).isSome = true) : fs.mapM (fun f => (P.info? f.type).map fun i => (f.offset, i.size)) = some (fs.map fun f => (f.offset, ((P.info? f.type).map (·.size)).getD 0)) := by
  induction fs with
  | nil => rfl
  | cons f fs ih =>
    obtain ⟨i, hi⟩ := Option.isSome_iff_exists.1 (hall f (by simp))
    rw [List.mapM_cons, ih (fun f hf => hall f (by simp [hf]))]
    simp [hi]
end

end Go.Proofs.Ytikganlbnhapcaa

namespace Go.Proofs.Ytikganlbnhapcaa
open Go.RowKit
set_option linter.unusedVariables false
set_option linter.unusedSimpArgs false

section
variable {P : Program} {w0 : Base} {w : World} {K0 : Anc} {G : Gh} {us : Nat → Prop} {s : St} {a : Act}
theorem aBuild_sound (h : Real P w0 K0 G us s a w) {t : TypeId} {parts : Array (Nat × Operand)} {y : SV} (ha : aBuild P s t parts.toList = some y) :
    ∃ r, (Instr.build t (parts.map fun (i, x) => (i, a.eval x))).run P w = .ok r w ∧ SRep G y r := by
  unfold aBuild at ha
  split at ha
  · rename_i hok
    obtain ⟨i, z, d, hi, hz, hzs, hz1, hsz, _, hzr, hu⟩ := ti_ok hok
    have hp := parts_rep h parts.toList
    split at ha
    · rename_i fs hun
      rw [un_eq, hu] at hun
      obtain ⟨f, hd, hfs, hall⟩ := tu_st hun
      injection hd with hd; subst hd
      simp only [Option.map_eq_some_iff] at ha
      obtain ⟨cs, hf, rfl⟩ := ha
      rw [hzr] at hf
      obtain ⟨vs, g1, g2⟩ := aFill_sound _ _ _ _ _ z.cells (CellsR.zero (K := G.K) z.cells hz1) hp.1 hp.2 hf
      refine ⟨.agg vs, run_build w t _ vs ?_, .k _ _ (.agg _ _ g2.1 g2.2.1 g2.2.2)⟩
      unfold Program.built
      simp only [hi, hu, hz, fields_ok hall, map_parts]
      rw [← g1]
      congr 1
      funext j
      rw [hfs]; simp
    · rename_i n e hun
      rw [un_eq, hu] at hun
      have hd := tu_arr hun
      injection hd with hd; subst hd
      split at ha
      · rename_i hok2
        obtain ⟨ie, ze, de, hie, _, _, _, hsze, _⟩ := ti_ok hok2
        simp only [Option.map_eq_some_iff] at ha
        obtain ⟨cs, hf, rfl⟩ := ha
        rw [hzr] at hf
        obtain ⟨vs, g1, g2⟩ := aFill_sound _ _ _ _ _ z.cells (CellsR.zero (K := G.K) z.cells hz1) hp.1 hp.2 hf
        refine ⟨.agg vs, run_build w t _ vs ?_, .k _ _ (.agg _ _ g2.1 g2.2.1 g2.2.2)⟩
        unfold Program.built
        simp only [hi, hu, hz, hie, map_parts]
        rw [← g1, hsze]
      · cases ha
    · cases ha
  · cases ha
theorem aByte_rep {K : Kd} {x : AV} {v : Value} {b : UInt8} (hk : KRep K x v) (hb : aByte x = some b) : ∃ n : Int, v = .int .u8 n ∧ b = UInt8.ofNat n.toNat := by
  unfold aByte at hb
  split at hb
  · rename_i n
    injection hb with hb
    cases hk with | int => exact ⟨n, rfl, hb.symm⟩
  · cases hb
theorem aBytes_rep {K : Kd} : ∀ {cs : List AV} {vs : List Value} {l : List UInt8}, vs.length = cs.length → (∀ (i : Nat) (x : AV) (v : Value), cs[i]? = some x → vs[i]? = some v → KRep K x v) → aBytes cs = some l →
    ∃ ns : List Int, vs = ns.map (Value.int .u8) ∧ l = ns.map fun n => UInt8.ofNat n.toNat
  | [], [], l, _, _, ha => by simp only [aBytes, Option.some.injEq] at ha; subst ha; exact ⟨[], rfl, rfl⟩
  | [], _ :: _, _, hl, _, _ => by simp at hl
  | _ :: _, [], _, hl, _, _ => by simp at hl
  | x :: cs, v :: vs, l, hl, hr, ha => by
    simp only [aBytes] at ha
    split at ha
    · rename_i b l' hb hl'
      injection ha with ha; subst ha
      obtain ⟨n, rfl, rfl⟩ := aByte_rep (hr 0 x v rfl rfl) hb
      obtain ⟨ns, rfl, rfl⟩ := aBytes_rep (by simpa using hl) (fun i x v h1 h2 => hr (i + 1) x v (by simpa using h1) (by simpa using h2)) hl'
      exact ⟨n :: ns, rfl, rfl⟩
    · cases ha
theorem push_all (ns : List Int) : ns.foldl (fun r n => r.push (UInt8.ofNat n.toNat)) ByteArray.empty = ⟨(ns.map fun n => UInt8.ofNat n.toNat).toArray⟩ := by
  have gen : ∀ (ns : List Int) (r : ByteArray), ns.foldl (fun r n => r.push (UInt8.ofNat n.toNat)) r = ⟨r.data ++ (ns.map fun n => UInt8.ofNat n.toNat).toArray⟩ := by
    intro ns
    induction ns with
    | nil => intro r; simp
    | cons n ns ih =>
      intro r
      rw [List.foldl_cons, ih]
      congr 1
      show r.data.push _ ++ _ = _
      simp
  rw [gen]
  congr 1
  show #[] ++ _ = _
  simp
theorem aConv_sound (h : Real P w0 K0 G us s a w) {t u : TypeId} {x y : SV} {v : Value} (hx : SRep G x v) (ha : aConv P s t u x = some y) : ∃ r, (convert t u v).run P w = .ok r w ∧ SRep G y r := by
  unfold aConv at ha
  split at ha
  · rename_i hok
    obtain ⟨i, z, d, hi, hz, hzs, hz1, hsz, _, hzr, hu⟩ := ti_ok hok
    split at ha
    · rename_i e hun1 hun2
      have ht := tu_sl hun1
      have hd2 := tu_str hun2
      split at ha
      · rename_i hune
        have he := tu_int hune
        simp only [Option.map_eq_some_iff, Option.bind_eq_some_iff] at ha
        obtain ⟨l, ⟨⟨n, cs⟩, hc, hb⟩, rfl⟩ := ha
        obtain ⟨ad, cap, rfl, hl, hmem⟩ := h.cont hc hx
        rw [Nat.mul_one] at hl
        have hconv : (convert t u (.slice ad n cap)).run P w = (Conv.bytesToString (.slice ad n cap)).run P w := by
          cases ad <;> simp [convert, run_underlying ht, run_underlying hd2, run_underlying he]
        rw [hconv]
        simp only at hb hl
        rcases hmem with hnil | ⟨b, o, rfl, hcr⟩
        · have hnil' : cs = [] := hnil
          subst hnil'
          simp at hl; subst hl
          simp only [aBytes, Option.some.injEq] at hb; subst hb
          cases ad with
          | none => exact ⟨_, rfl, .k _ _ (.str _)⟩
          | some p =>
            have hl0 : (loadCells p 0).run P w = .ok (([] : List Int).map (Value.int .u8)).toArray w := rfl
            exact ⟨_, run_bytesToString w p 0 cap [] hl0, .k _ _ (.str _)⟩
        · obtain ⟨vs, k1, k2, k3, k4⟩ := hcr.vals
          obtain ⟨ns, rfl, rfl⟩ := aBytes_rep k1 k4 hb
          have hrun := run_loadCells_list (P := P) w ⟨b, o, none⟩ _ k2
          rw [k1, hl] at hrun
          refine ⟨_, run_bytesToString w ⟨b, o, none⟩ n cap ns hrun, ?_⟩
          rw [push_all]
          exact .k _ _ (.str _)
      · cases ha
    · rename_i k hns hun2
      have hd2 := tu_int hun2
      split at ha
      · rename_i k' n hxa
        injection ha with ha; subst ha
        have hk := hx.av
        rw [hxa] at hk
        cases hk with
        | int => exact ⟨_, by simp [convert, run_underlying hu, run_underlying hd2, Conv.intToInt], .k _ _ (.int _ _)⟩
      · cases ha
    · cases ha
  · cases ha
theorem lenSV_sound {t : TypeId} {G : Gh} {x : SV} {v : Value} {n : Nat} (ty : TypeId) (hx : SRep G x v) (hn : lenSV (tiOf P t).un x = some n) : (Builtin.len_ #[t] ty #[v]).run P w = .ok (.int .i64 n) w := by
  unfold lenSV at hn
  split at hn
  · rename_i e full n' cs hun
    injection hn with hn; subst hn
    cases hx with
    | k x v hk =>
      have ht := tu_sl hun
      cases hk <;> simp [Builtin.len_, run_underlying ht, goInt]
  · rename_i e d g n' e' cs hun
    injection hn with hn; subst hn
    have ht := tu_sl hun
    cases hx with
    | ow d g n'' e cells r hr he hn hl hx hk =>
      have : ∃ ad cap, r.v = .slice ad n' cap := by
        generalize r.v = q at hk
        cases hk <;> exact ⟨_, _, rfl⟩
      obtain ⟨ad, cap, e⟩ := this
      rw [e]
      simp [Builtin.len_, run_underlying ht, goInt]
  · rename_i e d g off n' cap hun
    injection hn with hn; subst hn
    have ht := tu_sl hun
    cases hx with
    | os => simp [Builtin.len_, run_underlying ht, goInt]
  · rename_i b hun
    injection hn with hn; subst hn
    have ht := tu_str hun
    cases hx with
    | k x v hk => cases hk with | str => simp [Builtin.len_, run_underlying ht, goInt]
  · rename_i n' e hun
    injection hn with hn; subst hn
    have ht := tu_arr hun
    simp [Builtin.len_, run_underlying ht, goInt]
  · cases hn
theorem pickSV_sound {G : Gh} {t : Bool} {x y : SV} {u v : Value} (hx : SRep G x u) (hy : SRep G y v) : SRep G (pickSV t x y) (if t then u else v) := by
  unfold pickSV
  split
  · rename_i p q
    cases hx with
    | k _ _ hk => cases hk with
      | bool => cases hy with
        | k _ _ hk' => cases hk' with
          | bool => cases t <;> exact .k _ _ (.bool _)
  · cases t
    · exact hy
    · exact hx
theorem aUn_sound {K : Kd} {op : UnOp} {x y : AV} {v : Value} (hx : KRep K x v) (ha : aUn op x = some y) : ∃ r, (Op.unary op v).run P w = .ok r w ∧ KRep K y r := by
  unfold aUn at ha
  split at ha
  · injection ha with ha; subst ha
    cases hx with | bool => exact ⟨_, rfl, .bool _⟩
  · injection ha with ha; subst ha
    cases hx with | int => exact ⟨_, rfl, .int _ _⟩
  · injection ha with ha; subst ha
    cases hx with | int => exact ⟨_, rfl, .int _ _⟩
  · cases ha
theorem aInt_sound {K : Kd} {op : BinOp} {k k' : IntKind} {x y : Int} {r : AV} (t : TypeId) (ha : aInt op k k' x y = some r) : ∃ v, (binOp op t (.int k x) (.int k' y)).run P w = .ok v w ∧ KRep K r v := by
  unfold aInt at ha
  split at ha
  · split at ha
    · rename_i h0
      injection ha with ha; subst ha
      exact ⟨_, by simp [binOp, Op.shift, Int.not_lt.2 h0], .int _ _⟩
    · cases ha
  · split at ha
    · rename_i h0
      injection ha with ha; subst ha
      exact ⟨_, by simp [binOp, Op.shift, Int.not_lt.2 h0], .int _ _⟩
    · cases ha
  · rename_i n1 n2
    split at ha
    · rename_i e
      subst e
      split at ha
      all_goals first
        | cases ha; done
        | (injection ha with ha; subst ha; refine ⟨_, ?_, .int _ _⟩; simp [binOp, Op.intArith]; done)
        | (injection ha with ha; subst ha; refine ⟨_, ?_, .int _ _⟩; simp [binOp]; rfl)
        | (split at ha
           · cases ha
           · rename_i h0; injection ha with ha; subst ha; refine ⟨_, ?_, .int _ _⟩; simp [binOp, Op.intDiv, h0])
        | (injection ha with ha; subst ha; refine ⟨_, ?_, .bool _⟩; simp [binOp, Op.intCmp]; done)
        | (injection ha with ha; subst ha; refine ⟨_, ?_, .bool _⟩; simp [binOp, Op.intCmp]; rfl)
    · cases ha
end

end Go.Proofs.Ytikganlbnhapcaa

namespace Go.Proofs.Ytikganlbnhapcaa
open Go.RowKit
set_option linter.unusedVariables false
set_option linter.unusedSimpArgs false

/-! equality of arrays and structs of whole numbers -/
def eqCs : List Value → List Value → Option Bool
  | [], [] => some true
  | .int k a :: xs, .int k' b :: ys => if k = k' then (eqCs xs ys).map fun r => (a == b) && r else none
  | _, _ => none
theorem eqCs_append : ∀ {xs ys xs' ys' : List Value} {r : Bool}, xs.length = ys.length → eqCs (xs ++ xs') (ys ++ ys') = some r → ∃ r1 r2, eqCs xs ys = some r1 ∧ eqCs xs' ys' = some r2 ∧ r = (r1 && r2)
  | [], [], xs', ys', r, _, h => ⟨true, r, rfl, h, by simp⟩
  | [], _ :: _, _, _, _, hl, _ => by simp at hl
  | _ :: _, [], _, _, _, hl, _ => by simp at hl
  | x :: xs, y :: ys, xs', ys', r, hl, h => by
    simp only [List.cons_append] at h
    unfold eqCs at h
    split at h
    · rename_i q1 q2; cases q1
    · rename_i k a xs2 k' b ys2 e1 e2
      injection e1 with e1 e3
      injection e2 with e2 e4
      subst e1 e2 e3 e4
      split at h
      · rename_i hk
        simp only [Option.map_eq_some_iff] at h
        obtain ⟨q, hq, rfl⟩ := h
        obtain ⟨r1, r2, h1, h2, rfl⟩ := eqCs_append (by simpa using hl) hq
        exact ⟨(a == b) && r1, r2, by simp [eqCs, hk, h1], h2, by rw [Bool.and_assoc]⟩
      · cases h
    · cases h
def mkV (u : TU) (xs : List Value) : Value := if u.isAgg = true then .agg xs.toArray else xs.headD undef
section
variable {P : Program} (w : World)
theorem part_flat {t : TypeId} {d : Nat} {n : Nat} {i : TypeInfo} (hf : flatU P d t = some n) (hi : P.info? t = some i) (hs : i.size = n) (xs : List Value) (off : Nat) (hl : off + n ≤ xs.length) :
    (part t xs.toArray off).run P w = .ok (mkV (tiOf P t).un ((xs.drop off).take n)) w := by
  cases d with
  | zero => cases hf
  | succ d =>
    simp only [flatU] at hf
    split at hf
    · rename_i k hu
      injection hf with hf; subst hf
      have ha : (isAgg t).run P w = .ok false w := by rw [run_isAgg hu]; rw [un_eq, hu]; rfl
      have hlt : off < xs.length := by omega
      have hag : (tiOf P t).un.isAgg = false := by rw [un_eq, hu]; rfl
      unfold part
      simp only [Sem.run_bind, ha, Result.andThen_ok, Bool.false_eq_true, if_false, mkV, hag]
      have e1 : ((xs.drop off).take 1).headD undef = xs[off] := by
        have := List.drop_eq_getElem_cons hlt
        rw [this]; rfl
      rw [e1]
      simp [hlt]
    · rename_i m e hu
      have ha : (isAgg t).run P w = .ok true w := by rw [run_isAgg hu]; rw [un_eq, hu]; rfl
      have hag : (tiOf P t).un.isAgg = true := by rw [un_eq, hu]; rfl
      unfold part
      simp only [Sem.run_bind, ha, Result.andThen_ok, if_true, run_sizeOf' hi, Sem.run_pure, hs, mkV, hag]
      simp [List.extract]
    · rename_i fs hu
      have h2 : (tuOf P (some (.struct fs))).isAgg = true := by
        unfold tuOf; simp only; split <;> rfl
      have ha : (isAgg t).run P w = .ok true w := by rw [run_isAgg hu]; rw [un_eq, hu, h2]
      have hag : (tiOf P t).un.isAgg = true := by rw [un_eq, hu]; exact h2
      unfold part
      simp only [Sem.run_bind, ha, Result.andThen_ok, if_true, run_sizeOf' hi, Sem.run_pure, hs, mkV, hag]
      simp [List.extract]
    · cases hf
theorem split3 {xs : List Value} {a m b : Nat} (h : a + m ≤ b) : (xs.drop a).take (b - a) = (xs.drop a).take m ++ (xs.drop (a + m)).take (b - (a + m)) := by
  rw [show b - a = m + (b - (a + m)) by omega, List.take_add, List.drop_drop]
theorem flat_eq : ∀ (d : Nat) (t : TypeId) (n : Nat), flatU P d t = some n → ∀ (w : World) (j : Nat) (xs ys : List Value) (r : Bool), xs.length = n → ys.length = n → eqCs xs ys = some r →
    (Op.equalIn (j + d) t (mkV (tiOf P t).un xs) (mkV (tiOf P t).un ys)).run P w = .ok r w
  | 0, _, _, hf => by cases hf
  | d + 1, t, n, hf => by
    intro w j xs ys r hx hy he
    simp only [flatU] at hf
    split at hf
    · rename_i k hu
      injection hf with hf; subst hf
      have hna : (tiOf P t).un.isAgg = false := by rw [un_eq, hu]; rfl
      match xs, ys, hx, hy, he with
      | [x], [y], _, _, he =>
        unfold eqCs at he
        split at he
        · cases ‹[x] = []›
        · rename_i k1 a xs2 k2 b ys2 e1 e2
          injection e1 with e1 e3
          injection e2 with e2 e4
          subst e1 e2 e3 e4
          split at he
          · rename_i hk
            subst hk
            simp [eqCs] at he
            subst he
            simp only [mkV, hna, Bool.false_eq_true, if_false, List.headD_cons]
            rw [show j + (d + 1) = (j + d) + 1 from rfl, run_equalIn_int w (j + d) t k1 k a b hu]
          · cases he
        · cases he
    · rename_i m e hu
      have hag : (tiOf P t).un.isAgg = true := by rw [un_eq, hu]; rfl
      split at hf
      · rename_i q i h1 h2
        split at hf
        · rename_i hs
          injection hf with hf; subst hf
          simp only [mkV, hag, if_true]
          rw [show j + (d + 1) = (j + d) + 1 from rfl, run_equalIn_array w (j + d) xs.toArray ys.toArray hu h2]
          have hc : P.cellsOf e = q := by
            have e1 := run_sizeOf' (P := P) h2 w
            rw [run_sizeOf w h2] at e1
            injection e1 with e1; omega
          rw [hc, List.range_eq_range']
          have key : ∀ (c s0 : Nat) (r : Bool), (s0 + c) * q ≤ xs.length → xs.length = ys.length → eqCs ((xs.drop (s0 * q)).take (c * q)) ((ys.drop (s0 * q)).take (c * q)) = some r →
              (Op.eqItems (j + d) e q xs.toArray ys.toArray (List.range' s0 c)).run P w = .ok r w := by
            intro c
            induction c with
            | zero => intro s0 r _ _ he; simp [eqCs] at he; subst he; simp [Op.eqItems]
            | succ c ih =>
              intro s0 r hle hlen he
              have hb : (s0 + 1 + c) * q ≤ xs.length := by rw [show s0 + 1 + c = s0 + (c + 1) by omega]; exact hle
              have h3 : s0 * q + q ≤ (s0 + (c + 1)) * q := by
                rw [show s0 * q + q = (s0 + 1) * q by rw [Nat.succ_mul]]; exact Nat.mul_le_mul_right q (by omega)
              have e1 : (c + 1) * q = (s0 * q + (c + 1) * q) - s0 * q := by omega
              rw [show (c + 1) * q = (s0 * q + (c + 1) * q) - s0 * q by omega] at he
              have h4 : s0 * q + q ≤ s0 * q + (c + 1) * q := by rw [Nat.succ_mul]; omega
              rw [split3 h4, split3 h4] at he
              obtain ⟨r1, r2, k1, k2, rfl⟩ := eqCs_append (by simp [hlen]) he
              have e2 : s0 * q + (c + 1) * q - (s0 * q + q) = c * q := by rw [Nat.succ_mul]; omega
              rw [e2, show s0 * q + q = (s0 + 1) * q by rw [Nat.succ_mul]] at k2
              have p1 := part_flat w h1 h2 hs xs (s0 * q) (by omega)
              have p2 := part_flat w h1 h2 hs ys (s0 * q) (by omega)
              have p3 := flat_eq d e q h1 w j ((xs.drop (s0 * q)).take q) ((ys.drop (s0 * q)).take q) r1 (by simp; omega) (by simp; omega) k1
              rw [List.range'_succ]
              simp only [Op.eqItems, Sem.run_bind, p1, p2, p3, Result.andThen_ok]
              cases r1
              · simp
              · simpa using ih (s0 + 1) r2 hb hlen k2
          refine key m 0 r (by rw [Nat.zero_add, hx]; exact Nat.le_refl _) (by omega) ?_
          rw [Nat.zero_mul, List.drop_zero, List.drop_zero, List.take_of_length_le (by omega), List.take_of_length_le (by omega)]
          exact he
        · cases hf
      · cases hf
    · rename_i fs hu
      have hag : (tiOf P t).un.isAgg = true := by
        rw [un_eq, hu]; unfold tuOf; simp only; split <;> rfl
      split at hf
      · cases hf
      · rename_i hsi
        have hfs : P.fieldsOf t = fs := by simp [Program.fieldsOf, hu]
        simp only [mkV, hag, if_true]
        rw [show j + (d + 1) = (j + d) + 1 from rfl, run_equalIn_struct w (j + d) t _ _ (by rw [hfs]; exact hu) (by simpa using hsi), hfs]
        have key : ∀ (l : List Field) (off : Nat) (r : Bool), flatFs (flatU P d) P off l = some n → eqCs ((xs.drop off).take (n - off)) ((ys.drop off).take (n - off)) = some r → off ≤ n →
            (Op.eqFields (j + d) xs.toArray ys.toArray l).run P w = .ok r w := by
          intro l
          induction l with
          | nil => intro off r hf he _; simp only [flatFs, Option.some.injEq] at hf; subst hf; simp [eqCs] at he; subst he; simp [Op.eqFields]
          | cons f l ih =>
            intro off r hf he hle
            simp only [flatFs] at hf
            split at hf
            · rename_i q i h1 h2
              split at hf
              · rename_i hc
                obtain ⟨hs, hn, ho⟩ := hc
                have hle2 : off + q ≤ n := by
                  have mono : ∀ (l : List Field) (a b : Nat), flatFs (flatU P d) P a l = some b → a ≤ b := by
                    intro l
                    induction l with
                    | nil => intro a b h; simp only [flatFs, Option.some.injEq] at h; omega
                    | cons f l ih =>
                      intro a b h
                      simp only [flatFs] at h
                      split at h
                      · split at h
                        · have := ih _ _ h; omega
                        · cases h
                      · cases h
                  exact mono l _ _ hf
                rw [split3 hle2, split3 hle2] at he
                obtain ⟨r1, r2, k1, k2, rfl⟩ := eqCs_append (by simp [hx, hy]) he
                have p1 := part_flat w h1 h2 hs xs off (by omega)
                have p2 := part_flat w h1 h2 hs ys off (by omega)
                have p3 := flat_eq d f.type q h1 w j ((xs.drop off).take q) ((ys.drop off).take q) r1 (by simp; omega) (by simp; omega) k1
                have hn' : f.name ≠ "_" := hn
                rw [← ho] at p1 p2
                rw [← ho] at p3
                simp only [Op.eqFields, hn', ne_eq, not_false_eq_true, if_true, Sem.run_bind, p1, p2, p3, Result.andThen_ok]
                cases r1
                · simp
                · simpa using ih (off + q) r2 hf k2 hle2
              · cases hf
            · cases hf
        refine key fs.toList 0 r hf ?_ (Nat.zero_le _)
        rw [List.drop_zero, List.drop_zero, List.take_of_length_le (by omega), List.take_of_length_le (by omega)]
        exact he
    · cases hf
theorem eqCs_rep {K : Kd} : ∀ (cs ds : List AV) (us vs : List Value), cs.length = us.length → ds.length = vs.length → (∀ (i : Nat) (x : AV) (v : Value), cs[i]? = some x → us[i]? = some v → KRep K x v) →
    (∀ (i : Nat) (x : AV) (v : Value), ds[i]? = some x → vs[i]? = some v → KRep K x v) → ∀ r, aEqCs cs ds = some r → eqCs us vs = some r
  | [], [], [], [], _, _, _, _, r, h => h
  | [], [], _ :: _, _, h, _, _, _, _, _ => by simp at h
  | [], [], _, _ :: _, _, h, _, _, _, _ => by simp at h
  | [], _ :: _, _, _, _, _, _, _, r, h => by simp [aEqCs] at h
  | x :: cs, [], _, _, _, _, _, _, r, h => by cases x <;> simp [aEqCs] at h
  | x :: cs, y :: ds, [], _, h, _, _, _, _, _ => by simp at h
  | x :: cs, y :: ds, _, [], _, h, _, _, _, _ => by simp at h
  | x :: cs, y :: ds, u :: us, v :: vs, h1, h2, h3, h4, r, h => by
    unfold aEqCs at h
    split at h
    · cases ‹x :: cs = []›
    · rename_i k a xs2 k2 b ys2 e1 e2
      injection e1 with e1 e3
      injection e2 with e2 e4
      subst e1 e2 e3 e4
      split at h
      · rename_i hk
        subst hk
        simp only [Option.map_eq_some_iff] at h
        obtain ⟨q, hq, rfl⟩ := h
        have hu := h3 0 _ u rfl rfl
        have hv := h4 0 _ v rfl rfl
        cases hu; cases hv
        have := eqCs_rep cs ds us vs (by simpa using h1) (by simpa using h2) (fun i x v p q => h3 (i + 1) x v (by simpa using p) (by simpa using q)) (fun i x v p q => h4 (i + 1) x v (by simpa using p) (by simpa using q)) q hq
        simp [eqCs, this]
        by_cases hab : a = b <;> simp [hab]
      · cases h
    · cases h
end
section
variable {P : Program} {w : World}
theorem aAggEq_sound {K : Kd} {t : TypeId} {op : BinOp} {x y : AV} {u v : Value} {r : AV} (xo yo : Operand) (hx : KRep K x u) (hy : KRep K y v) (ha : aAggEq P t op x y = some r) :
    ∃ q, (do eqGuard op t xo yo u v; binOp op t u v : Sem Value).run P w = .ok q w ∧ KRep K r q := by
  have main : ∀ (xs ys : List AV) (b : Bool), flatT P t = some xs.length → aEqCs xs ys = some b → x = .agg xs → y = .agg ys → ∃ us vs : Array Value, u = .agg us ∧ v = .agg vs ∧ P.eqGuardType P.depth t = false ∧
      (Op.equalIn 10000 t (.agg us) (.agg vs)).run P w = .ok b w := by
    intro xs ys b hf he ex ey
    subst ex ey
    cases hx with | agg _ us hl1 _ h1 => cases hy with | agg _ vs hl2 _ h2 =>
    unfold flatT at hf
    split at hf
    · rename_i hg
      obtain ⟨hg, hag⟩ := hg
      have hlen : xs.length = ys.length := by
        have : ∀ (a b : List AV) (r : Bool), aEqCs a b = some r → a.length = b.length := by
          intro a
          induction a with
          | nil => intro b r h; cases b with | nil => rfl | cons _ _ => simp [aEqCs] at h
          | cons c a ih =>
            intro b r h
            unfold aEqCs at h
            split at h
            · cases ‹c :: a = []›
            · rename_i k1 a1 xs2 k2 b1 ys2 e1
              injection e1 with _ e3
              subst e3
              split at h
              · simp only [Option.map_eq_some_iff] at h
                obtain ⟨q, hq, _⟩ := h
                simp [ih _ _ hq]
              · cases h
            · cases h
        exact this _ _ _ he
      have hq := flat_eq 5 t xs.length hf w 9995 us.toList vs.toList b (by simp [hl1]) (by simp [hl2, hlen]) (eqCs_rep xs ys us.toList vs.toList (by simp [hl1]) (by simp [hl2]) (fun i x v p q => h1 i x v p (by rwa [Array.getElem?_toList] at q)) (fun i x v p q => h2 i x v p (by rwa [Array.getElem?_toList] at q)) b he)
      simp only [mkV, hag, if_true, Array.toArray_toList] at hq
      exact ⟨us, vs, rfl, rfl, hg, hq⟩
    · cases hf
  unfold aAggEq at ha
  split at ha
  · rename_i xs ys
    split at ha
    · rename_i hf
      simp only [Option.map_eq_some_iff] at ha
      obtain ⟨b, hb, rfl⟩ := ha
      obtain ⟨us, vs, rfl, rfl, hg, hq⟩ := main xs ys b hf hb rfl rfl
      exact ⟨.bool b, by simp only [Sem.run_bind, run_eqGuard_agg w _ t xo yo us vs hg, Result.andThen_ok, run_eql_struct, hq], .bool _⟩
    · cases ha
  · rename_i xs ys
    split at ha
    · rename_i hf
      simp only [Option.map_eq_some_iff] at ha
      obtain ⟨b, hb, rfl⟩ := ha
      obtain ⟨us, vs, rfl, rfl, hg, hq⟩ := main xs ys b hf hb rfl rfl
      exact ⟨.bool (!b), by simp only [Sem.run_bind, run_eqGuard_agg w _ t xo yo us vs hg, Result.andThen_ok, run_neq_struct, hq], .bool _⟩
    · cases ha
  · cases ha
end
end Go.Proofs.Ytikganlbnhapcaa

namespace Go.Proofs.Ytikganlbnhapcaa
open Go.RowKit
set_option linter.unusedVariables false
set_option linter.unusedSimpArgs false

theorem KRep.bool_inv {K : Kd} {t : Bool} {v : Value} (h : KRep K (.bool t) v) : v = .bool t := by cases h; rfl
theorem KRep.int_inv {K : Kd} {k : IntKind} {n : Int} {v : Value} (h : KRep K (.int k n) v) : v = .int k n := by cases h; rfl
theorem KRep.str_inv {K : Kd} {t : ByteArray} {v : Value} (h : KRep K (.str t) v) : v = .string t := by cases h; rfl
theorem eqNilIn {P : Program} (d : Nat) {t e : TypeId} (ht : P.underlying t = some (.pointer e)) (p : Option Addr) (w : World) : (Op.equalIn (d + 1) t (.pointer p) (.pointer none)).run P w = .ok p.isNone w := by
  cases p <;> simp [Op.equalIn, run_underlying ht]
theorem eqNil {P : Program} {t e : TypeId} (ht : P.underlying t = some (.pointer e)) (p : Option Addr) (w : World) : (Op.equal t (.pointer p) (.pointer none)).run P w = .ok p.isNone w := eqNilIn 9999 ht p w
theorem eqSlNilIn {P : Program} (w : World) (d : Nat) (t e : TypeId) (a : Option Addr) (n c n' c' : Nat) (h : P.underlying t = some (.slice e)) :
    (Op.equalIn (d + 1) t (.slice a n c) (.slice none n' c')).run P w = .ok a.isNone w := by
  cases a <;> simp [Op.equalIn, run_underlying h]
theorem run_eql_slice_nil' {P : Program} (w : World) (t e : TypeId) (a : Option Addr) (n c n' c' : Nat) (h : P.underlying t = some (.slice e)) :
    (binOp .eql t (.slice a n c) (.slice none n' c')).run P w = .ok (.bool a.isNone) w := by
  simp only [binOp]
  simp [Op.equal, Op.maxDepth, eqSlNilIn w 9999 t e a n c n' c' h]
theorem run_neq_slice_nil' {P : Program} (w : World) (t e : TypeId) (a : Option Addr) (n c n' c' : Nat) (h : P.underlying t = some (.slice e)) :
    (binOp .neq t (.slice a n c) (.slice none n' c')).run P w = .ok (.bool (!a.isNone)) w := by
  simp only [binOp]
  simp [Op.equal, Op.maxDepth, eqSlNilIn w 9999 t e a n c n' c' h]
section
variable {P : Program} {w0 : Base} {w : World} {K0 : Anc} {G : Gh} {us : Nat → Prop} {s : St} {a : Act}
theorem aBin_sound {t : TypeId} {op : BinOp} {x y : SV} {u v : Value} {r : AV} (xo yo : Operand) (hx : SRep G x u) (hy : SRep G y v) (ha : aBin (tiOf P t).un op x y = some r) :
    ∃ q, (do eqGuard op t xo yo u v; binOp op t u v : Sem Value).run P w = .ok q w ∧ KRep G.K r q := by
  have hxa := hx.av
  have hya := hy.av
  unfold aBin at ha
  split at ha
  · rename_i k p k' q' hp hq
    rw [hp] at hxa; rw [hq] at hya
    cases hxa with
    | int => cases hya with
      | int =>
        obtain ⟨q, h1, h2⟩ := aInt_sound (P := P) (w := w) (K := G.K) t ha
        have hg : (eqGuard op t xo yo (.int k p) (.int k' q')).run P w = .ok () w := by cases op <;> rfl
        exact ⟨q, by simp only [Sem.run_bind, hg, Result.andThen_ok, h1], h2⟩
  · rename_i p q hp hq
    rw [hp] at hxa; rw [hq] at hya
    cases hxa with
    | str => cases hya with
      | str =>
        have hg : (eqGuard op t xo yo (.string p) (.string q)).run P w = .ok () w := by cases op <;> rfl
        split at ha
        · injection ha with ha; subst ha
          refine ⟨_, ?_, .bool _⟩
          simp [hg, binOp, Op.stringOp]
        · injection ha with ha; subst ha
          refine ⟨_, ?_, .bool _⟩
          simp [hg, binOp, Op.stringOp]
        · cases ha
  · rename_i p q hp hq
    rw [hp] at hxa; rw [hq] at hya
    cases hxa with
    | bool => cases hya with
      | bool =>
        have hg : (eqGuard op t xo yo (.bool p) (.bool q)).run P w = .ok () w := by cases op <;> rfl
        split at ha
        · rename_i hun
          injection ha with ha; subst ha
          have ht := tu_bool hun
          refine ⟨_, ?_, .bool _⟩
          simp only [Sem.run_bind, hg, Result.andThen_ok, binOp, run_equal_bool w t p q ht, Sem.run_pure]
        · rename_i hun
          injection ha with ha; subst ha
          have ht := tu_bool hun
          refine ⟨_, ?_, .bool _⟩
          simp only [Sem.run_bind, hg, Result.andThen_ok, binOp, run_equal_bool w t p q ht, Sem.run_pure]
        · cases ha
  · rename_i hq
    rw [hq] at hya
    cases hya with
    | raw =>
      split at ha
      · rename_i e b hun hnil
        injection ha with ha; subst ha
        have ht := tu_ptr hun
        rcases isNil_sound hx hnil with ⟨rfl, rfl⟩ | ⟨rfl, ad, rfl⟩
        · have hg : (eqGuard .eql t xo yo (.pointer none) (.pointer none)).run P w = .ok () w := rfl
          refine ⟨_, ?_, .bool _⟩
          simp only [Sem.run_bind, hg, Result.andThen_ok, binOp, eqNil ht, Sem.run_pure]; rfl
        · have hg : (eqGuard .eql t xo yo (.pointer (some ad)) (.pointer none)).run P w = .ok () w := rfl
          refine ⟨_, ?_, .bool _⟩
          simp only [Sem.run_bind, hg, Result.andThen_ok, binOp, eqNil ht, Sem.run_pure]; rfl
      · rename_i e b hun hnil
        injection ha with ha; subst ha
        have ht := tu_ptr hun
        rcases isNil_sound hx hnil with ⟨rfl, rfl⟩ | ⟨rfl, ad, rfl⟩
        · have hg : (eqGuard .neq t xo yo (.pointer none) (.pointer none)).run P w = .ok () w := rfl
          refine ⟨_, ?_, .bool _⟩
          simp only [Sem.run_bind, hg, Result.andThen_ok, binOp, eqNil ht, Sem.run_pure]; rfl
        · have hg : (eqGuard .neq t xo yo (.pointer (some ad)) (.pointer none)).run P w = .ok () w := rfl
          refine ⟨_, ?_, .bool _⟩
          simp only [Sem.run_bind, hg, Result.andThen_ok, binOp, eqNil ht, Sem.run_pure]; rfl
      · cases ha
  · cases ha

theorem isNilC_eq {y : Operand} (h : isNilC y = true) : y = .const (.slice none 0 0) := by
  unfold isNilC at h; split at h
  · rfl
  · cases h
theorem nilSl_sound {x : SV} {v : Value} {b : Bool} (hx : SRep G x v) (h : nilSl x = some b) : b = false ∧ ∃ ad n c, v = .slice (some ad) n c := by
  unfold nilSl at h
  split at h
  · rename_i f n cs
    split at h
    · rename_i h0
      injection h with h
      cases hx with
      | k x v hk =>
        obtain ⟨b, o, cap, rfl, _⟩ := hk.sl_cp h0
        exact ⟨h.symm, _, _, _, rfl⟩
    · cases h
  · rename_i d g n e cs
    split at h
    · rename_i h0
      injection h with h
      cases hx with
      | ow d g n' e cells r hr he hn hl hx hk =>
        obtain ⟨b, o, cap, hv, _⟩ := hk.sl_cp h0
        exact ⟨h.symm, _, _, _, hv⟩
    · cases h
  · injection h with h
    cases hx with
    | os d g off n' cap b o c hat hn hcc hm => exact ⟨h.symm, _, _, _, rfl⟩
  · cases h
theorem aCmpNil_sound {t : TypeId} {op : BinOp} {x : SV} {u : Value} {r : AV} (xo yo : Operand) (hx : SRep G x u) (ha : aCmpNil (tiOf P t).un op x yo = some r) :
    ∃ q, (do eqGuard op t xo yo u (.slice none 0 0); binOp op t u (.slice none 0 0) : Sem Value).run P w = .ok q w ∧ KRep G.K r q := by
  unfold aCmpNil at ha
  split at ha
  · rename_i e b hu hn hy
    injection ha with ha; subst ha
    rw [un_eq] at hu
    obtain ⟨rfl, ad, n, c, rfl⟩ := nilSl_sound hx hn
    have hg : (eqGuard .eql t xo yo (.slice (some ad) n c) (.slice none 0 0)).run P w = .ok () w := rfl
    refine ⟨_, ?_, .bool _⟩
    simp only [Sem.run_bind, hg, Result.andThen_ok]
    exact run_eql_slice_nil' w t e (some ad) n c 0 0 (tu_sl hu)
  · rename_i e b hu hn hy
    injection ha with ha; subst ha
    rw [un_eq] at hu
    obtain ⟨rfl, ad, n, c, rfl⟩ := nilSl_sound hx hn
    have hg : (eqGuard .neq t xo yo (.slice (some ad) n c) (.slice none 0 0)).run P w = .ok () w := rfl
    refine ⟨_, ?_, .bool _⟩
    simp only [Sem.run_bind, hg, Result.andThen_ok]
    exact run_neq_slice_nil' w t e (some ad) n c 0 0 (tu_sl hu)
  · cases ha
theorem aVal_sound (h : Real P w0 K0 G us s a w) {o : Oper} {y : SV} (ha : aVal P s o.op = some y) : ∃ r, (execOp a.eval o).run P w = .ok (.value r) w ∧ SRep G y r := by
  unfold execOp
  cases ho : o.op <;> simp only [ho, aVal] at ha ⊢ <;> try (cases ha; done)
  case move x => injection ha with ha; subst ha; exact ⟨_, rfl, h.ev x⟩
  case assign x => injection ha with ha; subst ha; exact ⟨_, rfl, h.ev x⟩
  case pick c p q =>
    unfold aPick at ha
    split at ha
    · rename_i t ht
      injection ha with ha; subst ha
      have hc := (h.ev c).av
      rw [ht] at hc
      have e : a.eval c = .bool t := hc.bool_inv
      exact ⟨_, by simp [e, asBool], pickSV_sound (h.ev p) (h.ev q)⟩
    · cases ha
  case build t parts =>
    obtain ⟨r, h1, h2⟩ := aBuild_sound h ha
    exact ⟨r, by simp [h1], h2⟩
  case load t x =>
    obtain ⟨r, h1, h2⟩ := aLoad_sound h (h.ev x) ha
    exact ⟨r, by simp [h1], h2⟩
  case nilCheck x =>
    unfold aNilCheck at ha
    split at ha
    · rename_i hn
      injection ha with ha; subst ha
      rcases isNil_sound (h.ev x) hn with ⟨q, _⟩ | ⟨_, ad, e⟩
      · cases q
      · exact ⟨_, by simp [e], h.ev x⟩
    · cases ha
  case binOp op t x y' ty =>
    split at ha
    · rename_i r hr
      injection ha with ha; subst ha
      have hc : isNilC y' = true := by
        unfold aCmpNil at hr; split at hr
        · assumption
        · assumption
        · cases hr
      obtain ⟨q, h1, h2⟩ := aCmpNil_sound (P := P) (w := w) x y' (h.ev x) hr
      obtain rfl := isNilC_eq hc
      exact ⟨q, by rw [show a.eval (.const (.slice none 0 0)) = .slice none 0 0 from rfl]; simp only [Sem.run_bind] at h1 ⊢; simp [h1], .k _ _ h2⟩
    split at ha
    · rename_i r hr
      injection ha with ha; subst ha
      obtain ⟨q, h1, h2⟩ := aBin_sound (P := P) (w := w) x y' (h.ev x) (h.ev y') hr
      exact ⟨q, by simp only [Sem.run_bind] at h1 ⊢; simp [h1], .k _ _ h2⟩
    · simp only [Option.map_eq_some_iff] at ha
      obtain ⟨r, hr, rfl⟩ := ha
      obtain ⟨q, h1, h2⟩ := aAggEq_sound (P := P) (w := w) x y' (h.ev x).av (h.ev y').av hr
      exact ⟨q, by simp only [Sem.run_bind] at h1 ⊢; simp [h1], .k _ _ h2⟩
  case unOp op t x =>
    simp only [Option.map_eq_some_iff] at ha
    obtain ⟨r, hr, rfl⟩ := ha
    obtain ⟨q, h1, h2⟩ := aUn_sound (P := P) (w := w) (h.ev x).av hr
    exact ⟨q, by simp [h1], .k _ _ h2⟩
  case convert t u x =>
    obtain ⟨r, h1, h2⟩ := aConv_sound h (h.ev x) ha
    exact ⟨r, by simp [h1], h2⟩
  case sliceToArrayPointer t x =>
    obtain ⟨r, h1, h2⟩ := aArrPtr_sound (P := P) h (h.ev x) ha
    exact ⟨r, by simp [h1], h2⟩
  case fieldAddr t x f =>
    obtain ⟨r, h1, h2⟩ := aField_sound h (h.ev x) ha
    exact ⟨r, by simp [h1], h2⟩
  case indexAddr t x j =>
    simp only [Option.bind_eq_some_iff] at ha
    obtain ⟨i, hi, ha⟩ := ha
    obtain ⟨k, hk⟩ := int_of (h.ev j).av hi
    obtain ⟨r, h1, h2⟩ := aIdxAt_sound (P := P) (k := k) h (h.ev x) ha
    exact ⟨r, by simp [hk, h1], h2⟩
  case index t x j =>
    simp only [Option.bind_eq_some_iff] at ha
    obtain ⟨i, hi, ha⟩ := ha
    obtain ⟨k, hk⟩ := int_of (h.ev j).av hi
    obtain ⟨r, h1, h2⟩ := aIdx_sound (P := P) (w := w) (k := k) (G := G) rfl (h.ev x).av ha
    exact ⟨r, by simp [hk, h1], h2⟩
  case extract x j =>
    obtain ⟨r, h1, h2⟩ := aExtract_sound (P := P) (w := w) (G := G) rfl (h.ev x).av ha
    exact ⟨r, by simp [h1], h2⟩
  case slice t x lo hi mx =>
    obtain ⟨r, h1, h2⟩ := aSlice_sound h (h.ev x) ha
    exact ⟨r, by simp [h1], h2⟩
  case call c =>
    obtain ⟨callee, args, ts⟩ := c
    cases callee <;> simp only at ha <;> try (cases ha; done)
    rename_i b
    obtain ⟨args⟩ := args
    obtain ⟨ts⟩ := ts
    simp only [aBuiltin] at ha
    split at ha
    · rename_i x t
      simp only [Option.map_eq_some_iff] at ha
      obtain ⟨n, hn, rfl⟩ := ha
      have := lenSV_sound (P := P) (w := w) o.type (h.ev x) hn
      exact ⟨_, by simp [resolve, invoke, builtin, this], .k _ _ (.int _ _)⟩
    · rename_i x y'
      split at ha
      · rename_i k p k' q hp hq
        injection ha with ha; subst ha
        have hx := (h.ev x).av
        have hy := (h.ev y').av
        rw [hp] at hx; rw [hq] at hy
        have e1 : a.eval x = .int k p := hx.int_inv
        have e2 : a.eval y' = .int k' q := hy.int_inv
        exact ⟨_, by simp [resolve, invoke, builtin, Builtin.max_, Builtin.max2, e1, e2], .k _ _ (.int _ _)⟩
      · cases ha
    · rename_i x y'
      split at ha
      · rename_i k p k' q hp hq
        injection ha with ha; subst ha
        have hx := (h.ev x).av
        have hy := (h.ev y').av
        rw [hp] at hx; rw [hq] at hy
        have e1 : a.eval x = .int k p := hx.int_inv
        have e2 : a.eval y' = .int k' q := hy.int_inv
        exact ⟨_, by simp [resolve, invoke, builtin, Builtin.min_, Builtin.min2, e1, e2], .k _ _ (.int _ _)⟩
      · cases ha
    · cases ha
end

end Go.Proofs.Ytikganlbnhapcaa

