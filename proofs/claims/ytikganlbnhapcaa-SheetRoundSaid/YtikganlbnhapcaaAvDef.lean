import Derived.Test.YtikganlbnhapcaaAvMem
namespace Go.Proofs.Ytikganlbnhapcaa
open Go.RowKit
set_option linter.unusedVariables false
set_option linter.unusedSimpArgs false

/-! what each operation does -/
def SV.av : SV → AV
  | .k x => x
  | .ow _ _ n _ cs => .sl false n cs
  | _ => .any
/-- as it goes into memory: a growing slice of one's own may keep its name there -/
def SV.avn (m : Md) : SV → AV
  | .ow d g n e cs => match m.nest with
    | true => .ow m.dp d g n e cs
    | false => .sl false n cs
  | x => x.av
def St.avn (s : St) (x : Operand) : AV := (s.ev x).avn s.md
/-- as it comes out of memory -/
def SV.of (m : Md) : AV → SV
  | .ow δ d g n e cs => if δ = m.dp then .ow d g n e cs else .k (.sl false n cs)
  | x => .k x
def AV.isOw : AV → Bool
  | .ow _ _ _ _ _ _ => true
  | _ => false
def AV.flat : AV → Bool
  | .any => false
  | .tup _ => false
  | _ => true
def AV.cells : AV → List AV
  | .agg cs => cs
  | x => [x]
def St.objOf (s : St) (d g : Nat) : Option (List AV) :=
  match s.tb d with
  | some (g', .obj cs) => if g' = g then some cs else none
  | some (g', .fz cs) => if g' = g then some cs else none
  | _ => none
/-- the contents of a slice: how many elements, and their cells -/
def St.cont (s : St) (sz : Nat) : SV → Option (Nat × List AV)
  | .k (.sl _ n cs) => if cs.length = n * sz then some (n, cs) else none
  | .ow _ _ n _ cs => if cs.length = n * sz then some (n, cs) else none
  | .os d g off n _ => match s.objOf d g with
    | some cs => if off + n * sz ≤ cs.length then some (n, (cs.drop off).take (n * sz)) else none
    | none => none
  | _ => none
def aInt (op : BinOp) (k k' : IntKind) (a b : Int) : Option AV :=
  match op with
  | .shl => if 0 ≤ b then some (.int k (k.wrap (a * 2 ^ (min b.toNat k.bits)))) else none
  | .shr => if 0 ≤ b then some (.int k (a.fdiv (2 ^ (min b.toNat k.bits)))) else none
  | op => if k = k' then
      match op with
      | .add => some (.int k (k.wrap (a + b)))
      | .sub => some (.int k (k.wrap (a - b)))
      | .mul => some (.int k (k.wrap (a * b)))
      | .quo => if b = 0 then none else some (.int k (k.wrap (a.tdiv b)))
      | .rem => if b = 0 then none else some (.int k (a.tmod b))
      | .and => some (.int k (bits .and k a b))
      | .or => some (.int k (bits .or k a b))
      | .xor => some (.int k (bits .xor k a b))
      | .andNot => some (.int k (bits .andNot k a b))
      | .eql => some (.bool (decide (a = b)))
      | .neq => some (.bool (!decide (a = b)))
      | .lss => some (.bool (decide (a < b)))
      | .leq => some (.bool (decide (a ≤ b)))
      | .gtr => some (.bool (decide (b < a)))
      | .geq => some (.bool (decide (b ≤ a)))
      | _ => none
    else none
def SV.isNil : SV → Option Bool
  | .ob _ _ _ => some false
  | .k (.cp _) => some false
  | .k (.raw (.pointer none)) => some true
  | _ => none
def aBin (u : TU) (op : BinOp) (x y : SV) : Option AV :=
  match x.av, y.av with
  | .int k a, .int k' b => aInt op k k' a b
  | .str a, .str b => match op with
    | .eql => some (.bool (a.toList == b.toList))
    | .neq => some (.bool (!(a.toList == b.toList)))
    | _ => none
  | .bool a, .bool b => match u, op with
    | .bool, .eql => some (.bool (a == b))
    | .bool, .neq => some (.bool (!(a == b)))
    | _, _ => none
  | _, .raw (.pointer none) => match u, op, x.isNil with
    | .ptr _, .eql, some t => some (.bool t)
    | .ptr _, .neq, some t => some (.bool (!t))
    | _, _, _ => none
  | _, _ => none
def aUn (op : UnOp) (x : AV) : Option AV :=
  match op, x with
  | .not, .bool b => some (.bool (!b))
  | .neg, .int k n => some (.int k (k.wrap (0 - n)))
  | .xor, .int k n => some (.int k (bits .xor k (if k.signed then -1 else k.max) n))
  | _, _ => none
def aByte : AV → Option UInt8
  | .int .u8 n => some (UInt8.ofNat n.toNat)
  | _ => none
def aBytes : List AV → Option (List UInt8)
  | [] => some []
  | x :: r => match aByte x, aBytes r with
    | some b, some l => some (b :: l)
    | _, _ => none
def aOfBytes (l : List UInt8) : List AV := l.map fun b => .int .u8 (b.toNat : Int)
/-- parts put into cells -/
def aFill (place : Nat → Option (Nat × Nat)) (cells : List AV) : List (Nat × AV) → Option (List AV)
  | [] => some cells
  | (i, x) :: r => match place i with
    | none => none
    | some (off, size) => if x.flat = true ∧ x.cells.length = size ∧ off + size ≤ cells.length then aFill place (cells.take off ++ x.cells ++ cells.drop (off + size)) r else none
def St.int? (s : St) (x : Operand) : Option Int :=
  match (s.ev x).av with
  | .int _ n => some n
  | _ => none
def St.bnd (s : St) (x : Option Operand) (dflt : Int) : Option Int :=
  match x with
  | none => some dflt
  | some x => s.int? x
def ldAgg (u : TU) (sz : Nat) (cs : List AV) : Option AV :=
  match u with
  | .st _ => if sz ≤ cs.length then some (.agg (cs.take sz)) else none
  | .arr _ _ => if sz ≤ cs.length then some (.agg (cs.take sz)) else none
  | .bad => none
  | _ => cs.head?
def TU.isAgg : TU → Bool
  | .st _ => true
  | .arr _ _ => true
  | .bad => true
  | _ => false
def pickSV (t : Bool) (a b : SV) : SV :=
  match a, b with
  | .k (.bool x), .k (.bool y) => .k (.bool (bif t then x else y))
  | a, b => bif t then a else b
def aBuild (P : Program) (s : St) (t : TypeId) (parts : List (Nat × Operand)) : Option SV :=
  if (tiOf P t).ok = true then
    match (tiOf P t).un with
    | .st fs => (aFill (fun j => fs[j]?) (tiOf P t).zr (parts.map fun (j, x) => (j, s.avn x))).map fun cs => .k (.agg cs)
    | .arr _ e => if (tiOf P e).ok = true then (aFill (fun j => some (j * (tiOf P e).sz, (tiOf P e).sz)) (tiOf P t).zr (parts.map fun (j, x) => (j, s.avn x))).map fun cs => .k (.agg cs) else none
    | _ => none
  else none
def aLoad (P : Program) (s : St) (t : TypeId) (x : SV) : Option SV :=
  if (tiOf P t).ok = true then
    match x with
    | .k (.cp cs) => (ldAgg (tiOf P t).un (tiOf P t).sz cs).map (SV.of s.md)
    | .ob d g off => (s.objOf d g).bind fun cs => (ldAgg (tiOf P t).un (tiOf P t).sz (cs.drop off)).map (SV.of s.md)
    | _ => none
  else none
def aConv (P : Program) (s : St) (a b : TypeId) (x : SV) : Option SV :=
  if (tiOf P a).ok = true then
    match (tiOf P a).un, (tiOf P b).un with
    | .sl e, .str => match (tiOf P e).un with
      | .int .u8 => ((s.cont 1 x).bind fun c => aBytes c.2).map fun l => .k (.str ⟨l.toArray⟩)
      | _ => none
    | _, .int k => match x.av with
      | .int _ n => some (.k (.int k (k.wrap n)))
      | _ => none
    | _, _ => none
  else none
def aArrPtr (u : TU) (x : SV) : Option SV :=
  match u, x with
  | .arr n _, .k (.sl _ m cs) => if n ≤ m ∧ 0 < cs.length then some (.k (.cp cs)) else none
  | .arr n _, .ow _ _ m _ cs => if n ≤ m ∧ 0 < cs.length then some (.k (.cp cs)) else none
  | .arr n _, .os d g off m _ => if n ≤ m then some (.ob d g off) else none
  | _, _ => none
def aField (P : Program) (t : TypeId) (x : SV) (f : Nat) : Option SV :=
  if (tiOf P t).ok = true then
    match (tiOf P t).un, x with
    | .st fs, .ob d g off => (fs[f]?).bind fun p => if 0 < p.2 then some (.ob d g (off + p.1)) else none
    | .st fs, .k (.cp cs) => (fs[f]?).bind fun p => if 0 < p.2 ∧ p.1 ≤ cs.length then some (.k (.cp (cs.drop p.1))) else none
    | _, _ => none
  else none
def aIdxAt (u : TU) (T : TypeId → TI) (x : SV) (j : Int) : Option SV :=
  match u, x with
  | .sl e, .k (.sl _ n cs) => if (T e).ok = true ∧ 0 ≤ j ∧ j < n ∧ n * (T e).sz = cs.length ∧ 0 < (T e).sz then some (.k (.cp (cs.drop (j.toNat * (T e).sz)))) else none
  | .sl e, .ow _ _ n _ cs => if (T e).ok = true ∧ 0 ≤ j ∧ j < n ∧ n * (T e).sz = cs.length ∧ 0 < (T e).sz then some (.k (.cp (cs.drop (j.toNat * (T e).sz)))) else none
  | .sl e, .os d g off n _ => if (T e).ok = true ∧ 0 ≤ j ∧ j < n then some (.ob d g (off + j.toNat * (T e).sz)) else none
  | .arr n e, .ob d g off => if (T e).ok = true ∧ 0 ≤ j ∧ j < n then some (.ob d g (off + j.toNat * (T e).sz)) else none
  | .arr n e, .k (.cp cs) => if (T e).ok = true ∧ 0 ≤ j ∧ j < n ∧ n * (T e).sz ≤ cs.length then some (.k (.cp (cs.drop (j.toNat * (T e).sz)))) else none
  | _, _ => none
def aIdx (u : TU) (T : TypeId → TI) (x : AV) (j : Int) : Option SV :=
  match u, x with
  | .arr n e, .agg cs => if (T e).ok = true ∧ 0 ≤ j ∧ j < n then (ldAgg (T e).un (T e).sz (cs.drop (j.toNat * (T e).sz))).map .k else none
  | .str, .str b => if h : 0 ≤ j ∧ j.toNat < b.size then some (.k (.int .u8 ((b[j.toNat]'h.2).toNat : Int))) else none
  | _, _ => none
def aExtract (x : AV) (j : Nat) : Option SV :=
  match x with
  | .tup ps => (ps[j]?).map .k
  | _ => none
/-- x[l:h], x[l:h:h] -/
def aCut (u : TU) (T : TypeId → TI) (x : SV) (l h : Int) (mx : Bool) : Option SV :=
  match u, x with
  | .sl e, .k (.sl full n cs) => if (T e).ok = true ∧ 0 ≤ l ∧ l ≤ h ∧ h ≤ n ∧ n * (T e).sz = cs.length then some (.k (.sl (mx || (full && decide (h = n))) (h.toNat - l.toNat) ((cs.take (h.toNat * (T e).sz)).drop (l.toNat * (T e).sz)))) else none
  | .sl e, .ow _ _ n _ cs => if (T e).ok = true ∧ 0 ≤ l ∧ l ≤ h ∧ h ≤ n ∧ n * (T e).sz = cs.length then some (.k (.sl mx (h.toNat - l.toNat) ((cs.take (h.toNat * (T e).sz)).drop (l.toNat * (T e).sz)))) else none
  | .sl e, .os d g off n cap => if (T e).ok = true ∧ 0 ≤ l ∧ l ≤ h ∧ h ≤ cap ∧ l < cap ∧ mx = false then some (.os d g (off + l.toNat * (T e).sz) (h.toNat - l.toNat) (cap - l.toNat)) else none
  | .arr n e, .ob d g off => if (T e).ok = true ∧ 0 ≤ l ∧ l ≤ h ∧ h ≤ n ∧ l < n ∧ (n : Int) ≤ 9223372036854775807 ∧ mx = false then some (.os d g (off + l.toNat * (T e).sz) (h.toNat - l.toNat) (n - l.toNat)) else none
  | .arr n e, .k (.cp cs) => if (T e).ok = true ∧ 0 ≤ l ∧ l ≤ h ∧ h ≤ n ∧ l < n ∧ (n : Int) ≤ 9223372036854775807 ∧ n * (T e).sz ≤ cs.length ∧ mx = false then some (.k (.sl (decide (h = n)) (h.toNat - l.toNat) ((cs.take (h.toNat * (T e).sz)).drop (l.toNat * (T e).sz)))) else none
  | .str, .k (.str b) => if 0 ≤ l ∧ l ≤ h ∧ h ≤ b.size ∧ mx = false then some (.k (.str (b.extract l.toNat h.toNat))) else none
  | _, _ => none
def lenSV (u : TU) (x : SV) : Option Nat :=
  match u, x with
  | .sl _, .k (.sl _ n _) => some n
  | .sl _, .ow _ _ n _ _ => some n
  | .sl _, .os _ _ _ n _ => some n
  | .str, .k (.str b) => some b.size
  | .arr n _, _ => some n
  | _, _ => none
def aSlice (P : Program) (s : St) (t : TypeId) (x : SV) (lo hi mx : Option Operand) : Option SV :=
  (lenSV (tiOf P t).un x).bind fun n =>
    (s.bnd lo 0).bind fun l => (s.bnd hi n).bind fun h =>
      match mx with
      | none => aCut (tiOf P t).un (tiOf P) x l h false
      | some m => if hi.isSome = true ∧ s.int? m = some h then aCut (tiOf P t).un (tiOf P) x l h true else none
def aBuiltin (P : Program) (s : St) (b : Builtin) (args : List Operand) (ts : List TypeId) : Option SV :=
  match b, args, ts with
  | .len, [x], [t] => (lenSV (tiOf P t).un (s.ev x)).map fun (n : Nat) => SV.k (.int .i64 (n : Int))
  | .max, [x, y], _ => match (s.ev x).av, (s.ev y).av with
    | .int k a, .int _ b => some (.k (.int k (if a < b then b else a)))
    | _, _ => none
  | .min, [x, y], _ => match (s.ev x).av, (s.ev y).av with
    | .int k a, .int _ b => some (.k (.int k (if b < a then b else a)))
    | _, _ => none
  | _, _, _ => none
def aPick (c : AV) (a b : SV) : Option SV :=
  match c with
  | .bool t => some (pickSV t a b)
  | _ => none
def aNilCheck (x : SV) : Option SV :=
  match x.isNil with
  | some false => some x
  | _ => none
/-- a slice beside the literal nil -/
def nilSl : SV → Option Bool
  | .k (.sl _ _ cs) => if 0 < cs.length then some false else none
  | .ow _ _ _ _ cs => if 0 < cs.length then some false else none
  | .os _ _ _ _ _ => some false
  | _ => none
def isNilC : Operand → Bool
  | .const (.slice none 0 0) => true
  | _ => false
def aCmpNil (u : TU) (op : BinOp) (x : SV) (y : Operand) : Option AV :=
  match u, op, nilSl x, isNilC y with
  | .sl _, .eql, some b, true => some (.bool b)
  | .sl _, .neq, some b, true => some (.bool (!b))
  | _, _, _, _ => none
/-- a step that only makes a value -/
def aVal (P : Program) (s : St) : Op → Option SV
  | .move x => some (s.ev x)
  | .assign x => some (s.ev x)
  | .pick c a b => aPick (s.ev c).av (s.ev a) (s.ev b)
  | .build t parts => aBuild P s t parts.toList
  | .load t x => aLoad P s t (s.ev x)
  | .nilCheck x => aNilCheck (s.ev x)
  | .binOp op t x y _ => match aCmpNil (tiOf P t).un op (s.ev x) y with
    | some r => some (.k r)
    | none => (aBin (tiOf P t).un op (s.ev x) (s.ev y)).map .k
  | .unOp op _ x => (aUn op (s.ev x).av).map .k
  | .convert a b x => aConv P s a b (s.ev x)
  | .sliceToArrayPointer t x => aArrPtr (tiOf P t).un (s.ev x)
  | .fieldAddr t x f => aField P t (s.ev x) f
  | .indexAddr t x j => (s.int? j).bind fun j => aIdxAt (tiOf P t).un (tiOf P) (s.ev x) j
  | .index t x j => (s.int? j).bind fun j => aIdx (tiOf P t).un (tiOf P) (s.ev x).av j
  | .extract x j => aExtract (s.ev x).av j
  | .slice t x lo hi mx => aSlice P s t (s.ev x) lo hi mx
  | .call c => match c.callee with
    | .builtin b => aBuiltin P s b c.args.toList c.argTypes.toList
    | _ => none
  | _ => none

end Go.Proofs.Ytikganlbnhapcaa
