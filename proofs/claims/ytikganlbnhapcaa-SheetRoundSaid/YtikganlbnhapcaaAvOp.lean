import Derived.Test.YtikganlbnhapcaaAvSx
namespace Go.Proofs.Ytikganlbnhapcaa
open Go.RowKit
set_option linter.unusedVariables false
set_option linter.unusedSimpArgs false

/-! one line for each kind of step -/
section
variable {P : Program} {Q : AEx → St → Prop} {F : Nat → SV} {T : Nat → Option (Nat × Ent)} {ν : Nat} {md : Md}
theorem rg {id : Nat} {ops : List Oper} (h : ∀ K : St → Prop, (∀ F T md, (∀ ν', Q .normal ⟨F, T, ν', md⟩) → K ⟨F, T, ν, md⟩) → aRun P ops 0 ops ⟨F, T, ν, md⟩ K) : aWp P (.region id ops.toArray false) Q ⟨F, T, ν, md⟩ := by
  show aRun P ops.toArray.toList 0 ops.toArray.toList _ _
  exact h _ (fun F T md hq => by simpa [St.bump] using hq _)
variable {ops : List Oper} {i : Nat} {l : List Oper} {s' : St} {K : St → Prop} {dst : Option Tmp} {op : Op} {ty : TypeId} {pos : String} {af : Array Edge} {j : Nat} {b want : Bool}
theorem rn {ops : List Oper} (h : aDet P (ν + i) ⟨F, T, ν, md⟩ dst op = some s') (hk : aRun P ops (i + 1) l s' K) : aRun P ops i (⟨dst, op, ty, pos, af, none⟩ :: l) ⟨F, T, ν, md⟩ K := run_det h hk
theorem rt (hy : yld ops ⟨F, T, ν, md⟩ j = some want) (h : aDet P (ν + i) ⟨F, T, ν, md⟩ dst op = some s') (hk : aRun P ops (i + 1) l s' K) : aRun P ops i (⟨dst, op, ty, pos, af, some (j, want)⟩ :: l) ⟨F, T, ν, md⟩ K := run_gt hy h hk
theorem rf {d : Nat} (hy : yld ops ⟨F, T, ν, md⟩ j = some (!want)) (hk : aRun P ops (i + 1) l ⟨upd F d (.k .any), T, ν, md⟩ K) : aRun P ops i (⟨some d, op, ty, pos, af, some (j, want)⟩ :: l) ⟨F, T, ν, md⟩ K := run_gf hy hk
theorem rf0 (hy : yld ops ⟨F, T, ν, md⟩ j = some (!want)) (hk : aRun P ops (i + 1) l ⟨F, T, ν, md⟩ K) : aRun P ops i (⟨none, op, ty, pos, af, some (j, want)⟩ :: l) ⟨F, T, ν, md⟩ K := run_gf hy hk
/-- the guard's word -/
theorem gy {d : Nat} {b : Bool} (h1 : (ops[j]?).bind (·.dst) = some d) (h2 : F d = .k (.bool b)) (h3 : b = want) : yld ops ⟨F, T, ν, md⟩ j = some want := by
  simp [yld, h1, h2, h3]
theorem rc {f : FuncId} {args : Array Operand} {ts : Array TypeId} {ys : List AV} {r : RV} (h1 : aArgs P ⟨F, T, ν, md⟩ (args.toList.map (St.ev ⟨F, T, ν, md⟩)) ts.toList = some ys) (h2 : Spec P f ys r) (h3 : (args.toList.all fun x => St.isK ⟨F, T, ν, md⟩ (St.ev ⟨F, T, ν, md⟩ x)) = true ∨ r.noal = true) (h4 : St.res ⟨F, T, ν, md⟩ dst (ν + i) r = some s')
    (hk : aRun P ops (i + 1) l s' K) : aRun P ops i (⟨dst, .call ⟨.value (.func f), args, ts⟩, ty, pos, af, none⟩ :: l) ⟨F, T, ν, md⟩ K := run_call h1 h2 h3 h4 hk
theorem rct {f : FuncId} {args : Array Operand} {ts : Array TypeId} {ys : List AV} {r : RV} (hy : yld ops ⟨F, T, ν, md⟩ j = some want) (h1 : aArgs P ⟨F, T, ν, md⟩ (args.toList.map (St.ev ⟨F, T, ν, md⟩)) ts.toList = some ys) (h2 : Spec P f ys r) (h3 : (args.toList.all fun x => St.isK ⟨F, T, ν, md⟩ (St.ev ⟨F, T, ν, md⟩ x)) = true ∨ r.noal = true) (h4 : St.res ⟨F, T, ν, md⟩ dst (ν + i) r = some s')
    (hk : aRun P ops (i + 1) l s' K) : aRun P ops i (⟨dst, .call ⟨.value (.func f), args, ts⟩, ty, pos, af, some (j, want)⟩ :: l) ⟨F, T, ν, md⟩ K := run_gcall hy h1 h2 h3 h4 hk
end
section
variable {P : Program} {γ : Nat} {F : Nat → SV} {T : Nat → Option (Nat × Ent)} {ν : Nat} {md : Md} {s : St} {s1 : St} {d : Nat} {dst : Option Nat} {ty t u : TypeId} {x y : Operand} {b : Bool}
theorem args_nil : aArgs P s [] [] = some [] := rfl
theorem args_cons {x : SV} {xs : List SV} {ts : List TypeId} {v : AV} {ys : List AV} (h1 : aArg P s t x = some v) (h2 : aArgs P s xs ts = some ys) : aArgs P s (x :: xs) (t :: ts) = some (v :: ys) := by
  simp [aArgs, h1, h2]
theorem arg_k {x : SV} {v : AV} (h : x = .k v) : aArg P s t x = some v := by subst h; rfl
theorem arg_ow {x : SV} {e g n : Nat} {el : TypeId} {cs : List AV} (h : x = .ow e g n el cs) : aArg P s t x = some (.sl false n cs) := by subst h; rfl
theorem arg_ob {x : SV} {e g off : Nat} {cs cs' : List AV} (h : x = .ob e g off) (h1 : T e = some (g, .obj cs)) (h2 : off ≤ cs.length) (h3 : cs.drop off = cs') : aArg P ⟨F, T, ν, md⟩ t x = some (.cp cs') := by
  subst h; simp [aArg, St.objOf, h1, h2, h3]
theorem arg_os {x : SV} {e g off n cap : Nat} {el : TypeId} {cs cs' : List AV} {sz by_ : Nat} {zr : List AV} {k1 k2 k3 k4} {u : TU} (h : x = .os e g off n cap) (ht : tiOf P t = ⟨k1, k2, k3, .sl el, k4⟩) (he : tiOf P el = ⟨true, sz, by_, u, zr⟩) (h1 : T e = some (g, .obj cs)) (h2 : off + n * sz ≤ cs.length) (h3 : (cs.drop off).take (n * sz) = cs') : aArg P ⟨F, T, ν, md⟩ t x = some (.sl false n cs') := by
  subst h; simp [aArg, St.objOf, h1, h2, h3, ht, he, elemOf?]
theorem res_k {x : AV} : St.res ⟨F, T, ν, md⟩ (some d) γ (.k x) = some ⟨upd F d (.k x), T, ν, md⟩ := rfl
theorem res_k0 {x : AV} : St.res ⟨F, T, ν, md⟩ none γ (.k x) = some ⟨F, T, ν, md⟩ := rfl
theorem res_ow {n : Nat} {e : TypeId} {cs : List AV} (h : md d = false) : St.res ⟨F, T, ν, md⟩ (some d) γ (.own n e cs) = some ⟨upd F d (.ow d γ n e cs), upd T d (some (γ, .tag)), ν, md⟩ := by
  simp [St.res, h, St.mkT, St.set, St.put]
theorem res_os {n : Nat} {e : TypeId} {cs : List AV} (h : md d = true) (h0 : 0 < n) : St.res ⟨F, T, ν, md⟩ (some d) γ (.own n e cs) = some ⟨upd F d (.os d γ 0 n n), upd T d (some (γ, .obj cs)), ν, md⟩ := by
  simp [St.res, h, h0, St.mk1, St.set, St.put]
/-- steps that only make a value -/
theorem dv {op : Op} {v : SV} (hm : aDet P γ ⟨F, T, ν, md⟩ (some d) op = (aVal P ⟨F, T, ν, md⟩ op).map (St.put ⟨F, T, ν, md⟩ (some d))) (h : aVal P ⟨F, T, ν, md⟩ op = some v) : aDet P γ ⟨F, T, ν, md⟩ (some d) op = some ⟨upd F d v, T, ν, md⟩ := by
  rw [hm, h]; rfl
structure Det (P : Program) (γ : Nat) (s : St) (dst : Option Nat) (op : Op) (s1 : St) : Prop where
  h : aDet P γ s dst op = some s1
theorem d_move {v : SV} (h : St.ev ⟨F, T, ν, md⟩ x = v) : Det P γ ⟨F, T, ν, md⟩ (some d) (.move x) ⟨upd F d v, T, ν, md⟩ := Det.mk <|dv rfl (by simp only [aVal, h])
theorem d_assign {v : SV} (h : St.ev ⟨F, T, ν, md⟩ x = v) : Det P γ ⟨F, T, ν, md⟩ (some d) (.assign x) ⟨upd F d v, T, ν, md⟩ := Det.mk <|dv rfl (by simp only [aVal, h])
theorem d_pickT {c : Operand} {v : SV} (hc : St.ev ⟨F, T, ν, md⟩ c = .k (.bool b)) (hb : b = true) (h : St.ev ⟨F, T, ν, md⟩ x = v) : Det P γ ⟨F, T, ν, md⟩ (some d) (.pick c x y) ⟨upd F d v, T, ν, md⟩ := Det.mk <|
  dv rfl (by simp only [aVal, h, hc, SV.av, aPick, hb, pick_true])
theorem d_pickF {c : Operand} {v : SV} (hc : St.ev ⟨F, T, ν, md⟩ c = .k (.bool b)) (hb : b = false) (h : St.ev ⟨F, T, ν, md⟩ y = v) : Det P γ ⟨F, T, ν, md⟩ (some d) (.pick c x y) ⟨upd F d v, T, ν, md⟩ := Det.mk <|
  dv rfl (by simp only [aVal, h, hc, SV.av, aPick, hb, pick_false])
theorem d_pickB {c : Operand} {p q : Bool} (hc : St.ev ⟨F, T, ν, md⟩ c = .k (.bool b)) (h : St.ev ⟨F, T, ν, md⟩ x = .k (.bool p)) (h' : St.ev ⟨F, T, ν, md⟩ y = .k (.bool q)) : Det P γ ⟨F, T, ν, md⟩ (some d) (.pick c x y) ⟨upd F d (.k (.bool (bif b then p else q))), T, ν, md⟩ := Det.mk <|
  dv rfl (by simp only [aVal, h, h', hc, SV.av, aPick, pick_bool])
variable {sz by_ : Nat} {zr : List AV} {un : TU} {ok : Bool}
theorem of_k {m : Md} {v : AV} (h : v.isOw = false) : SV.of m v = .k v := by cases v <;> first | rfl | cases h
theorem of_ow {m : Md} {d g n : Nat} {e : TypeId} {cs : List AV} : SV.of m (.ow m.dp d g n e cs) = .ow d g n e cs := if_pos rfl
theorem d_load_obw {e g off d2 g2 n : Nat} {e2 : TypeId} {cs cs2 : List AV} (hx : St.ev ⟨F, T, ν, md⟩ x = .ob e g off) (hT : T e = some (g, .obj cs)) (ht : tiOf P t = ⟨true, sz, by_, un, zr⟩) (hl : ldAgg un sz (cs.drop off) = some (.ow md.dp d2 g2 n e2 cs2)) : Det P γ ⟨F, T, ν, md⟩ (some d) (.load t x) ⟨upd F d (.ow d2 g2 n e2 cs2), T, ν, md⟩ := Det.mk <|
  dv rfl (by simp only [aVal, hx, aLoad, ht, if_true, St.objOf, hT, Option.bind_some, hl, Option.map_some, of_ow])
theorem d_load_ob {e g off : Nat} {cs : List AV} {v : AV} (hx : St.ev ⟨F, T, ν, md⟩ x = .ob e g off) (hT : T e = some (g, .obj cs)) (ht : tiOf P t = ⟨true, sz, by_, un, zr⟩) (hl : ldAgg un sz (cs.drop off) = some v) (ho : v.isOw = false) : Det P γ ⟨F, T, ν, md⟩ (some d) (.load t x) ⟨upd F d (.k v), T, ν, md⟩ := Det.mk <|
  dv rfl (by simp only [aVal, hx, aLoad, ht, if_true, St.objOf, hT, Option.bind_some, hl, Option.map_some, of_k ho])
theorem d_load_fz {e g off : Nat} {cs : List AV} {v : AV} (hx : St.ev ⟨F, T, ν, md⟩ x = .ob e g off) (hT : T e = some (g, .fz cs)) (ht : tiOf P t = ⟨true, sz, by_, un, zr⟩) (hl : ldAgg un sz (cs.drop off) = some v) (ho : v.isOw = false) : Det P γ ⟨F, T, ν, md⟩ (some d) (.load t x) ⟨upd F d (.k v), T, ν, md⟩ := Det.mk <|
  dv rfl (by simp only [aVal, hx, aLoad, ht, if_true, St.objOf, hT, Option.bind_some, hl, Option.map_some, of_k ho])
theorem d_load_cp {cs : List AV} {v : AV} (hx : St.ev ⟨F, T, ν, md⟩ x = .k (.cp cs)) (ht : tiOf P t = ⟨true, sz, by_, un, zr⟩) (hl : ldAgg un sz cs = some v) (ho : v.isOw = false) : Det P γ ⟨F, T, ν, md⟩ (some d) (.load t x) ⟨upd F d (.k v), T, ν, md⟩ := Det.mk <|
  dv rfl (by simp only [aVal, hx, aLoad, ht, if_true, hl, Option.map_some, of_k ho])
theorem d_nc_ob {e g off : Nat} (hx : St.ev ⟨F, T, ν, md⟩ x = .ob e g off) : Det P γ ⟨F, T, ν, md⟩ (some d) (.nilCheck x) ⟨upd F d (.ob e g off), T, ν, md⟩ := Det.mk <|dv rfl (by simp only [aVal, hx, aNilCheck, SV.isNil])
theorem d_nc_cp {cs : List AV} (hx : St.ev ⟨F, T, ν, md⟩ x = .k (.cp cs)) : Det P γ ⟨F, T, ν, md⟩ (some d) (.nilCheck x) ⟨upd F d (.k (.cp cs)), T, ν, md⟩ := Det.mk <|dv rfl (by simp only [aVal, hx, aNilCheck, SV.isNil])
theorem cmpNil_int {u : TU} {op : BinOp} {k : IntKind} {m : Int} {y : Operand} : aCmpNil u op (.k (.int k m)) y = none := by
  unfold aCmpNil nilSl; split <;> simp_all
theorem d_int {op : BinOp} {k k' : IntKind} {m n : Int} {r : AV} (hx : St.ev ⟨F, T, ν, md⟩ x = .k (.int k m)) (hy : St.ev ⟨F, T, ν, md⟩ y = .k (.int k' n)) (hr : aInt op k k' m n = some r) : Det P γ ⟨F, T, ν, md⟩ (some d) (.binOp op t x y u) ⟨upd F d (.k r), T, ν, md⟩ := Det.mk <|
  dv rfl (by simp only [aVal, hx, hy, cmpNil_int, aBin, SV.av, hr, Option.map_some])
theorem d_bin {op : BinOp} {r : AV} {p q : SV} (hx : St.ev ⟨F, T, ν, md⟩ x = p) (hy : St.ev ⟨F, T, ν, md⟩ y = q) (ht : tiOf P t = ⟨ok, sz, by_, un, zr⟩) (hn : aCmpNil un op p y = none) (hr : aBin un op p q = some r) : Det P γ ⟨F, T, ν, md⟩ (some d) (.binOp op t x y u) ⟨upd F d (.k r), T, ν, md⟩ := Det.mk <|
  dv rfl (by simp only [aVal, hx, hy, ht, hn, hr, Option.map_some])
theorem d_nilS {op : BinOp} {r : AV} {p : SV} (hx : St.ev ⟨F, T, ν, md⟩ x = p) (ht : tiOf P t = ⟨ok, sz, by_, un, zr⟩) (hr : aCmpNil un op p y = some r) : Det P γ ⟨F, T, ν, md⟩ (some d) (.binOp op t x y u) ⟨upd F d (.k r), T, ν, md⟩ := Det.mk <|
  dv rfl (by simp only [aVal, hx, ht, hr])
theorem nilS_k {e : TypeId} {f : Bool} {n : Nat} {cs : List AV} (h : 0 < cs.length) : aCmpNil (.sl e) .eql (.k (.sl f n cs)) (.const (.slice none 0 0)) = some (.bool false) := by
  simp [aCmpNil, nilSl, h, isNilC]
theorem nilN_k {e : TypeId} {f : Bool} {n : Nat} {cs : List AV} (h : 0 < cs.length) : aCmpNil (.sl e) .neq (.k (.sl f n cs)) (.const (.slice none 0 0)) = some (.bool true) := by
  simp [aCmpNil, nilSl, h, isNilC]
theorem d_not {r : Bool} (hx : St.ev ⟨F, T, ν, md⟩ x = .k (.bool b)) (hr : (!b) = r) : Det P γ ⟨F, T, ν, md⟩ (some d) (.unOp .not t x) ⟨upd F d (.k (.bool r)), T, ν, md⟩ := Det.mk <|dv rfl (by simp only [aVal, hx, SV.av, aUn, hr, Option.map_some])
theorem d_neg {k : IntKind} {n r : Int} (hx : St.ev ⟨F, T, ν, md⟩ x = .k (.int k n)) (hr : k.wrap (0 - n) = r) : Det P γ ⟨F, T, ν, md⟩ (some d) (.unOp .neg t x) ⟨upd F d (.k (.int k r)), T, ν, md⟩ := Det.mk <|dv rfl (by simp only [aVal, hx, SV.av, aUn, hr, Option.map_some])
theorem d_inv {k : IntKind} {n r : Int} (hx : St.ev ⟨F, T, ν, md⟩ x = .k (.int k n)) (hr : bits .xor k (if k.signed then -1 else k.max) n = r) : Det P γ ⟨F, T, ν, md⟩ (some d) (.unOp .xor t x) ⟨upd F d (.k (.int k r)), T, ν, md⟩ := Det.mk <|dv rfl (by simp only [aVal, hx, SV.av, aUn, hr, Option.map_some])
theorem d_conv {k k' : IntKind} {n r : Int} {sz2 by2 : Nat} {zr2 : List AV} {ok2 : Bool} (hx : St.ev ⟨F, T, ν, md⟩ x = .k (.int k n)) (ht : tiOf P t = ⟨true, sz, by_, un, zr⟩) (hi : ∃ k0, un = .int k0) (hu : tiOf P u = ⟨ok2, sz2, by2, .int k', zr2⟩) (hr : k'.wrap n = r) : Det P γ ⟨F, T, ν, md⟩ (some d) (.convert t u x) ⟨upd F d (.k (.int k' r)), T, ν, md⟩ := Det.mk <| by
  obtain ⟨k0, rfl⟩ := hi
  simp only [aDet, aConvX, aConv, ht, hu, hx, SV.av, hr, if_true, St.put]
theorem d_field_ob {e g off f o z r : Nat} {fs : List (Nat × Nat)} (hx : St.ev ⟨F, T, ν, md⟩ x = .ob e g off) (ht : tiOf P t = ⟨true, sz, by_, .st fs, zr⟩) (hf : fs[f]? = some (o, z)) (hz : 0 < z) (hr : off + o = r) : Det P γ ⟨F, T, ν, md⟩ (some d) (.fieldAddr t x f) ⟨upd F d (.ob e g r), T, ν, md⟩ := Det.mk <|
  dv rfl (by simp only [aVal, hx, aField, ht, if_true, hf, Option.bind_some, hz, hr])
theorem d_field_cp {f o z : Nat} {cs cs' : List AV} {fs : List (Nat × Nat)} (hx : St.ev ⟨F, T, ν, md⟩ x = .k (.cp cs)) (ht : tiOf P t = ⟨true, sz, by_, .st fs, zr⟩) (hf : fs[f]? = some (o, z)) (hz : 0 < z) (hl : o ≤ cs.length) (hr : cs.drop o = cs') : Det P γ ⟨F, T, ν, md⟩ (some d) (.fieldAddr t x f) ⟨upd F d (.k (.cp cs')), T, ν, md⟩ := Det.mk <|
  dv rfl (by simp only [aVal, hx, aField, ht, if_true, hf, Option.bind_some, hz, hl, and_self, hr])
variable {el : TypeId} {sz2 by2 : Nat} {un2 : TU} {zr2 : List AV} {ok2 : Bool} {k : IntKind}
theorem d_at_k {full : Bool} {n : Nat} {cs cs' : List AV} {j : Int} (hx : St.ev ⟨F, T, ν, md⟩ x = .k (.sl full n cs)) (hj : St.ev ⟨F, T, ν, md⟩ y = .k (.int k j)) (ht : tiOf P t = ⟨ok, sz, by_, .sl el, zr⟩) (he : tiOf P el = ⟨true, sz2, by2, un2, zr2⟩) (h0 : 0 ≤ j) (h1 : j < n) (hl : n * sz2 = cs.length) (hz : 0 < sz2) (hr : cs.drop (j.toNat * sz2) = cs') :
    Det P γ ⟨F, T, ν, md⟩ (some d) (.indexAddr t x y) ⟨upd F d (.k (.cp cs')), T, ν, md⟩ := Det.mk <|
  dv rfl (by simp only [aVal, hx, hj, St.int?, SV.av, Option.bind_some, ht, aIdxAt, he]; rw [if_pos ⟨trivial, h0, h1, hl, hz⟩, hr])
theorem d_at_ow {e g n : Nat} {e' : TypeId} {cs cs' : List AV} {j : Int} (hx : St.ev ⟨F, T, ν, md⟩ x = .ow e g n e' cs) (hj : St.ev ⟨F, T, ν, md⟩ y = .k (.int k j)) (ht : tiOf P t = ⟨ok, sz, by_, .sl el, zr⟩) (he : tiOf P el = ⟨true, sz2, by2, un2, zr2⟩) (h0 : 0 ≤ j) (h1 : j < n) (hl : n * sz2 = cs.length) (hz : 0 < sz2) (hr : cs.drop (j.toNat * sz2) = cs') :
    Det P γ ⟨F, T, ν, md⟩ (some d) (.indexAddr t x y) ⟨upd F d (.k (.cp cs')), T, ν, md⟩ := Det.mk <|
  dv rfl (by simp only [aVal, hx, hj, St.int?, SV.av, Option.bind_some, ht, aIdxAt, he]; rw [if_pos ⟨trivial, h0, h1, hl, hz⟩, hr])
theorem d_at_os {e g off n cap r : Nat} {j : Int} (hx : St.ev ⟨F, T, ν, md⟩ x = .os e g off n cap) (hj : St.ev ⟨F, T, ν, md⟩ y = .k (.int k j)) (ht : tiOf P t = ⟨ok, sz, by_, .sl el, zr⟩) (he : tiOf P el = ⟨true, sz2, by2, un2, zr2⟩) (h0 : 0 ≤ j) (h1 : j < n) (hr : off + j.toNat * sz2 = r) :
    Det P γ ⟨F, T, ν, md⟩ (some d) (.indexAddr t x y) ⟨upd F d (.ob e g r), T, ν, md⟩ := Det.mk <|
  dv rfl (by simp only [aVal, hx, hj, St.int?, SV.av, Option.bind_some, ht, aIdxAt, he]; rw [if_pos ⟨trivial, h0, h1⟩, hr])
theorem d_at_arr {e g off n r : Nat} {j : Int} (hx : St.ev ⟨F, T, ν, md⟩ x = .ob e g off) (hj : St.ev ⟨F, T, ν, md⟩ y = .k (.int k j)) (ht : tiOf P t = ⟨ok, sz, by_, .arr n el, zr⟩) (he : tiOf P el = ⟨true, sz2, by2, un2, zr2⟩) (h0 : 0 ≤ j) (h1 : j < n) (hr : off + j.toNat * sz2 = r) :
    Det P γ ⟨F, T, ν, md⟩ (some d) (.indexAddr t x y) ⟨upd F d (.ob e g r), T, ν, md⟩ := Det.mk <|
  dv rfl (by simp only [aVal, hx, hj, St.int?, SV.av, Option.bind_some, ht, aIdxAt, he]; rw [if_pos ⟨trivial, h0, h1⟩, hr])
theorem d_at_arrcp {n : Nat} {cs cs' : List AV} {j : Int} (hx : St.ev ⟨F, T, ν, md⟩ x = .k (.cp cs)) (hj : St.ev ⟨F, T, ν, md⟩ y = .k (.int k j)) (ht : tiOf P t = ⟨ok, sz, by_, .arr n el, zr⟩) (he : tiOf P el = ⟨true, sz2, by2, un2, zr2⟩) (h0 : 0 ≤ j) (h1 : j < n) (hl : n * sz2 ≤ cs.length) (hr : cs.drop (j.toNat * sz2) = cs') :
    Det P γ ⟨F, T, ν, md⟩ (some d) (.indexAddr t x y) ⟨upd F d (.k (.cp cs')), T, ν, md⟩ := Det.mk <|
  dv rfl (by simp only [aVal, hx, hj, St.int?, SV.av, Option.bind_some, ht, aIdxAt, he]; rw [if_pos ⟨trivial, h0, h1, hl⟩, hr])
theorem d_len_k {full : Bool} {n : Nat} {cs : List AV} (hx : St.ev ⟨F, T, ν, md⟩ x = .k (.sl full n cs)) (ht : tiOf P t = ⟨ok, sz, by_, .sl el, zr⟩) : Det P γ ⟨F, T, ν, md⟩ (some d) (.call ⟨.builtin .len, #[x], #[t]⟩) ⟨upd F d (.k (.int .i64 (n : Int))), T, ν, md⟩ := Det.mk <| by
  simp only [aDet, aBuiltX, aBuiltin, hx, ht, lenSV, Option.map_some, St.put]
theorem d_len_ow {e g n : Nat} {e' : TypeId} {cs : List AV} (hx : St.ev ⟨F, T, ν, md⟩ x = .ow e g n e' cs) (ht : tiOf P t = ⟨ok, sz, by_, .sl el, zr⟩) : Det P γ ⟨F, T, ν, md⟩ (some d) (.call ⟨.builtin .len, #[x], #[t]⟩) ⟨upd F d (.k (.int .i64 (n : Int))), T, ν, md⟩ := Det.mk <| by
  simp only [aDet, aBuiltX, aBuiltin, hx, ht, lenSV, Option.map_some, St.put]
theorem d_len_os {e g off n cap : Nat} (hx : St.ev ⟨F, T, ν, md⟩ x = .os e g off n cap) (ht : tiOf P t = ⟨ok, sz, by_, .sl el, zr⟩) : Det P γ ⟨F, T, ν, md⟩ (some d) (.call ⟨.builtin .len, #[x], #[t]⟩) ⟨upd F d (.k (.int .i64 (n : Int))), T, ν, md⟩ := Det.mk <| by
  simp only [aDet, aBuiltX, aBuiltin, hx, ht, lenSV, Option.map_some, St.put]
theorem d_len_str {v : ByteArray} (hx : St.ev ⟨F, T, ν, md⟩ x = .k (.str v)) (ht : tiOf P t = ⟨ok, sz, by_, .str, zr⟩) : Det P γ ⟨F, T, ν, md⟩ (some d) (.call ⟨.builtin .len, #[x], #[t]⟩) ⟨upd F d (.k (.int .i64 (v.size : Int))), T, ν, md⟩ := Det.mk <| by
  simp only [aDet, aBuiltX, aBuiltin, hx, ht, lenSV, Option.map_some, St.put]
theorem d_len_arr {n : Nat} (ht : tiOf P t = ⟨ok, sz, by_, .arr n el, zr⟩) : Det P γ ⟨F, T, ν, md⟩ (some d) (.call ⟨.builtin .len, #[x], #[t]⟩) ⟨upd F d (.k (.int .i64 (n : Int))), T, ν, md⟩ := Det.mk <| by
  simp only [aDet, aBuiltX, aBuiltin, ht, lenSV, Option.map_some, St.put]
theorem d_min {k' : IntKind} {m n r : Int} {t' : TypeId} (hx : St.ev ⟨F, T, ν, md⟩ x = .k (.int k m)) (hy : St.ev ⟨F, T, ν, md⟩ y = .k (.int k' n)) (hr : (if n < m then n else m) = r) : Det P γ ⟨F, T, ν, md⟩ (some d) (.call ⟨.builtin .min, #[x, y], #[t, t']⟩) ⟨upd F d (.k (.int k r)), T, ν, md⟩ := Det.mk <| by
  simp only [aDet, aBuiltX, aBuiltin, hx, hy, SV.av, hr, Option.map_some, St.put]
theorem d_max {k' : IntKind} {m n r : Int} {t' : TypeId} (hx : St.ev ⟨F, T, ν, md⟩ x = .k (.int k m)) (hy : St.ev ⟨F, T, ν, md⟩ y = .k (.int k' n)) (hr : (if m < n then n else m) = r) : Det P γ ⟨F, T, ν, md⟩ (some d) (.call ⟨.builtin .max, #[x, y], #[t, t']⟩) ⟨upd F d (.k (.int k r)), T, ν, md⟩ := Det.mk <| by
  simp only [aDet, aBuiltX, aBuiltin, hx, hy, SV.av, hr, Option.map_some, St.put]
theorem d_extract {ps : List AV} {v : AV} {j : Nat} (hx : St.ev ⟨F, T, ν, md⟩ x = .k (.tup ps)) (hj : ps[j]? = some v) : Det P γ ⟨F, T, ν, md⟩ (some d) (.extract x j) ⟨upd F d (.k v), T, ν, md⟩ := Det.mk <|
  dv rfl (by simp only [aVal, hx, SV.av, aExtract, hj, Option.map_some])
theorem d_box {v : AV} {cs : List AV} (hx : St.avn ⟨F, T, ν, md⟩ x = v) (hf : v.flat = true) (hc : v.cells = cs) : Det P γ ⟨F, T, ν, md⟩ (some d) (.box t x) ⟨upd F d (.ob d γ 0), upd T d (some (γ, .obj cs)), ν, md⟩ := Det.mk <| by
  simp only [aDet, hx, aBox, hf, hc, Option.bind_some, if_true, St.mk1, St.set, St.put]
theorem d_boxA {cs : List AV} (hx : St.avn ⟨F, T, ν, md⟩ x = .agg cs) : Det P γ ⟨F, T, ν, md⟩ (some d) (.box t x) ⟨upd F d (.ob d γ 0), upd T d (some (γ, .obj cs)), ν, md⟩ := d_box hx rfl rfl
theorem d_boxS {v : AV} (hx : St.avn ⟨F, T, ν, md⟩ x = v) (hf : v.flat = true) (hc : v.cells = [v]) : Det P γ ⟨F, T, ν, md⟩ (some d) (.box t x) ⟨upd F d (.ob d γ 0), upd T d (some (γ, .obj [v])), ν, md⟩ := d_box hx hf hc
theorem d_alloc (ht : tiOf P t = ⟨true, sz, by_, un, zr⟩) : Det P γ ⟨F, T, ν, md⟩ (some d) (.alloc t) ⟨upd F d (.ob d γ 0), upd T d (some (γ, .obj zr)), ν, md⟩ := Det.mk <| by
  simp only [aDet, aAlloc, ht, Option.bind_some, if_true, St.mk1, St.set, St.put]
theorem d_store {e g off : Nat} {cs vs cs' : List AV} {v : AV} (hx : St.ev ⟨F, T, ν, md⟩ x = .ob e g off) (hT : T e = some (g, .obj cs)) (ht : tiOf P t = ⟨true, sz, by_, un, zr⟩) (hy : St.avn ⟨F, T, ν, md⟩ y = v) (hf : v.flat = true) (hc : v.cells = vs) (hl : vs.length = sz) (h2 : off + sz ≤ cs.length) (hr : cs.take off ++ vs ++ cs.drop (off + sz) = cs') :
    Det P γ ⟨F, T, ν, md⟩ none (.store t x y) ⟨F, upd T e (some (g, .obj cs')), ν, md⟩ := Det.mk <| by
  subst hc; subst hr
  simp only [aDet, hx, hy, aStore, hT, ht, hf, hl, h2, and_self, if_true, Option.map_some, St.put, St.set]
theorem d_store1 {e g off : Nat} {cs vs cs' : List AV} {v : AV} (hx : St.ev ⟨F, T, ν, md⟩ x = .ob e g off) (hT : T e = some (g, .obj cs)) (ht : tiOf P t = ⟨true, sz, by_, un, zr⟩) (hy : St.avn ⟨F, T, ν, md⟩ y = v) (hf : v.flat = true) (hc : v.cells = vs) (hl : vs.length = sz) (h2 : off + sz ≤ cs.length) (hr : cs.take off ++ vs ++ cs.drop (off + sz) = cs') :
    Det P γ ⟨F, T, ν, md⟩ (some d) (.store t x y) ⟨upd F d (.k .any), upd T e (some (g, .obj cs')), ν, md⟩ := Det.mk <| by
  subst hc; subst hr
  simp only [aDet, hx, hy, aStore, hT, ht, hf, hl, h2, and_self, if_true, Option.map_some, St.put, St.set]
theorem d_build {parts : Array (Nat × Operand)} {ps : List (Nat × AV)} {fs : List (Nat × Nat)} {cs : List AV} (ht : tiOf P t = ⟨true, sz, by_, .st fs, zr⟩) (hp : (parts.toList.map fun (j, x) => (j, St.avn ⟨F, T, ν, md⟩ x)) = ps) (hc : aFill (fun j => fs[j]?) zr ps = some cs) : Det P γ ⟨F, T, ν, md⟩ (some d) (.build t parts) ⟨upd F d (.k (.agg cs)), T, ν, md⟩ := Det.mk <|
  dv rfl (by simp only [aVal, aBuild, ht, if_true, hp, hc, Option.map_some])
theorem d_buildA {n : Nat} {parts : Array (Nat × Operand)} {ps : List (Nat × AV)} {cs : List AV} (ht : tiOf P t = ⟨true, sz, by_, .arr n el, zr⟩) (he : tiOf P el = ⟨true, sz2, by2, un2, zr2⟩) (hp : (parts.toList.map fun (j, x) => (j, St.avn ⟨F, T, ν, md⟩ x)) = ps) (hc : aFill (fun j => some (j * sz2, sz2)) zr ps = some cs) : Det P γ ⟨F, T, ν, md⟩ (some d) (.build t parts) ⟨upd F d (.k (.agg cs)), T, ν, md⟩ := Det.mk <|
  dv rfl (by simp only [aVal, aBuild, ht, he, if_true, hp, hc, Option.map_some])
theorem d_cut_k {full full' : Bool} {n m : Nat} {cs cs' : List AV} {lo hi : Option Operand} {a c : Int} (hx : St.ev ⟨F, T, ν, md⟩ x = .k (.sl full n cs)) (ht : tiOf P t = ⟨ok, sz, by_, .sl el, zr⟩) (he : tiOf P el = ⟨true, sz2, by2, un2, zr2⟩) (ha : St.bnd ⟨F, T, ν, md⟩ lo 0 = some a) (hc : St.bnd ⟨F, T, ν, md⟩ hi n = some c) (h0 : 0 ≤ a) (h1 : a ≤ c) (h2 : c ≤ n) (hl : n * sz2 = cs.length)
    (hf : (full && decide (c = n)) = full') (hm : c.toNat - a.toNat = m) (hr : (cs.take (c.toNat * sz2)).drop (a.toNat * sz2) = cs') : Det P γ ⟨F, T, ν, md⟩ (some d) (.slice t x lo hi none) ⟨upd F d (.k (.sl full' m cs')), T, ν, md⟩ := Det.mk <|
  dv rfl (by simp only [aVal, aSlice, hx, ht, lenSV, Option.bind_some, ha, hc, aCut, he]; rw [if_pos ⟨trivial, h0, h1, h2, hl⟩, hm, hr, Bool.false_or, hf])
theorem d_cut_k3 {full : Bool} {n m : Nat} {cs cs' : List AV} {lo : Option Operand} {h mx : Operand} {a c : Int} (hx : St.ev ⟨F, T, ν, md⟩ x = .k (.sl full n cs)) (ht : tiOf P t = ⟨ok, sz, by_, .sl el, zr⟩) (he : tiOf P el = ⟨true, sz2, by2, un2, zr2⟩) (ha : St.bnd ⟨F, T, ν, md⟩ lo 0 = some a) (hc : St.int? ⟨F, T, ν, md⟩ h = some c) (hx2 : St.int? ⟨F, T, ν, md⟩ mx = some c) (h0 : 0 ≤ a) (h1 : a ≤ c) (h2 : c ≤ n) (hl : n * sz2 = cs.length)
    (hm : c.toNat - a.toNat = m) (hr : (cs.take (c.toNat * sz2)).drop (a.toNat * sz2) = cs') : Det P γ ⟨F, T, ν, md⟩ (some d) (.slice t x lo (some h) (some mx)) ⟨upd F d (.k (.sl true m cs')), T, ν, md⟩ := Det.mk <|
  dv rfl (by have hb : St.bnd ⟨F, T, ν, md⟩ (some h) n = some c := hc; simp only [aVal, aSlice, hx, ht, lenSV, Option.bind_some, ha, hb, hx2, aCut, he, Option.isSome_some, and_self, if_true]; rw [if_pos ⟨trivial, h0, h1, h2, hl⟩, hm, hr, Bool.true_or])
theorem d_cut_ow {e g n m : Nat} {e' : TypeId} {cs cs' : List AV} {lo hi : Option Operand} {a c : Int} (hx : St.ev ⟨F, T, ν, md⟩ x = .ow e g n e' cs) (ht : tiOf P t = ⟨ok, sz, by_, .sl el, zr⟩) (he : tiOf P el = ⟨true, sz2, by2, un2, zr2⟩) (ha : St.bnd ⟨F, T, ν, md⟩ lo 0 = some a) (hc : St.bnd ⟨F, T, ν, md⟩ hi n = some c) (h0 : 0 ≤ a) (h1 : a ≤ c) (h2 : c ≤ n) (hl : n * sz2 = cs.length)
    (hm : c.toNat - a.toNat = m) (hr : (cs.take (c.toNat * sz2)).drop (a.toNat * sz2) = cs') : Det P γ ⟨F, T, ν, md⟩ (some d) (.slice t x lo hi none) ⟨upd F d (.k (.sl false m cs')), T, ν, md⟩ := Det.mk <|
  dv rfl (by simp only [aVal, aSlice, hx, ht, lenSV, Option.bind_some, ha, hc, aCut, he]; rw [if_pos ⟨trivial, h0, h1, h2, hl⟩, hm, hr])
theorem d_cut_os {e g off n cap o m c' : Nat} {lo hi : Option Operand} {a c : Int} (hx : St.ev ⟨F, T, ν, md⟩ x = .os e g off n cap) (ht : tiOf P t = ⟨ok, sz, by_, .sl el, zr⟩) (he : tiOf P el = ⟨true, sz2, by2, un2, zr2⟩) (ha : St.bnd ⟨F, T, ν, md⟩ lo 0 = some a) (hc : St.bnd ⟨F, T, ν, md⟩ hi n = some c) (h0 : 0 ≤ a) (h1 : a ≤ c) (h2 : c ≤ cap) (h3 : a < cap)
    (ho : off + a.toNat * sz2 = o) (hm : c.toNat - a.toNat = m) (hr : cap - a.toNat = c') : Det P γ ⟨F, T, ν, md⟩ (some d) (.slice t x lo hi none) ⟨upd F d (.os e g o m c'), T, ν, md⟩ := Det.mk <|
  dv rfl (by simp only [aVal, aSlice, hx, ht, lenSV, Option.bind_some, ha, hc, aCut, he]; rw [if_pos ⟨trivial, h0, h1, h2, h3, trivial⟩, hm, hr, ho])
theorem d_cut_arr {e g off n o m c' : Nat} {lo hi : Option Operand} {a c : Int} (hx : St.ev ⟨F, T, ν, md⟩ x = .ob e g off) (ht : tiOf P t = ⟨ok, sz, by_, .arr n el, zr⟩) (he : tiOf P el = ⟨true, sz2, by2, un2, zr2⟩) (ha : St.bnd ⟨F, T, ν, md⟩ lo 0 = some a) (hc : St.bnd ⟨F, T, ν, md⟩ hi n = some c) (h0 : 0 ≤ a) (h1 : a ≤ c) (h2 : c ≤ n) (h3 : a < n) (h4 : (n : Int) ≤ 9223372036854775807)
    (ho : off + a.toNat * sz2 = o) (hm : c.toNat - a.toNat = m) (hr : n - a.toNat = c') : Det P γ ⟨F, T, ν, md⟩ (some d) (.slice t x lo hi none) ⟨upd F d (.os e g o m c'), T, ν, md⟩ := Det.mk <|
  dv rfl (by simp only [aVal, aSlice, hx, ht, lenSV, Option.bind_some, ha, hc, aCut, he]; rw [if_pos ⟨trivial, h0, h1, h2, h3, h4, trivial⟩, hm, hr, ho])
theorem d_cut_arrcp {n m : Nat} {cs cs' : List AV} {fu : Bool} {lo hi : Option Operand} {a c : Int} (hx : St.ev ⟨F, T, ν, md⟩ x = .k (.cp cs)) (ht : tiOf P t = ⟨ok, sz, by_, .arr n el, zr⟩) (he : tiOf P el = ⟨true, sz2, by2, un2, zr2⟩) (ha : St.bnd ⟨F, T, ν, md⟩ lo 0 = some a) (hc : St.bnd ⟨F, T, ν, md⟩ hi n = some c) (h0 : 0 ≤ a) (h1 : a ≤ c) (h2 : c ≤ n) (h3 : a < n) (h4 : (n : Int) ≤ 9223372036854775807) (hl : n * sz2 ≤ cs.length)
    (hf : decide (c = n) = fu) (hm : c.toNat - a.toNat = m) (hr : (cs.take (c.toNat * sz2)).drop (a.toNat * sz2) = cs') : Det P γ ⟨F, T, ν, md⟩ (some d) (.slice t x lo hi none) ⟨upd F d (.k (.sl fu m cs')), T, ν, md⟩ := Det.mk <|
  dv rfl (by simp only [aVal, aSlice, hx, ht, lenSV, Option.bind_some, ha, hc, aCut, he]; rw [if_pos ⟨trivial, h0, h1, h2, h3, h4, hl, trivial⟩, hm, hr, hf])
theorem d_cut_str {v r : ByteArray} {lo hi : Option Operand} {a c : Int} (hx : St.ev ⟨F, T, ν, md⟩ x = .k (.str v)) (ht : tiOf P t = ⟨ok, sz, by_, .str, zr⟩) (ha : St.bnd ⟨F, T, ν, md⟩ lo 0 = some a) (hc : St.bnd ⟨F, T, ν, md⟩ hi v.size = some c) (h0 : 0 ≤ a) (h1 : a ≤ c) (h2 : c ≤ v.size) (hr : v.extract a.toNat c.toNat = r) :
    Det P γ ⟨F, T, ν, md⟩ (some d) (.slice t x lo hi none) ⟨upd F d (.k (.str r)), T, ν, md⟩ := Det.mk <|
  dv rfl (by simp only [aVal, aSlice, hx, ht, lenSV, Option.bind_some, ha, hc, aCut]; rw [if_pos ⟨h0, h1, h2, trivial⟩, hr])
theorem d_at_str {v : ByteArray} {j r : Int} (hx : St.ev ⟨F, T, ν, md⟩ x = .k (.str v)) (hj : St.ev ⟨F, T, ν, md⟩ y = .k (.int k j)) (ht : tiOf P t = ⟨ok, sz, by_, .str, zr⟩) (h0 : 0 ≤ j) (h1 : j.toNat < v.size) (hr : ((v[j.toNat]'h1).toNat : Int) = r) :
    Det P γ ⟨F, T, ν, md⟩ (some d) (.index t x y) ⟨upd F d (.k (.int .u8 r)), T, ν, md⟩ := Det.mk <|
  dv rfl (by simp only [aVal, hx, hj, St.int?, SV.av, Option.bind_some, ht, aIdx]; rw [dif_pos ⟨h0, h1⟩, hr])
theorem d_make_ow {l c : Operand} {n : Int} {m : Nat} {cs : List AV} (ht : tiOf P t = ⟨ok, sz, by_, .sl el, zr⟩) (he : tiOf P el = ⟨true, sz2, by2, un2, zr2⟩) (hl : St.int? ⟨F, T, ν, md⟩ l = some n) (hc : St.int? ⟨F, T, ν, md⟩ c = some n) (hz : 0 < sz2) (h0 : 0 ≤ n) (h1 : by2 * n ≤ 140737488355328) (h2 : n ≤ 140737488355328) (hmd : md d = false) (hm : n.toNat = m) (hcs : aZeros m sz2 zr2 = cs) :
    Det P γ ⟨F, T, ν, md⟩ (some d) (.makeSlice t l c) ⟨upd F d (.ow d γ m el cs), upd T d (some (γ, .tag)), ν, md⟩ := Det.mk <| by
  subst hm
  simp only [aDet, hl, hc, Option.bind_some, aMake, ht, elemOf?, he]
  rw [if_pos ⟨trivial, hz, h0, trivial, h1, h2⟩, hcs]
  simp [St.mkSl, hmd, St.mkT, St.set, St.put]
theorem d_make_os {l c : Operand} {n : Int} {m : Nat} {cs : List AV} (ht : tiOf P t = ⟨ok, sz, by_, .sl el, zr⟩) (he : tiOf P el = ⟨true, sz2, by2, un2, zr2⟩) (hl : St.int? ⟨F, T, ν, md⟩ l = some n) (hc : St.int? ⟨F, T, ν, md⟩ c = some n) (hz : 0 < sz2) (h0 : 0 < n) (h1 : by2 * n ≤ 140737488355328) (h2 : n ≤ 140737488355328) (hmd : md d = true) (hm : n.toNat = m) (hcs : aZeros m sz2 zr2 = cs) :
    Det P γ ⟨F, T, ν, md⟩ (some d) (.makeSlice t l c) ⟨upd F d (.os d γ 0 m m), upd T d (some (γ, .obj cs)), ν, md⟩ := Det.mk <| by
  subst hm
  simp only [aDet, hl, hc, Option.bind_some, aMake, ht, elemOf?, he]
  rw [if_pos ⟨trivial, hz, by omega, trivial, h1, h2⟩, hcs]
  have : ¬ n.toNat = 0 := by omega
  simp [St.mkSl, hmd, this, St.mk1, St.set, St.put]
theorem d_lit_ow {n : Nat} {parts : Array (Nat × Operand)} {ps : List (Nat × AV)} {cs : List AV} (ht : tiOf P t = ⟨ok, sz, by_, .sl el, zr⟩) (he : tiOf P el = ⟨true, sz2, by2, un2, zr2⟩) (h1 : n * sz2 ≤ 16777216) (hz : 0 < sz2) (hp : (parts.toList.map fun (j, x) => (j, St.avn ⟨F, T, ν, md⟩ x)) = ps) (hc : aFill (fun j => some (j * sz2, sz2)) (aZeros n sz2 zr2) ps = some cs) (hmd : md d = false) :
    Det P γ ⟨F, T, ν, md⟩ (some d) (.buildSlice t n parts) ⟨upd F d (.ow d γ n el cs), upd T d (some (γ, .tag)), ν, md⟩ := Det.mk <| by
  simp only [aDet, Option.bind_some, aBuildSl, ht, elemOf?, he, hp]
  rw [if_pos ⟨trivial, h1, hz⟩, hc]
  simp [St.mkSl, hmd, St.mkT, St.set, St.put]
theorem d_lit_os {n : Nat} {parts : Array (Nat × Operand)} {ps : List (Nat × AV)} {cs : List AV} (ht : tiOf P t = ⟨ok, sz, by_, .sl el, zr⟩) (he : tiOf P el = ⟨true, sz2, by2, un2, zr2⟩) (h1 : n * sz2 ≤ 16777216) (hz : 0 < sz2) (hp : (parts.toList.map fun (j, x) => (j, St.avn ⟨F, T, ν, md⟩ x)) = ps) (hc : aFill (fun j => some (j * sz2, sz2)) (aZeros n sz2 zr2) ps = some cs) (hmd : md d = true) (h0 : 0 < n) :
    Det P γ ⟨F, T, ν, md⟩ (some d) (.buildSlice t n parts) ⟨upd F d (.os d γ 0 n n), upd T d (some (γ, .obj cs)), ν, md⟩ := Det.mk <| by
  simp only [aDet, Option.bind_some, aBuildSl, ht, elemOf?, he, hp]
  rw [if_pos ⟨trivial, h1, hz⟩, hc]
  have : ¬ n = 0 := by omega
  simp [St.mkSl, hmd, this, St.mk1, St.set, St.put]
theorem d_lit_nil {parts : Array (Nat × Operand)} (ht : tiOf P t = ⟨ok, sz, by_, .sl el, zr⟩) (he : tiOf P el = ⟨true, sz2, by2, un2, zr2⟩) (hz : 0 < sz2) (hp : parts.toList = []) (hmd : md d = true) :
    Det P γ ⟨F, T, ν, md⟩ (some d) (.buildSlice t 0 parts) ⟨upd F d (.k (.sl true 0 [])), T, ν, md⟩ := Det.mk <| by
  simp only [aDet, Option.bind_some, aBuildSl, ht, elemOf?, he, hp, List.map_nil, aFill]
  rw [if_pos ⟨trivial, by omega, hz⟩]
  simp [St.mkSl, hmd, St.put]
/-- append: what is put on -/
theorem cont_k {full : Bool} {n : Nat} {cs : List AV} (h : St.ev s x = .k (.sl full n cs)) (hl : cs.length = n * sz) : s.cont sz (St.ev s x) = some (n, cs) := by
  rw [h]; simp [St.cont, hl]
theorem cont_ow {e g n : Nat} {e' : TypeId} {cs : List AV} (h : St.ev s x = .ow e g n e' cs) (hl : cs.length = n * sz) : s.cont sz (St.ev s x) = some (n, cs) := by
  rw [h]; simp [St.cont, hl]
theorem cont_os {e g off n cap : Nat} {cs cs' : List AV} (h : St.ev ⟨F, T, ν, md⟩ x = .os e g off n cap) (hT : T e = some (g, .obj cs)) (hl : off + n * sz ≤ cs.length) (hr : (cs.drop off).take (n * sz) = cs') : St.cont ⟨F, T, ν, md⟩ sz (St.ev ⟨F, T, ν, md⟩ x) = some (n, cs') := by
  rw [h]; simp [St.cont, St.objOf, hT, hl, hr]
theorem src_cont {m : Nat} {vs : List AV} (he : tiOf P el = ⟨true, sz2, by2, un2, zr2⟩) (hy : St.cont s sz2 (St.ev s y) = some (m, vs)) : aSrc P s el t t (St.ev s y) = some (m, vs) := by
  unfold aSrc; rw [if_pos rfl, he]; exact hy
theorem src_zero {t' : TypeId} {k k2 : IntKind} {n : Int} {m : Nat} {vs : List AV} (he : tiOf P el = ⟨true, sz2, by2, un2, zr2⟩) (hu : tiOf P t' = ⟨ok, sz, by_, .int k, zr⟩) (hy : St.ev s y = .k (.int k2 n)) (hne : t ≠ t') (h0 : 0 ≤ n) (h1 : n ≤ 140737488355328) (h2 : n.toNat * by2 ≤ 140737488355328) (hm : n.toNat = m) (hv : aZeros m sz2 zr2 = vs) :
    aSrc P s el t t' (St.ev s y) = some (m, vs) := by
  subst hm hv
  unfold aSrc; rw [if_neg hne, hy, hu]; simp only [he]; rw [if_pos ⟨h0, h1, h2⟩]
theorem src_strB {t' : TypeId} {b : ByteArray} (he : tiOf P el = ⟨true, sz2, by2, un2, zr2⟩) (hu : tiOf P t' = ⟨ok, sz, by_, .str, zr⟩) (hy : St.ev s y = .k (.str b)) (hne : t ≠ t') (h1 : sz2 = 1) : aSrc P s el t t' (St.ev s y) = some (b.size, aOfBytes b.data.toList) := by
  unfold aSrc; rw [if_neg hne, hy, hu]; simp only [he]; rw [if_pos h1]
theorem d_app_nil {t' : TypeId} {n m : Nat} {cs vs : List AV} (hx : St.ev ⟨F, T, ν, md⟩ x = .k (.sl true n cs)) (ht : tiOf P t = ⟨ok, sz, by_, .sl el, zr⟩) (he : tiOf P el = ⟨true, sz2, by2, un2, zr2⟩) (hy : aSrc P ⟨F, T, ν, md⟩ el t t' (St.ev ⟨F, T, ν, md⟩ y) = some (m, vs)) (hz : 0 < sz2) (h0 : m = 0) :
    Det P γ ⟨F, T, ν, md⟩ (some d) (.call ⟨.builtin .append, #[x, y], #[t, t']⟩) ⟨upd F d (.k (.sl true n cs)), T, ν, md⟩ := Det.mk <| by
  simp only [aDet, aBuiltX, aApp, hx, ht, elemOf?, Option.bind_some, he, hy]
  rw [if_pos ⟨trivial, hz⟩, if_pos h0]; rfl
theorem d_app_full {t' : TypeId} {n m r : Nat} {cs vs cs' : List AV} (hx : St.ev ⟨F, T, ν, md⟩ x = .k (.sl true n cs)) (ht : tiOf P t = ⟨ok, sz, by_, .sl el, zr⟩) (he : tiOf P el = ⟨true, sz2, by2, un2, zr2⟩) (hy : aSrc P ⟨F, T, ν, md⟩ el t t' (St.ev ⟨F, T, ν, md⟩ y) = some (m, vs)) (hz : 0 < sz2) (hl : cs.length = n * sz2) (h0 : 0 < m) (h1 : (n + m) * by2 ≤ 140737488355328) (h2 : n + m ≤ 140737488355328) (hmd : md d = false) (hr : n + m = r) (hcs : cs ++ vs = cs') :
    Det P γ ⟨F, T, ν, md⟩ (some d) (.call ⟨.builtin .append, #[x, y], #[t, t']⟩) ⟨upd F d (.ow d γ r el cs'), upd T d (some (γ, .tag)), ν, md⟩ := Det.mk <| by
  simp only [aDet, aBuiltX, aApp, hx, ht, elemOf?, Option.bind_some, he, hy]
  rw [if_pos ⟨trivial, hz⟩, if_neg (Nat.pos_iff_ne_zero.1 h0), if_pos ⟨hl, h1, h2⟩, hr, hcs]
  simp [hmd, St.mkT, St.set, St.put]
theorem d_app_fullS {t' : TypeId} {n m r : Nat} {cs vs cs' : List AV} (hx : St.ev ⟨F, T, ν, md⟩ x = .k (.sl true n cs)) (ht : tiOf P t = ⟨ok, sz, by_, .sl el, zr⟩) (he : tiOf P el = ⟨true, sz2, by2, un2, zr2⟩) (hy : aSrc P ⟨F, T, ν, md⟩ el t t' (St.ev ⟨F, T, ν, md⟩ y) = some (m, vs)) (hz : 0 < sz2) (hl : cs.length = n * sz2) (h0 : 0 < m) (h1 : (n + m) * by2 ≤ 140737488355328) (h2 : n + m ≤ 140737488355328) (hmd : md d = true) (hr : n + m = r) (hcs : cs ++ vs = cs') :
    Det P γ ⟨F, T, ν, md⟩ (some d) (.call ⟨.builtin .append, #[x, y], #[t, t']⟩) ⟨upd F d (.os d γ 0 r r), upd T d (some (γ, .obj cs')), ν, md⟩ := Det.mk <| by
  simp only [aDet, aBuiltX, aApp, hx, ht, elemOf?, Option.bind_some, he, hy]
  rw [if_pos ⟨trivial, hz⟩, if_neg (Nat.pos_iff_ne_zero.1 h0), if_pos ⟨hl, h1, h2⟩, hr, hcs]
  simp [hmd, St.mk1, St.set, St.put]
theorem d_app_ow {t' : TypeId} {e g n m r : Nat} {cs vs cs' : List AV} (hx : St.ev ⟨F, T, ν, md⟩ x = .ow e g n el cs) (hT : T e = some (g, .tag)) (ht : tiOf P t = ⟨ok, sz, by_, .sl el, zr⟩) (he : tiOf P el = ⟨true, sz2, by2, un2, zr2⟩) (hy : aSrc P ⟨F, T, ν, md⟩ el t t' (St.ev ⟨F, T, ν, md⟩ y) = some (m, vs)) (hz : 0 < sz2) (h1 : (n + m) * by2 ≤ 140737488355328) (h2 : n + m ≤ 140737488355328) (hmd : md d = false) (hr : n + m = r) (hcs : cs ++ vs = cs') :
    Det P γ ⟨F, T, ν, md⟩ (some d) (.call ⟨.builtin .append, #[x, y], #[t, t']⟩) ⟨upd F d (.ow d γ r el cs'), upd (upd T e none) d (some (γ, .tag)), ν, md⟩ := Det.mk <| by
  simp only [aDet, aBuiltX, aApp, hx, hT, ht, elemOf?, Option.bind_some, he, hy]
  rw [if_pos ⟨trivial, hz⟩, if_pos ⟨trivial, trivial, h1, h2, hmd⟩, hr, hcs]
  simp [St.mkT, St.set, St.put]
end
end Go.Proofs.Ytikganlbnhapcaa
