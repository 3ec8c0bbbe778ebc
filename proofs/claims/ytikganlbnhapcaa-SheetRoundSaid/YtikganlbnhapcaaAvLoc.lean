import Derived.Test.YtikganlbnhapcaaAvSound
namespace Go.Proofs.Ytikganlbnhapcaa
open Go.RowKit
set_option linter.unusedVariables false
set_option linter.unusedSimpArgs false

/-! what a step looks at, and what it leaves -/
def keyOf : SV → List Nat
  | .k _ => []
  | .ob d _ _ => [d]
  | .os d _ _ _ _ => [d]
  | .ow d _ _ _ _ => [d]
def AgE (s s2 : St) (l : List Operand) : Prop := ∀ x ∈ l, s2.ev x = s.ev x
def AgT (s s2 : St) (l : List Operand) : Prop := ∀ x ∈ l, ∀ d ∈ keyOf (s.ev x), s2.tb d = s.tb d
section
variable {P : Program} {s s2 : St}
theorem objOf_loc {d g : Nat} (h : s2.tb d = s.tb d) : s2.objOf d g = s.objOf d g := by unfold St.objOf; rw [h]
theorem aLoad_loc {t : TypeId} {x : SV} (hm : s2.md = s.md) (h : ∀ d ∈ keyOf x, s2.tb d = s.tb d) : aLoad P s2 t x = aLoad P s t x := by
  unfold aLoad
  split
  · split
    · rw [hm]
    · rw [objOf_loc (h _ (by simp [keyOf])), hm]
    · rfl
  · rfl
theorem cont_loc {sz : Nat} {x : SV} (h : ∀ d ∈ keyOf x, s2.tb d = s.tb d) : s2.cont sz x = s.cont sz x := by
  cases x with
  | k v => cases v <;> rfl
  | ob d g off => rfl
  | os d g off n cap => simp only [St.cont, objOf_loc (s := s) (s2 := s2) (h d (by simp [keyOf]))]
  | ow d g n e cs => rfl
theorem aConv_loc {t u : TypeId} {x : SV} (h : ∀ d ∈ keyOf x, s2.tb d = s.tb d) : aConv P s2 t u x = aConv P s t u x := by
  unfold aConv
  simp only [cont_loc h]
theorem int_loc {x : Operand} (h : s2.ev x = s.ev x) : s2.int? x = s.int? x := by unfold St.int?; rw [h]
theorem parts_loc {parts : List (Nat × Operand)} (hm : s2.md = s.md) (h : ∀ p ∈ parts, s2.ev p.2 = s.ev p.2) : (parts.map fun (j, x) => (j, s2.avn x)) = parts.map fun (j, x) => (j, s.avn x) := by
  apply List.map_congr_left
  intro p hp
  simp only [St.avn, h p hp, hm]
theorem aBuild_loc {t : TypeId} {parts : List (Nat × Operand)} (hm : s2.md = s.md) (h : ∀ p ∈ parts, s2.ev p.2 = s.ev p.2) : aBuild P s2 t parts = aBuild P s t parts := by
  unfold aBuild; rw [parts_loc hm h]
theorem bnd_loc {x : Option Operand} {n : Int} (h : ∀ y ∈ x.toList, s2.ev y = s.ev y) : s2.bnd x n = s.bnd x n := by
  cases x with
  | none => rfl
  | some x => exact int_loc (h x (by simp))
theorem aBuiltin_loc {b : Builtin} {args : List Operand} {ts : List TypeId} (h : AgE s s2 args) : aBuiltin P s2 b args ts = aBuiltin P s b args ts := by
  unfold aBuiltin
  split
  · rename_i x t; rw [h x (by simp)]
  · rename_i x y; rw [h x (by simp), h y (by simp)]
  · rename_i x y; rw [h x (by simp), h y (by simp)]
  · rfl
theorem callOperands (c : Call) : ∀ x ∈ c.args.toList, x ∈ c.operands.toList := by
  intro x hx
  unfold Call.operands
  simp_all
/-- the change that a step brings -/
structure Dl where
  v : Option (Nat × SV)
  t : List (Nat × Option (Nat × Ent))
def tbs (T : Nat → Option (Nat × Ent)) : List (Nat × Option (Nat × Ent)) → Nat → Option (Nat × Ent)
  | [] => T
  | (d, e) :: l => tbs (upd T d e) l
def Dl.ap (D : Dl) (s : St) : St := ⟨match D.v with | some (d, v) => upd s.fr d v | none => s.fr, tbs s.tb D.t, s.nx, s.md⟩
/-- the keys that a step reads, and those that it writes -/
def opKeys (s : St) (op : Op) : List Nat := op.operands.toList.flatMap fun x => keyOf (s.ev x)
def wrKeys (s : St) (dst : Option Nat) (op : Op) : List Nat :=
  match op with
  | .alloc _ => dst.toList
  | .box _ _ => dst.toList
  | .buildSlice _ _ _ => dst.toList
  | .makeSlice _ _ _ => dst.toList
  | .store _ _ _ => opKeys s op
  | .convert _ _ _ => opKeys s op
  | .call ⟨.builtin .append, _, _⟩ => dst.toList ++ opKeys s op
  | .call ⟨.builtin .copy, _, _⟩ => opKeys s op
  | .call ⟨.value _, _, _⟩ => dst.toList
  | _ => []
def rdKeys (s : St) (op : Op) : List Nat :=
  match op with
  | .load _ _ => opKeys s op
  | .store _ _ _ => opKeys s op
  | .convert _ _ _ => opKeys s op
  | .call ⟨.builtin .len, _, _⟩ => []
  | .call _ => opKeys s op
  | _ => []
theorem aVal_loc {op : Op} (hm : s2.md = s.md) (he : AgE s s2 op.operands.toList) (ht : ∀ d ∈ rdKeys s op, s2.tb d = s.tb d) : aVal P s2 op = aVal P s op := by
  cases op <;> try rfl
  all_goals (simp only [Op.operands, AgE] at he; simp only [aVal])
  case move x => rw [he x (by simp)]
  case assign x => rw [he x (by simp)]
  case pick c a b => rw [he c (by simp), he a (by simp), he b (by simp)]
  case build t ps => rw [aBuild_loc hm]; intro p hp; exact he p.2 (List.mem_map_of_mem hp)
  case load t x => rw [he x (by simp), aLoad_loc hm (fun d hd => ht d (by simp only [rdKeys, opKeys, List.mem_flatMap]; exact ⟨x, by simp [Op.operands], hd⟩))]
  case nilCheck x => rw [he x (by simp)]
  case binOp op t x y u => simp only [he x (by simp), he y (by simp)]
  case unOp op t x => rw [he x (by simp)]
  case convert a b x => rw [he x (by simp), aConv_loc (fun d hd => ht d (by simp only [rdKeys, opKeys, List.mem_flatMap]; exact ⟨x, by simp [Op.operands], hd⟩))]
  case sliceToArrayPointer t x => rw [he x (by simp)]
  case fieldAddr t x f => rw [he x (by simp)]
  case indexAddr t x j => rw [he x (by simp), int_loc (he j (by simp))]
  case index t x j => rw [he x (by simp), int_loc (he j (by simp))]
  case extract x j => rw [he x (by simp)]
  case slice t x l h m =>
    unfold aSlice
    rw [he x (by simp), bnd_loc (fun y hy => he y (by simp_all)), ]
    congr 1; funext n; congr 1; funext l'
    rw [bnd_loc (fun y hy => he y (by simp_all))]
    congr 1; funext h'
    cases m with
    | none => rfl
    | some m => simp only [int_loc (s := s) (s2 := s2) (he m (by simp))]
  case call c =>
    split
    · rw [aBuiltin_loc (fun x hx => he x (callOperands c x hx))]
    · rfl
theorem put_ap (s : St) (dst : Option Nat) (v : SV) : s.put dst v = (Dl.mk (dst.map fun d => (d, v)) []).ap s := by
  cases dst <;> rfl
theorem mkSl_ap (s : St) (d γ n : Nat) (e : TypeId) (cs : List AV) : ∃ D : Dl, (∀ d' v, D.v = some (d', v) → d = d') ∧ (∀ p ∈ D.t, p.1 = d) ∧ ∀ s2 : St, s2.md = s.md → s2.mkSl d γ n e cs = D.ap s2 := by
  by_cases hm : s.md d = true
  · by_cases hn : n = 0
    · exact ⟨⟨some (d, .k (.sl true 0 [])), []⟩, fun d' v e => by simp at e; exact e.1, by simp, fun s2 h2 => by unfold St.mkSl; rw [h2, if_pos hm, if_pos hn]; rfl⟩
    · exact ⟨⟨some (d, .os d γ 0 n n), [(d, some (γ, .obj cs))]⟩, fun d' v e => by simp at e; exact e.1, by simp, fun s2 h2 => by unfold St.mkSl; rw [h2, if_pos hm, if_neg hn]; rfl⟩
  · exact ⟨⟨some (d, .ow d γ n e cs), [(d, some (γ, .tag))]⟩, fun d' v e => by simp at e; exact e.1, by simp, fun s2 h2 => by unfold St.mkSl; rw [h2, if_neg hm]; rfl⟩
/-- what a local step is -/
def Loc (f : St → Option St) (s : St) (dst : Option Nat) (es : List Operand) (rk wk : List Nat) (s' : St) : Prop :=
  ∃ D : Dl, s' = D.ap s ∧ (∀ d v, D.v = some (d, v) → dst = some d) ∧ (∀ p ∈ D.t, p.1 ∈ wk) ∧ ∀ s2, s2.md = s.md → AgE s s2 es → (∀ d ∈ rk, s2.tb d = s.tb d) → f s2 = some (D.ap s2)
theorem Loc.wk {f : St → Option St} {dst : Option Nat} {es : List Operand} {rk wk wk' : List Nat} {s' : St} (h : Loc f s dst es rk wk s') (hw : ∀ k ∈ wk, k ∈ wk') : Loc f s dst es rk wk' s' := by
  obtain ⟨D, h1, h2, h3, h4⟩ := h
  exact ⟨D, h1, h2, fun p hp => hw _ (h3 p hp), h4⟩
theorem val_loc {γ : Nat} {dst : Option Nat} {op : Op} {s' : St} (hm : ∀ s2 : St, aDet P γ s2 dst op = (aVal P s2 op).map (s2.put dst)) (h : aDet P γ s dst op = some s') : Loc (fun s2 => aDet P γ s2 dst op) s dst op.operands.toList (rdKeys s op) [] s' := by
  rw [hm] at h
  simp only [Option.map_eq_some_iff] at h
  obtain ⟨v, hv, rfl⟩ := h
  refine ⟨⟨dst.map fun d => (d, v), []⟩, put_ap _ _ _, fun d v' e => ?_, by simp, fun s2 h2 he ht => ?_⟩
  · cases dst <;> simp at e; simp [e.1]
  · show aDet P γ s2 dst op = _
    rw [hm, aVal_loc h2 he ht, hv, ← put_ap]; rfl
theorem mem_opKeys {op : Op} {x : Operand} {d : Nat} (hx : x ∈ op.operands.toList) (hd : d ∈ keyOf (s.ev x)) : d ∈ opKeys s op := by
  simp only [opKeys, List.mem_flatMap]; exact ⟨x, hx, hd⟩
theorem mk1_ap (s : St) (d γ : Nat) (cs : List AV) (x : SV) : s.mk1 d γ cs x = (Dl.mk (some (d, x)) [(d, some (γ, .obj cs))]).ap s := rfl
theorem mkT_ap (s : St) (d γ : Nat) (x : SV) : s.mkT d γ x = (Dl.mk (some (d, x)) [(d, some (γ, .tag))]).ap s := rfl
theorem alloc_loc {γ d : Nat} {e : TypeId} {s' : St} (h : aAlloc P γ s d e = some s') : Loc (fun s2 => aAlloc P γ s2 d e) s (some d) [] [] [d] s' := by
  unfold aAlloc at h
  split at h
  · rename_i hok
    injection h with h; subst h
    refine ⟨_, mk1_ap _ _ _ _ _, fun d' v e => by simp at e; simp [e.1], by simp, fun s2 _ _ _ => ?_⟩
    simp only [aAlloc, if_pos hok, mk1_ap]
  · cases h
theorem box_loc {γ d : Nat} {x : Operand} {s' : St} (h : aBox γ s d (s.avn x) = some s') : Loc (fun s2 => aBox γ s2 d (s2.avn x)) s (some d) [x] [] [d] s' := by
  unfold aBox at h
  split at h
  · rename_i hok
    injection h with h; subst h
    refine ⟨_, mk1_ap _ _ _ _ _, fun d' v e => by simp at e; simp [e.1], by simp, fun s2 hm he _ => ?_⟩
    have e2 : s2.avn x = s.avn x := by unfold St.avn; rw [he x (by simp), hm]
    simp only [aBox, e2, if_pos hok, mk1_ap]
  · cases h
theorem buildSl_loc {γ d n : Nat} {t : TypeId} {parts : List (Nat × Operand)} {s' : St} (h : aBuildSl P γ s d t n parts = some s') : Loc (fun s2 => aBuildSl P γ s2 d t n parts) s (some d) (parts.map (·.2)) [] [d] s' := by
  unfold aBuildSl at h
  simp only [Option.bind_eq_some_iff] at h
  obtain ⟨e, he, h⟩ := h
  split at h
  · rename_i hok
    simp only [Option.map_eq_some_iff] at h
    obtain ⟨cs, hc, rfl⟩ := h
    obtain ⟨D, h1, h2, h3⟩ := mkSl_ap s d γ n e cs
    refine ⟨D, h3 s rfl, fun d' v e => by rw [h1 d' v e], fun p hp => by simp [h2 p hp], fun s2 hm ha _ => ?_⟩
    simp only [aBuildSl, he, Option.bind_some, if_pos hok]
    rw [parts_loc (s := s) hm (fun p hp => ha p.2 (List.mem_map_of_mem hp)), hc, Option.map_some, h3 s2 hm]
  · cases h
theorem make_loc {γ d : Nat} {t : TypeId} {l c : Int} {s' : St} (h : aMake P γ s d t l c = some s') : Loc (fun s2 => aMake P γ s2 d t l c) s (some d) [] [] [d] s' := by
  unfold aMake at h
  simp only [Option.bind_eq_some_iff] at h
  obtain ⟨e, he, h⟩ := h
  split at h
  · rename_i hok
    injection h with h
    obtain ⟨D, h1, h2, h3⟩ := mkSl_ap s d γ l.toNat e (aZeros l.toNat (tiOf P e).sz (tiOf P e).zr)
    subst h
    refine ⟨D, h3 s rfl, fun d' v e => by rw [h1 d' v e], fun p hp => by simp [h2 p hp], fun s2 hm ha _ => ?_⟩
    simp only [aMake, he, Option.bind_some, if_pos hok, h3 s2 hm]
  · cases h
end
end Go.Proofs.Ytikganlbnhapcaa
