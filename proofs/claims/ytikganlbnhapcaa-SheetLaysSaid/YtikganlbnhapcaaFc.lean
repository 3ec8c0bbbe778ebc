import Derived.Test.YtikganlbnhapcaaFb
import Derived.TacticsIn
import Derived.OrdersIn
import Derived.Test.YtikganlbnhapcaaBits
namespace Go.Proofs.Ytikganlbnhapcaa
open Go.RowKit
set_option linter.unusedVariables false
set_option linter.unusedSimpArgs false

section
variable {P : Program} {w0 : Base} {w w' : World} {K0 : Anc} {G : Gh} {us : Nat → Prop} {s : St} {a : Act}
theorem St.res_nx {dst : Option Nat} {γ : Nat} {r : RV} {s' : St} (h : s.res dst γ r = some s') : s'.nx = s.nx := by
  unfold St.res at h
  split at h
  · injection h with h; subst h; exact St.put_nx _ _ _
  · split at h
    · split at h
      · injection h with h; subst h; rfl
      · cases h
    · injection h with h; subst h; rfl
  · injection h with h; subst h; rfl
  · injection h with h; subst h; rfl
  · injection h with h; subst h; rfl
  · injection h with h; subst h; rfl
  · injection h with h; subst h; rfl
theorem aOp_sound {N : Nat} (h : Real P w0 K0 G us s a w) (hN : a.tmps.size = N) {γ : Nat} (hu : ¬ us γ) {o : Oper} (hd : ∀ d, o.dst = some d → d < N) {K : St → Prop} (ha : aOp P γ s o K) {Q : Exit → Act → World → Prop} :
    o.wp P a w (Nx P w0 K0 N s.nx (fun g => us g ∨ g = γ) K) Q := by
  have hd' : ∀ d, o.dst = some d → d < a.tmps.size := fun d e => by rw [hN]; exact hd d e
  have det : ∀ s', aDet P γ s o.dst o.op = some s' → K s' → o.wp P a w (Nx P w0 K0 N s.nx (fun g => us g ∨ g = γ) K) Q := fun s' h1 h2 =>
    aDet_sound h hu hd' h1 fun v w' G' hG => ⟨s', G', h2, hG, by rw [put_size]; exact hN, aDet_nx h1⟩
  unfold aOp at ha
  split at ha
  · rename_i f args ts ho
    obtain ⟨ys, r, s', h1, h2, h3, h4, h5⟩ := ha
    exact call_sound h hu hd' (f := f) (os := args.toList) (ts := ts.toList) (by rw [ho]) h1 h2 h3 h4 fun v w' G' hG => ⟨s', G', h5, hG, by rw [put_size]; exact hN, St.res_nx h4⟩
  · split at ha
    · rename_i s' hs
      exact det s' hs ha
    · exact ha.elim
theorem krep_undef (K : Kd) : KRep K (.tup []) undef := .tup [] #[] rfl (fun i x v hx => by simp at hx)
theorem KRep.tup0_inv {K : Kd} {v : Value} (h : KRep K (.tup []) v) : v = .tuple #[] := by
  cases h with
  | tup cells vs hl _ => rw [show vs = #[] from Array.eq_empty_of_size_eq_zero hl]
theorem yld_sound (h : Real P w0 K0 G us s a w) {ops : List Oper} {j : Nat} {b : Bool} (hy : yld ops s j = some b) : yielded ops.toArray a.tmps j = some b := by
  unfold yld at hy
  split at hy
  · rename_i d hd
    split at hy
    · rename_i b' hb
      injection hy with hy; subst hy
      have hs := h.slots d
      rw [hb] at hs
      have e : a.tmps.getD d undef = .bool b' := by
        generalize a.tmps.getD d undef = v at hs
        cases hs with | k _ _ hk => exact hk.bool_inv
      have e2 : a.tmps[d]? = some (.bool b') := by
        rw [Array.getD_eq_getD_getElem?] at e
        cases hq : a.tmps[d]? with
        | none => rw [hq] at e; cases e
        | some v => rw [hq] at e; simp at e; rw [e]
      unfold yielded
      rw [show (ops.toArray[j]?.bind fun x => x.dst) = some d by simpa using hd]
      simp [e2]
    · cases hy
  · cases hy
theorem ydead_sound (h : Real P w0 K0 G us s a w) {ops : List Oper} {j : Nat} (hy : ydead ops s j = true) : yielded ops.toArray a.tmps j = none := by
  unfold ydead at hy
  split at hy
  · rename_i d hd
    split at hy
    · rename_i hb
      have hs := h.slots d
      rw [hb] at hs
      have e : a.tmps.getD d undef = .tuple #[] := by
        generalize a.tmps.getD d undef = v at hs
        cases hs with | k _ _ hk => exact hk.tup0_inv
      unfold yielded
      rw [show (ops.toArray[j]?.bind fun x => x.dst) = some d by simpa using hd]
      rw [Array.getD_eq_getD_getElem?] at e
      cases hq : a.tmps[d]? with
      | none => simp [hq]
      | some v => rw [hq] at e; simp at e; simp [hq, e]
    · cases hy
  · cases hy
theorem aGuard_sound {N : Nat} (h : Real P w0 K0 G us s a w) (hN : a.tmps.size = N) {γ : Nat} (hu : ¬ us γ) {ops : List Oper} {o : Oper} (hd : ∀ d, o.dst = some d → d < N) {K : St → Prop} (ha : aGuard P ops γ s o K) {Q : Exit → Act → World → Prop} :
    if Region.wanted o (yielded ops.toArray a.tmps) = true then o.wp P a w (Nx P w0 K0 N s.nx (fun g => us g ∨ g = γ) K) Q else Nx P w0 K0 N s.nx (fun g => us g ∨ g = γ) K (a.put o.dst undef) w := by
  unfold aGuard at ha
  split at ha
  · rename_i hg
    rw [if_pos (by simp [Region.wanted, hg])]
    exact aOp_sound h hN hu hd ha
  · rename_i j want hg
    split at ha
    · rename_i b hb
      have hy := yld_sound h hb
      split at ha
      · rename_i e
        rw [if_pos (by simp [Region.wanted, hg, hy, e])]
        exact aOp_sound h hN hu hd ha
      · rename_i e
        rw [if_neg (by simp [Region.wanted, hg, hy, e])]
        exact ⟨_, G, ha, (h.us_mono (fun g hg => .inl hg)).put o.dst _ _ (.k _ _ (krep_undef _)) (fun d e => by rw [hN]; exact hd d e), by rw [put_size]; exact hN, St.put_nx _ _ _⟩
    · obtain ⟨hz, ha⟩ := ha
      have hy := ydead_sound h hz
      rw [if_neg (by simp [Region.wanted, hg, hy])]
      exact ⟨_, G, ha, (h.us_mono (fun g hg => .inl hg)).put o.dst _ _ (.k _ _ (krep_undef _)) (fun d e => by rw [hN]; exact hd d e), by rw [put_size]; exact hN, St.put_nx _ _ _⟩
theorem Real.ghs {s' : St} (h : Real P w0 K0 G us s a w) (hg : Ghs s s') : ∃ G', Real P w0 K0 G' us s' a w := by
  induction hg generalizing G with
  | refl s => exact ⟨G, h⟩
  | os s s2 t d g off n cap m cs h1 h2 h3 _ ih =>
    obtain ⟨K2, b, hle, hat, hR, hk⟩ := h.known h2
    refine ih (G := G.withK K2) ⟨hR.below, hR.kok, fun t' => ?_, hR.ents, hR.dist, hR.fresh, hR.defers, hR.rows, hR.offs, hR.kle, hR.kold, hR.oth, hR.krw, hR.dpl, hR.dp0, hR.kro, hR.gle⟩
    by_cases ht : t' = t
    · subst ht
      simp only [upd_same]
      have hs := h.slots t'
      rw [h1] at hs
      generalize a.tmps.getD t' undef = v at hs
      cases hs with
      | os d g off n cap b' o c hat' hn hc hm =>
        rw [hat] at hat'; injection hat' with hat'; injection hat' with e1 e2; subst e1 e2
        have h4 := (hk.cp_drop off (by omega)).cp_cut m
        exact .k _ _ (h4.sl_of_cp _ _ _ (by omega) hm (fun q => by cases q))
    · simp only [upd_ne _ _ _ _ ht]
      exact hR.slots t'
  | ob s s2 t d g off cs h1 h2 h3 _ ih =>
    obtain ⟨K2, b, hle, hat, hR, hk⟩ := h.known h2
    refine ih (G := G.withK K2) ⟨hR.below, hR.kok, fun t' => ?_, hR.ents, hR.dist, hR.fresh, hR.defers, hR.rows, hR.offs, hR.kle, hR.kold, hR.oth, hR.krw, hR.dpl, hR.dp0, hR.kro, hR.gle⟩
    by_cases ht : t' = t
    · subst ht
      simp only [upd_same]
      have hs := h.slots t'
      rw [h1] at hs
      generalize a.tmps.getD t' undef = v at hs
      cases hs with
      | ob d g off b' o hat' =>
        rw [hat] at hat'; injection hat' with hat'; injection hat' with e1 e2; subst e1 e2
        exact .k _ _ (hk.cp_drop off h3)
    · simp only [upd_ne _ _ _ _ ht]
      exact hR.slots t'
theorem aRun_sound {N : Nat} {ops : List Oper} {Q : Exit → Act → World → Prop} {K : St → Prop} : ∀ (l : List Oper) (i : Nat) (s : St) (a : Act) (w : World) (G : Gh), dstsOk N l = true → Real P w0 K0 G (fun g => g < s.nx + i) s a w → a.tmps.size = N → aRun P ops i l s K →
    (∀ s' G' a' w', K s' → Real P w0 K0 G' (fun g => g < s.nx + (i + l.length)) s' a' w' → a'.tmps.size = N → s'.nx = s.nx → Q .normal a' w') → wpList P ops.toArray Q l a w
  | [], i, s, a, w, G, _, h, hN, ha, hq => by
    obtain ⟨s', h1, h2⟩ := ha
    obtain ⟨G', h3⟩ := h.ghs h1
    have hn := h1.nx
    exact hq s' G' a w h2 (by simpa using h3) hN hn
  | o :: l, i, s, a, w, G, hok, h, hN, ha, hq => by
    simp only [dstsOk, List.all_cons, Bool.and_eq_true] at hok
    have hd : ∀ d, o.dst = some d → d < N := fun d e => by have := hok.1; rw [e] at this; simpa using this
    refine wpList_step fun K' hK' => ?_
    have cont : ∀ a' w', Nx P w0 K0 N s.nx (fun g => g < s.nx + i ∨ g = s.nx + i) (fun s' => aRun P ops (i + 1) l s' K) a' w' → K' a' w' := by
      rintro a' w' ⟨s', G', k1, k2, k3, k4⟩
      refine hK' a' w' (aRun_sound l (i + 1) s' a' w' G' hok.2 ?_ k3 k1 ?_)
      · rw [k4]; exact k2.us_mono fun g hg => by omega
      · intro s2 G2 a2 w2 q1 q2 q3 q4
        refine hq s2 G2 a2 w2 q1 ?_ q3 (q4.trans k4)
        rw [k4] at q2
        exact q2.us_mono fun g hg => by simp only [List.length_cons]; omega
    rcases ha with ha | ⟨hgd, ha⟩
    · have hs := aGuard_sound (Q := Q) h hN (γ := s.nx + i) (by omega) hd ha
      split at hs
      · rename_i hw; rw [if_pos hw]; exact Oper.wp_mono cont hs
      · rename_i hw; rw [if_neg hw]; exact cont _ _ hs
    · have hw : Region.wanted o (yielded ops.toArray a.tmps) = true := by
        unfold gdOk at hgd
        split at hgd
        · rename_i hg; simp [Region.wanted, hg]
        · rename_i j want hg
          simp [Region.wanted, hg, yld_sound h hgd]
      rw [if_pos hw]
      refine mcall_sound h (fun d e => by rw [hN]; exact hd d e) ha fun s' v w' G' k1 k2 k3 => cont _ _ ⟨s', G', k1, k3.us_mono (fun g hg => .inl hg), by rw [put_size]; exact hN, k2⟩
end
end Go.Proofs.Ytikganlbnhapcaa

namespace Go.Proofs.Ytikganlbnhapcaa
open Go.RowKit
set_option linter.unusedVariables false
set_option linter.unusedSimpArgs false

/-! what a step looks at, and what it leaves -/
def keyOf : SV → List Nat
  | .k _ => []
  | .ob d _ _ => [d]
  | .os d _ _ _ _ => [d]
  | .ow d _ _ _ _ => [d]
  | .pk d _ _ _ d2 _ _ _ => [d, d2]
def AgE (s s2 : St) (l : List Operand) : Prop := ∀ x ∈ l, s2.ev x = s.ev x
def AgT (s s2 : St) (l : List Operand) : Prop := ∀ x ∈ l, ∀ d ∈ keyOf (s.ev x), s2.tb d = s.tb d
section
variable {P : Program} {s s2 : St}
theorem objOf_loc {d g : Nat} (h : s2.tb d = s.tb d) : s2.objOf d g = s.objOf d g := by unfold St.objOf; rw [h]
theorem aLoad_loc {t : TypeId} {x : SV} (hm : s2.md = s.md) (h : ∀ d ∈ keyOf x, s2.tb d = s.tb d) : aLoad P s2 t x = aLoad P s t x := by
  unfold aLoad
  split
  · split
    · rw [hm]
    · rw [objOf_loc (h _ (by simp [keyOf])), hm]
    · rfl
  · rfl
theorem cont_loc {sz : Nat} {x : SV} (h : ∀ d ∈ keyOf x, s2.tb d = s.tb d) : s2.cont sz x = s.cont sz x := by
  cases x with
  | k v => cases v <;> rfl
  | ob d g off => rfl
  | os d g off n cap => simp only [St.cont, objOf_loc (s := s) (s2 := s2) (h d (by simp [keyOf]))]
  | pk => rfl
  | ow d g n e cs => rfl
theorem aConv_loc {t u : TypeId} {x : SV} (h : ∀ d ∈ keyOf x, s2.tb d = s.tb d) : aConv P s2 t u x = aConv P s t u x := by
  unfold aConv
  simp only [cont_loc h]
theorem int_loc {x : Operand} (h : s2.ev x = s.ev x) : s2.int? x = s.int? x := by unfold St.int?; rw [h]
theorem parts_loc {parts : List (Nat × Operand)} (hm : s2.md = s.md) (h : ∀ p ∈ parts, s2.ev p.2 = s.ev p.2) : (parts.map fun (j, x) => (j, s2.avn x)) = parts.map fun (j, x) => (j, s.avn x) := by
  apply List.map_congr_left
  intro p hp
  simp only [St.avn, h p hp, hm]
theorem aBuild_loc {t : TypeId} {parts : List (Nat × Operand)} (hm : s2.md = s.md) (h : ∀ p ∈ parts, s2.ev p.2 = s.ev p.2) : aBuild P s2 t parts = aBuild P s t parts := by
  unfold aBuild; rw [parts_loc hm h]
theorem bnd_loc {x : Option Operand} {n : Int} (h : ∀ y ∈ x.toList, s2.ev y = s.ev y) : s2.bnd x n = s.bnd x n := by
  cases x with
  | none => rfl
  | some x => exact int_loc (h x (by simp))
theorem aBuiltin_loc {b : Builtin} {args : List Operand} {ts : List TypeId} (h : AgE s s2 args) : aBuiltin P s2 b args ts = aBuiltin P s b args ts := by
  unfold aBuiltin
  split
  · rename_i x t; rw [h x (by simp)]
  · rename_i x y; rw [h x (by simp), h y (by simp)]
  · rename_i x y; rw [h x (by simp), h y (by simp)]
  · rfl
theorem callOperands (c : Call) : ∀ x ∈ c.args.toList, x ∈ c.operands.toList := by
  intro x hx
  unfold Call.operands
  simp_all
/-- the change that a step brings -/
structure Dl where
  v : Option (Nat × SV)
  t : List (Nat × Option (Nat × Ent))
def tbs (T : Nat → Option (Nat × Ent)) : List (Nat × Option (Nat × Ent)) → Nat → Option (Nat × Ent)
  | [] => T
  | (d, e) :: l => tbs (upd T d e) l
def Dl.ap (D : Dl) (s : St) : St := ⟨match D.v with | some (d, v) => upd s.fr d v | none => s.fr, tbs s.tb D.t, s.nx, s.md⟩
/-- the keys that a step reads, and those that it writes -/
def opKeys (s : St) (op : Op) : List Nat := op.operands.toList.flatMap fun x => keyOf (s.ev x)
def wrKeys (s : St) (dst : Option Nat) (op : Op) : List Nat :=
  match op with
  | .alloc _ => dst.toList
  | .box _ _ => dst.toList
  | .buildSlice _ _ _ => dst.toList
  | .makeSlice _ _ _ => dst.toList
  | .store _ _ _ => opKeys s op
  | .convert _ _ _ => opKeys s op
  | .call ⟨.builtin .append, _, _⟩ => dst.toList ++ opKeys s op
  | .call ⟨.builtin .copy, _, _⟩ => opKeys s op
  | .call ⟨.value _, _, _⟩ => dst.toList
  | _ => []
def rdKeys (s : St) (op : Op) : List Nat :=
  match op with
  | .load _ _ => opKeys s op
  | .store _ _ _ => opKeys s op
  | .convert _ _ _ => opKeys s op
  | .call ⟨.builtin .len, _, _⟩ => []
  | .call _ => opKeys s op
  | _ => []
theorem aVal_loc {op : Op} (hm : s2.md = s.md) (he : AgE s s2 op.operands.toList) (ht : ∀ d ∈ rdKeys s op, s2.tb d = s.tb d) : aVal P s2 op = aVal P s op := by
  cases op <;> try rfl
  all_goals (simp only [Op.operands, AgE] at he; simp only [aVal])
  case move x => rw [he x (by simp)]
  case assign x => rw [he x (by simp)]
  case pick c a b => rw [he c (by simp), he a (by simp), he b (by simp)]
  case build t ps => rw [aBuild_loc hm]; intro p hp; exact he p.2 (List.mem_map_of_mem hp)
  case load t x => rw [he x (by simp), aLoad_loc hm (fun d hd => ht d (by simp only [rdKeys, opKeys, List.mem_flatMap]; exact ⟨x, by simp [Op.operands], hd⟩))]
  case nilCheck x => rw [he x (by simp)]
  case binOp op t x y u => simp only [he x (by simp), he y (by simp)]
  case unOp op t x => rw [he x (by simp)]
  case convert a b x => rw [he x (by simp), aConv_loc (fun d hd => ht d (by simp only [rdKeys, opKeys, List.mem_flatMap]; exact ⟨x, by simp [Op.operands], hd⟩))]
  case sliceToArrayPointer t x => rw [he x (by simp)]
  case fieldAddr t x f => rw [he x (by simp)]
  case indexAddr t x j => rw [he x (by simp), int_loc (he j (by simp))]
  case index t x j => rw [he x (by simp), int_loc (he j (by simp))]
  case extract x j => rw [he x (by simp)]
  case slice t x l h m =>
    unfold aSlice
    rw [he x (by simp), bnd_loc (fun y hy => he y (by simp_all)), ]
    congr 1; funext n; congr 1; funext l'
    rw [bnd_loc (fun y hy => he y (by simp_all))]
    congr 1; funext h'
    cases m with
    | none => rfl
    | some m => simp only [int_loc (s := s) (s2 := s2) (he m (by simp))]
  case call c =>
    split
    · rw [aBuiltin_loc (fun x hx => he x (callOperands c x hx))]
    · rfl
theorem put_ap (s : St) (dst : Option Nat) (v : SV) : s.put dst v = (Dl.mk (dst.map fun d => (d, v)) []).ap s := by
  cases dst <;> rfl
theorem mkSl_ap (s : St) (d γ n : Nat) (e : TypeId) (cs : List AV) : ∃ D : Dl, (∀ d' v, D.v = some (d', v) → d = d') ∧ (∀ p ∈ D.t, p.1 = d) ∧ ∀ s2 : St, s2.md = s.md → s2.mkSl d γ n e cs = D.ap s2 := by
  by_cases hm : s.md d = true
  · by_cases hn : n = 0
    · exact ⟨⟨some (d, .k (.sl true 0 [])), []⟩, fun d' v e => by simp at e; exact e.1, by simp, fun s2 h2 => by unfold St.mkSl; rw [h2, if_pos hm, if_pos hn]; rfl⟩
    · exact ⟨⟨some (d, .os d γ 0 n n), [(d, some (γ, .obj cs))]⟩, fun d' v e => by simp at e; exact e.1, by simp, fun s2 h2 => by unfold St.mkSl; rw [h2, if_pos hm, if_neg hn]; rfl⟩
  · exact ⟨⟨some (d, .ow d γ n e cs), [(d, some (γ, .tag))]⟩, fun d' v e => by simp at e; exact e.1, by simp, fun s2 h2 => by unfold St.mkSl; rw [h2, if_neg hm]; rfl⟩
/-- what a local step is -/
def Loc (f : St → Option St) (s : St) (dst : Option Nat) (es : List Operand) (rk wk : List Nat) (s' : St) : Prop :=
  ∃ D : Dl, s' = D.ap s ∧ (∀ d v, D.v = some (d, v) → dst = some d) ∧ (∀ p ∈ D.t, p.1 ∈ wk) ∧ ∀ s2, s2.md = s.md → AgE s s2 es → (∀ d ∈ rk, s2.tb d = s.tb d) → f s2 = some (D.ap s2)
theorem Loc.wk {f : St → Option St} {dst : Option Nat} {es : List Operand} {rk wk wk' : List Nat} {s' : St} (h : Loc f s dst es rk wk s') (hw : ∀ k ∈ wk, k ∈ wk') : Loc f s dst es rk wk' s' := by
  obtain ⟨D, h1, h2, h3, h4⟩ := h
  exact ⟨D, h1, h2, fun p hp => hw _ (h3 p hp), h4⟩
theorem val_loc {γ : Nat} {dst : Option Nat} {op : Op} {s' : St} (hm : ∀ s2 : St, aDet P γ s2 dst op = (aVal P s2 op).map (s2.put dst)) (h : aDet P γ s dst op = some s') : Loc (fun s2 => aDet P γ s2 dst op) s dst op.operands.toList (rdKeys s op) [] s' := by
  rw [hm] at h
  simp only [Option.map_eq_some_iff] at h
  obtain ⟨v, hv, rfl⟩ := h
  refine ⟨⟨dst.map fun d => (d, v), []⟩, put_ap _ _ _, fun d v' e => ?_, by simp, fun s2 h2 he ht => ?_⟩
  · cases dst <;> simp at e; simp [e.1]
  · show aDet P γ s2 dst op = _
    rw [hm, aVal_loc h2 he ht, hv, ← put_ap]; rfl
theorem mem_opKeys {op : Op} {x : Operand} {d : Nat} (hx : x ∈ op.operands.toList) (hd : d ∈ keyOf (s.ev x)) : d ∈ opKeys s op := by
  simp only [opKeys, List.mem_flatMap]; exact ⟨x, hx, hd⟩
theorem mk1_ap (s : St) (d γ : Nat) (cs : List AV) (x : SV) : s.mk1 d γ cs x = (Dl.mk (some (d, x)) [(d, some (γ, .obj cs))]).ap s := rfl
theorem mkT_ap (s : St) (d γ : Nat) (x : SV) : s.mkT d γ x = (Dl.mk (some (d, x)) [(d, some (γ, .tag))]).ap s := rfl
theorem alloc_loc {γ d : Nat} {e : TypeId} {s' : St} (h : aAlloc P γ s d e = some s') : Loc (fun s2 => aAlloc P γ s2 d e) s (some d) [] [] [d] s' := by
  unfold aAlloc at h
  split at h
  · rename_i hok
    injection h with h; subst h
    refine ⟨_, mk1_ap _ _ _ _ _, fun d' v e => by simp at e; simp [e.1], by simp, fun s2 _ _ _ => ?_⟩
    simp only [aAlloc, if_pos hok, mk1_ap]
  · cases h
theorem box_loc {γ d : Nat} {x : Operand} {s' : St} (h : aBox γ s d (s.avn x) = some s') : Loc (fun s2 => aBox γ s2 d (s2.avn x)) s (some d) [x] [] [d] s' := by
  unfold aBox at h
  split at h
  · rename_i hok
    injection h with h; subst h
    refine ⟨_, mk1_ap _ _ _ _ _, fun d' v e => by simp at e; simp [e.1], by simp, fun s2 hm he _ => ?_⟩
    have e2 : s2.avn x = s.avn x := by unfold St.avn; rw [he x (by simp), hm]
    simp only [aBox, e2, if_pos hok, mk1_ap]
  · cases h
theorem buildSl0_loc {γ d n : Nat} {t : TypeId} {parts : List (Nat × Operand)} {s' : St} (h : aBuildSl0 P γ s d t n parts = some s') : Loc (fun s2 => aBuildSl0 P γ s2 d t n parts) s (some d) (parts.map (·.2)) [] [d] s' := by
  unfold aBuildSl0 at h
  simp only [Option.bind_eq_some_iff] at h
  obtain ⟨e, he, h⟩ := h
  split at h
  · rename_i hok
    simp only [Option.map_eq_some_iff] at h
    obtain ⟨cs, hc, rfl⟩ := h
    obtain ⟨D, h1, h2, h3⟩ := mkSl_ap s d γ n e cs
    refine ⟨D, h3 s rfl, fun d' v e => by rw [h1 d' v e], fun p hp => by simp [h2 p hp], fun s2 hm ha _ => ?_⟩
    simp only [aBuildSl0, he, Option.bind_some, if_pos hok]
    rw [parts_loc (s := s) hm (fun p hp => ha p.2 (List.mem_map_of_mem hp)), hc, Option.map_some, h3 s2 hm]
  · cases h
theorem buildSl0_none {γ d n : Nat} {t : TypeId} {parts : List (Nat × Operand)} {s2 : St} (hm : s2.md = s.md) (h : ∀ p ∈ parts, s2.ev p.2 = s.ev p.2) (hn : aBuildSl0 P γ s d t n parts = none) : aBuildSl0 P γ s2 d t n parts = none := by
  unfold aBuildSl0 at hn ⊢
  rw [parts_loc hm h]
  cases he : elemOf? (tiOf P t).un with
  | none => rfl
  | some e =>
    rw [he] at hn
    simp only [Option.bind_some] at hn ⊢
    split at hn
    · rename_i hok
      rw [if_pos hok]
      rw [Option.map_eq_none_iff] at hn ⊢
      exact hn
    · rename_i hok
      rw [if_neg hok]
theorem pkOf_loc {parts : List (Nat × Operand)} {s2 : St} (h : ∀ p ∈ parts, s2.ev p.2 = s.ev p.2) : pkOf s2 parts = pkOf s parts := by
  unfold pkOf
  split
  · rename_i x y
    rw [h (0, x) (by simp), h (1, y) (by simp)]
  · rfl
theorem buildSl_loc {γ d n : Nat} {t : TypeId} {parts : List (Nat × Operand)} {s' : St} (h : aBuildSl P γ s d t n parts = some s') : Loc (fun s2 => aBuildSl P γ s2 d t n parts) s (some d) (parts.map (·.2)) [] [d] s' := by
  unfold aBuildSl at h
  split at h
  · rename_i s'' hb
    injection h with h; subst h
    obtain ⟨D, h1, h2, h3, h4⟩ := buildSl0_loc hb
    refine ⟨D, h1, h2, h3, fun s2 hm ha ht => ?_⟩
    have q : aBuildSl0 P γ s2 d t n parts = some (D.ap s2) := h4 s2 hm ha ht
    show (match aBuildSl0 P γ s2 d t n parts with | some s' => some s' | none => aPk P s2 d t n parts) = _
    rw [q]
  · rename_i hb
    unfold aPk at h
    simp only [Option.bind_eq_some_iff] at h
    obtain ⟨e, he, h⟩ := h
    split at h
    · rename_i hok
      simp only [Option.map_eq_some_iff] at h
      obtain ⟨x, hx, rfl⟩ := h
      refine ⟨_, put_ap _ _ _, fun d2 v2 e2 => by simp at e2; simp [e2.1], by simp, fun s2 hm ha _ => ?_⟩
      have hpe : ∀ p ∈ parts, s2.ev p.2 = s.ev p.2 := fun p hp => ha p.2 (List.mem_map_of_mem hp)
      simp only [aBuildSl, buildSl0_none hm hpe hb, aPk, he, Option.bind_some, if_pos hok, pkOf_loc hpe, hx, Option.map_some, put_ap]
    · cases h
theorem make_loc {γ d : Nat} {t : TypeId} {l c : Int} {s' : St} (h : aMake P γ s d t l c = some s') : Loc (fun s2 => aMake P γ s2 d t l c) s (some d) [] [] [d] s' := by
  unfold aMake at h
  simp only [Option.bind_eq_some_iff] at h
  obtain ⟨e, he, h⟩ := h
  split at h
  · rename_i hok
    injection h with h
    obtain ⟨D, h1, h2, h3⟩ := mkSl_ap s d γ l.toNat e (aZeros l.toNat (tiOf P e).sz (tiOf P e).zr)
    subst h
    refine ⟨D, h3 s rfl, fun d' v e => by rw [h1 d' v e], fun p hp => by simp [h2 p hp], fun s2 hm ha _ => ?_⟩
    simp only [aMake, he, Option.bind_some, if_pos hok, h3 s2 hm]
  · cases h
end
end Go.Proofs.Ytikganlbnhapcaa

namespace Go.Proofs.Ytikganlbnhapcaa
open Go.RowKit
set_option linter.unusedVariables false
set_option linter.unusedSimpArgs false
section
variable {P : Program} {s s2 : St}
theorem set_ap (s : St) (d : Nat) (e : Option (Nat × Ent)) : s.set d e = (Dl.mk none [(d, e)]).ap s := rfl
theorem store_loc {t : TypeId} {x y : Operand} {s' : St} (h : aStore P s t (s.ev x) (s.avn y) = some s') : Loc (fun s2 => aStore P s2 t (s2.ev x) (s2.avn y)) s none [x, y] (keyOf (s.ev x)) (keyOf (s.ev x)) s' := by
  unfold aStore at h
  split at h
  · rename_i d g off hx
    split at h
    · rename_i g' cs hT
      split at h
      · rename_i hok
        injection h with h; subst h
        refine ⟨_, set_ap _ _ _, by simp, fun p hp => by simp at hp; simp [hp, hx, keyOf], fun s2 hm he ht => ?_⟩
        have e2 : s2.avn y = s.avn y := by unfold St.avn; rw [he y (by simp), hm]
        simp only [aStore, he x (by simp), e2, hx, ht d (by simp [hx, keyOf]), hT]
        rw [if_pos hok, set_ap]
      · cases h
    · cases h
  · cases h
theorem copy_loc {t : TypeId} {x y : Operand} {q : St × Nat} (h : aCopy P s t (s.ev x) (s.ev y) = some q) :
    ∃ e, q.1 = (Dl.mk none e).ap s ∧ (∀ p ∈ e, p.1 ∈ keyOf (s.ev x)) ∧ ∀ s2, AgE s s2 [x, y] → (∀ d ∈ keyOf (s.ev x) ++ keyOf (s.ev y), s2.tb d = s.tb d) → aCopy P s2 t (s2.ev x) (s2.ev y) = some ((Dl.mk none e).ap s2, q.2) := by
  unfold aCopy at h
  simp only [Option.bind_eq_some_iff] at h
  obtain ⟨e, he, c, hc, h⟩ := h
  split at h
  · rename_i hok
    split at h
    · rename_i d g off n cap hx
      split at h
      · rename_i g' cs hT
        split at h
        · rename_i hk
          injection h with h; subst h
          refine ⟨_, set_ap _ _ _, fun p hp => by simp at hp; simp [hp, hx, keyOf], fun s2 ha ht => ?_⟩
          have h1 : s2.cont 1 (s2.ev y) = some c := by
            rw [ha y (by simp), cont_loc (s := s) (fun d hd => ht d (by simp [hd])), hc]
          simp only [aCopy, he, Option.bind_some, h1, if_pos hok, ha x (by simp), hx, ht d (by simp [hx, keyOf]), hT]
          rw [if_pos hk, set_ap]
        · cases h
      · cases h
    · cases h
  · cases h
theorem mark_loc {t u : TypeId} {x : Operand} {q : St × SV} (h : aMark P s t u (s.ev x) = some q) :
    ∃ e, q.1 = (Dl.mk none e).ap s ∧ (∀ p ∈ e, p.1 ∈ keyOf (s.ev x)) ∧ ∀ s2, s2.ev x = s.ev x → (∀ d ∈ keyOf (s.ev x), s2.tb d = s.tb d) → aMark P s2 t u (s2.ev x) = some ((Dl.mk none e).ap s2, q.2) := by
  unfold aMark at h
  simp only [Option.bind_eq_some_iff] at h
  obtain ⟨e, he, h⟩ := h
  split at h
  · rename_i hok
    split at h
    · rename_i d g n _ cs hu hx
      split at h
      · rename_i g' hT
        split at h
        · rename_i hk
          injection h with h; subst h
          refine ⟨_, set_ap _ _ _, fun p hp => by simp at hp; simp [hp, hx, keyOf], fun s2 ha ht => ?_⟩
          simp only [aMark, he, Option.bind_some, if_pos hok, ha, hx, hu, ht d (by simp [hx, keyOf]), hT]
          rw [if_pos hk, set_ap]
        · cases h
      · cases h
    · cases h
  · cases h
theorem map_dst0 {dst : Option Nat} {v : SV} : ∀ d v', (dst.map fun d => (d, v)) = some (d, v') → dst = some d := by
  intro d v' e; cases dst <;> simp at e; simp [e.1]
theorem app_loc {γ d : Nat} {t t' : TypeId} {x y : Operand} {s' : St} (h : aApp P γ s d t t' (s.ev x) (s.ev y) = some s') :
    Loc (fun s2 => aApp P γ s2 d t t' (s2.ev x) (s2.ev y)) s (some d) [x, y] (keyOf (s.ev x) ++ keyOf (s.ev y)) (d :: keyOf (s.ev x)) s' := by
  unfold aApp at h
  simp only [Option.bind_eq_some_iff] at h
  obtain ⟨e, he, c, hc, h⟩ := h
  have h1 : ∀ s2, AgE s s2 [x, y] → (∀ d ∈ keyOf (s.ev x) ++ keyOf (s.ev y), s2.tb d = s.tb d) → aSrc P s2 e t t' (s2.ev y) = some c := fun s2 ha ht => by
    rw [ha y (by simp), ← hc]
    unfold aSrc
    split
    · exact cont_loc (s := s) (fun d hd => ht d (by simp [hd]))
    · rfl
  split at h
  · rename_i hok
    split at h
    · rename_i n cs hx
      split at h
      · rename_i h0
        injection h with h; subst h
        refine ⟨_, put_ap _ _ _, fun d' v e => by simp at e; simp [e.1], by simp, fun s2 hmd ha ht => ?_⟩
        simp only [aApp, he, Option.bind_some, h1 s2 ha ht, if_pos hok, ha x (by simp), hx]
        rw [if_pos h0, put_ap]
      · rename_i h0
        split at h
        · rename_i hk
          injection h with h
          by_cases hm : s.md d = true
          · rw [if_pos hm] at h
            by_cases hm2 : s.md (d + 1000000) = true
            · rw [if_pos hm2] at h; subst h
              refine ⟨⟨some (d, .k (.sl false (n + c.1) (cs ++ c.2))), [(d, some (γ, .obj (cs ++ c.2))), (d, none)]⟩, rfl, fun d' v e => by simp at e; simp [e.1], fun p hp => ?_, fun s2 hmd ha ht => ?_⟩
              · simp at hp; rcases hp with rfl | rfl <;> simp
              · simp only [aApp, he, Option.bind_some, h1 s2 ha ht, if_pos hok, ha x (by simp), hx]
                rw [if_neg h0, if_pos hk, hmd, if_pos hm, if_pos hm2]; rfl
            · rw [if_neg hm2] at h; subst h
              refine ⟨_, mk1_ap _ _ _ _ _, fun d' v e => by simp at e; simp [e.1], by simp, fun s2 hmd ha ht => ?_⟩
              simp only [aApp, he, Option.bind_some, h1 s2 ha ht, if_pos hok, ha x (by simp), hx]
              rw [if_neg h0, if_pos hk, hmd, if_pos hm, if_neg hm2, mk1_ap]
          · rw [if_neg hm] at h; subst h
            refine ⟨_, mkT_ap _ _ _ _, fun d' v e => by simp at e; simp [e.1], by simp, fun s2 hmd ha ht => ?_⟩
            simp only [aApp, he, Option.bind_some, h1 s2 ha ht, if_pos hok, ha x (by simp), hx]
            rw [if_neg h0, if_pos hk, hmd, if_neg hm, mkT_ap]
        · cases h
    · rename_i d0 g0 n e' cs hx
      split at h
      · rename_i g1 hT
        split at h
        · rename_i hk
          injection h with h; subst h
          refine ⟨⟨some (d, .ow d γ (n + c.1) e (cs ++ c.2)), [(d0, none), (d, some (γ, .tag))]⟩, rfl, fun d' v e => by simp at e; simp [e.1], fun p hp => ?_, fun s2 hmd ha ht => ?_⟩
          · simp at hp; rcases hp with rfl | rfl <;> simp [hx, keyOf]
          · simp only [aApp, he, Option.bind_some, h1 s2 ha ht, if_pos hok, ha x (by simp), hx, ht d0 (by simp [hx, keyOf]), hT, hmd]
            rw [if_pos hk]; rfl
        · cases h
      · cases h
    · cases h
  · cases h
end
end Go.Proofs.Ytikganlbnhapcaa

namespace Go.Proofs.Ytikganlbnhapcaa
open Go.RowKit
set_option linter.unusedVariables false
set_option linter.unusedSimpArgs false
section
variable {P : Program} {s s2 : St}
theorem Loc.mono {f f' : St → Option St} {dst dst' : Option Nat} {es es' : List Operand} {rk wk rk' wk' : List Nat} {s' : St} (h : Loc f s dst es rk wk s') (hd : ∀ d, dst = some d → dst' = some d) (he : ∀ x ∈ es, x ∈ es') (hr : ∀ k ∈ rk, k ∈ rk') (hw : ∀ k ∈ wk, k ∈ wk') (hf : ∀ s2, f s2 = f' s2) : Loc f' s dst' es' rk' wk' s' := by
  obtain ⟨D, h1, h2, h3, h4⟩ := h
  exact ⟨D, h1, fun d v e => hd d (h2 d v e), fun p hp => hw _ (h3 p hp), fun s2 a b c => by rw [← hf]; exact h4 s2 a (fun x hx => b x (he x hx)) (fun d hd => c d (hr d hd))⟩
/-- a change of the table, and then a value -/
theorem then_put {e : List (Nat × Option (Nat × Ent))} {dst : Option Nat} {v : SV} (s : St) : ((Dl.mk none e).ap s).put dst v = (Dl.mk (dst.map fun d => (d, v)) e).ap s := by
  cases dst <;> rfl
theorem map_dst {dst : Option Nat} {v : SV} : ∀ d v', (dst.map fun d => (d, v)) = some (d, v') → dst = some d := by
  intro d v' e; cases dst <;> simp at e; simp [e.1]
theorem conv_loc {t u : TypeId} {dst : Option Nat} {x : Operand} {s' : St} (h : aConvX P s t u dst (s.ev x) = some s') :
    Loc (fun s2 => aConvX P s2 t u dst (s2.ev x)) s dst [x] (keyOf (s.ev x)) (keyOf (s.ev x)) s' := by
  unfold aConvX at h
  split at h
  · rename_i y hy
    injection h with h; subst h
    refine ⟨_, put_ap _ _ _, map_dst, by simp, fun s2 hmd ha ht => ?_⟩
    simp only [aConvX, ha x (by simp), aConv_loc (s := s) (s2 := s2) ht, hy, put_ap]
  · rename_i hn
    simp only [Option.map_eq_some_iff] at h
    obtain ⟨q, hq, rfl⟩ := h
    obtain ⟨e, h1, h2, h3⟩ := mark_loc hq
    refine ⟨⟨dst.map fun d => (d, q.2), e⟩, by rw [h1, then_put], map_dst, h2, fun s2 hmd ha ht => ?_⟩
    have := h3 s2 (ha x (by simp)) ht
    rw [ha x (by simp)] at this
    simp only [aConvX, ha x (by simp), aConv_loc (s := s) (s2 := s2) ht, hn, this, Option.map_some, then_put]
theorem builtX_loc {γ : Nat} {dst : Option Nat} {b : Builtin} {args : List Operand} {ts : List TypeId} {s' : St} (h : aBuiltX P γ s dst b args ts = some s') :
    Loc (fun s2 => aBuiltX P γ s2 dst b args ts) s dst args (if b = .append ∨ b = .copy then args.flatMap fun x => keyOf (s.ev x) else []) (if b = .append then dst.toList ++ args.flatMap fun x => keyOf (s.ev x) else if b = .copy then args.flatMap fun x => keyOf (s.ev x) else []) s' := by
  unfold aBuiltX at h
  split at h
  · rename_i x y t t' d
    refine (app_loc h).mono (fun d e => e) (by simp) (by simp) (fun k hk => ?_) (fun s2 => by simp [aBuiltX])
    simp only [if_true, List.mem_append, List.mem_flatMap]
    rcases List.mem_cons.1 hk with rfl | hk
    · exact .inl (by simp)
    · exact .inr ⟨x, by simp, hk⟩
  · rename_i x y t t'
    simp only [Option.map_eq_some_iff] at h
    obtain ⟨q, hq, rfl⟩ := h
    obtain ⟨e, h1, h2, h3⟩ := copy_loc hq
    refine ⟨⟨dst.map fun d => (d, .k (.int .i64 (q.2 : Int))), e⟩, by rw [h1, then_put], map_dst, fun p hp => ?_, fun s2 hmd ha ht => ?_⟩
    · simp only [reduceCtorEq, if_false, if_true, List.mem_flatMap]
      exact ⟨x, by simp, h2 p hp⟩
    · have := h3 s2 ha (fun d hd => ht d (by simp at hd ⊢; exact hd))
      simp only [aBuiltX, this, Option.map_some, then_put]
  · rename_i h1 h2
    have e1 : ∀ s2 : St, aBuiltX P γ s2 dst b args ts = (aBuiltin P s2 b args ts).map (s2.put dst) := by
      intro s2
      unfold aBuiltX
      split
      · rename_i x y t t' d
        first | exact (h1 _ _ _ _ _ rfl rfl rfl rfl).elim | exact (h1 _ _ _ _ _ rfl rfl rfl).elim | exact (h1 _ _ _ _ _ rfl rfl).elim | (exfalso; simp_all; first | exact h2 _ _ _ _ _ rfl rfl rfl rfl rfl | exact h1 _ _ _ _ rfl rfl rfl rfl)
      · rename_i x y t t'
        first | exact (h2 _ _ _ _ rfl rfl rfl).elim | exact (h2 _ _ _ _ rfl rfl).elim | exact (h2 _ _ _ _ rfl).elim | (exfalso; simp_all; first | exact h2 _ _ _ _ _ rfl rfl rfl rfl rfl | exact h1 _ _ _ _ rfl rfl rfl rfl)
      · rfl
    simp only [Option.map_eq_some_iff] at h
    obtain ⟨v, hv, rfl⟩ := h
    refine ⟨_, put_ap _ _ _, map_dst, by simp, fun s2 hmd ha ht => ?_⟩
    show aBuiltX P γ s2 dst b args ts = _
    rw [e1, aBuiltin_loc ha, hv, Option.map_some, put_ap]
end
end Go.Proofs.Ytikganlbnhapcaa

namespace Go.Proofs.Ytikganlbnhapcaa
open Go.RowKit
set_option linter.unusedVariables false
set_option linter.unusedSimpArgs false
section
variable {P : Program} {s s2 : St}
theorem aDet_loc {γ : Nat} {dst : Option Nat} {op : Op} {s' : St} (h : aDet P γ s dst op = some s') : Loc (fun s2 => aDet P γ s2 dst op) s dst op.operands.toList (rdKeys s op) (wrKeys s dst op) s' := by
  cases op
  case alloc e =>
    simp only [aDet, Option.bind_eq_some_iff] at h
    obtain ⟨d, rfl, h⟩ := h
    exact (alloc_loc h).mono (fun d e => e) (by simp) (by simp) (by simp [wrKeys]) (fun s2 => rfl)
  case box t x =>
    simp only [aDet, Option.bind_eq_some_iff] at h
    obtain ⟨d, rfl, h⟩ := h
    exact (box_loc h).mono (fun d e => e) (by simp [Op.operands]) (by simp) (by simp [wrKeys]) (fun s2 => rfl)
  case buildSlice t n parts =>
    simp only [aDet, Option.bind_eq_some_iff] at h
    obtain ⟨d, rfl, h⟩ := h
    exact (buildSl_loc h).mono (fun d e => e) (fun x hx => hx) (by simp) (by simp [wrKeys]) (fun s2 => rfl)
  case makeSlice t l c =>
    simp only [aDet, Option.bind_eq_some_iff] at h
    obtain ⟨d, rfl, n, hn, m, hm, h⟩ := h
    obtain ⟨D, h1, h2, h3, h4⟩ := make_loc h
    refine ⟨D, h1, h2, fun p hp => by simpa [wrKeys] using h3 p hp, fun s2 hmd ha ht => ?_⟩
    simp only [aDet, Option.bind_some, int_loc (s := s) (s2 := s2) (ha l (by simp [Op.operands])), int_loc (s := s) (s2 := s2) (ha c (by simp [Op.operands])), hn, hm]
    exact h4 s2 hmd (fun x hx => by simp at hx) (fun d hd => by simp at hd)
  case store t x y =>
    simp only [aDet, Option.map_eq_some_iff] at h
    obtain ⟨q, hq, rfl⟩ := h
    obtain ⟨D, h1, h2, h3, h4⟩ := store_loc hq
    have hv : D.v = none := by
      cases hD : D.v with
      | none => rfl
      | some p => exact absurd (h2 p.1 p.2 (by rw [hD])) (by simp)
    obtain ⟨v, e⟩ := D
    subst hv
    refine ⟨⟨dst.map fun d => (d, .k .any), e⟩, by rw [h1, then_put], map_dst, fun p hp => mem_opKeys (x := x) (by simp [Op.operands]) (h3 p hp), fun s2 hmd ha ht => ?_⟩
    have := h4 s2 hmd ha (fun d hd => ht d (mem_opKeys (x := x) (by simp [Op.operands]) hd))
    simp only at this
    simp only [aDet, this, Option.map_some, then_put]
  case convert t u x =>
    exact (conv_loc h).mono (fun d e => e) (by simp [Op.operands]) (fun k hk => mem_opKeys (x := x) (by simp [Op.operands]) hk) (fun k hk => mem_opKeys (x := x) (by simp [Op.operands]) hk) (fun s2 => rfl)
  case call c =>
    obtain ⟨cal, args, ts⟩ := c
    cases cal with
    | builtin b =>
      have h' : aBuiltX P γ s dst b args.toList ts.toList = some s' := h
      have hk : ∀ k ∈ args.toList.flatMap (fun x => keyOf (s.ev x)), k ∈ opKeys s (.call ⟨.builtin b, args, ts⟩) := by
        intro k hk
        simp only [List.mem_flatMap] at hk
        obtain ⟨x, hx, hk⟩ := hk
        exact mem_opKeys (x := x) (callOperands ⟨.builtin b, args, ts⟩ x hx) hk
      refine (builtX_loc h').mono (fun d e => e) (fun x hx => callOperands ⟨.builtin b, args, ts⟩ x hx) (fun k h1 => ?_) (fun k h1 => ?_) (fun s2 => rfl)
      · split at h1
        · rename_i hb
          rcases hb with rfl | rfl <;> exact hk k h1
        · simp at h1
      · split at h1
        · rename_i hb; subst hb
          simp only [List.mem_append] at h1
          simp only [wrKeys, List.mem_append]
          exact h1.imp id (hk k)
        · split at h1
          · rename_i hb; subst hb; exact hk k h1
          · simp at h1
    | value f => simp [aDet] at h
    | invoke r m => simp [aDet] at h
  all_goals exact (val_loc (fun s2 => rfl) h).mono (fun d e => e) (fun x hx => hx) (fun k hk => hk) (by simp) (fun s2 => rfl)
theorem aArg_loc {t : TypeId} {x : SV} (h : ∀ d ∈ keyOf x, s2.tb d = s.tb d) : aArg P s2 t x = aArg P s t x := by
  cases x with
  | k v => rfl
  | ob d g off => simp only [aArg, objOf_loc (s := s) (s2 := s2) (h d (by simp [keyOf]))]
  | os d g off n cap => simp only [aArg, objOf_loc (s := s) (s2 := s2) (h d (by simp [keyOf]))]
  | pk d g off n d2 g2 off2 n2 => simp only [aArg, aOsArg, objOf_loc (s := s) (s2 := s2) (h d (by simp [keyOf])), objOf_loc (s := s) (s2 := s2) (h d2 (by simp [keyOf]))]
  | ow d g n e cs => rfl
theorem aArgs_loc : ∀ {xs : List SV} {ts : List TypeId}, (∀ x ∈ xs, ∀ d ∈ keyOf x, s2.tb d = s.tb d) → aArgs P s2 xs ts = aArgs P s xs ts
  | [], [], _ => rfl
  | [], _ :: _, _ => rfl
  | _ :: _, [], _ => rfl
  | x :: xs, t :: ts, h => by
    simp only [aArgs, aArg_loc (s := s) (s2 := s2) (h x (by simp)), aArgs_loc (xs := xs) (ts := ts) (fun y hy => h y (by simp [hy]))]
theorem isK_loc {x : SV} (h : ∀ d ∈ keyOf x, s2.tb d = s.tb d) : s2.isK x = s.isK x := by
  cases x with
  | k v => rfl
  | ob d g off => simp only [St.isK, h d (by simp [keyOf])]
  | os d g off n cap => simp only [St.isK, h d (by simp [keyOf])]
  | pk => rfl
  | ow d g n e cs => rfl
theorem res_loc {γ : Nat} {dst : Option Nat} {r : RV} {s' : St} (h : s.res dst γ r = some s') : ∃ D : Dl, s' = D.ap s ∧ (∀ d v, D.v = some (d, v) → dst = some d) ∧ (∀ p ∈ D.t, p.1 ∈ dst.toList) ∧ ∀ s2 : St, s2.md = s.md → s2.res dst γ r = some (D.ap s2) := by
  cases r with
  | k x =>
    simp only [St.res, Option.some.injEq] at h; subst h
    exact ⟨_, put_ap _ _ _, map_dst, by simp, fun s2 _ => by simp only [St.res, put_ap]⟩
  | own n e cells =>
    cases dst with
    | none =>
      simp only [St.res, Option.some.injEq] at h; subst h
      exact ⟨⟨none, []⟩, rfl, by simp, by simp, fun s2 _ => rfl⟩
    | some d =>
      simp only [St.res] at h
      by_cases hm : s.md d = true
      · rw [if_pos hm] at h
        split at h
        · rename_i h0
          injection h with h; subst h
          exact ⟨_, mk1_ap _ _ _ _ _, fun d' v e => by simp at e; simp [e.1], by simp, fun s2 hmd => by simp only [St.res]; rw [hmd, if_pos hm, if_pos h0, mk1_ap]⟩
        · cases h
      · rw [if_neg hm] at h
        injection h with h; subst h
        exact ⟨_, mkT_ap _ _ _ _, fun d' v e => by simp at e; simp [e.1], by simp, fun s2 hmd => by simp only [St.res]; rw [hmd, if_neg hm, mkT_ap]⟩
  | new cells =>
    cases dst with
    | none =>
      simp only [St.res, Option.some.injEq] at h; subst h
      exact ⟨⟨none, []⟩, rfl, by simp, by simp, fun s2 _ => rfl⟩
    | some d =>
      simp only [St.res, Option.some.injEq] at h; subst h
      exact ⟨_, mk1_ap _ _ _ _ _, fun d' v e => by simp at e; simp [e.1], by simp, fun s2 hmd => by simp only [St.res]; rw [mk1_ap]⟩
  | news n cells =>
    cases dst with
    | none =>
      simp only [St.res, Option.some.injEq] at h; subst h
      exact ⟨⟨none, []⟩, rfl, by simp, by simp, fun s2 _ => rfl⟩
    | some d =>
      simp only [St.res, Option.some.injEq] at h; subst h
      exact ⟨_, mk1_ap _ _ _ _ _, fun d' v e => by simp at e; simp [e.1], by simp, fun s2 hmd => by simp only [St.res]; rw [mk1_ap]⟩
/-- one step, as a relation -/
def CStep (P : Program) (γ : Nat) (s : St) (dst : Option Nat) (f : FuncId) (args : List Operand) (ts : List TypeId) (s' : St) : Prop :=
  ∃ ys r, aArgs P s (args.map s.ev) ts = some ys ∧ Spec P f ys r ∧ ((args.all fun x => s.isK (s.ev x)) = true ∨ r.noal = true) ∧ s.res dst γ r = some s'
def AStep (P : Program) (γ : Nat) (s : St) (o : Oper) (s' : St) : Prop :=
  match o.op with
  | .call { callee := .value (.func f), args := args, argTypes := ts } => CStep P γ s o.dst f args.toList ts.toList s'
  | op => aDet P γ s o.dst op = some s'
theorem aOp_step {γ : Nat} {o : Oper} {K : St → Prop} : aOp P γ s o K ↔ ∃ s', AStep P γ s o s' ∧ K s' := by
  unfold aOp AStep
  split
  · rename_i f args ts ho
    simp only [ho]
    constructor
    · rintro ⟨ys, r, s', h1, h2, h3, h4, h5⟩
      exact ⟨s', ⟨ys, r, h1, h2, h3, h4⟩, h5⟩
    · rintro ⟨s', ⟨ys, r, h1, h2, h3, h4⟩, h5⟩
      exact ⟨ys, r, s', h1, h2, h3, h4, h5⟩
  · rename_i hno
    have e : ∀ s', (match o.op with
      | .call { callee := .value (.func f), args := args, argTypes := ts } => CStep P γ s o.dst f args.toList ts.toList s'
      | op => aDet P γ s o.dst op = some s') ↔ aDet P γ s o.dst o.op = some s' := by
      intro s'
      split
      · rename_i f args ts ho; exact absurd ho (hno f args ts)
      · exact Iff.rfl
    constructor
    · intro h
      split at h
      · rename_i s' hs; exact ⟨s', (e s').2 hs, h⟩
      · exact h.elim
    · rintro ⟨s', h1, h2⟩
      rw [(e s').1 h1]; exact h2
theorem cstep_loc {γ : Nat} {dst : Option Nat} {f : FuncId} {args : List Operand} {ts : List TypeId} {s' : St} (h : CStep P γ s dst f args ts s') :
    ∃ D : Dl, s' = D.ap s ∧ (∀ d v, D.v = some (d, v) → dst = some d) ∧ (∀ p ∈ D.t, p.1 ∈ dst.toList) ∧ ∀ s2 : St, s2.md = s.md → AgE s s2 args → (∀ x ∈ args, ∀ d ∈ keyOf (s.ev x), s2.tb d = s.tb d) → CStep P γ s2 dst f args ts (D.ap s2) := by
  obtain ⟨ys, r, h1, h2, h3, h4⟩ := h
  obtain ⟨D, k1, k2, k3, k4⟩ := res_loc h4
  refine ⟨D, k1, k2, k3, fun s2 hmd ha ht => ⟨ys, r, ?_, h2, ?_, k4 s2 hmd⟩⟩
  · rw [show args.map s2.ev = args.map s.ev from List.map_congr_left ha, aArgs_loc (s := s), h1]
    intro x hx
    obtain ⟨y, hy, rfl⟩ := List.mem_map.1 hx
    exact ht y hy
  · refine h3.imp (fun h => ?_) id
    simp only [List.all_eq_true] at h ⊢
    intro x hx
    rw [ha x hx, isK_loc (s := s) (ht x hx)]; exact h x hx
theorem astep_loc {γ : Nat} {o : Oper} {s' : St} (h : AStep P γ s o s') :
    ∃ D : Dl, s' = D.ap s ∧ (∀ d v, D.v = some (d, v) → o.dst = some d) ∧ (∀ p ∈ D.t, p.1 ∈ wrKeys s o.dst o.op) ∧ ∀ s2 : St, s2.md = s.md → AgE s s2 o.op.operands.toList → (∀ d ∈ rdKeys s o.op, s2.tb d = s.tb d) → AStep P γ s2 o (D.ap s2) := by
  unfold AStep at h ⊢
  split at h
  · rename_i f args ts ho
    obtain ⟨D, h1, h2, h3, h4⟩ := cstep_loc h
    refine ⟨D, h1, h2, by rw [ho]; exact h3, fun s2 hmd ha ht => ?_⟩
    rw [ho] at ha ht
    exact h4 s2 hmd (fun x hx => ha x (callOperands ⟨_, args, ts⟩ x hx)) (fun x hx d hd => ht d (mem_opKeys (x := x) (callOperands ⟨_, args, ts⟩ x hx) hd))
  · rename_i hno
    obtain ⟨D, h1, h2, h3, h4⟩ := aDet_loc h
    refine ⟨D, h1, h2, h3, fun s2 hmd ha ht => ?_⟩
    exact h4 s2 hmd ha ht
end
end Go.Proofs.Ytikganlbnhapcaa

namespace Go.Proofs.Ytikganlbnhapcaa
open Go.RowKit
set_option linter.unusedVariables false
set_option linter.unusedSimpArgs false

/-! regions whose order is drawn: the text's order is enough -/
def looks (ops : List Oper) (o : Oper) : List Operand :=
  o.op.operands.toList ++ match o.guard with
    | some (j, _) => ((ops[j]?).bind (·.dst)).toList.map Operand.tmp
    | none => []
def GStep (P : Program) (ops : List Oper) (γ : Nat) (s : St) (o : Oper) (s' : St) : Prop :=
  match o.guard with
  | none => AStep P γ s o s'
  | some (j, want) => (∃ b, yld ops s j = some b ∧ ((b = want ∧ AStep P γ s o s') ∨ (b ≠ want ∧ s' = s.put o.dst (.k (.tup []))))) ∨ (yld ops s j = none ∧ ydead ops s j = true ∧ s' = s.put o.dst (.k (.tup [])))
def keysOk (kw : List Nat × List Nat) (s : St) (o : Oper) : Bool := (rdKeys s o.op).all (kw.1.contains ·) && (wrKeys s o.dst o.op).all (kw.2.contains ·)
def xRun (P : Program) (ops : List Oper) (kw : Nat → List Nat × List Nat) : List (Nat × Oper) → St → (St → Prop) → Prop
  | [], s, K => K s
  | (i, o) :: L, s, K => keysOk (kw i) s o = true ∧ ∃ s', GStep P ops (s.nx + i) s o s' ∧ xRun P ops kw L s' K
def disj (a b : List Nat) : Bool := a.all fun k => !b.contains k
def sepB (ops : List Oper) (ki kj : List Nat × List Nat) (p o : Oper) : Bool :=
  (match p.dst with
    | some d => (looks ops o).all (fun x => match x with | .tmp t => t != d | _ => true) && o.dst != some d
    | none => true) &&
  (match o.dst with
    | some d => (looks ops p).all fun x => match x with | .tmp t => t != d | _ => true
    | none => true) &&
  disj ki.2 kj.1 && disj ki.2 kj.2 && disj kj.2 ki.1
section
variable {P : Program} {s s2 : St} {ops : List Oper}
theorem aGuard_step {γ : Nat} {o : Oper} {K : St → Prop} : aGuard P ops γ s o K ↔ ∃ s', GStep P ops γ s o s' ∧ K s' := by
  unfold aGuard
  split
  · rename_i hg
    simp only [GStep, hg]
    exact aOp_step
  · rename_i j want hg
    simp only [GStep, hg]
    cases hy : yld ops s j with
    | none =>
      simp only
      constructor
      · rintro ⟨h1, h2⟩; exact ⟨_, .inr ⟨by trivial, h1, rfl⟩, h2⟩
      · rintro ⟨s', ⟨b, h, _⟩ | ⟨_, h1, h2⟩, h3⟩
        · cases h
        · exact ⟨h1, by rw [← h2]; exact h3⟩
    | some b =>
      simp only [Option.some.injEq]
      by_cases hb : b = want
      · simp only [if_pos hb]
        rw [aOp_step]
        constructor
        · rintro ⟨s', h1, h2⟩; exact ⟨s', .inl ⟨b, rfl, .inl ⟨hb, h1⟩⟩, h2⟩
        · rintro ⟨s', ⟨b', rfl, h | h⟩ | ⟨h, _⟩, h2⟩
          · exact ⟨s', h.2, h2⟩
          · exact absurd hb h.1
          · cases h
      · simp only [if_neg hb]
        constructor
        · intro h; exact ⟨_, .inl ⟨b, rfl, .inr ⟨hb, rfl⟩⟩, h⟩
        · rintro ⟨s', ⟨b', rfl, h | h⟩ | ⟨h, _⟩, h2⟩
          · exact absurd h.1 hb
          · rw [← h.2]; exact h2
          · cases h
theorem yld_loc {j : Nat} (h : ∀ x ∈ ((ops[j]?).bind (·.dst)).toList.map Operand.tmp, s2.ev x = s.ev x) : yld ops s2 j = yld ops s j := by
  unfold yld
  cases hd : (ops[j]?).bind (·.dst) with
  | none => rfl
  | some d =>
    have := h (.tmp d) (by rw [hd]; simp)
    simp only
    rw [show s2.fr d = s.fr d from this]
theorem ydead_loc {j : Nat} (h : ∀ x ∈ ((ops[j]?).bind (·.dst)).toList.map Operand.tmp, s2.ev x = s.ev x) : ydead ops s2 j = ydead ops s j := by
  unfold ydead
  cases hd : (ops[j]?).bind (·.dst) with
  | none => rfl
  | some d =>
    have := h (.tmp d) (by rw [hd]; simp)
    simp only
    rw [show s2.fr d = s.fr d from this]
theorem gstep_loc {γ : Nat} {o : Oper} {s' : St} (h : GStep P ops γ s o s') :
    ∃ D : Dl, s' = D.ap s ∧ (∀ d v, D.v = some (d, v) → o.dst = some d) ∧ (∀ p ∈ D.t, p.1 ∈ wrKeys s o.dst o.op) ∧ ∀ s2 : St, s2.md = s.md → AgE s s2 (looks ops o) → (∀ d ∈ rdKeys s o.op, s2.tb d = s.tb d) → GStep P ops γ s2 o (D.ap s2) := by
  unfold GStep at h ⊢
  split at h
  · rename_i hg
    obtain ⟨D, h1, h2, h3, h4⟩ := astep_loc h
    exact ⟨D, h1, h2, h3, fun s2 hmd ha ht => h4 s2 hmd (fun x hx => ha x (by unfold looks; simp [hx])) ht⟩
  · rename_i j want hg
    rcases h with ⟨b, hy, h⟩ | ⟨hy, hz, h⟩
    rotate_left
    · refine ⟨_, h.trans (put_ap _ _ _), map_dst, by simp, fun s2 hmd ha ht => .inr ⟨?_, ?_, (put_ap _ _ _).symm⟩⟩
      · rw [yld_loc (s := s) (fun x hx => ha x (by unfold looks; rw [hg]; simp only [List.mem_append]; exact .inr hx)), hy]
      · rw [ydead_loc (s := s) (fun x hx => ha x (by unfold looks; rw [hg]; simp only [List.mem_append]; exact .inr hx)), hz]
    have hyl : ∀ s2 : St, AgE s s2 (looks ops o) → yld ops s2 j = some b := fun s2 ha => by
      rw [yld_loc (s := s) (fun x hx => ha x (by unfold looks; rw [hg]; simp only [List.mem_append]; exact .inr hx)), hy]
    rcases h with ⟨hb, h⟩ | ⟨hb, h⟩
    · obtain ⟨D, h1, h2, h3, h4⟩ := astep_loc h
      exact ⟨D, h1, h2, h3, fun s2 hmd ha ht => .inl ⟨b, hyl s2 ha, .inl ⟨hb, h4 s2 hmd (fun x hx => ha x (by unfold looks; simp [hx])) ht⟩⟩⟩
    · exact ⟨_, h.trans (put_ap _ _ _), map_dst, by simp, fun s2 hmd ha ht => .inl ⟨b, hyl s2 ha, .inr ⟨hb, (put_ap _ _ _).symm⟩⟩⟩
theorem tbs_ne {d : Nat} : ∀ (l : List (Nat × Option (Nat × Ent))) (T : Nat → Option (Nat × Ent)), (∀ p ∈ l, p.1 ≠ d) → tbs T l d = T d
  | [], T, _ => rfl
  | (k, e) :: l, T, h => by
    rw [tbs, tbs_ne l _ (fun p hp => h p (by simp [hp])), upd_ne]
    exact fun e' => h (k, e) (by simp) e'.symm
theorem tbs_congr {d : Nat} : ∀ (l : List (Nat × Option (Nat × Ent))) (T T' : Nat → Option (Nat × Ent)), T d = T' d → tbs T l d = tbs T' l d
  | [], T, T', h => h
  | (k, e) :: l, T, T', h => by
    rw [tbs, tbs]; refine tbs_congr l _ _ ?_
    unfold upd; split
    · rfl
    · exact h
theorem tbs_comm {l m : List (Nat × Option (Nat × Ent))} (h : ∀ p ∈ l, ∀ q ∈ m, p.1 ≠ q.1) (T : Nat → Option (Nat × Ent)) : tbs (tbs T l) m = tbs (tbs T m) l := by
  funext d
  by_cases hl : ∃ p ∈ l, p.1 = d
  · obtain ⟨p, hp, rfl⟩ := hl
    rw [tbs_ne m _ (fun q hq => (h p hp q hq).symm)]
    exact tbs_congr l _ _ (tbs_ne m _ (fun q hq => (h p hp q hq).symm)).symm
  · have hl' : ∀ p ∈ l, p.1 ≠ d := fun p hp e => hl ⟨p, hp, e⟩
    rw [tbs_ne l (tbs T m) hl']
    exact tbs_congr m _ _ (tbs_ne l _ hl')
theorem upd_comm {α : Type} {F : Nat → α} {d e : Nat} {v w : α} (h : d ≠ e) : upd (upd F d v) e w = upd (upd F e w) d v := by
  funext t; unfold upd
  by_cases h1 : t = e <;> by_cases h2 : t = d <;> simp [h1, h2]
  · subst h1; exact absurd h2.symm h
  · subst h1; intro hc; exact absurd hc.symm h
  · subst h2; intro hc; exact absurd hc h
theorem ap_comm {D E : Dl} (hv : ∀ d v e w, D.v = some (d, v) → E.v = some (e, w) → d ≠ e) (ht : ∀ p ∈ D.t, ∀ q ∈ E.t, p.1 ≠ q.1) (s : St) : E.ap (D.ap s) = D.ap (E.ap s) := by
  unfold Dl.ap
  congr 1
  · cases hD : D.v with
    | none => rfl
    | some p =>
      cases hE : E.v with
      | none => rfl
      | some q => exact upd_comm (hv p.1 p.2 q.1 q.2 (by rw [hD]) (by rw [hE]))
  · exact tbs_comm ht _
theorem ap_ev {D : Dl} {x : Operand} (h : ∀ d v, D.v = some (d, v) → x ≠ .tmp d) (s : St) : (D.ap s).ev x = s.ev x := by
  cases x with
  | tmp t =>
    show (match D.v with | some (d, v) => upd s.fr d v | none => s.fr) t = s.fr t
    cases hD : D.v with
    | none => rfl
    | some p =>
      obtain ⟨d, v⟩ := p
      exact upd_ne _ _ _ _ (fun e => h d v hD (by rw [e]))
  | const v => rfl
  | func f => rfl
  | global g => rfl
theorem opKeys_loc {op : Op} (h : AgE s s2 op.operands.toList) : opKeys s2 op = opKeys s op := by
  unfold opKeys
  rw [List.flatMap_def, List.flatMap_def, List.map_congr_left (fun x hx => by rw [h x hx])]
theorem rdKeys_loc {op : Op} (h : AgE s s2 op.operands.toList) : rdKeys s2 op = rdKeys s op := by
  unfold rdKeys; split <;> simp only [opKeys_loc h]
theorem wrKeys_loc {dst : Option Nat} {op : Op} (h : AgE s s2 op.operands.toList) : wrKeys s2 dst op = wrKeys s dst op := by
  unfold wrKeys; split <;> simp only [opKeys_loc h]
theorem sepB_spec {ki kj : List Nat × List Nat} {p o : Oper} (h : sepB ops ki kj p o = true) :
    (∀ d, p.dst = some d → (∀ x ∈ looks ops o, x ≠ .tmp d) ∧ o.dst ≠ some d) ∧ (∀ d, o.dst = some d → ∀ x ∈ looks ops p, x ≠ .tmp d) ∧ disj ki.2 kj.1 = true ∧ disj ki.2 kj.2 = true ∧ disj kj.2 ki.1 = true := by
  simp only [sepB, Bool.and_eq_true] at h
  obtain ⟨⟨⟨⟨h1, h2⟩, h3⟩, h4⟩, h5⟩ := h
  refine ⟨fun d hd => ?_, fun d hd x hx e => ?_, h3, h4, h5⟩
  · rw [hd] at h1
    simp only [Bool.and_eq_true, List.all_eq_true, bne_iff_ne, ne_eq] at h1
    exact ⟨fun x hx e => by have := h1.1 x hx; rw [e] at this; simp at this, h1.2⟩
  · rw [hd] at h2
    simp only [List.all_eq_true] at h2
    have := h2 x hx; rw [e] at this; simp at this
theorem disj_spec {a b : List Nat} (h : disj a b = true) : ∀ k ∈ a, k ∉ b := by
  intro k hk hb
  simp only [disj, List.all_eq_true] at h
  have := h k hk
  simp [hb] at this
theorem keysOk_spec {kw : List Nat × List Nat} {o : Oper} (h : keysOk kw s o = true) : (∀ k ∈ rdKeys s o.op, k ∈ kw.1) ∧ ∀ k ∈ wrKeys s o.dst o.op, k ∈ kw.2 := by
  simp only [keysOk, Bool.and_eq_true, List.all_eq_true] at h
  exact ⟨fun k hk => by simpa using h.1 k hk, fun k hk => by simpa using h.2 k hk⟩
theorem swap {ki kj : List Nat × List Nat} {i j : Nat} {p o : Oper} {s1 s3 : St} (hs : sepB ops ki kj p o = true) (kp : keysOk ki s p = true) (hp : GStep P ops (s.nx + i) s p s1) (ko : keysOk kj s1 o = true) (ho : GStep P ops (s1.nx + j) s1 o s3) :
    keysOk kj s o = true ∧ ∃ s1', GStep P ops (s.nx + j) s o s1' ∧ keysOk ki s1' p = true ∧ GStep P ops (s1'.nx + i) s1' p s3 := by
  obtain ⟨q1, q2, q3, q4, q5⟩ := sepB_spec hs
  obtain ⟨D, d1, d2, d3, d4⟩ := gstep_loc hp
  obtain ⟨E, e1, e2, e3, e4⟩ := gstep_loc ho
  obtain ⟨kp1, kp2⟩ := keysOk_spec kp
  obtain ⟨ko1, ko2⟩ := keysOk_spec ko
  have nx1 : s1.nx = s.nx := by rw [d1]; rfl
  have md1 : s1.md = s.md := by rw [d1]; rfl
  -- what o sees is the same ahead of p
  have ag : AgE s1 s (looks ops o) := fun x hx => by
    rw [d1, ap_ev]; intro d v hv; exact (q1 d (d2 d v hv)).1 x hx
  have ag' : AgE s1 s o.op.operands.toList := fun x hx => ag x (by unfold looks; simp [hx])
  have rk : ∀ d ∈ rdKeys s1 o.op, s.tb d = s1.tb d := fun d hd => by
    rw [d1]; exact (tbs_ne _ _ (fun p hp e => disj_spec q3 p.1 (kp2 _ (d3 p hp)) (by rw [e]; exact ko1 d hd))).symm
  have g1 := e4 s md1.symm ag rk
  have ko' : keysOk kj s o = true := by
    unfold keysOk at ko ⊢; rwa [rdKeys_loc ag', wrKeys_loc ag']
  -- what p sees is the same after o
  have ap : AgE s (E.ap s) (looks ops p) := fun x hx => by
    rw [ap_ev]; intro d v hv; exact q2 d (e2 d v hv) x hx
  have ap' : AgE s (E.ap s) p.op.operands.toList := fun x hx => ap x (by unfold looks; simp [hx])
  have rp : ∀ d ∈ rdKeys s p.op, (E.ap s).tb d = s.tb d := fun d hd => tbs_ne _ _ (fun p hp e => disj_spec q5 p.1 (ko2 _ (e3 p hp)) (by rw [e]; exact kp1 d hd))
  have g2 := d4 (E.ap s) rfl ap rp
  refine ⟨ko', E.ap s, by rwa [nx1] at g1, ?_, ?_⟩
  · unfold keysOk at kp ⊢; rwa [rdKeys_loc ap', wrKeys_loc ap']
  · have hc : D.ap (E.ap s) = s3 := by
      rw [e1, d1]
      refine (ap_comm ?_ ?_ s).symm
      · intro d v e w hD hE he
        subst he
        exact (q1 d (d2 d v hD)).2 (e2 d w hE)
      · intro p hp q hq e
        exact disj_spec q4 p.1 (kp2 _ (d3 p hp)) (by rw [e]; exact ko2 _ (e3 q hq))
    rw [← hc]; exact g2
theorem front {kw : Nat → List Nat × List Nat} {j : Nat} {o : Oper} {L2 : List (Nat × Oper)} {K : St → Prop} : ∀ (L1 : List (Nat × Oper)) (s : St), (∀ q ∈ L1, sepB ops (kw q.1) (kw j) q.2 o = true) → xRun P ops kw (L1 ++ (j, o) :: L2) s K → xRun P ops kw ((j, o) :: (L1 ++ L2)) s K
  | [], s, _, h => h
  | (i, p) :: L1, s, hs, h => by
    obtain ⟨kp, s1, hp, h⟩ := h
    obtain ⟨ko, s3, ho, h⟩ := front L1 s1 (fun q hq => hs q (by simp [hq])) h
    obtain ⟨ko', s1', g1, kp', g2⟩ := swap (hs (i, p) (by simp)) kp hp ko ho
    exact ⟨ko', s1', g1, kp', s3, g2, h⟩
end
end Go.Proofs.Ytikganlbnhapcaa

namespace Go.Proofs.Ytikganlbnhapcaa
open Go.RowKit
set_option linter.unusedVariables false
set_option linter.unusedSimpArgs false

def clo (ops : List Oper) : List Nat :=
  ops.foldl (fun acc o => acc ++ [o.after.toList.foldl (fun m e => if Region.binds .any e then m ||| 2 ^ e.on ||| acc.getD e.on 0 else m) 0]) []
/-- pairs without an order are apart -/
def chkB (ops : List Oper) (kw : Nat → List Nat × List Nat) (b : List Nat) : Bool :=
  (List.range ops.length).all fun j => match ops[j]? with
    | none => true
    | some o => (o.after.toList.all fun e => !Region.binds .any e || decide (e.on < j)) &&
      (List.range j).all fun i => match ops[i]? with
        | none => true
        | some p => if (b.getD j 0).testBit i then o.after.toList.any (fun e => Region.binds .any e && (e.on == i || (decide (i < e.on) && (b.getD e.on 0).testBit i))) else sepB ops (kw i) (kw j) p o
def chkD (ops : List Oper) (kw : Nat → List Nat × List Nat) : Bool := chkB ops kw (clo ops)
/-- the operations with their places -/
def idx (ops : List Oper) : List (Nat × Oper) := ops.zipIdx.map fun p => (p.2, p.1)
section
variable {P : Program} {w0 : Base} {w w' : World} {K0 : Anc} {G : Gh} {s : St} {a : Act} {ops : List Oper} {kw : Nat → List Nat × List Nat}
theorem chkB_spec {b : List Nat} (h : chkB ops kw b = true) {j : Nat} {o : Oper} (hj : ops[j]? = some o) :
    (∀ e ∈ o.after, Region.binds .any e = true → e.on < j) ∧ ∀ (i : Nat) (p : Oper), i < j → ops[i]? = some p → ((b.getD j 0).testBit i = true ∧ ∃ e ∈ o.after, Region.binds .any e = true ∧ (e.on = i ∨ (i < e.on ∧ (b.getD e.on 0).testBit i = true))) ∨ ((b.getD j 0).testBit i = false ∧ sepB ops (kw i) (kw j) p o = true) := by
  have hl : j < ops.length := by
    rcases Nat.lt_or_ge j ops.length with h | h
    · exact h
    · rw [List.getElem?_eq_none h] at hj; cases hj
  have h1 := List.all_eq_true.1 h j (by simpa using hl)
  simp only [hj, Bool.and_eq_true, List.all_eq_true, Bool.or_eq_true, Bool.not_eq_true', decide_eq_true_eq] at h1
  refine ⟨fun e he hb => ?_, fun i p hi hp => ?_⟩
  · rcases h1.1 e (by simpa using he) with h2 | h2
    · rw [hb] at h2; cases h2
    · exact h2
  · have h2 := h1.2 i (by simpa using hi)
    simp only [hp] at h2
    cases hb : (b.getD j 0).testBit i with
    | true =>
      rw [hb, if_pos rfl] at h2
      simp only [List.any_eq_true, Bool.and_eq_true, Bool.or_eq_true, beq_iff_eq, decide_eq_true_eq] at h2
      obtain ⟨e, he, hb, h2⟩ := h2
      exact .inl ⟨rfl, e, by simpa using he, hb, h2⟩
    | false =>
      rw [hb] at h2
      simp only [Bool.false_eq_true, if_false] at h2
      exact .inr ⟨rfl, h2⟩
/-- what is listed is closed under what must come ahead -/
def Down (ops : List Oper) (ls : Array Bool) : Prop := ∀ (j : Nat) (o : Oper), ops[j]? = some o → ls.getD j false = true → ∀ e ∈ o.after, Region.binds .any e = true → ls.getD e.on false = true
theorem clo_listed {b : List Nat} (hc : chkB ops kw b = true) {ls : Array Bool} (hd : Down ops ls) : ∀ (j : Nat) (o : Oper), ops[j]? = some o → (∀ e ∈ o.after, Region.binds .any e = true → ls.getD e.on false = true) →
    ∀ (i : Nat) (p : Oper), i < j → ops[i]? = some p → (b.getD j 0).testBit i = true → ls.getD i false = true := by
  intro j
  induction j using Nat.strongRecOn with
  | ind j ih =>
    intro o hj hr i p hi hp ht
    obtain ⟨c1, c2⟩ := chkB_spec hc hj
    rcases c2 i p hi hp with ⟨_, e, he, hb, h2⟩ | ⟨h2, _⟩
    · have hel := hr e he hb
      have hlt := c1 e he hb
      rcases h2 with rfl | ⟨hie, h2⟩
      · exact hel
      · have hjl : j < ops.length := by
          rcases Nat.lt_or_ge j ops.length with h | h
          · exact h
          · rw [List.getElem?_eq_none h] at hj; cases hj
        obtain ⟨q, hq⟩ : ∃ q, ops[e.on]? = some q := ⟨ops[e.on]'(by omega), by simp⟩
        exact ih e.on hlt q hq (hd e.on q hq hel) i p hie hp h2
    · rw [ht] at h2; cases h2
theorem set_getD {ls : Array Bool} {j i : Nat} {d : Bool} (h : j < ls.size) : (ls.setIfInBounds j true).getD i d = if i = j then true else ls.getD i d := by
  simp only [Array.getD_eq_getD_getElem?, Array.getElem?_setIfInBounds]
  by_cases hij : i = j
  · subst hij; simp [h]
  · rw [if_neg (fun e => hij e.symm), if_neg hij]
theorem ready_spec {ls : Array Bool} {j : Nat} (h : j ∈ Region.ready .any ops.toArray ls) : ∃ o, ops[j]? = some o ∧ ls.getD j true = false ∧ ∀ e ∈ o.after, Region.binds .any e = true → ls.getD e.on false = true := by
  simp only [Region.ready, List.mem_filter, List.mem_range, List.size_toArray, Bool.and_eq_true, Bool.not_eq_true', List.getElem?_toArray] at h
  obtain ⟨h1, h2, h3⟩ := h
  refine ⟨ops[j], by simp, h2, fun e he hb => ?_⟩
  rw [List.getElem?_eq_getElem h1] at h3
  simp only [Option.map_some, Option.getD_some, Array.all_eq_true'] at h3
  have := h3 e he
  simpa [hb] using this
theorem ready_of {ls : Array Bool} {j : Nat} {o : Oper} (hj : ops[j]? = some o) (hn : ls.getD j true = false) (hr : ∀ e ∈ o.after, Region.binds .any e = true → ls.getD e.on false = true) : j ∈ Region.ready .any ops.toArray ls := by
  have h1 : j < ops.length := by
    rcases Nat.lt_or_ge j ops.length with h | h
    · exact h
    · rw [List.getElem?_eq_none h] at hj; cases hj
  simp only [Region.ready, List.mem_filter, List.mem_range, List.size_toArray, Bool.and_eq_true, Bool.not_eq_true', List.getElem?_toArray]
  refine ⟨h1, hn, ?_⟩
  rw [hj]
  simp only [Option.map_some, Option.getD_some, Array.all_eq_true']
  intro e he
  cases hb : Region.binds .any e with
  | true => simp [hr e he hb]
  | false => simp
theorem any_sound {N : Nat} {b : List Nat} (hc : chkB ops kw b = true) (hdst : dstsOk N ops = true) {Q : Exit → Act → World → Prop} {K : St → Prop} {n0 : Nat} : ∀ (fuel : Nat) (ls : Array Bool) (L : List (Nat × Oper)) (s : St) (a : Act) (w : World) (G : Gh),
    L.length ≤ fuel → ls.size = ops.length → (∀ i o, (i, o) ∈ L ↔ ops[i]? = some o ∧ ls.getD i true = false) → L.Pairwise (fun x y => x.1 < y.1) → Down ops ls → s.nx = n0 →
    Real P w0 K0 G (fun g => g < n0 ∨ ∃ j, ls.getD j false = true ∧ g = n0 + j) s a w → a.tmps.size = N → xRun P ops kw L s K →
    (∀ s' G' a' w', K s' → Real P w0 K0 G' (fun g => g < n0 + ops.length) s' a' w' → a'.tmps.size = N → s'.nx = n0 → Q .normal a' w') → wpAny P .any ops.toArray Q fuel ls a w := by
  intro fuel
  induction fuel with
  | zero =>
    intro ls L s a w G hfuel hsz hmem hpw hdown hnx hre hN hx hq
    have hL : L = [] := List.length_eq_zero_iff.1 (by omega)
    subst hL
    refine ⟨?_, hq s G a w hx (hre.us_mono fun g hg => ?_) hN hnx⟩
    · apply List.eq_nil_iff_forall_not_mem.2
      intro j hj
      obtain ⟨o, h1, h2, _⟩ := ready_spec hj
      exact absurd ((hmem j o).2 ⟨h1, h2⟩) (by simp)
    · rcases hg with h | ⟨j, h, rfl⟩
      · omega
      · have : j < ls.size := by
          rcases Nat.lt_or_ge j ls.size with h' | h'
          · exact h'
          · simp [Array.getD, Nat.not_lt.2 h'] at h
        omega
  | succ fuel ih =>
    intro ls L s a w G hfuel hsz hmem hpw hdown hnx hre hN hx hq
    have lt_of : ∀ j, ls.getD j false = true → j < ops.length := fun j h => by
      rcases Nat.lt_or_ge j ls.size with h' | h'
      · omega
      · simp [Array.getD, Nat.not_lt.2 h'] at h
    refine ⟨fun h0 => ?_, fun j hj => ?_⟩
    · have hL : L = [] := by
        cases L with
        | nil => rfl
        | cons q L' =>
          exfalso
          obtain ⟨i, o⟩ := q
          obtain ⟨h1, h2⟩ := (hmem i o).1 (by simp)
          obtain ⟨c1, _⟩ := chkB_spec hc h1
          have : i ∈ Region.ready .any ops.toArray ls := ready_of h1 h2 fun e he hb => by
            have hlt := c1 e he hb
            have hi : i < ops.length := by
              rcases Nat.lt_or_ge i ops.length with h | h
              · exact h
              · rw [List.getElem?_eq_none h] at h1; cases h1
            cases hls : ls.getD e.on true with
            | true =>
              have : e.on < ls.size := by omega
              simpa [Array.getD, this] using hls
            | false =>
              have hin := (hmem e.on (ops[e.on]'(by omega))).2 ⟨by simp, hls⟩
              rcases List.mem_cons.1 hin with h3 | h3
              · simp only [Prod.mk.injEq] at h3; omega
              · have := (List.pairwise_cons.1 hpw).1 _ h3
                simp only at this; omega
          rw [h0] at this; simp at this
      subst hL
      refine hq s G a w hx (hre.us_mono fun g hg => ?_) hN hnx
      rcases hg with h | ⟨j, h, rfl⟩
      · omega
      · have := lt_of j h; omega
    · obtain ⟨o, h1, h2, h3⟩ := ready_spec hj
      have hjl : j < ops.length := by
        rcases Nat.lt_or_ge j ops.length with h | h
        · exact h
        · rw [List.getElem?_eq_none h] at h1; cases h1
      obtain ⟨L1, L2, rfl⟩ := List.append_of_mem ((hmem j o).2 ⟨h1, h2⟩)
      have hp3 := List.pairwise_append.1 hpw
      have hsep : ∀ q ∈ L1, sepB ops (kw q.1) (kw j) q.2 o = true := by
        rintro ⟨i, p⟩ hq'
        obtain ⟨k1, k2⟩ := (hmem i p).1 (by simp [hq'])
        have hlt : i < j := hp3.2.2 _ hq' _ (List.mem_cons_self ..)
        rcases (chkB_spec hc h1).2 i p hlt k1 with ⟨k3, _⟩ | ⟨_, k3⟩
        · exfalso
          have := clo_listed hc hdown j o h1 h3 i p hlt k1 k3
          have hil : i < ls.size := by omega
          simp [Array.getD, hil] at this k2
          rw [this] at k2; cases k2
        · exact k3
      obtain ⟨_, s', hst, hx'⟩ := front L1 s hsep hx
      have hd : ∀ d, o.dst = some d → d < N := fun d e => by
        simp only [dstsOk, List.all_eq_true] at hdst
        have := hdst o (List.mem_of_getElem? h1)
        rw [e] at this; simpa using this
      have hu : ¬ (fun g => g < n0 ∨ ∃ j, ls.getD j false = true ∧ g = n0 + j) (s.nx + j) := by
        rintro (h | ⟨j', h, e⟩)
        · omega
        · have : j' = j := by omega
          subst this
          have hil : j' < ls.size := by omega
          simp [Array.getD, hil] at h h2
          rw [h] at h2; cases h2
      have hs := aGuard_sound (Q := Q) (ops := ops) (K := fun t => xRun P ops kw (L1 ++ L2) t K) hre hN (γ := s.nx + j) hu hd (aGuard_step.2 ⟨s', hst, hx'⟩)
      have hjs : j < ls.size := by omega
      have cont : ∀ a' w', Nx P w0 K0 N s.nx (fun g => (g < n0 ∨ ∃ j, ls.getD j false = true ∧ g = n0 + j) ∨ g = s.nx + j) (fun t => xRun P ops kw (L1 ++ L2) t K) a' w' → wpAny P .any ops.toArray Q fuel (ls.setIfInBounds j true) a' w' := by
        rintro a' w' ⟨t, G', k1, k2, k3, k4⟩
        refine ih (ls.setIfInBounds j true) (L1 ++ L2) t a' w' G' ?_ (by simp [hsz]) ?_ ?_ ?_ (by omega) ?_ k3 k1 hq
        · simp only [List.length_append, List.length_cons] at hfuel ⊢; omega
        · intro i p
          rw [set_getD hjs]
          by_cases hij : i = j
          · subst hij
            simp only [if_true, Bool.true_eq_false, and_false, iff_false]
            intro hm
            rcases List.mem_append.1 hm with hm | hm
            · have := hp3.2.2 _ hm _ (List.mem_cons_self ..); simp only at this; omega
            · have := (List.pairwise_cons.1 hp3.2.1).1 _ hm; simp only at this; omega
          · rw [if_neg hij, ← hmem i p]
            simp only [List.mem_append, List.mem_cons, Prod.mk.injEq, hij, false_and, false_or]
        · exact hpw.sublist (List.Sublist.append_left (List.sublist_cons_self _ _) _)
        · intro j' o' hj' hl e he hb
          rw [set_getD hjs] at hl ⊢
          split
          · rfl
          · by_cases hjj : j' = j
            · subst hjj
              rw [h1] at hj'; injection hj' with hj'; subst hj'
              exact h3 e he hb
            · rw [if_neg hjj] at hl
              exact hdown j' o' hj' hl e he hb
        · refine k2.us_mono fun g hg => ?_
          rcases hg with (h | ⟨i, h, rfl⟩) | rfl
          · exact .inl h
          · refine .inr ⟨i, ?_, rfl⟩
            rw [set_getD hjs]; split
            · rfl
            · exact h
          · exact .inr ⟨j, by rw [set_getD hjs, if_pos rfl], by omega⟩
      unfold wpOp
      simp only [List.getElem?_toArray, h1]
      split at hs
      · rename_i hw; rw [if_pos hw]; exact .inl (Oper.wp_mono cont hs)
      · rename_i hw; rw [if_neg hw]; exact cont _ _ hs
end
end Go.Proofs.Ytikganlbnhapcaa

namespace Go.Proofs.Ytikganlbnhapcaa
open Go.RowKit
set_option linter.unusedVariables false
set_option linter.unusedSimpArgs false

/-! the same inside a round of a loop over a function -/
inductive Wd : Fence → Prop
  | wide : Wd Fence.wide
  | rnd (l : Nat) : Wd (Fence.wide.inRound l)
section
variable {F : Fence} {n : Nat} {P : Program} {ops : Array Oper} {Q : Exit → Act → World → Prop} {a : Act} {w : World} {o : Oper}
theorem Wd.fn (h : Wd F) (f : FuncId) : F.fn f := by cases h <;> trivial
theorem Wd.dep (h : Wd F) : F.depth = none := by cases h <;> rfl
theorem Wd.nn (h : Wd F) : F.depth.isSome = true → 1 ≤ n := fun hc => by rw [h.dep] at hc; cases hc
theorem callsIn_wd (hF : Wd F) {f : FuncId} {args : Array Value} {R : Ending → World → Prop} (h : Calls P f args w R) : CallsIn F n P f args w R := by
  cases hF with
  | wide => exact callsIn_wide.2 h
  | rnd l => exact CallsIn.inRound l (callsIn_wide.2 h)
theorem stepsIn_wd (hF : Wd F) {m m' : Machine} (h : Steps P m m') : StepsIn (Machine.fenced P F) P m m' := by
  cases hF with
  | wide => exact stepsIn_wide.2 h
  | rnd l => rw [fenced_inRound]; exact stepsIn_wide.2 h
theorem oper_in (hF : Wd F) (hnd : ∀ c, o.op ≠ .defer c) {next : Act → World → Prop} (h : o.wp P a w next Q) : o.wpIn F n P a w next Q := by
  refine ⟨fun f _ => hF.fn f, ?_⟩
  rw [Oper.semAt_eq _ _ _ hnd]
  unfold Oper.wp at h
  generalize (execOp a.eval o).run P w = r at *
  cases r with
  | ok x w' =>
    cases x with
    | enter f args => exact ⟨hF.nn, callsIn_wd hF h⟩
    | row r x => exact ⟨hF.nn, fun c cs _ => by obtain ⟨v, w2, q1, q2⟩ := h c cs; exact ⟨v, w2, q1, stepsIn_wd hF q2⟩⟩
    | value v => exact h
    | skip => exact h
    | defer d => exact h
    | _ => exact h.elim
  | halt x w' => cases x <;> first | exact h | exact h.elim
def noDef (ops : List Oper) : Bool := ops.all fun o => match o.op with
  | .defer _ => false
  | _ => true
theorem noDef_mem {l : List Oper} (h : noDef l = true) {o : Oper} (ho : o ∈ l) : ∀ c, o.op ≠ .defer c := by
  intro c hc
  have := List.all_eq_true.1 h o ho
  rw [hc] at this; cases this
theorem list_in (hF : Wd F) (hlo : ¬ LetsOut Q) : ∀ (l : List Oper) (a : Act) (w : World), noDef l = true → wpList P ops Q l a w → wpListIn F n P ops Q l a w
  | [], a, w, _, h => h
  | o :: l, a, w, hd, h => by
    have hd2 : noDef l = true := by simp only [noDef, List.all_cons, Bool.and_eq_true] at hd ⊢; exact hd.2
    refine wpListIn_step fun K hK => ?_
    unfold wpList at h
    split at h
    · rename_i hw
      rw [if_pos hw]
      rcases h with h | h
      · exact oper_in hF (noDef_mem hd (by simp)) (Oper.wp_mono (fun a w q => hK a w (list_in hF hlo l a w hd2 q)) h)
      · exact absurd h.2 hlo
    · rename_i hw
      rw [if_neg hw]
      exact ⟨fun f _ => hF.fn f, hK _ _ (list_in hF hlo l _ w hd2 h)⟩
theorem any_in (hF : Wd F) (hlo : ¬ LetsOut Q) (hd : noDef ops.toList = true) : ∀ (fuel : Nat) (ls : Array Bool) (a : Act) (w : World), wpAny P .any ops Q fuel ls a w → wpAnyIn F n P .any ops Q fuel ls a w
  | 0, ls, a, w, h => h
  | fuel + 1, ls, a, w, h => by
    refine ⟨h.1, fun i hi => ?_⟩
    have h2 := h.2 i hi
    unfold wpOp at h2
    unfold wpOpIn
    split at h2
    · rename_i ho; simp only [ho]; exact any_in hF hlo hd fuel _ _ _ h2
    · rename_i o ho
      simp only [ho]
      split at h2
      · rename_i hw
        rw [if_pos hw]
        rcases h2 with h2 | h2
        · refine oper_in hF (noDef_mem hd ?_) (Oper.wp_mono (fun a w q => any_in hF hlo hd fuel _ a w q) h2)
          exact Array.mem_toList_iff.2 (Array.mem_of_getElem? ho)
        · exact absurd h2.2 hlo
      · rename_i hw
        rw [if_neg hw]
        exact ⟨fun f _ => hF.fn f, any_in hF hlo hd fuel _ _ _ h2⟩
theorem wpIn_loop_ghost {c : Code} (I : Nat → Act → World → Prop) (n₀ : Nat) (h₀ : I n₀ a w)
    (round : ∀ k a w, I k a w → c.wpIn F n P (Exit.then (fun a' w' => ∃ n', n' < k ∧ I n' a' w') Q) a w) : (Code.loop c).wpIn F n P Q a w := by
  refine wpIn_loop (fun a w => ∃ n, I n a w) (fun a w => leastOf (fun n => I n a w)) ⟨n₀, h₀⟩ ?_
  intro a w hI
  refine wpIn_mono (round _ a w (leastOf_spec hI).1) ?_
  intro e a' w' hq
  cases e with
  | normal =>
    obtain ⟨n', hlt, hI'⟩ := hq
    exact show (∃ n, I n a' w') ∧ leastOf (fun n => I n a' w') < leastOf (fun n => I n a w) from ⟨⟨n', hI'⟩, Nat.lt_of_le_of_lt ((leastOf_spec ⟨n', hI'⟩).2 n' hI') hlt⟩
  | exit id => exact hq
  | goto l => exact hq
  | ret => exact hq
  | panic ch => exact hq
  | outgrown => exact hq
end
end Go.Proofs.Ytikganlbnhapcaa

namespace Go.Proofs.Ytikganlbnhapcaa
open Go.RowKit
set_option linter.unusedVariables false
set_option linter.unusedSimpArgs false

def idxFrom : Nat → List Oper → List (Nat × Oper)
  | _, [] => []
  | i, o :: l => (i, o) :: idxFrom (i + 1) l
theorem idx_ge : ∀ (l : List Oper) (i : Nat) (q : Nat × Oper), q ∈ idxFrom i l → i ≤ q.1
  | [], i, q, h => by simp [idxFrom] at h
  | o :: l, i, q, h => by
    rcases List.mem_cons.1 h with rfl | h
    · exact Nat.le_refl _
    · have := idx_ge l (i + 1) q h; omega
theorem idx_pw : ∀ (l : List Oper) (i : Nat), (idxFrom i l).Pairwise fun x y => x.1 < y.1
  | [], i => .nil
  | o :: l, i => .cons (fun q hq => by have := idx_ge l (i + 1) q hq; show i < q.1; omega) (idx_pw l (i + 1))
theorem idx_mem : ∀ (l : List Oper) (i j : Nat) (o : Oper), (i + j, o) ∈ idxFrom i l ↔ l[j]? = some o
  | [], i, j, o => by simp [idxFrom]
  | p :: l, i, 0, o => by
    simp only [idxFrom, List.mem_cons, Prod.mk.injEq, Nat.add_zero, true_and, List.getElem?_cons_zero, Option.some.injEq]
    constructor
    · rintro (h | h)
      · exact h.symm
      · have := idx_ge l (i + 1) _ h; simp only at this; omega
    · intro h; exact .inl h.symm
  | p :: l, i, j + 1, o => by
    simp only [idxFrom, List.mem_cons, Prod.mk.injEq, List.getElem?_cons_succ]
    rw [← idx_mem l (i + 1) j o, show i + 1 + j = i + (j + 1) by omega]
    constructor
    · rintro (h | h)
      · omega
      · exact h
    · intro h; exact .inr h
theorem idx_len : ∀ (l : List Oper) (i : Nat), (idxFrom i l).length = l.length
  | [], _ => rfl
  | o :: l, i => by simp [idxFrom, idx_len l]
/-- what a loop over a function assigns ahead of its body -/
def asgs : List Oper → Option (List (Nat × Nat))
  | [] => some []
  | ⟨some d, .assign (.tmp p), _, _, _, none⟩ :: l => (asgs l).map ((d, p) :: ·)
  | _ => none
def asgC : Code → Option (List (Nat × Nat))
  | .skip => some []
  | .region _ ops false => asgs ops.toList
  | _ => none
def runAs {α : Type} (F : Nat → α) : List (Nat × Nat) → Nat → α
  | [] => F
  | (d, p) :: l => runAs (upd F d (F p)) l
def putPs (F : Nat → SV) : List Nat → List AV → Nat → SV
  | p :: ps, x :: xs => putPs (upd F p (.k x)) ps xs
  | _, _ => F
def codeOk (N : Nat) (rf : Bool) : Code → Bool
  | .skip => true
  | .region _ ops _ => dstsOk N ops.toList && noDef ops.toList
  | .seq a b => codeOk N rf a && codeOk N rf b
  | .cond _ a b => codeOk N rf a && codeOk N rf b
  | .block _ c => codeOk N rf c
  | .loop c => codeOk N rf c
  | .exit _ => true
  | .ret => true
  | .rangeFunc _ ps a c => rf && ps.toList.all (· < N) && (match asgC a with
    | some l => l.all fun q => decide (q.1 < N)
    | none => false) && codeOk N false c
  | _ => false
/-- a closure that hands on these, one by one -/
def Iter (P : Program) (gf : Nat) (caps : List AV) (els : List (List AV)) : Prop :=
  (∀ args w, (callFunc gf args).run P w = .ok (.enter gf args) w) ∧ ∀ (K : Kd) (w : World) (vs : Array Value), KOk K w → ArgsR K caps vs → ∃ vals : Nat → Array Value, (∀ (i : Nat) (x : List AV), els[i]? = some x → ArgsR K x (vals i)) ∧
    ∀ n, SeqStopsK (α := Fin els.length) Fence.wide n P gf vs (fun i => vals i.val) (fun A B => KOk K A → KOk K B) (fun xs => xs.map (·.val) = List.range els.length) (fun _ => True) els.length w
/-- the walk, in plain words -/
def aWp (P : Program) : Code → (AEx → St → Prop) → St → Prop
  | .skip, Q, s => Q .normal s
  | .region _ ops false, Q, s => aRun P ops.toList 0 ops.toList s fun s' => Q .normal (s'.bump ops.size)
  | .region _ ops true, Q, s => ∃ kw, chkD ops.toList kw = true ∧ xRun P ops.toList kw (idxFrom 0 ops.toList) s fun s' => Q .normal (s'.bump ops.size)
  | .seq a b, Q, s => aWp P a (AEx.seq (aWp P b Q) Q) s
  | .cond c a b, Q, s => match (s.ev c).av with
    | .bool t => (t = true → aWp P a Q s) ∧ (t = false → aWp P b Q s)
    | _ => False
  | .block id c, Q, s => aWp P c (AEx.inBlock id Q) s
  | .loop c, Q, s => ∃ (I : Nat → St → Prop) (n : Nat), I n s ∧ ∀ n s, I n s → aWp P c (AEx.seq (fun s' => ∃ m, m < n ∧ I m s') Q) s
  | .exit id, Q, s => Q (.exit id) s
  | .ret, Q, s => Q .ret s
  | .rangeFunc g ps asg body, Q, s => ∃ (gf : Nat) (caps : List AV) (els : List (List AV)) (I : List (List AV) → St → Prop) (l : List (Nat × Nat)), s.ev g = .k (.fn gf caps) ∧ Iter P gf caps els ∧ (∀ x ∈ els, x.length = ps.size) ∧ asgC asg = some l ∧ I [] s ∧
      (∀ pre x s', I pre s' → pre.length < els.length → (∀ y ∈ pre, y ∈ els) → x ∈ els → aWp P body (fun e s'' => match e with
        | .normal => s''.md = s.md ∧ I (pre ++ [x]) s''
        | e => s''.md = s.md ∧ Q e ⟨s.fr, s''.tb, s''.nx, s.md⟩) ⟨runAs (putPs s.fr ps.toList x) l, s'.tb, s'.nx, s.md⟩) ∧ ∀ s', I els s' → Q .normal ⟨s.fr, s'.tb, s'.nx, s.md⟩
  | _, _, _ => False

section
variable {P : Program} {w0 : Base} {w w' : World} {K0 : Anc} {G : Gh} {us : Nat → Prop} {s : St} {a : Act}
/-- what a piece of code leaves -/
def Post (P : Program) (w0 : Base) (K0 : Anc) (N : Nat) (Q : AEx → St → Prop) (e : Exit) (a : Act) (w : World) : Prop := ∃ e' s G, e = AEx.to e' ∧ Q e' s ∧ Real P w0 K0 G (fun g => g < s.nx) s a w ∧ a.tmps.size = N
theorem post_out {N : Nat} {Q : AEx → St → Prop} : ¬ LetsOut (Post P w0 K0 N Q) := by
  rintro ⟨a, w, e', s, G, h, _⟩
  cases e' <;> cases h
theorem wpIn_n {F : Fence} (hF : Wd F) {n m : Nat} {c : Code} {Q : Exit → Act → World → Prop} (h : c.wpIn F n P Q a w) : c.wpIn F m P Q a w := fun b k cs hro hb _ => h b k cs hro hb (fun d hd => by rw [hF.dep] at hd; cases hd)
def SlR (G : Gh) (F : Nat → SV) (tmps : Array Value) : Prop := ∀ t, SRep G (F t) (tmps.getD t undef)
theorem SlR.put {G : Gh} {F : Nat → SV} {tmps : Array Value} (h : SlR G F tmps) {d : Nat} {x : SV} {v : Value} (hd : d < tmps.size) (hx : SRep G x v) : SlR G (upd F d x) (tmps.setIfInBounds d v) := by
  intro t
  by_cases e : t = d
  · subst e
    rw [upd_same, show (tmps.setIfInBounds t v).getD t undef = v by simp [Array.getD, hd]]; exact hx
  · rw [upd_ne _ _ _ _ e, show (tmps.setIfInBounds d v).getD t undef = tmps.getD t undef by
      rw [Array.getD_eq_getD_getElem?, Array.getD_eq_getD_getElem?, Array.getElem?_setIfInBounds_ne (Ne.symm e)]]
    exact h t
theorem putPs_R {G : Gh} : ∀ (ps : List Nat) (xs : List AV) (vs : List Value) (F : Nat → SV) (tmps : Array Value), SlR G F tmps → (∀ p ∈ ps, p < tmps.size) → xs.length = vs.length → (∀ (i : Nat) (x : AV) (v : Value), xs[i]? = some x → vs[i]? = some v → KRep G.K x v) →
    SlR G (putPs F ps xs) ((ps.zip vs).foldl (fun t (p, v) => t.setIfInBounds p v) tmps)
  | [], xs, vs, F, tmps, h, _, _, _ => by simpa [putPs] using h
  | p :: ps, [], vs, F, tmps, h, _, hl, _ => by
    have : vs = [] := List.length_eq_zero_iff.1 (by simpa using hl.symm)
    subst this; simpa [putPs] using h
  | p :: ps, x :: xs, [], F, tmps, h, _, hl, _ => by simp at hl
  | p :: ps, x :: xs, v :: vs, F, tmps, h, hp, hl, hk => by
    simp only [putPs, List.zip_cons_cons, List.foldl_cons]
    exact putPs_R ps xs vs _ _ (h.put (hp p (by simp)) (.k _ _ (hk 0 x v rfl rfl))) (fun q hq => by simpa using hp q (by simp [hq])) (by simpa using hl) (fun i x v h1 h2 => hk (i + 1) x v (by simpa using h1) (by simpa using h2))
def runT (tmps : Array Value) : List (Nat × Nat) → Array Value
  | [] => tmps
  | (d, p) :: l => runT (tmps.setIfInBounds d (tmps.getD p undef)) l
theorem runT_size : ∀ (l : List (Nat × Nat)) (tmps : Array Value), (runT tmps l).size = tmps.size
  | [], _ => rfl
  | (d, p) :: l, tmps => by rw [runT, runT_size l]; simp
theorem runAs_R {G : Gh} : ∀ (l : List (Nat × Nat)) (F : Nat → SV) (tmps : Array Value), SlR G F tmps → (∀ q ∈ l, q.1 < tmps.size) → SlR G (runAs F l) (runT tmps l)
  | [], F, tmps, h, _ => h
  | (d, p) :: l, F, tmps, h, hl => by
    simp only [runAs, runT]
    exact runAs_R l _ _ (h.put (hl (d, p) (by simp)) (h p)) (fun q hq => by simpa using hl q (by simp [hq]))
theorem foldl_size : ∀ (l : List (Nat × Value)) (tmps : Array Value), (l.foldl (fun t (p, v) => t.setIfInBounds p v) tmps).size = tmps.size
  | [], _ => rfl
  | q :: l, tmps => by rw [List.foldl_cons, foldl_size l]; simp
theorem asgs_wp {F : Fence} (hF : Wd F) {n : Nat} {ops : Array Oper} {K : Act → World → Prop} : ∀ (l : List Oper) (as : List (Nat × Nat)) (a : Act) (w : World), asgs l = some as → K { tmps := runT a.tmps as, defers := a.defers } w → wpListIn F n P ops (Exit.then K (fun _ _ _ => False)) l a w
  | [], as, a, w, h, hk => by
    simp only [asgs, Option.some.injEq] at h; subst h
    exact hk
  | o :: l, as, a, w, h, hk => by
    unfold asgs at h
    split at h
    · rename_i hc; cases hc
    · rename_i d p _ _ _ l' hc
      injection hc with h1 h2
      subst h1 h2
      simp only [Option.map_eq_some_iff] at h
      obtain ⟨as', h1, rfl⟩ := h
      refine wpListIn_plain rfl fun K' hK' => ?_
      refine ⟨fun f _ => hF.fn f, ?_⟩
      rw [Oper.semAt_eq _ _ _ (by intro c hc; cases hc)]
      exact hK' _ _ (asgs_wp hF l as' _ w h1 hk)
    · cases h
theorem asgC_wp {F : Fence} (hF : Wd F) {n : Nat} {K : Act → World → Prop} {c : Code} {as : List (Nat × Nat)} (h : asgC c = some as) (hk : K { tmps := runT a.tmps as, defers := a.defers } w) : c.wpIn F n P (Exit.then K (fun _ _ _ => False)) a w := by
  unfold asgC at h
  split at h
  · injection h with h; subst h; exact wpIn_skip hk
  · rename_i id ops
    refine wpIn_region_list (asgs_wp hF _ as a w h hk)
  · cases h
/-- the blocks that are no cells -/
def nonCells (W : World) : Nat → Option Obj := fun b => match W.heap[b]? with
  | some o => if o.isCells = false then some o else none
  | none => none
theorem nonCells_iff {W : World} {b : Nat} {o : Obj} : nonCells W b = some o ↔ W.heap[b]? = some o ∧ o.isCells = false := by
  unfold nonCells
  cases h : W.heap[b]? with
  | none => simp
  | some o' =>
    simp only [Option.some.injEq]
    split
    · rename_i hc
      constructor
      · intro e; injection e with e; subst e; exact ⟨rfl, hc⟩
      · rintro ⟨rfl, _⟩; rfl
    · rename_i hc
      constructor
      · intro e; cases e
      · rintro ⟨rfl, h⟩; exact absurd h hc
def Gh.wo (G : Gh) (o : Nat → Option Obj) : Gh := ⟨G.K, G.at_, G.row, o⟩
def Base.at_ (B : Base) (W : World) (h : B.Kp W) : Base := ⟨W, B.pr, fun b hb => Nat.lt_of_lt_of_le (B.lt b hb) h.size⟩
theorem Base.Kp.from {B : Base} {W W' : World} (h : B.Kp W) (k : (B.at_ W h).Kp W') : B.Kp W' :=
  ⟨k.os.trans h.os, k.tape.trans h.tape, k.output.trans h.output, Nat.le_trans h.size k.size, fun b hb => (k.block b hb).trans (h.block b hb)⟩
theorem EntOk.wo {G : Gh} {o : Nat → Option Obj} {B : Base} {d g : Nat} {e : Ent} (h : EntOk G B w d g e) (B' : Base) (hB : B'.pr = B.pr) : EntOk (G.wo o) B' w d g e := by
  cases e with
  | obj cs => obtain ⟨b, p, arr, ty, h1, h2, h3⟩ := h; exact ⟨b, p, arr, ty, h1, by rw [hB]; exact h2, h3⟩
  | fz cs => exact h
  | tag => obtain ⟨r, h1, h2, h3⟩ := h; exact ⟨r, h1, h2, fun b hb => by rw [hB]; exact h3.1 b hb, h3.2⟩
theorem entBlk_wo {G : Gh} {o : Nat → Option Obj} {d g : Nat} {e : Ent} : entBlk (G.wo o) d g e = entBlk G d g e := by cases e <;> rfl
theorem SRep.wo {G : Gh} {o : Nat → Option Obj} {x : SV} {v : Value} (h : SRep G x v) : SRep (G.wo o) x v := by
  cases h with
  | k x v hk => exact .k x v hk
  | ob d g off b o ha => exact .ob d g off b o ha
  | os d g off n cap b o c ha hn hc hm => exact .os d g off n cap b o c ha hn hc hm
  | ow d g n e cells r hr he hn hl hx hk => exact .ow d g n e cells r hr he hn hl hx hk
  | pk d g off n d2 g2 off2 n2 b cap b1 o1 c1 b2 o2 c2 hb hc hm h1 hc1 hm1 hv1 h2 hc2 hm2 hv2 => exact .pk d g off n d2 g2 off2 n2 b cap b1 o1 c1 b2 o2 c2 hb hc hm h1 hc1 hm1 hv1 h2 hc2 hm2 hv2
/-- another frame over the same table -/
theorem Real.frame (h : Real P w0 K0 G us s a w) {F : Nat → SV} {a' : Act} {B' : Base} (hB : B'.pr = w0.pr) (hk : B'.Kp w) (o : Nat → Option Obj) (ho : ∀ (b : Nat) (x : Obj), o b = some x → w.heap[b]? = some x ∧ x.isCells = false) (hd : Mks B' (G.wo o) a'.defers) (hs : SlR G F a'.tmps) :
    Real P B' ⟨K0.K, G.wo o⟩ (G.wo o) us ⟨F, s.tb, s.nx, s.md⟩ a' w := by
  refine ⟨hk, h.kok, fun t => (hs t).wo, fun d g e he => (h.ents d g e he).wo B' hB, fun d1 g1 e1 d2 g2 e2 b h1 h2 k1 k2 => ?_, h.fresh, hd, h.rows, h.offs, h.kle, fun b hb => h.kold b (by rw [← hB]; exact hb), ho, h.krw, h.dpl, h.dp0, h.kro, .refl _⟩
  rw [entBlk_wo] at k1 k2
  exact h.dist d1 g1 e1 d2 g2 e2 b h1 h2 k1 k2
/-- back to the frame that a round was called from -/
theorem Real.back {w1 : Base} {A : Anc} (h : Real P w1 A G us s a w) (hp : w1.pr = w0.pr) (hk : w0.Kp w) (hA : A.K = K0.K) {G1 : Gh} (hg : K0.G.lo G1) (ho1 : ∀ b o, G1.oth b = some o → G.oth b = some o) (hlo : ∀ x y, SRep G1 x y → SRep (G.wo G1.oth) x y) (hgl : (G1.wo G.oth).lo G)
    {F : Nat → SV} {a' : Act} (hd : Mks w0 G1 a'.defers) (hs : SlR G1 F a'.tmps) : Real P w0 K0 (G.wo G1.oth) us ⟨F, s.tb, s.nx, s.md⟩ a' w := by
  refine ⟨hk, h.kok, fun t => hlo _ _ (hs t), fun d g e he => (h.ents d g e he).wo w0 hp.symm, fun d1 g1 e1 d2 g2 e2 b h1 h2 k1 k2 => ?_, h.fresh, hd, h.rows, h.offs, by rw [← hA]; exact h.kle, fun b hb => by rw [← hA]; exact h.kold b (by rw [hp]; exact hb), fun b o ho => h.oth b o (ho1 b o ho), h.krw, h.dpl, by rw [← hA]; exact h.dp0, by rw [← hA]; exact h.kro, ?_⟩
  · rw [entBlk_wo] at k1 k2
    exact h.dist d1 g1 e1 d2 g2 e2 b h1 h2 k1 k2
  · exact ⟨hg.K.trans hgl.K, fun d g x e => hgl.at_ d g x (hg.at_ d g x e), fun d g x e => hgl.row d g x (hg.row d g x e), hg.oth⟩
theorem SRep.lo {G G' : Gh} (h : G.lo G') {x : SV} {v : Value} (hr : SRep G x v) : SRep G' x v := by
  cases hr with
  | k x v hk => exact .k x v (hk.mono h.K)
  | ob d g off b o ha => exact .ob d g off b o (h.at_ _ _ _ ha)
  | os d g off n cap b o c ha hn hc hm => exact .os d g off n cap b o c (h.at_ _ _ _ ha) hn hc hm
  | ow d g n e cells r hr he hn hl hx hk => exact .ow d g n e cells r (h.row _ _ _ hr) he hn hl (fun i x v h1 h2 => (hx i x v h1 h2).mono h.K) (hk.mono h.K)
  | pk d g off n d2 g2 off2 n2 b cap b1 o1 c1 b2 o2 c2 hb hc hm h1 hc1 hm1 hv1 h2 hc2 hm2 hv2 =>
    have hb2 := hb.1
    exact .pk d g off n d2 g2 off2 n2 b cap b1 o1 c1 b2 o2 c2 (hb.mono h.K) hc hm (h.at_ _ _ _ h1) hc1 hm1 ((h.K.val b 0 (by omega)).trans hv1) (h.at_ _ _ _ h2) hc2 hm2 ((h.K.val b 1 (by omega)).trans hv2)
/-- a loop over a function leaves its mark -/
theorem Real.mark (h : Real P w0 K0 G us s a w) (D : Nat) (hp : ¬ w0.pr D) (hn : ∀ o, G.oth D ≠ some o) (hd : w.heap[D]? = some (.deferred (some []))) :
    Real P w0 K0 (G.wo fun b => if b = D then some (.deferred (some [])) else G.oth b) us s { a with defers := { target := .collected D, args := #[] } :: a.defers } w := by
  have hlo : G.lo (G.wo fun b => if b = D then some (.deferred (some [])) else G.oth b) := ⟨.refl _, fun _ _ _ h => h, fun _ _ _ h => h, fun b o e => by
    show (if b = D then some (.deferred (some [])) else G.oth b) = some o
    rw [if_neg (fun q : b = D => hn o (by rw [← q]; exact e))]; exact e⟩
  refine ⟨h.below, h.kok, fun t => (h.slots t).wo, fun d g e he => (h.ents d g e he).wo w0 rfl, fun d1 g1 e1 d2 g2 e2 b h1 h2 k1 k2 => ?_, h.fresh, ?_, h.rows, h.offs, h.kle, h.kold, fun b o ho => ?_, h.krw, h.dpl, h.dp0, h.kro, h.gle.trans hlo⟩
  · rw [entBlk_wo] at k1 k2
    exact h.dist d1 g1 e1 d2 g2 e2 b h1 h2 k1 k2
  · obtain ⟨l, h1, h2, h3⟩ := h.defers
    refine ⟨D :: l, List.nodup_cons.2 ⟨fun hm => hn _ (h3 D hm).2, h1⟩, by simp [h2], fun D' hD' => ?_⟩
    show ¬ w0.pr D' ∧ (if D' = D then some (.deferred (some [])) else G.oth D') = _
    rcases List.mem_cons.1 hD' with rfl | hm
    · exact ⟨hp, if_pos rfl⟩
    · exact ⟨(h3 D' hm).1, by rw [if_neg (fun q => hn _ (by rw [← q]; exact (h3 D' hm).2))]; exact (h3 D' hm).2⟩
  · have ho' : (if b = D then some (.deferred (some [])) else G.oth b) = some o := ho
    split at ho'
    · rename_i e; injection ho' with ho'; subst e ho'; exact ⟨hd, rfl⟩
    · exact h.oth b o ho'
theorem aWp_sound {N : Nat} (hmo : P.follows .mixedOrders = true) : ∀ (c : Code) (rf : Bool) (F : Fence) (n : Nat) (w0 : Base) (K0 : Anc) (Q : AEx → St → Prop) (s : St) (a : Act) (w : World) (G : Gh), Wd F → (rf = true → F = Fence.wide) → codeOk N rf c = true → aWp P c Q s → Real P w0 K0 G (fun g => g < s.nx) s a w → a.tmps.size = N → c.wpIn F n P (Post P w0 K0 N Q) a w := by
  intro c
  induction c with
  | skip => intro rf F n w0 K0 Q s a w G hF hrf _ ha h hN; exact wpIn_skip ⟨.normal, s, G, rfl, ha, h, hN⟩
  | region id ops draw =>
    intro rf F n w0 K0 Q s a w G hF hrf hok ha h hN
    simp only [codeOk, Bool.and_eq_true] at hok
    obtain ⟨hok, hnd⟩ := hok
    obtain ⟨ops⟩ := ops
    cases draw with
    | true =>
    obtain ⟨kw, hck, ha⟩ := ha
    refine wpIn_region_any hmo (any_in hF post_out hnd _ _ _ _ ?_)
    refine any_sound (G := G) (n0 := s.nx) hck hok ops.length _ (idxFrom 0 ops) s a w.drew (by simp [idx_len]) (by simp) ?_ (idx_pw _ _) ?_ rfl (h.drew.us_mono fun g hg => .inl hg) hN ha ?_
    · intro i o
      have := idx_mem ops 0 i o
      rw [Nat.zero_add] at this
      rw [this]
      constructor
      · intro h1
        refine ⟨h1, ?_⟩
        have hl : i < ops.length := by
          rcases Nat.lt_or_ge i ops.length with h | h
          · exact h
          · rw [List.getElem?_eq_none h] at h1; cases h1
        simp [Array.getD, hl]
      · exact fun h1 => h1.1
    · intro j o hj hl
      exfalso
      have hl2 : j < ops.length := by
        rcases Nat.lt_or_ge j ops.length with h | h
        · exact h
        · rw [List.getElem?_eq_none h] at hj; cases hj
      simp [Array.getD, hl2] at hl
    · intro s' G' a' w' k1 k2 k3 k4
      refine ⟨.normal, s'.bump ops.length, G', rfl, by simpa using k1, ?_, k3⟩
      have k5 : Real P w0 K0 G' (fun g => g < s'.nx + ops.length) s' a' w' := by rw [k4]; exact k2
      exact ⟨k5.below, k5.kok, k5.slots, k5.ents, k5.dist, k5.fresh, k5.defers, k5.rows, k5.offs, k5.kle, k5.kold, k5.oth, k5.krw, k5.dpl, k5.dp0, k5.kro, k5.gle⟩
    | false =>
    refine wpIn_region_lit (list_in hF post_out _ _ _ hnd (aRun_sound ops 0 s a w G hok (by simpa using h) hN ha ?_))
    intro s' G' a' w' k1 k2 k3 k4
    refine ⟨.normal, s'.bump ops.length, G', rfl, by simpa using k1, ?_, k3⟩
    have k5 : Real P w0 K0 G' (fun g => g < s'.nx + ops.length) s' a' w' := by rw [k4]; exact k2.us_mono fun g hg => by omega
    exact ⟨k5.below, k5.kok, k5.slots, k5.ents, k5.dist, k5.fresh, k5.defers, k5.rows, k5.offs, k5.kle, k5.kold, k5.oth, k5.krw, k5.dpl, k5.dp0, k5.kro, k5.gle⟩
  | seq x y ihx ihy =>
    intro rf F n w0 K0 Q s a w G hF hrf hok ha h hN
    simp only [codeOk, Bool.and_eq_true] at hok
    refine wpIn_seq (wpIn_mono (ihx rf F n w0 K0 _ s a w G hF hrf hok.1 ha h hN) ?_)
    rintro e a' w' ⟨e', s', G', rfl, k1, k2, k3⟩
    cases e' with
    | normal => exact ihy rf F n w0 K0 Q s' a' w' G' hF hrf hok.2 k1 k2 k3
    | exit id => exact ⟨.exit id, s', G', rfl, k1, k2, k3⟩
    | ret => exact ⟨.ret, s', G', rfl, k1, k2, k3⟩
  | cond c x y ihx ihy =>
    intro rf F n w0 K0 Q s a w G hF hrf hok ha h hN
    simp only [codeOk, Bool.and_eq_true] at hok
    simp only [aWp] at ha
    split at ha
    · rename_i t ht
      have hc := (h.ev c).av
      rw [ht] at hc
      refine wpIn_cond_split hc.bool_inv (fun e => ?_) (fun e => ?_)
      · exact ihx rf F n w0 K0 Q s a w G hF hrf hok.1 (ha.1 e) h hN
      · exact ihy rf F n w0 K0 Q s a w G hF hrf hok.2 (ha.2 e) h hN
    · exact ha.elim
  | block id c ih =>
    intro rf F n w0 K0 Q s a w G hF hrf hok ha h hN
    refine wpIn_block (wpIn_mono (ih rf F n w0 K0 _ s a w G hF hrf hok ha h hN) ?_)
    rintro e a' w' ⟨e', s', G', rfl, k1, k2, k3⟩
    cases e' with
    | normal => exact ⟨.normal, s', G', rfl, k1, k2, k3⟩
    | exit id' =>
      show if id' = id then _ else _
      have k1' : if id' = id then Q .normal s' else Q (.exit id') s' := k1
      split at k1'
      · rename_i e; rw [if_pos e]; exact ⟨.normal, s', G', rfl, k1', k2, k3⟩
      · rename_i e; rw [if_neg e]; exact ⟨.exit id', s', G', rfl, k1', k2, k3⟩
    | ret => exact ⟨.ret, s', G', rfl, k1, k2, k3⟩
  | loop c ih =>
    intro rf F n w0 K0 Q s a w G hF hrf hok ha h hN
    obtain ⟨I, m, hI, hround⟩ := ha
    refine wpIn_loop_ghost (fun n a w => ∃ s G, I n s ∧ Real P w0 K0 G (fun g => g < s.nx) s a w ∧ a.tmps.size = N) m ⟨s, G, hI, h, hN⟩ ?_
    rintro m a w ⟨s, G, k1, k2, k3⟩
    refine wpIn_mono (ih rf F n w0 K0 _ s a w G hF hrf hok (hround m s k1) k2 k3) ?_
    rintro e a' w' ⟨e', s', G', rfl, q1, q2, q3⟩
    cases e' with
    | normal =>
      obtain ⟨m, hm, hIm⟩ := q1
      exact ⟨m, hm, s', G', hIm, q2, q3⟩
    | exit id => exact ⟨.exit id, s', G', rfl, q1, q2, q3⟩
    | ret => exact ⟨.ret, s', G', rfl, q1, q2, q3⟩
  | exit id => intro rf F n w0 K0 Q s a w G hF hrf _ ha h hN; exact wpIn_exit ⟨.exit id, s, G, rfl, ha, h, hN⟩
  | ret => intro rf F n w0 K0 Q s a w G hF hrf _ ha h hN; exact wpIn_ret ⟨.ret, s, G, rfl, ha, h, hN⟩
  | rangeFunc g ps asg body iha ih =>
    intro rf F n w0 K0 Q s a w G hF hrf hok ha h hN
    simp only [codeOk, Bool.and_eq_true] at hok
    obtain ⟨⟨⟨hr, hps⟩, hasg⟩, hbok⟩ := hok
    have hFw := hrf hr
    subst hFw
    refine wpIn_n (n := 2) .wide ?_
    obtain ⟨gf, caps, els, I, l, hg, ⟨hcf, hit⟩, hlen, hl, hI0, hround, hend⟩ := ha
    rw [hl] at hasg
    have hlN : ∀ q ∈ l, q.1 < N := fun q hq => by have := List.all_eq_true.1 hasg q hq; simpa using this
    have hpN : ∀ p ∈ ps.toList, p < N := fun p hp => by have := List.all_eq_true.1 hps p hp; simpa using this
    have hge : ∃ vs, a.eval g = .func (.func gf) #[] vs ∧ ArgsR G.K caps vs := by
      have hc := h.ev g
      rw [hg] at hc
      generalize a.eval g = v at hc
      cases hc with
      | k _ _ hk => cases hk with | fn f caps vs hl h => exact ⟨vs, rfl, hl, h⟩
    obtain ⟨vs, hge, hcaps⟩ := hge
    obtain ⟨vals, hvals, hseq⟩ := hit G.K w vs h.kok hcaps
    have hvs : ∀ i : Fin els.length, (vals i.val).size = ps.size := fun i => by
      have := (hvals i.val els[i.val] (by simp)).1
      rw [this]; exact hlen _ (List.getElem_mem _)
    -- between two rounds
    let el : Fin els.length → List AV := fun i => els[i.val]
    let J : List (Fin els.length) → World → Prop := fun pre W => ∃ (s' : St) (G' : Gh), I (pre.map el) s' ∧ (G.lo G' ∧ G'.oth = G.oth) ∧ Real P w0 K0 G' (fun g => g < s'.nx) ⟨s.fr, s'.tb, s'.nx, s.md⟩ a W
    let Jx : Code → List (Fin els.length) → World → Prop := fun c pre W => ∃ (e : AEx) (s' : St) (G' : Gh), c = (match e with | AEx.exit id => Code.exit id | _ => Code.ret) ∧ e ≠ .normal ∧ Q e ⟨s.fr, s'.tb, s'.nx, s.md⟩ ∧ (G.lo G' ∧ G'.oth = G.oth) ∧ Real P w0 K0 G' (fun g => g < s'.nx) ⟨s.fr, s'.tb, s'.nx, s.md⟩ a W
    have stay : ∀ (W W' : World) (row : Option Nat) (s' : St) (G' : Gh), (G.lo G' ∧ G'.oth = G.oth) → Real P w0 K0 G' (fun g => g < s'.nx) ⟨s.fr, s'.tb, s'.nx, s.md⟩ a W → W.grownBy W' row → (∀ r, row = some r → w.heap.size ≤ r ∧ ∃ o : Obj, W.heap[r]? = some o ∧ o.isCells = false) →
        Real P w0 K0 G' (fun g => g < s'.nx) ⟨s.fr, s'.tb, s'.nx, s.md⟩ a W' := by
      intro W W' row s' G' hle hR hgr hrow
      have hcell : ∀ (b : Nat) (o : Obj), W.heap[b]? = some o → o.isCells = true → W'.heap[b]? = W.heap[b]? := fun b o hb ho =>
        hgr.block b (Array.getElem?_eq_some_iff.1 hb).1 (fun e => by
          obtain ⟨_, o', h1, h2⟩ := hrow b e.symm
          rw [hb] at h1; injection h1 with h1; subst h1; rw [ho] at h2; cases h2)
      have hkc : ∀ b, G'.K.hw b ≠ 0 → ∃ o : Obj, W.heap[b]? = some o ∧ o.isCells = true := fun b hb => (hR.kok b 0 (by omega)).1
      have hsz := h.size
      refine ⟨hR.below.grown hgr (fun k hk hp => ?_), hR.kok.below fun b hb => ?_, hR.slots, fun d g e he => (hR.ents d g e he).carry (.refl _) fun b hb => ⟨?_, rfl⟩, hR.dist, hR.fresh, hR.defers, hR.rows, hR.offs, hR.kle, hR.kold, fun b o ho => ?_, hR.krw, hR.dpl, hR.dp0, hR.kro, hR.gle⟩
      · have := (hrow k hk).1
        have := w0.lt k hp
        omega
      · obtain ⟨o, h1, h2⟩ := hkc b hb
        exact hcell b o h1 h2
      · obtain ⟨o, h1, h2⟩ : ∃ o : Obj, W.heap[b]? = some o ∧ o.isCells = true := by
          have hE := hR.ents d g e he
          cases e with
          | obj cs =>
            obtain ⟨b', p, arr, ty, k1, k2, k3, _⟩ := hE
            simp [entBlk, k1] at hb; subst hb
            exact ⟨_, k3, rfl⟩
          | fz cs => simp [entBlk] at hb
          | tag =>
            obtain ⟨r, k1, k2, _⟩ := hE
            simp [entBlk, k1] at hb
            rcases k2.2 with ⟨q, _⟩ | ⟨g', cap, cur, q1, _, q3, _⟩
            · rw [q] at hb; cases hb
            · rw [q1] at hb; injection hb with hb; simp only at hb; subst hb; exact ⟨_, q3, rfl⟩
        exact hcell b o h1 h2
      · have h1 := hR.oth b o ho
        refine ⟨?_, h1.2⟩
        rw [hle.2] at ho
        have hb := (Array.getElem?_eq_some_iff.1 (h.oth b o ho).1).1
        exact (hgr.block b (Array.getElem?_eq_some_iff.1 h1.1).1 (fun e => by have := (hrow b e.symm).1; omega)).trans h1.1
    refine wpIn_rangeFunc_ownF (F := Fence.wide) (n := 2) rfl (by omega) hge trivial hcf (hseq 1) (hKt := fun h k q => k (h q)) (hKb := fun W l o o' _ hl ho _ hk => hk.below fun b hb => ?_) (Below.refl _ w) hvs J Jx
      (fun pre W W' row hs hgr hrow => ?_) (fun c pre W W' row hs hgr hrow => ?_) ⟨s, G, hI0, ⟨.refl G, rfl⟩, h⟩ (fun i => { tmps := runT ((ps.zip (vals i.val)).foldl (fun t (p, v) => t.setIfInBounds p v) a.tmps) l, defers := [] }) ?_ ?_ ?_ ?_
    · obtain ⟨o2, h1, h2⟩ := (hk b 0 (by omega)).1
      exact World.putObj_heap_other (fun e => by subst e; rw [hl] at h1; injection h1 with h1; subst h1; rw [ho] at h2; cases h2)
    · obtain ⟨s', G', q1, q2, q3⟩ := hs
      exact ⟨s', G', q1, q2, stay W W' row s' G' q2 q3 hgr hrow⟩
    · obtain ⟨e, s', G', q0, q1, q2, q3, q4⟩ := hs
      exact ⟨e, s', G', q0, q1, q2, q3, stay W W' row s' G' q3 q4 hgr hrow⟩
    · intro l' i W K hk
      exact asgC_wp (.rnd l') hl hk
    · rintro l' pre i W ⟨s', G', q1, q2, q3⟩ hlt
      have hsl0 : SlR G' s.fr a.tmps := q3.slots
      have hsz0 : a.tmps.size = N := hN
      have hv := hvals i.val els[i.val] (by simp)
      have e1 : (ps.zip (vals i.val)).foldl (fun t (p, v) => t.setIfInBounds p v) a.tmps = (ps.toList.zip (vals i.val).toList).foldl (fun t (p, v) => t.setIfInBounds p v) a.tmps := by
        rw [← Array.foldl_toList, Array.toList_zip]
      have hsl1 : SlR G' (runAs (putPs s.fr ps.toList els[i.val]) l) (runT ((ps.zip (vals i.val)).foldl (fun t (p, v) => t.setIfInBounds p v) a.tmps) l) := by
        rw [e1]
        refine runAs_R l _ _ (putPs_R ps.toList els[i.val] (vals i.val).toList _ _ hsl0 (fun p hp => by rw [hsz0]; exact hpN p hp) (by simpa using hv.1.symm) (fun j x v h1 h2 => (hv.2 j x v h1 (by simpa using h2)).mono q2.1.K)) (fun q hq => by rw [foldl_size, hsz0]; exact hlN q hq)
      have hR := q3.frame (B' := w0.at_ W q3.below) rfl (Base.Kp.refl (w0.at_ W q3.below)) (nonCells W) (fun b o ho => nonCells_iff.1 ho) (a' := { tmps := runT ((ps.zip (vals i.val)).foldl (fun t (p, v) => t.setIfInBounds p v) a.tmps) l, defers := [] }) (Mks.nil _ _) hsl1
      have hmem : ∀ y ∈ pre.map el, y ∈ els := fun y hy => by
        obtain ⟨j, _, rfl⟩ := List.mem_map.1 hy
        exact List.getElem_mem _
      have hbody := hround (pre.map el) els[i.val] s' q1 (by simpa using hlt) hmem (List.getElem_mem _)
      refine wpIn_mono (ih false (Fence.wide.inRound l') _ (w0.at_ W q3.below) _ _ _ _ W (G'.wo (nonCells W)) (.rnd l') (fun h => by cases h) hbok hbody hR (by rw [runT_size, e1, foldl_size]; exact hN)) ?_
      rintro e a3 W3 ⟨e', s3, G3, rfl, k1, k2, k3⟩
      have hg3 : (G'.wo (nonCells W)).lo G3 := k2.gle
      have hko : KeepsOthers W W3 := ⟨k2.below.size, fun b o hb ho => (k2.oth b o (hg3.oth b o (nonCells_iff.2 ⟨hb, ho⟩))).1⟩
      have hkk : KOk G.K W → KOk G.K W3 := fun hk b i hi => by
        have hw := (q2.1.K.trans hg3.K).hw b
        have hv1 := (q2.1.K.trans hg3.K).val b i hi
        rw [← hv1]; exact k2.kok b i (by omega)
      have hR3 : Real P w0 K0 (G3.wo G'.oth) (fun g => g < s3.nx) ⟨s.fr, s3.tb, s3.nx, s3.md⟩ a W3 := by
        refine k2.back (w0 := w0) (K0 := K0) rfl (q3.below.from k2.below) rfl (G1 := G') q3.gle (fun b o ho => ?_) (fun x y hxy => ?_) ?_ q3.defers hsl0
        · exact hg3.oth b o (nonCells_iff.2 ⟨(q3.oth b o ho).1, (q3.oth b o ho).2⟩)
        · have h1 : SRep (G'.wo (nonCells W)) x y := hxy.wo
          exact (h1.lo hg3).wo
        · exact ⟨hg3.K, hg3.at_, hg3.row, fun b o ho => ho⟩
      have hlo3 : G.lo (G3.wo G'.oth) ∧ (G3.wo G'.oth).oth = G.oth := ⟨⟨q2.1.K.trans hg3.K, fun d g x e => hg3.at_ d g x (q2.1.at_ d g x e), fun d g x e => hg3.row d g x (q2.1.row d g x e), fun b o e => by show G'.oth b = some o; rw [q2.2]; exact e⟩, q2.2⟩
      cases e' with
      | normal => rw [k1.1] at hR3; exact ⟨hko, hkk, s3, _, by have := k1.2; rw [List.map_append]; exact this, hlo3, hR3⟩
      | exit id => rw [k1.1] at hR3; exact ⟨hko, .exit id, s3, _, rfl, (fun h => by cases h), k1.2, hlo3, hR3⟩
      | ret => rw [k1.1] at hR3; exact ⟨hko, .ret, s3, _, rfl, (fun h => by cases h), k1.2, hlo3, hR3⟩
    · rintro D xs W hD hS ⟨s', G', q1, q2, q3⟩ hdef
      have hels : xs.map el = els := by
        apply List.ext_getElem?
        intro i
        have h1 := congrArg List.length hS
        simp only [List.length_map, List.length_range] at h1
        by_cases hi : i < els.length
        · have h2 := congrArg (fun q : List Nat => q[i]?) hS
          simp only [List.getElem?_map] at h2
          rw [List.getElem?_range hi] at h2
          have hix : i < xs.length := by omega
          rw [List.getElem?_map, List.getElem?_eq_getElem hix] at *
          simp only [Option.map_some, Option.some.injEq] at h2
          simp [el, h2, hi]
        · rw [List.getElem?_eq_none (by simp; omega), List.getElem?_eq_none (by omega)]
      rw [hels] at q1
      exact ⟨.normal, _, _, rfl, hend s' q1, q3.mark D (fun hc => by have := w0.lt D hc; have := h.size; omega) (fun o ho => by rw [q2.2] at ho; have := (Array.getElem?_eq_some_iff.1 (h.oth D o ho).1).1; omega) hdef, hN⟩
    · rintro D c pre W hD hS ⟨e, s', G', rfl, q0, q1, q2, q3⟩ hdef
      have hR := q3.mark D (fun hc => by have := w0.lt D hc; have := h.size; omega) (fun o ho => by rw [q2.2] at ho; have := (Array.getElem?_eq_some_iff.1 (h.oth D o ho).1).1; omega) hdef
      cases e with
      | normal => exact absurd rfl q0
      | exit id => exact wpIn_exit ⟨.exit id, _, _, rfl, q1, hR, hN⟩
      | ret => exact wpIn_ret ⟨.ret, _, _, rfl, q1, hR, hN⟩
  | scope => intro rf F n w0 K0 Q s a w G hF hrf hok; cases hok
  | label => intro rf F n w0 K0 Q s a w G hF hrf hok; cases hok
  | goto => intro rf F n w0 K0 Q s a w G hF hrf hok; cases hok
  | refuse => intro rf F n w0 K0 Q s a w G hF hrf hok; cases hok
end

end Go.Proofs.Ytikganlbnhapcaa

namespace Go.Proofs.Ytikganlbnhapcaa
open Go.RowKit
set_option linter.unusedVariables false
set_option linter.unusedSimpArgs false

def initSt (args : List AV) (md : Md) : St := ⟨fun t => .k (args.getD t .any), fun _ => none, 0, md⟩
/-- the results, as plain abstract values -/
def aOuts (P : Program) (s : St) : List ResultVar → List TypeId → Option (List AV)
  | [], _ => some []
  | .tmp t :: rs, ty :: tys => match aArg P s ty (s.fr t), aOuts P s rs tys with
    | some x, some xs => some (x :: xs)
    | _, _ => none
  | .cell p u :: rs, _ :: tys => match aLoad P s u (s.fr p), aOuts P s rs tys with
    | some y, some xs => match y with
      | .k x => some (x :: xs)
      | _ => none
    | _, _ => none
  | _ :: _, [] => none
def oneOf : List AV → AV
  | [x] => x
  | xs => .tup xs
/-- what may be said less -/
def Wk (x y : AV) : Prop := ∀ (K : Kd) (v : Value), KRep K x v → KRep K y v
theorem Wk.of_eq {x y : AV} (h : y = x) : Wk x y := by subst h; exact fun _ _ h => h
def aEndK (P : Program) (rs : List ResultVar) (tys : List TypeId) (s : St) (r : AV) : Prop :=
  match aOuts P s rs tys with
  | some xs => Wk (oneOf xs) r
  | none => False
def AEx.fin : AEx → Bool
  | .exit _ => false
  | _ => true
section
variable {P : Program} {w0 : Base} {w w' : World} {K0 : Anc} {G : Gh} {us : Nat → Prop} {s : St} {a : Act}
/-- a depth more -/
def Kd.up (K : Kd) : Kd := ⟨K.val, K.hw, K.rw, K.dp + 1, fun δ d g h => K.fr δ d g (by omega)⟩
theorem Kd.up_le (K : Kd) : K.le K.up := ⟨fun _ => Nat.le_refl _, fun _ _ _ => rfl, fun _ _ _ _ h => h, Nat.le_succ _⟩
theorem slots_init {K : Kd} {args : List AV} {vs : Array Value} (ha : ArgsR K args vs) (G : Gh) (hG : K.le G.K) (n t : Nat) : SRep G (.k (args.getD t .any)) ((vs ++ Array.replicate (n - vs.size) undef).getD t undef) := by
  by_cases ht : t < args.length
  · refine .k _ _ ((ha.2 t _ _ (by simp [List.getD, ht]) ?_).mono hG)
    have h1 := ha.1
    have ht2 : t < vs.size := by omega
    rw [Array.getD_eq_getD_getElem?, Array.getElem?_append_left ht2]
    simp [ht2]
  · rw [List.getD_eq_getElem?_getD, List.getElem?_eq_none (by omega)]
    exact .k _ _ (.any _)
theorem init_real {K : Kd} {args : List AV} {vs : Array Value} {os : Nat → Bool} {nest : Bool} (hk : KOk K w) (ha : ArgsR K args vs) (n : Nat) :
    Real P (Base.all w) ⟨K, ⟨K.up, fun _ _ => none, fun _ _ => none, fun _ => none⟩⟩ ⟨K.up, fun _ _ => none, fun _ _ => none, fun _ => none⟩ (fun g => g < (initSt args ⟨os, K.dp, nest⟩).nx) (initSt args ⟨os, K.dp, nest⟩) { tmps := vs ++ Array.replicate (n - vs.size) undef, defers := [] } w :=
  ⟨Base.Kp.refl _, hk, fun t => slots_init ha _ K.up_le n t, fun d g e he => (by simp [initSt] at he), fun d1 g1 e1 d2 g2 e2 b he => (by simp [initSt] at he), fun d g _ => ⟨rfl, rfl⟩, Mks.nil _ _, fun d g r hr => (by simp at hr), fun d g b o hb => (by simp at hb), K.up_le, fun _ _ => rfl, fun b o ho => (by cases ho),
    fun d g => K.fr _ d g (Nat.le_refl _), Nat.lt_succ_self _, Nat.le_refl _, fun _ _ _ _ => rfl, .refl _⟩
def resOne (tmps : Array Value) : ResultVar → Sem Value
  | .tmp t => pure (tmps.getD t undef)
  | .cell p t => do loadVar t (← asAddr (tmps.getD p undef))
theorem outs_sound (h : Real P w0 K0 G us s a w) : ∀ (rs : List ResultVar) (tys : List TypeId) (xs : List AV), aOuts P s rs tys = some xs →
    ∃ vs : List Value, (rs.mapM (resOne a.tmps)).run P w = .ok vs w ∧ vs.length = xs.length ∧ ∀ (i : Nat) (x : AV) (v : Value), xs[i]? = some x → vs[i]? = some v → KRep (lendK s G w) x v
  | [], _, xs, ha => by simp only [aOuts, Option.some.injEq] at ha; subst ha; exact ⟨[], rfl, rfl, fun i x v hx => by simp at hx⟩
  | .tmp t :: rs, [], xs, ha => by simp [aOuts] at ha
  | .cell p u :: rs, [], xs, ha => by simp [aOuts] at ha
  | .tmp t :: rs, ty :: tys, xs, ha => by
    simp only [aOuts] at ha
    split at ha
    · rename_i x xs' h1 h2
      injection ha with ha; subst ha
      obtain ⟨vs, k1, k2, k3⟩ := outs_sound h rs tys xs' h2
      have hx := aArg_lend h (h.slots t) h1
      refine ⟨a.tmps.getD t undef :: vs, ?_, by simp [k2], fun i x v hx' hv => ?_⟩
      · rw [List.mapM_cons]; simp only [resOne, Sem.run_bind, Sem.run_pure, Result.andThen_ok, k1]
      · cases i with
        | zero => simp at hx' hv; subst hx'; subst hv; simpa using hx
        | succ i => exact k3 i x v (by simpa using hx') (by simpa using hv)
    · cases ha
  | .cell p u :: rs, ty :: tys, xs, ha => by
    simp only [aOuts] at ha
    split at ha
    · rename_i y xs' h1 h2
      split at ha
      · rename_i x
        injection ha with ha; subst ha
        obtain ⟨vs, k1, k2, k3⟩ := outs_sound h rs tys xs' h2
        obtain ⟨r, hr, hs⟩ := aLoad_sound h (h.slots p) h1
        have hptr : ∃ ad, a.tmps.getD p undef = .pointer (some ad) := by
          generalize a.tmps.getD p undef = q at hr
          unfold Instr.loadAt Instr.sureAddr at hr
          split at hr
          · exact ⟨_, rfl⟩
          · simp [stuck, Sem.run] at hr
        obtain ⟨ad, hp⟩ := hptr
        rw [hp] at hr
        have hr2 : (loadVar u ad).run P w = .ok r w := by simpa [Instr.loadAt, Instr.sureAddr] using hr
        refine ⟨r :: vs, ?_, by simp [k2], fun i x' v hx' hv => ?_⟩
        · rw [List.mapM_cons]; simp only [resOne, hp, asAddr, Sem.run_bind, Sem.run_pure, Result.andThen_ok, k1, hr2]
        · cases i with
          | zero =>
            simp at hx' hv; subst hx'; subst hv
            cases hs with | k _ _ hk => exact hk.mono (lend_le h)
          | succ i => exact k3 i x' v (by simpa using hx') (by simpa using hv)
      · cases ha
    · cases ha
theorem lend_below (h : Real P w0 K0 G us s a w) {b : Nat} (hb : w0.pr b) : (lendK s G w).hw b = G.K.hw b := by
  refine lend_hw0 fun hc => ?_
  obtain ⟨d, g, cs, h1, h2⟩ := hc
  exact ((h.ents _ _ _ h1).base h2).1 hb
theorem results_run {fn : Func} {tmps : Array Value} {vs : List Value} (h : (fn.results.toList.mapM (resOne tmps)).run P w = .ok vs w) : (results fn tmps).run P w = .ok (if h : vs.toArray.size = 1 then vs.toArray[0] else .tuple vs.toArray) w := by
  have e : results fn tmps = (do
      let vs ← fn.results.mapM (resOne tmps)
      pure (if h : vs.size = 1 then vs[0] else .tuple vs) : Sem Value) := by
    unfold results
    congr 1
  rw [e, Array.mapM_eq_mapM_toList]
  simp [h]
theorem finish (h : Real P w0 K0 G us s a w) {fn : Func} {r : AV} (hr : aEndK P fn.results.toList fn.resultTypes.toList s r) :
    ∃ v, (results fn a.tmps).run P w = .ok v w ∧ KRep (lendK s G w) r v := by
  unfold aEndK at hr
  split at hr
  · rename_i xs hxs
    obtain ⟨vs, q1, q2, q3⟩ := outs_sound h _ _ xs hxs
    refine ⟨_, results_run q1, hr _ _ ?_⟩
    unfold oneOf
    split
    · rename_i x
      have hl : vs.toArray.size = 1 := by simpa using q2
      rw [dif_pos hl]
      have h0 : 0 < vs.length := by simp at q2; omega
      exact q3 0 x _ rfl (by simp [h0])
    · rename_i hne
      have hl : ¬ vs.toArray.size = 1 := fun hc => by
        have : xs.length = 1 := by rw [← q2]; simpa using hc
        obtain ⟨x, rfl⟩ := List.length_eq_one_iff.1 this
        exact hne x rfl
      rw [dif_neg hl]
      exact .tup _ _ (by simp [q2]) fun i x v hx hv => q3 i x v hx (by simpa using hv)
  · exact hr.elim
/-- a mark is taken off -/
theorem Real.unmark {D : Nat} {ds : List Deferred} (h : Real P w0 K0 G us s a w) (hd : a.defers = { target := .collected D, args := #[] } :: ds) :
    (Instr.takeDeferred D).run P w = .ok [] (w.putObj D (.deferred none)) ∧
      Real P w0 ⟨K0.K, G.wo fun b => if b = D then none else G.oth b⟩ (G.wo fun b => if b = D then none else G.oth b) us s { tmps := a.tmps, defers := ds } (w.putObj D (.deferred none)) := by
  obtain ⟨l, h1, h2, h3⟩ := h.defers
  rw [hd] at h2
  cases l with
  | nil => cases h2
  | cons D' l =>
    simp only [List.map_cons, List.cons.injEq] at h2
    obtain ⟨e1, e2⟩ := h2
    have e3 : D = D' := by injection e1 with e1 _; injection e1
    subst e3
    obtain ⟨q1, q2⟩ := h3 D (by simp)
    obtain ⟨q3, q4⟩ := h.oth D _ q2
    refine ⟨run_takeDeferred q3, ?_⟩
    have hoth : ∀ b, b ≠ D → (w.putObj D (.deferred none)).heap[b]? = w.heap[b]? := fun b hb => World.putObj_heap_other hb
    have hcell : ∀ (b : Nat) (o : Obj), w.heap[b]? = some o → o.isCells = true → b ≠ D := fun b o hb ho e => by
      subst e; rw [q3] at hb; injection hb with hb; subst hb; cases ho
    have hblk : ∀ d g e, s.tb d = some (g, e) → ∀ b, entBlk G d g e = some b → b ≠ D := fun d g e he b hb => by
      have hE := h.ents d g e he
      cases e with
      | obj cs =>
        obtain ⟨b', p, arr, ty, k1, k2, k3, _⟩ := hE
        simp [entBlk, k1] at hb; subst hb
        exact hcell _ _ k3 rfl
      | fz cs => simp [entBlk] at hb
      | tag =>
        obtain ⟨r, k1, k2, _⟩ := hE
        simp [entBlk, k1] at hb
        rcases k2.2 with ⟨q, _⟩ | ⟨g', cap, cur, q1, _, q3, _⟩
        · rw [q] at hb; cases hb
        · rw [q1] at hb; injection hb with hb; simp only at hb; subst hb; exact hcell _ _ q3 rfl
    refine ⟨⟨h.below.os, h.below.tape, h.below.output, by have := h.below.size; simpa [World.putObj] using this, fun b hb => (hoth b (fun e => q1 (e ▸ hb))).trans (h.below.block b hb)⟩, h.kok.below fun b hb => ?_, fun t => (h.slots t).wo,
      fun d g e he => ((h.ents d g e he).carry (.refl G) fun b hb => ⟨hoth b (hblk d g e he b hb), rfl⟩).wo w0 rfl, fun d1 g1 e1 d2 g2 e2 b h1 h2 k1 k2 => ?_, h.fresh, ⟨l, (List.nodup_cons.1 h1).2, e2, fun D' hD' => ?_⟩, h.rows, h.offs, h.kle, h.kold, fun b o ho => ?_, h.krw, h.dpl, h.dp0, h.kro, .refl _⟩
    · obtain ⟨o, k1, k2⟩ := (h.kok b 0 (by omega)).1
      exact hoth b (hcell b o k1 k2)
    · rw [entBlk_wo] at k1 k2
      exact h.dist d1 g1 e1 d2 g2 e2 b h1 h2 k1 k2
    · have hne : D' ≠ D := fun e => (List.nodup_cons.1 h1).1 (e ▸ hD')
      refine ⟨(h3 D' (by simp [hD'])).1, ?_⟩
      show (if D' = D then none else G.oth D') = _
      rw [if_neg hne]; exact (h3 D' (by simp [hD'])).2
    · have ho' : (if b = D then none else G.oth b) = some o := ho
      split at ho'
      · cases ho'
      · rename_i hne; rw [hoth b hne]; exact h.oth b o ho'
/-- a body's end: the marks are taken off one by one -/
theorem leaves {fn : Func} {R : Ending → World → Prop} : ∀ (ds : List Deferred) (K0 : Anc) (G : Gh) (a : Act) (w : World), a.defers = ds → Real P w0 K0 G us s a w →
    (∀ (A : Anc) (G' : Gh) (a' : Act) (w' : World), A.K = K0.K → a'.tmps = a.tmps → a'.defers = [] → G'.K = G.K → G'.at_ = G.at_ → Real P w0 A G' us s a' w' → ∃ v, (results fn a.tmps).run P w' = .ok v w' ∧ R (.returned v) w') → LeavesInM Fence.wide 5 P fn a.tmps R ds .returning w
  | [], K0, G, a, w, hd, h, hR => hR K0 G a w rfl rfl hd rfl rfl h
  | d :: ds, K0, G, a, w, hd, h, hR => by
    obtain ⟨D, hD⟩ : ∃ D, d = { target := .collected D, args := #[] } := by
      obtain ⟨l, h1, h2, h3⟩ := h.defers
      rw [hd] at h2
      cases l with
      | nil => cases h2
      | cons D' l => simp only [List.map_cons, List.cons.injEq] at h2; exact ⟨D', h2.1⟩
    subst hD
    obtain ⟨q1, q2⟩ := h.unmark hd
    refine ⟨by simp, .inl ⟨D, _, rfl, q1, ?_⟩⟩
    exact leaves (fn := fn) (R := R) ds _ _ { tmps := a.tmps, defers := ds } _ rfl q2 fun A G' a' w' e1 e2 e3 e4 e5 hr => hR A G' a' w' e1 e2 e3 e4 e5 hr
/-- a body's walk, and what it leaves -/
theorem calls_av {f : FuncId} {fn : Func} {c : Code} {vs : Array Value} {R : Ending → World → Prop} (hmo : P.follows .mixedOrders = true) (hf : P.funcs[f]? = some fn) (hb : fn.body = some c) (hok : codeOk fn.ntmps true c = true) (Q : AEx → St → Prop) (hQ : ∀ e s, Q e s → e.fin = true)
    (h : aWp P c Q s) (hN : vs.size ≤ fn.ntmps) (hr : Real P w0 K0 G (fun g => g < s.nx) s { tmps := vs ++ Array.replicate (fn.ntmps - vs.size) undef, defers := [] } w)
    (hR : ∀ (e : AEx) (s' : St) (A : Anc) (G' : Gh) (a' : Act) (w' : World), Q e s' → A.K = K0.K → (∀ d g x, K0.G.at_ d g = some x → G'.at_ d g = some x) → Real P w0 A G' (fun g => g < s'.nx) s' a' w' → ∃ v, (results fn a'.tmps).run P w' = .ok v w' ∧ R (.returned v) w') : Calls P f vs w R := by
  refine callsIn_wide.1 (callsIn_of_wp_marks (n := 5) hf hb trivial (wpIn_mono (aWp_sound (N := fn.ntmps) hmo c true Fence.wide 5 w0 K0 Q s _ w G .wide (fun _ => rfl) hok h hr (by simp; omega)) ?_))
  rintro e a' w' ⟨e', s', G', rfl, k1, k2, k3⟩
  have hl := leaves (fn := fn) (R := R) a'.defers K0 G' a' w' rfl k2 fun A G2 a2 w2 q1 q2 _ q4 q5 q6 => by
    have := hR e' s' A G2 a2 w2 k1 q1 (fun d g x hx => by rw [q5]; exact k2.gle.at_ d g x hx) q6
    rw [q2] at this; exact this
  have := hQ _ _ k1
  cases e' with
  | normal => exact hl
  | ret => exact hl
  | exit id => cases this
theorem lend_rw : (lendK s G w).rw = G.K.rw := rfl
/-- a function's contract out of its walk: plain results -/
theorem spec_of' {f : FuncId} {fn : Func} {c : Code} {args : List AV} {r : AV} (os : Nat → Bool) (nest : Bool) (hmo : P.follows .mixedOrders = true) (hf : P.funcs[f]? = some fn) (hname : (fn.name == "runtime.NumGoroutine") = false) (hb : fn.body = some c) (hlen : args.length ≤ fn.ntmps) (hok : codeOk fn.ntmps true c = true)
    (h : ∀ δ, aWp P c (fun e s => e.fin = true ∧ aEndK P fn.results.toList fn.resultTypes.toList s r) (initSt args ⟨os, δ, nest⟩)) : Spec P f args (.k r) := by
  refine ⟨⟨fn, hf, hname, by rw [hb]; rfl⟩, fun K w vs hk ha => ?_⟩
  refine calls_av hmo hf hb hok _ (fun e s hq => hq.1) (h K.dp) (by rw [ha.1]; exact hlen) (init_real hk ha fn.ntmps) ?_
  rintro e s' A G' a' w' ⟨k1, k2⟩ hA _ k3
  obtain ⟨v, h1, h6⟩ := finish k3 k2
  have hkle : K.le G'.K := by have := k3.kle; rw [hA] at this; exact this
  refine ⟨v, h1, v, lendK s' G' w', rfl, k3.below.below, hkle.trans (lend_le k3), lend_ok k3, fun b hb => (lend_below k3 hb).trans (by have := k3.kold b hb; rw [hA] at this; exact this), fun δ hδ d g => ?_, h6⟩
  have := k3.kro δ (by rw [hA]; exact hδ) d g
  rw [hA] at this; exact this
theorem spec_of {f : FuncId} {fn : Func} {c : Code} {args : List AV} {r : AV} (os : Nat → Bool) (hmo : P.follows .mixedOrders = true) (hf : P.funcs[f]? = some fn) (hname : (fn.name == "runtime.NumGoroutine") = false) (hb : fn.body = some c) (hlen : args.length ≤ fn.ntmps) (hok : codeOk fn.ntmps true c = true)
    (h : ∀ δ, aWp P c (fun e s => e.fin = true ∧ aEndK P fn.results.toList fn.resultTypes.toList s r) (initSt args ⟨os, δ, false⟩)) : Spec P f args (.k r) := spec_of' os false hmo hf hname hb hlen hok h
theorem ownsRow_up {w : World} {B e size n : Nat} {v : Value} {xs : List Value} (h : w.ownsRow 0 e size v n xs) (hb : ∀ b, v.ownBlock = some b → B ≤ b) : w.ownsRow B e size v n xs := by
  obtain ⟨h1, h2⟩ := h
  refine ⟨h1, ?_⟩
  rcases h2 with h2 | ⟨g, cap, cur, e1, e2, e3⟩
  · exact .inl h2
  · exact .inr ⟨g, cap, cur, e1, hb g (by rw [e1]; rfl), e3⟩
/-- the result is a growing slice that nobody else has -/
def aEndO (rs : List ResultVar) (s : St) (n : Nat) (e : TypeId) (cells : List AV) : Prop :=
  ∃ t d g, rs = [.tmp t] ∧ s.fr t = .ow d g n e cells ∧ s.tb d = some (g, .tag) ∧ cells.all AV.sc = true
theorem spec_of_own {f : FuncId} {fn : Func} {c : Code} {args : List AV} {n : Nat} {e : TypeId} {cells : List AV} (os : Nat → Bool) (hmo : P.follows .mixedOrders = true) (hf : P.funcs[f]? = some fn) (hname : (fn.name == "runtime.NumGoroutine") = false) (hb : fn.body = some c) (hlen : args.length ≤ fn.ntmps) (hok : codeOk fn.ntmps true c = true)
    (h : ∀ δ, aWp P c (fun x s => x.fin = true ∧ aEndO fn.results.toList s n e cells) (initSt args ⟨os, δ, false⟩)) : Spec P f args (.own n e cells) := by
  refine ⟨⟨fn, hf, hname, by rw [hb]; rfl⟩, fun K w vs hk ha => ?_⟩
  refine calls_av hmo hf hb hok _ (fun e s hq => hq.1) (h K.dp) (by rw [ha.1]; exact hlen) (init_real hk ha fn.ntmps) ?_
  rintro x s' A G' a' w' ⟨k1, t, d, g, k2, k5, k6, k7⟩ hA _ k3
  have hkle : K.le G'.K := by have := k3.kle; rw [hA] at this; exact this
  have hkold : ∀ b, b < w.heap.size → G'.K.hw b = K.hw b := fun b hb => by have := k3.kold b hb; rw [hA] at this; exact this
  have hkro : ∀ δ, δ < K.dp → ∀ d g, G'.K.rw δ d g = K.rw δ d g := fun δ hδ d g => by
    have := k3.kro δ (by rw [hA]; exact hδ) d g
    rw [hA] at this; exact this
  have hs := k3.slots t
  rw [k5] at hs
  have hrun : (results fn a'.tmps).run P w' = .ok (a'.tmps.getD t undef) w' := by
    have := results_run (P := P) (w := w') (fn := fn) (tmps := a'.tmps) (vs := [a'.tmps.getD t undef]) (by rw [k2]; rfl)
    simpa using this
  refine ⟨_, hrun, ?_⟩
  generalize a'.tmps.getD t undef = v at hs
  cases hs with
  | ow d g n e cells r hr he hn hl hx hkk =>
    obtain ⟨r', hr', hown, hblk, hone⟩ := k3.ents _ _ _ k6
    rw [hr] at hr'
    injection hr' with hr'
    subst hr' he hn
    have hsz := k3.rows _ _ _ hr
    rw [hsz] at hown
    have hown := ownsRow_up (B := w.heap.size) hown (fun b hb => Nat.le_of_not_lt (hblk b hb).1)
    refine ⟨_, ⟨G'.K.val, fun b => if r.v.ownBlock = some b then 0 else G'.K.hw b, G'.K.rw, G'.K.dp, G'.K.fr⟩, rfl, k3.below.below, ?_, ?_, ?_, hkro, r.xs, hown, ?_, hone, hl, fun i x u hx' hu => (hx i x u hx' hu).of_sc (List.all_eq_true.1 k7 x (List.mem_of_getElem? hx'))⟩
    · refine ⟨fun b => ?_, fun b i hi => hkle.val b i hi, hkle.rw, hkle.dp⟩
      show K.hw b ≤ if r.v.ownBlock = some b then 0 else G'.K.hw b
      split
      · rename_i hb'
        have h1 := (World.ownsRow.lt hown b hb').1
        have := hk.hw0 (b := b) h1
        omega
      · exact hkle.hw b
    · intro b i hi
      have hi' : i < if r.v.ownBlock = some b then 0 else G'.K.hw b := hi
      split at hi'
      · omega
      · exact k3.kok b i hi'
    · intro b hb'
      show (if r.v.ownBlock = some b then 0 else G'.K.hw b) = K.hw b
      split
      · rename_i hb2
        have h1 := (World.ownsRow.lt hown b hb2).1
        omega
      · exact hkold b hb'
    · intro b hb'
      show (if r.v.ownBlock = some b then 0 else G'.K.hw b) = 0
      rw [if_pos hb']
/-- the result is a new object that nobody else has -/
def aEndN (rs : List ResultVar) (s : St) (cells : List AV) : Prop :=
  ∃ t d g, rs = [.tmp t] ∧ s.fr t = .ob d g 0 ∧ s.tb d = some (g, .obj cells)
theorem spec_of_new {f : FuncId} {fn : Func} {c : Code} {args : List AV} {cells : List AV} (os : Nat → Bool) (hmo : P.follows .mixedOrders = true) (hf : P.funcs[f]? = some fn) (hname : (fn.name == "runtime.NumGoroutine") = false) (hb : fn.body = some c) (hlen : args.length ≤ fn.ntmps) (hok : codeOk fn.ntmps true c = true)
    (h : ∀ δ, aWp P c (fun x s => x.fin = true ∧ aEndN fn.results.toList s cells) (initSt args ⟨os, δ, false⟩)) : Spec P f args (.new cells) := by
  refine ⟨⟨fn, hf, hname, by rw [hb]; rfl⟩, fun K w vs hk ha => ?_⟩
  refine calls_av hmo hf hb hok _ (fun e s hq => hq.1) (h K.dp) (by rw [ha.1]; exact hlen) (init_real hk ha fn.ntmps) ?_
  rintro x s' A G' a' w' ⟨k1, t, d, g, k2, k5, k6⟩ hA _ k3
  have hkle : K.le G'.K := by have := k3.kle; rw [hA] at this; exact this
  have hkold : ∀ b, b < w.heap.size → G'.K.hw b = K.hw b := fun b hb => by have := k3.kold b hb; rw [hA] at this; exact this
  have hkro : ∀ δ, δ < K.dp → ∀ d g, G'.K.rw δ d g = K.rw δ d g := fun δ hδ d g => by
    have := k3.kro δ (by rw [hA]; exact hδ) d g
    rw [hA] at this; exact this
  have hs := k3.slots t
  rw [k5] at hs
  have hrun : (results fn a'.tmps).run P w' = .ok (a'.tmps.getD t undef) w' := by
    have := results_run (P := P) (w := w') (fn := fn) (tmps := a'.tmps) (vs := [a'.tmps.getD t undef]) (by rw [k2]; rfl)
    simpa using this
  refine ⟨_, hrun, ?_⟩
  generalize a'.tmps.getD t undef = v at hs
  cases hs with
  | ob d g off b o hat =>
    obtain ⟨b', o', arr, ty, q1, q2, q3, q4, q5, q6, q7⟩ := k3.ents _ _ _ k6
    have ho := k3.offs _ _ _ _ q1
    subst ho
    rw [hat] at q1; injection q1 with q1; injection q1 with e1 e2; subst e1 e2
    simp only [Nat.zero_add] at q5 q6 q7
    exact ⟨_, G'.K, rfl, k3.below.below, hkle, k3.kok, hkold, hkro, b, arr, ty, rfl, Nat.le_of_not_lt q2, q3, q4, q5, q6, q7⟩
/-- the result is a slice of a new object that nobody else has -/
def aEndS (rs : List ResultVar) (s : St) (n : Nat) (cells : List AV) : Prop :=
  ∃ t d g cap, rs = [.tmp t] ∧ s.fr t = .os d g 0 n cap ∧ s.tb d = some (g, .obj cells)
theorem spec_of_news {f : FuncId} {fn : Func} {c : Code} {args : List AV} {n : Nat} {cells : List AV} (os : Nat → Bool) (hmo : P.follows .mixedOrders = true) (hf : P.funcs[f]? = some fn) (hname : (fn.name == "runtime.NumGoroutine") = false) (hb : fn.body = some c) (hlen : args.length ≤ fn.ntmps) (hok : codeOk fn.ntmps true c = true)
    (h : ∀ δ, aWp P c (fun x s => x.fin = true ∧ aEndS fn.results.toList s n cells) (initSt args ⟨os, δ, false⟩)) : Spec P f args (.news n cells) := by
  refine ⟨⟨fn, hf, hname, by rw [hb]; rfl⟩, fun K w vs hk ha => ?_⟩
  refine calls_av hmo hf hb hok _ (fun e s hq => hq.1) (h K.dp) (by rw [ha.1]; exact hlen) (init_real hk ha fn.ntmps) ?_
  rintro x s' A G' a' w' ⟨k1, t, d, g, cap, k2, k5, k6⟩ hA _ k3
  have hkle : K.le G'.K := by have := k3.kle; rw [hA] at this; exact this
  have hkold : ∀ b, b < w.heap.size → G'.K.hw b = K.hw b := fun b hb => by have := k3.kold b hb; rw [hA] at this; exact this
  have hkro : ∀ δ, δ < K.dp → ∀ d g, G'.K.rw δ d g = K.rw δ d g := fun δ hδ d g => by
    have := k3.kro δ (by rw [hA]; exact hδ) d g
    rw [hA] at this; exact this
  have hs := k3.slots t
  rw [k5] at hs
  have hrun : (results fn a'.tmps).run P w' = .ok (a'.tmps.getD t undef) w' := by
    have := results_run (P := P) (w := w') (fn := fn) (tmps := a'.tmps) (vs := [a'.tmps.getD t undef]) (by rw [k2]; rfl)
    simpa using this
  refine ⟨_, hrun, ?_⟩
  generalize a'.tmps.getD t undef = v at hs
  cases hs with
  | os d g off n cap b o c hat hn hc hm =>
    obtain ⟨b', o', arr, ty, q1, q2, q3, q4, q5, q6, q7⟩ := k3.ents _ _ _ k6
    have ho := k3.offs _ _ _ _ q1
    subst ho
    rw [hat] at q1; injection q1 with q1; injection q1 with e1 e2; subst e1 e2
    simp only [Nat.zero_add] at q5 q6 q7
    exact ⟨_, G'.K, rfl, k3.below.below, hkle, k3.kok, hkold, hkro, b, c, arr, ty, rfl, Nat.le_trans hn hc, hm, Nat.le_of_not_lt q2, q3, q4, q5, q6, q7⟩
/-! a walk that turns one object of the caller -/
def MA.sv (k : Nat) : MA → SV
  | .k x => .k x
  | .ob off => .ob k 0 off
  | .os off n cap => .os k 0 off n cap
  | .tg n e cells => .k (.sl false n cells)
def initM (args : List MA) (k : Nat) (cs : List AV) (md : Md) : St := ⟨fun t => (args.map (MA.sv k)).getD t (.k .any), upd (fun _ => none) k (some (0, .obj cs)), 1, md⟩
def WkL (xs ys : List AV) : Prop := ys.length = xs.length ∧ ∀ (i : Nat) (x y : AV), xs[i]? = some x → ys[i]? = some y → Wk x y
theorem WkL.of_eq {xs ys : List AV} (h : ys = xs) : WkL xs ys := by
  subst h
  refine ⟨rfl, fun i x y h1 h2 => Wk.of_eq ?_⟩
  rw [h1] at h2; injection h2 with h2; exact h2.symm
def aEndM (P : Program) (rs : List ResultVar) (tys : List TypeId) (k : Nat) (s : St) (cs' : List AV) (r : AV) : Prop := aEndK P rs tys s r ∧ ∃ cs2, s.tb k = some (0, .obj cs2) ∧ WkL cs2 cs'
def ghM (K : Kd) (k b : Nat) : Gh := ⟨K.up, fun d g => if d = k ∧ g = 0 then some (b, 0) else none, fun _ _ => none, fun _ => none⟩
theorem initM_real {K : Kd} {args : List MA} {vs : Array Value} {os : Nat → Bool} {nest : Bool} {b k : Nat} {cs : List AV} (hk : KOk K w) (ho : OkB K w b cs) (ha : MArgs P w K b args vs) (n : Nat) :
    Real P (Base.but w b) ⟨K, ghM K k b⟩ (ghM K k b) (fun g => g < (initM args k cs ⟨os, K.dp, nest⟩).nx) (initM args k cs ⟨os, K.dp, nest⟩) { tmps := vs ++ Array.replicate (n - vs.size) undef, defers := [] } w := by
  have hat : (ghM K k b).at_ k 0 = some (b, 0) := by simp [ghM]
  refine ⟨Base.Kp.refl _, hk, fun t => ?_, fun d g e he => ?_, fun d1 g1 e1 d2 g2 e2 b' h1 h2 _ _ => ?_, fun d g hu => ⟨?_, rfl⟩, Mks.nil _ _, fun d g r hr => (by simp [ghM] at hr), fun d g b' o hb => ?_, K.up_le, fun _ _ => rfl, fun b o ho => (by cases ho),
    fun d g => K.fr _ d g (Nat.le_refl _), Nat.lt_succ_self _, Nat.le_refl _, fun _ _ _ _ => rfl, .refl _⟩
  · by_cases ht : t < args.length
    · have h1 := ha.1
      have ht2 : t < vs.size := by omega
      have hm := ha.2 t args[t] vs[t] (by simp [ht]) (by simp [ht2])
      have e1 : (initM args k cs ⟨os, K.dp, nest⟩).fr t = MA.sv k args[t] := by
        show (args.map (MA.sv k)).getD t (.k .any) = _
        simp [List.getD, ht]
      have e2 : (vs ++ Array.replicate (n - vs.size) undef).getD t undef = vs[t] := by
        rw [Array.getD_eq_getD_getElem?, Array.getElem?_append_left ht2]
        simp [ht2]
      show SRep _ _ ((vs ++ Array.replicate (n - vs.size) undef).getD t undef)
      rw [e1, e2]
      generalize args[t] = x at hm
      generalize vs[t] = v at hm
      cases hm with
      | k x v hk2 => exact .k _ _ (hk2.mono K.up_le)
      | ob off => have := SRep.ob (G := ghM K k b) k 0 off b 0 hat; rwa [Nat.zero_add] at this
      | tg n e cells v xs _ _ _ _ _ hk2 => exact .k _ _ (hk2.mono K.up_le)
      | os off n cap c hn hc hm => have := SRep.os (G := ghM K k b) k 0 off n cap b 0 c hat hn hc hm; rwa [Nat.zero_add] at this
    · have e1 : (initM args k cs ⟨os, K.dp, nest⟩).fr t = .k .any := by
        show (args.map (MA.sv k)).getD t (.k .any) = _
        rw [List.getD_eq_getElem?_getD, List.getElem?_eq_none (by simp; omega)]; rfl
      rw [e1]
      exact .k _ _ (.any _)
  · have he' : upd (fun _ => none) k (some (0, Ent.obj cs)) d = some (g, e) := he
    by_cases hd : d = k
    · subst hd
      rw [upd_same] at he'
      injection he' with he'
      injection he' with q1 q2
      subst q1 q2
      obtain ⟨arr, ty, h1, h2, h3, h4, h5⟩ := ho
      exact ⟨b, 0, arr, ty, hat, fun hc => hc.2 rfl, h1, h2, by omega, fun i v hi hv => h4 i v hi (by rwa [Nat.zero_add] at hv), fun i x v hx hv => (h5 i x v hx (by rwa [Nat.zero_add] at hv)).mono K.up_le⟩
    · rw [upd_ne _ _ _ _ hd] at he'; cases he'
  · have key : ∀ d g e, (initM args k cs ⟨os, K.dp, nest⟩).tb d = some (g, e) → d = k := fun d g e he => by
      have he' : upd (fun _ => none) k (some (0, Ent.obj cs)) d = some (g, e) := he
      by_cases hd : d = k
      · exact hd
      · rw [upd_ne _ _ _ _ hd] at he'; cases he'
    rw [key _ _ _ h1, key _ _ _ h2]
  · show (if d = k ∧ g = 0 then some (b, 0) else none) = none
    rw [if_neg (fun hc => hu (by rw [hc.2]; exact Nat.zero_lt_one))]
  · have hb' : (if d = k ∧ g = 0 then some (b, 0) else none) = some (b', o) := hb
    split at hb'
    · injection hb' with hb'; injection hb' with _ q; exact q.symm
    · cases hb'
theorem mspec_of {f : FuncId} {fn : Func} {c : Code} {args : List MA} {cs cs' : List AV} {r : AV} (k : Nat) (os : Nat → Bool) (nest : Bool) (hmo : P.follows .mixedOrders = true) (hf : P.funcs[f]? = some fn) (hname : (fn.name == "runtime.NumGoroutine") = false) (hb : fn.body = some c) (hlen : args.length ≤ fn.ntmps) (hok : codeOk fn.ntmps true c = true) (hr : r.noal = true)
    (h : ∀ δ, aWp P c (fun e s => e.fin = true ∧ aEndM P fn.results.toList fn.resultTypes.toList k s cs' r) (initM args k cs ⟨os, δ, nest⟩)) : MSpec P f args cs (some cs') r := by
  refine ⟨⟨fn, hf, hname, by rw [hb]; rfl⟩, fun K w vs b hk ho ha => ?_⟩
  refine calls_av hmo hf hb hok _ (fun e s hq => hq.1) (h K.dp) (by rw [ha.1]; exact hlen) (initM_real hk ho ha fn.ntmps) ?_
  rintro e s' A G' a' w' ⟨k1, k2, cs2, k4, k5⟩ hA hat k3
  obtain ⟨v, h1, h6⟩ := finish k3 k2
  have hkle : K.le G'.K := by have := k3.kle; rw [hA] at this; exact this
  have hkro : ∀ δ, δ < K.dp → ∀ d g, G'.K.rw δ d g = K.rw δ d g := fun δ hδ d g => by
    have := k3.kro δ (by rw [hA]; exact hδ) d g
    rw [hA] at this; exact this
  obtain ⟨b', o', arr, ty, q1, q2, q3, q4, q5, q6, q7⟩ := k3.ents _ _ _ k4
  have hat' : G'.at_ k 0 = some (b, 0) := hat k 0 (b, 0) (by simp [ghM])
  rw [hat'] at q1; injection q1 with q1; injection q1 with e1 e2; subst e1 e2
  simp only [Nat.zero_add] at q5 q6 q7
  refine ⟨v, h1, v, G'.K, rfl, k3.below, hkle, k3.kok, fun b2 hb2 e => ?_, hkro, ⟨arr, ty, q3, q4, by rw [k5.1]; exact q5, fun i v hi hv => q6 i v (by rw [← k5.1]; exact hi) hv, fun i y v hy hv => ?_⟩, h6.of_noal hr⟩
  · have := k3.kold b2 ⟨hb2, e⟩
    rw [hA] at this; exact this
  · have hi : i < cs2.length := by have := getq_lt hy; rw [← k5.1]; exact this
    exact k5.2 i cs2[i] y (by simp [hi]) hy _ _ (q7 i cs2[i] v (by simp [hi]) hv)
end

end Go.Proofs.Ytikganlbnhapcaa

namespace Go.Proofs.Ytikganlbnhapcaa
open Go.RowKit
set_option linter.unusedVariables false
set_option linter.unusedSimpArgs false

/-! the rules of the plain walk -/
section
variable {P : Program} {Q : AEx → St → Prop} {s : St}
theorem aWp_seq {a b : Code} (h : aWp P a (AEx.seq (aWp P b Q) Q) s) : aWp P (.seq a b) Q s := h
theorem aWp_region {id : Nat} {ops : List Oper} (s' : St) (h : ∀ K : St → Prop, K s' → aRun P ops 0 ops s K) (hq : Q .normal (s'.bump ops.length)) : aWp P (.region id ops.toArray false) Q s := by
  show aRun P ops.toArray.toList 0 ops.toArray.toList s _
  exact h _ (by simpa using hq)
theorem aWp_regionK {id : Nat} {ops : List Oper} (h : ∀ K : St → Prop, (∀ s' : St, Q .normal (s'.bump ops.length) → K s') → aRun P ops 0 ops s K) : aWp P (.region id ops.toArray false) Q s := by
  show aRun P ops.toArray.toList 0 ops.toArray.toList s _
  exact h _ (fun s' hq => by simpa using hq)
theorem aWp_cond {c : Operand} {a b : Code} {t : Bool} (hc : (s.ev c).av = .bool t) (h1 : t = true → aWp P a Q s) (h2 : t = false → aWp P b Q s) : aWp P (.cond c a b) Q s := by
  simp only [aWp, hc]; exact ⟨h1, h2⟩
theorem aWp_true {c : Operand} {a b : Code} (hc : (s.ev c).av = .bool true) (h1 : aWp P a Q s) : aWp P (.cond c a b) Q s := aWp_cond hc (fun _ => h1) (fun h => by cases h)
theorem aWp_false {c : Operand} {a b : Code} (hc : (s.ev c).av = .bool false) (h1 : aWp P b Q s) : aWp P (.cond c a b) Q s := aWp_cond hc (fun h => by cases h) (fun _ => h1)
theorem aWp_ret (h : Q .ret s) : aWp P .ret Q s := h
theorem aWp_skip (h : Q .normal s) : aWp P .skip Q s := h
theorem aWp_block {id : Nat} {c : Code} (h : aWp P c (AEx.inBlock id Q) s) : aWp P (.block id c) Q s := h
theorem aWp_exit {id : Nat} (h : Q (.exit id) s) : aWp P (.exit id) Q s := h
theorem aWp_loop {c : Code} (I : Nat → St → Prop) (n : Nat) (h0 : I n s) (h : ∀ n s, I n s → aWp P c (AEx.seq (fun s' => ∃ m, m < n ∧ I m s') Q) s) : aWp P (.loop c) Q s := ⟨I, n, h0, h⟩
theorem seq_normal {K : St → Prop} (h : K s) : AEx.seq K Q .normal s := h
theorem seq_ret {K : St → Prop} (h : Q .ret s) : AEx.seq K Q .ret s := h
theorem seq_exit {K : St → Prop} {id : Nat} (h : Q (.exit id) s) : AEx.seq K Q (.exit id) s := h
theorem blk_normal {id : Nat} (h : Q .normal s) : AEx.inBlock id Q .normal s := h
theorem blk_ret {id : Nat} (h : Q .ret s) : AEx.inBlock id Q .ret s := h
theorem blk_hit {id : Nat} (h : Q .normal s) : AEx.inBlock id Q (.exit id) s := by simp [AEx.inBlock, h]
theorem blk_miss {id id' : Nat} (hne : (id' == id) = false) (h : Q (.exit id') s) : AEx.inBlock id Q (.exit id') s := by
  have : ¬ id' = id := by simpa using hne
  simp [AEx.inBlock, this, h]
theorem end_ret {R : St → Prop} (h : R s) : AEx.fin .ret = true ∧ R s := ⟨rfl, h⟩
theorem end_normal {R : St → Prop} (h : R s) : AEx.fin .normal = true ∧ R s := ⟨rfl, h⟩
end
section
variable {P : Program} {ops : List Oper} {i : Nat} {l : List Oper} {s s' : St} {K : St → Prop} {dst : Option Tmp} {op : Op} {ty : TypeId} {pos : String} {af : Array Edge} {j : Nat} {b want : Bool}
theorem aOp_det {γ : Nat} {o : Oper} (h : aDet P γ s o.dst o.op = some s') (hk : K s') : aOp P γ s o K := by
  unfold aOp
  split
  · rename_i f args ts ho
    rw [ho] at h
    simp [aDet] at h
  · rw [h]; exact hk
theorem run_nil (h : K s) : aRun P ops i [] s K := ⟨s, .refl s, h⟩
theorem run_det (h : aDet P (s.nx + i) s dst op = some s') (hk : aRun P ops (i + 1) l s' K) : aRun P ops i (⟨dst, op, ty, pos, af, none⟩ :: l) s K := by
  exact .inl (show aGuard P ops (s.nx + i) s _ _ from aOp_det (o := ⟨dst, op, ty, pos, af, none⟩) h hk)
theorem run_gt (hy : yld ops s j = some want) (h : aDet P (s.nx + i) s dst op = some s') (hk : aRun P ops (i + 1) l s' K) : aRun P ops i (⟨dst, op, ty, pos, af, some (j, want)⟩ :: l) s K := by
  refine .inl (show aGuard P ops (s.nx + i) s _ _ from ?_)
  simp only [aGuard, hy, if_true]
  exact aOp_det (o := ⟨dst, op, ty, pos, af, some (j, want)⟩) h hk
theorem run_gf (hy : yld ops s j = some (!want)) (hk : aRun P ops (i + 1) l (s.put dst (.k (.tup []))) K) : aRun P ops i (⟨dst, op, ty, pos, af, some (j, want)⟩ :: l) s K := by
  refine .inl (show aGuard P ops (s.nx + i) s _ _ from ?_)
  simp only [aGuard, hy]
  rw [if_neg (by cases want <;> simp)]
  exact hk
theorem run_call {f : FuncId} {args : Array Operand} {ts : Array TypeId} {ys : List AV} {r : RV} (h1 : aArgs P s (args.toList.map s.ev) ts.toList = some ys) (h2 : Spec P f ys r) (h3 : (args.toList.all fun x => s.isK (s.ev x)) = true ∨ r.noal = true) (h4 : s.res dst (s.nx + i) r = some s')
    (hk : aRun P ops (i + 1) l s' K) : aRun P ops i (⟨dst, .call ⟨.value (.func f), args, ts⟩, ty, pos, af, none⟩ :: l) s K := by
  exact .inl (show aGuard P ops (s.nx + i) s _ _ from ⟨ys, r, s', h1, h2, h3, h4, hk⟩)
theorem run_gcall {f : FuncId} {args : Array Operand} {ts : Array TypeId} {ys : List AV} {r : RV} (hy : yld ops s j = some want) (h1 : aArgs P s (args.toList.map s.ev) ts.toList = some ys) (h2 : Spec P f ys r) (h3 : (args.toList.all fun x => s.isK (s.ev x)) = true ∨ r.noal = true) (h4 : s.res dst (s.nx + i) r = some s')
    (hk : aRun P ops (i + 1) l s' K) : aRun P ops i (⟨dst, .call ⟨.value (.func f), args, ts⟩, ty, pos, af, some (j, want)⟩ :: l) s K := by
  refine .inl (show aGuard P ops (s.nx + i) s _ _ from ?_)
  simp only [aGuard, hy, if_true]
  exact ⟨ys, r, s', h1, h2, h3, h4, hk⟩
theorem run_mcall {f : FuncId} {args : Array Operand} {ts : Array TypeId} {d g : Nat} {cs : List AV} {cs' : Option (List AV)} {ys : List MA} {r : AV} (htb : s.tb d = some (g, .obj cs)) (h1 : AMAs s d g args.toList ys) (h2 : MSpec P f ys cs cs' r)
    (hk : aRun P ops (i + 1) l ((s.set d (cs'.map fun c => (g, .obj c))).put dst (.k r)) K) : aRun P ops i (⟨dst, .call ⟨.value (.func f), args, ts⟩, ty, pos, af, none⟩ :: l) s K :=
  .inr ⟨trivial, f, args, ts, d, g, cs, cs', ys, r, rfl, htb, h1, h2, hk⟩
/-- a guard that is not known: both ways -/
theorem run_by (b : Bool) (h1 : b = true → aRun P ops i l s K) (h2 : b = false → aRun P ops i l s K) : aRun P ops i l s K := by
  cases b
  · exact h2 rfl
  · exact h1 rfl
end
theorem w64 {x : Int} (h1 : -9223372036854775808 ≤ x) (h2 : x ≤ 9223372036854775807) : IntKind.i64.wrap x = x := IntWalk.i64_in _ ⟨h1, h2⟩
theorem w8 {x : Int} (h1 : 0 ≤ x) (h2 : x ≤ 255) : IntKind.u8.wrap x = x := by rw [IntKind.wrap_u8]; omega
theorem w32 {x : Int} (h1 : 0 ≤ x) (h2 : x ≤ 4294967295) : IntKind.u32.wrap x = x := by rw [IntKind.wrap_u32]; omega
theorem wu64 {x : Int} (h1 : 0 ≤ x) (h2 : x ≤ 18446744073709551615) : IntKind.u64.wrap x = x := by rw [IntKind.wrap_u64]; omega
theorem pick_bool (t x y : Bool) : pickSV t (.k (.bool x)) (.k (.bool y)) = .k (.bool (bif t then x else y)) := rfl
theorem pick_true (a b : SV) : pickSV true a b = a := by unfold pickSV; split <;> rfl
theorem pick_false (a b : SV) : pickSV false a b = b := by unfold pickSV; split <;> rfl
theorem bump_fr (s : St) (n : Nat) : (s.bump n).fr = s.fr := rfl
theorem bump_tb (s : St) (n : Nat) : (s.bump n).tb = s.tb := rfl

end Go.Proofs.Ytikganlbnhapcaa

namespace Go.Proofs.Ytikganlbnhapcaa
open Go.RowKit
set_option linter.unusedVariables false
set_option linter.unusedSimpArgs false

/-! one line for each kind of step -/
section
variable {P : Program} {Q : AEx → St → Prop} {F : Nat → SV} {T : Nat → Option (Nat × Ent)} {ν : Nat} {md : Md}
theorem rg {id : Nat} {ops : List Oper} (h : ∀ K : St → Prop, (∀ F T md, (∀ ν', Q .normal ⟨F, T, ν', md⟩) → K ⟨F, T, ν, md⟩) → aRun P ops 0 ops ⟨F, T, ν, md⟩ K) : aWp P (.region id ops.toArray false) Q ⟨F, T, ν, md⟩ := by
  show aRun P ops.toArray.toList 0 ops.toArray.toList _ _
  exact h _ (fun F T md hq => by simpa [St.bump] using hq _)
variable {ops : List Oper} {i : Nat} {l : List Oper} {s' : St} {K : St → Prop} {dst : Option Tmp} {op : Op} {ty : TypeId} {pos : String} {af : Array Edge} {j : Nat} {b want : Bool}
theorem rn {ops : List Oper} (h : aDet P (ν + i) ⟨F, T, ν, md⟩ dst op = some s') (hk : aRun P ops (i + 1) l s' K) : aRun P ops i (⟨dst, op, ty, pos, af, none⟩ :: l) ⟨F, T, ν, md⟩ K := run_det h hk
theorem rt (hy : yld ops ⟨F, T, ν, md⟩ j = some want) (h : aDet P (ν + i) ⟨F, T, ν, md⟩ dst op = some s') (hk : aRun P ops (i + 1) l s' K) : aRun P ops i (⟨dst, op, ty, pos, af, some (j, want)⟩ :: l) ⟨F, T, ν, md⟩ K := run_gt hy h hk
theorem rf {d : Nat} (hy : yld ops ⟨F, T, ν, md⟩ j = some (!want)) (hk : aRun P ops (i + 1) l ⟨upd F d (.k (.tup [])), T, ν, md⟩ K) : aRun P ops i (⟨some d, op, ty, pos, af, some (j, want)⟩ :: l) ⟨F, T, ν, md⟩ K := run_gf hy hk
theorem rf0 (hy : yld ops ⟨F, T, ν, md⟩ j = some (!want)) (hk : aRun P ops (i + 1) l ⟨F, T, ν, md⟩ K) : aRun P ops i (⟨none, op, ty, pos, af, some (j, want)⟩ :: l) ⟨F, T, ν, md⟩ K := run_gf hy hk
/-- the guard's word -/
theorem gy {d : Nat} {b : Bool} (h1 : (ops[j]?).bind (·.dst) = some d) (h2 : F d = .k (.bool b)) (h3 : b = want) : yld ops ⟨F, T, ν, md⟩ j = some want := by
  simp [yld, h1, h2, h3]
theorem rc {f : FuncId} {args : Array Operand} {ts : Array TypeId} {ys : List AV} {r : RV} (h1 : aArgs P ⟨F, T, ν, md⟩ (args.toList.map (St.ev ⟨F, T, ν, md⟩)) ts.toList = some ys) (h2 : Spec P f ys r) (h3 : (args.toList.all fun x => St.isK ⟨F, T, ν, md⟩ (St.ev ⟨F, T, ν, md⟩ x)) = true ∨ r.noal = true) (h4 : St.res ⟨F, T, ν, md⟩ dst (ν + i) r = some s')
    (hk : aRun P ops (i + 1) l s' K) : aRun P ops i (⟨dst, .call ⟨.value (.func f), args, ts⟩, ty, pos, af, none⟩ :: l) ⟨F, T, ν, md⟩ K := run_call h1 h2 h3 h4 hk
theorem rct {f : FuncId} {args : Array Operand} {ts : Array TypeId} {ys : List AV} {r : RV} (hy : yld ops ⟨F, T, ν, md⟩ j = some want) (h1 : aArgs P ⟨F, T, ν, md⟩ (args.toList.map (St.ev ⟨F, T, ν, md⟩)) ts.toList = some ys) (h2 : Spec P f ys r) (h3 : (args.toList.all fun x => St.isK ⟨F, T, ν, md⟩ (St.ev ⟨F, T, ν, md⟩ x)) = true ∨ r.noal = true) (h4 : St.res ⟨F, T, ν, md⟩ dst (ν + i) r = some s')
    (hk : aRun P ops (i + 1) l s' K) : aRun P ops i (⟨dst, .call ⟨.value (.func f), args, ts⟩, ty, pos, af, some (j, want)⟩ :: l) ⟨F, T, ν, md⟩ K := run_gcall hy h1 h2 h3 h4 hk
end
section
variable {P : Program} {γ : Nat} {F : Nat → SV} {T : Nat → Option (Nat × Ent)} {ν : Nat} {md : Md} {s : St} {s1 : St} {d : Nat} {dst : Option Nat} {ty t u : TypeId} {x y : Operand} {b : Bool}
theorem args_nil : aArgs P s [] [] = some [] := rfl
theorem args_cons {x : SV} {xs : List SV} {ts : List TypeId} {v : AV} {ys : List AV} (h1 : aArg P s t x = some v) (h2 : aArgs P s xs ts = some ys) : aArgs P s (x :: xs) (t :: ts) = some (v :: ys) := by
  simp [aArgs, h1, h2]
theorem arg_k {x : SV} {v : AV} (h : x = .k v) : aArg P s t x = some v := by subst h; rfl
theorem arg_ow {x : SV} {e g n : Nat} {el : TypeId} {cs : List AV} (h : x = .ow e g n el cs) : aArg P s t x = some (.sl false n cs) := by subst h; rfl
theorem arg_ob {x : SV} {e g off : Nat} {cs cs' : List AV} (h : x = .ob e g off) (h1 : T e = some (g, .obj cs)) (h2 : off ≤ cs.length) (h3 : cs.drop off = cs') : aArg P ⟨F, T, ν, md⟩ t x = some (.cp cs') := by
  subst h; simp [aArg, St.objOf, h1, h2, h3]
theorem arg_os {x : SV} {e g off n cap : Nat} {el : TypeId} {cs cs' : List AV} {sz by_ : Nat} {zr : List AV} {k1 k2 k3 k4} {u : TU} (h : x = .os e g off n cap) (ht : tiOf P t = ⟨k1, k2, k3, .sl el, k4⟩) (he : tiOf P el = ⟨true, sz, by_, u, zr⟩) (h1 : T e = some (g, .obj cs)) (h2 : off + n * sz ≤ cs.length) (h3 : (cs.drop off).take (n * sz) = cs') : aArg P ⟨F, T, ν, md⟩ t x = some (.sl false n cs') := by
  subst h; simp [aArg, St.objOf, h1, h2, h3, ht, he, elemOf?]
theorem res_k {x : AV} : St.res ⟨F, T, ν, md⟩ (some d) γ (.k x) = some ⟨upd F d (.k x), T, ν, md⟩ := rfl
theorem res_k0 {x : AV} : St.res ⟨F, T, ν, md⟩ none γ (.k x) = some ⟨F, T, ν, md⟩ := rfl
theorem res_new {cs : List AV} : St.res ⟨F, T, ν, md⟩ (some d) γ (.new cs) = some ⟨upd F d (.ob d γ 0), upd T d (some (γ, .obj cs)), ν, md⟩ := rfl
theorem res_news {n : Nat} {cs : List AV} : St.res ⟨F, T, ν, md⟩ (some d) γ (.news n cs) = some ⟨upd F d (.os d γ 0 n n), upd T d (some (γ, .obj cs)), ν, md⟩ := rfl
theorem res_ow {n : Nat} {e : TypeId} {cs : List AV} (h : md d = false) : St.res ⟨F, T, ν, md⟩ (some d) γ (.own n e cs) = some ⟨upd F d (.ow d γ n e cs), upd T d (some (γ, .tag)), ν, md⟩ := by
  simp [St.res, h, St.mkT, St.set, St.put]
theorem res_os {n : Nat} {e : TypeId} {cs : List AV} (h : md d = true) (h0 : 0 < n) : St.res ⟨F, T, ν, md⟩ (some d) γ (.own n e cs) = some ⟨upd F d (.os d γ 0 n n), upd T d (some (γ, .obj cs)), ν, md⟩ := by
  simp [St.res, h, h0, St.mk1, St.set, St.put]
/-- steps that only make a value -/
theorem dv {op : Op} {v : SV} (hm : aDet P γ ⟨F, T, ν, md⟩ (some d) op = (aVal P ⟨F, T, ν, md⟩ op).map (St.put ⟨F, T, ν, md⟩ (some d))) (h : aVal P ⟨F, T, ν, md⟩ op = some v) : aDet P γ ⟨F, T, ν, md⟩ (some d) op = some ⟨upd F d v, T, ν, md⟩ := by
  rw [hm, h]; rfl
structure Det (P : Program) (γ : Nat) (s : St) (dst : Option Nat) (op : Op) (s1 : St) : Prop where
  h : aDet P γ s dst op = some s1
theorem d_move {v : SV} (h : St.ev ⟨F, T, ν, md⟩ x = v) : Det P γ ⟨F, T, ν, md⟩ (some d) (.move x) ⟨upd F d v, T, ν, md⟩ := Det.mk <|dv rfl (by simp only [aVal, h])
theorem d_assign {v : SV} (h : St.ev ⟨F, T, ν, md⟩ x = v) : Det P γ ⟨F, T, ν, md⟩ (some d) (.assign x) ⟨upd F d v, T, ν, md⟩ := Det.mk <|dv rfl (by simp only [aVal, h])
theorem d_pickT {c : Operand} {v : SV} (hc : St.ev ⟨F, T, ν, md⟩ c = .k (.bool b)) (hb : b = true) (h : St.ev ⟨F, T, ν, md⟩ x = v) : Det P γ ⟨F, T, ν, md⟩ (some d) (.pick c x y) ⟨upd F d v, T, ν, md⟩ := Det.mk <|
  dv rfl (by simp only [aVal, h, hc, SV.av, aPick, hb, pick_true])
theorem d_pickF {c : Operand} {v : SV} (hc : St.ev ⟨F, T, ν, md⟩ c = .k (.bool b)) (hb : b = false) (h : St.ev ⟨F, T, ν, md⟩ y = v) : Det P γ ⟨F, T, ν, md⟩ (some d) (.pick c x y) ⟨upd F d v, T, ν, md⟩ := Det.mk <|
  dv rfl (by simp only [aVal, h, hc, SV.av, aPick, hb, pick_false])
theorem d_pickB {c : Operand} {p q : Bool} (hc : St.ev ⟨F, T, ν, md⟩ c = .k (.bool b)) (h : St.ev ⟨F, T, ν, md⟩ x = .k (.bool p)) (h' : St.ev ⟨F, T, ν, md⟩ y = .k (.bool q)) : Det P γ ⟨F, T, ν, md⟩ (some d) (.pick c x y) ⟨upd F d (.k (.bool (bif b then p else q))), T, ν, md⟩ := Det.mk <|
  dv rfl (by simp only [aVal, h, h', hc, SV.av, aPick, pick_bool])
variable {sz by_ : Nat} {zr : List AV} {un : TU} {ok : Bool}
theorem of_k {m : Md} {v : AV} (h : v.isOw = false) : SV.of m v = .k v := by cases v <;> first | rfl | cases h
theorem of_ow {m : Md} {d g n : Nat} {e : TypeId} {cs : List AV} : SV.of m (.ow m.dp d g n e cs) = .ow d g n e cs := if_pos rfl
theorem d_load_obw {e g off d2 g2 n : Nat} {e2 : TypeId} {cs cs2 : List AV} (hx : St.ev ⟨F, T, ν, md⟩ x = .ob e g off) (hT : T e = some (g, .obj cs)) (ht : tiOf P t = ⟨true, sz, by_, un, zr⟩) (hl : ldAgg un sz (cs.drop off) = some (.ow md.dp d2 g2 n e2 cs2)) : Det P γ ⟨F, T, ν, md⟩ (some d) (.load t x) ⟨upd F d (.ow d2 g2 n e2 cs2), T, ν, md⟩ := Det.mk <|
  dv rfl (by simp only [aVal, hx, aLoad, ht, if_true, St.objOf, hT, Option.bind_some, hl, Option.map_some, of_ow])
theorem d_load_ob {e g off : Nat} {cs : List AV} {v : AV} (hx : St.ev ⟨F, T, ν, md⟩ x = .ob e g off) (hT : T e = some (g, .obj cs)) (ht : tiOf P t = ⟨true, sz, by_, un, zr⟩) (hl : ldAgg un sz (cs.drop off) = some v) (ho : v.isOw = false) : Det P γ ⟨F, T, ν, md⟩ (some d) (.load t x) ⟨upd F d (.k v), T, ν, md⟩ := Det.mk <|
  dv rfl (by simp only [aVal, hx, aLoad, ht, if_true, St.objOf, hT, Option.bind_some, hl, Option.map_some, of_k ho])
theorem d_load_fz {e g off : Nat} {cs : List AV} {v : AV} (hx : St.ev ⟨F, T, ν, md⟩ x = .ob e g off) (hT : T e = some (g, .fz cs)) (ht : tiOf P t = ⟨true, sz, by_, un, zr⟩) (hl : ldAgg un sz (cs.drop off) = some v) (ho : v.isOw = false) : Det P γ ⟨F, T, ν, md⟩ (some d) (.load t x) ⟨upd F d (.k v), T, ν, md⟩ := Det.mk <|
  dv rfl (by simp only [aVal, hx, aLoad, ht, if_true, St.objOf, hT, Option.bind_some, hl, Option.map_some, of_k ho])
theorem d_load_cp {cs : List AV} {v : AV} (hx : St.ev ⟨F, T, ν, md⟩ x = .k (.cp cs)) (ht : tiOf P t = ⟨true, sz, by_, un, zr⟩) (hl : ldAgg un sz cs = some v) (ho : v.isOw = false) : Det P γ ⟨F, T, ν, md⟩ (some d) (.load t x) ⟨upd F d (.k v), T, ν, md⟩ := Det.mk <|
  dv rfl (by simp only [aVal, hx, aLoad, ht, if_true, hl, Option.map_some, of_k ho])
theorem d_nc_ob {e g off : Nat} (hx : St.ev ⟨F, T, ν, md⟩ x = .ob e g off) : Det P γ ⟨F, T, ν, md⟩ (some d) (.nilCheck x) ⟨upd F d (.ob e g off), T, ν, md⟩ := Det.mk <|dv rfl (by simp only [aVal, hx, aNilCheck, SV.isNil])
theorem d_nc_cp {cs : List AV} (hx : St.ev ⟨F, T, ν, md⟩ x = .k (.cp cs)) : Det P γ ⟨F, T, ν, md⟩ (some d) (.nilCheck x) ⟨upd F d (.k (.cp cs)), T, ν, md⟩ := Det.mk <|dv rfl (by simp only [aVal, hx, aNilCheck, SV.isNil])
theorem cmpNil_int {u : TU} {op : BinOp} {k : IntKind} {m : Int} {y : Operand} : aCmpNil u op (.k (.int k m)) y = none := by
  unfold aCmpNil nilSl; split <;> simp_all
theorem d_int {op : BinOp} {k k' : IntKind} {m n : Int} {r : AV} (hx : St.ev ⟨F, T, ν, md⟩ x = .k (.int k m)) (hy : St.ev ⟨F, T, ν, md⟩ y = .k (.int k' n)) (hr : aInt op k k' m n = some r) : Det P γ ⟨F, T, ν, md⟩ (some d) (.binOp op t x y u) ⟨upd F d (.k r), T, ν, md⟩ := Det.mk <|
  dv rfl (by simp only [aVal, hx, hy, cmpNil_int, aBin, SV.av, hr, Option.map_some])
theorem d_bin {op : BinOp} {r : AV} {p q : SV} (hx : St.ev ⟨F, T, ν, md⟩ x = p) (hy : St.ev ⟨F, T, ν, md⟩ y = q) (ht : tiOf P t = ⟨ok, sz, by_, un, zr⟩) (hn : aCmpNil un op p y = none) (hr : aBin un op p q = some r) : Det P γ ⟨F, T, ν, md⟩ (some d) (.binOp op t x y u) ⟨upd F d (.k r), T, ν, md⟩ := Det.mk <|
  dv rfl (by simp only [aVal, hx, hy, ht, hn, hr, Option.map_some])
theorem d_nilS {op : BinOp} {r : AV} {p : SV} (hx : St.ev ⟨F, T, ν, md⟩ x = p) (ht : tiOf P t = ⟨ok, sz, by_, un, zr⟩) (hr : aCmpNil un op p y = some r) : Det P γ ⟨F, T, ν, md⟩ (some d) (.binOp op t x y u) ⟨upd F d (.k r), T, ν, md⟩ := Det.mk <|
  dv rfl (by simp only [aVal, hx, ht, hr])
theorem nilS_k {e : TypeId} {f : Bool} {n : Nat} {cs : List AV} (h : 0 < cs.length) : aCmpNil (.sl e) .eql (.k (.sl f n cs)) (.const (.slice none 0 0)) = some (.bool false) := by
  simp [aCmpNil, nilSl, h, isNilC]
theorem nilN_k {e : TypeId} {f : Bool} {n : Nat} {cs : List AV} (h : 0 < cs.length) : aCmpNil (.sl e) .neq (.k (.sl f n cs)) (.const (.slice none 0 0)) = some (.bool true) := by
  simp [aCmpNil, nilSl, h, isNilC]
theorem d_not {r : Bool} (hx : St.ev ⟨F, T, ν, md⟩ x = .k (.bool b)) (hr : (!b) = r) : Det P γ ⟨F, T, ν, md⟩ (some d) (.unOp .not t x) ⟨upd F d (.k (.bool r)), T, ν, md⟩ := Det.mk <|dv rfl (by simp only [aVal, hx, SV.av, aUn, hr, Option.map_some])
theorem d_neg {k : IntKind} {n r : Int} (hx : St.ev ⟨F, T, ν, md⟩ x = .k (.int k n)) (hr : k.wrap (0 - n) = r) : Det P γ ⟨F, T, ν, md⟩ (some d) (.unOp .neg t x) ⟨upd F d (.k (.int k r)), T, ν, md⟩ := Det.mk <|dv rfl (by simp only [aVal, hx, SV.av, aUn, hr, Option.map_some])
theorem d_inv {k : IntKind} {n r : Int} (hx : St.ev ⟨F, T, ν, md⟩ x = .k (.int k n)) (hr : bits .xor k (if k.signed then -1 else k.max) n = r) : Det P γ ⟨F, T, ν, md⟩ (some d) (.unOp .xor t x) ⟨upd F d (.k (.int k r)), T, ν, md⟩ := Det.mk <|dv rfl (by simp only [aVal, hx, SV.av, aUn, hr, Option.map_some])
theorem d_conv {k k' : IntKind} {n r : Int} {sz2 by2 : Nat} {zr2 : List AV} {ok2 : Bool} (hx : St.ev ⟨F, T, ν, md⟩ x = .k (.int k n)) (ht : tiOf P t = ⟨true, sz, by_, un, zr⟩) (hi : ∃ k0, un = .int k0) (hu : tiOf P u = ⟨ok2, sz2, by2, .int k', zr2⟩) (hr : k'.wrap n = r) : Det P γ ⟨F, T, ν, md⟩ (some d) (.convert t u x) ⟨upd F d (.k (.int k' r)), T, ν, md⟩ := Det.mk <| by
  obtain ⟨k0, rfl⟩ := hi
  simp only [aDet, aConvX, aConv, ht, hu, hx, SV.av, hr, if_true, St.put]
theorem d_field_ob {e g off f o z r : Nat} {fs : List (Nat × Nat)} (hx : St.ev ⟨F, T, ν, md⟩ x = .ob e g off) (ht : tiOf P t = ⟨true, sz, by_, .st fs, zr⟩) (hf : fs[f]? = some (o, z)) (hz : 0 < z) (hr : off + o = r) : Det P γ ⟨F, T, ν, md⟩ (some d) (.fieldAddr t x f) ⟨upd F d (.ob e g r), T, ν, md⟩ := Det.mk <|
  dv rfl (by simp only [aVal, hx, aField, ht, if_true, hf, Option.bind_some, hz, hr])
theorem d_field_cp {f o z : Nat} {cs cs' : List AV} {fs : List (Nat × Nat)} (hx : St.ev ⟨F, T, ν, md⟩ x = .k (.cp cs)) (ht : tiOf P t = ⟨true, sz, by_, .st fs, zr⟩) (hf : fs[f]? = some (o, z)) (hz : 0 < z) (hl : o ≤ cs.length) (hr : cs.drop o = cs') : Det P γ ⟨F, T, ν, md⟩ (some d) (.fieldAddr t x f) ⟨upd F d (.k (.cp cs')), T, ν, md⟩ := Det.mk <|
  dv rfl (by simp only [aVal, hx, aField, ht, if_true, hf, Option.bind_some, hz, hl, and_self, hr])
variable {el : TypeId} {sz2 by2 : Nat} {un2 : TU} {zr2 : List AV} {ok2 : Bool} {k : IntKind}
theorem d_at_k {full : Bool} {n : Nat} {cs cs' : List AV} {j : Int} (hx : St.ev ⟨F, T, ν, md⟩ x = .k (.sl full n cs)) (hj : St.ev ⟨F, T, ν, md⟩ y = .k (.int k j)) (ht : tiOf P t = ⟨ok, sz, by_, .sl el, zr⟩) (he : tiOf P el = ⟨true, sz2, by2, un2, zr2⟩) (h0 : 0 ≤ j) (h1 : j < n) (hl : n * sz2 = cs.length) (hz : 0 < sz2) (hr : cs.drop (j.toNat * sz2) = cs') :
    Det P γ ⟨F, T, ν, md⟩ (some d) (.indexAddr t x y) ⟨upd F d (.k (.cp cs')), T, ν, md⟩ := Det.mk <|
  dv rfl (by simp only [aVal, hx, hj, St.int?, SV.av, Option.bind_some, ht, aIdxAt, he]; rw [if_pos ⟨trivial, h0, h1, hl, hz⟩, hr])
theorem d_at_ow {e g n : Nat} {e' : TypeId} {cs cs' : List AV} {j : Int} (hx : St.ev ⟨F, T, ν, md⟩ x = .ow e g n e' cs) (hj : St.ev ⟨F, T, ν, md⟩ y = .k (.int k j)) (ht : tiOf P t = ⟨ok, sz, by_, .sl el, zr⟩) (he : tiOf P el = ⟨true, sz2, by2, un2, zr2⟩) (h0 : 0 ≤ j) (h1 : j < n) (hl : n * sz2 = cs.length) (hz : 0 < sz2) (hr : cs.drop (j.toNat * sz2) = cs') :
    Det P γ ⟨F, T, ν, md⟩ (some d) (.indexAddr t x y) ⟨upd F d (.k (.cp cs')), T, ν, md⟩ := Det.mk <|
  dv rfl (by simp only [aVal, hx, hj, St.int?, SV.av, Option.bind_some, ht, aIdxAt, he]; rw [if_pos ⟨trivial, h0, h1, hl, hz⟩, hr])
theorem d_at_os {e g off n cap r : Nat} {j : Int} (hx : St.ev ⟨F, T, ν, md⟩ x = .os e g off n cap) (hj : St.ev ⟨F, T, ν, md⟩ y = .k (.int k j)) (ht : tiOf P t = ⟨ok, sz, by_, .sl el, zr⟩) (he : tiOf P el = ⟨true, sz2, by2, un2, zr2⟩) (h0 : 0 ≤ j) (h1 : j < n) (hr : off + j.toNat * sz2 = r) :
    Det P γ ⟨F, T, ν, md⟩ (some d) (.indexAddr t x y) ⟨upd F d (.ob e g r), T, ν, md⟩ := Det.mk <|
  dv rfl (by simp only [aVal, hx, hj, St.int?, SV.av, Option.bind_some, ht, aIdxAt, he]; rw [if_pos ⟨trivial, h0, h1⟩, hr])
theorem d_at_arr {e g off n r : Nat} {j : Int} (hx : St.ev ⟨F, T, ν, md⟩ x = .ob e g off) (hj : St.ev ⟨F, T, ν, md⟩ y = .k (.int k j)) (ht : tiOf P t = ⟨ok, sz, by_, .arr n el, zr⟩) (he : tiOf P el = ⟨true, sz2, by2, un2, zr2⟩) (h0 : 0 ≤ j) (h1 : j < n) (hr : off + j.toNat * sz2 = r) :
    Det P γ ⟨F, T, ν, md⟩ (some d) (.indexAddr t x y) ⟨upd F d (.ob e g r), T, ν, md⟩ := Det.mk <|
  dv rfl (by simp only [aVal, hx, hj, St.int?, SV.av, Option.bind_some, ht, aIdxAt, he]; rw [if_pos ⟨trivial, h0, h1⟩, hr])
theorem d_at_arrcp {n : Nat} {cs cs' : List AV} {j : Int} (hx : St.ev ⟨F, T, ν, md⟩ x = .k (.cp cs)) (hj : St.ev ⟨F, T, ν, md⟩ y = .k (.int k j)) (ht : tiOf P t = ⟨ok, sz, by_, .arr n el, zr⟩) (he : tiOf P el = ⟨true, sz2, by2, un2, zr2⟩) (h0 : 0 ≤ j) (h1 : j < n) (hl : n * sz2 ≤ cs.length) (hr : cs.drop (j.toNat * sz2) = cs') :
    Det P γ ⟨F, T, ν, md⟩ (some d) (.indexAddr t x y) ⟨upd F d (.k (.cp cs')), T, ν, md⟩ := Det.mk <|
  dv rfl (by simp only [aVal, hx, hj, St.int?, SV.av, Option.bind_some, ht, aIdxAt, he]; rw [if_pos ⟨trivial, h0, h1, hl⟩, hr])
theorem d_len_k {full : Bool} {n : Nat} {cs : List AV} (hx : St.ev ⟨F, T, ν, md⟩ x = .k (.sl full n cs)) (ht : tiOf P t = ⟨ok, sz, by_, .sl el, zr⟩) : Det P γ ⟨F, T, ν, md⟩ (some d) (.call ⟨.builtin .len, #[x], #[t]⟩) ⟨upd F d (.k (.int .i64 (n : Int))), T, ν, md⟩ := Det.mk <| by
  simp only [aDet, aBuiltX, aBuiltin, hx, ht, lenSV, Option.map_some, St.put]
theorem d_len_ow {e g n : Nat} {e' : TypeId} {cs : List AV} (hx : St.ev ⟨F, T, ν, md⟩ x = .ow e g n e' cs) (ht : tiOf P t = ⟨ok, sz, by_, .sl el, zr⟩) : Det P γ ⟨F, T, ν, md⟩ (some d) (.call ⟨.builtin .len, #[x], #[t]⟩) ⟨upd F d (.k (.int .i64 (n : Int))), T, ν, md⟩ := Det.mk <| by
  simp only [aDet, aBuiltX, aBuiltin, hx, ht, lenSV, Option.map_some, St.put]
theorem d_len_os {e g off n cap : Nat} (hx : St.ev ⟨F, T, ν, md⟩ x = .os e g off n cap) (ht : tiOf P t = ⟨ok, sz, by_, .sl el, zr⟩) : Det P γ ⟨F, T, ν, md⟩ (some d) (.call ⟨.builtin .len, #[x], #[t]⟩) ⟨upd F d (.k (.int .i64 (n : Int))), T, ν, md⟩ := Det.mk <| by
  simp only [aDet, aBuiltX, aBuiltin, hx, ht, lenSV, Option.map_some, St.put]
theorem d_len_str {v : ByteArray} (hx : St.ev ⟨F, T, ν, md⟩ x = .k (.str v)) (ht : tiOf P t = ⟨ok, sz, by_, .str, zr⟩) : Det P γ ⟨F, T, ν, md⟩ (some d) (.call ⟨.builtin .len, #[x], #[t]⟩) ⟨upd F d (.k (.int .i64 (v.size : Int))), T, ν, md⟩ := Det.mk <| by
  simp only [aDet, aBuiltX, aBuiltin, hx, ht, lenSV, Option.map_some, St.put]
theorem d_len_arr {n : Nat} (ht : tiOf P t = ⟨ok, sz, by_, .arr n el, zr⟩) : Det P γ ⟨F, T, ν, md⟩ (some d) (.call ⟨.builtin .len, #[x], #[t]⟩) ⟨upd F d (.k (.int .i64 (n : Int))), T, ν, md⟩ := Det.mk <| by
  simp only [aDet, aBuiltX, aBuiltin, ht, lenSV, Option.map_some, St.put]
theorem d_min {k' : IntKind} {m n r : Int} {t' : TypeId} (hx : St.ev ⟨F, T, ν, md⟩ x = .k (.int k m)) (hy : St.ev ⟨F, T, ν, md⟩ y = .k (.int k' n)) (hr : (if n < m then n else m) = r) : Det P γ ⟨F, T, ν, md⟩ (some d) (.call ⟨.builtin .min, #[x, y], #[t, t']⟩) ⟨upd F d (.k (.int k r)), T, ν, md⟩ := Det.mk <| by
  simp only [aDet, aBuiltX, aBuiltin, hx, hy, SV.av, hr, Option.map_some, St.put]
theorem d_max {k' : IntKind} {m n r : Int} {t' : TypeId} (hx : St.ev ⟨F, T, ν, md⟩ x = .k (.int k m)) (hy : St.ev ⟨F, T, ν, md⟩ y = .k (.int k' n)) (hr : (if m < n then n else m) = r) : Det P γ ⟨F, T, ν, md⟩ (some d) (.call ⟨.builtin .max, #[x, y], #[t, t']⟩) ⟨upd F d (.k (.int k r)), T, ν, md⟩ := Det.mk <| by
  simp only [aDet, aBuiltX, aBuiltin, hx, hy, SV.av, hr, Option.map_some, St.put]
theorem d_extract {ps : List AV} {v : AV} {j : Nat} (hx : St.ev ⟨F, T, ν, md⟩ x = .k (.tup ps)) (hj : ps[j]? = some v) : Det P γ ⟨F, T, ν, md⟩ (some d) (.extract x j) ⟨upd F d (.k v), T, ν, md⟩ := Det.mk <|
  dv rfl (by simp only [aVal, hx, SV.av, aExtract, hj, Option.map_some])
theorem d_box {v : AV} {cs : List AV} (hx : St.avn ⟨F, T, ν, md⟩ x = v) (hf : v.flat = true) (hc : v.cells = cs) : Det P γ ⟨F, T, ν, md⟩ (some d) (.box t x) ⟨upd F d (.ob d γ 0), upd T d (some (γ, .obj cs)), ν, md⟩ := Det.mk <| by
  simp only [aDet, hx, aBox, hf, hc, Option.bind_some, if_true, St.mk1, St.set, St.put]
theorem d_boxA {cs : List AV} (hx : St.avn ⟨F, T, ν, md⟩ x = .agg cs) : Det P γ ⟨F, T, ν, md⟩ (some d) (.box t x) ⟨upd F d (.ob d γ 0), upd T d (some (γ, .obj cs)), ν, md⟩ := d_box hx rfl rfl
theorem d_boxS {v : AV} (hx : St.avn ⟨F, T, ν, md⟩ x = v) (hf : v.flat = true) (hc : v.cells = [v]) : Det P γ ⟨F, T, ν, md⟩ (some d) (.box t x) ⟨upd F d (.ob d γ 0), upd T d (some (γ, .obj [v])), ν, md⟩ := d_box hx hf hc
theorem d_alloc (ht : tiOf P t = ⟨true, sz, by_, un, zr⟩) : Det P γ ⟨F, T, ν, md⟩ (some d) (.alloc t) ⟨upd F d (.ob d γ 0), upd T d (some (γ, .obj zr)), ν, md⟩ := Det.mk <| by
  simp only [aDet, aAlloc, ht, Option.bind_some, if_true, St.mk1, St.set, St.put]
theorem d_store {e g off : Nat} {cs vs cs' : List AV} {v : AV} (hx : St.ev ⟨F, T, ν, md⟩ x = .ob e g off) (hT : T e = some (g, .obj cs)) (ht : tiOf P t = ⟨true, sz, by_, un, zr⟩) (hy : St.avn ⟨F, T, ν, md⟩ y = v) (hf : v.flat = true) (hc : v.cells = vs) (hl : vs.length = sz) (h2 : off + sz ≤ cs.length) (hr : cs.take off ++ vs ++ cs.drop (off + sz) = cs') :
    Det P γ ⟨F, T, ν, md⟩ none (.store t x y) ⟨F, upd T e (some (g, .obj cs')), ν, md⟩ := Det.mk <| by
  subst hc; subst hr
  simp only [aDet, hx, hy, aStore, hT, ht, hf, hl, h2, and_self, if_true, Option.map_some, St.put, St.set]
theorem d_store1 {e g off : Nat} {cs vs cs' : List AV} {v : AV} (hx : St.ev ⟨F, T, ν, md⟩ x = .ob e g off) (hT : T e = some (g, .obj cs)) (ht : tiOf P t = ⟨true, sz, by_, un, zr⟩) (hy : St.avn ⟨F, T, ν, md⟩ y = v) (hf : v.flat = true) (hc : v.cells = vs) (hl : vs.length = sz) (h2 : off + sz ≤ cs.length) (hr : cs.take off ++ vs ++ cs.drop (off + sz) = cs') :
    Det P γ ⟨F, T, ν, md⟩ (some d) (.store t x y) ⟨upd F d (.k .any), upd T e (some (g, .obj cs')), ν, md⟩ := Det.mk <| by
  subst hc; subst hr
  simp only [aDet, hx, hy, aStore, hT, ht, hf, hl, h2, and_self, if_true, Option.map_some, St.put, St.set]
theorem d_build {parts : Array (Nat × Operand)} {ps : List (Nat × AV)} {fs : List (Nat × Nat)} {cs : List AV} (ht : tiOf P t = ⟨true, sz, by_, .st fs, zr⟩) (hp : (parts.toList.map fun (j, x) => (j, St.avn ⟨F, T, ν, md⟩ x)) = ps) (hc : aFill (fun j => fs[j]?) zr ps = some cs) : Det P γ ⟨F, T, ν, md⟩ (some d) (.build t parts) ⟨upd F d (.k (.agg cs)), T, ν, md⟩ := Det.mk <|
  dv rfl (by simp only [aVal, aBuild, ht, if_true, hp, hc, Option.map_some])
theorem d_buildA {n : Nat} {parts : Array (Nat × Operand)} {ps : List (Nat × AV)} {cs : List AV} (ht : tiOf P t = ⟨true, sz, by_, .arr n el, zr⟩) (he : tiOf P el = ⟨true, sz2, by2, un2, zr2⟩) (hp : (parts.toList.map fun (j, x) => (j, St.avn ⟨F, T, ν, md⟩ x)) = ps) (hc : aFill (fun j => some (j * sz2, sz2)) zr ps = some cs) : Det P γ ⟨F, T, ν, md⟩ (some d) (.build t parts) ⟨upd F d (.k (.agg cs)), T, ν, md⟩ := Det.mk <|
  dv rfl (by simp only [aVal, aBuild, ht, he, if_true, hp, hc, Option.map_some])
theorem d_cut_k {full full' : Bool} {n m : Nat} {cs cs' : List AV} {lo hi : Option Operand} {a c : Int} (hx : St.ev ⟨F, T, ν, md⟩ x = .k (.sl full n cs)) (ht : tiOf P t = ⟨ok, sz, by_, .sl el, zr⟩) (he : tiOf P el = ⟨true, sz2, by2, un2, zr2⟩) (ha : St.bnd ⟨F, T, ν, md⟩ lo 0 = some a) (hc : St.bnd ⟨F, T, ν, md⟩ hi n = some c) (h0 : 0 ≤ a) (h1 : a ≤ c) (h2 : c ≤ n) (hl : n * sz2 = cs.length)
    (hf : (full && decide (c = n)) = full') (hm : c.toNat - a.toNat = m) (hr : (cs.take (c.toNat * sz2)).drop (a.toNat * sz2) = cs') : Det P γ ⟨F, T, ν, md⟩ (some d) (.slice t x lo hi none) ⟨upd F d (.k (.sl full' m cs')), T, ν, md⟩ := Det.mk <|
  dv rfl (by simp only [aVal, aSlice, hx, ht, lenSV, Option.bind_some, ha, hc, aCut, he]; rw [if_pos ⟨trivial, h0, h1, h2, hl⟩, hm, hr, Bool.false_or, hf])
theorem d_cut_k3 {full : Bool} {n m : Nat} {cs cs' : List AV} {lo : Option Operand} {h mx : Operand} {a c : Int} (hx : St.ev ⟨F, T, ν, md⟩ x = .k (.sl full n cs)) (ht : tiOf P t = ⟨ok, sz, by_, .sl el, zr⟩) (he : tiOf P el = ⟨true, sz2, by2, un2, zr2⟩) (ha : St.bnd ⟨F, T, ν, md⟩ lo 0 = some a) (hc : St.int? ⟨F, T, ν, md⟩ h = some c) (hx2 : St.int? ⟨F, T, ν, md⟩ mx = some c) (h0 : 0 ≤ a) (h1 : a ≤ c) (h2 : c ≤ n) (hl : n * sz2 = cs.length)
    (hm : c.toNat - a.toNat = m) (hr : (cs.take (c.toNat * sz2)).drop (a.toNat * sz2) = cs') : Det P γ ⟨F, T, ν, md⟩ (some d) (.slice t x lo (some h) (some mx)) ⟨upd F d (.k (.sl true m cs')), T, ν, md⟩ := Det.mk <|
  dv rfl (by have hb : St.bnd ⟨F, T, ν, md⟩ (some h) n = some c := hc; simp only [aVal, aSlice, hx, ht, lenSV, Option.bind_some, ha, hb, hx2, aCut, he, Option.isSome_some, and_self, if_true]; rw [if_pos ⟨trivial, h0, h1, h2, hl⟩, hm, hr, Bool.true_or])
theorem d_cut_ow {e g n m : Nat} {e' : TypeId} {cs cs' : List AV} {lo hi : Option Operand} {a c : Int} (hx : St.ev ⟨F, T, ν, md⟩ x = .ow e g n e' cs) (ht : tiOf P t = ⟨ok, sz, by_, .sl el, zr⟩) (he : tiOf P el = ⟨true, sz2, by2, un2, zr2⟩) (ha : St.bnd ⟨F, T, ν, md⟩ lo 0 = some a) (hc : St.bnd ⟨F, T, ν, md⟩ hi n = some c) (h0 : 0 ≤ a) (h1 : a ≤ c) (h2 : c ≤ n) (hl : n * sz2 = cs.length)
    (hm : c.toNat - a.toNat = m) (hr : (cs.take (c.toNat * sz2)).drop (a.toNat * sz2) = cs') : Det P γ ⟨F, T, ν, md⟩ (some d) (.slice t x lo hi none) ⟨upd F d (.k (.sl false m cs')), T, ν, md⟩ := Det.mk <|
  dv rfl (by simp only [aVal, aSlice, hx, ht, lenSV, Option.bind_some, ha, hc, aCut, he]; rw [if_pos ⟨trivial, h0, h1, h2, hl⟩, hm, hr])
theorem d_cut_os {e g off n cap o m c' : Nat} {lo hi : Option Operand} {a c : Int} (hx : St.ev ⟨F, T, ν, md⟩ x = .os e g off n cap) (ht : tiOf P t = ⟨ok, sz, by_, .sl el, zr⟩) (he : tiOf P el = ⟨true, sz2, by2, un2, zr2⟩) (ha : St.bnd ⟨F, T, ν, md⟩ lo 0 = some a) (hc : St.bnd ⟨F, T, ν, md⟩ hi n = some c) (h0 : 0 ≤ a) (h1 : a ≤ c) (h2 : c ≤ cap) (h3 : a < cap)
    (ho : off + a.toNat * sz2 = o) (hm : c.toNat - a.toNat = m) (hr : cap - a.toNat = c') : Det P γ ⟨F, T, ν, md⟩ (some d) (.slice t x lo hi none) ⟨upd F d (.os e g o m c'), T, ν, md⟩ := Det.mk <|
  dv rfl (by simp only [aVal, aSlice, hx, ht, lenSV, Option.bind_some, ha, hc, aCut, he]; rw [if_pos ⟨trivial, h0, h1, h2, h3, trivial⟩, hm, hr, ho])
theorem d_cut_arr {e g off n o m c' : Nat} {lo hi : Option Operand} {a c : Int} (hx : St.ev ⟨F, T, ν, md⟩ x = .ob e g off) (ht : tiOf P t = ⟨ok, sz, by_, .arr n el, zr⟩) (he : tiOf P el = ⟨true, sz2, by2, un2, zr2⟩) (ha : St.bnd ⟨F, T, ν, md⟩ lo 0 = some a) (hc : St.bnd ⟨F, T, ν, md⟩ hi n = some c) (h0 : 0 ≤ a) (h1 : a ≤ c) (h2 : c ≤ n) (h3 : a < n) (h4 : (n : Int) ≤ 9223372036854775807)
    (ho : off + a.toNat * sz2 = o) (hm : c.toNat - a.toNat = m) (hr : n - a.toNat = c') : Det P γ ⟨F, T, ν, md⟩ (some d) (.slice t x lo hi none) ⟨upd F d (.os e g o m c'), T, ν, md⟩ := Det.mk <|
  dv rfl (by simp only [aVal, aSlice, hx, ht, lenSV, Option.bind_some, ha, hc, aCut, he]; rw [if_pos ⟨trivial, h0, h1, h2, h3, h4, trivial⟩, hm, hr, ho])
theorem d_cut_arrcp {n m : Nat} {cs cs' : List AV} {fu : Bool} {lo hi : Option Operand} {a c : Int} (hx : St.ev ⟨F, T, ν, md⟩ x = .k (.cp cs)) (ht : tiOf P t = ⟨ok, sz, by_, .arr n el, zr⟩) (he : tiOf P el = ⟨true, sz2, by2, un2, zr2⟩) (ha : St.bnd ⟨F, T, ν, md⟩ lo 0 = some a) (hc : St.bnd ⟨F, T, ν, md⟩ hi n = some c) (h0 : 0 ≤ a) (h1 : a ≤ c) (h2 : c ≤ n) (h3 : a < n) (h4 : (n : Int) ≤ 9223372036854775807) (hl : n * sz2 ≤ cs.length)
    (hf : decide (c = n) = fu) (hm : c.toNat - a.toNat = m) (hr : (cs.take (c.toNat * sz2)).drop (a.toNat * sz2) = cs') : Det P γ ⟨F, T, ν, md⟩ (some d) (.slice t x lo hi none) ⟨upd F d (.k (.sl fu m cs')), T, ν, md⟩ := Det.mk <|
  dv rfl (by simp only [aVal, aSlice, hx, ht, lenSV, Option.bind_some, ha, hc, aCut, he]; rw [if_pos ⟨trivial, h0, h1, h2, h3, h4, hl, trivial⟩, hm, hr, hf])
theorem d_cut_str {v r : ByteArray} {lo hi : Option Operand} {a c : Int} (hx : St.ev ⟨F, T, ν, md⟩ x = .k (.str v)) (ht : tiOf P t = ⟨ok, sz, by_, .str, zr⟩) (ha : St.bnd ⟨F, T, ν, md⟩ lo 0 = some a) (hc : St.bnd ⟨F, T, ν, md⟩ hi v.size = some c) (h0 : 0 ≤ a) (h1 : a ≤ c) (h2 : c ≤ v.size) (hr : v.extract a.toNat c.toNat = r) :
    Det P γ ⟨F, T, ν, md⟩ (some d) (.slice t x lo hi none) ⟨upd F d (.k (.str r)), T, ν, md⟩ := Det.mk <|
  dv rfl (by simp only [aVal, aSlice, hx, ht, lenSV, Option.bind_some, ha, hc, aCut]; rw [if_pos ⟨h0, h1, h2, trivial⟩, hr])
theorem d_at_str {v : ByteArray} {j r : Int} (hx : St.ev ⟨F, T, ν, md⟩ x = .k (.str v)) (hj : St.ev ⟨F, T, ν, md⟩ y = .k (.int k j)) (ht : tiOf P t = ⟨ok, sz, by_, .str, zr⟩) (h0 : 0 ≤ j) (h1 : j.toNat < v.size) (hr : ((v[j.toNat]'h1).toNat : Int) = r) :
    Det P γ ⟨F, T, ν, md⟩ (some d) (.index t x y) ⟨upd F d (.k (.int .u8 r)), T, ν, md⟩ := Det.mk <|
  dv rfl (by simp only [aVal, hx, hj, St.int?, SV.av, Option.bind_some, ht, aIdx]; rw [dif_pos ⟨h0, h1⟩, hr])
theorem d_make_ow {l c : Operand} {n : Int} {m : Nat} {cs : List AV} (ht : tiOf P t = ⟨ok, sz, by_, .sl el, zr⟩) (he : tiOf P el = ⟨true, sz2, by2, un2, zr2⟩) (hl : St.int? ⟨F, T, ν, md⟩ l = some n) (hc : St.int? ⟨F, T, ν, md⟩ c = some n) (hz : 0 < sz2) (h0 : 0 ≤ n) (h1 : by2 * n ≤ 140737488355328) (h2 : n ≤ 140737488355328) (hmd : md d = false) (hm : n.toNat = m) (hcs : aZeros m sz2 zr2 = cs) :
    Det P γ ⟨F, T, ν, md⟩ (some d) (.makeSlice t l c) ⟨upd F d (.ow d γ m el cs), upd T d (some (γ, .tag)), ν, md⟩ := Det.mk <| by
  subst hm
  simp only [aDet, hl, hc, Option.bind_some, aMake, ht, elemOf?, he]
  rw [if_pos ⟨trivial, hz, h0, trivial, h1, h2⟩, hcs]
  simp [St.mkSl, hmd, St.mkT, St.set, St.put]
theorem d_make_os {l c : Operand} {n : Int} {m : Nat} {cs : List AV} (ht : tiOf P t = ⟨ok, sz, by_, .sl el, zr⟩) (he : tiOf P el = ⟨true, sz2, by2, un2, zr2⟩) (hl : St.int? ⟨F, T, ν, md⟩ l = some n) (hc : St.int? ⟨F, T, ν, md⟩ c = some n) (hz : 0 < sz2) (h0 : 0 < n) (h1 : by2 * n ≤ 140737488355328) (h2 : n ≤ 140737488355328) (hmd : md d = true) (hm : n.toNat = m) (hcs : aZeros m sz2 zr2 = cs) :
    Det P γ ⟨F, T, ν, md⟩ (some d) (.makeSlice t l c) ⟨upd F d (.os d γ 0 m m), upd T d (some (γ, .obj cs)), ν, md⟩ := Det.mk <| by
  subst hm
  simp only [aDet, hl, hc, Option.bind_some, aMake, ht, elemOf?, he]
  rw [if_pos ⟨trivial, hz, by omega, trivial, h1, h2⟩, hcs]
  have : ¬ n.toNat = 0 := by omega
  simp [St.mkSl, hmd, this, St.mk1, St.set, St.put]
theorem d_lit_ow {n : Nat} {parts : Array (Nat × Operand)} {ps : List (Nat × AV)} {cs : List AV} (ht : tiOf P t = ⟨ok, sz, by_, .sl el, zr⟩) (he : tiOf P el = ⟨true, sz2, by2, un2, zr2⟩) (h1 : n * sz2 ≤ 16777216) (hz : 0 < sz2) (hp : (parts.toList.map fun (j, x) => (j, St.avn ⟨F, T, ν, md⟩ x)) = ps) (hc : aFill (fun j => some (j * sz2, sz2)) (aZeros n sz2 zr2) ps = some cs) (hmd : md d = false) :
    Det P γ ⟨F, T, ν, md⟩ (some d) (.buildSlice t n parts) ⟨upd F d (.ow d γ n el cs), upd T d (some (γ, .tag)), ν, md⟩ := Det.mk <| by
  simp only [aDet, Option.bind_some, aBuildSl, aBuildSl0, ht, elemOf?, he, hp]
  rw [if_pos ⟨trivial, h1, hz⟩, hc]
  simp [St.mkSl, hmd, St.mkT, St.set, St.put]
theorem d_lit_os {n : Nat} {parts : Array (Nat × Operand)} {ps : List (Nat × AV)} {cs : List AV} (ht : tiOf P t = ⟨ok, sz, by_, .sl el, zr⟩) (he : tiOf P el = ⟨true, sz2, by2, un2, zr2⟩) (h1 : n * sz2 ≤ 16777216) (hz : 0 < sz2) (hp : (parts.toList.map fun (j, x) => (j, St.avn ⟨F, T, ν, md⟩ x)) = ps) (hc : aFill (fun j => some (j * sz2, sz2)) (aZeros n sz2 zr2) ps = some cs) (hmd : md d = true) (h0 : 0 < n) :
    Det P γ ⟨F, T, ν, md⟩ (some d) (.buildSlice t n parts) ⟨upd F d (.os d γ 0 n n), upd T d (some (γ, .obj cs)), ν, md⟩ := Det.mk <| by
  simp only [aDet, Option.bind_some, aBuildSl, aBuildSl0, ht, elemOf?, he, hp]
  rw [if_pos ⟨trivial, h1, hz⟩, hc]
  have : ¬ n = 0 := by omega
  simp [St.mkSl, hmd, this, St.mk1, St.set, St.put]
theorem d_lit_nil {parts : Array (Nat × Operand)} (ht : tiOf P t = ⟨ok, sz, by_, .sl el, zr⟩) (he : tiOf P el = ⟨true, sz2, by2, un2, zr2⟩) (hz : 0 < sz2) (hp : parts.toList = []) (hmd : md d = true) :
    Det P γ ⟨F, T, ν, md⟩ (some d) (.buildSlice t 0 parts) ⟨upd F d (.k (.sl true 0 [])), T, ν, md⟩ := Det.mk <| by
  simp only [aDet, Option.bind_some, aBuildSl, aBuildSl0, ht, elemOf?, he, hp, List.map_nil, aFill]
  rw [if_pos ⟨trivial, by omega, hz⟩]
  simp [St.mkSl, hmd, St.put]
theorem d_pk {parts : Array (Nat × Operand)} {x y : Operand} {d1 g1 off n1 c1 d2 g2 off2 n2 c2 : Nat} (ht : tiOf P t = ⟨ok, sz, by_, .sl el, zr⟩) (he : tiOf P el = ⟨true, 1, by2, un2, zr2⟩) (hp : parts.toList = [(0, x), (1, y)]) (hx : St.ev ⟨F, T, ν, md⟩ x = .os d1 g1 off n1 c1) (hy : St.ev ⟨F, T, ν, md⟩ y = .os d2 g2 off2 n2 c2) :
    Det P γ ⟨F, T, ν, md⟩ (some d) (.buildSlice t 2 parts) ⟨upd F d (.pk d1 g1 off n1 d2 g2 off2 n2), T, ν, md⟩ := Det.mk <| by
  have h0 : aFill (fun j => some (j * 1, 1)) (aZeros 2 1 zr2) [(0, St.avn ⟨F, T, ν, md⟩ x), (1, St.avn ⟨F, T, ν, md⟩ y)] = none := by
    have : St.avn ⟨F, T, ν, md⟩ x = .any := by unfold St.avn; rw [hx]; rfl
    rw [this, aFill]
    simp [AV.flat]
  simp only [aDet, Option.bind_some, aBuildSl, aBuildSl0, aPk, ht, elemOf?, he, hp, List.map_cons, List.map_nil, h0, pkOf, hx, hy]
  rw [if_pos ⟨trivial, by omega, by omega⟩]
  simp [St.put]
theorem arg_pk {x : SV} {d g off n d2 g2 off2 n2 : Nat} {el e2 : TypeId} {cs ds : List AV} {xs ys : List AV} {sz by_ sz1 by1 : Nat} {zr zr1 k4 : List AV} {k1 k2 k3} {b1 : Bool} {u : TU} {b2 : Bool} (h : x = .pk d g off n d2 g2 off2 n2) (ht : tiOf P t = ⟨k1, k2, k3, .sl el, k4⟩) (he : tiOf P el = ⟨b1, sz1, by1, .sl e2, zr1⟩) (he2 : tiOf P e2 = ⟨b2, sz, by_, u, zr⟩)
    (h1 : T d = some (g, .obj cs)) (h2 : T d2 = some (g2, .obj ds)) (l1 : off + n * sz ≤ cs.length) (l2 : off2 + n2 * sz ≤ ds.length) (r1 : (cs.drop off).take (n * sz) = xs) (r2 : (ds.drop off2).take (n2 * sz) = ys) : aArg P ⟨F, T, ν, md⟩ t x = some (.sl false 2 [.sl false n xs, .sl false n2 ys]) := by
  subst h
  simp only [aArg, aOsArg, ht, elemOf?, he, he2, Option.bind_some, St.objOf, h1, h2, if_true]
  rw [if_pos l1, if_pos l2, r1, r2]; rfl
/-- append: what is put on -/
theorem cont_k {full : Bool} {n : Nat} {cs : List AV} (h : St.ev s x = .k (.sl full n cs)) (hl : cs.length = n * sz) : s.cont sz (St.ev s x) = some (n, cs) := by
  rw [h]; simp [St.cont, hl]
theorem cont_ow {e g n : Nat} {e' : TypeId} {cs : List AV} (h : St.ev s x = .ow e g n e' cs) (hl : cs.length = n * sz) : s.cont sz (St.ev s x) = some (n, cs) := by
  rw [h]; simp [St.cont, hl]
theorem cont_os {e g off n cap : Nat} {cs cs' : List AV} (h : St.ev ⟨F, T, ν, md⟩ x = .os e g off n cap) (hT : T e = some (g, .obj cs)) (hl : off + n * sz ≤ cs.length) (hr : (cs.drop off).take (n * sz) = cs') : St.cont ⟨F, T, ν, md⟩ sz (St.ev ⟨F, T, ν, md⟩ x) = some (n, cs') := by
  rw [h]; simp [St.cont, St.objOf, hT, hl, hr]
theorem src_cont {m : Nat} {vs : List AV} (he : tiOf P el = ⟨true, sz2, by2, un2, zr2⟩) (hy : St.cont s sz2 (St.ev s y) = some (m, vs)) : aSrc P s el t t (St.ev s y) = some (m, vs) := by
  unfold aSrc; rw [if_pos rfl, he]; exact hy
theorem src_zero {t' : TypeId} {k k2 : IntKind} {n : Int} {m : Nat} {vs : List AV} (he : tiOf P el = ⟨true, sz2, by2, un2, zr2⟩) (hu : tiOf P t' = ⟨ok, sz, by_, .int k, zr⟩) (hy : St.ev s y = .k (.int k2 n)) (hne : t ≠ t') (h0 : 0 ≤ n) (h1 : n ≤ 140737488355328) (h2 : n.toNat * by2 ≤ 140737488355328) (hm : n.toNat = m) (hv : aZeros m sz2 zr2 = vs) :
    aSrc P s el t t' (St.ev s y) = some (m, vs) := by
  subst hm hv
  unfold aSrc; rw [if_neg hne, hy, hu]; simp only [he]; rw [if_pos ⟨h0, h1, h2⟩]
theorem src_strB {t' : TypeId} {b : ByteArray} (he : tiOf P el = ⟨true, sz2, by2, un2, zr2⟩) (hu : tiOf P t' = ⟨ok, sz, by_, .str, zr⟩) (hy : St.ev s y = .k (.str b)) (hne : t ≠ t') (h1 : sz2 = 1) : aSrc P s el t t' (St.ev s y) = some (b.size, aOfBytes b.data.toList) := by
  unfold aSrc; rw [if_neg hne, hy, hu]; simp only [he]; rw [if_pos h1]
theorem d_app_nil {t' : TypeId} {n m : Nat} {cs vs : List AV} (hx : St.ev ⟨F, T, ν, md⟩ x = .k (.sl true n cs)) (ht : tiOf P t = ⟨ok, sz, by_, .sl el, zr⟩) (he : tiOf P el = ⟨true, sz2, by2, un2, zr2⟩) (hy : aSrc P ⟨F, T, ν, md⟩ el t t' (St.ev ⟨F, T, ν, md⟩ y) = some (m, vs)) (hz : 0 < sz2) (h0 : m = 0) :
    Det P γ ⟨F, T, ν, md⟩ (some d) (.call ⟨.builtin .append, #[x, y], #[t, t']⟩) ⟨upd F d (.k (.sl true n cs)), T, ν, md⟩ := Det.mk <| by
  simp only [aDet, aBuiltX, aApp, hx, ht, elemOf?, Option.bind_some, he, hy]
  rw [if_pos ⟨trivial, hz⟩, if_pos h0]; rfl
theorem d_app_full {t' : TypeId} {n m r : Nat} {cs vs cs' : List AV} (hx : St.ev ⟨F, T, ν, md⟩ x = .k (.sl true n cs)) (ht : tiOf P t = ⟨ok, sz, by_, .sl el, zr⟩) (he : tiOf P el = ⟨true, sz2, by2, un2, zr2⟩) (hy : aSrc P ⟨F, T, ν, md⟩ el t t' (St.ev ⟨F, T, ν, md⟩ y) = some (m, vs)) (hz : 0 < sz2) (hl : cs.length = n * sz2) (h0 : 0 < m) (h1 : (n + m) * by2 ≤ 140737488355328) (h2 : n + m ≤ 140737488355328) (hmd : md d = false) (hr : n + m = r) (hcs : cs ++ vs = cs') :
    Det P γ ⟨F, T, ν, md⟩ (some d) (.call ⟨.builtin .append, #[x, y], #[t, t']⟩) ⟨upd F d (.ow d γ r el cs'), upd T d (some (γ, .tag)), ν, md⟩ := Det.mk <| by
  simp only [aDet, aBuiltX, aApp, hx, ht, elemOf?, Option.bind_some, he, hy]
  rw [if_pos ⟨trivial, hz⟩, if_neg (Nat.pos_iff_ne_zero.1 h0), if_pos ⟨hl, h1, h2⟩, hr, hcs]
  simp [hmd, St.mkT, St.set, St.put]
theorem d_app_fullS {t' : TypeId} {n m r : Nat} {cs vs cs' : List AV} (hx : St.ev ⟨F, T, ν, md⟩ x = .k (.sl true n cs)) (ht : tiOf P t = ⟨ok, sz, by_, .sl el, zr⟩) (he : tiOf P el = ⟨true, sz2, by2, un2, zr2⟩) (hy : aSrc P ⟨F, T, ν, md⟩ el t t' (St.ev ⟨F, T, ν, md⟩ y) = some (m, vs)) (hz : 0 < sz2) (hl : cs.length = n * sz2) (h0 : 0 < m) (h1 : (n + m) * by2 ≤ 140737488355328) (h2 : n + m ≤ 140737488355328) (hmd : md d = true) (hmk : md (d + 1000000) = false) (hr : n + m = r) (hcs : cs ++ vs = cs') :
    Det P γ ⟨F, T, ν, md⟩ (some d) (.call ⟨.builtin .append, #[x, y], #[t, t']⟩) ⟨upd F d (.os d γ 0 r r), upd T d (some (γ, .obj cs')), ν, md⟩ := Det.mk <| by
  simp only [aDet, aBuiltX, aApp, hx, ht, elemOf?, Option.bind_some, he, hy]
  rw [if_pos ⟨trivial, hz⟩, if_neg (Nat.pos_iff_ne_zero.1 h0), if_pos ⟨hl, h1, h2⟩, hr, hcs]
  simp [hmd, hmk, St.mk1, St.set, St.put]
theorem upd_upd_ {α : Type} (f : Nat → α) (d : Nat) (x y : α) : upd (upd f d x) d y = upd f d y := by
  funext t; simp only [upd]; split <;> rfl
theorem d_app_fullK {t' : TypeId} {n m r : Nat} {cs vs cs' : List AV} (hx : St.ev ⟨F, T, ν, md⟩ x = .k (.sl true n cs)) (ht : tiOf P t = ⟨ok, sz, by_, .sl el, zr⟩) (he : tiOf P el = ⟨true, sz2, by2, un2, zr2⟩) (hy : aSrc P ⟨F, T, ν, md⟩ el t t' (St.ev ⟨F, T, ν, md⟩ y) = some (m, vs)) (hz : 0 < sz2) (hl : cs.length = n * sz2) (h0 : 0 < m) (h1 : (n + m) * by2 ≤ 140737488355328) (h2 : n + m ≤ 140737488355328) (hmd : md d = true) (hmk : md (d + 1000000) = true) (hr : n + m = r) (hcs : cs ++ vs = cs') :
    Det P γ ⟨F, T, ν, md⟩ (some d) (.call ⟨.builtin .append, #[x, y], #[t, t']⟩) ⟨upd F d (.k (.sl false r cs')), upd T d none, ν, md⟩ := Det.mk <| by
  simp only [aDet, aBuiltX, aApp, hx, ht, elemOf?, Option.bind_some, he, hy]
  rw [if_pos ⟨trivial, hz⟩, if_neg (Nat.pos_iff_ne_zero.1 h0), if_pos ⟨hl, h1, h2⟩, hr, hcs]
  simp only [hmd, hmk, if_true, ↓reduceIte, St.mkK, St.set, St.put, upd_upd_]
theorem d_app_ow {t' : TypeId} {e g n m r : Nat} {cs vs cs' : List AV} (hx : St.ev ⟨F, T, ν, md⟩ x = .ow e g n el cs) (hT : T e = some (g, .tag)) (ht : tiOf P t = ⟨ok, sz, by_, .sl el, zr⟩) (he : tiOf P el = ⟨true, sz2, by2, un2, zr2⟩) (hy : aSrc P ⟨F, T, ν, md⟩ el t t' (St.ev ⟨F, T, ν, md⟩ y) = some (m, vs)) (hz : 0 < sz2) (h1 : (n + m) * by2 ≤ 140737488355328) (h2 : n + m ≤ 140737488355328) (hmd : md d = false) (hr : n + m = r) (hcs : cs ++ vs = cs') :
    Det P γ ⟨F, T, ν, md⟩ (some d) (.call ⟨.builtin .append, #[x, y], #[t, t']⟩) ⟨upd F d (.ow d γ r el cs'), upd (upd T e none) d (some (γ, .tag)), ν, md⟩ := Det.mk <| by
  simp only [aDet, aBuiltX, aApp, hx, hT, ht, elemOf?, Option.bind_some, he, hy]
  rw [if_pos ⟨trivial, hz⟩, if_pos ⟨trivial, trivial, h1, h2, hmd⟩, hr, hcs]
  simp [St.mkT, St.set, St.put]
end
end Go.Proofs.Ytikganlbnhapcaa

namespace Go.Proofs.Ytikganlbnhapcaa
open Go.RowKit
set_option linter.unusedVariables false
set_option linter.unusedSimpArgs false
section
variable {P : Program} {Q : AEx → St → Prop} {F : Nat → SV} {T : Nat → Option (Nat × Ent)} {ν : Nat} {md : Md} {K : St → Prop}
/-- what is left of one step -/
def Stp (P : Program) (ops : List Oper) (ν i : Nat) (l : List Oper) (dst : Option Nat) (op : Op) (F : Nat → SV) (T : Nat → Option (Nat × Ent)) (md : Md) (K : St → Prop) : Prop :=
  ∀ ty pos af, aRun P ops i (⟨dst, op, ty, pos, af, none⟩ :: l) ⟨F, T, ν, md⟩ K
variable {ops : List Oper} {i : Nat} {l : List Oper} {s' : St} {dst : Option Nat} {op : Op} {ty : TypeId} {pos : String} {af : Array Edge} {j : Nat} {b want : Bool}
theorem g0 (h : Stp P ops ν i l dst op F T md K) : aRun P ops i (⟨dst, op, ty, pos, af, none⟩ :: l) ⟨F, T, ν, md⟩ K := h ty pos af
theorem g1 (hy : yld ops ⟨F, T, ν, md⟩ j = some want) (h : Stp P ops ν i l dst op F T md K) : aRun P ops i (⟨dst, op, ty, pos, af, some (j, want)⟩ :: l) ⟨F, T, ν, md⟩ K := by
  rcases h ty pos af with h | ⟨_, h⟩
  · refine .inl (show aGuard P ops (ν + i) _ _ _ from ?_)
    simp only [aGuard, hy, if_true]
    exact h
  · exact .inr ⟨hy, h⟩
theorem sd (h : Det P (ν + i) ⟨F, T, ν, md⟩ dst op s') (hk : aRun P ops (i + 1) l s' K) : Stp P ops ν i l dst op F T md K := fun ty pos af => rn h.h hk
theorem sc {f : FuncId} {args : Array Operand} {ts : Array TypeId} {ys : List AV} {r : RV} (h1 : aArgs P ⟨F, T, ν, md⟩ (args.toList.map (St.ev ⟨F, T, ν, md⟩)) ts.toList = some ys) (h2 : Spec P f ys r) (h3 : (args.toList.all fun x => St.isK ⟨F, T, ν, md⟩ (St.ev ⟨F, T, ν, md⟩ x)) = true ∨ r.noal = true) (h4 : St.res ⟨F, T, ν, md⟩ dst (ν + i) r = some s')
    (hk : aRun P ops (i + 1) l s' K) : Stp P ops ν i l dst (.call ⟨.value (.func f), args, ts⟩) F T md K := fun ty pos af => rc h1 h2 h3 h4 hk
theorem smc {f : FuncId} {args : Array Operand} {ts : Array TypeId} {e g d : Nat} {cs cs' : List AV} {ys : List MA} {r : AV} (htb : T e = some (g, .obj cs)) (h1 : AMAs ⟨F, T, ν, md⟩ e g args.toList ys) (h2 : MSpec P f ys cs (some cs') r)
    (hk : aRun P ops (i + 1) l ⟨upd F d (.k r), upd T e (some (g, .obj cs')), ν, md⟩ K) : Stp P ops ν i l (some d) (.call ⟨.value (.func f), args, ts⟩) F T md K := fun ty pos af => run_mcall htb h1 h2 hk
theorem smc0 {f : FuncId} {args : Array Operand} {ts : Array TypeId} {e g : Nat} {cs cs' : List AV} {ys : List MA} {r : AV} (htb : T e = some (g, .obj cs)) (h1 : AMAs ⟨F, T, ν, md⟩ e g args.toList ys) (h2 : MSpec P f ys cs (some cs') r)
    (hk : aRun P ops (i + 1) l ⟨F, upd T e (some (g, .obj cs')), ν, md⟩ K) : Stp P ops ν i l none (.call ⟨.value (.func f), args, ts⟩) F T md K := fun ty pos af => run_mcall htb h1 h2 hk
/-- the object is gone behind the call -/
theorem smcN {f : FuncId} {args : Array Operand} {ts : Array TypeId} {e g d : Nat} {cs : List AV} {ys : List MA} {r : AV} (htb : T e = some (g, .obj cs)) (h1 : AMAs ⟨F, T, ν, md⟩ e g args.toList ys) (h2 : MSpec P f ys cs none r)
    (hk : aRun P ops (i + 1) l ⟨upd F d (.k r), upd T e none, ν, md⟩ K) : Stp P ops ν i l (some d) (.call ⟨.value (.func f), args, ts⟩) F T md K := fun ty pos af => run_mcall htb h1 h2 hk
theorem rz (h : K ⟨F, T, ν, md⟩) : aRun P ops i [] ⟨F, T, ν, md⟩ K := ⟨_, .refl _, h⟩
theorem rzos {t d g off n cap m : Nat} {cs cs' : List AV} (h1 : F t = .os d g off n cap) (h2 : T d = some (g, .obj cs)) (h3 : off + m ≤ cs.length) (h4 : (cs.drop off).take m = cs') (h : K ⟨upd F t (.k (.sl false n cs')), upd T d none, ν, md⟩) : aRun P ops i [] ⟨F, T, ν, md⟩ K := by
  subst h4
  exact ⟨_, .os ⟨F, T, ν, md⟩ _ t d g off n cap m cs h1 h2 h3 (.refl _), h⟩
theorem rzob {t d g off : Nat} {cs cs' : List AV} (h1 : F t = .ob d g off) (h2 : T d = some (g, .obj cs)) (h3 : off ≤ cs.length) (h4 : cs.drop off = cs') (h : K ⟨upd F t (.k (.cp cs')), upd T d none, ν, md⟩) : aRun P ops i [] ⟨F, T, ν, md⟩ K := by
  subst h4
  exact ⟨_, .ob ⟨F, T, ν, md⟩ _ t d g off cs h1 h2 h3 (.refl _), h⟩
theorem gu_ {d : Nat} (h1 : (ops[j]?).bind (·.dst) = some d) (h2 : F d = .k (.tup [])) : yld ops ⟨F, T, ν, md⟩ j = none ∧ ydead ops ⟨F, T, ν, md⟩ j = true := by
  simp [yld, ydead, h1, h2]
theorem rfu {d : Nat} (hy : yld ops ⟨F, T, ν, md⟩ j = none ∧ ydead ops ⟨F, T, ν, md⟩ j = true) (hk : aRun P ops (i + 1) l ⟨upd F d (.k (.tup [])), T, ν, md⟩ K) : aRun P ops i (⟨some d, op, ty, pos, af, some (j, want)⟩ :: l) ⟨F, T, ν, md⟩ K := by
  refine .inl (show aGuard P ops (ν + i) _ _ _ from ?_)
  simp only [aGuard, hy.1]
  exact ⟨hy.2, hk⟩
theorem gt_ {d : Nat} (h1 : (ops[j]?).bind (·.dst) = some d) (h2 : F d = .k (.bool b)) (h3 : b = want) : yld ops ⟨F, T, ν, md⟩ j = some want := gy h1 h2 h3
theorem gf_ {d : Nat} (h1 : (ops[j]?).bind (·.dst) = some d) (h2 : F d = .k (.bool b)) (h3 : b = !want) : yld ops ⟨F, T, ν, md⟩ j = some (!want) := gy h1 h2 h3
theorem cnd {c : Operand} {a b : Code} {t : Bool} (hc : St.ev ⟨F, T, ν, md⟩ c = .k (.bool t)) (h1 : t = true → aWp P a Q ⟨F, T, ν, md⟩) (h2 : t = false → aWp P b Q ⟨F, T, ν, md⟩) : aWp P (.cond c a b) Q ⟨F, T, ν, md⟩ :=
  aWp_cond (by rw [hc]; rfl) h1 h2
theorem cndT {c : Operand} {a b : Code} {t : Bool} (hc : St.ev ⟨F, T, ν, md⟩ c = .k (.bool t)) (ht : t = true) (h1 : aWp P a Q ⟨F, T, ν, md⟩) : aWp P (.cond c a b) Q ⟨F, T, ν, md⟩ := cnd hc (fun _ => h1) (fun h => by subst ht; cases h)
theorem cndF {c : Operand} {a b : Code} {t : Bool} (hc : St.ev ⟨F, T, ν, md⟩ c = .k (.bool t)) (ht : t = false) (h1 : aWp P b Q ⟨F, T, ν, md⟩) : aWp P (.cond c a b) Q ⟨F, T, ν, md⟩ := cnd hc (fun h => by subst ht; cases h) (fun _ => h1)
theorem wskip (h : Q .normal ⟨F, T, ν, md⟩) : aWp P .skip Q ⟨F, T, ν, md⟩ := h
/-! drawn regions -/
def yRun (P : Program) (ops : List Oper) (kw : Nat → List Nat × List Nat) (i : Nat) (l : List Oper) (s : St) (K : St → Prop) : Prop := xRun P ops kw (idxFrom i l) s K
/-- keys: what is said of a place, else the slot that a maker fills -/
def kwX (ops : List Oper) (ex : List (Nat × List Nat × List Nat)) (i : Nat) : List Nat × List Nat :=
  match ex.lookup i with
  | some p => p
  | none => match ops[i]? with
    | some o => ([], wrKeys ⟨fun _ => .k .any, fun _ => none, 0, ⟨fun _ => false, 0, false⟩⟩ o.dst o.op)
    | none => ([], [])
theorem rgx {id : Nat} {ops : List Oper} (ex : List (Nat × List Nat × List Nat)) (hc : chkD ops (kwX ops ex) = true) (h : ∀ K : St → Prop, (∀ F T md, (∀ ν', Q .normal ⟨F, T, ν', md⟩) → K ⟨F, T, ν, md⟩) → yRun P ops (kwX ops ex) 0 ops ⟨F, T, ν, md⟩ K) : aWp P (.region id ops.toArray true) Q ⟨F, T, ν, md⟩ := by
  show ∃ kw, chkD ops.toArray.toList kw = true ∧ xRun P ops.toArray.toList kw (idxFrom 0 ops.toArray.toList) _ _
  exact ⟨kwX ops ex, hc, h _ (fun F T md hq => by simpa [St.bump] using hq _)⟩
def Stx (P : Program) (ops : List Oper) (kw : Nat → List Nat × List Nat) (ν i : Nat) (l : List Oper) (dst : Option Nat) (op : Op) (F : Nat → SV) (T : Nat → Option (Nat × Ent)) (md : Md) (K : St → Prop) : Prop :=
  ∃ s', (∀ ty pos af gd, AStep P (ν + i) ⟨F, T, ν, md⟩ ⟨dst, op, ty, pos, af, gd⟩ s') ∧ yRun P ops kw (i + 1) l s' K
variable {kw : Nat → List Nat × List Nat} {gd : Option (Nat × Bool)}
theorem x0 (hk : keysOk (kw i) ⟨F, T, ν, md⟩ ⟨dst, op, ty, pos, af, none⟩ = true) (h : Stx P ops kw ν i l dst op F T md K) : yRun P ops kw i (⟨dst, op, ty, pos, af, none⟩ :: l) ⟨F, T, ν, md⟩ K := by
  obtain ⟨s', h1, h2⟩ := h
  exact ⟨hk, s', h1 _ _ _ _, h2⟩
theorem x1 (hk : keysOk (kw i) ⟨F, T, ν, md⟩ ⟨dst, op, ty, pos, af, some (j, want)⟩ = true) (hy : yld ops ⟨F, T, ν, md⟩ j = some want) (h : Stx P ops kw ν i l dst op F T md K) : yRun P ops kw i (⟨dst, op, ty, pos, af, some (j, want)⟩ :: l) ⟨F, T, ν, md⟩ K := by
  obtain ⟨s', h1, h2⟩ := h
  exact ⟨hk, s', .inl ⟨want, hy, .inl ⟨rfl, h1 _ _ _ _⟩⟩, h2⟩
theorem xf {d : Nat} (hk : keysOk (kw i) ⟨F, T, ν, md⟩ ⟨some d, op, ty, pos, af, some (j, want)⟩ = true) (hy : yld ops ⟨F, T, ν, md⟩ j = some (!want)) (h : yRun P ops kw (i + 1) l ⟨upd F d (.k (.tup [])), T, ν, md⟩ K) : yRun P ops kw i (⟨some d, op, ty, pos, af, some (j, want)⟩ :: l) ⟨F, T, ν, md⟩ K :=
  ⟨hk, _, .inl ⟨!want, hy, .inr ⟨by cases want <;> simp, rfl⟩⟩, h⟩
theorem xf0 (hk : keysOk (kw i) ⟨F, T, ν, md⟩ ⟨none, op, ty, pos, af, some (j, want)⟩ = true) (hy : yld ops ⟨F, T, ν, md⟩ j = some (!want)) (h : yRun P ops kw (i + 1) l ⟨F, T, ν, md⟩ K) : yRun P ops kw i (⟨none, op, ty, pos, af, some (j, want)⟩ :: l) ⟨F, T, ν, md⟩ K :=
  ⟨hk, _, .inl ⟨!want, hy, .inr ⟨by cases want <;> simp, rfl⟩⟩, h⟩
theorem xfu {d : Nat} (hk : keysOk (kw i) ⟨F, T, ν, md⟩ ⟨some d, op, ty, pos, af, some (j, want)⟩ = true) (hy : yld ops ⟨F, T, ν, md⟩ j = none ∧ ydead ops ⟨F, T, ν, md⟩ j = true) (h : yRun P ops kw (i + 1) l ⟨upd F d (.k (.tup [])), T, ν, md⟩ K) : yRun P ops kw i (⟨some d, op, ty, pos, af, some (j, want)⟩ :: l) ⟨F, T, ν, md⟩ K :=
  ⟨hk, _, .inr ⟨hy.1, hy.2, rfl⟩, h⟩
theorem xd (h : Det P (ν + i) ⟨F, T, ν, md⟩ dst op s') (hk : yRun P ops kw (i + 1) l s' K) : Stx P ops kw ν i l dst op F T md K := by
  refine ⟨s', fun ty pos af gd => ?_, hk⟩
  have h := h.h
  unfold AStep
  split
  · rename_i f args ts ho
    simp only at ho; subst ho
    simp [aDet] at h
  · exact h
theorem xc {f : FuncId} {args : Array Operand} {ts : Array TypeId} {ys : List AV} {r : RV} (h1 : aArgs P ⟨F, T, ν, md⟩ (args.toList.map (St.ev ⟨F, T, ν, md⟩)) ts.toList = some ys) (h2 : Spec P f ys r) (h3 : (args.toList.all fun x => St.isK ⟨F, T, ν, md⟩ (St.ev ⟨F, T, ν, md⟩ x)) = true ∨ r.noal = true) (h4 : St.res ⟨F, T, ν, md⟩ dst (ν + i) r = some s')
    (hk : yRun P ops kw (i + 1) l s' K) : Stx P ops kw ν i l dst (.call ⟨.value (.func f), args, ts⟩) F T md K :=
  ⟨s', fun ty pos af gd => ⟨ys, r, h1, h2, h3, h4⟩, hk⟩
theorem xz (h : K ⟨F, T, ν, md⟩) : yRun P ops kw i [] ⟨F, T, ν, md⟩ K := h
/-! words for whole numbers -/
section
variable {k : IntKind} {a c r : Int}
theorem ai_add {b : Int} (hc : a + b = c) (h : k.wrap c = r) : aInt .add k k a b = some (.int k r) := by subst hc; simp [aInt, h]
theorem ai_sub {b : Int} (hc : a - b = c) (h : k.wrap c = r) : aInt .sub k k a b = some (.int k r) := by subst hc; simp [aInt, h]
theorem ai_mul {b : Int} (hc : a * b = c) (h : k.wrap c = r) : aInt .mul k k a b = some (.int k r) := by subst hc; simp [aInt, h]
theorem ai_quo {b : Int} (h0 : 0 ≤ a) (h1 : 0 < b) (hc : a / b = c) (h : k.wrap c = r) : aInt .quo k k a b = some (.int k r) := by
  subst hc
  have : ¬ b = 0 := by omega
  simp [aInt, this, Int.tdiv_eq_ediv_of_nonneg h0, h]
theorem ai_rem {b : Int} (h0 : 0 ≤ a) (h1 : 0 < b) (hc : a % b = c) : aInt .rem k k a b = some (.int k c) := by
  subst hc
  have : ¬ b = 0 := by omega
  simp [aInt, this, Int.tmod_eq_emod_of_nonneg h0]
theorem ai_shl {k' : IntKind} {b : Int} (h0 : 0 ≤ b) (hc : a * 2 ^ (min b.toNat k.bits) = c) (h : k.wrap c = r) : aInt .shl k k' a b = some (.int k r) := by subst hc; simp [aInt, h0, h]
theorem ai_shlN {k' : IntKind} {b m : Int} {n : Nat} (h0 : 0 ≤ b) (hn : min b.toNat k.bits = n) (hm : (2 : Int) ^ n = m) (hc : a * m = c) (h : k.wrap c = r) : aInt .shl k k' a b = some (.int k r) := by subst hc; subst hm; subst hn; simp [aInt, h0, h]
theorem ai_shr {k' : IntKind} {b : Int} {n : Nat} (h0 : 0 ≤ b) (hn : min b.toNat k.bits = n) (hc : a / 2 ^ n = c) : aInt .shr k k' a b = some (.int k c) := by
  subst hc; subst hn; simp [aInt, h0]
  exact Int.fdiv_eq_ediv_of_nonneg _ (Int.pow_nonneg (by omega))
theorem ai_and {b : Int} (h : bits .and k a b = r) : aInt .and k k a b = some (.int k r) := by simp [aInt, h]
theorem ai_or {b : Int} (h : bits .or k a b = r) : aInt .or k k a b = some (.int k r) := by simp [aInt, h]
theorem ai_xor {b : Int} (h : bits .xor k a b = r) : aInt .xor k k a b = some (.int k r) := by simp [aInt, h]
theorem ai_andNot {b : Int} (h : bits .andNot k a b = r) : aInt .andNot k k a b = some (.int k r) := by simp [aInt, h]
theorem ai_eql {b : Int} {t : Bool} (h : decide (a = b) = t) : aInt .eql k k a b = some (.bool t) := by simp only [aInt, if_true, h]
theorem ai_neq {b : Int} {t : Bool} (h : (!decide (a = b)) = t) : aInt .neq k k a b = some (.bool t) := by simp only [aInt, if_true, h]
theorem ai_lss {b : Int} {t : Bool} (h : decide (a < b) = t) : aInt .lss k k a b = some (.bool t) := by simp only [aInt, if_true, h]
theorem ai_leq {b : Int} {t : Bool} (h : decide (a ≤ b) = t) : aInt .leq k k a b = some (.bool t) := by simp only [aInt, if_true, h]
theorem ai_gtr {b : Int} {t : Bool} (h : decide (b < a) = t) : aInt .gtr k k a b = some (.bool t) := by simp only [aInt, if_true, h]
theorem ai_geq {b : Int} {t : Bool} (h : decide (b ≤ a) = t) : aInt .geq k k a b = some (.bool t) := by simp only [aInt, if_true, h]
theorem neq_t {b : Int} (h : a ≠ b) : (!decide (a = b)) = true := by simp [h]
theorem neq_f {b : Int} (h : a = b) : (!decide (a = b)) = false := by simp [h]
end
/-! beginnings -/
theorem init0 (md : Md) : initSt [] md = ⟨fun _ => .k .any, fun _ => none, 0, md⟩ := by
  unfold initSt; congr 1
theorem init1 (a : AV) (md : Md) : initSt [a] md = ⟨upd (fun _ => .k .any) 0 (.k a), fun _ => none, 0, md⟩ := by
  unfold initSt; congr 1; funext t
  match t with
  | 0 => rfl
  | t + 1 => simp [upd]
theorem init2 (a b : AV) (md : Md) : initSt [a, b] md = ⟨upd (upd (fun _ => .k .any) 0 (.k a)) 1 (.k b), fun _ => none, 0, md⟩ := by
  unfold initSt; congr 1; funext t
  match t with
  | 0 => rfl
  | 1 => rfl
  | t + 2 => simp [upd]
theorem init3 (a b c : AV) (md : Md) : initSt [a, b, c] md = ⟨upd (upd (upd (fun _ => .k .any) 0 (.k a)) 1 (.k b)) 2 (.k c), fun _ => none, 0, md⟩ := by
  unfold initSt; congr 1; funext t
  match t with
  | 0 => rfl
  | 1 => rfl
  | 2 => rfl
  | t + 3 => simp [upd]
theorem init4 (a b c d : AV) (md : Md) : initSt [a, b, c, d] md = ⟨upd (upd (upd (upd (fun _ => .k .any) 0 (.k a)) 1 (.k b)) 2 (.k c)) 3 (.k d), fun _ => none, 0, md⟩ := by
  unfold initSt; congr 1; funext t
  match t with
  | 0 => rfl
  | 1 => rfl
  | 2 => rfl
  | 3 => rfl
  | t + 4 => simp [upd]
/-! ends -/
theorem end1 {rs : List ResultVar} {tys : List TypeId} {t : Nat} {u : TypeId} {v r : AV} {s : St} (h1 : rs = [.tmp t]) (h2 : tys = [u]) (h3 : aArg P s u (s.fr t) = some v) (h4 : r = v) : aEndK P rs tys s r := by
  subst h1; subst h2; subst h4; simp [aEndK, aOuts, h3, oneOf, Wk.of_eq]
theorem end2 {rs : List ResultVar} {tys : List TypeId} {t t' : Nat} {u u' : TypeId} {v v' r : AV} {s : St} (h1 : rs = [.tmp t, .tmp t']) (h2 : tys = [u, u']) (h3 : aArg P s u (s.fr t) = some v) (h3' : aArg P s u' (s.fr t') = some v') (h4 : r = .tup [v, v']) : aEndK P rs tys s r := by
  subst h1; subst h2; subst h4; simp [aEndK, aOuts, h3, h3', oneOf, Wk.of_eq]
theorem end3 {rs : List ResultVar} {tys : List TypeId} {t t' t2 : Nat} {u u' u2 : TypeId} {v v' v2 r : AV} {s : St} (h1 : rs = [.tmp t, .tmp t', .tmp t2]) (h2 : tys = [u, u', u2]) (h3 : aArg P s u (s.fr t) = some v) (h3' : aArg P s u' (s.fr t') = some v') (h32 : aArg P s u2 (s.fr t2) = some v2) (h4 : r = .tup [v, v', v2]) : aEndK P rs tys s r := by
  subst h1; subst h2; subst h4; simp [aEndK, aOuts, h3, h3', h32, oneOf, Wk.of_eq]
theorem end2c {rs : List ResultVar} {tys : List TypeId} {p t' : Nat} {u w u' : TypeId} {v v' r : AV} {s : St} (h1 : rs = [.cell p u, .tmp t']) (h2 : tys = [w, u']) (h3 : aLoad P s u (s.fr p) = some (.k v)) (h3' : aArg P s u' (s.fr t') = some v') (h4 : r = .tup [v, v']) : aEndK P rs tys s r := by
  subst h1; subst h2; subst h4; simp [aEndK, aOuts, h3, h3', oneOf, Wk.of_eq]
theorem end1c {rs : List ResultVar} {tys : List TypeId} {p : Nat} {u w : TypeId} {v r : AV} {s : St} (h1 : rs = [.cell p u]) (h2 : tys = [w]) (h3 : aLoad P s u (s.fr p) = some (.k v)) (h4 : r = v) : aEndK P rs tys s r := by
  subst h1; subst h2; subst h4; simp [aEndK, aOuts, h3, oneOf, Wk.of_eq]
theorem loadC {t : TypeId} {x : SV} {e g off sz by_ : Nat} {un : TU} {zr cs : List AV} {v : AV} (hx : x = .ob e g off) (hT : T e = some (g, .obj cs)) (ht : tiOf P t = ⟨true, sz, by_, un, zr⟩) (hl : ldAgg un sz (cs.drop off) = some v) (ho : v.isOw = false) : aLoad P ⟨F, T, ν, md⟩ t x = some (.k v) := by
  subst hx; simp only [aLoad, ht, if_true, St.objOf, hT, Option.bind_some, hl, Option.map_some, of_k ho]
theorem end_r {R : Prop} (h : R) : AEx.fin .ret = true ∧ R := ⟨rfl, h⟩
theorem end_n {R : Prop} (h : R) : AEx.fin .normal = true ∧ R := ⟨rfl, h⟩
theorem endO {rs : List ResultVar} {t d g n : Nat} {e : TypeId} {cs : List AV} (h1 : rs = [.tmp t]) (h2 : F t = .ow d g n e cs) (h3 : T d = some (g, .tag)) (h4 : cs.all AV.sc = true) : aEndO rs ⟨F, T, ν, md⟩ n e cs :=
  ⟨t, d, g, h1, h2, h3, h4⟩
/-- a state, as an invariant wants it -/
theorem upd_self {α : Type} {F : Nat → α} {d : Nat} {v : α} (h : F d = v) : F = upd F d v := by
  funext t; unfold upd; split
  · rename_i e; rw [e, h]
  · rfl
end
end Go.Proofs.Ytikganlbnhapcaa

namespace Go.Proofs.Ytikganlbnhapcaa
open Go.RowKit
set_option linter.unusedVariables false
set_option linter.unusedSimpArgs false
theorem aZeros_len (n sz : Nat) (zr : List AV) : (aZeros n sz zr).length = n * sz := by simp [aZeros]
def sB (l : List UInt8) : ByteArray := ⟨l.toArray⟩
theorem ba_loop (b : ByteArray) : ∀ (n i : Nat) (r : List UInt8), b.size - i = n → ByteArray.toList.loop b i r = r.reverse ++ b.data.toList.drop i
  | 0, i, r, h => by
    rw [ByteArray.toList.loop, if_neg (by omega)]
    have : b.data.toList.length ≤ i := by simp; exact Nat.le_of_sub_eq_zero h
    rw [List.drop_eq_nil_of_le this]; simp
  | n + 1, i, r, h => by
    rw [ByteArray.toList.loop, if_pos (by omega), ba_loop b n (i + 1) _ (by omega)]
    have hi : i < b.data.toList.length := by simp; have : b.size = b.data.size := rfl; omega
    have hi2 : i < b.data.size := by simpa using hi
    rw [List.drop_eq_getElem_cons hi]
    have e : b.data[i]! = b.data[i] := by rw [getElem!_pos b.data i hi2]
    simp [ByteArray.get!, e]
theorem sB_toList (l : List UInt8) : (sB l).toList = l := by
  unfold ByteArray.toList
  rw [ba_loop _ _ 0 [] rfl]; simp [sB]
theorem sB_size (l : List UInt8) : (sB l).size = l.length := by simp [sB, ByteArray.size]
theorem sB_surj (s : ByteArray) : ∃ l, s = sB l := ⟨s.data.toList, by cases s; simp [sB]⟩
theorem beq_dec (l m : List UInt8) : (l == m) = decide (l = m) := by
  by_cases h : l = m
  · subst h; simp
  · simp [h]
theorem aBytes_of : ∀ l : List UInt8, aBytes (l.map fun b => .int .u8 (b.toNat : Int)) = some l
  | [] => rfl
  | b :: l => by
    simp only [List.map_cons, aBytes, aByte, aBytes_of l, Int.toNat_natCast]
    simp
theorem aBytes_of' (l : List UInt8) : aBytes (aOfBytes l) = some l := aBytes_of l
section
variable {P : Program} {γ : Nat} {F : Nat → SV} {T : Nat → Option (Nat × Ent)} {ν : Nat} {md : Md} {s : St} {s1 : St} {d : Nat} {dst : Option Nat} {ty t u : TypeId} {x y : Operand} {b : Bool}
variable {sz by_ : Nat} {zr : List AV} {un : TU} {ok : Bool} {el : TypeId} {sz2 by2 : Nat} {un2 : TU} {zr2 : List AV} {ok2 : Bool} {k : IntKind}
theorem d_mark {e g n : Nat} {e' : TypeId} {cs : List AV} (hx : St.ev ⟨F, T, ν, md⟩ x = .ow e g n e' cs) (hT : T e = some (g, .tag)) (ht : tiOf P t = ⟨ok, sz, by_, .sl el, zr⟩) (he : tiOf P el = ⟨true, sz2, by2, .int .u8, zr2⟩) (hn : 0 < n) :
    Det P γ ⟨F, T, ν, md⟩ (some d) (.convert t t x) ⟨upd F d (.k (.sl false n cs)), upd T e none, ν, md⟩ := Det.mk <| by
  have h1 : aConv P ⟨F, T, ν, md⟩ t t (.ow e g n e' cs) = none := by
    unfold aConv; simp only [ht]
    split <;> rfl
  simp only [aDet, aConvX, hx, h1, aMark, ht, elemOf?, Option.bind_some, he, hT, hn, and_self, if_true, Option.map_some, St.set, St.put]
theorem d_str {n : Nat} {cs : List AV} {l : List UInt8} (ht : tiOf P t = ⟨true, sz, by_, .sl el, zr⟩) (he : tiOf P el = ⟨ok, sz2, by2, .int .u8, zr2⟩) {sz3 by3 : Nat} {zr3 : List AV} {ok3 : Bool} (hu : tiOf P u = ⟨ok3, sz3, by3, .str, zr3⟩)
    (hx : St.cont ⟨F, T, ν, md⟩ 1 (St.ev ⟨F, T, ν, md⟩ x) = some (n, cs)) (hb : aBytes cs = some l) : Det P γ ⟨F, T, ν, md⟩ (some d) (.convert t u x) ⟨upd F d (.k (.str (sB l))), T, ν, md⟩ := Det.mk <| by
  simp only [aDet, aConvX, aConv, ht, hu, he, hx, Option.bind_some, hb, if_true, Option.map_some, St.put, sB]
theorem cmpNil_str {u : TU} {op : BinOp} {v : ByteArray} {y : Operand} : aCmpNil u op (.k (.str v)) y = none := by
  unfold aCmpNil nilSl; split <;> simp_all
theorem cmpNil_bool {u : TU} {op : BinOp} {v : Bool} {y : Operand} : aCmpNil u op (.k (.bool v)) y = none := by
  unfold aCmpNil nilSl; split <;> simp_all
theorem src_str {t' : TypeId} {l : List UInt8} (he : tiOf P el = ⟨true, sz2, by2, un2, zr2⟩) (hu : tiOf P t' = ⟨ok, sz, by_, .str, zr⟩) (hy : St.ev s y = .k (.str (sB l))) (hne : t ≠ t') (h1 : sz2 = 1) : aSrc P s el t t' (St.ev s y) = some (l.length, aOfBytes l) := by
  have h := src_strB he hu hy hne h1
  rw [sB_size] at h
  exact h
theorem d_streq {l m : List UInt8} {r : Bool} (hx : St.ev ⟨F, T, ν, md⟩ x = .k (.str (sB l))) (hy : St.ev ⟨F, T, ν, md⟩ y = .k (.str (sB m))) (hr : decide (l = m) = r) : Det P γ ⟨F, T, ν, md⟩ (some d) (.binOp .eql t x y u) ⟨upd F d (.k (.bool r)), T, ν, md⟩ := Det.mk <|
  dv rfl (by simp only [aVal, hx, hy, cmpNil_str, aBin, SV.av, sB_toList, Option.map_some, ← hr, beq_dec])
theorem d_strne {l m : List UInt8} {r : Bool} (hx : St.ev ⟨F, T, ν, md⟩ x = .k (.str (sB l))) (hy : St.ev ⟨F, T, ν, md⟩ y = .k (.str (sB m))) (hr : (!decide (l = m)) = r) : Det P γ ⟨F, T, ν, md⟩ (some d) (.binOp .neq t x y u) ⟨upd F d (.k (.bool r)), T, ν, md⟩ := Det.mk <|
  dv rfl (by simp only [aVal, hx, hy, cmpNil_str, aBin, SV.av, sB_toList, Option.map_some, ← hr, beq_dec])
theorem d_beq {p q r : Bool} (hx : St.ev ⟨F, T, ν, md⟩ x = .k (.bool p)) (hy : St.ev ⟨F, T, ν, md⟩ y = .k (.bool q)) (ht : tiOf P t = ⟨ok, sz, by_, .bool, zr⟩) (hr : (p == q) = r) : Det P γ ⟨F, T, ν, md⟩ (some d) (.binOp .eql t x y u) ⟨upd F d (.k (.bool r)), T, ν, md⟩ := Det.mk <|
  dv rfl (by simp only [aVal, hx, hy, ht, cmpNil_bool, aBin, SV.av, Option.map_some, hr])
theorem d_bne {p q r : Bool} (hx : St.ev ⟨F, T, ν, md⟩ x = .k (.bool p)) (hy : St.ev ⟨F, T, ν, md⟩ y = .k (.bool q)) (ht : tiOf P t = ⟨ok, sz, by_, .bool, zr⟩) (hr : (!(p == q)) = r) : Det P γ ⟨F, T, ν, md⟩ (some d) (.binOp .neq t x y u) ⟨upd F d (.k (.bool r)), T, ν, md⟩ := Det.mk <|
  dv rfl (by simp only [aVal, hx, hy, ht, cmpNil_bool, aBin, SV.av, Option.map_some, hr])
theorem d_copy {e g off n cap m r : Nat} {cs vs cs' : List AV} {t2 : TypeId} (hx : St.ev ⟨F, T, ν, md⟩ x = .os e g off n cap) (hT : T e = some (g, .obj cs)) (ht : tiOf P t = ⟨ok, sz, by_, .sl el, zr⟩) (he : tiOf P el = ⟨true, 1, by2, un2, zr2⟩) (hy : St.cont ⟨F, T, ν, md⟩ 1 (St.ev ⟨F, T, ν, md⟩ y) = some (m, vs)) (hl : off + n ≤ cs.length)
    (hm : min m n = r) (hr : cs.take off ++ vs.take n ++ cs.drop (off + r) = cs') : Det P γ ⟨F, T, ν, md⟩ (some d) (.call ⟨.builtin .copy, #[x, y], #[t, t2]⟩) ⟨upd F d (.k (.int .i64 (r : Int))), upd T e (some (g, .obj cs')), ν, md⟩ := Det.mk <| by
  subst hm hr
  simp only [aDet, aBuiltX, aCopy, hx, hT, ht, elemOf?, Option.bind_some, he, hy, hl, and_self, if_true, Option.map_some, St.put, St.set]
theorem d_copy0 {e g off n cap m r : Nat} {cs vs cs' : List AV} {t2 : TypeId} (hx : St.ev ⟨F, T, ν, md⟩ x = .os e g off n cap) (hT : T e = some (g, .obj cs)) (ht : tiOf P t = ⟨ok, sz, by_, .sl el, zr⟩) (he : tiOf P el = ⟨true, 1, by2, un2, zr2⟩) (hy : St.cont ⟨F, T, ν, md⟩ 1 (St.ev ⟨F, T, ν, md⟩ y) = some (m, vs)) (hl : off + n ≤ cs.length)
    (hm : min m n = r) (hr : cs.take off ++ vs.take n ++ cs.drop (off + r) = cs') : Det P γ ⟨F, T, ν, md⟩ none (.call ⟨.builtin .copy, #[x, y], #[t, t2]⟩) ⟨F, upd T e (some (g, .obj cs')), ν, md⟩ := Det.mk <| by
  subst hm hr
  simp only [aDet, aBuiltX, aCopy, hx, hT, ht, elemOf?, Option.bind_some, he, hy, hl, and_self, if_true, Option.map_some, St.put, St.set]
theorem d_idx_arr {n : Nat} {cs : List AV} {j : Int} {v : AV} (hx : St.ev ⟨F, T, ν, md⟩ x = .k (.agg cs)) (hj : St.ev ⟨F, T, ν, md⟩ y = .k (.int k j)) (ht : tiOf P t = ⟨ok, sz, by_, .arr n el, zr⟩) (he : tiOf P el = ⟨true, sz2, by2, un2, zr2⟩) (h0 : 0 ≤ j) (h1 : j < n) (hl : ldAgg un2 sz2 (cs.drop (j.toNat * sz2)) = some v) :
    Det P γ ⟨F, T, ν, md⟩ (some d) (.index t x y) ⟨upd F d (.k v), T, ν, md⟩ := Det.mk <|
  dv rfl (by simp only [aVal, hx, hj, St.int?, SV.av, Option.bind_some, ht, aIdx, he]; rw [if_pos ⟨trivial, h0, h1⟩, hl]; rfl)
theorem aEqCs_bytes : ∀ (l m : List UInt8), l.length = m.length → aEqCs (aOfBytes l) (aOfBytes m) = some (decide (l = m))
  | [], [], _ => rfl
  | [], _ :: _, h => by simp at h
  | _ :: _, [], h => by simp at h
  | a :: l, b :: m, h => by
    have ih := aEqCs_bytes l m (by simpa using h)
    show (if IntKind.u8 = IntKind.u8 then (aEqCs (aOfBytes l) (aOfBytes m)).map fun r => decide ((a.toNat : Int) = (b.toNat : Int)) && r else none) = _
    rw [if_pos rfl, ih, Option.map_some]
    congr 1
    have e : ((a.toNat : Int) = (b.toNat : Int)) ↔ a = b := by rw [← UInt8.toNat_inj]; omega
    by_cases h1 : a = b
    · by_cases h2 : l = m
      · simp [h1, h2]
      · simp [h1, h2]
    · have h3 : ¬ ((a.toNat : Int) = (b.toNat : Int)) := fun c => h1 (e.1 c)
      simp [h1, h3]
theorem cmpNil_agg {u : TU} {op : BinOp} {v : List AV} {y : Operand} : aCmpNil u op (.k (.agg v)) y = none := by
  unfold aCmpNil nilSl; split <;> simp_all
theorem aBin_agg {u : TU} {op : BinOp} {v m : List AV} : aBin u op (.k (.agg v)) (.k (.agg m)) = none := rfl
theorem d_aggG {cs ds : List AV} {n : Nat} {r : Bool} (hx : St.ev ⟨F, T, ν, md⟩ x = .k (.agg cs)) (hy : St.ev ⟨F, T, ν, md⟩ y = .k (.agg ds)) (ht : tiOf P t = ⟨ok, n, by_, un, zr⟩) (hf : flatT P t = some n) (hl : cs.length = n) (he : aEqCs cs ds = some r) :
    Det P γ ⟨F, T, ν, md⟩ (some d) (.binOp .eql t x y u) ⟨upd F d (.k (.bool r)), T, ν, md⟩ := Det.mk <|
  dv rfl (by simp only [aVal, hx, hy, cmpNil_agg, aBin_agg, SV.av, aAggEq, hf, hl, if_true, he, Option.map_some])
theorem d_aggGn {cs ds : List AV} {n : Nat} {r q : Bool} (hx : St.ev ⟨F, T, ν, md⟩ x = .k (.agg cs)) (hy : St.ev ⟨F, T, ν, md⟩ y = .k (.agg ds)) (ht : tiOf P t = ⟨ok, n, by_, un, zr⟩) (hf : flatT P t = some n) (hl : cs.length = n) (he : aEqCs cs ds = some r) (hq : (!r) = q) :
    Det P γ ⟨F, T, ν, md⟩ (some d) (.binOp .neq t x y u) ⟨upd F d (.k (.bool q)), T, ν, md⟩ := Det.mk <| by
  subst hq
  exact dv rfl (by simp only [aVal, hx, hy, cmpNil_agg, aBin_agg, SV.av, aAggEq, hf, hl, if_true, he, Option.map_some])
theorem d_aeq {l m : List UInt8} {n : Nat} {r : Bool} (hx : St.ev ⟨F, T, ν, md⟩ x = .k (.agg (aOfBytes l))) (hy : St.ev ⟨F, T, ν, md⟩ y = .k (.agg (aOfBytes m))) (ht : tiOf P t = ⟨ok, n, by_, un, zr⟩) (hf : flatT P t = some n) (hl : l.length = n) (hm : m.length = n) (hr : decide (l = m) = r) :
    Det P γ ⟨F, T, ν, md⟩ (some d) (.binOp .eql t x y u) ⟨upd F d (.k (.bool r)), T, ν, md⟩ :=
  d_aggG hx hy ht hf (by simp [aOfBytes, hl]) (by rw [aEqCs_bytes l m (by omega), hr])
theorem d_ane {l m : List UInt8} {n : Nat} {r : Bool} (hx : St.ev ⟨F, T, ν, md⟩ x = .k (.agg (aOfBytes l))) (hy : St.ev ⟨F, T, ν, md⟩ y = .k (.agg (aOfBytes m))) (ht : tiOf P t = ⟨ok, n, by_, un, zr⟩) (hf : flatT P t = some n) (hl : l.length = n) (hm : m.length = n) (hr : (!decide (l = m)) = r) :
    Det P γ ⟨F, T, ν, md⟩ (some d) (.binOp .neq t x y u) ⟨upd F d (.k (.bool r)), T, ν, md⟩ :=
  d_aggGn hx hy ht hf (by simp [aOfBytes, hl]) (by rw [aEqCs_bytes l m (by omega)]) hr
theorem d_ptr {op : BinOp} {e2 : TypeId} {p : SV} {b r : Bool} (hx : St.ev ⟨F, T, ν, md⟩ x = p) (hy : St.ev ⟨F, T, ν, md⟩ y = .k (.raw (.pointer none))) (ht : tiOf P t = ⟨ok, sz, by_, .ptr e2, zr⟩) (hn : p.isNil = some b) (hr : (match op with | .eql => some b | .neq => some (!b) | _ => none) = some r) :
    Det P γ ⟨F, T, ν, md⟩ (some d) (.binOp op t x y u) ⟨upd F d (.k (.bool r)), T, ν, md⟩ := by
  have hc : aCmpNil (.ptr e2) op p y = none := by unfold aCmpNil; split <;> simp_all
  refine d_bin hx hy ht hc ?_
  unfold SV.isNil at hn
  split at hn
  · injection hn with hn; subst hn
    split at hr <;> first | (injection hr with hr; subst hr; rfl) | cases hr
  · injection hn with hn; subst hn
    split at hr <;> first | (injection hr with hr; subst hr; rfl) | cases hr
  · injection hn with hn; subst hn
    split at hr <;> first | (injection hr with hr; subst hr; rfl) | cases hr
  · cases hn
theorem d_aptr_k {full : Bool} {n m : Nat} {cs : List AV} (hx : St.ev ⟨F, T, ν, md⟩ x = .k (.sl full m cs)) (ht : tiOf P t = ⟨ok, sz, by_, .arr n el, zr⟩) (h1 : n ≤ m) (h2 : 0 < cs.length) : Det P γ ⟨F, T, ν, md⟩ (some d) (.sliceToArrayPointer t x) ⟨upd F d (.k (.cp cs)), T, ν, md⟩ := Det.mk <|
  dv rfl (by simp only [aVal, hx, ht, aArrPtr]; rw [if_pos ⟨h1, h2⟩])
theorem d_aptr_ow {e g m n : Nat} {e' : TypeId} {cs : List AV} (hx : St.ev ⟨F, T, ν, md⟩ x = .ow e g m e' cs) (ht : tiOf P t = ⟨ok, sz, by_, .arr n el, zr⟩) (h1 : n ≤ m) (h2 : 0 < cs.length) : Det P γ ⟨F, T, ν, md⟩ (some d) (.sliceToArrayPointer t x) ⟨upd F d (.k (.cp cs)), T, ν, md⟩ := Det.mk <|
  dv rfl (by simp only [aVal, hx, ht, aArrPtr]; rw [if_pos ⟨h1, h2⟩])
theorem d_aptr_os {e g off m cap n : Nat} (hx : St.ev ⟨F, T, ν, md⟩ x = .os e g off m cap) (ht : tiOf P t = ⟨ok, sz, by_, .arr n el, zr⟩) (h1 : n ≤ m) : Det P γ ⟨F, T, ν, md⟩ (some d) (.sliceToArrayPointer t x) ⟨upd F d (.ob e g off), T, ν, md⟩ := Det.mk <|
  dv rfl (by simp only [aVal, hx, ht, aArrPtr]; rw [if_pos h1])
theorem sne_f {l m : List UInt8} (h : l = m) : (!decide (l = m)) = false := by simp [h]
theorem sne_t {l m : List UInt8} (h : ¬ l = m) : (!decide (l = m)) = true := by simp [h]
end
end Go.Proofs.Ytikganlbnhapcaa

namespace Go.Proofs.Ytikganlbnhapcaa
open Go.RowKit
set_option linter.unusedVariables false
set_option linter.unusedSimpArgs false

/-! rows of words of 32 bits; steps on words and on bytes that stay words and bytes -/
def aOfW (l : List (BitVec 32)) : List AV := l.map fun x => .int .u32 (n32 x)
theorem aOfW_len (l : List (BitVec 32)) : (aOfW l).length = l.length := by simp [aOfW]
theorem aOfW_append (a b : List (BitVec 32)) : aOfW (a ++ b) = aOfW a ++ aOfW b := by simp [aOfW]
theorem aOfW_cons (a : BitVec 32) (b : List (BitVec 32)) : aOfW (a :: b) = .int .u32 (n32 a) :: aOfW b := rfl
theorem aOfW_nil : aOfW [] = [] := rfl
theorem aOfW_drop (a : List (BitVec 32)) (n : Nat) : (aOfW a).drop n = aOfW (a.drop n) := by simp [aOfW]
theorem aOfW_take (a : List (BitVec 32)) (n : Nat) : (aOfW a).take n = aOfW (a.take n) := by simp [aOfW]
theorem noalW (l : List (BitVec 32)) : (RV.k (.agg (aOfW l))).noal = true := by simp [RV.noal, AV.noal, AV.noal1, AV.sc, aOfW]
theorem noalB (l : List UInt8) : (RV.k (.agg (aOfBytes l))).noal = true := by simp [RV.noal, AV.noal, AV.noal1, AV.sc, aOfBytes]
theorem wadd32 (x y : BitVec 32) : IntKind.u32.wrap (n32 x + n32 y) = n32 (x + y) := by
  rw [IntKind.wrap_u32]
  unfold n32
  rw [BitVec.toNat_add]
  omega
theorem wshl32 (x : BitVec 32) (n : Nat) : IntKind.u32.wrap (n32 x * 2 ^ (min n 32)) = n32 (x <<< n) := by
  rw [IntKind.wrap_u32]
  unfold n32
  rw [BitVec.toNat_shiftLeft, Nat.shiftLeft_eq]
  rcases Nat.lt_or_ge n 32 with h | h
  · rw [Nat.min_eq_left (by omega)]
    have : (((x.toNat * 2 ^ n % 2 ^ 32 : Nat) : Nat) : Int) = ((x.toNat : Int) * 2 ^ n) % 4294967296 := by
      rw [Int.natCast_emod, Int.natCast_mul, Int.natCast_pow]; rfl
    rw [this]
  · rw [Nat.min_eq_right (by omega)]
    have e1 : x.toNat * 2 ^ n % 2 ^ 32 = 0 := by
      rw [show n = 32 + (n - 32) by omega, Nat.pow_add, ← Nat.mul_assoc, Nat.mul_right_comm]
      exact Nat.mul_mod_left _ _
    rw [e1]
    have : ((2 : Int) ^ 32) = 4294967296 := rfl
    rw [this]; omega
theorem wshr32 (x : BitVec 32) (n : Nat) : (n32 x) / 2 ^ (min n 32) = n32 (x >>> n) := by
  unfold n32
  rw [BitVec.toNat_ushiftRight, Nat.shiftRight_eq_div_pow]
  rcases Nat.lt_or_ge n 32 with h | h
  · rw [Nat.min_eq_left (by omega)]
    rw [Int.natCast_ediv, Int.natCast_pow]; rfl
  · rw [Nat.min_eq_right (by omega)]
    have h1 := x.isLt
    have e1 : x.toNat / 2 ^ n = 0 := Nat.div_eq_of_lt (Nat.lt_of_lt_of_le h1 (Nat.pow_le_pow_right (by omega) h))
    rw [e1]
    have : ((2 : Int) ^ 32) = 4294967296 := rfl
    rw [this]; omega
section
variable {k k' : IntKind}
theorem ai_xor32 {x y : BitVec 32} : aInt .xor .u32 .u32 (n32 x) (n32 y) = some (.int .u32 (n32 (x ^^^ y))) := ai_xor (bxor32 x y)
theorem ai_and32 {x y : BitVec 32} : aInt .and .u32 .u32 (n32 x) (n32 y) = some (.int .u32 (n32 (x &&& y))) := ai_and (band32 x y)
theorem ai_or32 {x y : BitVec 32} : aInt .or .u32 .u32 (n32 x) (n32 y) = some (.int .u32 (n32 (x ||| y))) := ai_or (bor32 x y)
theorem ai_add32 {x y : BitVec 32} : aInt .add .u32 .u32 (n32 x) (n32 y) = some (.int .u32 (n32 (x + y))) := ai_add rfl (wadd32 x y)
theorem ai_shl32 {x : BitVec 32} {b : Int} {n : Nat} (h0 : 0 ≤ b) (hn : b.toNat = n) : aInt .shl .u32 k' (n32 x) b = some (.int .u32 (n32 (x <<< n))) := by
  subst hn; exact ai_shl h0 rfl (wshl32 x _)
theorem ai_shr32 {x : BitVec 32} {b : Int} {n : Nat} (h0 : 0 ≤ b) (hn : b.toNat = n) : aInt .shr .u32 k' (n32 x) b = some (.int .u32 (n32 (x >>> n))) := by
  subst hn; exact ai_shr h0 rfl (wshr32 x _)
theorem bx8 (x y : UInt8) : Go.bits .xor .u8 (x.toNat : Int) (y.toNat : Int) = ((x ^^^ y).toNat : Int) := bxor8 x.toBitVec y.toBitVec
theorem bo8 (x y : UInt8) : Go.bits .or .u8 (x.toNat : Int) (y.toNat : Int) = ((x ||| y).toNat : Int) := bor8 x.toBitVec y.toBitVec
theorem ba8 (x y : UInt8) : Go.bits .and .u8 (x.toNat : Int) (y.toNat : Int) = ((x &&& y).toNat : Int) := band8 x.toBitVec y.toBitVec
theorem ai_xor8 {x y : UInt8} : aInt .xor .u8 .u8 (x.toNat : Int) (y.toNat : Int) = some (.int .u8 ((x ^^^ y).toNat : Int)) := ai_xor (bx8 x y)
theorem ai_and8 {x y : UInt8} : aInt .and .u8 .u8 (x.toNat : Int) (y.toNat : Int) = some (.int .u8 ((x &&& y).toNat : Int)) := ai_and (ba8 x y)
theorem ai_or8 {x y : UInt8} : aInt .or .u8 .u8 (x.toNat : Int) (y.toNat : Int) = some (.int .u8 ((x ||| y).toNat : Int)) := ai_or (bo8 x y)
end
section
variable {P : Program} {γ : Nat} {F : Nat → SV} {T : Nat → Option (Nat × Ent)} {ν : Nat} {md : Md} {d : Nat} {t u : TypeId} {x : Operand}
variable {sz by_ : Nat} {zr : List AV} {un : TU} {ok : Bool} {sz2 by2 : Nat} {zr2 : List AV} {ok2 : Bool}
theorem d_inv32 {v : BitVec 32} (hx : St.ev ⟨F, T, ν, md⟩ x = .k (.int .u32 (n32 v))) : Det P γ ⟨F, T, ν, md⟩ (some d) (.unOp .xor t x) ⟨upd F d (.k (.int .u32 (n32 (~~~ v)))), T, ν, md⟩ :=
  d_inv hx (bnot32 v)
theorem cv8_32 (b : UInt8) : IntKind.u32.wrap (b.toNat : Int) = n32 (b.toBitVec.setWidth 32) := by
  rw [IntKind.wrap_u32]; exact conv8_32 b.toBitVec
theorem cv32_8 (v : BitVec 32) : IntKind.u8.wrap (n32 v) = ((UInt8.ofBitVec (v.setWidth 8)).toNat : Int) := by
  rw [IntKind.wrap_u8]
  show _ = ((v.setWidth 8).toNat : Int)
  unfold n32
  rw [BitVec.toNat_setWidth]
  omega
theorem d_conv8_32 {b : UInt8} (hx : St.ev ⟨F, T, ν, md⟩ x = .k (.int .u8 (b.toNat : Int))) (ht : tiOf P t = ⟨true, sz, by_, .int .u8, zr⟩) (hu : tiOf P u = ⟨ok2, sz2, by2, .int .u32, zr2⟩) : Det P γ ⟨F, T, ν, md⟩ (some d) (.convert t u x) ⟨upd F d (.k (.int .u32 (n32 (b.toBitVec.setWidth 32)))), T, ν, md⟩ :=
  d_conv hx ht ⟨_, rfl⟩ hu (cv8_32 b)
theorem d_conv32_8 {v : BitVec 32} (hx : St.ev ⟨F, T, ν, md⟩ x = .k (.int .u32 (n32 v))) (ht : tiOf P t = ⟨true, sz, by_, .int .u32, zr⟩) (hu : tiOf P u = ⟨ok2, sz2, by2, .int .u8, zr2⟩) : Det P γ ⟨F, T, ν, md⟩ (some d) (.convert t u x) ⟨upd F d (.k (.int .u8 ((UInt8.ofBitVec (v.setWidth 8)).toNat : Int))), T, ν, md⟩ :=
  d_conv hx ht ⟨_, rfl⟩ hu (cv32_8 v)
end
end Go.Proofs.Ytikganlbnhapcaa

