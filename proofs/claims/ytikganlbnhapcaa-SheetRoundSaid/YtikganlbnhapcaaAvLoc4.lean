import Derived.Test.YtikganlbnhapcaaAvLoc3
namespace Go.Proofs.Ytikganlbnhapcaa
open Go.RowKit
set_option linter.unusedVariables false
set_option linter.unusedSimpArgs false
section
variable {P : Program} {s s2 : St}
theorem aDet_loc {γ : Nat} {dst : Option Nat} {op : Op} {s' : St} (h : aDet P γ s dst op = some s') : Loc (fun s2 => aDet P γ s2 dst op) s dst op.operands.toList (rdKeys s op) (wrKeys s dst op) s' := by
  cases op
  case alloc e =>
    simp only [aDet, Option.bind_eq_some_iff] at h
    obtain ⟨d, rfl, h⟩ := h
    exact (alloc_loc h).mono (fun d e => e) (by simp) (by simp) (by simp [wrKeys]) (fun s2 => rfl)
  case box t x =>
    simp only [aDet, Option.bind_eq_some_iff] at h
    obtain ⟨d, rfl, h⟩ := h
    exact (box_loc h).mono (fun d e => e) (by simp [Op.operands]) (by simp) (by simp [wrKeys]) (fun s2 => rfl)
  case buildSlice t n parts =>
    simp only [aDet, Option.bind_eq_some_iff] at h
    obtain ⟨d, rfl, h⟩ := h
    exact (buildSl_loc h).mono (fun d e => e) (fun x hx => hx) (by simp) (by simp [wrKeys]) (fun s2 => rfl)
  case makeSlice t l c =>
    simp only [aDet, Option.bind_eq_some_iff] at h
    obtain ⟨d, rfl, n, hn, m, hm, h⟩ := h
    obtain ⟨D, h1, h2, h3, h4⟩ := make_loc h
    refine ⟨D, h1, h2, fun p hp => by simpa [wrKeys] using h3 p hp, fun s2 hmd ha ht => ?_⟩
    simp only [aDet, Option.bind_some, int_loc (s := s) (s2 := s2) (ha l (by simp [Op.operands])), int_loc (s := s) (s2 := s2) (ha c (by simp [Op.operands])), hn, hm]
    exact h4 s2 hmd (fun x hx => by simp at hx) (fun d hd => by simp at hd)
  case store t x y =>
    simp only [aDet, Option.map_eq_some_iff] at h
    obtain ⟨q, hq, rfl⟩ := h
    obtain ⟨D, h1, h2, h3, h4⟩ := store_loc hq
    have hv : D.v = none := by
      cases hD : D.v with
      | none => rfl
      | some p => exact absurd (h2 p.1 p.2 (by rw [hD])) (by simp)
    obtain ⟨v, e⟩ := D
    subst hv
    refine ⟨⟨dst.map fun d => (d, .k .any), e⟩, by rw [h1, then_put], map_dst, fun p hp => mem_opKeys (x := x) (by simp [Op.operands]) (h3 p hp), fun s2 hmd ha ht => ?_⟩
    have := h4 s2 hmd ha (fun d hd => ht d (mem_opKeys (x := x) (by simp [Op.operands]) hd))
    simp only at this
    simp only [aDet, this, Option.map_some, then_put]
  case convert t u x =>
    exact (conv_loc h).mono (fun d e => e) (by simp [Op.operands]) (fun k hk => mem_opKeys (x := x) (by simp [Op.operands]) hk) (fun k hk => mem_opKeys (x := x) (by simp [Op.operands]) hk) (fun s2 => rfl)
  case call c =>
    obtain ⟨cal, args, ts⟩ := c
    cases cal with
    | builtin b =>
      have h' : aBuiltX P γ s dst b args.toList ts.toList = some s' := h
      have hk : ∀ k ∈ args.toList.flatMap (fun x => keyOf (s.ev x)), k ∈ opKeys s (.call ⟨.builtin b, args, ts⟩) := by
        intro k hk
        simp only [List.mem_flatMap] at hk
        obtain ⟨x, hx, hk⟩ := hk
        exact mem_opKeys (x := x) (callOperands ⟨.builtin b, args, ts⟩ x hx) hk
      refine (builtX_loc h').mono (fun d e => e) (fun x hx => callOperands ⟨.builtin b, args, ts⟩ x hx) (fun k h1 => ?_) (fun k h1 => ?_) (fun s2 => rfl)
      · split at h1
        · rename_i hb
          rcases hb with rfl | rfl <;> exact hk k h1
        · simp at h1
      · split at h1
        · rename_i hb; subst hb
          simp only [List.mem_append] at h1
          simp only [wrKeys, List.mem_append]
          exact h1.imp id (hk k)
        · split at h1
          · rename_i hb; subst hb; exact hk k h1
          · simp at h1
    | value f => simp [aDet] at h
    | invoke r m => simp [aDet] at h
  all_goals exact (val_loc (fun s2 => rfl) h).mono (fun d e => e) (fun x hx => hx) (fun k hk => hk) (by simp) (fun s2 => rfl)
theorem aArg_loc {t : TypeId} {x : SV} (h : ∀ d ∈ keyOf x, s2.tb d = s.tb d) : aArg P s2 t x = aArg P s t x := by
  cases x with
  | k v => rfl
  | ob d g off => simp only [aArg, objOf_loc (s := s) (s2 := s2) (h d (by simp [keyOf]))]
  | os d g off n cap => simp only [aArg, objOf_loc (s := s) (s2 := s2) (h d (by simp [keyOf]))]
  | ow d g n e cs => rfl
theorem aArgs_loc : ∀ {xs : List SV} {ts : List TypeId}, (∀ x ∈ xs, ∀ d ∈ keyOf x, s2.tb d = s.tb d) → aArgs P s2 xs ts = aArgs P s xs ts
  | [], [], _ => rfl
  | [], _ :: _, _ => rfl
  | _ :: _, [], _ => rfl
  | x :: xs, t :: ts, h => by
    simp only [aArgs, aArg_loc (s := s) (s2 := s2) (h x (by simp)), aArgs_loc (xs := xs) (ts := ts) (fun y hy => h y (by simp [hy]))]
theorem isK_loc {x : SV} (h : ∀ d ∈ keyOf x, s2.tb d = s.tb d) : s2.isK x = s.isK x := by
  cases x with
  | k v => rfl
  | ob d g off => simp only [St.isK, h d (by simp [keyOf])]
  | os d g off n cap => simp only [St.isK, h d (by simp [keyOf])]
  | ow d g n e cs => rfl
theorem res_loc {γ : Nat} {dst : Option Nat} {r : RV} {s' : St} (h : s.res dst γ r = some s') : ∃ D : Dl, s' = D.ap s ∧ (∀ d v, D.v = some (d, v) → dst = some d) ∧ (∀ p ∈ D.t, p.1 ∈ dst.toList) ∧ ∀ s2 : St, s2.md = s.md → s2.res dst γ r = some (D.ap s2) := by
  cases r with
  | k x =>
    simp only [St.res, Option.some.injEq] at h; subst h
    exact ⟨_, put_ap _ _ _, map_dst, by simp, fun s2 _ => by simp only [St.res, put_ap]⟩
  | own n e cells =>
    cases dst with
    | none =>
      simp only [St.res, Option.some.injEq] at h; subst h
      exact ⟨⟨none, []⟩, rfl, by simp, by simp, fun s2 _ => rfl⟩
    | some d =>
      simp only [St.res] at h
      by_cases hm : s.md d = true
      · rw [if_pos hm] at h
        split at h
        · rename_i h0
          injection h with h; subst h
          exact ⟨_, mk1_ap _ _ _ _ _, fun d' v e => by simp at e; simp [e.1], by simp, fun s2 hmd => by simp only [St.res]; rw [hmd, if_pos hm, if_pos h0, mk1_ap]⟩
        · cases h
      · rw [if_neg hm] at h
        injection h with h; subst h
        exact ⟨_, mkT_ap _ _ _ _, fun d' v e => by simp at e; simp [e.1], by simp, fun s2 hmd => by simp only [St.res]; rw [hmd, if_neg hm, mkT_ap]⟩
/-- one step, as a relation -/
def CStep (P : Program) (γ : Nat) (s : St) (dst : Option Nat) (f : FuncId) (args : List Operand) (ts : List TypeId) (s' : St) : Prop :=
  ∃ ys r, aArgs P s (args.map s.ev) ts = some ys ∧ Spec P f ys r ∧ ((args.all fun x => s.isK (s.ev x)) = true ∨ r.noal = true) ∧ s.res dst γ r = some s'
def AStep (P : Program) (γ : Nat) (s : St) (o : Oper) (s' : St) : Prop :=
  match o.op with
  | .call { callee := .value (.func f), args := args, argTypes := ts } => CStep P γ s o.dst f args.toList ts.toList s'
  | op => aDet P γ s o.dst op = some s'
theorem aOp_step {γ : Nat} {o : Oper} {K : St → Prop} : aOp P γ s o K ↔ ∃ s', AStep P γ s o s' ∧ K s' := by
  unfold aOp AStep
  split
  · rename_i f args ts ho
    simp only [ho]
    constructor
    · rintro ⟨ys, r, s', h1, h2, h3, h4, h5⟩
      exact ⟨s', ⟨ys, r, h1, h2, h3, h4⟩, h5⟩
    · rintro ⟨s', ⟨ys, r, h1, h2, h3, h4⟩, h5⟩
      exact ⟨ys, r, s', h1, h2, h3, h4, h5⟩
  · rename_i hno
    have e : ∀ s', (match o.op with
      | .call { callee := .value (.func f), args := args, argTypes := ts } => CStep P γ s o.dst f args.toList ts.toList s'
      | op => aDet P γ s o.dst op = some s') ↔ aDet P γ s o.dst o.op = some s' := by
      intro s'
      split
      · rename_i f args ts ho; exact absurd ho (hno f args ts)
      · exact Iff.rfl
    constructor
    · intro h
      split at h
      · rename_i s' hs; exact ⟨s', (e s').2 hs, h⟩
      · exact h.elim
    · rintro ⟨s', h1, h2⟩
      rw [(e s').1 h1]; exact h2
theorem cstep_loc {γ : Nat} {dst : Option Nat} {f : FuncId} {args : List Operand} {ts : List TypeId} {s' : St} (h : CStep P γ s dst f args ts s') :
    ∃ D : Dl, s' = D.ap s ∧ (∀ d v, D.v = some (d, v) → dst = some d) ∧ (∀ p ∈ D.t, p.1 ∈ dst.toList) ∧ ∀ s2 : St, s2.md = s.md → AgE s s2 args → (∀ x ∈ args, ∀ d ∈ keyOf (s.ev x), s2.tb d = s.tb d) → CStep P γ s2 dst f args ts (D.ap s2) := by
  obtain ⟨ys, r, h1, h2, h3, h4⟩ := h
  obtain ⟨D, k1, k2, k3, k4⟩ := res_loc h4
  refine ⟨D, k1, k2, k3, fun s2 hmd ha ht => ⟨ys, r, ?_, h2, ?_, k4 s2 hmd⟩⟩
  · rw [show args.map s2.ev = args.map s.ev from List.map_congr_left ha, aArgs_loc (s := s), h1]
    intro x hx
    obtain ⟨y, hy, rfl⟩ := List.mem_map.1 hx
    exact ht y hy
  · refine h3.imp (fun h => ?_) id
    simp only [List.all_eq_true] at h ⊢
    intro x hx
    rw [ha x hx, isK_loc (s := s) (ht x hx)]; exact h x hx
theorem astep_loc {γ : Nat} {o : Oper} {s' : St} (h : AStep P γ s o s') :
    ∃ D : Dl, s' = D.ap s ∧ (∀ d v, D.v = some (d, v) → o.dst = some d) ∧ (∀ p ∈ D.t, p.1 ∈ wrKeys s o.dst o.op) ∧ ∀ s2 : St, s2.md = s.md → AgE s s2 o.op.operands.toList → (∀ d ∈ rdKeys s o.op, s2.tb d = s.tb d) → AStep P γ s2 o (D.ap s2) := by
  unfold AStep at h ⊢
  split at h
  · rename_i f args ts ho
    obtain ⟨D, h1, h2, h3, h4⟩ := cstep_loc h
    refine ⟨D, h1, h2, by rw [ho]; exact h3, fun s2 hmd ha ht => ?_⟩
    rw [ho] at ha ht
    exact h4 s2 hmd (fun x hx => ha x (callOperands ⟨_, args, ts⟩ x hx)) (fun x hx d hd => ht d (mem_opKeys (x := x) (callOperands ⟨_, args, ts⟩ x hx) hd))
  · rename_i hno
    obtain ⟨D, h1, h2, h3, h4⟩ := aDet_loc h
    refine ⟨D, h1, h2, h3, fun s2 hmd ha ht => ?_⟩
    exact h4 s2 hmd ha ht
end
end Go.Proofs.Ytikganlbnhapcaa
