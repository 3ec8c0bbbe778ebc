import Derived.Test.YtikganlbnhapcaaAvLoc4
namespace Go.Proofs.Ytikganlbnhapcaa
open Go.RowKit
set_option linter.unusedVariables false
set_option linter.unusedSimpArgs false

/-! regions whose order is drawn: the text's order is enough -/
def looks (ops : List Oper) (o : Oper) : List Operand :=
  o.op.operands.toList ++ match o.guard with
    | some (j, _) => ((ops[j]?).bind (·.dst)).toList.map Operand.tmp
    | none => []
def GStep (P : Program) (ops : List Oper) (γ : Nat) (s : St) (o : Oper) (s' : St) : Prop :=
  match o.guard with
  | none => AStep P γ s o s'
  | some (j, want) => ∃ b, yld ops s j = some b ∧ ((b = want ∧ AStep P γ s o s') ∨ (b ≠ want ∧ s' = s.put o.dst (.k .any)))
def keysOk (kw : List Nat × List Nat) (s : St) (o : Oper) : Bool := (rdKeys s o.op).all (kw.1.contains ·) && (wrKeys s o.dst o.op).all (kw.2.contains ·)
def xRun (P : Program) (ops : List Oper) (kw : Nat → List Nat × List Nat) : List (Nat × Oper) → St → (St → Prop) → Prop
  | [], s, K => K s
  | (i, o) :: L, s, K => keysOk (kw i) s o = true ∧ ∃ s', GStep P ops (s.nx + i) s o s' ∧ xRun P ops kw L s' K
def disj (a b : List Nat) : Bool := a.all fun k => !b.contains k
def sepB (ops : List Oper) (ki kj : List Nat × List Nat) (p o : Oper) : Bool :=
  (match p.dst with
    | some d => (looks ops o).all (fun x => match x with | .tmp t => t != d | _ => true) && o.dst != some d
    | none => true) &&
  (match o.dst with
    | some d => (looks ops p).all fun x => match x with | .tmp t => t != d | _ => true
    | none => true) &&
  disj ki.2 kj.1 && disj ki.2 kj.2 && disj kj.2 ki.1
section
variable {P : Program} {s s2 : St} {ops : List Oper}
theorem aGuard_step {γ : Nat} {o : Oper} {K : St → Prop} : aGuard P ops γ s o K ↔ ∃ s', GStep P ops γ s o s' ∧ K s' := by
  unfold aGuard
  split
  · rename_i hg
    simp only [GStep, hg]
    exact aOp_step
  · rename_i j want hg
    simp only [GStep, hg]
    cases hy : yld ops s j with
    | none => simp
    | some b =>
      simp only [Option.some.injEq]
      by_cases hb : b = want
      · simp only [if_pos hb]
        rw [aOp_step]
        constructor
        · rintro ⟨s', h1, h2⟩; exact ⟨s', ⟨b, rfl, .inl ⟨hb, h1⟩⟩, h2⟩
        · rintro ⟨s', ⟨b', rfl, h | h⟩, h2⟩
          · exact ⟨s', h.2, h2⟩
          · exact absurd hb h.1
      · simp only [if_neg hb]
        constructor
        · intro h; exact ⟨_, ⟨b, rfl, .inr ⟨hb, rfl⟩⟩, h⟩
        · rintro ⟨s', ⟨b', rfl, h | h⟩, h2⟩
          · exact absurd h.1 hb
          · rw [← h.2]; exact h2
theorem yld_loc {j : Nat} (h : ∀ x ∈ ((ops[j]?).bind (·.dst)).toList.map Operand.tmp, s2.ev x = s.ev x) : yld ops s2 j = yld ops s j := by
  unfold yld
  cases hd : (ops[j]?).bind (·.dst) with
  | none => rfl
  | some d =>
    have := h (.tmp d) (by rw [hd]; simp)
    simp only
    rw [show s2.fr d = s.fr d from this]
theorem gstep_loc {γ : Nat} {o : Oper} {s' : St} (h : GStep P ops γ s o s') :
    ∃ D : Dl, s' = D.ap s ∧ (∀ d v, D.v = some (d, v) → o.dst = some d) ∧ (∀ p ∈ D.t, p.1 ∈ wrKeys s o.dst o.op) ∧ ∀ s2 : St, s2.md = s.md → AgE s s2 (looks ops o) → (∀ d ∈ rdKeys s o.op, s2.tb d = s.tb d) → GStep P ops γ s2 o (D.ap s2) := by
  unfold GStep at h ⊢
  split at h
  · rename_i hg
    obtain ⟨D, h1, h2, h3, h4⟩ := astep_loc h
    exact ⟨D, h1, h2, h3, fun s2 hmd ha ht => h4 s2 hmd (fun x hx => ha x (by unfold looks; simp [hx])) ht⟩
  · rename_i j want hg
    obtain ⟨b, hy, h⟩ := h
    have hyl : ∀ s2 : St, AgE s s2 (looks ops o) → yld ops s2 j = some b := fun s2 ha => by
      rw [yld_loc (s := s) (fun x hx => ha x (by unfold looks; rw [hg]; simp only [List.mem_append]; exact .inr hx)), hy]
    rcases h with ⟨hb, h⟩ | ⟨hb, h⟩
    · obtain ⟨D, h1, h2, h3, h4⟩ := astep_loc h
      exact ⟨D, h1, h2, h3, fun s2 hmd ha ht => ⟨b, hyl s2 ha, .inl ⟨hb, h4 s2 hmd (fun x hx => ha x (by unfold looks; simp [hx])) ht⟩⟩⟩
    · exact ⟨_, h.trans (put_ap _ _ _), map_dst, by simp, fun s2 hmd ha ht => ⟨b, hyl s2 ha, .inr ⟨hb, (put_ap _ _ _).symm⟩⟩⟩
theorem tbs_ne {d : Nat} : ∀ (l : List (Nat × Option (Nat × Ent))) (T : Nat → Option (Nat × Ent)), (∀ p ∈ l, p.1 ≠ d) → tbs T l d = T d
  | [], T, _ => rfl
  | (k, e) :: l, T, h => by
    rw [tbs, tbs_ne l _ (fun p hp => h p (by simp [hp])), upd_ne]
    exact fun e' => h (k, e) (by simp) e'.symm
theorem tbs_congr {d : Nat} : ∀ (l : List (Nat × Option (Nat × Ent))) (T T' : Nat → Option (Nat × Ent)), T d = T' d → tbs T l d = tbs T' l d
  | [], T, T', h => h
  | (k, e) :: l, T, T', h => by
    rw [tbs, tbs]; refine tbs_congr l _ _ ?_
    unfold upd; split
    · rfl
    · exact h
theorem tbs_comm {l m : List (Nat × Option (Nat × Ent))} (h : ∀ p ∈ l, ∀ q ∈ m, p.1 ≠ q.1) (T : Nat → Option (Nat × Ent)) : tbs (tbs T l) m = tbs (tbs T m) l := by
  funext d
  by_cases hl : ∃ p ∈ l, p.1 = d
  · obtain ⟨p, hp, rfl⟩ := hl
    rw [tbs_ne m _ (fun q hq => (h p hp q hq).symm)]
    exact tbs_congr l _ _ (tbs_ne m _ (fun q hq => (h p hp q hq).symm)).symm
  · have hl' : ∀ p ∈ l, p.1 ≠ d := fun p hp e => hl ⟨p, hp, e⟩
    rw [tbs_ne l (tbs T m) hl']
    exact tbs_congr m _ _ (tbs_ne l _ hl')
theorem upd_comm {α : Type} {F : Nat → α} {d e : Nat} {v w : α} (h : d ≠ e) : upd (upd F d v) e w = upd (upd F e w) d v := by
  funext t; unfold upd
  by_cases h1 : t = e <;> by_cases h2 : t = d <;> simp [h1, h2]
  · subst h1; exact absurd h2.symm h
  · subst h1; intro hc; exact absurd hc.symm h
  · subst h2; intro hc; exact absurd hc h
theorem ap_comm {D E : Dl} (hv : ∀ d v e w, D.v = some (d, v) → E.v = some (e, w) → d ≠ e) (ht : ∀ p ∈ D.t, ∀ q ∈ E.t, p.1 ≠ q.1) (s : St) : E.ap (D.ap s) = D.ap (E.ap s) := by
  unfold Dl.ap
  congr 1
  · cases hD : D.v with
    | none => rfl
    | some p =>
      cases hE : E.v with
      | none => rfl
      | some q => exact upd_comm (hv p.1 p.2 q.1 q.2 (by rw [hD]) (by rw [hE]))
  · exact tbs_comm ht _
theorem ap_ev {D : Dl} {x : Operand} (h : ∀ d v, D.v = some (d, v) → x ≠ .tmp d) (s : St) : (D.ap s).ev x = s.ev x := by
  cases x with
  | tmp t =>
    show (match D.v with | some (d, v) => upd s.fr d v | none => s.fr) t = s.fr t
    cases hD : D.v with
    | none => rfl
    | some p =>
      obtain ⟨d, v⟩ := p
      exact upd_ne _ _ _ _ (fun e => h d v hD (by rw [e]))
  | const v => rfl
  | func f => rfl
  | global g => rfl
theorem opKeys_loc {op : Op} (h : AgE s s2 op.operands.toList) : opKeys s2 op = opKeys s op := by
  unfold opKeys
  rw [List.flatMap_def, List.flatMap_def, List.map_congr_left (fun x hx => by rw [h x hx])]
theorem rdKeys_loc {op : Op} (h : AgE s s2 op.operands.toList) : rdKeys s2 op = rdKeys s op := by
  unfold rdKeys; split <;> simp only [opKeys_loc h]
theorem wrKeys_loc {dst : Option Nat} {op : Op} (h : AgE s s2 op.operands.toList) : wrKeys s2 dst op = wrKeys s dst op := by
  unfold wrKeys; split <;> simp only [opKeys_loc h]
theorem sepB_spec {ki kj : List Nat × List Nat} {p o : Oper} (h : sepB ops ki kj p o = true) :
    (∀ d, p.dst = some d → (∀ x ∈ looks ops o, x ≠ .tmp d) ∧ o.dst ≠ some d) ∧ (∀ d, o.dst = some d → ∀ x ∈ looks ops p, x ≠ .tmp d) ∧ disj ki.2 kj.1 = true ∧ disj ki.2 kj.2 = true ∧ disj kj.2 ki.1 = true := by
  simp only [sepB, Bool.and_eq_true] at h
  obtain ⟨⟨⟨⟨h1, h2⟩, h3⟩, h4⟩, h5⟩ := h
  refine ⟨fun d hd => ?_, fun d hd x hx e => ?_, h3, h4, h5⟩
  · rw [hd] at h1
    simp only [Bool.and_eq_true, List.all_eq_true, bne_iff_ne, ne_eq] at h1
    exact ⟨fun x hx e => by have := h1.1 x hx; rw [e] at this; simp at this, h1.2⟩
  · rw [hd] at h2
    simp only [List.all_eq_true] at h2
    have := h2 x hx; rw [e] at this; simp at this
theorem disj_spec {a b : List Nat} (h : disj a b = true) : ∀ k ∈ a, k ∉ b := by
  intro k hk hb
  simp only [disj, List.all_eq_true] at h
  have := h k hk
  simp [hb] at this
theorem keysOk_spec {kw : List Nat × List Nat} {o : Oper} (h : keysOk kw s o = true) : (∀ k ∈ rdKeys s o.op, k ∈ kw.1) ∧ ∀ k ∈ wrKeys s o.dst o.op, k ∈ kw.2 := by
  simp only [keysOk, Bool.and_eq_true, List.all_eq_true] at h
  exact ⟨fun k hk => by simpa using h.1 k hk, fun k hk => by simpa using h.2 k hk⟩
theorem swap {ki kj : List Nat × List Nat} {i j : Nat} {p o : Oper} {s1 s3 : St} (hs : sepB ops ki kj p o = true) (kp : keysOk ki s p = true) (hp : GStep P ops (s.nx + i) s p s1) (ko : keysOk kj s1 o = true) (ho : GStep P ops (s1.nx + j) s1 o s3) :
    keysOk kj s o = true ∧ ∃ s1', GStep P ops (s.nx + j) s o s1' ∧ keysOk ki s1' p = true ∧ GStep P ops (s1'.nx + i) s1' p s3 := by
  obtain ⟨q1, q2, q3, q4, q5⟩ := sepB_spec hs
  obtain ⟨D, d1, d2, d3, d4⟩ := gstep_loc hp
  obtain ⟨E, e1, e2, e3, e4⟩ := gstep_loc ho
  obtain ⟨kp1, kp2⟩ := keysOk_spec kp
  obtain ⟨ko1, ko2⟩ := keysOk_spec ko
  have nx1 : s1.nx = s.nx := by rw [d1]; rfl
  have md1 : s1.md = s.md := by rw [d1]; rfl
  -- what o sees is the same ahead of p
  have ag : AgE s1 s (looks ops o) := fun x hx => by
    rw [d1, ap_ev]; intro d v hv; exact (q1 d (d2 d v hv)).1 x hx
  have ag' : AgE s1 s o.op.operands.toList := fun x hx => ag x (by unfold looks; simp [hx])
  have rk : ∀ d ∈ rdKeys s1 o.op, s.tb d = s1.tb d := fun d hd => by
    rw [d1]; exact (tbs_ne _ _ (fun p hp e => disj_spec q3 p.1 (kp2 _ (d3 p hp)) (by rw [e]; exact ko1 d hd))).symm
  have g1 := e4 s md1.symm ag rk
  have ko' : keysOk kj s o = true := by
    unfold keysOk at ko ⊢; rwa [rdKeys_loc ag', wrKeys_loc ag']
  -- what p sees is the same after o
  have ap : AgE s (E.ap s) (looks ops p) := fun x hx => by
    rw [ap_ev]; intro d v hv; exact q2 d (e2 d v hv) x hx
  have ap' : AgE s (E.ap s) p.op.operands.toList := fun x hx => ap x (by unfold looks; simp [hx])
  have rp : ∀ d ∈ rdKeys s p.op, (E.ap s).tb d = s.tb d := fun d hd => tbs_ne _ _ (fun p hp e => disj_spec q5 p.1 (ko2 _ (e3 p hp)) (by rw [e]; exact kp1 d hd))
  have g2 := d4 (E.ap s) rfl ap rp
  refine ⟨ko', E.ap s, by rwa [nx1] at g1, ?_, ?_⟩
  · unfold keysOk at kp ⊢; rwa [rdKeys_loc ap', wrKeys_loc ap']
  · have hc : D.ap (E.ap s) = s3 := by
      rw [e1, d1]
      refine (ap_comm ?_ ?_ s).symm
      · intro d v e w hD hE he
        subst he
        exact (q1 d (d2 d v hD)).2 (e2 d w hE)
      · intro p hp q hq e
        exact disj_spec q4 p.1 (kp2 _ (d3 p hp)) (by rw [e]; exact ko2 _ (e3 q hq))
    rw [← hc]; exact g2
theorem front {kw : Nat → List Nat × List Nat} {j : Nat} {o : Oper} {L2 : List (Nat × Oper)} {K : St → Prop} : ∀ (L1 : List (Nat × Oper)) (s : St), (∀ q ∈ L1, sepB ops (kw q.1) (kw j) q.2 o = true) → xRun P ops kw (L1 ++ (j, o) :: L2) s K → xRun P ops kw ((j, o) :: (L1 ++ L2)) s K
  | [], s, _, h => h
  | (i, p) :: L1, s, hs, h => by
    obtain ⟨kp, s1, hp, h⟩ := h
    obtain ⟨ko, s3, ho, h⟩ := front L1 s1 (fun q hq => hs q (by simp [hq])) h
    obtain ⟨ko', s1', g1, kp', g2⟩ := swap (hs (i, p) (by simp)) kp hp ko ho
    exact ⟨ko', s1', g1, kp', s3, g2, h⟩
end
end Go.Proofs.Ytikganlbnhapcaa
