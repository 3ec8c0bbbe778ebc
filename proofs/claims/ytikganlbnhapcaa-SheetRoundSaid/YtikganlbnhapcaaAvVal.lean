import Derived.Test.YtikganlbnhapcaaAvDef
namespace Go.Proofs.Ytikganlbnhapcaa
open Go.RowKit
set_option linter.unusedVariables false
set_option linter.unusedSimpArgs false

theorem SRep.av {G : Gh} {x : SV} {v : Value} (h : SRep G x v) : KRep G.K x.av v := by
  cases h with
  | k x v h => exact h
  | ob => exact .any _
  | os => exact .any _
  | ow d g n e cells r h he hn hl hx hk => exact hk
theorem Real.ev {P : Program} {w0 : Base} {w : World} {K0 : Anc} {G : Gh} {us : Nat → Prop} {s : St} {a : Act} (h : Real P w0 K0 G us s a w) (x : Operand) : SRep G (s.ev x) (a.eval x) := by
  cases x with
  | tmp t => exact h.slots t
  | const v => exact .k _ _ (ofVal_rep _ v)
  | global g => exact .k _ _ (.any _)
  | func f => exact .k _ _ (.raw _ rfl)
theorem ti_ok {P : Program} {t : TypeId} (h : (tiOf P t).ok = true) : ∃ i z d, P.info? t = some i ∧ i.zero = some z ∧ z.cells.size = i.size ∧ (∀ c ∈ z.cells, c.oneCell' = true) ∧ (tiOf P t).sz = i.size ∧ (tiOf P t).by_ = i.bytes ∧
    (tiOf P t).zr = z.cells.toList.map ofVal ∧ P.underlying t = some d := by
  simp only [tiOf, Bool.and_eq_true] at h
  obtain ⟨h, hu⟩ := h
  obtain ⟨d, hd⟩ := Option.isSome_iff_exists.1 hu
  cases hi : P.info? t with
  | none => rw [hi] at h; cases h
  | some i =>
    rw [hi] at h
    simp only [okInfo] at h
    cases hz : i.zero with
    | none => rw [hz] at h; cases h
    | some z =>
      rw [hz] at h
      simp only [Bool.and_eq_true, beq_iff_eq] at h
      refine ⟨i, z, d, rfl, hz, h.1, fun c hc => ?_, by simp [tiOf, hi], by simp [tiOf, hi], by simp [tiOf, hi, hz], hd⟩
      exact Array.all_eq_true_iff_forall_mem.1 h.2 c hc
theorem tu_int {P : Program} {d : Option TypeDesc} {k : IntKind} (h : tuOf P d = .int k) : d = some (.int k) := by
  unfold tuOf at h; split at h <;> first | (injection h with h; subst h; rfl) | cases h | (split at h <;> cases h)
theorem tu_bool {P : Program} {d : Option TypeDesc} (h : tuOf P d = .bool) : d = some .bool := by
  unfold tuOf at h; split at h <;> first | rfl | cases h | (split at h <;> cases h)
theorem tu_str {P : Program} {d : Option TypeDesc} (h : tuOf P d = .str) : d = some .string := by
  unfold tuOf at h; split at h <;> first | rfl | cases h | (split at h <;> cases h)
theorem tu_sl {P : Program} {d : Option TypeDesc} {e : TypeId} (h : tuOf P d = .sl e) : d = some (.slice e) := by
  unfold tuOf at h; split at h <;> first | (injection h with h; subst h; rfl) | cases h | (split at h <;> cases h)
theorem tu_ptr {P : Program} {d : Option TypeDesc} {e : TypeId} (h : tuOf P d = .ptr e) : d = some (.pointer e) := by
  unfold tuOf at h; split at h <;> first | (injection h with h; subst h; rfl) | cases h | (split at h <;> cases h)
theorem tu_arr {P : Program} {d : Option TypeDesc} {n : Nat} {e : TypeId} (h : tuOf P d = .arr n e) : d = some (.array n e) := by
  unfold tuOf at h; split at h <;> first | (injection h with h1 h2; subst h1 h2; rfl) | cases h | (split at h <;> cases h)
theorem tu_st {P : Program} {d : Option TypeDesc} {fs : List (Nat × Nat)} (h : tuOf P d = .st fs) : ∃ f, d = some (.struct f) ∧ (fs = f.toList.map fun f => (f.offset, ((P.info? f.type).map (·.size)).getD 0)) ∧ ∀ x ∈ f.toList, (P.info? x.type).isSome = true := by
  unfold tuOf at h; split at h <;> first | (split at h <;> first | (rename_i hall; injection h with h; exact ⟨_, rfl, h.symm, fun x hx => List.all_eq_true.1 hall x hx⟩) | cases h) | cases h
theorem un_eq (P : Program) (t : TypeId) : (tiOf P t).un = tuOf P (P.underlying t) := rfl
theorem run_isAgg {P : Program} {t : TypeId} {d : TypeDesc} (h : P.underlying t = some d) (w : World) : (isAgg t).run P w = .ok (tiOf P t).un.isAgg w := by
  rw [un_eq, h]
  unfold isAgg
  simp only [Sem.run_bind, run_underlying h, Result.andThen_ok]
  cases d <;> first | rfl | (unfold tuOf; simp only; split <;> first | rfl | skip)
theorem run_sizeOf' {P : Program} {t : TypeId} {i : TypeInfo} (h : P.info? t = some i) (w : World) : (sizeOf t).run P w = .ok i.size w := by
  simp [sizeOf, typeInfo, h]

/-- the cells from an address on are these -/
def CR (K : Kd) (w : World) (b o : Nat) (cs : List AV) : Prop := ∀ (i : Nat) (x : AV), cs[i]? = some x → ∃ v : Value, w.cell? ⟨b, o + i, none⟩ = some v ∧ v.oneCell' = true ∧ KRep K x v
theorem CR.drop {K : Kd} {w : World} {b o : Nat} {cs : List AV} (h : CR K w b o cs) (k : Nat) : CR K w b (o + k) (cs.drop k) := by
  intro i x hx
  rw [List.getElem?_drop] at hx
  have := h (k + i) x hx
  rwa [← Nat.add_assoc] at this
theorem CR.take {K : Kd} {w : World} {b o : Nat} {cs : List AV} (h : CR K w b o cs) (k : Nat) : CR K w b o (cs.take k) := by
  intro i x hx
  rw [List.getElem?_take] at hx
  split at hx
  · exact h i x hx
  · cases hx
theorem CR.vals {K : Kd} {w : World} {b : Nat} : ∀ {cs : List AV} {o : Nat}, CR K w b o cs → ∃ vs : List Value, vs.length = cs.length ∧ (∀ (j : Nat) (v : Value), vs[j]? = some v → w.cell? ((⟨b, o, none⟩ : Addr).add j) = some v) ∧ (∀ v ∈ vs, v.oneCell' = true) ∧
    ∀ (i : Nat) (x : AV) (v : Value), cs[i]? = some x → vs[i]? = some v → KRep K x v
  | [], o, h => ⟨[], rfl, (fun j v hv => by simp at hv), (fun v hv => by cases hv), (fun i x v hx => by simp at hx)⟩
  | c :: cs, o, h => by
    obtain ⟨v0, h1, h2, h3⟩ := h 0 c rfl
    have ht : CR K w b (o + 1) cs := by have := h.drop 1; simpa using this
    obtain ⟨vs, k1, k2, k3, k4⟩ := ht.vals
    refine ⟨v0 :: vs, by simp [k1], ?_, ?_, ?_⟩
    · intro j v hv
      cases j with
      | zero =>
        simp at hv; subst hv
        rw [show (⟨b, o, none⟩ : Addr).add 0 = ⟨b, o, none⟩ from rfl]; simpa using h1
      | succ j =>
        rw [List.getElem?_cons_succ] at hv
        have := k2 j v hv
        rw [show (⟨b, o, none⟩ : Addr).add (j + 1) = ⟨b, o + (j + 1), none⟩ by simp [Addr.add]]
        rw [show (⟨b, o + 1, none⟩ : Addr).add j = ⟨b, o + 1 + j, none⟩ by unfold Addr.add; split <;> simp_all] at this
        rwa [show o + (j + 1) = o + 1 + j by omega]
    · intro v hv
      rcases List.mem_cons.1 hv with rfl | hv
      · exact h2
      · exact k3 v hv
    · intro i x v hx hv
      cases i with
      | zero => simp at hx hv; subst hx hv; exact h3
      | succ i =>
        rw [List.getElem?_cons_succ] at hx hv
        exact k4 i x v hx hv
theorem KRep.cr {K : Kd} {w : World} (hk : KOk K w) {cs : List AV} {v : Value} (h : KRep K (.cp cs) v) : ∃ b o, v = .pointer (some ⟨b, o, none⟩) ∧ CR K w b o cs ∧ K.In b o cs.length := by
  cases h with
  | cp cells b o h1 h3 =>
    refine ⟨b, o, rfl, fun i x hx => ?_, h1⟩
    have := hk.at_ h1 (getq_lt hx)
    exact ⟨_, this.1, this.2, h3 i x hx⟩
theorem KRep.cr_sl {K : Kd} {w : World} (hk : KOk K w) {full : Bool} {n : Nat} {cs : List AV} {v : Value} (h : KRep K (.sl full n cs) v) :
    ∃ a cap, v = .slice a n cap ∧ n ≤ cap ∧ cap ≤ maxLen ∧ (full = true → cap = n) ∧ ((n = 0 ∧ cs = []) ∨ ∃ b o, a = some ⟨b, o, none⟩ ∧ CR K w b o cs ∧ K.In b o cs.length) := by
  cases h with
  | sl0 full a cap hm hf => exact ⟨a, cap, rfl, Nat.zero_le _, hm, hf, .inl ⟨rfl, rfl⟩⟩
  | sl full n cells b o cap hn hm hf h1 h3 =>
    refine ⟨_, cap, rfl, hn, hm, hf, .inr ⟨b, o, rfl, fun i x hx => ?_, h1⟩⟩
    have := hk.at_ h1 (getq_lt hx)
    exact ⟨_, this.1, this.2, h3 i x hx⟩
section
variable {P : Program} {w0 : Base} {w : World} {K0 : Anc} {G : Gh} {us : Nat → Prop} {s : St} {a : Act}
theorem Real.obj (h : Real P w0 K0 G us s a w) {d g : Nat} {cs : List AV} (ho : s.objOf d g = some cs) : ∃ b o, G.at_ d g = some (b, o) ∧ CR G.K w b o cs := by
  unfold St.objOf at ho
  split at ho
  · rename_i g' cs' he
    split at ho
    · rename_i e; injection ho with ho; subst e ho
      obtain ⟨b, o, arr, ty, h1, h2, h3, h4, h5, h6, h7⟩ := h.ents _ _ _ he
      refine ⟨b, o, h1, fun i x hx => ?_⟩
      have hi := getq_lt hx
      have hlt : o + i < arr.size := by omega
      refine ⟨arr[o + i], by rw [cell_of_row w b (o + i) arr ty _ h3]; simp [hlt], h6 i _ hi (by simp [hlt]), h7 i x _ hx (by simp [hlt])⟩
    · cases ho
  · rename_i g' cs' he
    split at ho
    · rename_i e; injection ho with ho; subst e ho
      obtain ⟨b, o, h1, h2, h3⟩ := h.ents _ _ _ he
      refine ⟨b, o, h1, fun i x hx => ?_⟩
      have := h.kok.at_ h2 (getq_lt hx)
      exact ⟨_, this.1, this.2, h3 i x hx⟩
    · cases ho
  · cases ho
/-- the contents of a slice, in memory -/
theorem Real.cont (h : Real P w0 K0 G us s a w) {sz : Nat} {x : SV} {v : Value} {n : Nat} {cs : List AV} (hc : s.cont sz x = some (n, cs)) (hx : SRep G x v) :
    ∃ ad cap, v = .slice ad n cap ∧ cs.length = n * sz ∧ (cs = [] ∨ ∃ b o, ad = some ⟨b, o, none⟩ ∧ CR G.K w b o cs) := by
  have slc : ∀ (full : Bool) (n' : Nat) (cs' : List AV), KRep G.K (.sl full n' cs') v → (if cs'.length = n' * sz then some (n', cs') else none) = some (n, cs) → ∃ ad cap, v = .slice ad n cap ∧ cs.length = n * sz ∧ (cs = [] ∨ ∃ b o, ad = some ⟨b, o, none⟩ ∧ CR G.K w b o cs) := by
    intro full n' cs' hk hc
    split at hc
    · rename_i hl
      injection hc with hc
      injection hc with e1 e2
      subst e1 e2
      obtain ⟨ad, cap, rfl, _, _, _, h5⟩ := hk.cr_sl h.kok
      refine ⟨ad, cap, rfl, hl, ?_⟩
      rcases h5 with ⟨_, h5⟩ | ⟨b, o, e, h5, _⟩
      · exact .inl h5
      · exact .inr ⟨b, o, e, h5⟩
    · cases hc
  cases hx with
  | k x v hk =>
    cases x <;> simp only [St.cont] at hc <;> try cases hc
    exact slc _ _ _ hk hc
  | ob => simp [St.cont] at hc
  | os d g off n' cap b o c hat hn hcc hm =>
    simp only [St.cont] at hc
    split at hc
    · rename_i cs' ho
      split at hc
      · rename_i hl
        injection hc with hc
        injection hc with e1 e2
        subst e1 e2
        obtain ⟨b', o', h1, h2⟩ := h.obj ho
        rw [hat] at h1
        injection h1 with h1
        injection h1 with e1 e2
        subst e1 e2
        exact ⟨_, c, rfl, by simp; omega, .inr ⟨b, o + off, rfl, (h2.drop off).take _⟩⟩
      · cases hc
    · cases hc
  | ow d g n' e cells r hr he hn hl hx hk =>
    simp only [St.cont] at hc
    exact slc _ _ _ hk hc

theorem Real.avn (h : Real P w0 K0 G us s a w) {x : SV} {v : Value} (hx : SRep G x v) : KRep G.K (x.avn s.md) v := by
  cases hx with
  | k x v hk => exact hk
  | ob => exact .any _
  | os => exact .any _
  | ow d g n e cells r hr he hn hl hx hk =>
    unfold SV.avn
    cases s.md.nest with
    | true => exact .ow _ _ _ _ _ _ r ((h.krw d g).trans hr) he hn hl hx hk
    | false => exact hk
theorem Real.of_ (h : Real P w0 K0 G us s a w) {x : AV} {v : Value} (hx : KRep G.K x v) : SRep G (SV.of s.md x) v := by
  unfold SV.of
  split
  · rename_i δ d g n e cs
    cases hx with
    | ow _ _ _ _ _ _ r hr he hn hl hx hk =>
      split
      · rename_i q; subst q; exact .ow d g n e cs r ((h.krw d g).symm.trans hr) he hn hl hx hk
      · exact .k _ _ hk
  · exact .k _ _ hx
theorem aLoad_sound (h : Real P w0 K0 G us s a w) {t : TypeId} {x y : SV} {v : Value} (hx : SRep G x v) (ha : aLoad P s t x = some y) : ∃ r, (Instr.loadAt t v).run P w = .ok r w ∧ SRep G y r := by
  have ld : ∀ (b o : Nat) (cs : List AV) (r : AV), (tiOf P t).ok = true → CR G.K w b o cs → ldAgg (tiOf P t).un (tiOf P t).sz cs = some r → ∃ q, (loadVar t ⟨b, o, none⟩).run P w = .ok q w ∧ KRep G.K r q := by
    intro b o cs r hok hcr hl
    obtain ⟨i, z, d, hi, hz, _, _, hsz, _, _, hu⟩ := ti_ok hok
    have hag := run_isAgg hu w
    unfold loadVar
    simp only [Sem.run_bind, hag, Result.andThen_ok]
    have agg : ∀ (hle : (tiOf P t).sz ≤ cs.length), ∃ q, (do pure (Value.agg (← loadCells ⟨b, o, none⟩ (← sizeOf t))) : Sem Value).run P w = .ok q w ∧ KRep G.K (.agg (cs.take (tiOf P t).sz)) q := by
      intro hle
      obtain ⟨vs, k1, k2, k3, k4⟩ := (hcr.take (tiOf P t).sz).vals
      have hlen : vs.length = i.size := by rw [k1, ← hsz]; simp; omega
      have hrun := run_loadCells_list (P := P) w ⟨b, o, none⟩ vs k2
      rw [hlen] at hrun
      refine ⟨.agg vs.toArray, by simp [run_sizeOf' hi, hrun], .agg _ _ (by simp only [List.size_toArray]; exact k1) (fun i v hv => k3 v ?_) (fun i x v hx hv => k4 i x v hx (by simpa using hv))⟩
      rw [List.getElem?_toArray] at hv
      exact List.mem_of_getElem? hv
    unfold ldAgg at hl
    split at hl
    · rename_i fs hun
      split at hl
      · rename_i hle
        injection hl with hl; subst hl
        rw [hun]; exact agg hle
      · cases hl
    · rename_i hun
      split at hl
      · rename_i hle
        injection hl with hl; subst hl
        rw [hun]; exact agg hle
      · cases hl
    · cases hl
    · rename_i h1 h2 h3
      have hna : (tiOf P t).un.isAgg = false := by
        cases hq : (tiOf P t).un <;> first | rfl | exact absurd hq (h1 _) | exact absurd hq (h2 _ _) | exact absurd hq h3
      rw [hna]
      rw [List.head?_eq_getElem?] at hl
      obtain ⟨q, q1, q2, q3⟩ := hcr 0 r hl
      rw [Nat.add_zero] at q1
      exact ⟨q, by simp [load, Sem.run, q1], q3⟩
  unfold aLoad at ha
  split at ha
  · rename_i hok
    split at ha
    · rename_i cs
      cases hx with
      | k x v hk =>
        obtain ⟨b, o, rfl, hcr, _⟩ := hk.cr h.kok
        simp only [Option.map_eq_some_iff] at ha
        obtain ⟨r, hr, rfl⟩ := ha
        obtain ⟨q, hq, hk2⟩ := ld b o cs r hok hcr hr
        exact ⟨q, by simp [Instr.loadAt, Instr.sureAddr, hq], h.of_ hk2⟩
    · rename_i d g off
      simp only [Option.bind_eq_some_iff, Option.map_eq_some_iff] at ha
      obtain ⟨cs, ho, r, hr, rfl⟩ := ha
      cases hx with
      | ob d g off b o hat =>
        obtain ⟨b', o', h1, h2⟩ := h.obj ho
        rw [hat] at h1
        injection h1 with h1
        injection h1 with e1 e2
        subst e1 e2
        obtain ⟨q, hq, hk2⟩ := ld b (o + off) _ r hok (h2.drop off) hr
        exact ⟨q, by simp [Instr.loadAt, Instr.sureAddr, hq], h.of_ hk2⟩
    · cases ha
  · cases ha
end

end Go.Proofs.Ytikganlbnhapcaa
