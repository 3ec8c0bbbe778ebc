import Derived.Test.YtikganlbnhapcaaAvVal
import Derived.Laws.BytesString
import Derived.Laws.Cover3
namespace Go.Proofs.Ytikganlbnhapcaa
open Go.RowKit
set_option linter.unusedVariables false
set_option linter.unusedSimpArgs false

theorem addr_add (b o k : Nat) : (⟨b, o, none⟩ : Addr).add k = ⟨b, o + k, none⟩ := by unfold Addr.add; split <;> simp_all
section
variable {P : Program} {w0 : Base} {w : World} {K0 : Anc} {G : Gh} {us : Nat → Prop} {s : St} {a : Act}
theorem KRep.sl_cp {K : Kd} {full : Bool} {n : Nat} {cs : List AV} {v : Value} (h : KRep K (.sl full n cs) v) (h0 : 0 < cs.length) :
    ∃ b o cap, v = .slice (some ⟨b, o, none⟩) n cap ∧ n ≤ cap ∧ cap ≤ maxLen ∧ (full = true → cap = n) ∧ KRep K (.cp cs) (.pointer (some ⟨b, o, none⟩)) := by
  cases h with
  | sl0 => simp at h0
  | sl full n cells b o cap hn hm hf h1 h3 => exact ⟨b, o, cap, rfl, hn, hm, hf, .cp _ _ _ h1 h3⟩
theorem KRep.cp_drop {K : Kd} {cs : List AV} {b o : Nat} (h : KRep K (.cp cs) (.pointer (some ⟨b, o, none⟩))) (k : Nat) (hk : k ≤ cs.length) : KRep K (.cp (cs.drop k)) (.pointer (some ⟨b, o + k, none⟩)) := by
  cases h with
  | cp _ _ _ h1 h3 =>
    refine .cp _ _ _ (by
      rw [List.length_drop]
      rcases h1.drop k with q | q
      · exact q
      · omega) fun i x hx => ?_
    rw [List.getElem?_drop] at hx
    rw [Nat.add_assoc]; exact h3 _ _ hx
theorem KRep.cp_cut {K : Kd} {cs : List AV} {b o : Nat} (h : KRep K (.cp cs) (.pointer (some ⟨b, o, none⟩))) (k : Nat) : KRep K (.cp (cs.take k)) (.pointer (some ⟨b, o, none⟩)) := by
  cases h with
  | cp _ _ _ h1 h3 =>
    refine .cp _ _ _ (h1.take (by simp; omega)) fun i x hx => ?_
    rw [List.getElem?_take] at hx
    split at hx
    · exact h3 _ _ hx
    · cases hx
theorem KRep.sl_of_cp {K : Kd} {cs : List AV} {b o : Nat} (h : KRep K (.cp cs) (.pointer (some ⟨b, o, none⟩))) (full : Bool) (n cap : Nat) (hn : n ≤ cap) (hm : cap ≤ maxLen) (hf : full = true → cap = n) :
    KRep K (.sl full n cs) (.slice (some ⟨b, o, none⟩) n cap) := by
  cases h with
  | cp _ _ _ h1 h3 => exact .sl _ _ _ _ _ _ hn hm hf h1 h3

theorem aArrPtr_sound (h : Real P w0 K0 G us s a w) {t : TypeId} {x y : SV} {v : Value} (hx : SRep G x v) (ha : aArrPtr (tiOf P t).un x = some y) : ∃ r, (Instr.arrayAt t v).run P w = .ok r w ∧ SRep G y r := by
  unfold aArrPtr at ha
  split at ha
  · rename_i n e full m cs hu
    rw [un_eq] at hu
    split at ha
    · rename_i hc
      injection ha with ha; subst ha
      cases hx with
      | k x v hk =>
        obtain ⟨b, o, cap, rfl, _, _, _, hk2⟩ := hk.sl_cp hc.2
        exact ⟨_, run_arrayAt w t _ n _ m cap (tu_arr hu) hc.1, .k _ _ hk2⟩
    · cases ha
  · rename_i n e d g m e' cs hu
    rw [un_eq] at hu
    split at ha
    · rename_i hc
      injection ha with ha; subst ha
      cases hx with
      | ow d g n' e cells r hr he hn hl hx hk =>
        obtain ⟨b, o, cap, hv, _, _, _, hk2⟩ := hk.sl_cp hc.2
        rw [hv]
        exact ⟨_, run_arrayAt w t _ n _ _ cap (tu_arr hu) hc.1, .k _ _ hk2⟩
    · cases ha
  · rename_i n e d g off m cap hu
    rw [un_eq] at hu
    split at ha
    · rename_i hc
      injection ha with ha; subst ha
      cases hx with
      | os d g off n' cap b o c hat hn hcc hm => exact ⟨_, run_arrayAt w t _ n _ _ c (tu_arr hu) hc, .ob _ _ _ _ _ hat⟩
    · cases ha
  · cases ha

theorem aField_sound (h : Real P w0 K0 G us s a w) {t : TypeId} {x y : SV} {v : Value} {f : Nat} (hx : SRep G x v) (ha : aField P t x f = some y) : ∃ r, (Instr.fieldAt t v f).run P w = .ok r w ∧ SRep G y r := by
  have fld : ∀ (fs : List (Nat × Nat)) (p : Nat × Nat) (ad : Addr), tuOf P (P.underlying t) = .st fs → fs[f]? = some p → 0 < p.2 → (Instr.fieldAt t (.pointer (some ad)) f).run P w = .ok (.pointer (some (ad.add p.1))) w := by
    intro fs p ad hu hp h0
    obtain ⟨fields, hd, rfl, _⟩ := tu_st hu
    rw [List.getElem?_map, Option.map_eq_some_iff] at hp
    obtain ⟨fl, hf, rfl⟩ := hp
    simp only at h0
    rw [Array.getElem?_toList] at hf
    cases hi : P.info? fl.type with
    | none => simp [hi] at h0
    | some i =>
      simp only [hi, Option.map_some, Option.getD_some] at h0
      have hz : i.size ≠ 0 := by omega
      simp [Instr.fieldAt, run_underlying hd, hf, Instr.sureAddr, fieldPlace, run_sizeOf' hi, hz]
  unfold aField at ha
  split at ha
  · split at ha
    · rename_i fs d g off hu
      rw [un_eq] at hu
      simp only [Option.bind_eq_some_iff] at ha
      obtain ⟨p, hp, ha⟩ := ha
      split at ha
      · rename_i h0
        injection ha with ha; subst ha
        cases hx with
        | ob d g off b o hat =>
          refine ⟨_, fld fs p _ hu hp h0, ?_⟩
          rw [addr_add, Nat.add_assoc]
          exact .ob _ _ _ _ _ hat
      · cases ha
    · rename_i fs cs hu
      rw [un_eq] at hu
      simp only [Option.bind_eq_some_iff] at ha
      obtain ⟨p, hp, ha⟩ := ha
      split at ha
      · rename_i h0
        injection ha with ha; subst ha
        cases hx with
        | k x v hk =>
          obtain ⟨b, o, rfl, _⟩ := hk.cr h.kok
          refine ⟨_, fld fs p _ hu hp h0.1, ?_⟩
          rw [addr_add]
          exact .k _ _ (hk.cp_drop _ h0.2)
      · cases ha
    · cases ha
  · cases ha

theorem run_idxSl {w : World} {t e : TypeId} {i : TypeInfo} (ht : P.underlying t = some (.slice e)) (hi : P.info? e = some i) (ad : Addr) (n cap : Nat) (k : IntKind) (j : Int) (h0 : 0 ≤ j) (h1 : j < n) :
    (Instr.indexAt t (.slice (some ad) n cap) (.int k j)).run P w = .ok (.pointer (some (ad.add (j.toNat * i.size)))) w := by
  simp [Instr.indexAt, asIntOf, run_underlying ht, run_sizeOf' hi, h0, h1]
theorem run_idxArr {w : World} {t e : TypeId} {i : TypeInfo} {n : Nat} (ht : P.underlying t = some (.array n e)) (hi : P.info? e = some i) (ad : Addr) (k : IntKind) (j : Int) (h0 : 0 ≤ j) (h1 : j < n) :
    (Instr.indexAt t (.pointer (some ad)) (.int k j)).run P w = .ok (.pointer (some (ad.add (j.toNat * i.size)))) w := by
  simp [Instr.indexAt, asIntOf, run_underlying ht, run_sizeOf' hi, h0, h1, Instr.sureAddr]
theorem mul_le_of {j : Int} {n z : Nat} (h0 : 0 ≤ j) (h1 : j < n) : j.toNat * z ≤ n * z := Nat.mul_le_mul_right z (by omega)
theorem aIdxAt_sound (h : Real P w0 K0 G us s a w) {t : TypeId} {x y : SV} {v : Value} {k : IntKind} {j : Int} (hx : SRep G x v) (ha : aIdxAt (tiOf P t).un (tiOf P) x j = some y) : ∃ r, (Instr.indexAt t v (.int k j)).run P w = .ok r w ∧ SRep G y r := by
  have slc : ∀ (full : Bool) (n : Nat) (cs : List AV) (e : TypeId) (v : Value), tuOf P (P.underlying t) = .sl e → KRep G.K (.sl full n cs) v → (tiOf P e).ok = true → 0 ≤ j → j < n → n * (tiOf P e).sz = cs.length → 0 < (tiOf P e).sz →
      ∃ r, (Instr.indexAt t v (.int k j)).run P w = .ok r w ∧ SRep G (.k (.cp (cs.drop (j.toNat * (tiOf P e).sz)))) r := by
    intro full n cs e v hu hk hok h0 h1 h2 h3
    obtain ⟨i, z, d, hi, hz, _, _, hsz, _⟩ := ti_ok hok
    have hpos : 0 < cs.length := by rw [← h2]; exact Nat.mul_pos (by omega) h3
    obtain ⟨b, o, cap, rfl, _, _, _, hk2⟩ := hk.sl_cp hpos
    refine ⟨_, run_idxSl (tu_sl hu) hi _ n cap k j h0 h1, ?_⟩
    rw [addr_add, ← hsz]
    exact .k _ _ (hk2.cp_drop _ (by rw [← h2]; exact mul_le_of h0 h1))
  unfold aIdxAt at ha
  split at ha
  · rename_i e full n cs hu
    rw [un_eq] at hu
    split at ha
    · rename_i hc
      injection ha with ha; subst ha
      cases hx with
      | k x v hk => exact slc full n cs e v hu hk hc.1 hc.2.1 hc.2.2.1 hc.2.2.2.1 hc.2.2.2.2
    · cases ha
  · rename_i e d g n e' cs hu
    rw [un_eq] at hu
    split at ha
    · rename_i hc
      injection ha with ha; subst ha
      cases hx with
      | ow d g n' e cells r hr he hn hl hx hk => exact slc false n cs _ _ hu hk hc.1 hc.2.1 hc.2.2.1 hc.2.2.2.1 hc.2.2.2.2
    · cases ha
  · rename_i e d g off n cap hu
    rw [un_eq] at hu
    split at ha
    · rename_i hc
      injection ha with ha; subst ha
      obtain ⟨i, z, d', hi, hz, _, _, hsz, _⟩ := ti_ok hc.1
      cases hx with
      | os d g off n' cap b o c hat hn hcc hm =>
        refine ⟨_, run_idxSl (tu_sl hu) hi _ n c k j hc.2.1 hc.2.2, ?_⟩
        rw [addr_add, ← hsz, Nat.add_assoc]
        exact .ob _ _ _ _ _ hat
    · cases ha
  · rename_i n e d g off hu
    rw [un_eq] at hu
    split at ha
    · rename_i hc
      injection ha with ha; subst ha
      obtain ⟨i, z, d', hi, hz, _, _, hsz, _⟩ := ti_ok hc.1
      cases hx with
      | ob d g off b o hat =>
        refine ⟨_, run_idxArr (tu_arr hu) hi _ k j hc.2.1 hc.2.2, ?_⟩
        rw [addr_add, ← hsz, Nat.add_assoc]
        exact .ob _ _ _ _ _ hat
    · cases ha
  · rename_i n e cs hu
    rw [un_eq] at hu
    split at ha
    · rename_i hc
      injection ha with ha; subst ha
      obtain ⟨i, z, d', hi, hz, _, _, hsz, _⟩ := ti_ok hc.1
      cases hx with
      | k x v hk =>
        obtain ⟨b, o, rfl, _⟩ := hk.cr h.kok
        refine ⟨_, run_idxArr (tu_arr hu) hi _ k j hc.2.1 hc.2.2.1, ?_⟩
        rw [addr_add, ← hsz]
        exact .k _ _ (hk.cp_drop _ (Nat.le_trans (mul_le_of hc.2.1 hc.2.2.1) hc.2.2.2))
    · cases ha
  · cases ha

theorem aExtract_sound {K : Kd} {G : Gh} (hG : G.K = K) {x : AV} {y : SV} {v : Value} {j : Nat} (hx : KRep K x v) (ha : aExtract x j = some y) : ∃ r, (Instr.extract v j).run P w = .ok r w ∧ SRep G y r := by
  subst hG
  unfold aExtract at ha
  split at ha
  · rename_i ps
    simp only [Option.map_eq_some_iff] at ha
    obtain ⟨q, hq, rfl⟩ := ha
    cases hx with
    | tup cells vs hl hr =>
      have hj := getq_lt hq
      refine ⟨vs[j]'(by omega), ?_, .k _ _ (hr j q _ hq (by simp [show j < vs.size by omega]))⟩
      have : vs[j]? = some (vs[j]'(by omega)) := by simp [show j < vs.size by omega]
      simp [Instr.extract, this]
  · cases ha
theorem isNil_sound {G : Gh} {x : SV} {v : Value} {t : Bool} (hx : SRep G x v) (hn : x.isNil = some t) : (t = true ∧ v = .pointer none) ∨ (t = false ∧ ∃ ad, v = .pointer (some ad)) := by
  unfold SV.isNil at hn
  split at hn
  · injection hn with hn; subst hn
    cases hx with
    | ob => exact .inr ⟨rfl, _, rfl⟩
  · injection hn with hn; subst hn
    cases hx with
    | k x v hk => cases hk with | cp => exact .inr ⟨rfl, _, rfl⟩
  · injection hn with hn; subst hn
    cases hx with
    | k x v hk => cases hk with | raw => exact .inl ⟨rfl, rfl⟩
  · cases hn
end

end Go.Proofs.Ytikganlbnhapcaa
