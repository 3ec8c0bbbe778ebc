import Derived.Test.YtikganlbnhapcaaAvVal2
namespace Go.Proofs.Ytikganlbnhapcaa
open Go.RowKit
set_option linter.unusedVariables false
set_option linter.unusedSimpArgs false

section
variable {P : Program} {w0 : Base} {w : World} {K0 : Anc} {G : Gh} {us : Nat → Prop} {s : St} {a : Act}
theorem aIdx_sound {K : Kd} {G : Gh} (hG : G.K = K) {t : TypeId} {x : AV} {y : SV} {v : Value} {k : IntKind} {j : Int} (hx : KRep K x v) (ha : aIdx (tiOf P t).un (tiOf P) x j = some y) : ∃ r, (Instr.index t v (.int k j)).run P w = .ok r w ∧ SRep G y r := by
  subst hG
  unfold aIdx at ha
  split at ha
  · rename_i n e cs hu
    rw [un_eq] at hu
    split at ha
    · rename_i hc
      obtain ⟨hok, h0, h1⟩ := hc
      obtain ⟨i, z, d, hi, hz, _, _, hsz, _, _, hue⟩ := ti_ok hok
      simp only [Option.map_eq_some_iff] at ha
      obtain ⟨r, hr, rfl⟩ := ha
      cases hx with
      | agg cells vs hl h1' hrr =>
        have hpart : (Instr.index t (.agg vs) (.int k j)).run P w = (part e vs (j.toNat * i.size)).run P w := by
          simp [Instr.index, asIntOf, run_underlying (tu_arr hu), h0, h1, run_sizeOf' hi]
        rw [hpart, ← hsz]
        have hag := run_isAgg hue w
        unfold part
        simp only [Sem.run_bind, hag, Result.andThen_ok]
        have agg : ∀ (hle : (tiOf P e).sz ≤ (cs.drop (j.toNat * (tiOf P e).sz)).length), ∃ q, (do pure (Value.agg (vs.extract (j.toNat * (tiOf P e).sz) (j.toNat * (tiOf P e).sz + (← sizeOf e)))) : Sem Value).run P w = .ok q w ∧ SRep G (.k (.agg ((cs.drop (j.toNat * (tiOf P e).sz)).take (tiOf P e).sz))) q := by
          intro hle
          refine ⟨.agg (vs.extract (j.toNat * (tiOf P e).sz) (j.toNat * (tiOf P e).sz + (tiOf P e).sz)), by simp [run_sizeOf' hi, hsz], .k _ _ (.agg _ _ ?_ (fun i v hv => ?_) (fun i x v hx hv => ?_))⟩
          · simp at hle; simp [Array.size_extract]; omega
          · rw [Array.getElem?_extract] at hv
            split at hv
            · exact h1' _ _ hv
            · cases hv
          · rw [Array.getElem?_extract] at hv
            rw [List.getElem?_take] at hx
            split at hv
            · split at hx
              · rw [List.getElem?_drop] at hx
                exact hrr _ _ _ hx hv
              · cases hx
            · cases hv
        unfold ldAgg at hr
        split at hr
        · rename_i fs hun
          split at hr
          · rename_i hle; injection hr with hr; subst hr; rw [hun]; exact agg hle
          · cases hr
        · rename_i hun
          split at hr
          · rename_i hle; injection hr with hr; subst hr; rw [hun]; exact agg hle
          · cases hr
        · cases hr
        · rename_i h1 h2 h3
          have hna : (tiOf P e).un.isAgg = false := by
            cases hq : (tiOf P e).un <;> first | rfl | exact absurd hq (h1 _) | exact absurd hq (h2 _ _) | exact absurd hq h3
          rw [hna]
          rw [List.head?_eq_getElem?, List.getElem?_drop, Nat.add_zero] at hr
          have hlt := getq_lt hr
          refine ⟨vs[j.toNat * (tiOf P e).sz]'(by omega), ?_, .k _ _ (hrr _ _ _ hr (by simp [show j.toNat * (tiOf P e).sz < vs.size by omega]))⟩
          have : vs[j.toNat * (tiOf P e).sz]? = some (vs[j.toNat * (tiOf P e).sz]'(by omega)) := by simp [show j.toNat * (tiOf P e).sz < vs.size by omega]
          simp [this]
    · cases ha
  · rename_i b hu
    rw [un_eq] at hu
    split at ha
    · rename_i hc
      injection ha with ha; subst ha
      cases hx with
      | str =>
        have : b[j.toNat]? = some (b[j.toNat]'hc.2) := by simp [hc.2]
        exact ⟨_, by simp [Instr.index, asIntOf, run_underlying (tu_str hu), hc.1, this], .k _ _ (.int _ _)⟩
    · cases ha
  · cases ha

theorem int_of {K : Kd} {s : St} {x : Operand} {v : Value} {n : Int} (hk : KRep K (s.ev x).av v) (hn : s.int? x = some n) : ∃ k, v = .int k n := by
  unfold St.int? at hn
  split at hn
  · rename_i k m he
    injection hn with hn; subst hn
    rw [he] at hk
    cases hk with | int => exact ⟨k, rfl⟩
  · cases hn
/-- a bound that is good -/
theorem run_sliceBound' {w : World} (k : IntKind) (i : Int) (y : Nat) (c : BoundsCode) (h0 : 0 ≤ i) (h1 : i ≤ y) : (Instr.sliceBound (.int k i) y c).run P w = .ok i.toNat w := by
  simp [Instr.sliceBound, asIntOf, h0, h1]
theorem run_bounds (h : Real P w0 K0 G us s a w) (isS : Bool) (len cap : Nat) {lo hi mx : Option Operand} {l hh : Int} (hl : s.bnd lo 0 = some l) (hh' : s.bnd hi len = some hh) (h0 : 0 ≤ l) (h1 : l ≤ hh) (h2 : hh ≤ cap)
    (hm : mx = none ∨ ∃ m, mx = some m ∧ hi.isSome = true ∧ s.int? m = some hh) :
    (Instr.sliceBounds isS len cap (lo.map a.eval) (hi.map a.eval) (mx.map a.eval)).run P w = .ok (l.toNat, hh.toNat, if mx.isSome then hh.toNat else cap) w := by
  have hlo : (lo = none ∧ l = 0) ∨ ∃ x k, lo = some x ∧ a.eval x = .int k l := by
    cases lo with
    | none => simp only [St.bnd] at hl; injection hl with hl; exact .inl ⟨rfl, hl.symm⟩
    | some x => obtain ⟨k, hk⟩ := int_of (h.ev x).av hl; exact .inr ⟨x, k, rfl, hk⟩
  have hhi : (hi = none ∧ hh = len) ∨ ∃ x k, hi = some x ∧ a.eval x = .int k hh := by
    cases hi with
    | none => simp only [St.bnd] at hh'; injection hh' with hh'; exact .inl ⟨rfl, hh'.symm⟩
    | some x => obtain ⟨k, hk⟩ := int_of (h.ev x).av hh'; exact .inr ⟨x, k, rfl, hk⟩
  have h3 : 0 ≤ hh := by omega
  have h4 : l ≤ (hh.toNat : Int) := by omega
  have h5 : hh ≤ (hh.toNat : Int) := by omega
  rcases hm with rfl | ⟨m, rfl, hs, hmm⟩
  · rcases hlo with ⟨rfl, rfl⟩ | ⟨x, k, rfl, hx⟩ <;> rcases hhi with ⟨rfl, rfl⟩ | ⟨y, k', rfl, hy⟩
    · simp [Instr.sliceBounds]
    · simp [Instr.sliceBounds, hy, run_sliceBound' _ _ _ _ h3 h2]
    · have h6 : l ≤ (len : Int) := h1
      simp [Instr.sliceBounds, hx, run_sliceBound' _ _ _ _ h0 h6]
    · simp [Instr.sliceBounds, hx, hy, run_sliceBound' _ _ _ _ h3 h2, run_sliceBound' _ _ _ _ h0 h4]
  · obtain ⟨km, hkm⟩ := int_of (h.ev m).av hmm
    rcases hhi with ⟨rfl, _⟩ | ⟨y, k', rfl, hy⟩
    · cases hs
    · rcases hlo with ⟨rfl, rfl⟩ | ⟨x, k, rfl, hx⟩
      · simp [Instr.sliceBounds, hy, hkm, run_sliceBound' _ _ _ _ h3 h2, run_sliceBound' _ _ _ _ h3 h5]
      · simp [Instr.sliceBounds, hx, hy, hkm, run_sliceBound' _ _ _ _ h3 h2, run_sliceBound' _ _ _ _ h3 h5, run_sliceBound' _ _ _ _ h0 h4]

theorem KRep.cut {K : Kd} {full : Bool} {n : Nat} {cs : List AV} {ad : Option Addr} {cap : Nat} (hk : KRep K (.sl full n cs) (.slice ad n cap)) (sz l h m : Nat) (full' : Bool) (h1 : l ≤ h) (h2 : h ≤ n) (hm : h ≤ m) (hm2 : m ≤ cap) (hc : n * sz = cs.length) (hz : 0 < sz)
    (hf : full' = true → m = h) : KRep K (.sl full'  (h - l) ((cs.take (h * sz)).drop (l * sz))) (.slice (if m = l then ad else ad.map (·.add (l * sz))) (h - l) (m - l)) := by
  have hcap : cap ≤ maxLen := by cases hk <;> assumption
  have hlen : ((cs.take (h * sz)).drop (l * sz)).length = (h - l) * sz := by
    have : h * sz ≤ cs.length := by rw [← hc]; exact Nat.mul_le_mul_right _ h2
    rw [List.length_drop, List.length_take, Nat.sub_mul]; omega
  by_cases h0 : h - l = 0
  · have : (cs.take (h * sz)).drop (l * sz) = [] := List.eq_nil_of_length_eq_zero (by rw [hlen, h0, Nat.zero_mul])
    rw [this, h0]
    exact .sl0 _ _ _ (by omega) (fun e => by have := hf e; omega)
  · have hpos : 0 < cs.length := by rw [← hc]; exact Nat.mul_pos (by omega) hz
    obtain ⟨b, o, cap', e, _, _, _, hk2⟩ := hk.sl_cp hpos
    injection e with e1 _ e3
    subst e1 e3
    rw [if_neg (by omega)]
    simp only [Option.map_some]
    rw [addr_add]
    have hk3 := (hk2.cp_cut (h * sz)).cp_drop (l * sz) (by rw [List.length_take, ← hc]; have := Nat.mul_le_mul_right sz h1; have := Nat.mul_le_mul_right sz h2; omega)
    exact hk3.sl_of_cp _ _ _ (by omega) (by omega) (fun e => by rw [hf e])

theorem aSlice_sound (h : Real P w0 K0 G us s a w) {t : TypeId} {x y : SV} {v : Value} {lo hi mx : Option Operand} (hx : SRep G x v) (ha : aSlice P s t x lo hi mx = some y) :
    ∃ r, (Instr.sliceAt t v (lo.map a.eval) (hi.map a.eval) (mx.map a.eval)).run P w = .ok r w ∧ SRep G y r := by
  unfold aSlice at ha
  simp only [Option.bind_eq_some_iff] at ha
  obtain ⟨n, hn, l, hl, hh, hh', ha⟩ := ha
  obtain ⟨mb, hmb, ha'⟩ : ∃ mb : Bool, (mb = false ∧ mx = none ∨ mb = true ∧ ∃ m, mx = some m ∧ hi.isSome = true ∧ s.int? m = some hh) ∧ aCut (tiOf P t).un (tiOf P) x l hh mb = some y := by
    split at ha
    · exact ⟨false, .inl ⟨rfl, rfl⟩, ha⟩
    · rename_i m
      split at ha
      · rename_i hc; exact ⟨true, .inr ⟨rfl, m, rfl, hc.1, hc.2⟩, ha⟩
      · cases ha
  replace ha := ha'
  clear ha'
  have hm : mx = none ∨ ∃ m, mx = some m ∧ hi.isSome = true ∧ s.int? m = some hh := by
    rcases hmb with ⟨_, q⟩ | ⟨_, q⟩
    · exact .inl q
    · exact .inr q
  have hmis : mx.isSome = mb := by
    rcases hmb with ⟨q1, q⟩ | ⟨q1, m, q, _⟩ <;> subst q1 q <;> rfl
  -- a slice of memory that never turns
  have slc : ∀ (full : Bool) (cs : List AV) (e : TypeId) (v : Value) (full' : Bool), tuOf P (P.underlying t) = .sl e → KRep G.K (.sl full n cs) v → (tiOf P e).ok = true → 0 ≤ l → l ≤ hh → hh ≤ n → n * (tiOf P e).sz = cs.length →
      (full' = true → mb = true ∨ (full = true ∧ hh = n)) →
      ∃ r, (Instr.sliceAt t v (lo.map a.eval) (hi.map a.eval) (mx.map a.eval)).run P w = .ok r w ∧ SRep G (.k (.sl full'  (hh.toNat - l.toNat) ((cs.take (hh.toNat * (tiOf P e).sz)).drop (l.toNat * (tiOf P e).sz)))) r := by
    intro full cs e v full' hu hk hok h0 h1 h2 h3 hf
    obtain ⟨i, z, d, hi', hz, _, _, hsz, _⟩ := ti_ok hok
    obtain ⟨ad, cap, rfl, hnc, hcm, hfull, _⟩ := hk.cr_sl h.kok
    have hb := run_bounds (P := P) h true n cap hl hh' h0 h1 (by omega) hm
    rw [hmis] at hb
    have hrun : (Instr.sliceAt t (.slice ad n cap) (lo.map a.eval) (hi.map a.eval) (mx.map a.eval)).run P w = .ok (.slice (if (if mb then hh.toNat else cap) = l.toNat then ad else ad.map (·.add (l.toNat * i.size))) (hh.toNat - l.toNat) ((if mb then hh.toNat else cap) - l.toNat)) w := by
      simp [Instr.sliceAt, run_underlying (tu_sl hu), Instr.slice, hb, run_sizeOf' hi']
    refine ⟨_, hrun, .k _ _ ?_⟩
    rw [← hsz]
    by_cases hz0 : 0 < (tiOf P e).sz
    · refine hk.cut _ _ _ _ _ (by omega) (by omega) (by split <;> omega) (by split <;> omega) h3 hz0 ?_
      intro hq
      rcases hf hq with q | ⟨q1, q2⟩
      · rw [q]; rfl
      · have := hfull q1; split <;> omega
    · have hz1 : (tiOf P e).sz = 0 := by omega
      have hcs : cs = [] := List.eq_nil_of_length_eq_zero (by rw [← h3, hz1, Nat.mul_zero])
      subst hcs
      rw [hz1]
      simp only [Nat.mul_zero, List.take_nil, List.drop_nil]
      cases hk with
      | sl0 _ _ _ hm' hf' =>
        have e1 : hh.toNat - l.toNat = 0 := by omega
        rw [e1]
        refine .sl0 _ _ _ (by split <;> omega) ?_
        intro hq
        rcases hf hq with q | ⟨q1, q2⟩
        · rw [q]; simp; omega
        · have := hf' q1; split <;> omega
      | sl _ _ _ b o _ hn' hm' hf' g1 g3 =>
        have hadd : (if (if mb = true then hh.toNat else cap) = l.toNat then some (⟨b, o, none⟩ : Addr) else Option.map (fun x : Addr => x.add 0) (some (⟨b, o, none⟩ : Addr))) = some (⟨b, o, none⟩ : Addr) := by repeat (first | rfl | split)
        rw [hadd]
        refine .sl _ _ _ _ _ _ ?_ ?_ ?_ g1 g3
        · split <;> omega
        · split <;> omega
        · intro hq
          rcases hf hq with q | ⟨q1, q2⟩
          · rw [q]; simp
          · have := hf' q1; split <;> omega
  unfold aCut at ha
  split at ha
  · rename_i e full n' cs hu
    simp only [lenSV, hu] at hn
    injection hn with hn; subst hn
    rw [un_eq] at hu
    split at ha
    · rename_i hc
      injection ha with ha; subst ha
      obtain ⟨c1, c2, c3, c4, c5⟩ := hc
      cases hx with
      | k x v hk =>
        refine slc full cs e v _ hu hk c1 c2 c3 c4 c5 fun hq => ?_
        simp only [Bool.or_eq_true, Bool.and_eq_true, decide_eq_true_eq] at hq
        exact hq
    · cases ha
  · rename_i e d g n' e' cs hu
    simp only [lenSV, hu] at hn
    injection hn with hn; subst hn
    rw [un_eq] at hu
    split at ha
    · rename_i hc
      injection ha with ha; subst ha
      obtain ⟨c1, c2, c3, c4, c5⟩ := hc
      cases hx with
      | ow d g n' e cells r hr he hn hl hx hk => exact slc false cs _ _ _ hu hk c1 c2 c3 c4 c5 fun hq => .inl hq
    · cases ha
  · rename_i e d g off n' cap hu
    simp only [lenSV, hu] at hn
    injection hn with hn; subst hn
    rw [un_eq] at hu
    split at ha
    · rename_i hc
      injection ha with ha; subst ha
      obtain ⟨c1, c2, c3, c4, c5, c6⟩ := hc
      subst c6
      obtain ⟨i, z, d', hi', hz, _, _, hsz, _⟩ := ti_ok c1
      have hmn : mx = none := by rcases hmb with ⟨_, q⟩ | ⟨q, _⟩; exact q; cases q
      subst hmn
      cases hx with
      | os d g off n' cap b o c hat hn hcc hm' =>
        have hb := run_bounds (P := P) h true n' c hl hh' c2 c3 (by omega) hm
        rw [hmis] at hb
        simp only [Option.map_none] at hb
        refine ⟨_, by simp [Instr.sliceAt, run_underlying (tu_sl hu), Instr.slice, hb, run_sizeOf' hi']; rfl, ?_⟩
        rw [if_neg (by omega), addr_add, ← hsz, Nat.add_assoc]
        exact .os _ _ _ _ _ _ _ _ hat (by omega) (by omega) (by omega)
    · cases ha
  · rename_i n' e d g off hu
    simp only [lenSV, hu] at hn
    injection hn with hn; subst hn
    rw [un_eq] at hu
    split at ha
    · rename_i hc
      injection ha with ha; subst ha
      obtain ⟨c1, c2, c3, c4, c5, c5', c6⟩ := hc
      subst c6
      obtain ⟨i, z, d', hi', hz, _, _, hsz, _⟩ := ti_ok c1
      have hb := run_bounds (P := P) h false n' n' hl hh' c2 c3 (by omega) hm
      rw [hmis] at hb
      have hmn : mx = none := by rcases hmb with ⟨_, q⟩ | ⟨q, _⟩; exact q; cases q
      subst hmn
      simp only [Option.map_none] at hb
      cases hx with
      | ob d g off b o hat =>
        refine ⟨_, by simp [Instr.sliceAt, run_underlying (tu_arr hu), Instr.sureAddr, hb, run_sizeOf' hi']; rfl, ?_⟩
        rw [if_neg (by omega), addr_add, ← hsz, Nat.add_assoc]
        exact .os _ _ _ _ _ _ _ _ hat (by omega) (Nat.le_refl _) (by unfold maxLen; omega)
    · cases ha
  · rename_i n' e cs hu
    simp only [lenSV, hu] at hn
    injection hn with hn; subst hn
    rw [un_eq] at hu
    split at ha
    · rename_i hc
      injection ha with ha; subst ha
      obtain ⟨c1, c2, c3, c4, c5, c5', c7, c6⟩ := hc
      subst c6
      obtain ⟨i, z, d', hi', hz, _, _, hsz, _⟩ := ti_ok c1
      have hb := run_bounds (P := P) h false n' n' hl hh' c2 c3 (by omega) hm
      rw [hmis] at hb
      have hmn : mx = none := by rcases hmb with ⟨_, q⟩ | ⟨q, _⟩; exact q; cases q
      subst hmn
      simp only [Option.map_none] at hb
      cases hx with
      | k x v hk =>
        obtain ⟨b, o, rfl, _⟩ := hk.cr h.kok
        refine ⟨_, by simp [Instr.sliceAt, run_underlying (tu_arr hu), Instr.sureAddr, hb, run_sizeOf' hi']; rfl, ?_⟩
        rw [if_neg (by omega), addr_add, ← hsz]
        have q1 : l.toNat * (tiOf P e).sz ≤ hh.toNat * (tiOf P e).sz := Nat.mul_le_mul_right _ (by omega)
        have q2 : hh.toNat * (tiOf P e).sz ≤ n' * (tiOf P e).sz := Nat.mul_le_mul_right _ (by omega)
        have hk3 := (hk.cp_cut (hh.toNat * (tiOf P e).sz)).cp_drop (l.toNat * (tiOf P e).sz) (by rw [List.length_take]; omega)
        exact .k _ _ (hk3.sl_of_cp _ _ _ (by omega) (by unfold maxLen; omega) (fun q => by simp at q; omega))
    · cases ha
  · rename_i b hu
    simp only [lenSV, hu] at hn
    injection hn with hn; subst hn
    rw [un_eq] at hu
    split at ha
    · rename_i hc
      injection ha with ha; subst ha
      obtain ⟨c2, c3, c4, c6⟩ := hc
      subst c6
      have hb := run_bounds (P := P) h false b.size b.size hl hh' c2 c3 (by omega) hm
      rw [hmis] at hb
      have hmn : mx = none := by rcases hmb with ⟨_, q⟩ | ⟨q, _⟩; exact q; cases q
      subst hmn
      simp only [Option.map_none] at hb
      cases hx with
      | k x v hk =>
        cases hk with
        | str => exact ⟨_, by simp [Instr.sliceAt, run_underlying (tu_str hu), Instr.slice, hb], .k _ _ (.str _)⟩
    · cases ha
  · cases ha
end

end Go.Proofs.Ytikganlbnhapcaa
