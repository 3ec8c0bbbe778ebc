import Derived.Test.YtikganlbnhapcaaAvVal5
namespace Go.Proofs.Ytikganlbnhapcaa
open Go.RowKit
set_option linter.unusedVariables false
set_option linter.unusedSimpArgs false

theorem KRep.bool_inv {K : Kd} {t : Bool} {v : Value} (h : KRep K (.bool t) v) : v = .bool t := by cases h; rfl
theorem KRep.int_inv {K : Kd} {k : IntKind} {n : Int} {v : Value} (h : KRep K (.int k n) v) : v = .int k n := by cases h; rfl
theorem KRep.str_inv {K : Kd} {t : ByteArray} {v : Value} (h : KRep K (.str t) v) : v = .string t := by cases h; rfl
theorem eqNilIn {P : Program} (d : Nat) {t e : TypeId} (ht : P.underlying t = some (.pointer e)) (p : Option Addr) (w : World) : (Op.equalIn (d + 1) t (.pointer p) (.pointer none)).run P w = .ok p.isNone w := by
  cases p <;> simp [Op.equalIn, run_underlying ht]
theorem eqNil {P : Program} {t e : TypeId} (ht : P.underlying t = some (.pointer e)) (p : Option Addr) (w : World) : (Op.equal t (.pointer p) (.pointer none)).run P w = .ok p.isNone w := eqNilIn 9999 ht p w
theorem eqSlNilIn {P : Program} (w : World) (d : Nat) (t e : TypeId) (a : Option Addr) (n c n' c' : Nat) (h : P.underlying t = some (.slice e)) :
    (Op.equalIn (d + 1) t (.slice a n c) (.slice none n' c')).run P w = .ok a.isNone w := by
  cases a <;> simp [Op.equalIn, run_underlying h]
theorem run_eql_slice_nil' {P : Program} (w : World) (t e : TypeId) (a : Option Addr) (n c n' c' : Nat) (h : P.underlying t = some (.slice e)) :
    (binOp .eql t (.slice a n c) (.slice none n' c')).run P w = .ok (.bool a.isNone) w := by
  simp only [binOp]
  simp [Op.equal, Op.maxDepth, eqSlNilIn w 9999 t e a n c n' c' h]
theorem run_neq_slice_nil' {P : Program} (w : World) (t e : TypeId) (a : Option Addr) (n c n' c' : Nat) (h : P.underlying t = some (.slice e)) :
    (binOp .neq t (.slice a n c) (.slice none n' c')).run P w = .ok (.bool (!a.isNone)) w := by
  simp only [binOp]
  simp [Op.equal, Op.maxDepth, eqSlNilIn w 9999 t e a n c n' c' h]
section
variable {P : Program} {w0 : Base} {w : World} {K0 : Anc} {G : Gh} {us : Nat → Prop} {s : St} {a : Act}
theorem aBin_sound {t : TypeId} {op : BinOp} {x y : SV} {u v : Value} {r : AV} (xo yo : Operand) (hx : SRep G x u) (hy : SRep G y v) (ha : aBin (tiOf P t).un op x y = some r) :
    ∃ q, (do eqGuard op t xo yo u v; binOp op t u v : Sem Value).run P w = .ok q w ∧ KRep G.K r q := by
  have hxa := hx.av
  have hya := hy.av
  unfold aBin at ha
  split at ha
  · rename_i k p k' q' hp hq
    rw [hp] at hxa; rw [hq] at hya
    cases hxa with
    | int => cases hya with
      | int =>
        obtain ⟨q, h1, h2⟩ := aInt_sound (P := P) (w := w) (K := G.K) t ha
        have hg : (eqGuard op t xo yo (.int k p) (.int k' q')).run P w = .ok () w := by cases op <;> rfl
        exact ⟨q, by simp only [Sem.run_bind, hg, Result.andThen_ok, h1], h2⟩
  · rename_i p q hp hq
    rw [hp] at hxa; rw [hq] at hya
    cases hxa with
    | str => cases hya with
      | str =>
        have hg : (eqGuard op t xo yo (.string p) (.string q)).run P w = .ok () w := by cases op <;> rfl
        split at ha
        · injection ha with ha; subst ha
          refine ⟨_, ?_, .bool _⟩
          simp [hg, binOp, Op.stringOp]
        · injection ha with ha; subst ha
          refine ⟨_, ?_, .bool _⟩
          simp [hg, binOp, Op.stringOp]
        · cases ha
  · rename_i p q hp hq
    rw [hp] at hxa; rw [hq] at hya
    cases hxa with
    | bool => cases hya with
      | bool =>
        have hg : (eqGuard op t xo yo (.bool p) (.bool q)).run P w = .ok () w := by cases op <;> rfl
        split at ha
        · rename_i hun
          injection ha with ha; subst ha
          have ht := tu_bool hun
          refine ⟨_, ?_, .bool _⟩
          simp only [Sem.run_bind, hg, Result.andThen_ok, binOp, run_equal_bool w t p q ht, Sem.run_pure]
        · rename_i hun
          injection ha with ha; subst ha
          have ht := tu_bool hun
          refine ⟨_, ?_, .bool _⟩
          simp only [Sem.run_bind, hg, Result.andThen_ok, binOp, run_equal_bool w t p q ht, Sem.run_pure]
        · cases ha
  · rename_i hq
    rw [hq] at hya
    cases hya with
    | raw =>
      split at ha
      · rename_i e b hun hnil
        injection ha with ha; subst ha
        have ht := tu_ptr hun
        rcases isNil_sound hx hnil with ⟨rfl, rfl⟩ | ⟨rfl, ad, rfl⟩
        · have hg : (eqGuard .eql t xo yo (.pointer none) (.pointer none)).run P w = .ok () w := rfl
          refine ⟨_, ?_, .bool _⟩
          simp only [Sem.run_bind, hg, Result.andThen_ok, binOp, eqNil ht, Sem.run_pure]; rfl
        · have hg : (eqGuard .eql t xo yo (.pointer (some ad)) (.pointer none)).run P w = .ok () w := rfl
          refine ⟨_, ?_, .bool _⟩
          simp only [Sem.run_bind, hg, Result.andThen_ok, binOp, eqNil ht, Sem.run_pure]; rfl
      · rename_i e b hun hnil
        injection ha with ha; subst ha
        have ht := tu_ptr hun
        rcases isNil_sound hx hnil with ⟨rfl, rfl⟩ | ⟨rfl, ad, rfl⟩
        · have hg : (eqGuard .neq t xo yo (.pointer none) (.pointer none)).run P w = .ok () w := rfl
          refine ⟨_, ?_, .bool _⟩
          simp only [Sem.run_bind, hg, Result.andThen_ok, binOp, eqNil ht, Sem.run_pure]; rfl
        · have hg : (eqGuard .neq t xo yo (.pointer (some ad)) (.pointer none)).run P w = .ok () w := rfl
          refine ⟨_, ?_, .bool _⟩
          simp only [Sem.run_bind, hg, Result.andThen_ok, binOp, eqNil ht, Sem.run_pure]; rfl
      · cases ha
  · cases ha

theorem isNilC_eq {y : Operand} (h : isNilC y = true) : y = .const (.slice none 0 0) := by
  unfold isNilC at h; split at h
  · rfl
  · cases h
theorem nilSl_sound {x : SV} {v : Value} {b : Bool} (hx : SRep G x v) (h : nilSl x = some b) : b = false ∧ ∃ ad n c, v = .slice (some ad) n c := by
  unfold nilSl at h
  split at h
  · rename_i f n cs
    split at h
    · rename_i h0
      injection h with h
      cases hx with
      | k x v hk =>
        obtain ⟨b, o, cap, rfl, _⟩ := hk.sl_cp h0
        exact ⟨h.symm, _, _, _, rfl⟩
    · cases h
  · rename_i d g n e cs
    split at h
    · rename_i h0
      injection h with h
      cases hx with
      | ow d g n' e cells r hr he hn hl hx hk =>
        obtain ⟨b, o, cap, hv, _⟩ := hk.sl_cp h0
        exact ⟨h.symm, _, _, _, hv⟩
    · cases h
  · injection h with h
    cases hx with
    | os d g off n' cap b o c hat hn hcc hm => exact ⟨h.symm, _, _, _, rfl⟩
  · cases h
theorem aCmpNil_sound {t : TypeId} {op : BinOp} {x : SV} {u : Value} {r : AV} (xo yo : Operand) (hx : SRep G x u) (ha : aCmpNil (tiOf P t).un op x yo = some r) :
    ∃ q, (do eqGuard op t xo yo u (.slice none 0 0); binOp op t u (.slice none 0 0) : Sem Value).run P w = .ok q w ∧ KRep G.K r q := by
  unfold aCmpNil at ha
  split at ha
  · rename_i e b hu hn hy
    injection ha with ha; subst ha
    rw [un_eq] at hu
    obtain ⟨rfl, ad, n, c, rfl⟩ := nilSl_sound hx hn
    have hg : (eqGuard .eql t xo yo (.slice (some ad) n c) (.slice none 0 0)).run P w = .ok () w := rfl
    refine ⟨_, ?_, .bool _⟩
    simp only [Sem.run_bind, hg, Result.andThen_ok]
    exact run_eql_slice_nil' w t e (some ad) n c 0 0 (tu_sl hu)
  · rename_i e b hu hn hy
    injection ha with ha; subst ha
    rw [un_eq] at hu
    obtain ⟨rfl, ad, n, c, rfl⟩ := nilSl_sound hx hn
    have hg : (eqGuard .neq t xo yo (.slice (some ad) n c) (.slice none 0 0)).run P w = .ok () w := rfl
    refine ⟨_, ?_, .bool _⟩
    simp only [Sem.run_bind, hg, Result.andThen_ok]
    exact run_neq_slice_nil' w t e (some ad) n c 0 0 (tu_sl hu)
  · cases ha
theorem aVal_sound (h : Real P w0 K0 G us s a w) {o : Oper} {y : SV} (ha : aVal P s o.op = some y) : ∃ r, (execOp a.eval o).run P w = .ok (.value r) w ∧ SRep G y r := by
  unfold execOp
  cases ho : o.op <;> simp only [ho, aVal] at ha ⊢ <;> try (cases ha; done)
  case move x => injection ha with ha; subst ha; exact ⟨_, rfl, h.ev x⟩
  case assign x => injection ha with ha; subst ha; exact ⟨_, rfl, h.ev x⟩
  case pick c p q =>
    unfold aPick at ha
    split at ha
    · rename_i t ht
      injection ha with ha; subst ha
      have hc := (h.ev c).av
      rw [ht] at hc
      have e : a.eval c = .bool t := hc.bool_inv
      exact ⟨_, by simp [e, asBool], pickSV_sound (h.ev p) (h.ev q)⟩
    · cases ha
  case build t parts =>
    obtain ⟨r, h1, h2⟩ := aBuild_sound h ha
    exact ⟨r, by simp [h1], h2⟩
  case load t x =>
    obtain ⟨r, h1, h2⟩ := aLoad_sound h (h.ev x) ha
    exact ⟨r, by simp [h1], h2⟩
  case nilCheck x =>
    unfold aNilCheck at ha
    split at ha
    · rename_i hn
      injection ha with ha; subst ha
      rcases isNil_sound (h.ev x) hn with ⟨q, _⟩ | ⟨_, ad, e⟩
      · cases q
      · exact ⟨_, by simp [e], h.ev x⟩
    · cases ha
  case binOp op t x y' ty =>
    split at ha
    · rename_i r hr
      injection ha with ha; subst ha
      have hc : isNilC y' = true := by
        unfold aCmpNil at hr; split at hr
        · assumption
        · assumption
        · cases hr
      obtain ⟨q, h1, h2⟩ := aCmpNil_sound (P := P) (w := w) x y' (h.ev x) hr
      obtain rfl := isNilC_eq hc
      exact ⟨q, by rw [show a.eval (.const (.slice none 0 0)) = .slice none 0 0 from rfl]; simp only [Sem.run_bind] at h1 ⊢; simp [h1], .k _ _ h2⟩
    simp only [Option.map_eq_some_iff] at ha
    obtain ⟨r, hr, rfl⟩ := ha
    obtain ⟨q, h1, h2⟩ := aBin_sound (P := P) (w := w) x y' (h.ev x) (h.ev y') hr
    exact ⟨q, by simp only [Sem.run_bind] at h1 ⊢; simp [h1], .k _ _ h2⟩
  case unOp op t x =>
    simp only [Option.map_eq_some_iff] at ha
    obtain ⟨r, hr, rfl⟩ := ha
    obtain ⟨q, h1, h2⟩ := aUn_sound (P := P) (w := w) (h.ev x).av hr
    exact ⟨q, by simp [h1], .k _ _ h2⟩
  case convert t u x =>
    obtain ⟨r, h1, h2⟩ := aConv_sound h (h.ev x) ha
    exact ⟨r, by simp [h1], h2⟩
  case sliceToArrayPointer t x =>
    obtain ⟨r, h1, h2⟩ := aArrPtr_sound (P := P) h (h.ev x) ha
    exact ⟨r, by simp [h1], h2⟩
  case fieldAddr t x f =>
    obtain ⟨r, h1, h2⟩ := aField_sound h (h.ev x) ha
    exact ⟨r, by simp [h1], h2⟩
  case indexAddr t x j =>
    simp only [Option.bind_eq_some_iff] at ha
    obtain ⟨i, hi, ha⟩ := ha
    obtain ⟨k, hk⟩ := int_of (h.ev j).av hi
    obtain ⟨r, h1, h2⟩ := aIdxAt_sound (P := P) (k := k) h (h.ev x) ha
    exact ⟨r, by simp [hk, h1], h2⟩
  case index t x j =>
    simp only [Option.bind_eq_some_iff] at ha
    obtain ⟨i, hi, ha⟩ := ha
    obtain ⟨k, hk⟩ := int_of (h.ev j).av hi
    obtain ⟨r, h1, h2⟩ := aIdx_sound (P := P) (w := w) (k := k) (G := G) rfl (h.ev x).av ha
    exact ⟨r, by simp [hk, h1], h2⟩
  case extract x j =>
    obtain ⟨r, h1, h2⟩ := aExtract_sound (P := P) (w := w) (G := G) rfl (h.ev x).av ha
    exact ⟨r, by simp [h1], h2⟩
  case slice t x lo hi mx =>
    obtain ⟨r, h1, h2⟩ := aSlice_sound h (h.ev x) ha
    exact ⟨r, by simp [h1], h2⟩
  case call c =>
    obtain ⟨callee, args, ts⟩ := c
    cases callee <;> simp only at ha <;> try (cases ha; done)
    rename_i b
    obtain ⟨args⟩ := args
    obtain ⟨ts⟩ := ts
    simp only [aBuiltin] at ha
    split at ha
    · rename_i x t
      simp only [Option.map_eq_some_iff] at ha
      obtain ⟨n, hn, rfl⟩ := ha
      have := lenSV_sound (P := P) (w := w) o.type (h.ev x) hn
      exact ⟨_, by simp [resolve, invoke, builtin, this], .k _ _ (.int _ _)⟩
    · rename_i x y'
      split at ha
      · rename_i k p k' q hp hq
        injection ha with ha; subst ha
        have hx := (h.ev x).av
        have hy := (h.ev y').av
        rw [hp] at hx; rw [hq] at hy
        have e1 : a.eval x = .int k p := hx.int_inv
        have e2 : a.eval y' = .int k' q := hy.int_inv
        exact ⟨_, by simp [resolve, invoke, builtin, Builtin.max_, Builtin.max2, e1, e2], .k _ _ (.int _ _)⟩
      · cases ha
    · rename_i x y'
      split at ha
      · rename_i k p k' q hp hq
        injection ha with ha; subst ha
        have hx := (h.ev x).av
        have hy := (h.ev y').av
        rw [hp] at hx; rw [hq] at hy
        have e1 : a.eval x = .int k p := hx.int_inv
        have e2 : a.eval y' = .int k' q := hy.int_inv
        exact ⟨_, by simp [resolve, invoke, builtin, Builtin.min_, Builtin.min2, e1, e2], .k _ _ (.int _ _)⟩
      · cases ha
    · cases ha
end

end Go.Proofs.Ytikganlbnhapcaa
