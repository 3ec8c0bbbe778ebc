import Derived.Test.YtikganlbnhapcaaAvCall
namespace Go.Proofs.Ytikganlbnhapcaa
open Go.RowKit
set_option linter.unusedVariables false
set_option linter.unusedSimpArgs false

section
variable {P : Program} {w0 : Base} {w w' : World} {K0 : Anc} {G : Gh} {us : Nat → Prop} {s : St} {a : Act}
/-- the blocks of live objects -/
def ObjBlk (s : St) (G : Gh) (b : Nat) : Prop := ∃ d g cs, s.tb d = some (g, .obj cs) ∧ entBlk G d g (.obj cs) = some b
/-- the length of the object at a block -/
def ObjLen (s : St) (G : Gh) (b n : Nat) : Prop := ∃ d g cs, s.tb d = some (g, .obj cs) ∧ entBlk G d g (.obj cs) = some b ∧ n = cs.length
open Classical in
/-- for a call: what the live objects hold, as if it never turned -/
noncomputable def lendK (s : St) (G : Gh) (w : World) : Kd :=
  ⟨fun b i => if ObjBlk s G b then (w.cell? ⟨b, i, none⟩).getD undef else G.K.val b i, fun b => if h : ∃ n, ObjLen s G b n then Classical.choose h else G.K.hw b, G.K.rw, G.K.dp, G.K.fr⟩
theorem objLen_iff {b : Nat} : (∃ n, ObjLen s G b n) ↔ ObjBlk s G b :=
  ⟨fun ⟨n, d, g, cs, h1, h2, _⟩ => ⟨d, g, cs, h1, h2⟩, fun ⟨d, g, cs, h1, h2⟩ => ⟨_, d, g, cs, h1, h2, rfl⟩⟩
open Classical in
theorem lend_hw (h : Real P w0 K0 G us s a w) {d g : Nat} {cs : List AV} (h1 : s.tb d = some (g, .obj cs)) {b : Nat} (h2 : entBlk G d g (.obj cs) = some b) : (lendK s G w).hw b = cs.length := by
  have hex : ∃ n, ObjLen s G b n := ⟨_, d, g, cs, h1, h2, rfl⟩
  show (if h : ∃ n, ObjLen s G b n then Classical.choose h else G.K.hw b) = _
  rw [dif_pos hex]
  obtain ⟨d', g', cs', k1, k2, k3⟩ := Classical.choose_spec hex
  have hd := h.dist _ _ _ _ _ _ _ k1 h1 k2 h2
  subst hd
  rw [h1] at k1
  injection k1 with k1
  injection k1 with e1 e2
  injection e2 with e2
  rw [k3, e2]
open Classical in
theorem lend_hw0 {b : Nat} (h : ¬ ObjBlk s G b) : (lendK s G w).hw b = G.K.hw b := by
  show (if h : ∃ n, ObjLen s G b n then Classical.choose h else G.K.hw b) = _
  rw [dif_neg (fun hc => h (objLen_iff.1 hc))]
theorem objBlk_ok (h : Real P w0 K0 G us s a w) {b : Nat} (hb : ObjBlk s G b) : ∃ (arr : Array Value) (ty : TypeId), w.heap[b]? = some (.cells arr ty (0, 0)) ∧ G.K.hw b = 0 ∧ b < w.heap.size := by
  obtain ⟨d, g, cs, h1, h2⟩ := hb
  obtain ⟨b', o, arr, ty, k1, k2, k3, k4, _⟩ := h.ents _ _ _ h1
  simp [entBlk, k1] at h2
  subst h2
  exact ⟨arr, ty, k3, k4, (Array.getElem?_eq_some_iff.1 k3).1⟩
open Classical in
theorem lend_val0 {b i : Nat} (h : ¬ ObjBlk s G b) : (lendK s G w).val b i = G.K.val b i := by
  show (if ObjBlk s G b then (w.cell? ⟨b, i, none⟩).getD undef else G.K.val b i) = _
  rw [if_neg h]
open Classical in
theorem lend_val {b i : Nat} (h : ObjBlk s G b) : (lendK s G w).val b i = (w.cell? ⟨b, i, none⟩).getD undef := by
  show (if ObjBlk s G b then (w.cell? ⟨b, i, none⟩).getD undef else G.K.val b i) = _
  rw [if_pos h]
theorem lend_le (h : Real P w0 K0 G us s a w) : G.K.le (lendK s G w) := by
  refine ⟨fun b => ?_, fun b i hi => ?_, fun _ _ _ _ h => h, Nat.le_refl _⟩
  · by_cases hb : ObjBlk s G b
    · obtain ⟨arr, ty, k3, k4, _⟩ := objBlk_ok h hb
      rw [k4]; exact Nat.zero_le _
    · rw [lend_hw0 hb]; exact Nat.le_refl _
  · by_cases hb : ObjBlk s G b
    · obtain ⟨arr, ty, k3, k4, _⟩ := objBlk_ok h hb
      rw [k4] at hi; omega
    · rw [lend_val0 hb]
theorem lend_ok (h : Real P w0 K0 G us s a w) : KOk (lendK s G w) w := by
  intro b i hi
  by_cases hb : ObjBlk s G b
  · obtain ⟨d, g, cs, h1, h2⟩ := hb
    rw [lend_hw h h1 h2] at hi
    obtain ⟨b', o, arr, ty, k1, k2, k3, k4, k5, k6, k7⟩ := h.ents _ _ _ h1
    have ho := h.offs _ _ _ _ k1
    subst ho
    simp [entBlk, k1] at h2
    subst h2
    rw [Nat.zero_add] at k5
    have hlt : i < arr.size := by omega
    have hc : w.cell? ⟨b', i, none⟩ = some arr[i] := by rw [cell_of_row w b' i arr ty _ k3]; simp [hlt]
    rw [lend_val ⟨d, g, cs, h1, by simp [entBlk, k1]⟩, hc]
    exact ⟨⟨_, k3, rfl⟩, fun _ => rfl⟩
  · rw [lend_hw0 hb] at hi
    rw [lend_val0 hb]; exact h.kok b i hi
/-- arguments that are no object's, or frozen -/
theorem aArg_K (h : Real P w0 K0 G us s a w) {t : TypeId} {x : SV} {v : Value} {y : AV} (hx : SRep G x v) (hk : s.isK x = true) (ha : aArg P s t x = some y) : KRep G.K y v := by
  have fz : ∀ d g cs, (match s.tb d with | some (g', .fz _) => g' == g | _ => false) = true → s.objOf d g = some cs → ∃ b o, G.at_ d g = some (b, o) ∧ KRep G.K (.cp cs) (.pointer (some ⟨b, o, none⟩)) := by
    intro d g cs hm ho
    split at hm
    · rename_i g' cs' he
      have hg : g' = g := by simpa using hm
      subst hg
      simp only [St.objOf, he, if_true, Option.some.injEq] at ho
      subst ho
      obtain ⟨b, o, h1, h2, h3⟩ := h.ents _ _ _ he
      exact ⟨b, o, h1, .cp _ _ _ h2 h3⟩
    · cases hm
  cases hx with
  | k x v hkk => simp only [aArg, Option.some.injEq] at ha; subst ha; exact hkk
  | ow d g n e cells r hr he hn hl hx hkk => simp only [aArg, Option.some.injEq] at ha; subst ha; exact hkk
  | ob d g off b o hat =>
    simp only [aArg, Option.bind_eq_some_iff] at ha
    obtain ⟨cs, ho, ha⟩ := ha
    obtain ⟨b', o', h1, h2⟩ := fz d g cs hk ho
    rw [hat] at h1
    injection h1 with h1
    injection h1 with e1 e2
    subst e1 e2
    split at ha
    · rename_i hle
      injection ha with ha; subst ha
      exact h2.cp_drop off hle
    · cases ha
  | os d g off n cap b o c hat hn hc hm =>
    simp only [aArg, Option.bind_eq_some_iff] at ha
    obtain ⟨cs, ho, e, he, ha⟩ := ha
    obtain ⟨b', o', h1, h2⟩ := fz d g cs hk ho
    rw [hat] at h1
    injection h1 with h1
    injection h1 with e1 e2
    subst e1 e2
    split at ha
    · rename_i hle
      injection ha with ha; subst ha
      have h3 := (h2.cp_drop off (by omega)).cp_cut (n * (tiOf P e).sz)
      exact h3.sl_of_cp _ _ _ (by omega) hm (fun q => by cases q)
    · cases ha
theorem aArg_lend (h : Real P w0 K0 G us s a w) {t : TypeId} {x : SV} {v : Value} {y : AV} (hx : SRep G x v) (ha : aArg P s t x = some y) : KRep (lendK s G w) y v := by
  have ob : ∀ d g cs, s.objOf d g = some cs → ∃ b o, G.at_ d g = some (b, o) ∧ KRep (lendK s G w) (.cp cs) (.pointer (some ⟨b, o, none⟩)) := by
    intro d g cs ho
    unfold St.objOf at ho
    split at ho
    · rename_i g' cs' he
      split at ho
      · rename_i e; injection ho with ho; subst e ho
        obtain ⟨b, o, arr, ty, k1, k2, k3, k4, k5, k6, k7⟩ := h.ents _ _ _ he
        have ho := h.offs _ _ _ _ k1
        subst ho
        have hblk : entBlk G d g' (.obj cs') = some b := by simp [entBlk, k1]
        refine ⟨b, 0, k1, .cp _ _ _ ⟨by rw [lend_hw h he hblk]; omega, fun i hi => ?_⟩ fun i x hx => ?_⟩
        · have hlt : i < arr.size := by omega
          have hc : w.cell? ⟨b, 0 + i, none⟩ = some arr[i] := by rw [Nat.zero_add, cell_of_row w b i arr ty _ k3]; simp [hlt]
          rw [lend_val ⟨d, g', cs', he, hblk⟩, hc]
          exact k6 i _ hi (by rw [Nat.zero_add]; simp [hlt])
        have hi := getq_lt hx
        have hlt : i < arr.size := by omega
        have hc : w.cell? ⟨b, 0 + i, none⟩ = some arr[i] := by rw [Nat.zero_add, cell_of_row w b i arr ty _ k3]; simp [hlt]
        rw [lend_val ⟨d, g', cs', he, hblk⟩, hc]
        exact (k7 i x arr[i] hx (by rw [Nat.zero_add]; simp [hlt])).mono (lend_le h)
      · cases ho
    · rename_i g' cs' he
      split at ho
      · rename_i e; injection ho with ho; subst e ho
        obtain ⟨b, o, h1, h2, h3⟩ := h.ents _ _ _ he
        exact ⟨b, o, h1, (KRep.cp _ _ _ h2 h3).mono (lend_le h)⟩
      · cases ho
    · cases ho
  cases hx with
  | k x v hkk => simp only [aArg, Option.some.injEq] at ha; subst ha; exact hkk.mono (lend_le h)
  | ow d g n e cells r hr he hn hl hx hkk => simp only [aArg, Option.some.injEq] at ha; subst ha; exact hkk.mono (lend_le h)
  | ob d g off b o hat =>
    simp only [aArg, Option.bind_eq_some_iff] at ha
    obtain ⟨cs, ho, ha⟩ := ha
    obtain ⟨b', o', h1, h2⟩ := ob d g cs ho
    rw [hat] at h1
    injection h1 with h1
    injection h1 with e1 e2
    subst e1 e2
    split at ha
    · rename_i hle
      injection ha with ha; subst ha
      exact h2.cp_drop off hle
    · cases ha
  | os d g off n cap b o c hat hn hc hm =>
    simp only [aArg, Option.bind_eq_some_iff] at ha
    obtain ⟨cs, ho, e, he, ha⟩ := ha
    obtain ⟨b', o', h1, h2⟩ := ob d g cs ho
    rw [hat] at h1
    injection h1 with h1
    injection h1 with e1 e2
    subst e1 e2
    split at ha
    · rename_i hle
      injection ha with ha; subst ha
      have h3 := (h2.cp_drop off (by omega)).cp_cut (n * (tiOf P e).sz)
      exact h3.sl_of_cp _ _ _ (by omega) hm (fun q => by cases q)
    · cases ha
theorem aArgs_ok {K : Kd} : ∀ (os : List Operand) (ts : List TypeId) (ys : List AV) (f : ∀ (t : TypeId) (x : SV) (y : AV) (o : Operand), o ∈ os → s.ev o = x → aArg P s t x = some y → KRep K y (a.eval o)), aArgs P s (os.map s.ev) ts = some ys →
    ys.length = os.length ∧ ∀ (i : Nat) (y : AV) (v : Value), ys[i]? = some y → (os.map a.eval)[i]? = some v → KRep K y v
  | [], [], ys, f, ha => by simp only [List.map_nil, aArgs, Option.some.injEq] at ha; subst ha; exact ⟨rfl, fun i y v hy => by simp at hy⟩
  | [], _ :: _, ys, f, ha => by simp [aArgs] at ha
  | _ :: _, [], ys, f, ha => by simp [aArgs] at ha
  | o :: os, t :: ts, ys, f, ha => by
    simp only [List.map_cons, aArgs] at ha
    split at ha
    · rename_i y ys' h1 h2
      injection ha with ha; subst ha
      obtain ⟨k1, k2⟩ := aArgs_ok os ts ys' (fun t x y o ho => f t x y o (List.mem_cons_of_mem _ ho)) h2
      refine ⟨by simp [k1], fun i y' v hy hv => ?_⟩
      cases i with
      | zero => simp at hy hv; subst hy hv; exact f t _ _ o (List.mem_cons_self) rfl h1
      | succ i => exact k2 i y' v (by simpa using hy) (by simpa using hv)
    · cases ha
/-- a call -/
theorem call_sound (h : Real P w0 K0 G us s a w) {γ : Nat} (hu : ¬ us γ) {o : Oper} (hd : ∀ d, o.dst = some d → d < a.tmps.size) {f : FuncId} {os : List Operand} {ts : List TypeId} (ho : o.op = .call { callee := .value (.func f), args := os.toArray, argTypes := ts.toArray }) {ys : List AV}
    (ha : aArgs P s (os.map s.ev) ts = some ys) {r : RV} (hf : Spec P f ys r) (hb : (os.all fun x => s.isK (s.ev x)) = true ∨ r.noal = true) {s' : St} (hs : s.res o.dst γ r = some s') {next : Act → World → Prop} {Q : Exit → Act → World → Prop}
    (hn : ∀ v w' G', Real P w0 K0 G' (fun g => us g ∨ g = γ) s' (a.put o.dst v) w' → next (a.put o.dst v) w') : o.wp P a w next Q := by
  obtain ⟨⟨fn, hfn, hname, hbody⟩, hspec⟩ := hf
  have hrun : (execOp a.eval o).run P w = .ok (.enter f (os.map a.eval).toArray) w := by
    unfold execOp
    simp only [ho]
    have hname' : ¬ fn.name = "runtime.NumGoroutine" := by simpa using hname
    have hbody' : ¬ fn.body = none := fun q => by rw [q] at hbody; cases hbody
    simp [resolve, Act.eval, Deferred.ofValue, invoke, callFunc, hfn, hname', hbody']
  unfold Oper.wp
  rw [hrun]
  show Calls P f _ w _
  -- the ghost that the callee sees, and what is left of it
  have hmain : ∃ K1 : Kd, G.K.le K1 ∧ KOk K1 w ∧ ArgsR K1 ys (os.map a.eval).toArray ∧ (K1.rw = G.K.rw ∧ K1.dp = G.K.dp) ∧ ((∀ b, K1.hw b = G.K.hw b ∧ ∀ i, i < G.K.hw b → K1.val b i = G.K.val b i) ∨ r.noal = true) := by
    rcases hb with hb | hb
    · obtain ⟨k1, k2⟩ := aArgs_ok (P := P) (K := G.K) (a := a) os ts ys (fun t x y o' hm e hy => by
        subst e
        exact aArg_K h (h.ev o') (List.all_eq_true.1 hb o' hm) hy) ha
      exact ⟨G.K, .refl _, h.kok, ⟨by simp [k1], fun i x v hx hv => k2 i x v hx (by simpa using hv)⟩, ⟨rfl, rfl⟩, .inl fun b => ⟨rfl, fun _ _ => rfl⟩⟩
    · obtain ⟨k1, k2⟩ := aArgs_ok (P := P) (K := lendK s G w) (a := a) os ts ys (fun t x y o' _ e hy => by subst e; exact aArg_lend h (h.ev o') hy) ha
      exact ⟨lendK s G w, lend_le h, lend_ok h, ⟨by simp [k1], fun i x v hx hv => k2 i x v hx (by simpa using hv)⟩, ⟨rfl, rfl⟩, .inr hb⟩
  obtain ⟨K1, hle1, hok1, hargs, ⟨hrw1, hdp1⟩, hcase⟩ := hmain
  refine (hspec K1 w _ hok1 hargs).mono ?_
  rintro e w' ⟨v, K2, rfl, hbel, hle2, hok2, hhw, hlo, hr⟩
  have hlo2 : ∀ δ, δ < G.K.dp → ∀ d g, K2.rw δ d g = G.K.rw δ d g := fun δ hδ d g => by rw [hlo δ (by omega) d g, hrw1]
  -- what the caller keeps
  have hkeep : ∃ K3 : Kd, G.K.le K3 ∧ KOk K3 w' ∧ (∀ b, b < w.heap.size → K3.hw b = G.K.hw b) ∧ K3.rw = K2.rw ∧ RRep P K3 w.heap.size w' r v := by
    rcases hcase with hcase | hcase
    · exact ⟨K2, hle1.trans hle2, hok2, fun b hb => (hhw b hb).trans (hcase b).1, rfl, hr⟩
    · let K3 : Kd := ⟨K2.val, fun b => if b < w.heap.size then G.K.hw b else K2.hw b, K2.rw, K2.dp, K2.fr⟩
      have hle3 : G.K.le K3 := by
        refine ⟨fun b => ?_, fun b i hi => (hle1.trans hle2).val b i hi, (hle1.trans hle2).rw, (hle1.trans hle2).dp⟩
        show G.K.hw b ≤ if b < w.heap.size then G.K.hw b else K2.hw b
        split
        · exact Nat.le_refl _
        · exact (hle1.trans hle2).hw b
      have hok3 : KOk K3 w' := fun b i hi => hok2 b i (by
        have hi' : i < if b < w.heap.size then G.K.hw b else K2.hw b := hi
        split at hi'
        · exact Nat.lt_of_lt_of_le hi' ((hle1.trans hle2).hw b)
        · exact hi')
      refine ⟨K3, hle3, hok3, fun b hb => by show (if b < w.heap.size then G.K.hw b else K2.hw b) = _; rw [if_pos hb], rfl, ?_⟩
      cases r with
      | k x => exact KRep.of_noal hr hcase
      | own n e cells =>
        obtain ⟨xs, hown, hh, hone, hlen, hk⟩ := hr
        refine ⟨xs, hown, fun b hb => ?_, hone, hlen, fun i x u hx hu => (hk i x u hx hu).of_sc (List.all_eq_true.1 hcase x (List.mem_of_getElem? hx))⟩
        show (if b < w.heap.size then G.K.hw b else K2.hw b) = 0
        rw [if_neg (by have := (World.ownsRow.lt hown b hb).1; omega)]
        exact hh b hb
  obtain ⟨K3, hle3, hok3, hhw3, hrw3, hr3⟩ := hkeep
  have hgo : Real P w0 K0 (G.withK K3) us s a w' := h.go (h.below.then_ hbel) (Gh.withK_le hle3) hok3 (fun g hg => hg) (fun b o hb _ => (hbel.block b (Array.getElem?_eq_some_iff.1 hb).1).trans hb) ⟨fun d g => by show K3.rw _ d g = G.row d g; rw [hrw3, hlo2 _ h.dpl]; exact h.krw d g, fun δ hδ d g => by show K3.rw δ d g = _; rw [hrw3, hlo2 δ (Nat.lt_of_lt_of_le hδ (Nat.le_trans h.dp0 (Nat.le_of_lt h.dpl)))]⟩ h.fresh h.rows h.offs (fun b hb => hhw3 b (Nat.lt_of_lt_of_le (w0.lt b hb) h.size))
    (fun d' g' e' he' b hb' => ⟨hbel.block b (h.hw_live he' hb'), hhw3 b (h.hw_live he' hb')⟩)
  obtain ⟨G', hG'⟩ := res_sound hgo hu hd h.size (fun d' g' e' b he' hb' => by
    rw [entBlk_le (Gh.withK_le hle3) (h.ents _ _ _ he')] at hb'
    exact h.hw_live he' hb') (show RRep P (G.withK K3).K w.heap.size w' r v from hr3) hs
  exact hn v w' G' hG'
end

end Go.Proofs.Ytikganlbnhapcaa
