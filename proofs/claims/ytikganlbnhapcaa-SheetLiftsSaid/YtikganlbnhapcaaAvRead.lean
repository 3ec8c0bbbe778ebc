import Derived.Test.YtikganlbnhapcaaAvRow
import Derived.Deep.Slices
import Derived.ChangeArms
import Derived.OpenShut
namespace Go.Proofs.Ytikganlbnhapcaa
open Go.RowKit Go.ChangeShapes Go.WideShapes
set_option linter.unusedVariables false
set_option linter.unusedSimpArgs false

/-! readers: what a row's reading of an argument says of its abstract value -/
/-- abstract cells and a world's -/
def Fit (K : Kd) (xs : List AV) (cs : List Value) : Prop := xs.length = cs.length ∧ (∀ v ∈ cs, v.oneCell' = true) ∧ ∀ (i : Nat) (x : AV) (v : Value), xs[i]? = some x → cs[i]? = some v → KRep K x v
theorem Fit.one {K : Kd} {x : AV} {v : Value} (h1 : v.oneCell' = true) (h : KRep K x v) : Fit K [x] [v] := ⟨rfl, fun u hu => by simp at hu; subst hu; exact h1, fun i y u hy hu => by
  match i with
  | 0 => simp at hy hu; subst hy hu; exact h
  | i + 1 => simp at hy⟩
theorem Fit.append {K : Kd} {xs ys : List AV} {cs ds : List Value} (h : Fit K xs cs) (k : Fit K ys ds) : Fit K (xs ++ ys) (cs ++ ds) := by
  refine ⟨by simp [h.1, k.1], fun v hv => ?_, fun i x v hx hv => ?_⟩
  · rcases List.mem_append.1 hv with q | q
    · exact h.2.1 v q
    · exact k.2.1 v q
  · by_cases hi : i < xs.length
    · rw [List.getElem?_append_left hi] at hx
      rw [List.getElem?_append_left (by rw [← h.1]; exact hi)] at hv
      exact h.2.2 i x v hx hv
    · rw [List.getElem?_append_right (by omega)] at hx
      rw [List.getElem?_append_right (by rw [← h.1]; omega), ← h.1] at hv
      exact k.2.2 _ x v hx hv
section
variable {H : Type} {enc : TypeId × Value → H} {P : Program} {w : World} {base : Nat} {spare : Nat → Bool} {held : Bool}
/-- whatever is read as this type is one of these -/
def Rdr (H : Type) (enc : TypeId × Value → H) (P : Program) (w : World) (base : Nat) (spare : Nat → Bool) (held : Bool) (t : TypeId) (α : Type) (cells : α → List AV) : Prop :=
  ∀ n cs y, DataW.trod enc P w base spare held n t cs = some y → ∃ x : α, Fit (Kd.of w) (cells x) cs
theorem Rdr.map {t : TypeId} {α β : Type} {cells : α → List AV} {cells' : β → List AV} (h : Rdr H enc P w base spare held t α cells) (f : α → β) (hf : ∀ x, cells' (f x) = cells x) : Rdr H enc P w base spare held t β cells' :=
  fun n cs y hy => by obtain ⟨x, hx⟩ := h n cs y hy; exact ⟨f x, by rw [hf]; exact hx⟩
theorem rdr_int {t : TypeId} {k : IntKind} (ht : P.underlying t = some (.int k)) : Rdr H enc P w base spare held t {n : Int // (Lit.int k n).wf = true} (fun n => [.int k n.1]) := fun m cs y hy => by
  obtain ⟨n, rfl, _, hw⟩ := DataW.trod_int ht hy
  exact ⟨⟨n, hw⟩, .one rfl (.int _ _)⟩
theorem rdr_bool {t : TypeId} (ht : P.underlying t = some .bool) : Rdr H enc P w base spare held t Bool (fun b => [.bool b]) := fun m cs y hy => by
  obtain ⟨b, rfl, _⟩ := DataW.trod_bool ht hy
  exact ⟨b, .one rfl (.bool _)⟩
theorem rdr_str {t : TypeId} (ht : P.underlying t = some .string) : Rdr H enc P w base spare held t {l : List UInt8 // l.length ≤ maxLen} (fun l => [.str (sB l.1)]) := fun m cs y hy => by
  obtain ⟨s, rfl, _, hs⟩ := DataW.trod_string ht hy
  obtain ⟨l, rfl⟩ := sB_surj s
  exact ⟨⟨l, by rw [← sB_size]; exact hs⟩, .one rfl (.str _)⟩
theorem flat_at {α : Type} {cells : α → List AV} {sz : Nat} {X : Nat → α} : ∀ (len : Nat), (∀ i, i < len → (cells (X i)).length = sz) → (((List.range len).map X).flatMap cells).length = len * sz ∧ ∀ j x, (((List.range len).map X).flatMap cells)[j]? = some x → ∃ i r, i < len ∧ r < sz ∧ j = i * sz + r ∧ (cells (X i))[r]? = some x
  | 0, _ => ⟨by simp, fun j x h => by simp at h⟩
  | len + 1, h => by
    obtain ⟨h1, h2⟩ := flat_at len (fun i hi => h i (by omega))
    rw [List.range_succ, List.map_append, List.flatMap_append]
    have h3 := h len (by omega)
    refine ⟨by rw [List.length_append, h1]; simp [h3]; rw [Nat.add_mul, Nat.one_mul], fun j x hx => ?_⟩
    by_cases hj : j < len * sz
    · rw [List.getElem?_append_left (by rw [h1]; exact hj)] at hx
      obtain ⟨i, r, q1, q2⟩ := h2 j x hx
      exact ⟨i, r, by omega, q2⟩
    · rw [List.getElem?_append_right (by rw [h1]; omega), h1] at hx
      simp only [List.map_cons, List.map_nil, List.flatMap_cons, List.flatMap_nil, List.append_nil] at hx
      have := getq_lt hx
      exact ⟨len, j - len * sz, by omega, by omega, by omega, hx⟩
theorem rdr_slice {t e : TypeId} {α : Type} {cells : α → List AV} (ht : P.underlying t = some (.slice e)) (hpos : 0 < P.cellsOf e) (he : Rdr H enc P w base spare held e α cells) :
    Rdr H enc P w base spare held t (List α) (fun xs => [.sl false xs.length (xs.flatMap cells)]) := fun m cs y hy => by
  rcases Go.Deep.open_slice ht hy with ⟨rfl, _⟩ | ⟨a, len, cap, m', n, D, Pl, rfl, _, hl, hm, hmm, _, hi⟩
  · exact ⟨[], .one rfl (.sl0 _ _ _ (Nat.zero_le _) (fun q => by cases q))⟩
  · have hlm : len ≤ m' := by rw [hmm]; split <;> omega
    have each : ∀ i, i < len → ∃ x : α, (cells x).length = P.cellsOf e ∧ ∀ (r : Nat) (z : AV), (cells x)[r]? = some z → ∃ v, w.cell? (a.add (i * P.cellsOf e + r)) = some v ∧ v.oneCell' = true ∧ KRep (Kd.of w) z v := by
      intro i hlt
      obtain ⟨cs', h1, h2⟩ := hi i (by omega)
      obtain ⟨x, hx⟩ := he n cs' _ h2
      obtain ⟨_, hlen, hcell⟩ := World.cells?_some h1
      refine ⟨x, by rw [hx.1, hlen], fun r z hz => ?_⟩
      have hr : r < cs'.length := by rw [← hx.1]; exact getq_lt hz
      have hc := hcell r (by omega)
      rw [List.getElem?_eq_getElem hr, Go.Deep.add_add] at hc
      exact ⟨cs'[r], hc, hx.2.1 _ (List.getElem_mem _), hx.2.2 r z _ hz (by simp [hr])⟩
    by_cases h0 : len = 0
    · subst h0
      exact ⟨[], .one rfl (.sl0 _ _ _ hm (fun q => by cases q))⟩
    obtain ⟨x0, _⟩ := each 0 (by omega)
    haveI : Inhabited α := ⟨x0⟩
    obtain ⟨X, hX⟩ := Go.Deep.choose_lt each
    refine ⟨(List.range len).map X, ?_⟩
    obtain ⟨f1, f2⟩ := flat_at len (fun i hi => (hX i hi).1)
    have hone : (Value.slice (some a) len cap).oneCell' = true := rfl
    refine .one hone ?_
    rw [List.length_map, List.length_range]
    have hx : a = ⟨a.block, a.off, none⟩ := by
      obtain ⟨h1, h2⟩ := hX 0 (by omega)
      obtain ⟨v, hv, _⟩ := h2 0 ((cells (X 0))[0]'(by omega)) (by simp)
      rw [show (0 * P.cellsOf e + 0) = 0 by omega] at hv
      exact addr_plain_ (x := a) hv
    rw [hx]
    refine sl_of hl hm (fun q => by have := congrArg List.length q; rw [f1] at this; rcases Nat.mul_eq_zero.1 this with h | h <;> omega) fun j z hz => ?_
    obtain ⟨i, r, q1, q2, q3, q4⟩ := f2 j z hz
    obtain ⟨v, k1, k2, k3⟩ := (hX i q1).2 r z q4
    rw [add_of_ hx] at k1
    exact ⟨v, by rw [q3]; exact k1, k2, k3⟩
theorem flat_fit {α : Type} {cells : α → List AV} : ∀ (xs : List α) (css : List (List Value)), xs.length = css.length → (∀ (i : Nat) (x : α) (cs : List Value), xs[i]? = some x → css[i]? = some cs → Fit (Kd.of w) (cells x) cs) → Fit (Kd.of w) (xs.flatMap cells) css.flatten
  | [], [], _, _ => ⟨rfl, fun v hv => by simp at hv, fun i x v hx => by simp at hx⟩
  | [], _ :: _, h, _ => by simp at h
  | _ :: _, [], h, _ => by simp at h
  | x :: xs, c :: css, h, hf => by
    rw [List.flatMap_cons, List.flatten_cons]
    exact (hf 0 x c rfl rfl).append (flat_fit xs css (by simpa using h) fun i x cs h1 h2 => hf (i + 1) x cs (by simpa using h1) (by simpa using h2))
theorem chunks (sz : Nat) : ∀ (n : Nat) (cs : List Value), cs.length = n * sz → ((List.range n).map fun i => (cs.drop (i * sz)).take sz).flatten = cs
  | 0, cs, h => by
    have : cs = [] := List.length_eq_zero_iff.1 (by simpa using h)
    subst this; rfl
  | n + 1, cs, h => by
    rw [List.range_succ_eq_map, List.map_cons, List.flatten_cons, List.map_map]
    have := chunks sz n (cs.drop sz) (by rw [List.length_drop, h, Nat.add_mul, Nat.one_mul]; omega)
    have e : (List.map ((fun i => (cs.drop (i * sz)).take sz) ∘ Nat.succ) (List.range n)) = (List.range n).map fun i => ((cs.drop sz).drop (i * sz)).take sz := by
      apply List.map_congr_left
      intro i _
      simp only [Function.comp, List.drop_drop]
      rw [Nat.succ_mul, Nat.add_comm]
    rw [e, this]
    simp
theorem rdr_array {t e : TypeId} {k : Nat} {α : Type} {cells : α → List AV} (ht : P.underlying t = some (.array k e)) (hsz : P.cellsOf t = k * P.cellsOf e) (he : Rdr H enc P w base spare held e α cells) :
    Rdr H enc P w base spare held t {xs : List α // xs.length = k} (fun xs => xs.1.flatMap cells) := fun m cs y hy => by
  obtain ⟨ys, n, _, _, hl, hyl, hi⟩ := DataW.trod_array ht hy
  have each : ∀ i, i < k → ∃ x : α, Fit (Kd.of w) (cells x) ((cs.drop (i * P.cellsOf e)).take (P.cellsOf e)) := fun i hik => by
    have h1 := hi i hik
    rw [List.getElem?_eq_getElem (by omega)] at h1
    exact he _ _ _ h1
  by_cases h0 : k = 0
  · subst h0
    have : cs = [] := List.length_eq_zero_iff.1 (by omega)
    subst this
    exact ⟨⟨[], rfl⟩, ⟨rfl, fun v hv => by simp at hv, fun i x v hx => by simp at hx⟩⟩
  obtain ⟨x0, _⟩ := each 0 (by omega)
  haveI : Inhabited α := ⟨x0⟩
  obtain ⟨X, hX⟩ := Go.Deep.choose_lt each
  refine ⟨⟨(List.range k).map X, by simp⟩, ?_⟩
  have := flat_fit (w := w) (cells := cells) ((List.range k).map X) ((List.range k).map fun i => (cs.drop (i * P.cellsOf e)).take (P.cellsOf e)) (by simp) (fun i x c h1 h2 => by
    simp only [List.getElem?_map, Option.map_eq_some_iff] at h1 h2
    obtain ⟨j, hj, rfl⟩ := h1
    obtain ⟨j', hj', rfl⟩ := h2
    rw [hj] at hj'
    injection hj' with hj'
    subst hj'
    have hlt : i < k := by have := getq_lt hj; simpa using this
    have e : j = i := by rw [List.getElem?_range hlt] at hj; injection hj with hj; exact hj.symm
    subst e
    exact hX j hlt)
  rw [chunks _ _ _ (by omega)] at this
  exact this
theorem rdr_st2 {t : TypeId} {f0 f1 : Field} {α β : Type} {c0 : α → List AV} {c1 : β → List AV} (ht : P.underlying t = some (.struct #[f0, f1])) (h0 : f0.offset = 0) (h1 : f1.offset = P.cellsOf f0.type) (hs : P.cellsOf t = P.cellsOf f0.type + P.cellsOf f1.type)
    (r0 : Rdr H enc P w base spare held f0.type α c0) (r1 : Rdr H enc P w base spare held f1.type β c1) : Rdr H enc P w base spare held t (α × β) (fun x => c0 x.1 ++ c1 x.2) := fun m cs y hy => by
  obtain ⟨ys, n, _, _, hl, hyl, hi⟩ := DataW.trod_struct ht hy
  have hyl2 : ys.length = 2 := hyl
  have g0 := hi 0 f0 rfl
  have g1 := hi 1 f1 rfl
  rw [List.getElem?_eq_getElem (by omega)] at g0 g1
  obtain ⟨x0, k0⟩ := r0 _ _ _ g0
  obtain ⟨x1, k1⟩ := r1 _ _ _ g1
  refine ⟨(x0, x1), ?_⟩
  have := k0.append k1
  rw [h0, h1, List.drop_zero] at this
  have e : List.take (P.cellsOf f0.type) cs ++ List.take (P.cellsOf f1.type) (List.drop (P.cellsOf f0.type) cs) = cs := by
    rw [List.take_of_length_le (l := List.drop _ cs) (by rw [List.length_drop]; omega), List.take_append_drop]
  rw [e] at this
  exact this
theorem rdr_st3 {t : TypeId} {f0 f1 f2 : Field} {α β γ : Type} {c0 : α → List AV} {c1 : β → List AV} {c2 : γ → List AV} (ht : P.underlying t = some (.struct #[f0, f1, f2])) (h0 : f0.offset = 0) (h1 : f1.offset = P.cellsOf f0.type) (h2 : f2.offset = P.cellsOf f0.type + P.cellsOf f1.type) (hs : P.cellsOf t = P.cellsOf f0.type + P.cellsOf f1.type + P.cellsOf f2.type)
    (r0 : Rdr H enc P w base spare held f0.type α c0) (r1 : Rdr H enc P w base spare held f1.type β c1) (r2 : Rdr H enc P w base spare held f2.type γ c2) : Rdr H enc P w base spare held t (α × β × γ) (fun x => c0 x.1 ++ c1 x.2.1 ++ c2 x.2.2) := fun m cs y hy => by
  obtain ⟨ys, n, _, _, hl, hyl, hi⟩ := DataW.trod_struct ht hy
  have hyl2 : ys.length = 3 := hyl
  have g0 := hi 0 f0 rfl
  have g1 := hi 1 f1 rfl
  have g2 := hi 2 f2 rfl
  rw [List.getElem?_eq_getElem (by omega)] at g0 g1 g2
  obtain ⟨x0, k0⟩ := r0 _ _ _ g0
  obtain ⟨x1, k1⟩ := r1 _ _ _ g1
  obtain ⟨x2, k2⟩ := r2 _ _ _ g2
  refine ⟨(x0, x1, x2), ?_⟩
  have := (k0.append k1).append k2
  rw [h0, h1, h2, List.drop_zero] at this
  have e : List.take (P.cellsOf f0.type) cs ++ List.take (P.cellsOf f1.type) (List.drop (P.cellsOf f0.type) cs) ++ List.take (P.cellsOf f2.type) (List.drop (P.cellsOf f0.type + P.cellsOf f1.type) cs) = cs := by
    rw [List.take_of_length_le (l := List.drop (P.cellsOf f0.type + P.cellsOf f1.type) cs) (by rw [List.length_drop]; omega), ← List.take_add, List.take_append_drop]
  rw [e] at this
  exact this
theorem wf_i64 {n : Int} (h : (Lit.int .i64 n).wf = true) : -9223372036854775808 ≤ n ∧ n ≤ 9223372036854775807 := by
  simp [Lit.wf, IntKind.min, IntKind.max, IntKind.signed, IntKind.bits] at h; omega
theorem rdr_u8 {t : TypeId} (ht : P.underlying t = some (.int .u8)) : Rdr H enc P w base spare held t UInt8 (fun b => [.int .u8 (b.toNat : Int)]) :=
  (rdr_int ht).map (fun n => UInt8.ofNat n.1.toNat) (fun n => by
    have := wf_u8 n.2
    rw [UInt8.toNat_ofNat']
    congr 2; omega)
theorem rdr_i64 {t : TypeId} (ht : P.underlying t = some (.int .i64)) : Rdr H enc P w base spare held t {n : Int // -9223372036854775808 ≤ n ∧ n ≤ 9223372036854775807} (fun n => [.int .i64 n.1]) :=
  (rdr_int ht).map (fun n => ⟨n.1, wf_i64 n.2⟩) (fun n => rfl)
theorem flat_bytes (l : List UInt8) : (l.flatMap fun b => [AV.int .u8 (b.toNat : Int)]) = aOfBytes l := by
  induction l with
  | nil => rfl
  | cons b l ih => rw [List.flatMap_cons, ih]; rfl
theorem rdr_bytes {t e : TypeId} (ht : P.underlying t = some (.slice e)) (hpos : 0 < P.cellsOf e) (he : P.underlying e = some (.int .u8)) : Rdr H enc P w base spare held t (List UInt8) (fun l => [.sl false l.length (aOfBytes l)]) :=
  (rdr_slice ht hpos (rdr_u8 he)).map id (fun l => by simp only [id, flat_bytes])
/-- an argument of one cell -/
theorem Rdr.val {t : TypeId} {α : Type} {g : α → AV} (h : Rdr H enc P w base spare held t α (fun x => [g x])) {v : Value} {d : DataW H} {ps : List MemPlace} (hv : v.cells = #[v]) (ht : DataW.Trod enc P w base spare held t v d ps) : ∃ x, KRep (Kd.of w) (g x) v := by
  obtain ⟨n, hn⟩ := ht
  rw [hv] at hn
  obtain ⟨x, hx⟩ := h n _ _ hn
  exact ⟨x, hx.2.2 0 _ _ rfl rfl⟩
/-- an argument that is an array or a struct -/
theorem Rdr.agg {t : TypeId} {α : Type} {cells : α → List AV} (h : Rdr H enc P w base spare held t α cells) {vs : Array Value} {d : DataW H} {ps : List MemPlace} (ht : DataW.Trod enc P w base spare held t (.agg vs) d ps) : ∃ x, KRep (Kd.of w) (.agg (cells x)) (.agg vs) := by
  obtain ⟨n, hn⟩ := ht
  obtain ⟨x, h1, h2, h3⟩ := h n vs.toList _ hn
  exact ⟨x, .agg _ _ (by simpa using h1.symm) (fun i v hv => h2 v (List.mem_of_getElem? (by rw [Array.getElem?_toList]; exact hv))) fun i y v hy hv => h3 i y v hy (by rw [Array.getElem?_toList]; exact hv)⟩
end
end Go.Proofs.Ytikganlbnhapcaa
