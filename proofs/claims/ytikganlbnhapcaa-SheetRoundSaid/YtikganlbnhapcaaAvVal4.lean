import Derived.Test.YtikganlbnhapcaaAvVal3
import Derived.Lib.AppendStr
namespace Go.Proofs.Ytikganlbnhapcaa
open Go.RowKit
set_option linter.unusedVariables false
set_option linter.unusedSimpArgs false

section
variable {P : Program} {w0 : Base} {w : World} {K0 : Anc} {G : Gh} {us : Nat → Prop} {s : St} {a : Act}
/-- values and their abstract ones, cell by cell -/
def CellsR (K : Kd) (cs : List AV) (vs : Array Value) : Prop := vs.size = cs.length ∧ (∀ (i : Nat) (v : Value), vs[i]? = some v → v.oneCell' = true) ∧ ∀ (i : Nat) (x : AV) (v : Value), cs[i]? = some x → vs[i]? = some v → KRep K x v
theorem KRep.cells {K : Kd} {x : AV} {v : Value} (h : KRep K x v) (hf : x.flat = true) : CellsR K x.cells v.cells := by
  have one : ∀ (x : AV) (v : Value), x.cells = [x] → v.cells = #[v] → v.oneCell' = true → KRep K x v → CellsR K x.cells v.cells := by
    intro x v h1 h2 h3 h4
    rw [h1, h2]
    refine ⟨rfl, fun i u hu => ?_, fun i y u hy hu => ?_⟩
    · cases i with
      | zero => simp at hu; subst hu; exact h3
      | succ i => simp at hu
    · cases i with
      | zero => simp at hu hy; subst hu hy; exact h4
      | succ i => simp at hu
  cases h with
  | any => cases hf
  | tup => cases hf
  | int k n => exact one _ _ rfl rfl rfl (.int k n)
  | bool b => exact one _ _ rfl rfl rfl (.bool b)
  | str b => exact one _ _ rfl rfl rfl (.str b)
  | raw v hv =>
    refine one _ _ rfl ?_ hv (.raw v hv)
    cases v <;> first | rfl | cases hv
  | cp cells b o h1 h3 => exact one _ _ rfl rfl rfl (.cp cells b o h1 h3)
  | sl0 full ad cap hm hf' => exact one _ _ rfl rfl rfl (.sl0 full ad cap hm hf')
  | sl full n cells b o cap hn hm hf' h1 h3 => exact one _ _ rfl rfl rfl (.sl full n cells b o cap hn hm hf' h1 h3)
  | agg cells vs hl h1 h => exact ⟨hl, h1, h⟩
  | fn f caps vs hl hc => exact one _ _ rfl rfl rfl (.fn f caps vs hl hc)
  | ow δ d g n e cs r hr he hn hl hx hk =>
    have hs : ∃ p m c, r.v = .slice p m c := by
      generalize r.v = q at hk
      cases hk with
      | sl0 => exact ⟨_, _, _, rfl⟩
      | sl => exact ⟨_, _, _, rfl⟩
    obtain ⟨p, m, c, e1⟩ := hs
    refine one _ _ rfl ?_ ?_ (.ow δ d g n e cs r hr he hn hl hx hk)
    · rw [e1]; rfl
    · rw [e1]; rfl
theorem CellsR.zero {K : Kd} (z : Array Value) (h1 : ∀ c ∈ z, c.oneCell' = true) : CellsR K (z.toList.map ofVal) z := by
  refine ⟨by simp, fun i v hv => h1 v (Array.mem_of_getElem? hv), fun i x v hx hv => ?_⟩
  rw [List.getElem?_map, Array.getElem?_toList, hv] at hx
  simp at hx; subst hx; exact ofVal_rep _ v
theorem foldl_put (off : Nat) : ∀ (l : List Value) (j : Nat) (cs : Array Value), off + j + l.length ≤ cs.size →
    ((l.zipIdx j).foldl (fun cs (c, j) => cs.setIfInBounds (off + j) c) cs).toList = cs.toList.take (off + j) ++ l ++ cs.toList.drop (off + j + l.length)
  | [], j, cs, _ => by simp
  | c :: l, j, cs, h => by
    simp only [List.length_cons] at h
    simp only [List.zipIdx_cons, List.foldl_cons]
    rw [foldl_put off l (j + 1) _ (by simp; omega)]
    have hlt : off + j < cs.toList.length := by simp; omega
    rw [Array.toList_setIfInBounds, List.length_cons]
    rw [show off + (j + 1) = off + j + 1 by omega]
    rw [List.take_succ_eq_append_getElem (by simpa using hlt)]
    rw [List.take_set_of_le (Nat.le_refl _)]
    rw [List.drop_set_of_lt (by omega)]
    simp
    omega
theorem CellsR.put {K : Kd} {cs : List AV} {vs : Array Value} (h : CellsR K cs vs) {xs : List AV} {us : Array Value} (k : CellsR K xs us) (off : Nat) (hfit : off + xs.length ≤ cs.length) :
    CellsR K (cs.take off ++ xs ++ cs.drop (off + xs.length)) (us.zipIdx.foldl (fun cs (c, j) => cs.setIfInBounds (off + j) c) vs) := by
  have hl := foldl_put off us.toList 0 vs (by have := h.1; have := k.1; simp; omega)
  rw [Nat.add_zero] at hl
  have he : (us.zipIdx.foldl (fun cs (c, j) => cs.setIfInBounds (off + j) c) vs).toList = vs.toList.take off ++ us.toList ++ vs.toList.drop (off + us.toList.length) := by
    rw [← hl, ← Array.foldl_toList, Array.toList_zipIdx]
  have hget : ∀ i, (us.zipIdx.foldl (fun cs (c, j) => cs.setIfInBounds (off + j) c) vs)[i]? = (vs.toList.take off ++ us.toList ++ vs.toList.drop (off + us.toList.length))[i]? := fun i => by rw [← he, Array.getElem?_toList]
  obtain ⟨h1, h2, h3⟩ := h
  obtain ⟨k1, k2, k3⟩ := k
  have kl : us.toList.length = xs.length := by simpa using k1
  have hvl : vs.toList.length = cs.length := by simpa using h1
  have part : ∀ (i : Nat) (v : Value), (vs.toList.take off ++ us.toList ++ vs.toList.drop (off + us.toList.length))[i]? = some v →
      (i < off ∧ vs[i]? = some v ∧ (cs.take off ++ xs ++ cs.drop (off + xs.length))[i]? = cs[i]?) ∨ (off ≤ i ∧ i < off + xs.length ∧ us[i - off]? = some v ∧ (cs.take off ++ xs ++ cs.drop (off + xs.length))[i]? = xs[i - off]?) ∨ (off + xs.length ≤ i ∧ vs[i]? = some v ∧ (cs.take off ++ xs ++ cs.drop (off + xs.length))[i]? = cs[i]?) := by
    intro i v hv
    have lt1 : (vs.toList.take off).length = off := by simp; omega
    have lt2 : (cs.take off).length = off := by simp; omega
    rw [List.append_assoc] at hv ⊢
    by_cases c1 : i < off
    · rw [List.getElem?_append_left (by omega), List.getElem?_take, if_pos c1, Array.getElem?_toList] at hv
      exact .inl ⟨c1, hv, by rw [List.getElem?_append_left (by omega), List.getElem?_take, if_pos c1]⟩
    · rw [List.getElem?_append_right (by omega), lt1] at hv
      by_cases c2 : i < off + xs.length
      · rw [List.getElem?_append_left (by omega), Array.getElem?_toList] at hv
        exact .inr (.inl ⟨by omega, c2, hv, by rw [List.getElem?_append_right (by omega), lt2, List.getElem?_append_left (by omega)]⟩)
      · rw [List.getElem?_append_right (by omega), List.getElem?_drop, Array.getElem?_toList] at hv
        refine .inr (.inr ⟨by omega, ?_, ?_⟩)
        · rwa [show off + us.toList.length + (i - off - us.toList.length) = i by omega] at hv
        · rw [List.getElem?_append_right (by omega), lt2, List.getElem?_append_right (by omega), List.getElem?_drop]; congr 1; omega
  refine ⟨?_, fun i v hv => ?_, fun i x v hx hv => ?_⟩
  · rw [← Array.length_toList, he]; simp; omega
  · rw [hget] at hv
    rcases part i v hv with ⟨_, q, _⟩ | ⟨_, _, q, _⟩ | ⟨_, q, _⟩
    · exact h2 _ _ q
    · exact k2 _ _ q
    · exact h2 _ _ q
  · rw [hget] at hv
    rcases part i v hv with ⟨_, q, e⟩ | ⟨_, _, q, e⟩ | ⟨_, q, e⟩
    · rw [e] at hx; exact h3 _ _ _ hx q
    · rw [e] at hx; exact k3 _ _ _ hx q
    · rw [e] at hx; exact h3 _ _ _ hx q
theorem aFill_sound {K : Kd} (place : Nat → Option (Nat × Nat)) : ∀ (l : List (Nat × AV)) (l' : List (Nat × Value)) (cs cs' : List AV) (vs : Array Value), CellsR K cs vs → l.length = l'.length →
    (∀ (i : Nat) (p : Nat × AV) (q : Nat × Value), l[i]? = some p → l'[i]? = some q → p.1 = q.1 ∧ KRep K p.2 q.2) → aFill place cs l = some cs' → ∃ vs', Instr.fill place vs l' = some vs' ∧ CellsR K cs' vs'
  | [], [], cs, cs', vs, h, _, _, ha => by simp only [aFill, Option.some.injEq] at ha; subst ha; exact ⟨vs, rfl, h⟩
  | (i, x) :: l, [], _, _, _, _, hl, _, _ => by simp at hl
  | [], _ :: _, _, _, _, _, hl, _, _ => by simp at hl
  | (i, x) :: l, (i', v) :: l', cs, cs', vs, h, hl, hr, ha => by
    obtain ⟨e, hk⟩ := hr 0 _ _ rfl rfl
    simp only at e hk
    subst e
    simp only [aFill] at ha
    cases hp : place i with
    | none => simp [hp] at ha
    | some p =>
      obtain ⟨off, size⟩ := p
      simp only [hp] at ha
      split at ha
      · rename_i hc
        obtain ⟨c1, c2, c3⟩ := hc
        have hcell := hk.cells c1
        have hput := h.put hcell off (by omega)
        rw [c2] at hput
        obtain ⟨vs', g1, g2⟩ := aFill_sound place l l' _ cs' _ hput (by simpa using hl) (fun j p q h1 h2 => hr (j + 1) p q (by simpa using h1) (by simpa using h2)) ha
        refine ⟨vs', ?_, g2⟩
        simp only [Instr.fill, hp]
        have s1 : v.cells.size = size := by rw [hcell.1]; exact c2
        have s2 := h.1
        rw [if_neg (by simp; omega)]
        exact g1
      · cases ha
theorem parts_rep (h : Real P w0 K0 G us s a w) (parts : List (Nat × Operand)) : (parts.map fun (j, x) => (j, s.avn x)).length = (parts.map fun (j, x) => (j, a.eval x)).length ∧
    ∀ (i : Nat) (p : Nat × AV) (q : Nat × Value), (parts.map fun (j, x) => (j, s.avn x))[i]? = some p → (parts.map fun (j, x) => (j, a.eval x))[i]? = some q → p.1 = q.1 ∧ KRep G.K p.2 q.2 := by
  refine ⟨by simp, fun i p q hp hq => ?_⟩
  rw [List.getElem?_map, Option.map_eq_some_iff] at hp hq
  obtain ⟨r, hr, rfl⟩ := hp
  obtain ⟨r', hr', rfl⟩ := hq
  rw [hr] at hr'
  injection hr' with e; subst e
  exact ⟨rfl, h.avn (h.ev r.2)⟩
theorem map_parts (parts : Array (Nat × Operand)) : (parts.map fun (i, x) => (i, a.eval x)).toList = parts.toList.map fun (j, x) => (j, a.eval x) := by simp
theorem fields_ok {fs : List Field} (hall : ∀ f ∈ fs, (P.info? f.type).isSome = true) : fs.mapM (fun f => (P.info? f.type).map fun i => (f.offset, i.size)) = some (fs.map fun f => (f.offset, ((P.info? f.type).map (·.size)).getD 0)) := by
  induction fs with
  | nil => rfl
  | cons f fs ih =>
    obtain ⟨i, hi⟩ := Option.isSome_iff_exists.1 (hall f (by simp))
    rw [List.mapM_cons, ih (fun f hf => hall f (by simp [hf]))]
    simp [hi]
end

end Go.Proofs.Ytikganlbnhapcaa
