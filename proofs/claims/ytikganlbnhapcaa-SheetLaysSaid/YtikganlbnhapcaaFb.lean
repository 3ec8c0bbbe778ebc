import Derived.Test.YtikganlbnhapcaaFa
import Derived.Deep.LoopGhost
namespace Go.Proofs.Ytikganlbnhapcaa
open Go.RowKit
set_option linter.unusedVariables false
set_option linter.unusedSimpArgs false

/-- so many zero elements -/
def aZeros (n sz : Nat) (zr : List AV) : List AV := (List.range (n * sz)).map fun j => zr.getD (j % sz) .any
def elemOf? (u : TU) : Option TypeId :=
  match u with
  | .sl e => some e
  | _ => none
def St.mk1 (s : St) (d γ : Nat) (cells : List AV) (x : SV) : St := (s.set d (some (γ, .obj cells))).put (some d) x
def St.mkT (s : St) (d γ : Nat) (x : SV) : St := (s.set d (some (γ, .tag))).put (some d) x
/-- a slice that is made: an object, or a growing slice of one's own -/
def St.mkSl (s : St) (d γ n : Nat) (e : TypeId) (cells : List AV) : St :=
  if s.md d = true then (if n = 0 then s.put (some d) (.k (.sl true 0 [])) else s.mk1 d γ cells (.os d γ 0 n n)) else s.mkT d γ (.ow d γ n e cells)
def aBuildSl0 (P : Program) (γ : Nat) (s : St) (d : Nat) (t : TypeId) (n : Nat) (parts : List (Nat × Operand)) : Option St :=
  (elemOf? (tiOf P t).un).bind fun e => if (tiOf P e).ok = true ∧ n * (tiOf P e).sz ≤ 16777216 ∧ 0 < (tiOf P e).sz then
    (aFill (fun j => some (j * (tiOf P e).sz, (tiOf P e).sz)) (aZeros n (tiOf P e).sz (tiOf P e).zr) (parts.map fun (j, x) => (j, s.avn x))).map fun cs => s.mkSl d γ n e cs
  else none
/-- two slices of objects, packed for a call -/
def pkOf (s : St) (parts : List (Nat × Operand)) : Option SV :=
  match parts with
  | [(0, x), (1, y)] => match s.ev x, s.ev y with
    | .os d g off n _, .os d2 g2 off2 n2 _ => some (.pk d g off n d2 g2 off2 n2)
    | _, _ => none
  | _ => none
def aPk (P : Program) (s : St) (d : Nat) (t : TypeId) (n : Nat) (parts : List (Nat × Operand)) : Option St :=
  (elemOf? (tiOf P t).un).bind fun e => if (tiOf P e).ok = true ∧ n = 2 ∧ (tiOf P e).sz = 1 then (pkOf s parts).map fun x => s.put (some d) x else none
def aBuildSl (P : Program) (γ : Nat) (s : St) (d : Nat) (t : TypeId) (n : Nat) (parts : List (Nat × Operand)) : Option St :=
  match aBuildSl0 P γ s d t n parts with
  | some s' => some s'
  | none => aPk P s d t n parts
def aMake (P : Program) (γ : Nat) (s : St) (d : Nat) (t : TypeId) (l c : Int) : Option St :=
  (elemOf? (tiOf P t).un).bind fun e => if (tiOf P e).ok = true ∧ 0 < (tiOf P e).sz ∧ 0 ≤ l ∧ c = l ∧ (tiOf P e).by_ * l ≤ 140737488355328 ∧ l ≤ 140737488355328 then
    some (s.mkSl d γ l.toNat e (aZeros l.toNat (tiOf P e).sz (tiOf P e).zr))
  else none
def aStore (P : Program) (s : St) (t : TypeId) (x : SV) (y : AV) : Option St :=
  match x with
  | .ob d g off => match s.tb d with
    | some (g', .obj cs) => if g' = g ∧ (tiOf P t).ok = true ∧ y.flat = true ∧ y.cells.length = (tiOf P t).sz ∧ off + (tiOf P t).sz ≤ cs.length then
        some (s.set d (some (g, .obj (cs.take off ++ y.cells ++ cs.drop (off + (tiOf P t).sz))))) else none
    | _ => none
  | _ => none

section
variable {P : Program} {w0 : Base} {w : World} {K0 : Anc} {G : Gh} {us : Nat → Prop} {s : St} {a : Act}
theorem St.put_some (s : St) (d : Nat) (x : SV) : s.put (some d) x = ⟨upd s.fr d x, s.tb, s.nx, s.md⟩ := rfl
theorem Real.alloc (h : Real P w0 K0 G us s a w) (o : Obj) : Real P w0 K0 G us s a (w.alloc o) :=
  h.go (h.below.alloc o) (.refl G) (h.kok.below fun b hb => Below.heap_alloc w _ b (Decidable.byContradiction fun hc => hb (h.kok.hw0 (by omega)))) (fun g hg => hg) (fun b o hb _ => (Below.heap_alloc w _ b (Array.getElem?_eq_some_iff.1 hb).1).trans hb) ⟨h.krw, fun _ _ _ _ => rfl⟩ h.fresh h.rows h.offs (fun b _ => rfl)
    (fun d' g' e he b hb => ⟨Below.heap_alloc w _ b (h.hw_live he hb), rfl⟩)
theorem Real.drew (h : Real P w0 K0 G us s a w) : Real P w0 K0 G us s a w.drew :=
  h.go h.below.drew (.refl G) h.kok (fun g hg => hg) (fun _ _ h _ => h) ⟨h.krw, fun _ _ _ _ => rfl⟩ h.fresh h.rows h.offs (fun b _ => rfl) (fun d' g' e he b hb => ⟨rfl, rfl⟩)
theorem Real.mk1 (h : Real P w0 K0 G us s a w) (d γ : Nat) (hu : ¬ us γ) (hd : d < a.tmps.size) (cells : List AV) (arr : Array Value) (ty : TypeId) (hc : CellsR G.K cells arr) (x : SV) (v : Value)
    (hx : ∀ G', G'.at_ d γ = some (w.heap.size, 0) → SRep G' x v) : ∃ G', Real P w0 K0 G' (fun g => us g ∨ g = γ) (s.mk1 d γ cells x) (a.put (some d) v) (w.alloc (.cells arr ty)) := by
  obtain ⟨G', h1, h2, h3, h4⟩ := h.newObj d γ hu cells arr ty hc.1 hc.2.1 hc.2.2
  exact ⟨G', h4.put (some d) x v (hx G' h3) (fun t ht => by injection ht with ht; omega)⟩
theorem CellsR.toList {K : Kd} {cs : List AV} {vs : Array Value} (h : CellsR K cs vs) : cs.length = vs.toList.length ∧ (∀ x ∈ vs.toList, x.oneCell' = true) ∧ ∀ (i : Nat) (x : AV) (v : Value), cs[i]? = some x → vs.toList[i]? = some v → KRep K x v := by
  refine ⟨by simp [h.1], fun x hx => ?_, fun i x v h1 h2 => h.2.2 i x v h1 (by rwa [Array.getElem?_toList] at h2)⟩
  obtain ⟨i, hi⟩ := List.mem_iff_getElem?.1 hx
  exact h.2.1 i x (by rwa [Array.getElem?_toList] at hi)
theorem Real.mkSl (h : Real P w0 K0 G us s a w) (d γ : Nat) (hu : ¬ us γ) (hd : d < a.tmps.size) (n size : Nat) (e : TypeId) (cells : List AV) (arr : Array Value) (hc : CellsR G.K cells arr) (hn : n ≤ maxLen) (hl : arr.size = n * size) (hsz : size = (tiOf P e).sz) :
    ∃ G', Real P w0 K0 G' (fun g => us g ∨ g = γ) (s.mkSl d γ n e cells) (a.put (some d) (.slice (some ⟨w.heap.size, 0, none⟩) n n)) (w.alloc (.cells arr e)) := by
  unfold St.mkSl
  split
  · split
    · rename_i h0
      subst h0
      exact ⟨G, (h.alloc (.cells arr e)).us_mono (fun g hg => .inl hg) |>.put (some d) _ _ (.k _ _ (.sl0 _ _ _ (Nat.zero_le _) (fun _ => rfl))) (fun t ht => by injection ht with ht; omega)⟩
    exact h.mk1 d γ hu hd cells arr e hc _ _ fun G' hG => .os _ _ _ _ _ _ _ _ hG (Nat.le_refl _) (Nat.le_refl _) hn
  · have hown := World.ownsRow_lit (base := 0) (e := e) (size := size) w arr n (Nat.zero_le _) hn hl
    obtain ⟨c1, c2, c3⟩ := hc.toList
    obtain ⟨G', g1, g2, g3⟩ := h.newRow d γ hu e size n _ arr.toList cells hsz hown (fun b hb => by
      have e : w.heap.size = b := by simpa [Value.ownBlock] using hb
      exact Base.new h.below (by omega)) none ⟨rfl, rfl, rfl, by simp, fun k hk _ => Below.heap_alloc w _ k hk⟩ (fun b hb => by cases hb) (fun b o hb => by cases hb) (fun b hb => by cases hb) (fun b hb => by cases hb)
      (fun b hb => .inr (by
        obtain rfl : w.heap.size = b := by simpa [Value.ownBlock] using hb
        exact ⟨h.kok.hw0 (Nat.le_refl _), fun d' g' e' _ he' hc => by have := h.hw_live he' hc; omega⟩)) (fun b hb => by cases hb) (fun b hb => by cases hb) c2 c1 c3
    exact ⟨G', g3.put (some d) _ _ g2 (fun t ht => by injection ht with ht; omega)⟩
theorem zeros_rep (K : Kd) (n sz : Nat) (z : Array Value) (hz : z.size = sz) (hpos : 0 < sz) (h1 : ∀ c ∈ z, c.oneCell' = true) :
    CellsR K (aZeros n sz (z.toList.map ofVal)) ((Array.range (n * sz)).map (z[· % z.size]!)) := by
  have hget : ∀ i, i < n * sz → ((Array.range (n * sz)).map (z[· % z.size]!))[i]? = some (z[i % sz]'(by rw [hz]; exact Nat.mod_lt _ hpos)) := by
    intro i hi
    subst hz
    have hm : i % z.size < z.size := Nat.mod_lt _ (by omega)
    simp [hi, hm]
  refine ⟨by simp [aZeros], fun i v hv => ?_, fun i x v hx hv => ?_⟩
  · have hi : i < n * sz := by have := (Array.getElem?_eq_some_iff.1 hv).1; simpa using this
    rw [hget i hi] at hv
    injection hv with hv
    rw [← hv]; exact h1 _ (Array.getElem_mem _)
  · have hi : i < n * sz := by have := (Array.getElem?_eq_some_iff.1 hv).1; simpa using this
    rw [hget i hi] at hv
    injection hv with hv
    have hm : i % sz < z.toList.length := by simp [hz]; exact Nat.mod_lt _ hpos
    simp only [aZeros, List.getElem?_map, List.getElem?_range hi, Option.map_some, Option.some.injEq] at hx
    rw [List.getD_eq_getElem?_getD, List.getElem?_map, List.getElem?_eq_getElem hm] at hx
    simp at hx
    rw [← hx, ← hv]; exact ofVal_rep _ _
theorem elemOf?_eq {u : TU} {e : TypeId} (h : elemOf? u = some e) : u = .sl e := by
  unfold elemOf? at h; split at h
  · injection h with h; rw [h]
  · cases h
theorem aBuildSl0_sound (h : Real P w0 K0 G us s a w) {d γ : Nat} (hu : ¬ us γ) (hd : d < a.tmps.size) {t : TypeId} {n : Nat} {parts : Array (Nat × Operand)} {s' : St} (ha : aBuildSl0 P γ s d t n parts.toList = some s') :
    ∃ v w', (Instr.buildSlice t n (parts.map fun (i, x) => (i, a.eval x))).run P w = .ok v w' ∧ ∃ G', Real P w0 K0 G' (fun g => us g ∨ g = γ) s' (a.put (some d) v) w' := by
  unfold aBuildSl0 at ha
  simp only [Option.bind_eq_some_iff] at ha
  obtain ⟨e, he, ha⟩ := ha
  split at ha
  · rename_i hc
    obtain ⟨hok, hle, hpos⟩ := hc
    obtain ⟨i, z, d', hi, hz, hzs, hz1, hsz, _, hzr, _⟩ := ti_ok hok
    have ht := tu_sl (elemOf?_eq he)
    simp only [Option.map_eq_some_iff] at ha
    obtain ⟨cs, hf, rfl⟩ := ha
    have hp := parts_rep h parts.toList
    rw [hzr, hsz] at hf
    have hpos' : 0 < i.size := by omega
    obtain ⟨vs, g1, g2⟩ := aFill_sound _ _ _ _ _ _ (zeros_rep G.K n i.size z.cells hzs hpos' hz1) hp.1 hp.2 hf
    have hsize : vs.size = n * i.size := by
      have : ∀ (place : Nat → Option (Nat × Nat)) (l : List (Nat × AV)) (a b : List AV), aFill place a l = some b → b.length = a.length := by
        intro place l
        induction l with
        | nil => intro a b hab; simp only [aFill, Option.some.injEq] at hab; rw [hab]
        | cons p l ih =>
          intro a b hab
          simp only [aFill] at hab
          split at hab
          · cases hab
          · split at hab
            · rename_i hcc
              rw [ih _ _ hab]
              simp; omega
            · cases hab
      rw [g2.1, this _ _ _ _ hf]; simp [aZeros]
    have hbig : ¬ n * i.size > 2 ^ 24 := by rw [← hsz]; omega
    obtain ⟨G', hG⟩ := h.mkSl d γ hu hd n i.size e cs vs g2 (by unfold maxLen; have := Nat.le_mul_of_pos_right n hpos'; omega) hsize hsz.symm
    refine ⟨_, _, ?_, G', hG⟩
    by_cases h0 : n * i.size = 0
    · have hn0 : n = 0 := by rcases Nat.mul_eq_zero.1 h0 with q | q <;> omega
      subst hn0
      simp only [Nat.zero_mul] at g1 hbig
      have e2 : ((Array.range 0).map (fun x => z.cells[x % z.cells.size]!)) = #[] := by simp
      rw [e2] at g1
      have e3 : ∀ f : Nat → Value, (Array.range 0).map f = #[] := fun f => by simp
      simp [Instr.buildSlice, run_underlying ht, run_sizeOf' hi, map_parts, g1, newRow, e3]
    · simp [Instr.buildSlice, run_underlying ht, run_sizeOf' hi, hbig, h0, zeroValue, typeInfo, hi, hz, map_parts, g1, newRow]
  · cases ha
theorem pk_fill (v1 v2 : Value) (zs : List AV) (hl : zs.length = 2) : aFill (fun j => some (j * 1, 1)) zs [(0, .raw v1), (1, .raw v2)] = some [.raw v1, .raw v2] := by
  match zs, hl with
  | [z0, z1], _ => rfl
theorem kraw_inv {K : Kd} {v u : Value} (h : KRep K (.raw v) u) : u = v := by cases h; rfl
theorem aPk_sound (h : Real P w0 K0 G us s a w) {d γ : Nat} (hd : d < a.tmps.size) {t : TypeId} {n : Nat} {parts : Array (Nat × Operand)} {s' : St} (ha : aPk P s d t n parts.toList = some s') :
    ∃ v w', (Instr.buildSlice t n (parts.map fun (i, x) => (i, a.eval x))).run P w = .ok v w' ∧ ∃ G', Real P w0 K0 G' (fun g => us g ∨ g = γ) s' (a.put (some d) v) w' := by
  unfold aPk at ha
  simp only [Option.bind_eq_some_iff] at ha
  obtain ⟨e, he, ha⟩ := ha
  split at ha
  · rename_i hc
    obtain ⟨hok, rfl, hs1⟩ := hc
    obtain ⟨i, z, d', hi, hz, hzs, hz1, hsz, _, hzr, _⟩ := ti_ok hok
    have ht := tu_sl (elemOf?_eq he)
    simp only [Option.map_eq_some_iff] at ha
    obtain ⟨x, hx, rfl⟩ := ha
    have hi1 : i.size = 1 := by omega
    unfold pkOf at hx
    split at hx
    · rename_i x0 y0 hparts
      split at hx
      · rename_i d1 g1 off n1 cp1 d2 g2 off2 n2 cp2 e0 e1
        injection hx with hx; subst hx
        have r0 := h.ev x0
        have r1 := h.ev y0
        rw [e0] at r0
        rw [e1] at r1
        generalize hv0 : a.eval x0 = v0 at r0
        generalize hv1 : a.eval y0 = v1 at r1
        cases r0 with
        | os _ _ _ _ _ b1 o1 c1 k1 kn1 kc1 km1 =>
        cases r1 with
        | os _ _ _ _ _ b2 o2 c2 k2 kn2 kc2 km2 =>
        obtain ⟨vs, f1, f2⟩ := aFill_sound (K := G.K) (fun j => some (j * 1, 1)) [(0, .raw (Value.slice (some ⟨b1, o1 + off, none⟩) n1 c1)), (1, .raw (Value.slice (some ⟨b2, o2 + off2, none⟩) n2 c2))] [(0, Value.slice (some ⟨b1, o1 + off, none⟩) n1 c1), (1, Value.slice (some ⟨b2, o2 + off2, none⟩) n2 c2)] _ _ _ (zeros_rep G.K 2 i.size z.cells hzs (by omega) hz1) rfl (fun k p q hp hq => by
          match k with
          | 0 => simp at hp hq; subst hp; subst hq; exact ⟨rfl, .raw _ rfl⟩
          | 1 => simp at hp hq; subst hp; subst hq; exact ⟨rfl, .raw _ rfl⟩
          | k + 2 => simp at hp) (pk_fill _ _ _ (by simp [aZeros, hi1]))
        have hvs : vs = #[Value.slice (some ⟨b1, o1 + off, none⟩) n1 c1, Value.slice (some ⟨b2, o2 + off2, none⟩) n2 c2] := by
          have hs2 : vs.size = 2 := f2.1
          apply Array.ext
          · rw [hs2]; rfl
          · intro k q1 q2
            have hg := f2.2.2 k
            have hk2 : k < 2 := by omega
            match k, hk2 with
            | 0, _ => exact kraw_inv (hg _ vs[0] rfl (by simp [hs2]))
            | 1, _ => exact kraw_inv (hg _ vs[1] rfl (by simp [hs2]))
        subst hvs
        have hw := h.alloc (.cells #[Value.slice (some ⟨b1, o1 + off, none⟩) n1 c1, Value.slice (some ⟨b2, o2 + off2, none⟩) n2 c2] e)
        have hwhole : (w.alloc (.cells #[Value.slice (some ⟨b1, o1 + off, none⟩) n1 c1, Value.slice (some ⟨b2, o2 + off2, none⟩) n2 c2] e)).heap[w.heap.size]? = some (.cells #[Value.slice (some ⟨b1, o1 + off, none⟩) n1 c1, Value.slice (some ⟨b2, o2 + off2, none⟩) n2 c2] e (0, 0)) := heap_alloc_new w _
        have hhw : G.K.hw w.heap.size = 0 := h.kok.hw0 (Nat.le_refl _)
        have hle : G.K.le (G.K.ext w.heap.size 2 [Value.slice (some ⟨b1, o1 + off, none⟩) n1 c1, Value.slice (some ⟨b2, o2 + off2, none⟩) n2 c2]) := Kd.ext_le (by omega) (fun i hi => by omega)
        have h1' : ∀ x ∈ [Value.slice (some ⟨b1, o1 + off, none⟩) n1 c1, Value.slice (some ⟨b2, o2 + off2, none⟩) n2 c2], x.oneCell' = true := fun x hx => by
          simp at hx; rcases hx with rfl | rfl <;> rfl
        have hok2 : KOk (G.K.ext w.heap.size 2 [Value.slice (some ⟨b1, o1 + off, none⟩) n1 c1, Value.slice (some ⟨b2, o2 + off2, none⟩) n2 c2]) (w.alloc (.cells #[Value.slice (some ⟨b1, o1 + off, none⟩) n1 c1, Value.slice (some ⟨b2, o2 + off2, none⟩) n2 c2] e)) :=
          hw.kok.ext (by simp) h1' (fun k hk => by
            rw [cell_of_row _ _ k _ _ _ hwhole]
            match k, hk with
            | 0, _ => rfl
            | 1, _ => rfl)
        have hreal : Real P w0 K0 (G.withK (G.K.ext w.heap.size 2 [Value.slice (some ⟨b1, o1 + off, none⟩) n1 c1, Value.slice (some ⟨b2, o2 + off2, none⟩) n2 c2])) us s a (w.alloc (.cells #[Value.slice (some ⟨b1, o1 + off, none⟩) n1 c1, Value.slice (some ⟨b2, o2 + off2, none⟩) n2 c2] e)) := by
          refine hw.go hw.below (Gh.withK_le hle) hok2 (fun g hg => hg) (fun _ _ h _ => h) ⟨h.krw, fun _ _ _ _ => rfl⟩ h.fresh h.rows h.offs (fun b' hb' => ?_) (fun d' g' e' he' b' hb' => ⟨rfl, ?_⟩)
          · show (if b' = w.heap.size then 2 else G.K.hw b') = _
            rw [if_neg (fun e : b' = w.heap.size => by have h1 := w0.lt b' hb'; have h2 := h.size; omega)]
          · show (if b' = w.heap.size then 2 else G.K.hw b') = _
            rw [if_neg (fun e : b' = w.heap.size => by have := h.hw_live he' hb'; omega)]
        refine ⟨_, _, ?_, _, (hreal.us_mono (fun g hg => .inl hg)).put (some d) _ _ (.pk d1 g1 off n1 d2 g2 off2 n2 w.heap.size 2 b1 o1 c1 b2 o2 c2 ⟨?_, fun k hk => ?_⟩ (Nat.le_refl _) (by decide) k1 (by omega) km1 ?_ k2 (by omega) km2 ?_) (fun t ht => by injection ht with ht; omega)⟩
        · have hbig : ¬ 2 * i.size > 2 ^ 24 := by omega
          have h0 : ¬ 2 * i.size = 0 := by omega
          have hpl : (parts.map fun (i, x) => (i, a.eval x)).toList = [(0, Value.slice (some ⟨b1, o1 + off, none⟩) n1 c1), (1, Value.slice (some ⟨b2, o2 + off2, none⟩) n2 c2)] := by
            rw [map_parts, hparts]
            show [(0, a.eval x0), (1, a.eval y0)] = _
            rw [hv0, hv1]
          have hpl2 : List.map (fun x => (x.fst, a.eval x.snd)) parts.toList = [(0, Value.slice (some ⟨b1, o1 + off, none⟩) n1 c1), (1, Value.slice (some ⟨b2, o2 + off2, none⟩) n2 c2)] := by
            rw [hparts]
            show [(0, a.eval x0), (1, a.eval y0)] = _
            rw [hv0, hv1]
          rw [hi1] at f1
          simp only [Nat.mul_one] at f1
          simp [Instr.buildSlice, run_underlying ht, run_sizeOf' hi, hbig, h0, zeroValue, typeInfo, hi, hz, hpl2, f1, newRow, hi1]
        · show 0 + 2 ≤ (if w.heap.size = w.heap.size then 2 else _)
          rw [if_pos rfl]; omega
        · show (if w.heap.size = w.heap.size then [Value.slice (some ⟨b1, o1 + off, none⟩) n1 c1, Value.slice (some ⟨b2, o2 + off2, none⟩) n2 c2].getD (0 + k) undef else _).oneCell' = true
          rw [if_pos rfl]
          match k, hk with
          | 0, _ => rfl
          | 1, _ => rfl
        · show (if w.heap.size = w.heap.size then _ else _) = _
          rw [if_pos rfl]; rfl
        · show (if w.heap.size = w.heap.size then _ else _) = _
          rw [if_pos rfl]; rfl
      · cases hx
    · cases hx
  · cases ha
theorem aBuildSl_sound (h : Real P w0 K0 G us s a w) {d γ : Nat} (hu : ¬ us γ) (hd : d < a.tmps.size) {t : TypeId} {n : Nat} {parts : Array (Nat × Operand)} {s' : St} (ha : aBuildSl P γ s d t n parts.toList = some s') :
    ∃ v w', (Instr.buildSlice t n (parts.map fun (i, x) => (i, a.eval x))).run P w = .ok v w' ∧ ∃ G', Real P w0 K0 G' (fun g => us g ∨ g = γ) s' (a.put (some d) v) w' := by
  unfold aBuildSl at ha
  split at ha
  · rename_i s'' hb
    injection ha with ha; subst ha
    exact aBuildSl0_sound h hu hd hb
  · exact aPk_sound h hd ha
theorem aMake_sound (h : Real P w0 K0 G us s a w) {d γ : Nat} (hu : ¬ us γ) (hd : d < a.tmps.size) {t : TypeId} {l c : Int} {k k' : IntKind} {s' : St} (ha : aMake P γ s d t l c = some s') :
    ∃ v w', (Instr.makeSlice t (.int k l) (.int k' c)).run P w = .ok v w' ∧ ∃ G', Real P w0 K0 G' (fun g => us g ∨ g = γ) s' (a.put (some d) v) w' := by
  unfold aMake at ha
  simp only [Option.bind_eq_some_iff] at ha
  obtain ⟨e, he, ha⟩ := ha
  split at ha
  · rename_i hc
    obtain ⟨hok, hpos, h0, rfl, hby, hbig⟩ := hc
    injection ha with ha; subst ha
    obtain ⟨i, z, d', hi, hz, hzs, hz1, hsz, hbe, hzr, _⟩ := ti_ok hok
    have ht := tu_sl (elemOf?_eq he)
    obtain ⟨n, rfl⟩ : ∃ n : Nat, c = n := ⟨c.toNat, by omega⟩
    have hw : IntKind.i64.wrap (n : Int) = n := IntWalk.i64_in _ (by omega)
    have hg2 := zeros_rep G.K n i.size z.cells hzs (by omega) hz1
    obtain ⟨G', hG⟩ := h.mkSl d γ hu hd n i.size e _ _ hg2 (by unfold maxLen; omega) (by simp) hsz.symm
    rw [Int.toNat_natCast, hsz, hzr]
    refine ⟨_, _, ?_, G', hG⟩
    rw [hbe] at hby
    have t1 : ¬ (i.bytes : Int) * n > 2 ^ 48 := by omega
    have t2 : ¬ (n : Int) < 0 := by omega
    by_cases hn : n = 0
    · subst hn
      have e3 : ∀ f : Nat → Value, (Array.range 0).map f = #[] := fun f => by simp
      have hw0 : IntKind.i64.wrap 0 = 0 := by decide
      simp [Instr.makeSlice, run_underlying ht, asInt, asIntOf, typeInfo, hi, hw0, askRoom, roomBytes, sizeOf, e3, newRow]
    · have hne : n * i.size ≠ 0 := by
        have := Nat.mul_pos (Nat.pos_of_ne_zero hn) (show 0 < i.size by omega); omega
      have room : ∀ (q : Sem Value) , (do askRoom (n * i.bytes); q : Sem Value).run P w = q.run P w := fun q => by
        unfold askRoom
        split
        · rfl
        · rfl
      simp [Instr.makeSlice, run_underlying ht, asInt, asIntOf, typeInfo, hi, hw, t2, sizeOf, hne, zeroValue, hz, newRow, room]
      intro hc; omega
  · cases ha
/-- a part of an object's cells turns -/
theorem Real.splice (h : Real P w0 K0 G us s a w) {d g : Nat} {cs : List AV} (he : s.tb d = some (g, .obj cs)) {b o : Nat} (hat : G.at_ d g = some (b, o)) {arr : Array Value} {ty : TypeId} (hg : w.heap[b]? = some (.cells arr ty (0, 0)))
    (off : Nat) (ncs : List AV) (vs : List Value) (hl : vs.length = ncs.length) (hfit : off + ncs.length ≤ cs.length) (h1 : ∀ v ∈ vs, v.oneCell' = true) (hr : ∀ (i : Nat) (x : AV) (v : Value), ncs[i]? = some x → vs[i]? = some v → KRep G.K x v) :
    Real P w0 K0 G us (s.set d (some (g, .obj (cs.take off ++ ncs ++ cs.drop (off + ncs.length))))) a (w.setRow b (arr.toList.take (o + off) ++ vs ++ arr.toList.drop (o + off + vs.length)).toArray) := by
  obtain ⟨b', o', arr0, ty0, k1, k2, k3, k4, k5, k6, k7⟩ := h.ents _ _ _ he
  rw [hat] at k1
  injection k1 with k1
  injection k1 with e1 e2
  subst e1 e2
  rw [hg] at k3
  injection k3 with k3
  injection k3 with e1 e2
  subst e1 e2
  refine h.turnObj he _ b o arr _ ty hat hg ?_ ?_ ?_ ?_
  · simp; omega
  · simp; omega
  · intro j c hjl hj
    rw [List.getElem?_toArray, List.append_assoc] at hj
    have hl2 : (arr.toList.take (o + off)).length = o + off := by simp; omega
    have hjl2 : j < cs.length := by simp at hjl; omega
    rcases Nat.lt_or_ge j off with q | q
    · rw [List.getElem?_append_left (by omega), List.getElem?_take, if_pos (by omega)] at hj
      exact k6 j c hjl2 (by rwa [Array.getElem?_toList] at hj)
    · rw [List.getElem?_append_right (by omega), hl2] at hj
      rcases Nat.lt_or_ge (j - off) vs.length with q2 | q2
      · rw [List.getElem?_append_left (by omega)] at hj
        exact h1 c (List.mem_of_getElem? hj)
      · rw [List.getElem?_append_right (by omega), List.getElem?_drop, Array.getElem?_toList] at hj
        refine k6 j c hjl2 ?_
        rwa [show o + off + vs.length + (o + j - (o + off) - vs.length) = o + j by omega] at hj
  · intro j p c hp hj
    rw [List.getElem?_toArray, List.append_assoc] at hj
    rw [List.append_assoc] at hp
    have hl1 : (arr.toList.take (o + off)).length = o + off := by simp; omega
    have hl2 : (cs.take off).length = off := by simp; omega
    rcases Nat.lt_or_ge j off with q | q
    · rw [List.getElem?_append_left (by omega), List.getElem?_take, if_pos (by omega), Array.getElem?_toList] at hj
      rw [List.getElem?_append_left (by omega), List.getElem?_take, if_pos q] at hp
      exact k7 j p c hp hj
    · rw [List.getElem?_append_right (by omega), hl1] at hj
      rw [List.getElem?_append_right (by omega), hl2] at hp
      rw [show o + j - (o + off) = j - off by omega] at hj
      rcases Nat.lt_or_ge (j - off) vs.length with q2 | q2
      · rw [List.getElem?_append_left q2] at hj
        rw [List.getElem?_append_left (by omega)] at hp
        exact hr _ p c hp hj
      · rw [List.getElem?_append_right q2, List.getElem?_drop, Array.getElem?_toList] at hj
        rw [List.getElem?_append_right (by omega), List.getElem?_drop] at hp
        refine k7 j p c ?_ ?_
        · rwa [show off + ncs.length + (j - off - ncs.length) = j by omega] at hp
        · rwa [show o + off + vs.length + (j - off - vs.length) = o + j by omega] at hj
theorem storeAt_run {w : World} {t : TypeId} {i : TypeInfo} (hi : P.info? t = some i) {b o : Nat} {arr : Array Value} {ty : TypeId} {v : Value} (hg : w.heap[b]? = some (.cells arr ty (0, 0))) (hs : v.cells.size = i.size) (hfit : o + i.size ≤ arr.size) (h1 : ∀ c ∈ v.cells, c.oneCell' = true) :
    (Instr.storeAt t (.pointer (some ⟨b, o, none⟩)) v).run P w = .ok () (w.setRow b (arr.toList.take o ++ v.cells.toList ++ arr.toList.drop (o + i.size)).toArray) := by
  have hst := run_storeCells_at P b o ty v.cells.toList 0 arr w hg (by simp; omega) (fun c hc => h1 c (by simpa using hc))
  simp only [Nat.add_zero, Array.length_toList, hs] at hst
  have hsz : ¬ v.cells.size ≠ i.size := by omega
  simp [Instr.storeAt, Instr.sureAddr, storeVar, run_sizeOf' hi, hsz, hst]
theorem aStore_sound (h : Real P w0 K0 G us s a w) {t : TypeId} {x : SV} {y : AV} {u v : Value} {s' : St} (hx : SRep G x u) (hy : KRep G.K y v) (ha : aStore P s t x y = some s') :
    ∃ w', (Instr.storeAt t u v).run P w = .ok () w' ∧ Real P w0 K0 G us s' a w' := by
  unfold aStore at ha
  split at ha
  · rename_i d g off
    split at ha
    · rename_i g' cs he
      split at ha
      · rename_i hc
        obtain ⟨rfl, hok, hfl, hln, hfit⟩ := hc
        injection ha with ha; subst ha
        obtain ⟨i, z, d', hi, hz, hzs, hz1, hsz, _⟩ := ti_ok hok
        have hcl := hy.cells hfl
        cases hx with
        | ob d g off b o hat =>
          obtain ⟨b', o', arr, ty, k1, k2, k3, k4, k5, k6, k7⟩ := h.ents _ _ _ he
          rw [hat] at k1
          injection k1 with k1
          injection k1 with e1 e2
          subst e1 e2
          have hvs : v.cells.size = i.size := by rw [hcl.1, hln, hsz]
          have hrun := storeAt_run (P := P) hi (b := b) (o := o + off) (v := v) k3 hvs (by omega) (fun c hc => by
            obtain ⟨j, hj⟩ := Array.mem_iff_getElem?.1 hc
            exact hcl.2.1 j c hj)
          have hlv : v.cells.toList.length = y.cells.length := by rw [Array.length_toList, hcl.1]
          obtain ⟨_, c2, c3⟩ := hcl.toList
          have := h.splice he hat k3 off y.cells v.cells.toList hlv (by omega) c2 c3
          rw [hlv, hln, hsz] at this
          rw [hsz]
          exact ⟨_, hrun, this⟩
      · cases ha
    · cases ha
  · cases ha
end

end Go.Proofs.Ytikganlbnhapcaa

namespace Go.Proofs.Ytikganlbnhapcaa
open Go.RowKit
set_option linter.unusedVariables false
set_option linter.unusedSimpArgs false

/-- made, and known at once -/
def St.mkK (s : St) (d γ : Nat) (cells : List AV) (x : SV) : St := ((s.set d (some (γ, .obj cells))).set d none).put (some d) x
def aAlloc (P : Program) (γ : Nat) (s : St) (d : Nat) (e : TypeId) : Option St := if (tiOf P e).ok = true then some (s.mk1 d γ (tiOf P e).zr (.ob d γ 0)) else none
def aBox (γ : Nat) (s : St) (d : Nat) (x : AV) : Option St := if x.flat = true then some (s.mk1 d γ x.cells (.ob d γ 0)) else none
/-- what is appended -/
def aSrc (P : Program) (s : St) (e t t' : TypeId) (y : SV) : Option (Nat × List AV) :=
  if t = t' then s.cont (tiOf P e).sz y else
  match (tiOf P t').un, y with
  | .int _, .k (.int _ n) => if 0 ≤ n ∧ n ≤ 140737488355328 ∧ n.toNat * (tiOf P e).by_ ≤ 140737488355328 then some (n.toNat, aZeros n.toNat (tiOf P e).sz (tiOf P e).zr) else none
  | .str, .k (.str b) => if (tiOf P e).sz = 1 then some (b.size, aOfBytes b.data.toList) else none
  | _, _ => none
/-- append -/
def aApp (P : Program) (γ : Nat) (s : St) (d : Nat) (t t' : TypeId) (x y : SV) : Option St :=
  (elemOf? (tiOf P t).un).bind fun e => (aSrc P s e t t' y).bind fun c =>
    if (tiOf P e).ok = true ∧ 0 < (tiOf P e).sz then
      match x with
      | .k (.sl true n cs) => if c.1 = 0 then some (s.put (some d) (.k (.sl true n cs))) else if cs.length = n * (tiOf P e).sz ∧ (n + c.1) * (tiOf P e).by_ ≤ 140737488355328 ∧ n + c.1 ≤ 140737488355328 then
          some (if s.md d = true then (if s.md (d + 1000000) = true then s.mkK d γ (cs ++ c.2) (.k (.sl false (n + c.1) (cs ++ c.2))) else s.mk1 d γ (cs ++ c.2) (.os d γ 0 (n + c.1) (n + c.1))) else s.mkT d γ (.ow d γ (n + c.1) e (cs ++ c.2))) else none
      | .ow d0 g0 n e' cs => match s.tb d0 with
        | some (g1, .tag) => if g1 = g0 ∧ e' = e ∧ (n + c.1) * (tiOf P e).by_ ≤ 140737488355328 ∧ n + c.1 ≤ 140737488355328 ∧ s.md d = false then
            some ((s.set d0 none).mkT d γ (.ow d γ (n + c.1) e (cs ++ c.2))) else none
        | _ => none
      | _ => none
    else none

section
variable {P : Program} {w0 : Base} {w : World} {K0 : Anc} {G : Gh} {us : Nat → Prop} {s : St} {a : Act}
theorem Real.known (h : Real P w0 K0 G us s a w) {d g : Nat} {cs : List AV} (htb : s.tb d = some (g, .obj cs)) :
    ∃ K2 b, G.K.le K2 ∧ G.at_ d g = some (b, 0) ∧ Real P w0 K0 (G.withK K2) us (s.set d none) a w ∧ KRep K2 (.cp cs) (.pointer (some ⟨b, 0, none⟩)) := by
  obtain ⟨b, o, arr, ty, hat, hnp, hg, hw0, hsz, h1c, hrep⟩ := h.ents _ _ _ htb
  have ho := h.offs _ _ _ _ hat
  subst ho
  simp only [Nat.zero_add] at hsz h1c hrep
  have hx : ∀ i, i < cs.length → (arr.toList.take cs.length)[i]? = some (arr[i]?.getD undef) := fun i hi => by
    have : i < arr.size := by omega
    rw [List.getElem?_take, if_pos hi, Array.getElem?_toList]; simp [this]
  have hcell : ∀ i, i < cs.length → w.cell? ⟨b, i, none⟩ = some ((arr.toList.take cs.length).getD i undef) := fun i hi => by
    have hlt : i < arr.size := by omega
    rw [cell_of_row w b i arr ty _ hg, List.getD_eq_getElem?_getD, hx i hi]; simp [hlt]
  have hle : G.K.le (G.K.ext b cs.length (arr.toList.take cs.length)) := Kd.ext_le (by omega) (fun i hi => by omega)
  have h1' : ∀ x ∈ arr.toList.take cs.length, x.oneCell' = true := fun x hx' => by
    obtain ⟨i, hi⟩ := List.mem_iff_getElem?.1 hx'
    rw [List.getElem?_take] at hi
    split at hi
    · rename_i hlt; rw [Array.getElem?_toList] at hi; exact h1c i x hlt hi
    · cases hi
  have hok : KOk (G.K.ext b cs.length (arr.toList.take cs.length)) w := h.kok.ext (by simp; omega) h1' hcell
  have hval : ∀ i, i < cs.length → (G.K.ext b cs.length (arr.toList.take cs.length)).val b i = arr[i]?.getD undef := fun i hi => by
    show (if b = b then (arr.toList.take cs.length).getD i undef else _) = _
    rw [if_pos rfl, List.getD_eq_getElem?_getD, hx i hi]; rfl
  have hno : Real P w0 K0 G us (s.set d none) a w := h.set d none (fun g e hx => by cases hx)
  refine ⟨_, b, hle, hat, hno.go h.below (Gh.withK_le hle) hok (fun g hg => hg) (fun _ _ h _ => h) ⟨h.krw, fun _ _ _ _ => rfl⟩ h.fresh h.rows h.offs (fun b' hb' => ?_) (fun d' g' e' he' b' hb' => ⟨rfl, ?_⟩), ?_⟩
  · show (if b' = b then cs.length else G.K.hw b') = _
    rw [if_neg (fun e : b' = b => hnp (by rw [← e]; exact hb'))]
  · show (if b' = b then cs.length else G.K.hw b') = _
    have hne : d' ≠ d := fun e => by subst e; simp [St.set, upd_same] at he'
    simp only [St.set] at he'
    rw [upd_ne _ _ _ _ hne] at he'
    rw [if_neg (fun e => by subst e; exact hne (h.dist _ _ _ _ _ _ _ he' htb hb' (by simp [entBlk, hat])))]
  · refine .cp _ _ _ ⟨?_, fun i hi => ?_⟩ fun i x hx' => ?_
    · show 0 + cs.length ≤ if b = b then cs.length else _
      rw [if_pos rfl]; omega
    · have hlt : i < arr.size := by omega
      rw [Nat.zero_add, hval i hi]; simp [hlt]; exact h1c i _ hi (by simp [hlt])
    · have hi := getq_lt hx'
      have hlt : i < arr.size := by omega
      rw [Nat.zero_add, hval i hi]; simp [hlt]
      exact (hrep i x _ hx' (by simp [hlt])).mono hle
theorem aAlloc_sound (h : Real P w0 K0 G us s a w) {d γ : Nat} (hu : ¬ us γ) (hd : d < a.tmps.size) {e : TypeId} {s' : St} (ha : aAlloc P γ s d e = some s') :
    ∃ v w', (Instr.alloc e true (.tuple #[])).run P w = .ok v w' ∧ ∃ G', Real P w0 K0 G' (fun g => us g ∨ g = γ) s' (a.put (some d) v) w' := by
  unfold aAlloc at ha
  split at ha
  · rename_i hok
    injection ha with ha; subst ha
    obtain ⟨i, z, d', hi, hz, hzs, hz1, hsz, _, hzr, _⟩ := ti_ok hok
    obtain ⟨G', hG⟩ := h.mk1 d γ hu hd (tiOf P e).zr z.cells e (by rw [hzr]; exact CellsR.zero _ hz1) (.ob d γ 0) (.pointer (some ⟨w.heap.size, 0, none⟩)) fun G' hG => .ob _ _ _ _ _ hG
    exact ⟨_, _, by simp [Instr.alloc, zeroValue, typeInfo, hi, hz, newVar, newRow], G', hG⟩
  · cases ha
theorem aBox_sound (h : Real P w0 K0 G us s a w) {d γ : Nat} (hu : ¬ us γ) (hd : d < a.tmps.size) {e : TypeId} {x : AV} {v : Value} (hx : KRep G.K x v) {s' : St} (ha : aBox γ s d x = some s') :
    ∃ r w', (Instr.box e v).run P w = .ok r w' ∧ ∃ G', Real P w0 K0 G' (fun g => us g ∨ g = γ) s' (a.put (some d) r) w' := by
  unfold aBox at ha
  split at ha
  · rename_i hf
    injection ha with ha; subst ha
    obtain ⟨G', hG⟩ := h.mk1 d γ hu hd _ v.cells e (hx.cells hf) (.ob d γ 0) (.pointer (some ⟨w.heap.size, 0, none⟩)) fun G' hG => .ob _ _ _ _ _ hG
    exact ⟨_, _, by simp [Instr.box, newVar, newRow], G', hG⟩
  · cases ha
/-- append onto a slice with no room, of at least one element -/
theorem run_app_full {t t' ty e : TypeId} {i : TypeInfo} {z y : Value} (ht : P.underlying t = some (.slice e)) (ad : Option Addr) (n : Nat) (olds : List Value) (hlo : olds.length = n * i.size)
    (hcase : (ad = none ∧ n = 0) ∨ ∃ b, ad = some b ∧ ∀ j u, olds[j]? = some u → w.cell? (b.add j) = some u)
    {m : Nat} {news : List Value} (hs : ASrc P e t' i z y m news w) (hm : 0 < m) (h63 : n + m ≤ maxLen) (hby : (n + m) * i.bytes ≤ 140737488355328) :
    ∃ cap, n + m ≤ cap ∧ cap ≤ maxLen ∧ (Builtin.append_ #[t, t'] ty #[.slice ad n n, y]).run P w =
      .ok (.slice (some ⟨w.heap.size, 0, none⟩) (n + m) cap) (w.drew.alloc (.cells (olds.toArray ++ news.toArray ++ Builtin.zeroCells z.cells (cap - (n + m))) e)) := by
  have hsmall : n + m ≤ 9223372036854775807 := by simp only [maxLen] at h63; omega
  refine ⟨grownCap w (n + m) n e, grownCap_ge w (n + m) n e, grownCap_le_maxLen w (n + m) n e h63, ?_⟩
  rcases hcase with ⟨rfl, rfl⟩ | ⟨b, rfl, holds⟩
  · have : olds = [] := List.eq_nil_of_length_eq_zero (by simpa using hlo)
    subst this
    exact hs.grow t ty none 0 0 [] ht (run_firstCells_none w.drew i.size 0 0 0) hm (by omega) (by omega) hby
  · exact hs.grow t ty (some b) n n olds ht (run_firstCells_some w.drew i.size n b n n olds hlo holds) hm (by omega) (by omega) hby
theorem byteCells_rep (K : Kd) (b : ByteArray) : ∀ (i : Nat) (x : AV) (u : Value), (aOfBytes b.data.toList)[i]? = some x → (byteCells b)[i]? = some u → KRep K x u := by
  intro i x u hx hu
  simp only [aOfBytes, byteCells, List.getElem?_map, Option.map_eq_some_iff] at hx hu
  obtain ⟨c, hc, rfl⟩ := hx
  obtain ⟨c', hc', rfl⟩ := hu
  rw [hc] at hc'; injection hc' with hc'; subst hc'
  exact .int _ _
theorem aSrc_sound (h : Real P w0 K0 G us s a w) {e t t' : TypeId} {i : TypeInfo} {z : Value} (hok : (tiOf P e).ok = true) (hpos : 0 < i.size) (ht : P.underlying t = some (.slice e)) (hi : P.info? e = some i) (hz : i.zero = some z) (hzs : z.cells.size = i.size)
    (hz1 : ∀ c ∈ z.cells, c.oneCell' = true) (hsz : (tiOf P e).sz = i.size) (hbe : (tiOf P e).by_ = i.bytes) (hzr : (tiOf P e).zr = z.cells.toList.map ofVal) {y : SV} {v : Value} (hy : SRep G y v) {m : Nat} {news : List AV} (hc : aSrc P s e t t' y = some (m, news)) :
    ∃ vs : List Value, ASrc P e t' i z v m vs w ∧ vs.length = news.length ∧ (∀ q ∈ vs, q.oneCell' = true) ∧ ∀ (j : Nat) (x : AV) (u : Value), news[j]? = some x → vs[j]? = some u → KRep G.K x u := by
  unfold aSrc at hc
  split at hc
  · rename_i e1; subst e1
    rw [hsz] at hc
    obtain ⟨ad, cap, rfl, hl, hmem⟩ := h.cont hc hy
    have hcase : ∃ vs : List Value, Src P i.size t (.slice ad m cap) m vs w ∧ vs.length = news.length ∧ (∀ q ∈ vs, q.oneCell' = true) ∧ ∀ (j : Nat) (x : AV) (u : Value), news[j]? = some x → vs[j]? = some u → KRep G.K x u := by
      rcases hmem with hnil | ⟨b, o, rfl, hcr⟩
      · subst hnil
        have hm : m = 0 := by
          rcases Nat.mul_eq_zero.1 hl.symm with q | q <;> omega
        subst hm
        refine ⟨[], ?_, rfl, (fun q hq => by cases hq), fun j x u hx => by simp at hx⟩
        cases ad with
        | none => exact Src.ofNil w ht cap
        | some p => exact Src.ofSlice w ht p 0 cap [] (by simp) (fun j u hu => by simp at hu) (fun q hq => by cases hq)
      · obtain ⟨vs, k1, k2, k3, k4⟩ := hcr.vals
        exact ⟨vs, Src.ofSlice w ht _ m cap vs (by rw [k1, hl]) k2 k3, k1, k3, k4⟩
    obtain ⟨vs, q1, q2, q3, q4⟩ := hcase
    exact ⟨vs, ASrc.ofSrc hi hz q1, q2, q3, q4⟩
  · split at hc
    · rename_i k k2 n hun
      split at hc
      · rename_i hn
        injection hc with hc
        injection hc with e1 e2
        subst e1 e2
        cases hy with | k _ _ hk => cases hk with | int =>
        have hn2 : ((n.toNat : Nat) : Int) = n := by omega
        rw [hbe] at hn
        have hrep := zeros_rep G.K n.toNat i.size z.cells hzs hpos hz1
        have hone : ∀ u ∈ (Builtin.zeroCells z.cells n.toNat).toList, u.oneCell' = true := fun u hu => by
          obtain ⟨j, hj⟩ := List.getElem?_of_mem hu
          rw [Array.getElem?_toList] at hj
          exact hrep.2.1 j u (by rw [← hzs]; exact hj)
        have hu2 : P.underlying t' = some (.int k) := tu_int hun
        have hsrc := ASrc.ofZeros (w := w) hi hz hzs hone hu2 hpos (m := n.toNat) (by omega) hn.2.2 k2
        rw [hn2] at hsrc
        refine ⟨_, hsrc, ?_, hone, fun j x u hx hu => ?_⟩
        · rw [hsrc.len, hsz]; simp [aZeros]
        · rw [Array.getElem?_toList] at hu
          rw [hsz, hzr] at hx
          exact hrep.2.2 j x u hx (by rw [← hzs]; exact hu)
      · cases hc
    · rename_i b hun
      split at hc
      · rename_i h1
        injection hc with hc
        injection hc with e1 e2
        subst e1 e2
        cases hy with | k _ _ hk => cases hk with | str =>
        rw [hsz] at h1
        have hu2 : P.underlying t' = some .string := tu_str hun
        have hsrc := Src.ofString w hu2 b
        rw [← h1] at hsrc
        refine ⟨_, ASrc.ofSrc hi hz hsrc, by simp [byteCells, aOfBytes], hsrc.one, byteCells_rep _ b⟩
      · cases hc
    · cases hc
theorem CellsR.append {K : Kd} {xs ys : List AV} {us vs : List Value} (hx : xs.length = us.length) (h1 : ∀ (i : Nat) (x : AV) (v : Value), xs[i]? = some x → us[i]? = some v → KRep K x v) (h2 : ∀ (i : Nat) (x : AV) (v : Value), ys[i]? = some x → vs[i]? = some v → KRep K x v) :
    ∀ (i : Nat) (x : AV) (v : Value), (xs ++ ys)[i]? = some x → (us ++ vs)[i]? = some v → KRep K x v := by
  intro i x v hx' hv
  rcases Nat.lt_or_ge i xs.length with q | q
  · rw [List.getElem?_append_left q] at hx'
    rw [List.getElem?_append_left (by omega)] at hv
    exact h1 i x v hx' hv
  · rw [List.getElem?_append_right q] at hx'
    rw [List.getElem?_append_right (by omega), ← hx] at hv
    exact h2 _ x v hx' hv
theorem aApp_sound (h : Real P w0 K0 G us s a w) {d γ : Nat} (hu : ¬ us γ) (hd : d < a.tmps.size) {t t' ty : TypeId} {x y : SV} {u v : Value} (hx : SRep G x u) (hy : SRep G y v) {s' : St} (ha : aApp P γ s d t t' x y = some s') :
    ∃ r w', (Builtin.append_ #[t, t'] ty #[u, v]).run P w = .ok r w' ∧ ∃ G', Real P w0 K0 G' (fun g => us g ∨ g = γ) s' (a.put (some d) r) w' := by
  unfold aApp at ha
  simp only [Option.bind_eq_some_iff] at ha
  obtain ⟨e, he, ⟨m, news⟩, hc, ha⟩ := ha
  have ht := tu_sl (elemOf?_eq he)
  split at ha
  · rename_i hok
    obtain ⟨hok, hpos⟩ := hok
    obtain ⟨i, z, d', hi, hz, hzs, hz1, hsz, hbe, hzr, _⟩ := ti_ok hok
    rw [hsz] at hpos
    obtain ⟨vs, src, k1, k3, k4⟩ := aSrc_sound h hok hpos ht hi hz hzs hz1 hsz hbe hzr hy hc
    have hl : news.length = m * i.size := by rw [← k1, src.len]
    simp only at ha
    split at ha
    · rename_i n cs
      split at ha
      · rename_i h0
        injection ha with ha; subst ha
        cases hx with
        | k _ _ hk =>
          obtain ⟨ad', cap', rfl, hle, _, hfull, hsrc⟩ := hk.cr_sl h.kok
          exact ⟨_, w, src.nil h0 t ty ad' n cap' ht hle, G, (h.us_mono (fun g hg => .inl hg)).put (some d) _ _ (.k _ _ hk) (fun t ht => by injection ht with ht; omega)⟩
      · rename_i h0
        split at ha
        · rename_i hcc
          obtain ⟨hcl, hby, hlen⟩ := hcc
          have hm : 0 < m := by omega
          injection ha with ha; subst ha
          rw [hsz] at hcl
          rw [hbe] at hby
          cases hx with
          | k _ _ hk =>
            obtain ⟨ad', cap', rfl, _, _, hfull, hsrc⟩ := hk.cr_sl h.kok
            obtain rfl : cap' = n := hfull rfl
            have olds : ∃ us' : List Value, us'.length = cs.length ∧ ((ad' = none ∧ cap' = 0) ∨ ∃ b, ad' = some b ∧ ∀ (j : Nat) (q : Value), us'[j]? = some q → w.cell? (b.add j) = some q) ∧ (∀ q ∈ us', q.oneCell' = true) ∧ ∀ (i : Nat) (x : AV) (q : Value), cs[i]? = some x → us'[i]? = some q → KRep G.K x q := by
              rcases hsrc with ⟨h0, hc0⟩ | ⟨b', o', e', hcr', _⟩
              · refine ⟨[], (by rw [hc0]; rfl), ?_, (fun q hq => by cases hq), (fun i x q hx hq => by simp at hq)⟩
                cases ad' with
                | none => exact .inl ⟨rfl, h0⟩
                | some p => exact .inr ⟨p, rfl, (fun j q hq => by simp at hq)⟩
              · obtain ⟨us', q1, q2, q3, q4⟩ := hcr'.vals
                exact ⟨us', q1, .inr ⟨_, e', q2⟩, q3, q4⟩
            obtain ⟨us', q1, q2, q3, q4⟩ := olds
            obtain ⟨cap2, c1, c2, hrun⟩ := run_app_full (P := P) (w := w) (ty := ty) ht ad' cap' us' (by rw [q1, hcl]) q2 src hm (by unfold maxLen; omega) hby
            refine ⟨_, _, hrun, ?_⟩
            have hall : ∀ q ∈ us' ++ vs, q.oneCell' = true := fun q hq => by
              rcases List.mem_append.1 hq with hq | hq
              · exact q3 q hq
              · exact k3 q hq
            have hrel := CellsR.append (K := G.K) q1.symm q4 k4
            have hlen2 : (us' ++ vs).length = (cap' + m) * i.size := by rw [List.length_append, q1, hcl, k1, hl, Nat.add_mul]
            have hzc : (Builtin.zeroCells z.cells (cap2 - (cap' + m))).size = (cap2 - (cap' + m)) * i.size := by rw [size_zeroCells, hzs]
            split
            · -- an object
              have harr : ∀ j, j < (us' ++ vs).length → (us'.toArray ++ vs.toArray ++ Builtin.zeroCells z.cells (cap2 - (cap' + m)))[j]? = (us' ++ vs)[j]? := fun j hj => by
                rw [← Array.getElem?_toList]
                simp only [Array.toList_append]
                rw [List.getElem?_append_left (by simpa using hj)]
              obtain ⟨G', g1, g2, g3, g4⟩ := h.drew.newBig d γ hu (cs ++ news) (us'.toArray ++ vs.toArray ++ Builtin.zeroCells z.cells (cap2 - (cap' + m))) e (by simp; omega) (fun j q hjl hq => by
                have hj : j < (us' ++ vs).length := by simp at hjl ⊢; omega
                rw [harr j hj] at hq
                exact hall q (List.mem_of_getElem? hq)) (fun j x q hx hq => by
                have hj : j < (us' ++ vs).length := by have := getq_lt hx; simp at this ⊢; omega
                rw [harr j hj] at hq
                exact hrel j x q hx hq)
              split
              · obtain ⟨K2, b, _, hat, hR, hk2⟩ := g4.known (d := d) (g := γ) (cs := cs ++ news) (by simp [St.set, upd_same])
                rw [g3] at hat
                injection hat with hat; injection hat with e1 e2; subst e1
                exact ⟨_, hR.put (some d) _ _ (.k _ _ (hk2.sl_of_cp _ _ _ c1 c2 (fun q => by cases q))) (fun t ht => by injection ht with ht; omega)⟩
              · exact ⟨G', g4.put (some d) _ _ (.os _ _ _ _ _ _ _ _ g3 (Nat.le_refl _) c1 c2) (fun t ht => by injection ht with ht; omega)⟩
            · have hown : (w.drew.alloc (.cells (us'.toArray ++ vs.toArray ++ Builtin.zeroCells z.cells (cap2 - (cap' + m))) e)).ownsRow 0 e i.size (.slice (some ⟨w.heap.size, 0, none⟩) (cap' + m) cap2) (cap' + m) (us' ++ vs) := by
                refine ⟨hlen2, .inr ⟨w.heap.size, cap2, _, rfl, Nat.zero_le _, heap_alloc_new w.drew _, c1, c2, ?_, ?_⟩⟩
                · simp only [Array.size_append, List.size_toArray, hzc]
                  rw [← List.length_append, hlen2, ← Nat.add_mul]; congr 1; omega
                · simp only [Array.toList_append]
                  rw [← hlen2]; exact List.take_left
              obtain ⟨G', g1, g2, g3⟩ := h.newRow d γ hu e i.size (cap' + m) _ (us' ++ vs) (cs ++ news) hsz.symm hown (fun b hb => by
                  have e : w.heap.size = b := by simpa [Value.ownBlock] using hb
                  exact Base.new h.below (by omega)) none ⟨rfl, rfl, rfl, by simp, fun k hk _ => Below.heap_alloc w.drew _ k hk⟩ (fun b hb => by cases hb) (fun b o hb => by cases hb) (fun b hb => by cases hb) (fun b hb => by cases hb)
                (fun b hb => .inr (by
                  obtain rfl : w.heap.size = b := by simpa [Value.ownBlock] using hb
                  exact ⟨h.kok.hw0 (Nat.le_refl _), fun d' g' e' _ he' hc => by have := h.hw_live he' hc; omega⟩)) (fun b hb => by cases hb) (fun b hb => by cases hb) hall (by simp [q1, k1]) hrel
              exact ⟨G', g3.put (some d) _ _ g2 (fun t ht => by injection ht with ht; omega)⟩
        · cases ha
    · rename_i d0 g0 n e' cs
      split at ha
      · rename_i g1 htb
        split at ha
        · rename_i hcc
          obtain ⟨rfl, rfl, hby, hlen, hmd⟩ := hcc
          injection ha with ha; subst ha
          rw [hbe] at hby
          cases hx with
          | ow d0 g0 n e' cells r hr hre hrn hrl hrx hk =>
            obtain ⟨r', hr', hown, hblk, hone⟩ := h.ents _ _ _ htb
            rw [hr] at hr'
            injection hr' with hr'
            subst hr' hre hrn
            have hsize : r.size = i.size := by rw [h.rows _ _ _ hr, hsz]
            rw [hsize] at hown hblk
            have h1 : Real P w0 K0 G us (s.set d0 none) a w := h.set d0 none (fun g e hx => by cases hx)
            have hdead : ∀ b, r.v.ownBlock = some b → ∀ d' g' e', (s.set d0 none).tb d' = some (g', e') → entBlk G d' g' e' ≠ some b := fun b hb d' g' e' he' hc => by
              by_cases hd' : d' = d0
              · subst hd'; simp [St.set, upd_same] at he'
              · simp only [St.set] at he'
                rw [upd_ne _ _ _ _ hd'] at he'
                exact hd' (h.dist d' g' e' d0 _ _ b he' htb hc (by simp [entBlk, hr, hb]))
            have fin : ∀ (v' : Value) (w' : World) (vs : List Value) (ncs : List AV), w'.ownsRow 0 r.e i.size v' (r.n + m) (r.xs ++ vs) → ((v'.ownBlock = r.v.ownBlock ∧ w.grownBy w' r.v.ownBlock) ∨ (v'.ownBlock = some w.heap.size ∧ w.grownBy w' none)) →
                (∀ q ∈ vs, q.oneCell' = true) → vs.length = ncs.length → (∀ (i : Nat) (x : AV) (q : Value), ncs[i]? = some x → vs[i]? = some q → KRep G.K x q) →
                ∃ G', Real P w0 K0 G' (fun g => us g ∨ g = γ) ((s.set d0 none).mkT d γ (.ow d γ (r.n + m) r.e (cs ++ ncs))) (a.put (some d) v') w' := by
              intro v' w' vs ncs hown' hcase k3 k1 k4
              have hall : ∀ q ∈ r.xs ++ vs, q.oneCell' = true := fun q hq => by
                rcases List.mem_append.1 hq with hq | hq
                · exact hone q hq
                · exact k3 q hq
              have hrel := CellsR.append (K := G.K) hrl hrx k4
              have hlen3 : (cs ++ ncs).length = (r.xs ++ vs).length := by simp [hrl, k1]
              rcases hcase with ⟨hb, hgr⟩ | ⟨hb, hgr⟩
              · obtain ⟨G', g1, g2, g3⟩ := h1.newRow d γ hu r.e i.size (r.n + m) v' (r.xs ++ vs) (cs ++ ncs) hsz.symm hown' (fun b hb' => (hblk b (by rw [← hb]; exact hb')).1) r.v.ownBlock hgr (fun b hb' => (hblk b hb').1) (fun b o hb' ho => by
                    rcases hown.2 with ⟨e1, _⟩ | ⟨g, cap', cur, e1, _, e3, _⟩
                    · rw [e1] at hb'; cases hb'
                    · rw [e1] at hb'; injection hb' with hb'; simp only at hb'; subst hb'; rw [e3] at ho; injection ho with ho; subst ho; rfl) (fun b hb' d' g' e' _ he' => hdead b hb' d' g' e' he')
                  (fun b hb' g' e' he' => hdead b hb' d g' e' he') (fun b hb' => .inl (by rw [← hb]; exact hb')) (fun b _ hne => absurd hb hne) (fun b hb' _ => by
                    obtain ⟨_, q1, q2⟩ := hblk b hb'
                    have hxl := hown.1
                    refine ⟨by rw [q1]; exact Nat.mul_le_mul_right _ (by omega), fun j hj => ?_⟩
                    rw [q1] at hj
                    have hj2 : j < r.xs.length := by omega
                    rw [q2 j r.xs[j] (by simp [hj2]), List.getD_eq_getElem?_getD, List.getElem?_append_left hj2]
                    simp [hj2]) hall hlen3 hrel
                exact ⟨G', g3.put (some d) _ _ g2 (fun t ht => by injection ht with ht; omega)⟩
              · obtain ⟨G', g1, g2, g3⟩ := h1.newRow d γ hu r.e i.size (r.n + m) v' (r.xs ++ vs) (cs ++ ncs) hsz.symm hown' (fun b hb' => by
                  rw [hb] at hb'; injection hb' with hb'
                  exact Base.new h.below (by omega)) none hgr (fun b hb => by cases hb) (fun b o hb => by cases hb) (fun b hb => by cases hb) (fun b hb => by cases hb)
                  (fun b hb' => .inr (by
                    rw [hb] at hb'; injection hb' with hb'; subst hb'
                    exact ⟨h.kok.hw0 (Nat.le_refl _), fun d' g' e' _ he' hc => by have := h1.hw_live he' hc; omega⟩)) (fun b hb => by cases hb) (fun b hb => by cases hb) hall hlen3 hrel
                exact ⟨G', g3.put (some d) _ _ g2 (fun t ht => by injection ht with ht; omega)⟩
            obtain ⟨v', w', hrun, hown', hcase⟩ := run_app (P := P) w 0 t ty r.e i z ht hi hz hzs hpos r.v r.n r.xs hown src (by unfold maxLen; omega) hby (Nat.zero_le _)
            exact ⟨v', w', hrun, fin v' w' vs news hown' hcase k3 k1 k4⟩
        · cases ha
      · cases ha
    · cases ha
  · cases ha
end

end Go.Proofs.Ytikganlbnhapcaa

namespace Go.Proofs.Ytikganlbnhapcaa
open Go.RowKit
set_option linter.unusedVariables false
set_option linter.unusedSimpArgs false

/-- copy: the state behind it, and how many -/
def aCopy (P : Program) (s : St) (t : TypeId) (x y : SV) : Option (St × Nat) :=
  (elemOf? (tiOf P t).un).bind fun e => (s.cont 1 y).bind fun c =>
    if (tiOf P e).ok = true ∧ (tiOf P e).sz = 1 then
      match x with
      | .os d g off n _ => match s.tb d with
        | some (g', .obj cs) => if g' = g ∧ off + n ≤ cs.length then some (s.set d (some (g, .obj (cs.take off ++ c.2.take n ++ cs.drop (off + min c.1 n)))), min c.1 n) else none
        | _ => none
      | _ => none
    else none
/-- []byte("..") : the row of a literal gets its mark -/
def aMark (P : Program) (s : St) (t u : TypeId) (x : SV) : Option (St × SV) :=
  (elemOf? (tiOf P t).un).bind fun e => if t = u ∧ (tiOf P e).ok = true then
    match (tiOf P e).un, x with
    | .int .u8, .ow d g n _ cs => match s.tb d with
      | some (g', .tag) => if g' = g ∧ 0 < n then some (s.set d none, .k (.sl false n cs)) else none
      | _ => none
    | _, _ => none
  else none
section
variable {P : Program} {w0 : Base} {w : World} {K0 : Anc} {G : Gh} {us : Nat → Prop} {s : St} {a : Act}
theorem aCopy_sound (h : Real P w0 K0 G us s a w) {t u ty : TypeId} {x y : SV} {v v' : Value} (hx : SRep G x v) (hy : SRep G y v') {s' : St} {k : Nat} (ha : aCopy P s t x y = some (s', k)) :
    ∃ w', (Builtin.copy_ #[t, u] ty #[v, v']).run P w = .ok (.int .i64 k) w' ∧ Real P w0 K0 G us s' a w' := by
  unfold aCopy at ha
  simp only [Option.bind_eq_some_iff] at ha
  obtain ⟨e, he, ⟨m, news⟩, hc, ha⟩ := ha
  have ht := tu_sl (elemOf?_eq he)
  split at ha
  · rename_i hok
    obtain ⟨hok, hs1⟩ := hok
    obtain ⟨i, z, d', hi, hz, hzs, hz1, hsz, hbe, hzr, _⟩ := ti_ok hok
    have hi1 : (P.info? e).map (·.size) = some 1 := by rw [hi]; simp; omega
    obtain ⟨ad, cap, rfl, hl, hmem⟩ := h.cont hc hy
    rw [Nat.mul_one] at hl
    simp only at ha hl
    split at ha
    · rename_i d g off n cap'
      split at ha
      · rename_i g' cs htb
        split at ha
        · rename_i hcc
          obtain ⟨rfl, hfit⟩ := hcc
          injection ha with ha
          injection ha with e1 e2
          subst e1 e2
          cases hx with
          | os d g off n cap' b o c hat hn hcc hm =>
            obtain ⟨b', o', arr, ty0, k1, k2, k3, k4, k5, k6, k7⟩ := h.ents _ _ _ htb
            rw [hat] at k1
            injection k1 with k1
            injection k1 with e1 e2
            subst e1 e2
            by_cases h0 : Nat.min m n = 0
            · have hrun := run_copy_none (P := P) w t u ty e (some ⟨b, o + off, none⟩) ad n c m cap ht hi1 h0
              refine ⟨w, ?_, ?_⟩
              · rw [hrun]; have : min m n = 0 := h0; rw [this]; rfl
              · have hnil : news.take n = [] := by
                  apply List.eq_nil_of_length_eq_zero
                  rw [List.length_take, hl, Nat.min_comm]; exact h0
                have h0' : min m n = 0 := h0
                have := h.splice htb hat k3 off [] [] rfl (by simp; omega) (fun v hv => by cases hv) (fun i x v hx => by simp at hx)
                have hw : w.setRow b (arr.toList.take (o + off) ++ [] ++ arr.toList.drop (o + off + ([] : List Value).length)).toArray = w := by
                  have e0 : (arr.toList.take (o + off) ++ [] ++ arr.toList.drop (o + off + ([] : List Value).length)).toArray = arr := by simp
                  rw [e0]
                  exact setRow_self w b arr ty0 (0, 0) k3
                rw [hw] at this
                rw [hnil, h0']
                exact this
            · have hnn : news ≠ [] := fun q => by rw [q] at hl; simp at hl; rw [← hl] at h0; simp at h0
              rcases hmem with hnil | ⟨b2, o2, rfl, hcr⟩
              · exact absurd hnil hnn
              · obtain ⟨vs, q1, q2, q3, q4⟩ := (hcr.take n).vals
                have hlen : vs.length = Nat.min m n := by rw [q1, List.length_take, hl]; exact Nat.min_comm n m
                have hmle : Nat.min m n ≤ n := Nat.min_le_right m n
                have hrun := run_copy_row (P := P) w t u ty e b (o + off) n c ⟨b2, o2, none⟩ m cap arr ty0 vs ht hi1 k3 hlen q2 (by omega) q3
                refine ⟨w.setRow b (arr.toList.take (o + off) ++ vs ++ arr.toList.drop (o + off + vs.length)).toArray, ?_, ?_⟩
                · rw [hrun, hlen]; rfl
                · have hlt : (news.take n).length = min m n := q1 ▸ hlen
                  have := h.splice htb hat k3 off (news.take n) vs q1 (by rw [hlt]; have : min m n = Nat.min m n := rfl; omega) q3 q4
                  rw [hlt] at this
                  exact this
        · cases ha
      · cases ha
    · cases ha
  · cases ha
theorem freeze_cell (w : World) (p : Addr) (n : Nat) (q : Addr) : (w.freeze p n).cell? q = w.cell? q := by
  unfold World.freeze
  split
  · rfl
  · unfold World.cell?
    simp only [Array.getElem?_modify]
    by_cases hb : p.block = q.block
    · rw [if_pos hb]
      generalize w.heap[q.block]? = z
      cases z with
      | none => rfl
      | some x => cases x <;> rfl
    · rw [if_neg hb]
theorem freeze_other (w : World) (p : Addr) (n k : Nat) (hk : k ≠ p.block) : (w.freeze p n).heap[k]? = w.heap[k]? := by
  unfold World.freeze
  split
  · rfl
  · simp only [Array.getElem?_modify]; rw [if_neg (Ne.symm hk)]
theorem freeze_cells (w : World) (p : Addr) (n : Nat) {arr : Array Value} {ty : TypeId} {fz : Nat × Nat} (h : w.heap[p.block]? = some (.cells arr ty fz)) : ∃ o : Obj, (w.freeze p n).heap[p.block]? = some o ∧ o.isCells = true := by
  unfold World.freeze
  split
  · exact ⟨_, h, rfl⟩
  · simp only [Array.getElem?_modify, if_true, h, Option.map_some]
    exact ⟨_, rfl, rfl⟩
theorem aMark_sound (h : Real P w0 K0 G us s a w) {t u : TypeId} {x y : SV} {v : Value} (hx : SRep G x v) {s' : St} (ha : aMark P s t u x = some (s', y)) :
    ∃ w', (convert t u v).run P w = .ok v w' ∧ Real P w0 K0 G us s' a w' ∧ SRep G y v := by
  unfold aMark at ha
  simp only [Option.bind_eq_some_iff] at ha
  obtain ⟨e, he, ha⟩ := ha
  have ht := tu_sl (elemOf?_eq he)
  split at ha
  · rename_i hok
    obtain ⟨rfl, hok⟩ := hok
    split at ha
    · rename_i d g n e' cs hun
      have hee := tu_int hun
      split at ha
      · rename_i g' htb
        split at ha
        · rename_i hcc
          obtain ⟨rfl, hn⟩ := hcc
          injection ha with ha
          injection ha with e1 e2
          subst e1 e2
          cases hx with
          | ow d g n e' cells r hr hre hrn hrl hrx hk =>
            obtain ⟨r', hr', hown, hblk, hone⟩ := h.ents _ _ _ htb
            rw [hr] at hr'
            injection hr' with hr'
            subst hr'
            rcases hown.2 with ⟨_, q⟩ | ⟨gb, cap, cur, hv, hbg, hgb, _⟩
            · omega
            · have hshape : w.shape? gb = some (r.e, cur.size) := by unfold World.shape?; rw [hgb]
              have hrun : (convert t t r.v).run P w = .ok r.v (w.freeze ⟨gb, cur.size, none⟩ 1) := by
                rw [hv]
                simp [convert, run_underlying ht, run_underlying hee, markStringish, hshape]
              refine ⟨_, hrun, ?_, .k _ _ hk⟩
              have h1 : Real P w0 K0 G us (s.set d none) a w := h.set d none (fun g e hx => by cases hx)
              have hsame : ∀ k, k ≠ gb → (w.freeze ⟨gb, cur.size, none⟩ 1).heap[k]? = w.heap[k]? := fun k hk => freeze_other w _ 1 k hk
              refine h1.go ⟨h.below.os, h.below.tape, h.below.output, ?_, fun k hk => (hsame k (fun e => (hblk gb (by rw [hv]; rfl)).1 (e ▸ hk))).trans (h.below.block k hk)⟩ (.refl G) (fun b i hi => by
                  refine ⟨?_, fun q => by rw [freeze_cell]; exact (h.kok b i hi).2 q⟩
                  by_cases e : b = gb
                  · subst e
                    exact freeze_cells w ⟨b, cur.size, none⟩ 1 hgb
                  · rw [hsame b e]; exact (h.kok b i hi).1) (fun g hg => hg) (fun b o hb ho => (hsame b (fun e => by rw [e, hgb] at hb; injection hb with hb; subst hb; cases ho)).trans hb) ⟨h.krw, fun _ _ _ _ => rfl⟩ h.fresh h.rows h.offs (fun b _ => rfl) ?_
              · have := h.below.size
                unfold World.freeze; simp; exact this
              · intro d' g' e' he' b hb
                refine ⟨hsame b fun q => ?_, rfl⟩
                by_cases hd' : d' = d
                · subst hd'; simp [St.set, upd_same] at he'
                · simp only [St.set] at he'
                  rw [upd_ne _ _ _ _ hd'] at he'
                  exact hd' (h.dist d' g' e' d _ _ b he' htb hb (by simp [entBlk, hr, hv, Value.ownBlock, q]))
        · cases ha
      · cases ha
    · cases ha
  · cases ha
end

end Go.Proofs.Ytikganlbnhapcaa

namespace Go.Proofs.Ytikganlbnhapcaa
open Go.RowKit
set_option linter.unusedVariables false
set_option linter.unusedSimpArgs false

/-- what a call gives -/
inductive RV where
  | k (x : AV)
  | own (n : Nat) (e : TypeId) (cells : List AV)
  | new (cells : List AV)
  | news (n : Nat) (cells : List AV)
def AV.sc : AV → Bool
  | .int _ _ => true
  | .bool _ => true
  | .str _ => true
  | .raw _ => true
  | .any => true
  | _ => false
def AV.noal1 : AV → Bool
  | .agg cs => cs.all AV.sc
  | x => x.sc
def AV.noal : AV → Bool
  | .tup ps => ps.all AV.noal1
  | x => x.noal1
def RV.noal : RV → Bool
  | .k x => x.noal
  | .own _ _ cells => cells.all AV.sc
  | .new cells => cells.all AV.sc
  | .news _ cells => cells.all AV.sc
theorem KRep.of_sc {K K' : Kd} {x : AV} {v : Value} (h : KRep K x v) (hx : x.sc = true) : KRep K' x v := by
  cases h <;> first | cases hx; done | exact .raw _ (by assumption) | constructor
theorem KRep.of_noal1 {K K' : Kd} {x : AV} {v : Value} (h : KRep K x v) (hx : x.noal1 = true) : KRep K' x v := by
  cases h with
  | agg cells vs hl h1 h =>
    refine .agg cells vs hl h1 fun i x v e1 e2 => (h i x v e1 e2).of_sc ?_
    exact List.all_eq_true.1 hx x (List.mem_of_getElem? e1)
  | any v => exact .any v
  | int k n => exact .int k n
  | bool b => exact .bool b
  | str s => exact .str s
  | raw v h => exact .raw v h
  | cp => cases hx
  | sl0 => cases hx
  | sl => cases hx
  | fn => cases hx
  | ow => cases hx
  | tup => cases hx
theorem KRep.of_noal {K K' : Kd} {x : AV} {v : Value} (h : KRep K x v) (hx : x.noal = true) : KRep K' x v := by
  cases h with
  | tup cells vs hl h =>
    refine .tup cells vs hl fun i x v e1 e2 => (h i x v e1 e2).of_noal1 ?_
    exact List.all_eq_true.1 hx x (List.mem_of_getElem? e1)
  | any v => exact .any v
  | int k n => exact .int k n
  | bool b => exact .bool b
  | str s => exact .str s
  | raw v h => exact .raw v h
  | agg cells vs hl h1 h => exact (KRep.agg cells vs hl h1 h).of_noal1 hx
  | cp => cases hx
  | sl0 => cases hx
  | sl => cases hx
  | fn => cases hx
  | ow => cases hx
def RRep (P : Program) (K : Kd) (B : Nat) (w : World) : RV → Value → Prop
  | .k x, v => KRep K x v
  | .own n e cells, v => ∃ xs, w.ownsRow B e (tiOf P e).sz v n xs ∧ (∀ b, v.ownBlock = some b → K.hw b = 0) ∧ (∀ x ∈ xs, x.oneCell' = true) ∧ cells.length = xs.length ∧ ∀ (i : Nat) (x : AV) (u : Value), cells[i]? = some x → xs[i]? = some u → KRep K x u
  | .new cells, v => ∃ (b : Nat) (arr : Array Value) (ty : TypeId), v = .pointer (some ⟨b, 0, none⟩) ∧ B ≤ b ∧ w.heap[b]? = some (.cells arr ty (0, 0)) ∧ K.hw b = 0 ∧ cells.length ≤ arr.size ∧
      (∀ (i : Nat) (v : Value), i < cells.length → arr[i]? = some v → v.oneCell' = true) ∧ ∀ (i : Nat) (x : AV) (v : Value), cells[i]? = some x → arr[i]? = some v → KRep K x v
  | .news n cells, v => ∃ (b c : Nat) (arr : Array Value) (ty : TypeId), v = .slice (some ⟨b, 0, none⟩) n c ∧ n ≤ c ∧ c ≤ maxLen ∧ B ≤ b ∧ w.heap[b]? = some (.cells arr ty (0, 0)) ∧ K.hw b = 0 ∧ cells.length ≤ arr.size ∧
      (∀ (i : Nat) (v : Value), i < cells.length → arr[i]? = some v → v.oneCell' = true) ∧ ∀ (i : Nat) (x : AV) (v : Value), cells[i]? = some x → arr[i]? = some v → KRep K x v
def Callable (P : Program) (f : FuncId) : Prop := ∃ fn, P.funcs[f]? = some fn ∧ (fn.name == "runtime.NumGoroutine") = false ∧ fn.body.isNone = false
def ArgsR (K : Kd) (args : List AV) (vs : Array Value) : Prop := vs.size = args.length ∧ ∀ (i : Nat) (x : AV) (v : Value), args[i]? = some x → vs[i]? = some v → KRep K x v
/-- what a function does, in one line -/
def Spec (P : Program) (f : FuncId) (args : List AV) (r : RV) : Prop := Callable P f ∧ ∀ (K : Kd) (w : World) (vs : Array Value), KOk K w → ArgsR K args vs →
  Calls P f vs w fun e w' => ∃ v K', e = .returned v ∧ Below w.heap.size w w' ∧ K.le K' ∧ KOk K' w' ∧ (∀ b, b < w.heap.size → K'.hw b = K.hw b) ∧ (∀ δ, δ < K.dp → ∀ d g, K'.rw δ d g = K.rw δ d g) ∧ RRep P K' w.heap.size w' r v

def St.isK (s : St) : SV → Bool
  | .k _ => true
  | .ow _ _ _ _ _ => true
  | .ob d g _ => match s.tb d with
    | some (g', .fz _) => g' == g
    | _ => false
  | .os d g _ _ _ => match s.tb d with
    | some (g', .fz _) => g' == g
    | _ => false
  | .pk _ _ _ _ _ _ _ _ => false
/-- a slice of an object, as it is handed on -/
def aOsArg (P : Program) (s : St) (t : TypeId) (d g off n : Nat) : Option AV := (s.objOf d g).bind fun cs => (elemOf? (tiOf P t).un).bind fun e => if off + n * (tiOf P e).sz ≤ cs.length then some (.sl false n ((cs.drop off).take (n * (tiOf P e).sz))) else none
/-- what is handed on -/
def aArg (P : Program) (s : St) (t : TypeId) : SV → Option AV
  | .k x => some x
  | .ow _ _ n _ cs => some (.sl false n cs)
  | .ob d g off => (s.objOf d g).bind fun cs => if off ≤ cs.length then some (.cp (cs.drop off)) else none
  | .os d g off n _ => (s.objOf d g).bind fun cs => (elemOf? (tiOf P t).un).bind fun e => if off + n * (tiOf P e).sz ≤ cs.length then some (.sl false n ((cs.drop off).take (n * (tiOf P e).sz))) else none
  | .pk d g off n d2 g2 off2 n2 => (elemOf? (tiOf P t).un).bind fun e1 => (aOsArg P s e1 d g off n).bind fun x => (aOsArg P s e1 d2 g2 off2 n2).bind fun y => some (.sl false 2 [x, y])
def aArgs (P : Program) (s : St) : List SV → List TypeId → Option (List AV)
  | [], [] => some []
  | x :: xs, t :: ts => match aArg P s t x, aArgs P s xs ts with
    | some y, some ys => some (y :: ys)
    | _, _ => none
  | _, _ => none
def St.res (s : St) (dst : Option Nat) (γ : Nat) (r : RV) : Option St :=
  match r, dst with
  | .k x, dst => some (s.put dst (.k x))
  | .own n e cells, some d => if s.md d = true then (if 0 < n then some (s.mk1 d γ cells (.os d γ 0 n n)) else none) else some (s.mkT d γ (.ow d γ n e cells))
  | .own _ _ _, none => some s
  | .new cells, some d => some (s.mk1 d γ cells (.ob d γ 0))
  | .new _, none => some s
  | .news n cells, some d => some (s.mk1 d γ cells (.os d γ 0 n n))
  | .news _ _, none => some s

section
variable {P : Program} {w0 : Base} {w w' : World} {K0 : Anc} {G : Gh} {us : Nat → Prop} {s : St} {a : Act}
theorem ownsRow_base {w : World} {B B' : Nat} {e size : Nat} {v : Value} {n : Nat} {xs : List Value} (h : w.ownsRow B e size v n xs) (hB : B' ≤ B) : w.ownsRow B' e size v n xs := by
  obtain ⟨h1, h2⟩ := h
  refine ⟨h1, ?_⟩
  rcases h2 with h2 | ⟨g, cap, cur, e1, e2, e3⟩
  · exact .inl h2
  · exact .inr ⟨g, cap, cur, e1, by omega, e3⟩
/-- a block that nobody has becomes an object -/
theorem Real.adopt (h : Real P w0 K0 G us s a w) (d γ : Nat) (hu : ¬ us γ) (b : Nat) (cells : List AV) (arr : Array Value) (ty : TypeId) (hb : ¬ w0.pr b) (hg : w.heap[b]? = some (.cells arr ty (0, 0))) (hw : G.K.hw b = 0)
    (hno : ∀ d' g' e', d' ≠ d → s.tb d' = some (g', e') → entBlk G d' g' e' ≠ some b) (hl : cells.length ≤ arr.size) (h1 : ∀ (i : Nat) (v : Value), i < cells.length → arr[i]? = some v → v.oneCell' = true)
    (hr : ∀ (i : Nat) (x : AV) (v : Value), cells[i]? = some x → arr[i]? = some v → KRep G.K x v) :
    ∃ G', G'.at_ d γ = some (b, 0) ∧ Real P w0 K0 G' (fun g => us g ∨ g = γ) (s.set d (some (γ, .obj cells))) a w := by
  have hat : (G.addAt d γ (b, 0)).at_ d γ = some (b, 0) := by simp [Gh.addAt]
  have hle := Gh.addAt_le (x := (b, 0)) (h.fresh d γ hu).1
  have hgo := h.go (us' := fun g => us g ∨ g = γ) h.below hle h.kok (fun g hg => .inl hg) (fun _ _ h _ => h) ⟨h.krw, fun _ _ _ _ => rfl⟩ (fun d' g' hn => by
      have := h.fresh d' g' (fun hc => hn (.inl hc))
      refine ⟨?_, this.2⟩
      show (if d' = d ∧ g' = γ then some (b, 0) else G.at_ d' g') = none
      rw [if_neg (fun hc => hn (.inr hc.2))]; exact this.1) h.rows (fun d' g' b' o' hb' => by
      by_cases hq : d' = d ∧ g' = γ
      · obtain ⟨rfl, rfl⟩ := hq
        rw [hat] at hb'; injection hb' with hb'; injection hb' with q1 q2; exact q2.symm
      · refine h.offs d' g' b' o' ?_
        have hr2 : (if d' = d ∧ g' = γ then _ else G.at_ d' g') = some (b', o') := hb'
        rwa [if_neg hq] at hr2) (fun b _ => rfl) (fun d' g' e he b hb => ⟨rfl, rfl⟩)
  refine ⟨_, hat, hgo.set d _ ?_⟩
  intro g e hx
  injection hx with hx
  injection hx with e1 e2
  subst e1 e2
  refine ⟨⟨b, 0, arr, ty, hat, hb, hg, hw, by omega, fun i v hi hv => ?_, fun i x v hx hv => ?_⟩, ?_⟩
  · rw [Nat.zero_add] at hv; exact h1 i v hi hv
  · rw [Nat.zero_add] at hv; exact hr i x v hx hv
  · intro b' hb' d' g' e' hd he' hc
    simp [entBlk, hat] at hb'
    subst hb'
    rw [entBlk_le hle (h.ents _ _ _ he')] at hc
    exact hno d' g' e' hd he' hc
theorem res_sound (h : Real P w0 K0 G us s a w) {dst : Option Nat} {γ : Nat} (hu : ¬ us γ) (hd : ∀ d, dst = some d → d < a.tmps.size) {B : Nat} (hB : w0.w.heap.size ≤ B) (hlive : ∀ d g e b, s.tb d = some (g, e) → entBlk G d g e = some b → b < B)
    {r : RV} {v : Value} (hr : RRep P G.K B w r v) {s' : St} (ha : s.res dst γ r = some s') : ∃ G', Real P w0 K0 G' (fun g => us g ∨ g = γ) s' (a.put dst v) w := by
  unfold St.res at ha
  split at ha
  · rename_i x
    injection ha with ha; subst ha
    exact ⟨G, (h.us_mono (fun g hg => .inl hg)).put dst _ v (.k _ _ hr) hd⟩
  · rename_i n e cells d
    have hdd := hd d rfl
    obtain ⟨xs, hown, hhw, hone, hlen, hk⟩ := hr
    have hown' := ownsRow_base hown (Nat.zero_le B)
    have hnp : ∀ b, v.ownBlock = some b → ¬ w0.pr b := fun b hb hc => by
      have h1 := (World.ownsRow.lt hown b hb).1
      have h2 := w0.lt b hc
      omega
    split at ha
    · split at ha
      · rename_i h0
        injection ha with ha; subst ha
        rcases hown.2 with ⟨_, q⟩ | ⟨g, cap, cur, e1, e2, e3, e4, e5, e6, e7⟩
        · omega
        · subst e1
          have hxl := hown.1
          have hcur : cells.length ≤ cur.size := by
            have := congrArg List.length e7
            simp at this; omega
          have hget : ∀ j, j < xs.length → cur[j]? = xs[j]? := fun j hj => by
            rw [← e7, List.getElem?_take, if_pos (by omega), Array.getElem?_toList]
          obtain ⟨G', hat, hG⟩ := h.adopt d γ hu g cells cur e (hnp g rfl) e3 (hhw g rfl) (fun d' g' e' _ he' hc => by have := hlive _ _ _ _ he' hc; omega) hcur (fun i v hi hv => by
            rw [hget i (by omega)] at hv; exact hone v (List.mem_of_getElem? hv)) (fun i x v hx hv => by
            have hi := getq_lt hx
            rw [hget i (by omega)] at hv; exact hk i x v hx hv)
          exact ⟨G', hG.put (some d) _ _ (.os _ _ _ _ _ _ _ _ hat (Nat.le_refl _) e4 e5) (fun t ht => by injection ht with ht; omega)⟩
      · cases ha
    · injection ha with ha; subst ha
      obtain ⟨G', g1, g2, g3⟩ := h.newRow d γ hu e (tiOf P e).sz n v xs cells rfl hown' hnp none ⟨rfl, rfl, rfl, Nat.le_refl _, fun _ _ _ => rfl⟩ (fun b hb => by cases hb) (fun b o hb => by cases hb) (fun b hb => by cases hb) (fun b hb => by cases hb)
        (fun b hb => .inr ⟨hhw b hb, fun d' g' e' _ he' hc => by have := hlive _ _ _ _ he' hc; have := (World.ownsRow.lt hown b hb).1; omega⟩) (fun b hb => by cases hb) (fun b hb => by cases hb) hone hlen hk
      exact ⟨G', g3.put (some d) _ _ g2 (fun t ht => by injection ht with ht; omega)⟩
  · injection ha with ha; subst ha
    exact ⟨G, h.us_mono (fun g hg => .inl hg)⟩
  · rename_i cells d
    injection ha with ha; subst ha
    obtain ⟨b, arr, ty, rfl, hle, hg, hhw, hsz, hone, hk⟩ := hr
    obtain ⟨G', hat, hG⟩ := h.adopt d γ hu b cells arr ty (fun hc => by have := w0.lt b hc; omega) hg hhw (fun d' g' e' _ he' hc => by have := hlive _ _ _ _ he' hc; omega) hsz hone hk
    have hdd := hd d rfl
    exact ⟨G', hG.put (some d) _ _ (.ob _ _ _ _ _ hat) (fun t ht => by injection ht with ht; omega)⟩
  · injection ha with ha; subst ha
    exact ⟨G, h.us_mono (fun g hg => .inl hg)⟩
  · rename_i n cells d
    injection ha with ha; subst ha
    obtain ⟨b, c, arr, ty, rfl, hnc, hcm, hle, hg, hhw, hsz, hone, hk⟩ := hr
    obtain ⟨G', hat, hG⟩ := h.adopt d γ hu b cells arr ty (fun hc => by have := w0.lt b hc; omega) hg hhw (fun d' g' e' _ he' hc => by have := hlive _ _ _ _ he' hc; omega) hsz hone hk
    have hdd := hd d rfl
    exact ⟨G', hG.put (some d) _ _ (.os _ _ _ _ _ _ _ _ hat (Nat.le_refl _) hnc hcm) (fun t ht => by injection ht with ht; omega)⟩
  · injection ha with ha; subst ha
    exact ⟨G, h.us_mono (fun g hg => .inl hg)⟩
end

end Go.Proofs.Ytikganlbnhapcaa

namespace Go.Proofs.Ytikganlbnhapcaa
open Go.RowKit
set_option linter.unusedVariables false
set_option linter.unusedSimpArgs false

section
variable {P : Program} {w0 : Base} {w w' : World} {K0 : Anc} {G : Gh} {us : Nat → Prop} {s : St} {a : Act}
/-- the blocks of live objects -/
def ObjBlk (s : St) (G : Gh) (b : Nat) : Prop := ∃ d g cs, s.tb d = some (g, .obj cs) ∧ entBlk G d g (.obj cs) = some b
/-- the length of the object at a block -/
def ObjLen (s : St) (G : Gh) (b n : Nat) : Prop := ∃ d g cs, s.tb d = some (g, .obj cs) ∧ entBlk G d g (.obj cs) = some b ∧ n = cs.length
open Classical in
/-- for a call: what the live objects hold, as if it never turned -/
noncomputable def lendK (s : St) (G : Gh) (w : World) : Kd :=
  ⟨fun b i => if ObjBlk s G b then (w.cell? ⟨b, i, none⟩).getD undef else G.K.val b i, fun b => if h : ∃ n, ObjLen s G b n then Classical.choose h else G.K.hw b, G.K.rw, G.K.dp, G.K.fr⟩
theorem objLen_iff {b : Nat} : (∃ n, ObjLen s G b n) ↔ ObjBlk s G b :=
  ⟨fun ⟨n, d, g, cs, h1, h2, _⟩ => ⟨d, g, cs, h1, h2⟩, fun ⟨d, g, cs, h1, h2⟩ => ⟨_, d, g, cs, h1, h2, rfl⟩⟩
open Classical in
theorem lend_hw (h : Real P w0 K0 G us s a w) {d g : Nat} {cs : List AV} (h1 : s.tb d = some (g, .obj cs)) {b : Nat} (h2 : entBlk G d g (.obj cs) = some b) : (lendK s G w).hw b = cs.length := by
  have hex : ∃ n, ObjLen s G b n := ⟨_, d, g, cs, h1, h2, rfl⟩
  show (if h : ∃ n, ObjLen s G b n then Classical.choose h else G.K.hw b) = _
  rw [dif_pos hex]
  obtain ⟨d', g', cs', k1, k2, k3⟩ := Classical.choose_spec hex
  have hd := h.dist _ _ _ _ _ _ _ k1 h1 k2 h2
  subst hd
  rw [h1] at k1
  injection k1 with k1
  injection k1 with e1 e2
  injection e2 with e2
  rw [k3, e2]
open Classical in
theorem lend_hw0 {b : Nat} (h : ¬ ObjBlk s G b) : (lendK s G w).hw b = G.K.hw b := by
  show (if h : ∃ n, ObjLen s G b n then Classical.choose h else G.K.hw b) = _
  rw [dif_neg (fun hc => h (objLen_iff.1 hc))]
theorem objBlk_ok (h : Real P w0 K0 G us s a w) {b : Nat} (hb : ObjBlk s G b) : ∃ (arr : Array Value) (ty : TypeId), w.heap[b]? = some (.cells arr ty (0, 0)) ∧ G.K.hw b = 0 ∧ b < w.heap.size := by
  obtain ⟨d, g, cs, h1, h2⟩ := hb
  obtain ⟨b', o, arr, ty, k1, k2, k3, k4, _⟩ := h.ents _ _ _ h1
  simp [entBlk, k1] at h2
  subst h2
  exact ⟨arr, ty, k3, k4, (Array.getElem?_eq_some_iff.1 k3).1⟩
open Classical in
theorem lend_val0 {b i : Nat} (h : ¬ ObjBlk s G b) : (lendK s G w).val b i = G.K.val b i := by
  show (if ObjBlk s G b then (w.cell? ⟨b, i, none⟩).getD undef else G.K.val b i) = _
  rw [if_neg h]
open Classical in
theorem lend_val {b i : Nat} (h : ObjBlk s G b) : (lendK s G w).val b i = (w.cell? ⟨b, i, none⟩).getD undef := by
  show (if ObjBlk s G b then (w.cell? ⟨b, i, none⟩).getD undef else G.K.val b i) = _
  rw [if_pos h]
theorem lend_le (h : Real P w0 K0 G us s a w) : G.K.le (lendK s G w) := by
  refine ⟨fun b => ?_, fun b i hi => ?_, fun _ _ _ _ h => h, Nat.le_refl _⟩
  · by_cases hb : ObjBlk s G b
    · obtain ⟨arr, ty, k3, k4, _⟩ := objBlk_ok h hb
      rw [k4]; exact Nat.zero_le _
    · rw [lend_hw0 hb]; exact Nat.le_refl _
  · by_cases hb : ObjBlk s G b
    · obtain ⟨arr, ty, k3, k4, _⟩ := objBlk_ok h hb
      rw [k4] at hi; omega
    · rw [lend_val0 hb]
theorem lend_ok (h : Real P w0 K0 G us s a w) : KOk (lendK s G w) w := by
  intro b i hi
  by_cases hb : ObjBlk s G b
  · obtain ⟨d, g, cs, h1, h2⟩ := hb
    rw [lend_hw h h1 h2] at hi
    obtain ⟨b', o, arr, ty, k1, k2, k3, k4, k5, k6, k7⟩ := h.ents _ _ _ h1
    have ho := h.offs _ _ _ _ k1
    subst ho
    simp [entBlk, k1] at h2
    subst h2
    rw [Nat.zero_add] at k5
    have hlt : i < arr.size := by omega
    have hc : w.cell? ⟨b', i, none⟩ = some arr[i] := by rw [cell_of_row w b' i arr ty _ k3]; simp [hlt]
    rw [lend_val ⟨d, g, cs, h1, by simp [entBlk, k1]⟩, hc]
    exact ⟨⟨_, k3, rfl⟩, fun _ => rfl⟩
  · rw [lend_hw0 hb] at hi
    rw [lend_val0 hb]; exact h.kok b i hi
/-- arguments that are no object's, or frozen -/
theorem aArg_K (h : Real P w0 K0 G us s a w) {t : TypeId} {x : SV} {v : Value} {y : AV} (hx : SRep G x v) (hk : s.isK x = true) (ha : aArg P s t x = some y) : KRep G.K y v := by
  have fz : ∀ d g cs, (match s.tb d with | some (g', .fz _) => g' == g | _ => false) = true → s.objOf d g = some cs → ∃ b o, G.at_ d g = some (b, o) ∧ KRep G.K (.cp cs) (.pointer (some ⟨b, o, none⟩)) := by
    intro d g cs hm ho
    split at hm
    · rename_i g' cs' he
      have hg : g' = g := by simpa using hm
      subst hg
      simp only [St.objOf, he, if_true, Option.some.injEq] at ho
      subst ho
      obtain ⟨b, o, h1, h2, h3⟩ := h.ents _ _ _ he
      exact ⟨b, o, h1, .cp _ _ _ h2 h3⟩
    · cases hm
  cases hx with
  | k x v hkk => simp only [aArg, Option.some.injEq] at ha; subst ha; exact hkk
  | ow d g n e cells r hr he hn hl hx hkk => simp only [aArg, Option.some.injEq] at ha; subst ha; exact hkk
  | pk => cases hk
  | ob d g off b o hat =>
    simp only [aArg, Option.bind_eq_some_iff] at ha
    obtain ⟨cs, ho, ha⟩ := ha
    obtain ⟨b', o', h1, h2⟩ := fz d g cs hk ho
    rw [hat] at h1
    injection h1 with h1
    injection h1 with e1 e2
    subst e1 e2
    split at ha
    · rename_i hle
      injection ha with ha; subst ha
      exact h2.cp_drop off hle
    · cases ha
  | os d g off n cap b o c hat hn hc hm =>
    simp only [aArg, Option.bind_eq_some_iff] at ha
    obtain ⟨cs, ho, e, he, ha⟩ := ha
    obtain ⟨b', o', h1, h2⟩ := fz d g cs hk ho
    rw [hat] at h1
    injection h1 with h1
    injection h1 with e1 e2
    subst e1 e2
    split at ha
    · rename_i hle
      injection ha with ha; subst ha
      have h3 := (h2.cp_drop off (by omega)).cp_cut (n * (tiOf P e).sz)
      exact h3.sl_of_cp _ _ _ (by omega) hm (fun q => by cases q)
    · cases ha
theorem aArg_lend (h : Real P w0 K0 G us s a w) {t : TypeId} {x : SV} {v : Value} {y : AV} (hx : SRep G x v) (ha : aArg P s t x = some y) : KRep (lendK s G w) y v := by
  have ob : ∀ d g cs, s.objOf d g = some cs → ∃ b o, G.at_ d g = some (b, o) ∧ KRep (lendK s G w) (.cp cs) (.pointer (some ⟨b, o, none⟩)) := by
    intro d g cs ho
    unfold St.objOf at ho
    split at ho
    · rename_i g' cs' he
      split at ho
      · rename_i e; injection ho with ho; subst e ho
        obtain ⟨b, o, arr, ty, k1, k2, k3, k4, k5, k6, k7⟩ := h.ents _ _ _ he
        have ho := h.offs _ _ _ _ k1
        subst ho
        have hblk : entBlk G d g' (.obj cs') = some b := by simp [entBlk, k1]
        refine ⟨b, 0, k1, .cp _ _ _ ⟨by rw [lend_hw h he hblk]; omega, fun i hi => ?_⟩ fun i x hx => ?_⟩
        · have hlt : i < arr.size := by omega
          have hc : w.cell? ⟨b, 0 + i, none⟩ = some arr[i] := by rw [Nat.zero_add, cell_of_row w b i arr ty _ k3]; simp [hlt]
          rw [lend_val ⟨d, g', cs', he, hblk⟩, hc]
          exact k6 i _ hi (by rw [Nat.zero_add]; simp [hlt])
        have hi := getq_lt hx
        have hlt : i < arr.size := by omega
        have hc : w.cell? ⟨b, 0 + i, none⟩ = some arr[i] := by rw [Nat.zero_add, cell_of_row w b i arr ty _ k3]; simp [hlt]
        rw [lend_val ⟨d, g', cs', he, hblk⟩, hc]
        exact (k7 i x arr[i] hx (by rw [Nat.zero_add]; simp [hlt])).mono (lend_le h)
      · cases ho
    · rename_i g' cs' he
      split at ho
      · rename_i e; injection ho with ho; subst e ho
        obtain ⟨b, o, h1, h2, h3⟩ := h.ents _ _ _ he
        exact ⟨b, o, h1, (KRep.cp _ _ _ h2 h3).mono (lend_le h)⟩
      · cases ho
    · cases ho
  have os : ∀ (t : TypeId) (d g off n b o c : Nat) (y : AV), G.at_ d g = some (b, o) → n ≤ c → c ≤ maxLen → aOsArg P s t d g off n = some y → KRep (lendK s G w) y (.slice (some ⟨b, o + off, none⟩) n c) := by
    intro t d g off n b o c y hat hn hm ha
    simp only [aOsArg, Option.bind_eq_some_iff] at ha
    obtain ⟨cs, ho, e, he, ha⟩ := ha
    obtain ⟨b', o', h1, h2⟩ := ob d g cs ho
    rw [hat] at h1
    injection h1 with h1
    injection h1 with e1 e2
    subst e1 e2
    split at ha
    · rename_i hle
      injection ha with ha; subst ha
      have h3 := (h2.cp_drop off (by omega)).cp_cut (n * (tiOf P e).sz)
      exact h3.sl_of_cp _ _ _ (by omega) hm (fun q => by cases q)
    · cases ha
  cases hx with
  | k x v hkk => simp only [aArg, Option.some.injEq] at ha; subst ha; exact hkk.mono (lend_le h)
  | ow d g n e cells r hr he hn hl hx hkk => simp only [aArg, Option.some.injEq] at ha; subst ha; exact hkk.mono (lend_le h)
  | ob d g off b o hat =>
    simp only [aArg, Option.bind_eq_some_iff] at ha
    obtain ⟨cs, ho, ha⟩ := ha
    obtain ⟨b', o', h1, h2⟩ := ob d g cs ho
    rw [hat] at h1
    injection h1 with h1
    injection h1 with e1 e2
    subst e1 e2
    split at ha
    · rename_i hle
      injection ha with ha; subst ha
      exact h2.cp_drop off hle
    · cases ha
  | os d g off n cap b o c hat hn hc hm => exact os t d g off n b o c y hat (by omega) hm ha
  | pk d g off n d2 g2 off2 n2 b cap b1 o1 c1 b2 o2 c2 hb hc hm h1 hc1 hm1 hv1 h2 hc2 hm2 hv2 =>
    simp only [aArg, Option.bind_eq_some_iff] at ha
    obtain ⟨e1, he, x, hx1, y', hx2, ha⟩ := ha
    injection ha with ha; subst ha
    have k1 := os e1 d g off n b1 o1 c1 x h1 hc1 hm1 hx1
    have k2 := os e1 d2 g2 off2 n2 b2 o2 c2 y' h2 hc2 hm2 hx2
    have hl := lend_le h
    have hb2 := hb.1
    refine .sl false 2 [x, y'] b 0 cap hc hm (fun q => by cases q) (hb.mono hl) fun i z hz => ?_
    match i with
    | 0 => simp at hz; subst hz; rw [hl.val b (0 + 0) (by omega), hv1]; exact k1
    | 1 => simp at hz; subst hz; rw [hl.val b (0 + 1) (by omega), hv2]; exact k2
    | i + 2 => simp at hz
theorem aArgs_ok {K : Kd} : ∀ (os : List Operand) (ts : List TypeId) (ys : List AV) (f : ∀ (t : TypeId) (x : SV) (y : AV) (o : Operand), o ∈ os → s.ev o = x → aArg P s t x = some y → KRep K y (a.eval o)), aArgs P s (os.map s.ev) ts = some ys →
    ys.length = os.length ∧ ∀ (i : Nat) (y : AV) (v : Value), ys[i]? = some y → (os.map a.eval)[i]? = some v → KRep K y v
  | [], [], ys, f, ha => by simp only [List.map_nil, aArgs, Option.some.injEq] at ha; subst ha; exact ⟨rfl, fun i y v hy => by simp at hy⟩
  | [], _ :: _, ys, f, ha => by simp [aArgs] at ha
  | _ :: _, [], ys, f, ha => by simp [aArgs] at ha
  | o :: os, t :: ts, ys, f, ha => by
    simp only [List.map_cons, aArgs] at ha
    split at ha
    · rename_i y ys' h1 h2
      injection ha with ha; subst ha
      obtain ⟨k1, k2⟩ := aArgs_ok os ts ys' (fun t x y o ho => f t x y o (List.mem_cons_of_mem _ ho)) h2
      refine ⟨by simp [k1], fun i y' v hy hv => ?_⟩
      cases i with
      | zero => simp at hy hv; subst hy hv; exact f t _ _ o (List.mem_cons_self) rfl h1
      | succ i => exact k2 i y' v (by simpa using hy) (by simpa using hv)
    · cases ha
/-- a call -/
theorem call_sound (h : Real P w0 K0 G us s a w) {γ : Nat} (hu : ¬ us γ) {o : Oper} (hd : ∀ d, o.dst = some d → d < a.tmps.size) {f : FuncId} {os : List Operand} {ts : List TypeId} (ho : o.op = .call { callee := .value (.func f), args := os.toArray, argTypes := ts.toArray }) {ys : List AV}
    (ha : aArgs P s (os.map s.ev) ts = some ys) {r : RV} (hf : Spec P f ys r) (hb : (os.all fun x => s.isK (s.ev x)) = true ∨ r.noal = true) {s' : St} (hs : s.res o.dst γ r = some s') {next : Act → World → Prop} {Q : Exit → Act → World → Prop}
    (hn : ∀ v w' G', Real P w0 K0 G' (fun g => us g ∨ g = γ) s' (a.put o.dst v) w' → next (a.put o.dst v) w') : o.wp P a w next Q := by
  obtain ⟨⟨fn, hfn, hname, hbody⟩, hspec⟩ := hf
  have hrun : (execOp a.eval o).run P w = .ok (.enter f (os.map a.eval).toArray) w := by
    unfold execOp
    simp only [ho]
    have hname' : ¬ fn.name = "runtime.NumGoroutine" := by simpa using hname
    have hbody' : ¬ fn.body = none := fun q => by rw [q] at hbody; cases hbody
    simp [resolve, Act.eval, Deferred.ofValue, invoke, callFunc, hfn, hname', hbody']
  unfold Oper.wp
  rw [hrun]
  show Calls P f _ w _
  -- the ghost that the callee sees, and what is left of it
  have hmain : ∃ K1 : Kd, G.K.le K1 ∧ KOk K1 w ∧ ArgsR K1 ys (os.map a.eval).toArray ∧ (K1.rw = G.K.rw ∧ K1.dp = G.K.dp) ∧ ((∀ b, K1.hw b = G.K.hw b ∧ ∀ i, i < G.K.hw b → K1.val b i = G.K.val b i) ∨ r.noal = true) := by
    rcases hb with hb | hb
    · obtain ⟨k1, k2⟩ := aArgs_ok (P := P) (K := G.K) (a := a) os ts ys (fun t x y o' hm e hy => by
        subst e
        exact aArg_K h (h.ev o') (List.all_eq_true.1 hb o' hm) hy) ha
      exact ⟨G.K, .refl _, h.kok, ⟨by simp [k1], fun i x v hx hv => k2 i x v hx (by simpa using hv)⟩, ⟨rfl, rfl⟩, .inl fun b => ⟨rfl, fun _ _ => rfl⟩⟩
    · obtain ⟨k1, k2⟩ := aArgs_ok (P := P) (K := lendK s G w) (a := a) os ts ys (fun t x y o' _ e hy => by subst e; exact aArg_lend h (h.ev o') hy) ha
      exact ⟨lendK s G w, lend_le h, lend_ok h, ⟨by simp [k1], fun i x v hx hv => k2 i x v hx (by simpa using hv)⟩, ⟨rfl, rfl⟩, .inr hb⟩
  obtain ⟨K1, hle1, hok1, hargs, ⟨hrw1, hdp1⟩, hcase⟩ := hmain
  refine (hspec K1 w _ hok1 hargs).mono ?_
  rintro e w' ⟨v, K2, rfl, hbel, hle2, hok2, hhw, hlo, hr⟩
  have hlo2 : ∀ δ, δ < G.K.dp → ∀ d g, K2.rw δ d g = G.K.rw δ d g := fun δ hδ d g => by rw [hlo δ (by omega) d g, hrw1]
  -- what the caller keeps
  have hkeep : ∃ K3 : Kd, G.K.le K3 ∧ KOk K3 w' ∧ (∀ b, b < w.heap.size → K3.hw b = G.K.hw b) ∧ K3.rw = K2.rw ∧ RRep P K3 w.heap.size w' r v := by
    rcases hcase with hcase | hcase
    · exact ⟨K2, hle1.trans hle2, hok2, fun b hb => (hhw b hb).trans (hcase b).1, rfl, hr⟩
    · let K3 : Kd := ⟨K2.val, fun b => if b < w.heap.size then G.K.hw b else K2.hw b, K2.rw, K2.dp, K2.fr⟩
      have hle3 : G.K.le K3 := by
        refine ⟨fun b => ?_, fun b i hi => (hle1.trans hle2).val b i hi, (hle1.trans hle2).rw, (hle1.trans hle2).dp⟩
        show G.K.hw b ≤ if b < w.heap.size then G.K.hw b else K2.hw b
        split
        · exact Nat.le_refl _
        · exact (hle1.trans hle2).hw b
      have hok3 : KOk K3 w' := fun b i hi => hok2 b i (by
        have hi' : i < if b < w.heap.size then G.K.hw b else K2.hw b := hi
        split at hi'
        · exact Nat.lt_of_lt_of_le hi' ((hle1.trans hle2).hw b)
        · exact hi')
      refine ⟨K3, hle3, hok3, fun b hb => by show (if b < w.heap.size then G.K.hw b else K2.hw b) = _; rw [if_pos hb], rfl, ?_⟩
      cases r with
      | k x => exact KRep.of_noal hr hcase
      | own n e cells =>
        obtain ⟨xs, hown, hh, hone, hlen, hk⟩ := hr
        refine ⟨xs, hown, fun b hb => ?_, hone, hlen, fun i x u hx hu => (hk i x u hx hu).of_sc (List.all_eq_true.1 hcase x (List.mem_of_getElem? hx))⟩
        show (if b < w.heap.size then G.K.hw b else K2.hw b) = 0
        rw [if_neg (by have := (World.ownsRow.lt hown b hb).1; omega)]
        exact hh b hb
      | new cells =>
        obtain ⟨b, arr, ty, e1, hle, hg, hh, hsz, hone, hk⟩ := hr
        refine ⟨b, arr, ty, e1, hle, hg, ?_, hsz, hone, fun i x u hx hu => (hk i x u hx hu).of_sc (List.all_eq_true.1 hcase x (List.mem_of_getElem? hx))⟩
        show (if b < w.heap.size then G.K.hw b else K2.hw b) = 0
        rw [if_neg (by omega)]
        exact hh
      | news n cells =>
        obtain ⟨b, c, arr, ty, e1, e2, e3, hle, hg, hh, hsz, hone, hk⟩ := hr
        refine ⟨b, c, arr, ty, e1, e2, e3, hle, hg, ?_, hsz, hone, fun i x u hx hu => (hk i x u hx hu).of_sc (List.all_eq_true.1 hcase x (List.mem_of_getElem? hx))⟩
        show (if b < w.heap.size then G.K.hw b else K2.hw b) = 0
        rw [if_neg (by omega)]
        exact hh
  obtain ⟨K3, hle3, hok3, hhw3, hrw3, hr3⟩ := hkeep
  have hgo : Real P w0 K0 (G.withK K3) us s a w' := h.go (h.below.then_ hbel) (Gh.withK_le hle3) hok3 (fun g hg => hg) (fun b o hb _ => (hbel.block b (Array.getElem?_eq_some_iff.1 hb).1).trans hb) ⟨fun d g => by show K3.rw _ d g = G.row d g; rw [hrw3, hlo2 _ h.dpl]; exact h.krw d g, fun δ hδ d g => by show K3.rw δ d g = _; rw [hrw3, hlo2 δ (Nat.lt_of_lt_of_le hδ (Nat.le_trans h.dp0 (Nat.le_of_lt h.dpl)))]⟩ h.fresh h.rows h.offs (fun b hb => hhw3 b (Nat.lt_of_lt_of_le (w0.lt b hb) h.size))
    (fun d' g' e' he' b hb' => ⟨hbel.block b (h.hw_live he' hb'), hhw3 b (h.hw_live he' hb')⟩)
  obtain ⟨G', hG'⟩ := res_sound hgo hu hd h.size (fun d' g' e' b he' hb' => by
    rw [entBlk_le (Gh.withK_le hle3) (h.ents _ _ _ he')] at hb'
    exact h.hw_live he' hb') (show RRep P (G.withK K3).K w.heap.size w' r v from hr3) hs
  exact hn v w' G' hG'
end

end Go.Proofs.Ytikganlbnhapcaa

namespace Go.Proofs.Ytikganlbnhapcaa
open Go.RowKit
set_option linter.unusedVariables false
set_option linter.unusedSimpArgs false

/-! calls that may turn one object of the caller -/
inductive MA where
  | k (x : AV)
  | ob (off : Nat)
  | os (off n cap : Nat)
  | tg (n : Nat) (e : TypeId) (cells : List AV)
inductive MRep (P : Program) (w : World) (K : Kd) (b : Nat) : MA → Value → Prop
  | k (x : AV) (v : Value) (h : KRep K x v) : MRep P w K b (.k x) v
  | ob (off : Nat) : MRep P w K b (.ob off) (.pointer (some ⟨b, off, none⟩))
  | os (off n cap c : Nat) (hn : n ≤ cap) (hc : cap ≤ c) (hm : c ≤ maxLen) : MRep P w K b (.os off n cap) (.slice (some ⟨b, off, none⟩) n c)
  | tg (n : Nat) (e : TypeId) (cells : List AV) (v : Value) (xs : List Value) (ho : w.ownsRow 0 e (tiOf P e).sz v n xs) (hb : v.ownBlock ≠ some b) (h1 : ∀ x ∈ xs, x.oneCell' = true) (hl : cells.length = xs.length)
      (hx : ∀ (i : Nat) (x : AV) (u : Value), cells[i]? = some x → xs[i]? = some u → KRep K x u) (h : KRep K (.sl false n cells) v) : MRep P w K b (.tg n e cells) v
def MArgs (P : Program) (w : World) (K : Kd) (b : Nat) (args : List MA) (vs : Array Value) : Prop := vs.size = args.length ∧ ∀ (i : Nat) (x : MA) (v : Value), args[i]? = some x → vs[i]? = some v → MRep P w K b x v
/-- an object, as it lies in a block that nothing is known of -/
def OkB (K : Kd) (w : World) (b : Nat) (cs : List AV) : Prop := ∃ (arr : Array Value) (ty : TypeId), w.heap[b]? = some (.cells arr ty (0, 0)) ∧ K.hw b = 0 ∧ cs.length ≤ arr.size ∧
  (∀ (i : Nat) (v : Value), i < cs.length → arr[i]? = some v → v.oneCell' = true) ∧ ∀ (i : Nat) (x : AV) (v : Value), cs[i]? = some x → arr[i]? = some v → KRep K x v
theorem OkB.lt {K : Kd} {w : World} {b : Nat} {cs : List AV} (h : OkB K w b cs) : b < w.heap.size := by
  obtain ⟨arr, ty, h1, _⟩ := h
  exact (Array.getElem?_eq_some_iff.1 h1).1
def Base.but (w : World) (b : Nat) : Base := ⟨w, fun x => x < w.heap.size ∧ x ≠ b, fun _ h => h.1⟩
/-- what is left of the object: its cells, or nobody's any more -/
def OkBo (K : Kd) (w : World) (b : Nat) : Option (List AV) → Prop
  | some cs => OkB K w b cs
  | none => True
def MSpec (P : Program) (f : FuncId) (args : List MA) (cs : List AV) (cs' : Option (List AV)) (r : AV) : Prop := Callable P f ∧ ∀ (K : Kd) (w : World) (vs : Array Value) (b : Nat), KOk K w → OkB K w b cs → MArgs P w K b args vs →
  Calls P f vs w fun e w' => ∃ v K', e = .returned v ∧ (Base.but w b).Kp w' ∧ K.le K' ∧ KOk K' w' ∧ (∀ x, x < w.heap.size → x ≠ b → K'.hw x = K.hw x) ∧ (∀ δ, δ < K.dp → ∀ d g, K'.rw δ d g = K.rw δ d g) ∧ OkBo K' w' b cs' ∧ KRep K' r v
/-- what is handed on: d, g is the object that may be turned -/
inductive AMA (s : St) (d g : Nat) : Operand → MA → Prop
  | k {x : Operand} {v : AV} (h : s.ev x = .k v) : AMA s d g x (.k v)
  | ow {x : Operand} {d' g' n : Nat} {e : TypeId} {cs : List AV} (h : s.ev x = .ow d' g' n e cs) : AMA s d g x (.k (.sl false n cs))
  | tg {x : Operand} {d' g' n : Nat} {e : TypeId} {cs : List AV} (h : s.ev x = .ow d' g' n e cs) (ht : s.tb d' = some (g', .tag)) : AMA s d g x (.tg n e cs)
  | ob {x : Operand} {off : Nat} (h : s.ev x = .ob d g off) : AMA s d g x (.ob off)
  | os {x : Operand} {off n cap : Nat} (h : s.ev x = .os d g off n cap) : AMA s d g x (.os off n cap)
inductive AMAs (s : St) (d g : Nat) : List Operand → List MA → Prop
  | nil : AMAs s d g [] []
  | cons {x : Operand} {xs : List Operand} {y : MA} {ys : List MA} (h : AMA s d g x y) (hs : AMAs s d g xs ys) : AMAs s d g (x :: xs) (y :: ys)
def aMCall (P : Program) (s : St) (o : Oper) (K : St → Prop) : Prop :=
  ∃ f args ts d g cs cs' ys r, o.op = .call { callee := .value (.func f), args := args, argTypes := ts } ∧ s.tb d = some (g, .obj cs) ∧ AMAs s d g args.toList ys ∧ MSpec P f ys cs cs' r ∧ K ((s.set d (cs'.map fun c => (g, .obj c))).put o.dst (.k r))
section
variable {P : Program} {w0 : Base} {w w' : World} {K0 : Anc} {G : Gh} {us : Nat → Prop} {s : St} {a : Act}
theorem aMArgs_ok (h : Real P w0 K0 G us s a w) {d g b : Nat} {cs : List AV} (htb : s.tb d = some (g, .obj cs)) (hat : G.at_ d g = some (b, 0)) {os : List Operand} {ys : List MA} (ha : AMAs s d g os ys) :
    ys.length = os.length ∧ ∀ (i : Nat) (y : MA) (v : Value), ys[i]? = some y → (os.map a.eval)[i]? = some v → MRep P w G.K b y v := by
  induction ha with
  | nil => exact ⟨rfl, fun i y v hy => by simp at hy⟩
  | @cons o os y ys h1 h2 ih =>
    obtain ⟨k1, k2⟩ := ih
    refine ⟨by simp [k1], fun i y' v hy hv => ?_⟩
    cases i with
    | succ i => exact k2 i y' v (by simpa using hy) (by simpa using hv)
    | zero =>
      simp at hy hv; subst hy hv
      have hs := h.ev o
      generalize hv : a.eval o = v at hs
      cases h1 with
      | k he => rw [he] at hs; cases hs with | k x v hk => exact .k _ _ hk
      | ow he => rw [he] at hs; cases hs with | ow d g n e cells r hr he hn hl hx hk => exact .k _ _ hk
      | tg he ht =>
        rw [he] at hs
        cases hs with
        | ow d' g' n e cells r hr hre hrn hl hx hk =>
          obtain ⟨r', hr', hown, hblk, hone⟩ := h.ents _ _ _ ht
          rw [hr] at hr'; injection hr' with hr'; subst hr' hre hrn
          have hsz := h.rows _ _ _ hr
          rw [hsz] at hown
          refine .tg _ _ _ _ r.xs hown (fun hc => ?_) hone hl hx hk
          have hd := h.dist _ _ _ _ _ _ _ ht htb (by simp [entBlk, hr, hc]) (by simp [entBlk, hat] : entBlk G d g (.obj cs) = some b)
          subst hd
          rw [ht] at htb; cases htb
      | ob he =>
        rw [he] at hs
        cases hs with
        | ob d' g' off b' o' ha' =>
          rw [hat] at ha'; injection ha' with ha'; injection ha' with e1 e2; subst e1 e2
          rw [Nat.zero_add]; exact .ob _
      | os he =>
        rw [he] at hs
        cases hs with
        | os d' g' off n cap b' o' c ha' hn hc hm =>
          rw [hat] at ha'; injection ha' with ha'; injection ha' with e1 e2; subst e1 e2
          rw [Nat.zero_add]; exact .os _ _ _ _ hn hc hm
theorem mcall_sound (h : Real P w0 K0 G us s a w) {o : Oper} (hd : ∀ d, o.dst = some d → d < a.tmps.size) {K : St → Prop} (ha : aMCall P s o K) {next : Act → World → Prop} {Q : Exit → Act → World → Prop}
    (hn : ∀ s' v w' G', K s' → s'.nx = s.nx → Real P w0 K0 G' us s' (a.put o.dst v) w' → next (a.put o.dst v) w') : o.wp P a w next Q := by
  obtain ⟨f, args, ts, d, g, cs, cs', ys, r, ho, htb, hargs, ⟨⟨fn, hfn, hname, hbody⟩, hspec⟩, hK⟩ := ha
  have hrun : (execOp a.eval o).run P w = .ok (.enter f (args.toList.map a.eval).toArray) w := by
    unfold execOp
    simp only [ho]
    have hname' : ¬ fn.name = "runtime.NumGoroutine" := by simpa using hname
    have hbody' : ¬ fn.body = none := fun q => by rw [q] at hbody; cases hbody
    have he : args.map a.eval = (args.toList.map a.eval).toArray := by rw [← Array.toList_map]
    simp [resolve, Act.eval, Deferred.ofValue, invoke, callFunc, hfn, hname', hbody', he]
  unfold Oper.wp
  rw [hrun]
  show Calls P f _ w _
  obtain ⟨b, o', arr, ty, hat, hnp, hg, hw0, hsz, h1c, hrep⟩ := h.ents _ _ _ htb
  have ho0 := h.offs _ _ _ _ hat
  subst ho0
  simp only [Nat.zero_add] at hsz h1c hrep
  obtain ⟨k1, k2⟩ := aMArgs_ok h htb hat hargs
  refine (hspec G.K w _ b h.kok ⟨arr, ty, hg, hw0, hsz, h1c, hrep⟩ ⟨by simp [k1], fun i x v hx hv => k2 i x v hx (by simpa using hv)⟩).mono ?_
  rintro e w' ⟨v, K2, rfl, hkp, hle, hok, hhw, hlo, hokb, hr⟩
  have hblt := (Array.getElem?_eq_some_iff.1 hg).1
  have hother : ∀ b', b' < w.heap.size → b' ≠ b → w'.heap[b']? = w.heap[b']? := fun b' q1 q2 => hkp.block b' ⟨q1, q2⟩
  have hno : Real P w0 K0 G us (s.set d none) a w := h.set d none (fun g e hx => by cases hx)
  have hent : ∀ d' g' e', d' ≠ d → s.tb d' = some (g', e') → ∀ b', entBlk G d' g' e' = some b' → b' ≠ b := fun d' g' e' hne he' b' hb' e => by
    subst e
    exact hne (h.dist _ _ _ _ _ _ _ he' htb hb' (by simp [entBlk, hat]))
  have hgo : Real P w0 K0 (G.withK K2) us (s.set d none) a w' := by
    refine hno.go ⟨hkp.os.trans h.below.os, hkp.tape.trans h.below.tape, hkp.output.trans h.below.output, Nat.le_trans h.below.size hkp.size, fun b' hb' => ?_⟩ (Gh.withK_le hle) hok (fun g hg => hg) (fun b' o hb' ho' => ?_)
      ⟨fun d g => by show K2.rw s.md.dp d g = G.row d g; rw [hlo _ h.dpl]; exact h.krw d g, fun δ hδ d g => by show K2.rw δ d g = _; rw [hlo δ (Nat.lt_of_lt_of_le hδ (Nat.le_trans h.dp0 (Nat.le_of_lt h.dpl)))]⟩ h.fresh h.rows h.offs (fun b' hb' => hhw b' (Nat.lt_of_lt_of_le (w0.lt b' hb') h.size) (fun e : b' = b => hnp (by rw [← e]; exact hb'))) ?_
    · have hlt := Nat.lt_of_lt_of_le (w0.lt b' hb') h.size
      exact (hother b' hlt (fun e => hnp (e ▸ hb'))).trans (h.below.block b' hb')
    · refine (hother b' (Array.getElem?_eq_some_iff.1 hb').1 (fun e => ?_)).trans hb'
      subst e; rw [hg] at hb'; injection hb' with hb'; subst hb'; cases ho'
    · intro d' g' e' he' b' hb'
      by_cases hne : d' = d
      · subst hne; simp [St.set, upd_same] at he'
      · simp only [St.set] at he'
        rw [upd_ne _ _ _ _ hne] at he'
        have hlt := h.hw_live he' hb'
        exact ⟨hother b' hlt (hent d' g' e' hne he' b' hb'), hhw b' hlt (hent d' g' e' hne he' b' hb')⟩
  have hset : Real P w0 K0 (G.withK K2) us (s.set d (cs'.map fun c => (g, .obj c))) a w' := by
    cases cs' with
    | none => exact hgo
    | some cs' =>
    obtain ⟨arr', ty', hg', hw', hsz', h1', hrep'⟩ := hokb
    have hset := hgo.set d (some (g, .obj cs')) (fun g2 e2 hx => by
      injection hx with hx
      injection hx with q1 q2
      subst q1 q2
      refine ⟨⟨b, 0, arr', ty', hat, hnp, hg', hw', by omega, fun i v hi hv => h1' i v hi (by rwa [Nat.zero_add] at hv), fun i x v hx hv => hrep' i x v hx (by rwa [Nat.zero_add] at hv)⟩, ?_⟩
      intro b2 hb2 d' g' e' hne he'
      have hb2' : b = b2 := by simpa [entBlk, Gh.withK, hat] using hb2
      subst hb2'
      simp only [St.set] at he'
      rw [upd_ne _ _ _ _ hne] at he'
      rw [entBlk_le (Gh.withK_le hle) (h.ents _ _ _ he')]
      exact fun hc => hent d' g' e' hne he' b hc rfl)
    rwa [St.set_set] at hset
  exact hn _ v w' _ hK (by cases o.dst <;> rfl) (hset.put o.dst _ v (.k _ _ hr) hd)
end
end Go.Proofs.Ytikganlbnhapcaa

namespace Go.Proofs.Ytikganlbnhapcaa
open Go.RowKit
set_option linter.unusedVariables false
set_option linter.unusedSimpArgs false

def aConvX (P : Program) (s : St) (t u : TypeId) (dst : Option Nat) (x : SV) : Option St :=
  match aConv P s t u x with
  | some y => some (s.put dst y)
  | none => (aMark P s t u x).map fun p => p.1.put dst p.2
def aBuiltX (P : Program) (γ : Nat) (s : St) (dst : Option Nat) (b : Builtin) (args : List Operand) (ts : List TypeId) : Option St :=
  match b, args, ts, dst with
  | .append, [x, y], [t, t'], some d => aApp P γ s d t t' (s.ev x) (s.ev y)
  | .copy, [x, y], [t, _], dst => (aCopy P s t (s.ev x) (s.ev y)).map fun p => p.1.put dst (.k (.int .i64 (p.2 : Int)))
  | b, args, ts, dst => (aBuiltin P s b args ts).map (s.put dst)
/-- an operation that is no call of a function -/
def aDet (P : Program) (γ : Nat) (s : St) (dst : Option Nat) : Op → Option St
  | .alloc e => dst.bind fun d => aAlloc P γ s d e
  | .box _ x => dst.bind fun d => aBox γ s d (s.avn x)
  | .buildSlice t n parts => dst.bind fun d => aBuildSl P γ s d t n parts.toList
  | .makeSlice t l c => dst.bind fun d => (s.int? l).bind fun l => (s.int? c).bind fun c => aMake P γ s d t l c
  | .store t x y => (aStore P s t (s.ev x) (s.avn y)).map fun s' => s'.put dst (.k .any)
  | .convert t u x => aConvX P s t u dst (s.ev x)
  | .call c => match c.callee with
    | .builtin b => aBuiltX P γ s dst b c.args.toList c.argTypes.toList
    | _ => none
  | op => (aVal P s op).map (s.put dst)
/-- a call of a function -/
def aCall (P : Program) (γ : Nat) (s : St) (dst : Option Nat) (f : FuncId) (args : List Operand) (ts : List TypeId) (K : St → Prop) : Prop :=
  ∃ ys r s', aArgs P s (args.map s.ev) ts = some ys ∧ Spec P f ys r ∧ ((args.all fun x => s.isK (s.ev x)) = true ∨ r.noal = true) ∧ s.res dst γ r = some s' ∧ K s'
def aOp (P : Program) (γ : Nat) (s : St) (o : Oper) (K : St → Prop) : Prop :=
  match o.op with
  | .call { callee := .value (.func f), args := args, argTypes := ts } => aCall P γ s o.dst f args.toList ts.toList K
  | op => match aDet P γ s o.dst op with
    | some s' => K s'
    | none => False
def yld (ops : List Oper) (s : St) (j : Nat) : Option Bool :=
  match (ops[j]?).bind (·.dst) with
  | some d => match s.fr d with
    | .k (.bool b) => some b
    | _ => none
  | none => none
/-- the guard's own operation did not run -/
def ydead (ops : List Oper) (s : St) (j : Nat) : Bool :=
  match (ops[j]?).bind (·.dst) with
  | some d => match s.fr d with
    | .k (.tup []) => true
    | _ => false
  | none => false
def aGuard (P : Program) (ops : List Oper) (γ : Nat) (s : St) (o : Oper) (K : St → Prop) : Prop :=
  match o.guard with
  | none => aOp P γ s o K
  | some (j, want) => match yld ops s j with
    | some b => if b = want then aOp P γ s o K else K (s.put o.dst (.k (.tup [])))
    | none => ydead ops s j = true ∧ K (s.put o.dst (.k (.tup [])))
/-- what need not be turned any more is known from now on -/
inductive Ghs : St → St → Prop
  | refl (s : St) : Ghs s s
  | os (s s2 : St) (t d g off n cap m : Nat) (cs : List AV) (h1 : s.fr t = .os d g off n cap) (h2 : s.tb d = some (g, .obj cs)) (h3 : off + m ≤ cs.length) (h : Ghs ⟨upd s.fr t (.k (.sl false n ((cs.drop off).take m))), upd s.tb d none, s.nx, s.md⟩ s2) : Ghs s s2
  | ob (s s2 : St) (t d g off : Nat) (cs : List AV) (h1 : s.fr t = .ob d g off) (h2 : s.tb d = some (g, .obj cs)) (h3 : off ≤ cs.length) (h : Ghs ⟨upd s.fr t (.k (.cp (cs.drop off))), upd s.tb d none, s.nx, s.md⟩ s2) : Ghs s s2
theorem Ghs.nx {s s2 : St} (h : Ghs s s2) : s2.nx = s.nx := by
  induction h with
  | refl s => rfl
  | os _ _ _ _ _ _ _ _ _ _ _ _ _ _ ih => exact ih
  | ob _ _ _ _ _ _ _ _ _ _ _ ih => exact ih
/-- an operation that its guard lets through -/
def gdOk (ops : List Oper) (s : St) (o : Oper) : Prop :=
  match o.guard with
  | none => True
  | some (j, want) => yld ops s j = some want
def aRun (P : Program) (ops : List Oper) : Nat → List Oper → St → (St → Prop) → Prop
  | _, [], s, K => ∃ s', Ghs s s' ∧ K s'
  | i, o :: l, s, K => aGuard P ops (s.nx + i) s o (fun s' => aRun P ops (i + 1) l s' K) ∨ (gdOk ops s o ∧ aMCall P s o fun s' => aRun P ops (i + 1) l s' K)
def St.bump (s : St) (n : Nat) : St := ⟨s.fr, s.tb, s.nx + n, s.md⟩
def dstsOk (N : Nat) (ops : List Oper) : Bool := ops.all fun o => match o.dst with
  | some d => decide (d < N)
  | none => true
inductive AEx where
  | normal | exit (id : Nat) | ret
def AEx.to : AEx → Exit
  | .normal => .normal
  | .exit id => .exit id
  | .ret => .ret
def AEx.seq (K : St → Prop) (Q : AEx → St → Prop) : AEx → St → Prop
  | .normal, s => K s
  | .exit id, s => Q (.exit id) s
  | .ret, s => Q .ret s
def AEx.inBlock (id : Nat) (Q : AEx → St → Prop) : AEx → St → Prop
  | .exit id', s => if id' = id then Q .normal s else Q (.exit id') s
  | .normal, s => Q .normal s
  | .ret, s => Q .ret s
section
variable {P : Program} {w0 : Base} {w w' : World} {K0 : Anc} {G : Gh} {us : Nat → Prop} {s : St} {a : Act}
theorem St.put_nx (s : St) (d : Option Nat) (x : SV) : (s.put d x).nx = s.nx := by cases d <;> rfl
theorem St.mkSl_nx (s : St) (d γ n : Nat) (e : TypeId) (cells : List AV) : (s.mkSl d γ n e cells).nx = s.nx := by
  unfold St.mkSl; split
  · split <;> rfl
  · rfl
theorem put_size (a : Act) (d : Option Nat) (v : Value) : (a.put d v).tmps.size = a.tmps.size := by cases d <;> simp [Act.put]
/-- what a step leaves -/
def Nx (P : Program) (w0 : Base) (K0 : Anc) (N nx : Nat) (us : Nat → Prop) (K : St → Prop) (a : Act) (w : World) : Prop := ∃ s G, K s ∧ Real P w0 K0 G us s a w ∧ a.tmps.size = N ∧ s.nx = nx
theorem wp_val {o : Oper} {v : Value} {next : Act → World → Prop} {Q : Exit → Act → World → Prop} (h : (execOp a.eval o).run P w = .ok (.value v) w') (hn : next (a.put o.dst v) w') : o.wp P a w next Q := by
  unfold Oper.wp; rw [h]; exact hn
theorem wp_skp {o : Oper} {next : Act → World → Prop} {Q : Exit → Act → World → Prop} (h : (execOp a.eval o).run P w = .ok .skip w') (hn : next (a.put o.dst undef) w') : o.wp P a w next Q := by
  unfold Oper.wp; rw [h]; exact hn
theorem aDet_nx {γ : Nat} {dst : Option Nat} {op : Op} {s' : St} (h : aDet P γ s dst op = some s') : s'.nx = s.nx := by
  cases op <;> simp only [aDet] at h <;> try (simp only [Option.map_eq_some_iff] at h; obtain ⟨y, _, rfl⟩ := h; exact St.put_nx _ _ _)
  case alloc e =>
    simp only [Option.bind_eq_some_iff] at h
    obtain ⟨d, _, h⟩ := h
    unfold aAlloc at h; split at h
    · injection h with h; subst h; rfl
    · cases h
  case box e x =>
    simp only [Option.bind_eq_some_iff] at h
    obtain ⟨d, _, h⟩ := h
    unfold aBox at h; split at h
    · injection h with h; subst h; rfl
    · cases h
  case buildSlice t n parts =>
    simp only [Option.bind_eq_some_iff] at h
    obtain ⟨d, _, h⟩ := h
    unfold aBuildSl at h
    split at h
    · rename_i s2 hb
      injection h with h; subst h
      unfold aBuildSl0 at hb
      simp only [Option.bind_eq_some_iff] at hb
      obtain ⟨e, _, h⟩ := hb
      split at h
      · simp only [Option.map_eq_some_iff] at h
        obtain ⟨cs, _, rfl⟩ := h
        exact St.mkSl_nx _ _ _ _ _ _
      · cases h
    · unfold aPk at h
      simp only [Option.bind_eq_some_iff] at h
      obtain ⟨e, _, h⟩ := h
      split at h
      · simp only [Option.map_eq_some_iff] at h
        obtain ⟨x, _, rfl⟩ := h
        exact St.put_nx _ _ _
      · cases h
  case store t x y =>
    simp only [Option.map_eq_some_iff] at h
    obtain ⟨s1, h, rfl⟩ := h
    rw [St.put_nx]
    unfold aStore at h
    split at h
    · split at h
      · split at h
        · injection h with h; subst h; rfl
        · cases h
      · cases h
    · cases h
  case makeSlice t l c =>
    simp only [Option.bind_eq_some_iff] at h
    obtain ⟨d, _, l', _, c', _, h⟩ := h
    unfold aMake at h
    simp only [Option.bind_eq_some_iff] at h
    obtain ⟨e, _, h⟩ := h
    split at h
    · injection h with h; subst h
      exact St.mkSl_nx _ _ _ _ _ _
    · cases h
  case convert t u x =>
    unfold aConvX at h
    split at h
    · injection h with h; subst h; exact St.put_nx _ _ _
    · simp only [Option.map_eq_some_iff] at h
      obtain ⟨⟨s1, y⟩, h, rfl⟩ := h
      rw [St.put_nx]
      unfold aMark at h
      simp only [Option.bind_eq_some_iff] at h
      obtain ⟨e, _, h⟩ := h
      split at h
      · split at h
        · split at h
          · split at h
            · injection h with h; injection h with h1 h2; subst h1; rfl
            · cases h
          · cases h
        · cases h
      · cases h
  case call c =>
    split at h
    · unfold aBuiltX at h
      split at h
      · unfold aApp at h
        simp only [Option.bind_eq_some_iff] at h
        obtain ⟨e, _, cc, _, h⟩ := h
        split at h
        · split at h
          · split at h
            · injection h with h; subst h; exact St.put_nx _ _ _
            · split at h
              · injection h with h; subst h
                split
                · split <;> rfl
                · rfl
              · cases h
          · split at h
            · split at h
              · injection h with h; subst h; rfl
              · cases h
            · cases h
          · cases h
        · cases h
      · simp only [Option.map_eq_some_iff] at h
        obtain ⟨⟨s1, k⟩, h, rfl⟩ := h
        rw [St.put_nx]
        unfold aCopy at h
        simp only [Option.bind_eq_some_iff] at h
        obtain ⟨e, _, cc, _, h⟩ := h
        split at h
        · split at h
          · split at h
            · split at h
              · injection h with h; injection h with h1 h2; subst h1; rfl
              · cases h
            · cases h
          · cases h
        · cases h
      · simp only [Option.map_eq_some_iff] at h
        obtain ⟨y, _, rfl⟩ := h
        exact St.put_nx _ _ _
    · cases h
theorem aDet_sound (h : Real P w0 K0 G us s a w) {γ : Nat} (hu : ¬ us γ) {o : Oper} (hd : ∀ d, o.dst = some d → d < a.tmps.size) {s' : St} (ha : aDet P γ s o.dst o.op = some s') {next : Act → World → Prop} {Q : Exit → Act → World → Prop}
    (hn : ∀ v w' G', Real P w0 K0 G' (fun g => us g ∨ g = γ) s' (a.put o.dst v) w' → next (a.put o.dst v) w') : o.wp P a w next Q := by
  have us' : ∀ g, us g → (us g ∨ g = γ) := fun g hg => .inl hg
  have val : ∀ y, aVal P s o.op = some y → s' = s.put o.dst y → o.wp P a w next Q := by
    intro y hy e
    obtain ⟨r, h1, h2⟩ := aVal_sound h hy
    exact wp_val h1 (hn r w G (e ▸ ((h.us_mono us').put o.dst y r h2 hd)))
  cases ho : o.op <;> rw [ho] at ha <;> simp only [aDet] at ha <;> try (simp only [Option.map_eq_some_iff] at ha; obtain ⟨y, hy, rfl⟩ := ha; exact val y (by rw [ho]; exact hy) rfl)
  case alloc e =>
    simp only [Option.bind_eq_some_iff] at ha
    obtain ⟨d, hdd, ha⟩ := ha
    obtain ⟨v, w', h1, G', h2⟩ := aAlloc_sound h hu (hd d hdd) ha
    exact wp_val (v := v) (w' := w') (by unfold execOp; simp [ho, h1]) (by have q := hn v w' G'; rw [hdd] at q ⊢; exact q h2)
  case box e x =>
    simp only [Option.bind_eq_some_iff] at ha
    obtain ⟨d, hdd, ha⟩ := ha
    obtain ⟨v, w', h1, G', h2⟩ := aBox_sound (e := e) h hu (hd d hdd) (h.avn (h.ev x)) ha
    exact wp_val (v := v) (w' := w') (by unfold execOp; simp [ho, h1]) (by have q := hn v w' G'; rw [hdd] at q ⊢; exact q h2)
  case buildSlice t n parts =>
    simp only [Option.bind_eq_some_iff] at ha
    obtain ⟨d, hdd, ha⟩ := ha
    obtain ⟨v, w', h1, G', h2⟩ := aBuildSl_sound h hu (hd d hdd) ha
    exact wp_val (v := v) (w' := w') (by unfold execOp; simp [ho, h1]) (by have q := hn v w' G'; rw [hdd] at q ⊢; exact q h2)
  case store t x y =>
    simp only [Option.map_eq_some_iff] at ha
    obtain ⟨s1, ha, rfl⟩ := ha
    obtain ⟨w', h1, h2⟩ := aStore_sound h (h.ev x) (h.avn (h.ev y)) ha
    exact wp_skp (w' := w') (by unfold execOp; simp [ho, h1]) (hn undef w' G ((h2.us_mono us').put o.dst _ _ (.k _ _ (.any _)) hd))
  case makeSlice t l c =>
    simp only [Option.bind_eq_some_iff] at ha
    obtain ⟨d, hdd, l', hl, c', hc, ha⟩ := ha
    obtain ⟨k, hk⟩ := int_of (h.ev l).av hl
    obtain ⟨k', hk'⟩ := int_of (h.ev c).av hc
    obtain ⟨v, w', h1, G', h2⟩ := aMake_sound (k := k) (k' := k') h hu (hd d hdd) ha
    exact wp_val (v := v) (w' := w') (by unfold execOp; simp [ho, hk, hk', h1]) (by have q := hn v w' G'; rw [hdd] at q ⊢; exact q h2)
  case convert t u x =>
    unfold aConvX at ha
    split at ha
    · rename_i y hy
      injection ha with ha
      exact val y (by rw [ho]; exact hy) ha.symm
    · simp only [Option.map_eq_some_iff] at ha
      obtain ⟨⟨s1, y⟩, ha, rfl⟩ := ha
      obtain ⟨w', h1, h2, h3⟩ := aMark_sound h (h.ev x) ha
      exact wp_val (v := a.eval x) (w' := w') (by unfold execOp; simp [ho, h1]) (hn _ w' G ((h2.us_mono us').put o.dst _ _ h3 hd))
  case call c =>
    obtain ⟨callee, args, ts⟩ := c
    cases callee <;> simp only at ha <;> try (cases ha; done)
    rename_i b
    obtain ⟨args⟩ := args
    obtain ⟨ts⟩ := ts
    unfold aBuiltX at ha
    split at ha
    · rename_i x y t t' d ea et hq
      simp only at ea et
      subst ea et
      obtain ⟨v, w', h1, G', h2⟩ := aApp_sound (ty := o.type) h hu (hd d hq) (h.ev x) (h.ev y) ha
      exact wp_val (v := v) (w' := w') (by unfold execOp; simp [ho, resolve, invoke, builtin, h1]) (by have q := hn v w' G'; rw [hq] at q ⊢; exact q h2)
    · rename_i x y t t' ea et
      simp only at ea et
      subst ea et
      simp only [Option.map_eq_some_iff] at ha
      obtain ⟨⟨s1, k⟩, ha, rfl⟩ := ha
      obtain ⟨w', h1, h2⟩ := aCopy_sound (u := t') (ty := o.type) h (h.ev x) (h.ev y) ha
      exact wp_val (v := .int .i64 k) (w' := w') (by unfold execOp; simp [ho, resolve, invoke, builtin, h1]) (hn _ w' G ((h2.us_mono us').put o.dst _ _ (.k _ _ (.int _ _)) hd))
    · simp only [Option.map_eq_some_iff] at ha
      obtain ⟨y, hy, rfl⟩ := ha
      exact val y (by rw [ho]; simpa [aVal] using hy) rfl
end

end Go.Proofs.Ytikganlbnhapcaa

