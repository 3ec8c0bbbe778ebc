import Derived.Test.YtikganlbnhapcaaAvVal6
namespace Go.Proofs.Ytikganlbnhapcaa
open Go.RowKit
set_option linter.unusedVariables false
set_option linter.unusedSimpArgs false

/-- so many zero elements -/
def aZeros (n sz : Nat) (zr : List AV) : List AV := (List.range (n * sz)).map fun j => zr.getD (j % sz) .any
def elemOf? (u : TU) : Option TypeId :=
  match u with
  | .sl e => some e
  | _ => none
def St.mk1 (s : St) (d γ : Nat) (cells : List AV) (x : SV) : St := (s.set d (some (γ, .obj cells))).put (some d) x
def St.mkT (s : St) (d γ : Nat) (x : SV) : St := (s.set d (some (γ, .tag))).put (some d) x
/-- a slice that is made: an object, or a growing slice of one's own -/
def St.mkSl (s : St) (d γ n : Nat) (e : TypeId) (cells : List AV) : St :=
  if s.md d = true then (if n = 0 then s.put (some d) (.k (.sl true 0 [])) else s.mk1 d γ cells (.os d γ 0 n n)) else s.mkT d γ (.ow d γ n e cells)
def aBuildSl (P : Program) (γ : Nat) (s : St) (d : Nat) (t : TypeId) (n : Nat) (parts : List (Nat × Operand)) : Option St :=
  (elemOf? (tiOf P t).un).bind fun e => if (tiOf P e).ok = true ∧ n * (tiOf P e).sz ≤ 16777216 ∧ 0 < (tiOf P e).sz then
    (aFill (fun j => some (j * (tiOf P e).sz, (tiOf P e).sz)) (aZeros n (tiOf P e).sz (tiOf P e).zr) (parts.map fun (j, x) => (j, s.avn x))).map fun cs => s.mkSl d γ n e cs
  else none
def aMake (P : Program) (γ : Nat) (s : St) (d : Nat) (t : TypeId) (l c : Int) : Option St :=
  (elemOf? (tiOf P t).un).bind fun e => if (tiOf P e).ok = true ∧ 0 < (tiOf P e).sz ∧ 0 ≤ l ∧ c = l ∧ (tiOf P e).by_ * l ≤ 140737488355328 ∧ l ≤ 140737488355328 then
    some (s.mkSl d γ l.toNat e (aZeros l.toNat (tiOf P e).sz (tiOf P e).zr))
  else none
def aStore (P : Program) (s : St) (t : TypeId) (x : SV) (y : AV) : Option St :=
  match x with
  | .ob d g off => match s.tb d with
    | some (g', .obj cs) => if g' = g ∧ (tiOf P t).ok = true ∧ y.flat = true ∧ y.cells.length = (tiOf P t).sz ∧ off + (tiOf P t).sz ≤ cs.length then
        some (s.set d (some (g, .obj (cs.take off ++ y.cells ++ cs.drop (off + (tiOf P t).sz))))) else none
    | _ => none
  | _ => none

section
variable {P : Program} {w0 : Base} {w : World} {K0 : Anc} {G : Gh} {us : Nat → Prop} {s : St} {a : Act}
theorem St.put_some (s : St) (d : Nat) (x : SV) : s.put (some d) x = ⟨upd s.fr d x, s.tb, s.nx, s.md⟩ := rfl
theorem Real.alloc (h : Real P w0 K0 G us s a w) (o : Obj) : Real P w0 K0 G us s a (w.alloc o) :=
  h.go (h.below.alloc o) (.refl G) (h.kok.below fun b hb => Below.heap_alloc w _ b (Decidable.byContradiction fun hc => hb (h.kok.hw0 (by omega)))) (fun g hg => hg) (fun b o hb _ => (Below.heap_alloc w _ b (Array.getElem?_eq_some_iff.1 hb).1).trans hb) ⟨h.krw, fun _ _ _ _ => rfl⟩ h.fresh h.rows h.offs (fun b _ => rfl)
    (fun d' g' e he b hb => ⟨Below.heap_alloc w _ b (h.hw_live he hb), rfl⟩)
theorem Real.drew (h : Real P w0 K0 G us s a w) : Real P w0 K0 G us s a w.drew :=
  h.go h.below.drew (.refl G) h.kok (fun g hg => hg) (fun _ _ h _ => h) ⟨h.krw, fun _ _ _ _ => rfl⟩ h.fresh h.rows h.offs (fun b _ => rfl) (fun d' g' e he b hb => ⟨rfl, rfl⟩)
theorem Real.mk1 (h : Real P w0 K0 G us s a w) (d γ : Nat) (hu : ¬ us γ) (hd : d < a.tmps.size) (cells : List AV) (arr : Array Value) (ty : TypeId) (hc : CellsR G.K cells arr) (x : SV) (v : Value)
    (hx : ∀ G', G'.at_ d γ = some (w.heap.size, 0) → SRep G' x v) : ∃ G', Real P w0 K0 G' (fun g => us g ∨ g = γ) (s.mk1 d γ cells x) (a.put (some d) v) (w.alloc (.cells arr ty)) := by
  obtain ⟨G', h1, h2, h3, h4⟩ := h.newObj d γ hu cells arr ty hc.1 hc.2.1 hc.2.2
  exact ⟨G', h4.put (some d) x v (hx G' h3) (fun t ht => by injection ht with ht; omega)⟩
theorem CellsR.toList {K : Kd} {cs : List AV} {vs : Array Value} (h : CellsR K cs vs) : cs.length = vs.toList.length ∧ (∀ x ∈ vs.toList, x.oneCell' = true) ∧ ∀ (i : Nat) (x : AV) (v : Value), cs[i]? = some x → vs.toList[i]? = some v → KRep K x v := by
  refine ⟨by simp [h.1], fun x hx => ?_, fun i x v h1 h2 => h.2.2 i x v h1 (by rwa [Array.getElem?_toList] at h2)⟩
  obtain ⟨i, hi⟩ := List.mem_iff_getElem?.1 hx
  exact h.2.1 i x (by rwa [Array.getElem?_toList] at hi)
theorem Real.mkSl (h : Real P w0 K0 G us s a w) (d γ : Nat) (hu : ¬ us γ) (hd : d < a.tmps.size) (n size : Nat) (e : TypeId) (cells : List AV) (arr : Array Value) (hc : CellsR G.K cells arr) (hn : n ≤ maxLen) (hl : arr.size = n * size) (hsz : size = (tiOf P e).sz) :
    ∃ G', Real P w0 K0 G' (fun g => us g ∨ g = γ) (s.mkSl d γ n e cells) (a.put (some d) (.slice (some ⟨w.heap.size, 0, none⟩) n n)) (w.alloc (.cells arr e)) := by
  unfold St.mkSl
  split
  · split
    · rename_i h0
      subst h0
      exact ⟨G, (h.alloc (.cells arr e)).us_mono (fun g hg => .inl hg) |>.put (some d) _ _ (.k _ _ (.sl0 _ _ _ (Nat.zero_le _) (fun _ => rfl))) (fun t ht => by injection ht with ht; omega)⟩
    exact h.mk1 d γ hu hd cells arr e hc _ _ fun G' hG => .os _ _ _ _ _ _ _ _ hG (Nat.le_refl _) (Nat.le_refl _) hn
  · have hown := World.ownsRow_lit (base := 0) (e := e) (size := size) w arr n (Nat.zero_le _) hn hl
    obtain ⟨c1, c2, c3⟩ := hc.toList
    obtain ⟨G', g1, g2, g3⟩ := h.newRow d γ hu e size n _ arr.toList cells hsz hown (fun b hb => by
      have e : w.heap.size = b := by simpa [Value.ownBlock] using hb
      exact Base.new h.below (by omega)) none ⟨rfl, rfl, rfl, by simp, fun k hk _ => Below.heap_alloc w _ k hk⟩ (fun b hb => by cases hb) (fun b o hb => by cases hb) (fun b hb => by cases hb) (fun b hb => by cases hb)
      (fun b hb => .inr (by
        obtain rfl : w.heap.size = b := by simpa [Value.ownBlock] using hb
        exact ⟨h.kok.hw0 (Nat.le_refl _), fun d' g' e' _ he' hc => by have := h.hw_live he' hc; omega⟩)) (fun b hb => by cases hb) (fun b hb => by cases hb) c2 c1 c3
    exact ⟨G', g3.put (some d) _ _ g2 (fun t ht => by injection ht with ht; omega)⟩
theorem zeros_rep (K : Kd) (n sz : Nat) (z : Array Value) (hz : z.size = sz) (hpos : 0 < sz) (h1 : ∀ c ∈ z, c.oneCell' = true) :
    CellsR K (aZeros n sz (z.toList.map ofVal)) ((Array.range (n * sz)).map (z[· % z.size]!)) := by
  have hget : ∀ i, i < n * sz → ((Array.range (n * sz)).map (z[· % z.size]!))[i]? = some (z[i % sz]'(by rw [hz]; exact Nat.mod_lt _ hpos)) := by
    intro i hi
    subst hz
    have hm : i % z.size < z.size := Nat.mod_lt _ (by omega)
    simp [hi, hm]
  refine ⟨by simp [aZeros], fun i v hv => ?_, fun i x v hx hv => ?_⟩
  · have hi : i < n * sz := by have := (Array.getElem?_eq_some_iff.1 hv).1; simpa using this
    rw [hget i hi] at hv
    injection hv with hv
    rw [← hv]; exact h1 _ (Array.getElem_mem _)
  · have hi : i < n * sz := by have := (Array.getElem?_eq_some_iff.1 hv).1; simpa using this
    rw [hget i hi] at hv
    injection hv with hv
    have hm : i % sz < z.toList.length := by simp [hz]; exact Nat.mod_lt _ hpos
    simp only [aZeros, List.getElem?_map, List.getElem?_range hi, Option.map_some, Option.some.injEq] at hx
    rw [List.getD_eq_getElem?_getD, List.getElem?_map, List.getElem?_eq_getElem hm] at hx
    simp at hx
    rw [← hx, ← hv]; exact ofVal_rep _ _
theorem elemOf?_eq {u : TU} {e : TypeId} (h : elemOf? u = some e) : u = .sl e := by
  unfold elemOf? at h; split at h
  · injection h with h; rw [h]
  · cases h
theorem aBuildSl_sound (h : Real P w0 K0 G us s a w) {d γ : Nat} (hu : ¬ us γ) (hd : d < a.tmps.size) {t : TypeId} {n : Nat} {parts : Array (Nat × Operand)} {s' : St} (ha : aBuildSl P γ s d t n parts.toList = some s') :
    ∃ v w', (Instr.buildSlice t n (parts.map fun (i, x) => (i, a.eval x))).run P w = .ok v w' ∧ ∃ G', Real P w0 K0 G' (fun g => us g ∨ g = γ) s' (a.put (some d) v) w' := by
  unfold aBuildSl at ha
  simp only [Option.bind_eq_some_iff] at ha
  obtain ⟨e, he, ha⟩ := ha
  split at ha
  · rename_i hc
    obtain ⟨hok, hle, hpos⟩ := hc
    obtain ⟨i, z, d', hi, hz, hzs, hz1, hsz, _, hzr, _⟩ := ti_ok hok
    have ht := tu_sl (elemOf?_eq he)
    simp only [Option.map_eq_some_iff] at ha
    obtain ⟨cs, hf, rfl⟩ := ha
    have hp := parts_rep h parts.toList
    rw [hzr, hsz] at hf
    have hpos' : 0 < i.size := by omega
    obtain ⟨vs, g1, g2⟩ := aFill_sound _ _ _ _ _ _ (zeros_rep G.K n i.size z.cells hzs hpos' hz1) hp.1 hp.2 hf
    have hsize : vs.size = n * i.size := by
      have : ∀ (place : Nat → Option (Nat × Nat)) (l : List (Nat × AV)) (a b : List AV), aFill place a l = some b → b.length = a.length := by
        intro place l
        induction l with
        | nil => intro a b hab; simp only [aFill, Option.some.injEq] at hab; rw [hab]
        | cons p l ih =>
          intro a b hab
          simp only [aFill] at hab
          split at hab
          · cases hab
          · split at hab
            · rename_i hcc
              rw [ih _ _ hab]
              simp; omega
            · cases hab
      rw [g2.1, this _ _ _ _ hf]; simp [aZeros]
    have hbig : ¬ n * i.size > 2 ^ 24 := by rw [← hsz]; omega
    obtain ⟨G', hG⟩ := h.mkSl d γ hu hd n i.size e cs vs g2 (by unfold maxLen; have := Nat.le_mul_of_pos_right n hpos'; omega) hsize hsz.symm
    refine ⟨_, _, ?_, G', hG⟩
    by_cases h0 : n * i.size = 0
    · have hn0 : n = 0 := by rcases Nat.mul_eq_zero.1 h0 with q | q <;> omega
      subst hn0
      simp only [Nat.zero_mul] at g1 hbig
      have e2 : ((Array.range 0).map (fun x => z.cells[x % z.cells.size]!)) = #[] := by simp
      rw [e2] at g1
      have e3 : ∀ f : Nat → Value, (Array.range 0).map f = #[] := fun f => by simp
      simp [Instr.buildSlice, run_underlying ht, run_sizeOf' hi, map_parts, g1, newRow, e3]
    · simp [Instr.buildSlice, run_underlying ht, run_sizeOf' hi, hbig, h0, zeroValue, typeInfo, hi, hz, map_parts, g1, newRow]
  · cases ha
theorem aMake_sound (h : Real P w0 K0 G us s a w) {d γ : Nat} (hu : ¬ us γ) (hd : d < a.tmps.size) {t : TypeId} {l c : Int} {k k' : IntKind} {s' : St} (ha : aMake P γ s d t l c = some s') :
    ∃ v w', (Instr.makeSlice t (.int k l) (.int k' c)).run P w = .ok v w' ∧ ∃ G', Real P w0 K0 G' (fun g => us g ∨ g = γ) s' (a.put (some d) v) w' := by
  unfold aMake at ha
  simp only [Option.bind_eq_some_iff] at ha
  obtain ⟨e, he, ha⟩ := ha
  split at ha
  · rename_i hc
    obtain ⟨hok, hpos, h0, rfl, hby, hbig⟩ := hc
    injection ha with ha; subst ha
    obtain ⟨i, z, d', hi, hz, hzs, hz1, hsz, hbe, hzr, _⟩ := ti_ok hok
    have ht := tu_sl (elemOf?_eq he)
    obtain ⟨n, rfl⟩ : ∃ n : Nat, c = n := ⟨c.toNat, by omega⟩
    have hw : IntKind.i64.wrap (n : Int) = n := IntWalk.i64_in _ (by omega)
    have hg2 := zeros_rep G.K n i.size z.cells hzs (by omega) hz1
    obtain ⟨G', hG⟩ := h.mkSl d γ hu hd n i.size e _ _ hg2 (by unfold maxLen; omega) (by simp) hsz.symm
    rw [Int.toNat_natCast, hsz, hzr]
    refine ⟨_, _, ?_, G', hG⟩
    rw [hbe] at hby
    have t1 : ¬ (i.bytes : Int) * n > 2 ^ 48 := by omega
    have t2 : ¬ (n : Int) < 0 := by omega
    by_cases hn : n = 0
    · subst hn
      have e3 : ∀ f : Nat → Value, (Array.range 0).map f = #[] := fun f => by simp
      have hw0 : IntKind.i64.wrap 0 = 0 := by decide
      simp [Instr.makeSlice, run_underlying ht, asInt, asIntOf, typeInfo, hi, hw0, askRoom, roomBytes, sizeOf, e3, newRow]
    · have hne : n * i.size ≠ 0 := by
        have := Nat.mul_pos (Nat.pos_of_ne_zero hn) (show 0 < i.size by omega); omega
      have room : ∀ (q : Sem Value) , (do askRoom (n * i.bytes); q : Sem Value).run P w = q.run P w := fun q => by
        unfold askRoom
        split
        · rfl
        · rfl
      simp [Instr.makeSlice, run_underlying ht, asInt, asIntOf, typeInfo, hi, hw, t2, sizeOf, hne, zeroValue, hz, newRow, room]
      intro hc; omega
  · cases ha
/-- a part of an object's cells turns -/
theorem Real.splice (h : Real P w0 K0 G us s a w) {d g : Nat} {cs : List AV} (he : s.tb d = some (g, .obj cs)) {b o : Nat} (hat : G.at_ d g = some (b, o)) {arr : Array Value} {ty : TypeId} (hg : w.heap[b]? = some (.cells arr ty (0, 0)))
    (off : Nat) (ncs : List AV) (vs : List Value) (hl : vs.length = ncs.length) (hfit : off + ncs.length ≤ cs.length) (h1 : ∀ v ∈ vs, v.oneCell' = true) (hr : ∀ (i : Nat) (x : AV) (v : Value), ncs[i]? = some x → vs[i]? = some v → KRep G.K x v) :
    Real P w0 K0 G us (s.set d (some (g, .obj (cs.take off ++ ncs ++ cs.drop (off + ncs.length))))) a (w.setRow b (arr.toList.take (o + off) ++ vs ++ arr.toList.drop (o + off + vs.length)).toArray) := by
  obtain ⟨b', o', arr0, ty0, k1, k2, k3, k4, k5, k6, k7⟩ := h.ents _ _ _ he
  rw [hat] at k1
  injection k1 with k1
  injection k1 with e1 e2
  subst e1 e2
  rw [hg] at k3
  injection k3 with k3
  injection k3 with e1 e2
  subst e1 e2
  refine h.turnObj he _ b o arr _ ty hat hg ?_ ?_ ?_ ?_
  · simp; omega
  · simp; omega
  · intro j c hjl hj
    rw [List.getElem?_toArray, List.append_assoc] at hj
    have hl2 : (arr.toList.take (o + off)).length = o + off := by simp; omega
    have hjl2 : j < cs.length := by simp at hjl; omega
    rcases Nat.lt_or_ge j off with q | q
    · rw [List.getElem?_append_left (by omega), List.getElem?_take, if_pos (by omega)] at hj
      exact k6 j c hjl2 (by rwa [Array.getElem?_toList] at hj)
    · rw [List.getElem?_append_right (by omega), hl2] at hj
      rcases Nat.lt_or_ge (j - off) vs.length with q2 | q2
      · rw [List.getElem?_append_left (by omega)] at hj
        exact h1 c (List.mem_of_getElem? hj)
      · rw [List.getElem?_append_right (by omega), List.getElem?_drop, Array.getElem?_toList] at hj
        refine k6 j c hjl2 ?_
        rwa [show o + off + vs.length + (o + j - (o + off) - vs.length) = o + j by omega] at hj
  · intro j p c hp hj
    rw [List.getElem?_toArray, List.append_assoc] at hj
    rw [List.append_assoc] at hp
    have hl1 : (arr.toList.take (o + off)).length = o + off := by simp; omega
    have hl2 : (cs.take off).length = off := by simp; omega
    rcases Nat.lt_or_ge j off with q | q
    · rw [List.getElem?_append_left (by omega), List.getElem?_take, if_pos (by omega), Array.getElem?_toList] at hj
      rw [List.getElem?_append_left (by omega), List.getElem?_take, if_pos q] at hp
      exact k7 j p c hp hj
    · rw [List.getElem?_append_right (by omega), hl1] at hj
      rw [List.getElem?_append_right (by omega), hl2] at hp
      rw [show o + j - (o + off) = j - off by omega] at hj
      rcases Nat.lt_or_ge (j - off) vs.length with q2 | q2
      · rw [List.getElem?_append_left q2] at hj
        rw [List.getElem?_append_left (by omega)] at hp
        exact hr _ p c hp hj
      · rw [List.getElem?_append_right q2, List.getElem?_drop, Array.getElem?_toList] at hj
        rw [List.getElem?_append_right (by omega), List.getElem?_drop] at hp
        refine k7 j p c ?_ ?_
        · rwa [show off + ncs.length + (j - off - ncs.length) = j by omega] at hp
        · rwa [show o + off + vs.length + (j - off - vs.length) = o + j by omega] at hj
theorem storeAt_run {w : World} {t : TypeId} {i : TypeInfo} (hi : P.info? t = some i) {b o : Nat} {arr : Array Value} {ty : TypeId} {v : Value} (hg : w.heap[b]? = some (.cells arr ty (0, 0))) (hs : v.cells.size = i.size) (hfit : o + i.size ≤ arr.size) (h1 : ∀ c ∈ v.cells, c.oneCell' = true) :
    (Instr.storeAt t (.pointer (some ⟨b, o, none⟩)) v).run P w = .ok () (w.setRow b (arr.toList.take o ++ v.cells.toList ++ arr.toList.drop (o + i.size)).toArray) := by
  have hst := run_storeCells_at P b o ty v.cells.toList 0 arr w hg (by simp; omega) (fun c hc => h1 c (by simpa using hc))
  simp only [Nat.add_zero, Array.length_toList, hs] at hst
  have hsz : ¬ v.cells.size ≠ i.size := by omega
  simp [Instr.storeAt, Instr.sureAddr, storeVar, run_sizeOf' hi, hsz, hst]
theorem aStore_sound (h : Real P w0 K0 G us s a w) {t : TypeId} {x : SV} {y : AV} {u v : Value} {s' : St} (hx : SRep G x u) (hy : KRep G.K y v) (ha : aStore P s t x y = some s') :
    ∃ w', (Instr.storeAt t u v).run P w = .ok () w' ∧ Real P w0 K0 G us s' a w' := by
  unfold aStore at ha
  split at ha
  · rename_i d g off
    split at ha
    · rename_i g' cs he
      split at ha
      · rename_i hc
        obtain ⟨rfl, hok, hfl, hln, hfit⟩ := hc
        injection ha with ha; subst ha
        obtain ⟨i, z, d', hi, hz, hzs, hz1, hsz, _⟩ := ti_ok hok
        have hcl := hy.cells hfl
        cases hx with
        | ob d g off b o hat =>
          obtain ⟨b', o', arr, ty, k1, k2, k3, k4, k5, k6, k7⟩ := h.ents _ _ _ he
          rw [hat] at k1
          injection k1 with k1
          injection k1 with e1 e2
          subst e1 e2
          have hvs : v.cells.size = i.size := by rw [hcl.1, hln, hsz]
          have hrun := storeAt_run (P := P) hi (b := b) (o := o + off) (v := v) k3 hvs (by omega) (fun c hc => by
            obtain ⟨j, hj⟩ := Array.mem_iff_getElem?.1 hc
            exact hcl.2.1 j c hj)
          have hlv : v.cells.toList.length = y.cells.length := by rw [Array.length_toList, hcl.1]
          obtain ⟨_, c2, c3⟩ := hcl.toList
          have := h.splice he hat k3 off y.cells v.cells.toList hlv (by omega) c2 c3
          rw [hlv, hln, hsz] at this
          rw [hsz]
          exact ⟨_, hrun, this⟩
      · cases ha
    · cases ha
  · cases ha
end

end Go.Proofs.Ytikganlbnhapcaa
