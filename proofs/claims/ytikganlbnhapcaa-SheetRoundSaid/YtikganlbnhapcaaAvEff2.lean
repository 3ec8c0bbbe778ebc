import Derived.Test.YtikganlbnhapcaaAvEff
namespace Go.Proofs.Ytikganlbnhapcaa
open Go.RowKit
set_option linter.unusedVariables false
set_option linter.unusedSimpArgs false

def aAlloc (P : Program) (γ : Nat) (s : St) (d : Nat) (e : TypeId) : Option St := if (tiOf P e).ok = true then some (s.mk1 d γ (tiOf P e).zr (.ob d γ 0)) else none
def aBox (γ : Nat) (s : St) (d : Nat) (x : AV) : Option St := if x.flat = true then some (s.mk1 d γ x.cells (.ob d γ 0)) else none
/-- what is appended -/
def aSrc (P : Program) (s : St) (e t t' : TypeId) (y : SV) : Option (Nat × List AV) :=
  if t = t' then s.cont (tiOf P e).sz y else
  match (tiOf P t').un, y with
  | .int _, .k (.int _ n) => if 0 ≤ n ∧ n ≤ 140737488355328 ∧ n.toNat * (tiOf P e).by_ ≤ 140737488355328 then some (n.toNat, aZeros n.toNat (tiOf P e).sz (tiOf P e).zr) else none
  | .str, .k (.str b) => if (tiOf P e).sz = 1 then some (b.size, aOfBytes b.data.toList) else none
  | _, _ => none
/-- append -/
def aApp (P : Program) (γ : Nat) (s : St) (d : Nat) (t t' : TypeId) (x y : SV) : Option St :=
  (elemOf? (tiOf P t).un).bind fun e => (aSrc P s e t t' y).bind fun c =>
    if (tiOf P e).ok = true ∧ 0 < (tiOf P e).sz then
      match x with
      | .k (.sl true n cs) => if c.1 = 0 then some (s.put (some d) (.k (.sl true n cs))) else if cs.length = n * (tiOf P e).sz ∧ (n + c.1) * (tiOf P e).by_ ≤ 140737488355328 ∧ n + c.1 ≤ 140737488355328 then
          some (if s.md d = true then s.mk1 d γ (cs ++ c.2) (.os d γ 0 (n + c.1) (n + c.1)) else s.mkT d γ (.ow d γ (n + c.1) e (cs ++ c.2))) else none
      | .ow d0 g0 n e' cs => match s.tb d0 with
        | some (g1, .tag) => if g1 = g0 ∧ e' = e ∧ (n + c.1) * (tiOf P e).by_ ≤ 140737488355328 ∧ n + c.1 ≤ 140737488355328 ∧ s.md d = false then
            some ((s.set d0 none).mkT d γ (.ow d γ (n + c.1) e (cs ++ c.2))) else none
        | _ => none
      | _ => none
    else none

section
variable {P : Program} {w0 : Base} {w : World} {K0 : Anc} {G : Gh} {us : Nat → Prop} {s : St} {a : Act}
theorem aAlloc_sound (h : Real P w0 K0 G us s a w) {d γ : Nat} (hu : ¬ us γ) (hd : d < a.tmps.size) {e : TypeId} {s' : St} (ha : aAlloc P γ s d e = some s') :
    ∃ v w', (Instr.alloc e true (.tuple #[])).run P w = .ok v w' ∧ ∃ G', Real P w0 K0 G' (fun g => us g ∨ g = γ) s' (a.put (some d) v) w' := by
  unfold aAlloc at ha
  split at ha
  · rename_i hok
    injection ha with ha; subst ha
    obtain ⟨i, z, d', hi, hz, hzs, hz1, hsz, _, hzr, _⟩ := ti_ok hok
    obtain ⟨G', hG⟩ := h.mk1 d γ hu hd (tiOf P e).zr z.cells e (by rw [hzr]; exact CellsR.zero _ hz1) (.ob d γ 0) (.pointer (some ⟨w.heap.size, 0, none⟩)) fun G' hG => .ob _ _ _ _ _ hG
    exact ⟨_, _, by simp [Instr.alloc, zeroValue, typeInfo, hi, hz, newVar, newRow], G', hG⟩
  · cases ha
theorem aBox_sound (h : Real P w0 K0 G us s a w) {d γ : Nat} (hu : ¬ us γ) (hd : d < a.tmps.size) {e : TypeId} {x : AV} {v : Value} (hx : KRep G.K x v) {s' : St} (ha : aBox γ s d x = some s') :
    ∃ r w', (Instr.box e v).run P w = .ok r w' ∧ ∃ G', Real P w0 K0 G' (fun g => us g ∨ g = γ) s' (a.put (some d) r) w' := by
  unfold aBox at ha
  split at ha
  · rename_i hf
    injection ha with ha; subst ha
    obtain ⟨G', hG⟩ := h.mk1 d γ hu hd _ v.cells e (hx.cells hf) (.ob d γ 0) (.pointer (some ⟨w.heap.size, 0, none⟩)) fun G' hG => .ob _ _ _ _ _ hG
    exact ⟨_, _, by simp [Instr.box, newVar, newRow], G', hG⟩
  · cases ha
/-- append onto a slice with no room, of at least one element -/
theorem run_app_full {t t' ty e : TypeId} {i : TypeInfo} {z y : Value} (ht : P.underlying t = some (.slice e)) (ad : Option Addr) (n : Nat) (olds : List Value) (hlo : olds.length = n * i.size)
    (hcase : (ad = none ∧ n = 0) ∨ ∃ b, ad = some b ∧ ∀ j u, olds[j]? = some u → w.cell? (b.add j) = some u)
    {m : Nat} {news : List Value} (hs : ASrc P e t' i z y m news w) (hm : 0 < m) (h63 : n + m ≤ maxLen) (hby : (n + m) * i.bytes ≤ 140737488355328) :
    ∃ cap, n + m ≤ cap ∧ cap ≤ maxLen ∧ (Builtin.append_ #[t, t'] ty #[.slice ad n n, y]).run P w =
      .ok (.slice (some ⟨w.heap.size, 0, none⟩) (n + m) cap) (w.drew.alloc (.cells (olds.toArray ++ news.toArray ++ Builtin.zeroCells z.cells (cap - (n + m))) e)) := by
  have hsmall : n + m ≤ 9223372036854775807 := by simp only [maxLen] at h63; omega
  refine ⟨grownCap w (n + m) n e, grownCap_ge w (n + m) n e, grownCap_le_maxLen w (n + m) n e h63, ?_⟩
  rcases hcase with ⟨rfl, rfl⟩ | ⟨b, rfl, holds⟩
  · have : olds = [] := List.eq_nil_of_length_eq_zero (by simpa using hlo)
    subst this
    exact hs.grow t ty none 0 0 [] ht (run_firstCells_none w.drew i.size 0 0 0) hm (by omega) (by omega) hby
  · exact hs.grow t ty (some b) n n olds ht (run_firstCells_some w.drew i.size n b n n olds hlo holds) hm (by omega) (by omega) hby
theorem byteCells_rep (K : Kd) (b : ByteArray) : ∀ (i : Nat) (x : AV) (u : Value), (aOfBytes b.data.toList)[i]? = some x → (byteCells b)[i]? = some u → KRep K x u := by
  intro i x u hx hu
  simp only [aOfBytes, byteCells, List.getElem?_map, Option.map_eq_some_iff] at hx hu
  obtain ⟨c, hc, rfl⟩ := hx
  obtain ⟨c', hc', rfl⟩ := hu
  rw [hc] at hc'; injection hc' with hc'; subst hc'
  exact .int _ _
theorem aSrc_sound (h : Real P w0 K0 G us s a w) {e t t' : TypeId} {i : TypeInfo} {z : Value} (hok : (tiOf P e).ok = true) (hpos : 0 < i.size) (ht : P.underlying t = some (.slice e)) (hi : P.info? e = some i) (hz : i.zero = some z) (hzs : z.cells.size = i.size)
    (hz1 : ∀ c ∈ z.cells, c.oneCell' = true) (hsz : (tiOf P e).sz = i.size) (hbe : (tiOf P e).by_ = i.bytes) (hzr : (tiOf P e).zr = z.cells.toList.map ofVal) {y : SV} {v : Value} (hy : SRep G y v) {m : Nat} {news : List AV} (hc : aSrc P s e t t' y = some (m, news)) :
    ∃ vs : List Value, ASrc P e t' i z v m vs w ∧ vs.length = news.length ∧ (∀ q ∈ vs, q.oneCell' = true) ∧ ∀ (j : Nat) (x : AV) (u : Value), news[j]? = some x → vs[j]? = some u → KRep G.K x u := by
  unfold aSrc at hc
  split at hc
  · rename_i e1; subst e1
    rw [hsz] at hc
    obtain ⟨ad, cap, rfl, hl, hmem⟩ := h.cont hc hy
    have hcase : ∃ vs : List Value, Src P i.size t (.slice ad m cap) m vs w ∧ vs.length = news.length ∧ (∀ q ∈ vs, q.oneCell' = true) ∧ ∀ (j : Nat) (x : AV) (u : Value), news[j]? = some x → vs[j]? = some u → KRep G.K x u := by
      rcases hmem with hnil | ⟨b, o, rfl, hcr⟩
      · subst hnil
        have hm : m = 0 := by
          rcases Nat.mul_eq_zero.1 hl.symm with q | q <;> omega
        subst hm
        refine ⟨[], ?_, rfl, (fun q hq => by cases hq), fun j x u hx => by simp at hx⟩
        cases ad with
        | none => exact Src.ofNil w ht cap
        | some p => exact Src.ofSlice w ht p 0 cap [] (by simp) (fun j u hu => by simp at hu) (fun q hq => by cases hq)
      · obtain ⟨vs, k1, k2, k3, k4⟩ := hcr.vals
        exact ⟨vs, Src.ofSlice w ht _ m cap vs (by rw [k1, hl]) k2 k3, k1, k3, k4⟩
    obtain ⟨vs, q1, q2, q3, q4⟩ := hcase
    exact ⟨vs, ASrc.ofSrc hi hz q1, q2, q3, q4⟩
  · split at hc
    · rename_i k k2 n hun
      split at hc
      · rename_i hn
        injection hc with hc
        injection hc with e1 e2
        subst e1 e2
        cases hy with | k _ _ hk => cases hk with | int =>
        have hn2 : ((n.toNat : Nat) : Int) = n := by omega
        rw [hbe] at hn
        have hrep := zeros_rep G.K n.toNat i.size z.cells hzs hpos hz1
        have hone : ∀ u ∈ (Builtin.zeroCells z.cells n.toNat).toList, u.oneCell' = true := fun u hu => by
          obtain ⟨j, hj⟩ := List.getElem?_of_mem hu
          rw [Array.getElem?_toList] at hj
          exact hrep.2.1 j u (by rw [← hzs]; exact hj)
        have hu2 : P.underlying t' = some (.int k) := tu_int hun
        have hsrc := ASrc.ofZeros (w := w) hi hz hzs hone hu2 hpos (m := n.toNat) (by omega) hn.2.2 k2
        rw [hn2] at hsrc
        refine ⟨_, hsrc, ?_, hone, fun j x u hx hu => ?_⟩
        · rw [hsrc.len, hsz]; simp [aZeros]
        · rw [Array.getElem?_toList] at hu
          rw [hsz, hzr] at hx
          exact hrep.2.2 j x u hx (by rw [← hzs]; exact hu)
      · cases hc
    · rename_i b hun
      split at hc
      · rename_i h1
        injection hc with hc
        injection hc with e1 e2
        subst e1 e2
        cases hy with | k _ _ hk => cases hk with | str =>
        rw [hsz] at h1
        have hu2 : P.underlying t' = some .string := tu_str hun
        have hsrc := Src.ofString w hu2 b
        rw [← h1] at hsrc
        refine ⟨_, ASrc.ofSrc hi hz hsrc, by simp [byteCells, aOfBytes], hsrc.one, byteCells_rep _ b⟩
      · cases hc
    · cases hc
theorem CellsR.append {K : Kd} {xs ys : List AV} {us vs : List Value} (hx : xs.length = us.length) (h1 : ∀ (i : Nat) (x : AV) (v : Value), xs[i]? = some x → us[i]? = some v → KRep K x v) (h2 : ∀ (i : Nat) (x : AV) (v : Value), ys[i]? = some x → vs[i]? = some v → KRep K x v) :
    ∀ (i : Nat) (x : AV) (v : Value), (xs ++ ys)[i]? = some x → (us ++ vs)[i]? = some v → KRep K x v := by
  intro i x v hx' hv
  rcases Nat.lt_or_ge i xs.length with q | q
  · rw [List.getElem?_append_left q] at hx'
    rw [List.getElem?_append_left (by omega)] at hv
    exact h1 i x v hx' hv
  · rw [List.getElem?_append_right q] at hx'
    rw [List.getElem?_append_right (by omega), ← hx] at hv
    exact h2 _ x v hx' hv
theorem aApp_sound (h : Real P w0 K0 G us s a w) {d γ : Nat} (hu : ¬ us γ) (hd : d < a.tmps.size) {t t' ty : TypeId} {x y : SV} {u v : Value} (hx : SRep G x u) (hy : SRep G y v) {s' : St} (ha : aApp P γ s d t t' x y = some s') :
    ∃ r w', (Builtin.append_ #[t, t'] ty #[u, v]).run P w = .ok r w' ∧ ∃ G', Real P w0 K0 G' (fun g => us g ∨ g = γ) s' (a.put (some d) r) w' := by
  unfold aApp at ha
  simp only [Option.bind_eq_some_iff] at ha
  obtain ⟨e, he, ⟨m, news⟩, hc, ha⟩ := ha
  have ht := tu_sl (elemOf?_eq he)
  split at ha
  · rename_i hok
    obtain ⟨hok, hpos⟩ := hok
    obtain ⟨i, z, d', hi, hz, hzs, hz1, hsz, hbe, hzr, _⟩ := ti_ok hok
    rw [hsz] at hpos
    obtain ⟨vs, src, k1, k3, k4⟩ := aSrc_sound h hok hpos ht hi hz hzs hz1 hsz hbe hzr hy hc
    have hl : news.length = m * i.size := by rw [← k1, src.len]
    simp only at ha
    split at ha
    · rename_i n cs
      split at ha
      · rename_i h0
        injection ha with ha; subst ha
        cases hx with
        | k _ _ hk =>
          obtain ⟨ad', cap', rfl, hle, _, hfull, hsrc⟩ := hk.cr_sl h.kok
          exact ⟨_, w, src.nil h0 t ty ad' n cap' ht hle, G, (h.us_mono (fun g hg => .inl hg)).put (some d) _ _ (.k _ _ hk) (fun t ht => by injection ht with ht; omega)⟩
      · rename_i h0
        split at ha
        · rename_i hcc
          obtain ⟨hcl, hby, hlen⟩ := hcc
          have hm : 0 < m := by omega
          injection ha with ha; subst ha
          rw [hsz] at hcl
          rw [hbe] at hby
          cases hx with
          | k _ _ hk =>
            obtain ⟨ad', cap', rfl, _, _, hfull, hsrc⟩ := hk.cr_sl h.kok
            obtain rfl : cap' = n := hfull rfl
            have olds : ∃ us' : List Value, us'.length = cs.length ∧ ((ad' = none ∧ cap' = 0) ∨ ∃ b, ad' = some b ∧ ∀ (j : Nat) (q : Value), us'[j]? = some q → w.cell? (b.add j) = some q) ∧ (∀ q ∈ us', q.oneCell' = true) ∧ ∀ (i : Nat) (x : AV) (q : Value), cs[i]? = some x → us'[i]? = some q → KRep G.K x q := by
              rcases hsrc with ⟨h0, hc0⟩ | ⟨b', o', e', hcr', _⟩
              · refine ⟨[], (by rw [hc0]; rfl), ?_, (fun q hq => by cases hq), (fun i x q hx hq => by simp at hq)⟩
                cases ad' with
                | none => exact .inl ⟨rfl, h0⟩
                | some p => exact .inr ⟨p, rfl, (fun j q hq => by simp at hq)⟩
              · obtain ⟨us', q1, q2, q3, q4⟩ := hcr'.vals
                exact ⟨us', q1, .inr ⟨_, e', q2⟩, q3, q4⟩
            obtain ⟨us', q1, q2, q3, q4⟩ := olds
            obtain ⟨cap2, c1, c2, hrun⟩ := run_app_full (P := P) (w := w) (ty := ty) ht ad' cap' us' (by rw [q1, hcl]) q2 src hm (by unfold maxLen; omega) hby
            refine ⟨_, _, hrun, ?_⟩
            have hall : ∀ q ∈ us' ++ vs, q.oneCell' = true := fun q hq => by
              rcases List.mem_append.1 hq with hq | hq
              · exact q3 q hq
              · exact k3 q hq
            have hrel := CellsR.append (K := G.K) q1.symm q4 k4
            have hlen2 : (us' ++ vs).length = (cap' + m) * i.size := by rw [List.length_append, q1, hcl, k1, hl, Nat.add_mul]
            have hzc : (Builtin.zeroCells z.cells (cap2 - (cap' + m))).size = (cap2 - (cap' + m)) * i.size := by rw [size_zeroCells, hzs]
            split
            · -- an object
              have harr : ∀ j, j < (us' ++ vs).length → (us'.toArray ++ vs.toArray ++ Builtin.zeroCells z.cells (cap2 - (cap' + m)))[j]? = (us' ++ vs)[j]? := fun j hj => by
                rw [← Array.getElem?_toList]
                simp only [Array.toList_append]
                rw [List.getElem?_append_left (by simpa using hj)]
              obtain ⟨G', g1, g2, g3, g4⟩ := h.drew.newBig d γ hu (cs ++ news) (us'.toArray ++ vs.toArray ++ Builtin.zeroCells z.cells (cap2 - (cap' + m))) e (by simp; omega) (fun j q hjl hq => by
                have hj : j < (us' ++ vs).length := by simp at hjl ⊢; omega
                rw [harr j hj] at hq
                exact hall q (List.mem_of_getElem? hq)) (fun j x q hx hq => by
                have hj : j < (us' ++ vs).length := by have := getq_lt hx; simp at this ⊢; omega
                rw [harr j hj] at hq
                exact hrel j x q hx hq)
              exact ⟨G', g4.put (some d) _ _ (.os _ _ _ _ _ _ _ _ g3 (Nat.le_refl _) c1 c2) (fun t ht => by injection ht with ht; omega)⟩
            · have hown : (w.drew.alloc (.cells (us'.toArray ++ vs.toArray ++ Builtin.zeroCells z.cells (cap2 - (cap' + m))) e)).ownsRow 0 e i.size (.slice (some ⟨w.heap.size, 0, none⟩) (cap' + m) cap2) (cap' + m) (us' ++ vs) := by
                refine ⟨hlen2, .inr ⟨w.heap.size, cap2, _, rfl, Nat.zero_le _, heap_alloc_new w.drew _, c1, c2, ?_, ?_⟩⟩
                · simp only [Array.size_append, List.size_toArray, hzc]
                  rw [← List.length_append, hlen2, ← Nat.add_mul]; congr 1; omega
                · simp only [Array.toList_append]
                  rw [← hlen2]; exact List.take_left
              obtain ⟨G', g1, g2, g3⟩ := h.newRow d γ hu e i.size (cap' + m) _ (us' ++ vs) (cs ++ news) hsz.symm hown (fun b hb => by
                  have e : w.heap.size = b := by simpa [Value.ownBlock] using hb
                  exact Base.new h.below (by omega)) none ⟨rfl, rfl, rfl, by simp, fun k hk _ => Below.heap_alloc w.drew _ k hk⟩ (fun b hb => by cases hb) (fun b o hb => by cases hb) (fun b hb => by cases hb) (fun b hb => by cases hb)
                (fun b hb => .inr (by
                  obtain rfl : w.heap.size = b := by simpa [Value.ownBlock] using hb
                  exact ⟨h.kok.hw0 (Nat.le_refl _), fun d' g' e' _ he' hc => by have := h.hw_live he' hc; omega⟩)) (fun b hb => by cases hb) (fun b hb => by cases hb) hall (by simp [q1, k1]) hrel
              exact ⟨G', g3.put (some d) _ _ g2 (fun t ht => by injection ht with ht; omega)⟩
        · cases ha
    · rename_i d0 g0 n e' cs
      split at ha
      · rename_i g1 htb
        split at ha
        · rename_i hcc
          obtain ⟨rfl, rfl, hby, hlen, hmd⟩ := hcc
          injection ha with ha; subst ha
          rw [hbe] at hby
          cases hx with
          | ow d0 g0 n e' cells r hr hre hrn hrl hrx hk =>
            obtain ⟨r', hr', hown, hblk, hone⟩ := h.ents _ _ _ htb
            rw [hr] at hr'
            injection hr' with hr'
            subst hr' hre hrn
            have hsize : r.size = i.size := by rw [h.rows _ _ _ hr, hsz]
            rw [hsize] at hown hblk
            have h1 : Real P w0 K0 G us (s.set d0 none) a w := h.set d0 none (fun g e hx => by cases hx)
            have hdead : ∀ b, r.v.ownBlock = some b → ∀ d' g' e', (s.set d0 none).tb d' = some (g', e') → entBlk G d' g' e' ≠ some b := fun b hb d' g' e' he' hc => by
              by_cases hd' : d' = d0
              · subst hd'; simp [St.set, upd_same] at he'
              · simp only [St.set] at he'
                rw [upd_ne _ _ _ _ hd'] at he'
                exact hd' (h.dist d' g' e' d0 _ _ b he' htb hc (by simp [entBlk, hr, hb]))
            have fin : ∀ (v' : Value) (w' : World) (vs : List Value) (ncs : List AV), w'.ownsRow 0 r.e i.size v' (r.n + m) (r.xs ++ vs) → ((v'.ownBlock = r.v.ownBlock ∧ w.grownBy w' r.v.ownBlock) ∨ (v'.ownBlock = some w.heap.size ∧ w.grownBy w' none)) →
                (∀ q ∈ vs, q.oneCell' = true) → vs.length = ncs.length → (∀ (i : Nat) (x : AV) (q : Value), ncs[i]? = some x → vs[i]? = some q → KRep G.K x q) →
                ∃ G', Real P w0 K0 G' (fun g => us g ∨ g = γ) ((s.set d0 none).mkT d γ (.ow d γ (r.n + m) r.e (cs ++ ncs))) (a.put (some d) v') w' := by
              intro v' w' vs ncs hown' hcase k3 k1 k4
              have hall : ∀ q ∈ r.xs ++ vs, q.oneCell' = true := fun q hq => by
                rcases List.mem_append.1 hq with hq | hq
                · exact hone q hq
                · exact k3 q hq
              have hrel := CellsR.append (K := G.K) hrl hrx k4
              have hlen3 : (cs ++ ncs).length = (r.xs ++ vs).length := by simp [hrl, k1]
              rcases hcase with ⟨hb, hgr⟩ | ⟨hb, hgr⟩
              · obtain ⟨G', g1, g2, g3⟩ := h1.newRow d γ hu r.e i.size (r.n + m) v' (r.xs ++ vs) (cs ++ ncs) hsz.symm hown' (fun b hb' => (hblk b (by rw [← hb]; exact hb')).1) r.v.ownBlock hgr (fun b hb' => (hblk b hb').1) (fun b o hb' ho => by
                    rcases hown.2 with ⟨e1, _⟩ | ⟨g, cap', cur, e1, _, e3, _⟩
                    · rw [e1] at hb'; cases hb'
                    · rw [e1] at hb'; injection hb' with hb'; simp only at hb'; subst hb'; rw [e3] at ho; injection ho with ho; subst ho; rfl) (fun b hb' d' g' e' _ he' => hdead b hb' d' g' e' he')
                  (fun b hb' g' e' he' => hdead b hb' d g' e' he') (fun b hb' => .inl (by rw [← hb]; exact hb')) (fun b _ hne => absurd hb hne) (fun b hb' _ => by
                    obtain ⟨_, q1, q2⟩ := hblk b hb'
                    have hxl := hown.1
                    refine ⟨by rw [q1]; exact Nat.mul_le_mul_right _ (by omega), fun j hj => ?_⟩
                    rw [q1] at hj
                    have hj2 : j < r.xs.length := by omega
                    rw [q2 j r.xs[j] (by simp [hj2]), List.getD_eq_getElem?_getD, List.getElem?_append_left hj2]
                    simp [hj2]) hall hlen3 hrel
                exact ⟨G', g3.put (some d) _ _ g2 (fun t ht => by injection ht with ht; omega)⟩
              · obtain ⟨G', g1, g2, g3⟩ := h1.newRow d γ hu r.e i.size (r.n + m) v' (r.xs ++ vs) (cs ++ ncs) hsz.symm hown' (fun b hb' => by
                  rw [hb] at hb'; injection hb' with hb'
                  exact Base.new h.below (by omega)) none hgr (fun b hb => by cases hb) (fun b o hb => by cases hb) (fun b hb => by cases hb) (fun b hb => by cases hb)
                  (fun b hb' => .inr (by
                    rw [hb] at hb'; injection hb' with hb'; subst hb'
                    exact ⟨h.kok.hw0 (Nat.le_refl _), fun d' g' e' _ he' hc => by have := h1.hw_live he' hc; omega⟩)) (fun b hb => by cases hb) (fun b hb => by cases hb) hall hlen3 hrel
                exact ⟨G', g3.put (some d) _ _ g2 (fun t ht => by injection ht with ht; omega)⟩
            obtain ⟨v', w', hrun, hown', hcase⟩ := run_app (P := P) w 0 t ty r.e i z ht hi hz hzs hpos r.v r.n r.xs hown src (by unfold maxLen; omega) hby (Nat.zero_le _)
            exact ⟨v', w', hrun, fin v' w' vs news hown' hcase k3 k1 k4⟩
        · cases ha
      · cases ha
    · cases ha
  · cases ha
end

end Go.Proofs.Ytikganlbnhapcaa
