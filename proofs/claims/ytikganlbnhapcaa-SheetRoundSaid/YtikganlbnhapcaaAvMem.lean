import Derived.Test.YtikganlbnhapcaaAv
import Derived.Maps.AppendAt
import Derived.Deep.AppendSrc
namespace Go.Proofs.Ytikganlbnhapcaa
open Go.RowKit
set_option linter.unusedVariables false
set_option linter.unusedSimpArgs false

theorem cell_lt {w : World} {p : Addr} {x : Value} (h : w.cell? p = some x) : p.block < w.heap.size := by
  unfold World.cell? at h
  by_cases hb : p.block < w.heap.size
  · exact hb
  · simp [Array.getElem?_eq_none (by omega : w.heap.size ≤ p.block)] at h
theorem KOk.lt {K : Kd} {w : World} (h : KOk K w) {b i : Nat} (hi : i < K.hw b) : b < w.heap.size := by
  obtain ⟨o, h1, _⟩ := (h b i hi).1
  exact (Array.getElem?_eq_some_iff.1 h1).1
theorem KOk.hw0 {K : Kd} {w : World} (h : KOk K w) {b : Nat} (hb : w.heap.size ≤ b) : K.hw b = 0 := by
  by_cases h0 : K.hw b = 0
  · exact h0
  · have := h.lt (b := b) (i := 0) (by omega); omega
/-- the old blocks are as they were: what never turns reads on -/
theorem KOk.below {K : Kd} {w w' : World} (h : KOk K w) (hb : ∀ b, K.hw b ≠ 0 → w'.heap[b]? = w.heap[b]?) : KOk K w' := fun b i hi => by
  have := h b i hi
  rw [World.cell?_of_block (a := ⟨b, i, none⟩) (hb b (by omega)), hb b (by omega)]; exact this
def Gh.addAt (G : Gh) (d g : Nat) (x : Nat × Nat) : Gh := ⟨G.K, fun d' g' => if d' = d ∧ g' = g then some x else G.at_ d' g', G.row, G.oth⟩
def Kd.addRw (K : Kd) (δ d g : Nat) (r : Row) (h : δ < K.dp) : Kd := ⟨K.val, K.hw, fun δ' d' g' => if δ' = δ ∧ d' = d ∧ g' = g then some r else K.rw δ' d' g', K.dp, fun δ' d' g' h' => by rw [if_neg (fun e => by omega)]; exact K.fr δ' d' g' h'⟩
theorem Kd.addRw_le {K : Kd} {δ d g : Nat} {r : Row} {h : δ < K.dp} (hn : K.rw δ d g = none) : K.le (K.addRw δ d g r h) := by
  refine ⟨fun _ => Nat.le_refl _, fun _ _ _ => rfl, fun δ' d' g' r' e => ?_, Nat.le_refl _⟩
  show (if δ' = δ ∧ d' = d ∧ g' = g then some r else K.rw δ' d' g') = some r'
  split
  · rename_i q; obtain ⟨rfl, rfl, rfl⟩ := q; rw [hn] at e; cases e
  · exact e
def Gh.addRow (G : Gh) (δ d g : Nat) (r : Row) (h : δ < G.K.dp) : Gh := ⟨G.K.addRw δ d g r h, G.at_, fun d' g' => if d' = d ∧ g' = g then some r else G.row d' g', G.oth⟩
def Gh.withK (G : Gh) (K : Kd) : Gh := ⟨K, G.at_, G.row, G.oth⟩
theorem Gh.addAt_le {G : Gh} {d g : Nat} {x : Nat × Nat} (h : G.at_ d g = none) : G.le (G.addAt d g x) := by
  refine ⟨.refl _, fun d' g' y hy => ?_, fun _ _ _ h => h, rfl⟩
  show (if d' = d ∧ g' = g then some x else G.at_ d' g') = some y
  split
  · rename_i e; rw [e.1, e.2, h] at hy; cases hy
  · exact hy
theorem Gh.addRow_le {G : Gh} {δ d g : Nat} {r : Row} {hδ : δ < G.K.dp} (h : G.row d g = none) (hk : G.K.rw δ d g = none) : G.le (G.addRow δ d g r hδ) := by
  refine ⟨Kd.addRw_le (h := hδ) hk, fun _ _ _ h => h, fun d' g' y hy => ?_, rfl⟩
  show (if d' = d ∧ g' = g then some r else G.row d' g') = some y
  split
  · rename_i e; rw [e.1, e.2, h] at hy; cases hy
  · exact hy
theorem Gh.withK_le {G : Gh} {K : Kd} (h : G.K.le K) : G.le (G.withK K) := ⟨h, fun _ _ _ h => h, fun _ _ _ h => h, rfl⟩
/-- a block's first cells are as they will be for ever -/
def Kd.ext (K : Kd) (b n : Nat) (xs : List Value) : Kd := ⟨fun b' i => if b' = b then xs.getD i undef else K.val b' i, fun b' => if b' = b then n else K.hw b', K.rw, K.dp, K.fr⟩
theorem Kd.ext_le {K : Kd} {b n : Nat} {xs : List Value} (hn : K.hw b ≤ n) (hv : ∀ i, i < K.hw b → xs.getD i undef = K.val b i) : K.le (K.ext b n xs) := by
  refine ⟨fun b' => ?_, fun b' i hi => ?_, fun _ _ _ _ h => h, Nat.le_refl _⟩
  · show K.hw b' ≤ if b' = b then n else K.hw b'
    split
    · rename_i e; rw [e]; exact hn
    · exact Nat.le_refl _
  · show (if b' = b then xs.getD i undef else K.val b' i) = K.val b' i
    split
    · rename_i e; rw [e]; rw [e] at hi; exact hv i hi
    · rfl
theorem KOk.ext {K : Kd} {w : World} {b n : Nat} {xs : List Value} (h : KOk K w) (hn : n ≤ xs.length) (h1 : ∀ x ∈ xs, x.oneCell' = true) (hc : ∀ i, i < n → w.cell? ⟨b, i, none⟩ = some (xs.getD i undef)) : KOk (K.ext b n xs) w := by
  intro b' i hi
  by_cases e : b' = b
  · subst e
    have hi' : i < n := by simpa [Kd.ext] using hi
    have : (K.ext b' n xs).val b' i = xs.getD i undef := by simp [Kd.ext]
    rw [this]
    exact ⟨cells_of_cell (hc i hi'), fun _ => hc i hi'⟩
  · have hi' : i < K.hw b' := by simpa [Kd.ext, e] using hi
    have : (K.ext b n xs).val b' i = K.val b' i := by simp [Kd.ext, e]
    rw [this]; exact h b' i hi'

theorem St.set_set (s : St) (d : Nat) (x y : Option (Nat × Ent)) : (s.set d x).set d y = s.set d y := by
  show (⟨s.fr, upd (upd s.tb d x) d y, s.nx, s.md⟩ : St) = ⟨s.fr, upd s.tb d y, s.nx, s.md⟩
  congr 1
  funext t
  by_cases ht : t = d
  · subst ht; rw [upd_same, upd_same]
  · rw [upd_ne _ _ _ _ ht, upd_ne _ _ _ _ ht, upd_ne _ _ _ _ ht]

section
variable {P : Program} {w0 : Base} {w w' : World} {K0 : Anc} {G : Gh} {us : Nat → Prop} {s : St} {a : Act}
theorem Real.size (h : Real P w0 K0 G us s a w) : w0.w.heap.size ≤ w.heap.size := h.below.size
theorem Base.new {B : Base} {w : World} (h : B.Kp w) {b : Nat} (hb : w.heap.size ≤ b) : ¬ B.pr b := fun hc => by
  have := B.lt b hc; have := h.size; omega
theorem Real.hw_live (h : Real P w0 K0 G us s a w) {d g : Nat} {e : Ent} (he : s.tb d = some (g, e)) {b : Nat} (hb : entBlk G d g e = some b) : b < w.heap.size := ((h.ents d g e he).base hb).2

/-- a new block whose first cells are an object -/
theorem Real.newBig (h : Real P w0 K0 G us s a w) (d γ : Nat) (hu : ¬ us γ) (cells : List AV) (arr : Array Value) (ty : TypeId) (hl : cells.length ≤ arr.size) (h1 : ∀ (i : Nat) (v : Value), i < cells.length → arr[i]? = some v → v.oneCell' = true)
    (hr : ∀ (i : Nat) (x : AV) (v : Value), cells[i]? = some x → arr[i]? = some v → KRep G.K x v) :
    ∃ G', G.le G' ∧ G'.K = G.K ∧ G'.at_ d γ = some (w.heap.size, 0) ∧ Real P w0 K0 G' (fun g => us g ∨ g = γ) (s.set d (some (γ, .obj cells))) a (w.alloc (.cells arr ty)) := by
  have hat : (G.addAt d γ (w.heap.size, 0)).at_ d γ = some (w.heap.size, 0) := by simp [Gh.addAt]
  have hle := Gh.addAt_le (x := (w.heap.size, 0)) (h.fresh d γ hu).1
  have hgo := h.go (us' := fun g => us g ∨ g = γ) (h.below.alloc (.cells arr ty)) hle (h.kok.below fun b hb => Below.heap_alloc w _ b (by
      refine Decidable.byContradiction fun hc => hb (h.kok.hw0 (by omega)))) (fun g hg => .inl hg) (fun b o hb _ => (Below.heap_alloc w _ b (Array.getElem?_eq_some_iff.1 hb).1).trans hb) ⟨h.krw, fun _ _ _ _ => rfl⟩ (fun d' g' hn => by
      have := h.fresh d' g' (fun hc => hn (.inl hc))
      refine ⟨?_, this.2⟩
      show (if d' = d ∧ g' = γ then some (w.heap.size, 0) else G.at_ d' g') = none
      rw [if_neg (fun hc => hn (.inr hc.2))]; exact this.1) h.rows (fun d' g' b' o' hb' => by
      by_cases hq : d' = d ∧ g' = γ
      · obtain ⟨rfl, rfl⟩ := hq
        rw [hat] at hb'; injection hb' with hb'; injection hb' with q1 q2; exact q2.symm
      · refine h.offs d' g' b' o' ?_
        have hr2 : (if d' = d ∧ g' = γ then _ else G.at_ d' g') = some (b', o') := hb'
        rwa [if_neg hq] at hr2) (fun b _ => rfl) (fun d' g' e he b hb => ⟨Below.heap_alloc w _ b (h.hw_live he hb), rfl⟩)
  refine ⟨_, hle, rfl, hat, hgo.set d _ ?_⟩
  intro g e hx
  injection hx with hx
  injection hx with e1 e2
  subst e1 e2
  refine ⟨⟨w.heap.size, 0, arr, ty, hat, Base.new h.below (Nat.le_refl _), heap_alloc_new w _, h.kok.hw0 (Nat.le_refl _), by omega, fun i v hi hv => ?_, fun i x v hx hv => ?_⟩, ?_⟩
  · rw [Nat.zero_add] at hv; exact h1 i v hi hv
  · rw [Nat.zero_add] at hv; exact hr i x v hx hv
  · intro b hb d' g' e' hd he' hc
    simp [entBlk, hat] at hb
    rw [entBlk_le hle (h.ents _ _ _ he')] at hc
    have := h.hw_live he' hc
    omega
/-- a new block that is an object -/
theorem Real.newObj (h : Real P w0 K0 G us s a w) (d γ : Nat) (hu : ¬ us γ) (cells : List AV) (arr : Array Value) (ty : TypeId) (hl : arr.size = cells.length) (h1 : ∀ (i : Nat) (v : Value), arr[i]? = some v → v.oneCell' = true)
    (hr : ∀ (i : Nat) (x : AV) (v : Value), cells[i]? = some x → arr[i]? = some v → KRep G.K x v) :
    ∃ G', G.le G' ∧ G'.K = G.K ∧ G'.at_ d γ = some (w.heap.size, 0) ∧ Real P w0 K0 G' (fun g => us g ∨ g = γ) (s.set d (some (γ, .obj cells))) a (w.alloc (.cells arr ty)) :=
  h.newBig d γ hu cells arr ty (by omega) (fun i v _ hv => h1 i v hv) hr
/-- an object's cells turn -/
theorem Real.turnObj (h : Real P w0 K0 G us s a w) {d g : Nat} {cells : List AV} (he : s.tb d = some (g, .obj cells)) (cells' : List AV) (b o : Nat) (arr arr' : Array Value) (ty : TypeId) (hat : G.at_ d g = some (b, o)) (hg : w.heap[b]? = some (.cells arr ty (0, 0)))
    (hs : arr'.size = arr.size) (hl : cells'.length = cells.length) (h1 : ∀ (i : Nat) (v : Value), i < cells'.length → arr'[o + i]? = some v → v.oneCell' = true)
    (hr : ∀ (i : Nat) (x : AV) (v : Value), cells'[i]? = some x → arr'[o + i]? = some v → KRep G.K x v) :
    Real P w0 K0 G us (s.set d (some (g, .obj cells'))) a (w.setRow b arr') := by
  obtain ⟨b', o', arr0, ty0, k1, k2, k3, k4, k5, k6, k7⟩ := h.ents d g _ he
  rw [hat] at k1
  injection k1 with k1
  injection k1 with e1 e2
  subst e1 e2
  rw [hg] at k3
  injection k3 with k3
  injection k3 with e1 e2 e3
  subst e1 e2
  have hother : ∀ k, k ≠ b → (w.setRow b arr').heap[k]? = w.heap[k]? := fun k hk => setRow_other w b k _ hk
  have hbelow : w0.Kp (w.setRow b arr') :=
    ⟨h.below.os, h.below.tape, h.below.output, by have := h.below.size; simpa [World.setRow] using this, fun k hk => (hother k (fun e => k2 (e ▸ hk))).trans (h.below.block k hk)⟩
  have hk : KOk G.K (w.setRow b arr') := h.kok.below fun b' hb' => hother b' fun e => hb' (e ▸ k4)
  refine ⟨hbelow, hk, h.slots, ?_, ?_, h.fresh, h.defers, h.rows, h.offs, h.kle, h.kold, fun bb o ho => ⟨(hother bb (fun e => by have := (h.oth bb o ho); rw [e, hg] at this; obtain ⟨q1, q2⟩ := this; injection q1 with q1; subst q1; cases q2)).trans (h.oth bb o ho).1, (h.oth bb o ho).2⟩, h.krw, h.dpl, h.dp0, h.kro, h.gle⟩
  · intro d' g' e' he'
    by_cases hd : d' = d
    · subst hd
      simp only [St.set, upd_same] at he'
      injection he' with he'
      injection he' with e1 e2
      subst e1 e2
      exact ⟨b, o, arr', ty, hat, k2, setRow_heap w b arr arr' ty _ hg, k4, by omega, h1, hr⟩
    · simp only [St.set] at he'
      rw [upd_ne _ _ _ _ hd] at he'
      refine (h.ents d' g' e' he').carry (.refl G) fun b' hb' => ⟨hother b' fun e => hd ?_, rfl⟩
      exact h.dist d' g' e' d g _ b he' he (e ▸ hb') (by simp [entBlk, hat])
  · intro d1 g1 e1 d2 g2 e2 bb h1' h2' c1 c2
    have conv : ∀ d3 g3 e3, (s.set d (some (g, .obj cells'))).tb d3 = some (g3, e3) → entBlk G d3 g3 e3 = some bb → ∃ e4, s.tb d3 = some (g3, e4) ∧ entBlk G d3 g3 e4 = some bb := by
      intro d3 g3 e3 q1 q2
      by_cases hd : d3 = d
      · subst hd
        simp only [St.set, upd_same] at q1
        injection q1 with q1
        injection q1 with f1 f2
        subst f1 f2
        exact ⟨_, he, q2⟩
      · simp only [St.set] at q1
        rw [upd_ne _ _ _ _ hd] at q1
        exact ⟨e3, q1, q2⟩
    obtain ⟨e3, q1, q2⟩ := conv _ _ _ h1' c1
    obtain ⟨e4, q3, q4⟩ := conv _ _ _ h2' c2
    exact h.dist d1 g1 e3 d2 g2 e4 bb q1 q3 q2 q4
/-- a growing slice of one's own: made, or grown out of nothing, or out of an elder one (whose right to grow is gone with it) -/
theorem Real.newRow (h : Real P w0 K0 G us s a w) (d γ : Nat) (hu : ¬ us γ) (e size n : Nat) (v' : Value) (xs : List Value) (cells : List AV) (hsz : size = (tiOf P e).sz) (hown : w'.ownsRow 0 e size v' n xs) (hnp : ∀ b, v'.ownBlock = some b → ¬ w0.pr b) (row : Option Nat) (hgr : w.grownBy w' row)
    (hrow : ∀ b, row = some b → ¬ w0.pr b) (hrc : ∀ (b : Nat) (o : Obj), row = some b → w.heap[b]? = some o → o.isCells = true) (hdead : ∀ b, row = some b → ∀ d' g' e', d' ≠ d → s.tb d' = some (g', e') → entBlk G d' g' e' ≠ some b)
    (hdead2 : ∀ b, row = some b → ∀ g' e', s.tb d = some (g', e') → entBlk G d g' e' ≠ some b)
    (hv : ∀ b, v'.ownBlock = some b → row = some b ∨ (G.K.hw b = 0 ∧ ∀ d' g' e', d' ≠ d → s.tb d' = some (g', e') → entBlk G d' g' e' ≠ some b)) (hpre : ∀ b, row = some b → v'.ownBlock ≠ row → G.K.hw b = 0 ∨ w'.heap[b]? = w.heap[b]?)
    (hpre2 : ∀ b, row = some b → v'.ownBlock = row → G.K.hw b ≤ n * size ∧ ∀ i, i < G.K.hw b → xs.getD i undef = G.K.val b i)
    (h1 : ∀ x ∈ xs, x.oneCell' = true) (hl : cells.length = xs.length) (hr : ∀ (i : Nat) (x : AV) (v : Value), cells[i]? = some x → xs[i]? = some v → KRep G.K x v) :
    ∃ G', G.le G' ∧ SRep G' (.ow d γ n e cells) v' ∧ Real P w0 K0 G' (fun g => us g ∨ g = γ) (s.set d (some (γ, .tag))) a w' := by
  have hxl := hown.1
  have hbel : w0.Kp w' := h.below.grown hgr (fun k hk => hrow k hk)
  have hkeep : ∀ b, b < w.heap.size → some b ≠ row → w'.heap[b]? = w.heap[b]? := hgr.block
  rcases hown.2 with ⟨rfl, rfl⟩ | ⟨g, cap, cur, rfl, hbg, hg, hnc, hcm, hcs, htake⟩
  · -- the nil slice
    have hx0 : xs = [] := List.eq_nil_of_length_eq_zero (by simpa using hxl)
    subst hx0
    have hc0 : cells = [] := List.eq_nil_of_length_eq_zero (by simpa using hl)
    subst hc0
    have hkn : G.K.rw s.md.dp d γ = none := (h.krw d γ).trans (h.fresh d γ hu).2
    have hle := Gh.addRow_le (hδ := h.dpl) (r := ⟨e, size, .slice none 0 0, 0, []⟩) (h.fresh d γ hu).2 hkn
    have hk : KOk G.K w' := h.kok.below fun b hb => by
      have hlt : b < w.heap.size := Decidable.byContradiction fun hc => hb (h.kok.hw0 (by omega))
      by_cases er : some b = row
      · rcases hpre b er.symm (by rw [← er]; simp [Value.ownBlock]) with q | q
        · exact absurd q hb
        · exact q
      · exact hkeep b hlt er
    have hrw : (G.addRow s.md.dp d γ ⟨e, size, .slice none 0 0, 0, []⟩ h.dpl).row d γ = some ⟨e, size, .slice none 0 0, 0, []⟩ := by simp [Gh.addRow]
    have hlive : ∀ d' g' e', d' ≠ d → s.tb d' = some (g', e') → ∀ b, entBlk G d' g' e' = some b → w'.heap[b]? = w.heap[b]? ∧ (G.addRow s.md.dp d γ ⟨e, size, .slice none 0 0, 0, []⟩ h.dpl).K.hw b = G.K.hw b :=
      fun d' g' e' hd he' b hb => ⟨hkeep b (h.hw_live he' hb) fun er => hdead b er.symm d' g' e' hd he' hb, rfl⟩
    refine ⟨_, hle, .ow d γ 0 e [] ⟨e, size, .slice none 0 0, 0, []⟩ hrw rfl rfl rfl (fun i x v hx => by simp at hx) (.sl0 _ _ _ (Nat.zero_le _) (fun hc => by cases hc)), ?_⟩
    have hno : Real P w0 K0 G us (s.set d none) a w := h.set d none (fun g e hx => by cases hx)
    have hgo := hno.go (us' := fun g => us g ∨ g = γ) hbel hle hk (fun g hg => .inl hg) (fun b o hb ho => (hgr.block b (Array.getElem?_eq_some_iff.1 hb).1 (fun e => by rw [hrc b o e.symm hb] at ho; cases ho)).trans hb) ⟨fun d' g' => by
        show (if s.md.dp = s.md.dp ∧ d' = d ∧ g' = γ then _ else G.K.rw s.md.dp d' g') = if d' = d ∧ g' = γ then _ else G.row d' g'
        by_cases q : d' = d ∧ g' = γ
        · rw [if_pos ⟨rfl, q⟩, if_pos q]
        · rw [if_neg (fun c => q c.2), if_neg q]; exact h.krw d' g', fun δ hδ d' g' => by
        show (if δ = s.md.dp ∧ d' = d ∧ g' = γ then _ else G.K.rw δ d' g') = G.K.rw δ d' g'
        rw [if_neg (fun c => by have := h.dp0; omega)]⟩ (fun d' g' hn => by
      have := h.fresh d' g' (fun hc => hn (.inl hc))
      refine ⟨this.1, ?_⟩
      show (if d' = d ∧ g' = γ then some _ else G.row d' g') = none
      rw [if_neg (fun hc => hn (.inr hc.2))]; exact this.2) (fun d' g' r' hr' => by
        by_cases hq : d' = d ∧ g' = γ
        · obtain ⟨rfl, rfl⟩ := hq
          rw [hrw] at hr'; injection hr' with hr'; subst hr'; exact hsz
        · refine h.rows d' g' r' ?_
          have hr2 : (if d' = d ∧ g' = γ then _ else G.row d' g') = some r' := hr'
          rwa [if_neg hq] at hr2) h.offs (fun b _ => rfl) (fun d' g' e' he' b hb => by
        by_cases hd : d' = d
        · subst hd; simp [St.set, upd_same] at he'
        · simp only [St.set] at he'
          rw [upd_ne _ _ _ _ hd] at he'
          exact hlive d' g' e' hd he' b hb)
    have hset := hgo.set d (some (γ, .tag)) (fun g e' hx => by
      injection hx with hx
      injection hx with e1 e2
      subst e1 e2
      refine ⟨⟨_, hrw, ⟨hxl, .inl ⟨rfl, rfl⟩⟩, fun b hb => by simp [Value.ownBlock] at hb, fun x hx => by cases hx⟩, fun b hb => by simp [entBlk, hrw, Value.ownBlock] at hb⟩)
    rwa [St.set_set] at hset
  · -- a block
    have hgb := hv g rfl
    have hcell : ∀ i, i < n * size → w'.cell? ⟨g, i, none⟩ = some (xs.getD i undef) := fun i hi => by
      rw [cell_of_row w' g i cur e _ hg]
      have hi2 : i < cur.size := by rw [hcs]; have := Nat.mul_le_mul_right size hnc; omega
      have hi3 : i < xs.length := by omega
      rw [← htake]
      simp [List.getD, hi, hi2]
    have hhw : G.K.hw g ≤ n * size ∧ ∀ i, i < G.K.hw g → xs.getD i undef = G.K.val g i := by
      rcases hgb with q | ⟨q, _⟩
      · exact hpre2 g q (by simp [Value.ownBlock, q])
      · rw [q]; exact ⟨Nat.zero_le _, fun i hi => by omega⟩
    have hKle : G.K.le (G.K.ext g (n * size) xs) := Kd.ext_le hhw.1 hhw.2
    -- all that stood reads on in the new world
    have hk0 : ∀ b, b ≠ g → G.K.hw b ≠ 0 → w'.heap[b]? = w.heap[b]? := fun b hbg' hb => by
      have hlt : b < w.heap.size := Decidable.byContradiction fun hc => hb (h.kok.hw0 (by omega))
      by_cases er : some b = row
      · rcases hgb with q | q
        · rw [q] at er; injection er with er; exact absurd er hbg'
        · rcases hpre b er.symm (by rw [← er]; simp [Value.ownBlock]; omega) with q2 | q2
          · exact absurd q2 hb
          · exact q2
      · exact hkeep b hlt er
    have hk : KOk (G.K.ext g (n * size) xs) w' := by
      intro b i hi
      by_cases eb : b = g
      · subst eb
        have hi' : i < n * size := by simpa [Kd.ext] using hi
        have hval : (G.K.ext b (n * size) xs).val b i = xs.getD i undef := by simp [Kd.ext]
        rw [hval]
        exact ⟨cells_of_cell (hcell i hi'), fun _ => hcell i hi'⟩
      · have hi' : i < G.K.hw b := by simpa [Kd.ext, eb] using hi
        have hval : (G.K.ext g (n * size) xs).val b i = G.K.val b i := by simp [Kd.ext, eb]
        rw [hval, World.cell?_of_block (a := ⟨b, i, none⟩) (hk0 b eb (by omega)), hk0 b eb (by omega)]
        exact h.kok b i hi'
    have hle1 := Gh.withK_le (G := G) hKle
    have hle2 := Gh.addRow_le (G := G.withK (G.K.ext g (n * size) xs)) (r := ⟨e, size, .slice (some ⟨g, 0, none⟩) n cap, n, xs⟩) (d := d) (g := γ) (δ := s.md.dp) (hδ := h.dpl) (h.fresh d γ hu).2 ((h.krw d γ).trans (h.fresh d γ hu).2)
    have hle := hle1.trans hle2
    have hrw : ((G.withK (G.K.ext g (n * size) xs)).addRow s.md.dp d γ ⟨e, size, .slice (some ⟨g, 0, none⟩) n cap, n, xs⟩ h.dpl).row d γ = some ⟨e, size, .slice (some ⟨g, 0, none⟩) n cap, n, xs⟩ := by simp [Gh.addRow]
    have hval : ∀ i x, xs[i]? = some x → (G.K.ext g (n * size) xs).val g i = x := fun i x hx => by simp [Kd.ext, List.getD, hx]
    have hsl : KRep (G.K.ext g (n * size) xs) (.sl false n cells) (.slice (some ⟨g, 0, none⟩) n cap) := by
      refine .sl _ n cells g 0 cap hnc hcm (fun hc => by cases hc) ?_ ?_
      · refine ⟨?_, fun i hi => ?_⟩
        · show 0 + cells.length ≤ if g = g then n * size else G.K.hw g
          rw [if_pos rfl]; omega
        · have hi' : i < xs.length := by omega
          rw [Nat.zero_add, hval i xs[i] (by simp [hi'])]; exact h1 _ (List.getElem_mem _)
      · intro i x hx
        have hi : i < xs.length := by have := getq_lt hx; omega
        rw [Nat.zero_add, hval i xs[i] (by simp [hi])]
        exact (hr i x xs[i] hx (by simp [hi])).mono hKle
    refine ⟨_, hle, .ow d γ n e cells ⟨e, size, .slice (some ⟨g, 0, none⟩) n cap, n, xs⟩ hrw rfl rfl hl (fun i x v hx hv => ((hr i x v hx hv).mono hKle).mono hle2.K) (hsl.mono hle2.K), ?_⟩
    have hno : Real P w0 K0 G us (s.set d none) a w := h.set d none (fun g e hx => by cases hx)
    have hnob : ∀ d' g' e', d' ≠ d → s.tb d' = some (g', e') → entBlk G d' g' e' ≠ some g := fun d' g' e' hd he' hc => by
      rcases hgb with q | ⟨_, q⟩
      · exact hdead g q d' g' e' hd he' hc
      · exact q d' g' e' hd he' hc
    have hgo := hno.go (us' := fun g => us g ∨ g = γ) hbel hle hk (fun g hg => .inl hg) (fun b o hb ho => (hgr.block b (Array.getElem?_eq_some_iff.1 hb).1 (fun e => by rw [hrc b o e.symm hb] at ho; cases ho)).trans hb) ⟨fun d' g' => by
        show (if s.md.dp = s.md.dp ∧ d' = d ∧ g' = γ then _ else G.K.rw s.md.dp d' g') = if d' = d ∧ g' = γ then _ else G.row d' g'
        by_cases q : d' = d ∧ g' = γ
        · rw [if_pos ⟨rfl, q⟩, if_pos q]
        · rw [if_neg (fun c => q c.2), if_neg q]; exact h.krw d' g', fun δ hδ d' g' => by
        show (if δ = s.md.dp ∧ d' = d ∧ g' = γ then _ else G.K.rw δ d' g') = G.K.rw δ d' g'
        rw [if_neg (fun c => by have := h.dp0; omega)]⟩ (fun d' g' hn => by
      have := h.fresh d' g' (fun hc => hn (.inl hc))
      refine ⟨this.1, ?_⟩
      show (if d' = d ∧ g' = γ then some _ else G.row d' g') = none
      rw [if_neg (fun hc => hn (.inr hc.2))]; exact this.2) (fun d' g' r' hr' => by
        by_cases hq : d' = d ∧ g' = γ
        · obtain ⟨rfl, rfl⟩ := hq
          rw [hrw] at hr'; injection hr' with hr'; subst hr'; exact hsz
        · refine h.rows d' g' r' ?_
          have hr2 : (if d' = d ∧ g' = γ then _ else G.row d' g') = some r' := hr'
          rwa [if_neg hq] at hr2) h.offs (fun b hb => by
          show (if b = g then n * size else G.K.hw b) = G.K.hw b
          rw [if_neg (fun e => hnp g rfl (by rw [← e]; exact hb))]) (fun d' g' e' he' b hb => by
        by_cases hd : d' = d
        · subst hd; simp [St.set, upd_same] at he'
        · simp only [St.set] at he'
          rw [upd_ne _ _ _ _ hd] at he'
          have hbne : b ≠ g := fun e => hnob d' g' e' hd he' (e ▸ hb)
          refine ⟨hkeep b (h.hw_live he' hb) fun er => hdead b er.symm d' g' e' hd he' hb, ?_⟩
          show (if b = g then n * size else G.K.hw b) = G.K.hw b
          rw [if_neg hbne])
    have hset := hgo.set d (some (γ, .tag)) (fun g1 e' hx => by
      injection hx with hx
      injection hx with e1 e2
      subst e1 e2
      refine ⟨⟨_, hrw, hown, fun b hb => ?_, h1⟩, fun b hb d' g' e' hd he' => ?_⟩
      · obtain rfl : g = b := by simpa [Value.ownBlock] using hb
        refine ⟨hnp g rfl, ?_, fun i x hx => hval i x hx⟩
        show (if g = g then n * size else G.K.hw g) = n * size
        rw [if_pos rfl]
      · obtain rfl : g = b := by simpa [entBlk, hrw, Value.ownBlock] using hb
        simp only [St.set] at he'
        rw [upd_ne _ _ _ _ hd] at he'
        rw [entBlk_le hle (h.ents _ _ _ he')]
        exact hnob d' g' e' hd he')
    rwa [St.set_set] at hset
end

/-- what is appended: a slice's cells, a text's bytes, so many zeros -/
structure ASrc (P : Program) (e t' : TypeId) (i : TypeInfo) (z : Value) (v : Value) (m : Nat) (vs : List Value) (w : World) : Prop where
  len : vs.length = m * i.size
  one : ∀ u ∈ vs, u.oneCell' = true
  nil : m = 0 → ∀ (t ty : TypeId) (base : Option Addr) (n c : Nat), P.underlying t = some (.slice e) → n ≤ c → (Builtin.append_ #[t, t'] ty #[.slice base n c, v]).run P w = .ok (.slice base n c) w
  room : ∀ (t ty : TypeId) (g n c : Nat) (cur : Array Value), P.underlying t = some (.slice e) → w.heap[g]? = some (.cells cur e (0, 0)) → n + m ≤ c → n * i.size + vs.length ≤ cur.size →
    (Builtin.append_ #[t, t'] ty #[.slice (some ⟨g, 0, none⟩) n c, v]).run P w = .ok (.slice (some ⟨g, 0, none⟩) (n + m) c) (w.setRow g (cur.toList.take (n * i.size) ++ vs ++ cur.toList.drop (n * i.size + vs.length)).toArray)
  grow : ∀ (t ty : TypeId) (base : Option Addr) (n c : Nat) (olds : List Value), P.underlying t = some (.slice e) → (Builtin.firstCells i.size n (.slice base n c)).run P w.drew = .ok olds.toArray w.drew → 0 < m → c < n + m → n + m ≤ 9223372036854775807 → (n + m) * i.bytes ≤ 140737488355328 →
    (Builtin.append_ #[t, t'] ty #[.slice base n c, v]).run P w = .ok (.slice (some ⟨w.heap.size, 0, none⟩) (n + m) (grownCap w (n + m) c e)) (w.drew.alloc (.cells (olds.toArray ++ vs.toArray ++ Builtin.zeroCells z.cells (grownCap w (n + m) c e - (n + m))) e))
theorem ASrc.ofSrc {P : Program} {w : World} {e t' : TypeId} {i : TypeInfo} {z v : Value} {m : Nat} {vs : List Value} (hi : P.info? e = some i) (hz : i.zero = some z) (hs : Src P i.size t' v m vs w) : ASrc P e t' i z v m vs w := by
  refine ⟨hs.newsLen, hs.one, fun h t ty base n c ht hn => ?_, fun t ty g n c cur ht hg hr hf => ?_, fun t ty base n c olds ht ho hm0 hc h63 hb => ?_⟩
  · subst h
    have : vs = [] := List.eq_nil_of_length_eq_zero (by rw [hs.newsLen]; simp)
    subst this
    rcases hs.kind with ⟨e', hk⟩ | hk <;> cases base <;> simp [Builtin.append_, run_underlying ht, run_underlying hk, sizeOf, typeInfo, hi, hs.len, hn, hs.cells, storeCells]
  · have hst := run_storeCells_at P g (n * i.size) e vs 0 cur w hg (by simpa using hf) hs.one
    simp only [Nat.add_zero] at hst
    rcases hs.kind with ⟨e', hk⟩ | hk <;> simp [Builtin.append_, run_underlying ht, run_underlying hk, sizeOf, typeInfo, hi, hs.len, hr, hs.cells, Addr.add_lit, hst]
  · rw [run_append_grow_src w t t' ty e i z ht hi hz base n c olds ho v m vs hs hc (by omega) (growslice_fits (by omega) hb)]
    simp
theorem ASrc.ofZeros {P : Program} {w : World} {e t' : TypeId} {i : TypeInfo} {z : Value} {m : Nat} {k : IntKind} (hi : P.info? e = some i) (hz : i.zero = some z) (hzs : z.cells.size = i.size) (hone : ∀ u ∈ (Builtin.zeroCells z.cells m).toList, u.oneCell' = true) (hu : P.underlying t' = some (.int k)) (hsz : 0 < i.size)
    (hm : m ≤ 140737488355328) (hmb : m * i.bytes ≤ 140737488355328) (k2 : IntKind) : ASrc P e t' i z (.int k2 (m : Int)) m (Builtin.zeroCells z.cells m).toList w := by
  have hw : IntKind.i64.wrap (m : Int) = m := IntWalk.i64_in _ ⟨by omega, by omega⟩
  have hl : (Builtin.zeroCells z.cells m).toList.length = m * i.size := by rw [Array.length_toList, size_zeroCells, hzs]
  have hsz' : m ≠ 0 → ¬ m * i.size = 0 := fun h e => by rcases Nat.mul_eq_zero.1 e with e | e <;> omega
  have hw0 : IntKind.i64.wrap 0 = 0 := IntWalk.i64_in _ ⟨by omega, by omega⟩
  have hbi : ¬ ((281474976710656 : Int) < (m : Int) * (i.bytes : Int)) := by
    have : (m : Int) * (i.bytes : Int) = ((m * i.bytes : Nat) : Int) := by simp
    omega
  have hn0 : ¬ ((m : Int) < 0) := by omega
  refine ⟨hl, hone, fun h t ty base n c ht hn => ?_, fun t ty g n c cur ht hg hr hf => ?_, fun t ty base n c olds ht ho hm0 hc h63 hb => ?_⟩
  · subst h
    cases base <;> simp [Builtin.append_, run_underlying ht, run_underlying hu, sizeOf, typeInfo, hi, asInt, asIntOf, hw0, hn, storeCells]
  · have hst := run_storeCells_at P g (n * i.size) e (Builtin.zeroCells z.cells m).toList 0 cur w hg (by simpa using hf) hone
    simp only [Nat.add_zero] at hst
    have hsz0 : ¬ i.size = 0 := by omega
    by_cases h0 : m = 0
    · subst h0
      simp only [Nat.zero_mul] at hl
      have hv : (Builtin.zeroCells z.cells 0).toList = [] := List.eq_nil_of_length_eq_zero hl
      rw [hv] at hst ⊢
      have hr' : n ≤ c := by simpa using hr
      simp [Builtin.append_, run_underlying ht, run_underlying hu, sizeOf, typeInfo, zeroValue, hi, hz, asInt, asIntOf, hw0, hr', Addr.add_lit, hst]
    · simp [Builtin.append_, run_underlying ht, run_underlying hu, sizeOf, typeInfo, zeroValue, hi, hz, asInt, asIntOf, hw, hbi, hn0, hr, hsz' h0, Addr.add_lit, hst]
  · have h63' : ¬ (9223372036854775807 < ((n : Int) + (m : Int))) := by omega
    have hfit := growslice_fits (bytes := i.bytes) (old := c) (need := n + m) (by omega) hb
    have h48' : ¬ (281474976710656 < Builtin.nextslicecap (n + m) c * i.bytes) := by omega
    have hnc : ¬ (n + m ≤ c) := by omega
    have hsz0 : ¬ i.size = 0 := by omega
    have h0 : ¬ m = 0 := by omega
    simp [Builtin.append_, run_underlying ht, run_underlying hu, sizeOf, typeInfo, zeroValue, hi, hz, asInt, asIntOf, hw, hbi, hn0, hnc, h63', h48', hsz' h0, Question.forced, ho, newRow, grownCap]
/-- append onto a slice that the call owns: in its own row, or in a block that was just made -/
theorem run_app {P : Program} (w : World) (base : Nat) (t ty e : TypeId) (i : TypeInfo) (z : Value) (ht : P.underlying t = some (.slice e)) (hi : P.info? e = some i) (hz : i.zero = some z)
    (hzs : z.cells.size = i.size) (hsz : 0 < i.size) (v : Value) (n : Nat) (xs : List Value) (hown : w.ownsRow base e i.size v n xs)
    {t' : TypeId} {y : Value} {m : Nat} {news : List Value} (hs : ASrc P e t' i z y m news w)
    (h63 : n + m ≤ maxLen) (hbytes : (n + m) * i.bytes ≤ 140737488355328) (hbase : base ≤ w.heap.size) :
    ∃ v' w', (Builtin.append_ #[t, t'] ty #[v, y]).run P w = .ok v' w' ∧ w'.ownsRow base e i.size v' (n + m) (xs ++ news) ∧
      ((v'.ownBlock = v.ownBlock ∧ w.grownBy w' v.ownBlock) ∨ (v'.ownBlock = some w.heap.size ∧ w.grownBy w' none)) := by
  have hl := hs.len
  have h1 := hs.one
  have hsmall : n + m ≤ 9223372036854775807 := by simp only [maxLen] at h63; omega
  have hlen : (xs ++ news).length = (n + m) * i.size := by rw [List.length_append, hown.1, hl, Nat.add_mul]
  have grown : ∀ (old : Nat), old < n + m →
      (w.drew.alloc (.cells (xs.toArray ++ news.toArray ++ Builtin.zeroCells z.cells (grownCap w (n + m) old e - (n + m))) e)).ownsRow base e i.size
        (.slice (some ⟨w.heap.size, 0, none⟩) (n + m) (grownCap w (n + m) old e)) (n + m) (xs ++ news) ∧
      w.grownBy (w.drew.alloc (.cells (xs.toArray ++ news.toArray ++ Builtin.zeroCells z.cells (grownCap w (n + m) old e - (n + m))) e)) none := by
    intro old ho
    have hge := grownCap_ge w (n + m) old e
    have hcm : grownCap w (n + m) old e ≤ maxLen := grownCap_le_maxLen w (n + m) old e h63
    refine ⟨⟨hlen, .inr ⟨w.heap.size, _, _, rfl, hbase, heap_alloc_new w.drew _, hge, hcm, ?_, ?_⟩⟩, ⟨rfl, rfl, rfl, by simp, fun k hk _ => Below.heap_alloc w.drew _ k hk⟩⟩
    · simp only [Array.size_append, List.size_toArray, size_zeroCells, hzs, hown.1, hl, ← Nat.add_mul]
      congr 1
      omega
    · simp only [Array.toList_append, List.append_assoc]
      rw [← List.append_assoc, ← hlen]
      exact List.take_left
  rcases hown.2 with ⟨rfl, rfl⟩ | ⟨g, cap, cur, rfl, hbg, hg, hnc, hcm, hcs, htake⟩
  · have hx : xs = [] := List.eq_nil_of_length_eq_zero (by simpa using hown.1)
    subst hx
    by_cases hm : m = 0
    · subst hm
      have hn : news = [] := List.eq_nil_of_length_eq_zero (by simpa using hl)
      subst hn
      refine ⟨.slice none 0 0, w, ?_, World.ownsRow_nil w base e i.size, .inl ⟨rfl, ⟨rfl, rfl, rfl, Nat.le_refl _, fun _ _ _ => rfl⟩⟩⟩
      exact hs.nil rfl t ty none 0 0 ht (Nat.le_refl _)
    · have hr := hs.grow t ty none 0 0 [] ht (run_firstCells_none w.drew i.size 0 0 0) (by omega) (by omega) (by omega) (by simpa using hbytes)
      have hgr := grown 0 (by omega)
      simp only [Nat.zero_add, List.nil_append, Array.empty_append] at hgr hr ⊢
      exact ⟨_, _, hr, hgr.1, .inr ⟨rfl, hgr.2⟩⟩
  · by_cases hroom : n + m ≤ cap
    · have hfit : n * i.size + news.length ≤ cur.size := by rw [hl, hcs, ← Nat.add_mul]; exact Nat.mul_le_mul_right _ hroom
      have hr := hs.room t ty g n cap cur ht hg hroom hfit
      refine ⟨_, _, hr, ⟨hlen, .inr ⟨g, cap, _, rfl, hbg, setRow_heap w g cur _ e _ hg, hroom, hcm, ?_, ?_⟩⟩, .inl ⟨rfl, ⟨rfl, rfl, rfl, by simp [World.setRow], fun k _ hk => setRow_other w g k _ (fun e => hk (by simp [Value.ownBlock, e]))⟩⟩⟩
      · simp only [List.size_toArray, List.length_append, List.length_take, List.length_drop, Array.length_toList]
        omega
      · rw [htake, ← hlen]
        exact List.take_left
    · have hcur : ∀ j u, xs[j]? = some u → w.cell? ((⟨g, 0, none⟩ : Addr).add j) = some u := World.ownsRow.cells hown rfl
      have hr := hs.grow t ty (some ⟨g, 0, none⟩) n cap xs ht (run_firstCells_some w.drew i.size n ⟨g, 0, none⟩ n cap xs hown.1 hcur) (by omega) (by omega) (by omega) hbytes
      have hgr := grown cap (by omega)
      exact ⟨_, _, hr, hgr.1, .inr ⟨rfl, hgr.2⟩⟩

end Go.Proofs.Ytikganlbnhapcaa
