import Derived.Test.YtikganlbnhapcaaBits
import Derived.Below
import Derived.Deep.Draws
import Derived.OwnWalk
import Derived.Tactics
import Derived.WalkKit
import Derived.KernelRfl
import Derived.RowKit3
import Derived.Deep.LoopGhost
import Derived.Deep.QuietTactic
import Derived.BigQuiet
import Derived.WideLaws
import Derived.Deep.DeepCutAuto
import Derived.Deep.CutBlock
import Derived.Laws.Rows
import Derived.Outline
import Derived.Lib.Hide
import Derived.Lib.SlBytesConst
namespace Go.Proofs.Ytikganlbnhapcaa
open Go.RowKit
set_option linter.unusedVariables false
set_option linter.unusedSimpArgs false


/-- a slice value reads as a list of one-cell values -/
def Rd (w : World) (v : Value) (xs : List Value) : Prop :=
  ∃ a cap, v = .slice a xs.length cap ∧ xs.length ≤ cap ∧ cap ≤ 9223372036854775807 ∧
    (xs.length = 0 ∨ ∃ b off, a = some ⟨b, off, none⟩ ∧ ∀ i, i < xs.length → w.cell? ⟨b, off + i, none⟩ = some (xs.getD i undef))
def B8 (l : List (BitVec 8)) : List Value := l.map fun b => .int .u8 (n8 b)

theorem B8_len (l : List (BitVec 8)) : (B8 l).length = l.length := by simp [B8]
theorem B8_getD (l : List (BitVec 8)) (i : Nat) (h : i < l.length) : (B8 l).getD i undef = .int .u8 (n8 (l.getD i 0)) := by
  simp [B8, h]
theorem B8_take (l : List (BitVec 8)) (k : Nat) : B8 (l.take k) = (B8 l).take k := by simp [B8, List.map_take]

theorem lt_of_cell {w : World} {p : Addr} {x : Value} (h : w.cell? p = some x) : p.block < w.heap.size := by
  unfold World.cell? at h
  by_cases hb : p.block < w.heap.size
  · exact hb
  · simp [Array.getElem?_eq_none (by omega : w.heap.size ≤ p.block)] at h

theorem Rd.below {w w' : World} {v : Value} {xs : List Value} (h : Rd w v xs) (hb : Below w.heap.size w w') : Rd w' v xs := by
  obtain ⟨a, cap, rfl, h1, h2, h3⟩ := h
  refine ⟨a, cap, rfl, h1, h2, ?_⟩
  rcases h3 with h3 | ⟨b, off, rfl, h3⟩
  · exact .inl h3
  · refine .inr ⟨b, off, rfl, fun i hi => ?_⟩
    have hc := h3 i hi
    rw [hb.cell (lt_of_cell hc)]; exact hc

theorem Rd.cell {w : World} {v : Value} {xs : List Value} (h : Rd w v xs) (k : Nat) (hk : k < xs.length) :
    ∃ b off cap, v = .slice (some ⟨b, off, none⟩) xs.length cap ∧ xs.length ≤ cap ∧ cap ≤ 9223372036854775807 ∧ ∀ i, i < xs.length → w.cell? ⟨b, off + i, none⟩ = some (xs.getD i undef) := by
  obtain ⟨a, cap, rfl, h1, h2, h3⟩ := h
  rcases h3 with h3 | ⟨b, off, rfl, h3⟩
  · omega
  · exact ⟨b, off, cap, rfl, h1, h2, h3⟩

theorem Rd.slice {w : World} {v : Value} {xs : List Value} (h : Rd w v xs) : ∃ a cap, v = .slice a xs.length cap ∧ xs.length ≤ cap ∧ cap ≤ 9223372036854775807 :=
  let ⟨a, cap, h0, h1, h2, _⟩ := h; ⟨a, cap, h0, h1, h2⟩

theorem Rd.nil (w : World) : Rd w (.slice none 0 0) [] := ⟨none, 0, rfl, Nat.le_refl _, by omega, .inl rfl⟩

theorem Rd.take {w : World} {a : Option Addr} {n cap : Nat} {xs : List Value} (h : Rd w (.slice a n cap) xs) (k : Nat) (hk : k ≤ xs.length) : Rd w (.slice a k cap) (xs.take k) := by
  obtain ⟨a', cap', e, h1, h2, h3⟩ := h
  injection e with e1 e2 e3
  subst e1 e3
  have hl : (xs.take k).length = k := by simp; omega
  refine ⟨a, cap, by rw [hl], by omega, h2, ?_⟩
  rw [hl]
  rcases h3 with h3 | ⟨b, off, rfl, h3⟩
  · exact .inl (by omega)
  · refine .inr ⟨b, off, rfl, fun i hi => ?_⟩
    rw [h3 i (by omega)]
    simp [List.getD, hi]

theorem Rd.lt {w : World} {p : Addr} {n c : Nat} {xs : List Value} (h : Rd w (.slice (some p) n c) xs) (h0 : 0 < xs.length) : p.block < w.heap.size := by
  obtain ⟨a', c', e, h1, h2, h3⟩ := h
  injection e with e1 e2 e3
  rcases h3 with h3 | ⟨b', off', e', h3⟩
  · omega
  · rw [e'] at e1
    injection e1 with e1
    rw [e1]; exact lt_of_cell (h3 0 h0)
theorem Rd.clip {w : World} {a : Option Addr} {n c : Nat} {xs : List Value} (h : Rd w (.slice a n c) xs) : Rd w (.slice a n n) xs := by
  obtain ⟨a', c', e, h1, h2, h3⟩ := h
  injection e with e1 e2 e3
  subst e1 e2 e3
  exact ⟨a, xs.length, rfl, Nat.le_refl _, by omega, h3⟩
theorem Rd.drop {w : World} {b off n c : Nat} {xs : List Value} (h : Rd w (.slice (some ⟨b, off, none⟩) n c) xs) (k : Nat) (hk : k ≤ n) : Rd w (.slice (some ⟨b, off + k, none⟩) (n - k) (c - k)) (xs.drop k) := by
  obtain ⟨a', c', e, h1, h2, h3⟩ := h
  injection e with e1 e2 e3
  subst e1 e2 e3
  have hl : (xs.drop k).length = xs.length - k := by simp
  refine ⟨_, c - k, by rw [hl], by omega, by omega, ?_⟩
  rw [hl]
  rcases h3 with h3 | ⟨b', off', e, h3⟩
  · exact .inl (by omega)
  · injection e with e
    injection e with e1 e2
    subst e1 e2
    refine .inr ⟨b, off + k, rfl, fun i hi => ?_⟩
    rw [Nat.add_assoc, h3 (k + i) (by omega)]
    simp [List.getD, List.getElem?_drop]
/-- a slice over a whole block -/
theorem Rd.block {w : World} {g : Nat} {t : TypeId} {f : Nat × Nat} (cs : Array Value) (n cap : Nat) (h : w.heap[g]? = some (.cells cs t f)) (hn : n ≤ cs.size) (hc : n ≤ cap) (hm : cap ≤ 9223372036854775807) :
    Rd w (.slice (some ⟨g, 0, none⟩) n cap) (cs.toList.take n) := by
  have hl : (cs.toList.take n).length = n := by simp; omega
  refine ⟨_, cap, by rw [hl], by omega, hm, .inr ⟨g, 0, rfl, fun i hi => ?_⟩⟩
  rw [hl] at hi
  rw [cell_of_row w g _ cs t f h]
  have : i < cs.size := by omega
  simp [List.getD, hi, this]

theorem n8_of_wf {a : Int} (h : (Lit.int .u8 a).wf = true) : ∃ x : BitVec 8, a = n8 x := by
  simp [Lit.wf, IntKind.min, IntKind.max, IntKind.signed, IntKind.bits] at h
  exact ⟨BitVec.ofInt 8 a, by simp [n8]; omega⟩
theorem n16_of_wf {a : Int} (h : (Lit.int .u16 a).wf = true) : ∃ x : BitVec 16, a = n16 x := by
  simp [Lit.wf, IntKind.min, IntKind.max, IntKind.signed, IntKind.bits] at h
  exact ⟨BitVec.ofInt 16 a, by simp [n16]; omega⟩
theorem n32_of_wf {a : Int} (h : (Lit.int .u32 a).wf = true) : ∃ x : BitVec 32, a = n32 x := by
  simp [Lit.wf, IntKind.min, IntKind.max, IntKind.signed, IntKind.bits] at h
  exact ⟨BitVec.ofInt 32 a, by simp [n32]; omega⟩

/-- what came in as a row of bytes -/
theorem rd_of_row {w : World} {a : Option Addr} {len cap : Nat} {zs : List Int}
    (h : (a = none ∧ len = 0 ∧ cap = 0 ∧ zs = []) ∨
      ∃ x, a = some x ∧ len ≤ cap ∧ cap ≤ maxLen ∧ zs.length = cap ∧ (∀ i, i < zs.length → w.cell? (x.add i) = some (.int .u8 (zs.getD i 0))) ∧ ∀ n ∈ zs, (Lit.int .u8 n).wf = true) :
    ∃ bs : List (BitVec 8), Rd w (.slice a len cap) (B8 bs) := by
  rcases h with ⟨rfl, rfl, rfl, rfl⟩ | ⟨x, rfl, h1, h2, h3, h4, h5⟩
  · exact ⟨[], Rd.nil w⟩
  · unfold maxLen at h2
    refine ⟨(zs.take len).map (BitVec.ofInt 8), ?_⟩
    have hl : (B8 ((zs.take len).map (BitVec.ofInt 8))).length = len := by simp [B8]; omega
    refine ⟨some x, cap, by rw [hl], by omega, by omega, ?_⟩
    rw [hl]
    by_cases h0 : len = 0
    · exact .inl h0
    · have hx : x = ⟨x.block, x.off, none⟩ := by
        have hc := h4 0 (by omega)
        rw [show x.add 0 = x from rfl] at hc
        unfold World.cell? at hc
        obtain ⟨bb, oo, ss⟩ := x
        cases ss with
        | none => rfl
        | some s =>
          exfalso
          simp at hc
          split at hc <;> simp at hc
      refine .inr ⟨x.block, x.off, by rw [← hx], fun i hi => ?_⟩
      have hc := h4 i (by omega)
      have e : x.add i = ⟨x.block, x.off + i, none⟩ := by
        unfold Addr.add
        split
        · rename_i h0; subst h0; rw [Nat.add_zero]; exact hx
        · rfl
      rw [e] at hc
      rw [hc]
      have hi2 : i < zs.length := by omega
      have hw := h5 (zs.getD i 0) (by simp [List.getD, hi2])
      have hb : 0 ≤ zs.getD i 0 ∧ zs.getD i 0 < 256 := by
        generalize zs.getD i 0 = z at hw
        simp [Lit.wf, IntKind.min, IntKind.max, IntKind.signed, IntKind.bits] at hw
        omega
      simp [B8, List.getD, hi, hi2, n8]
      simp [List.getD, hi2] at hb
      omega

/-- a slice of slices of bytes -/
def RdL (w : World) (v : Value) (bss : List (List (BitVec 8))) : Prop :=
  ∃ vs : List Value, vs.length = bss.length ∧ Rd w v vs ∧ ∀ i, i < bss.length → Rd w (vs.getD i undef) (B8 (bss.getD i []))

theorem conv_lit {P : Program} (t e : TypeId) (ht : P.underlying t = some (.slice e)) (he : P.underlying e = some (.int .u8)) (w : World) (C : Array Value) (n c g : Nat) (hg : g = w.heap.size) :
    (convert t t (.slice (some ⟨g, 0, none⟩) n c)).run P (w.alloc (.cells C e)) = .ok (.slice (some ⟨g, 0, none⟩) n c) (w.alloc (.cells C e (C.size, C.size + 1))) := by
  subst hg; exact Lib.run_convert_bytes_const w t e C n c ht he
theorem Rd.new {w : World} (t : TypeId) (f : Nat × Nat) (cs : Array Value) (n g : Nat) (hg : g = w.heap.size) (hn : n = cs.size) (hm : n ≤ 9223372036854775807) :
    Rd (w.alloc (.cells cs t f)) (.slice (some ⟨g, 0, none⟩) n n) cs.toList := by
  subst hg hn
  have h := Rd.block cs cs.size cs.size (heap_alloc_new w (.cells cs t f)) (Nat.le_refl _) (Nat.le_refl _) hm
  rwa [List.take_of_length_le (by simp)] at h
theorem Rd.alloc {w : World} {v : Value} {xs : List Value} (h : Rd w v xs) (o : Obj) : Rd (w.alloc o) v xs :=
  h.below ((Below.refl _ _).alloc (Nat.le_refl _) o)
theorem RdL.none (w : World) : RdL w (.slice none 0 0) [] := ⟨[], rfl, Rd.nil w, fun i hi => absurd hi (Nat.not_lt_zero i)⟩
theorem RdL.one {w : World} {v u : Value} {b : List (BitVec 8)} (h : Rd w v [u]) (hb : Rd w u (B8 b)) : RdL w v [b] :=
  ⟨[u], rfl, h, fun i hi => by obtain rfl : i = 0 := by simpa using hi
                               exact hb⟩
theorem RdL.three {w : World} {v u1 u2 u3 : Value} {b1 b2 b3 : List (BitVec 8)} (h : Rd w v [u1, u2, u3]) (h1 : Rd w u1 (B8 b1)) (h2 : Rd w u2 (B8 b2)) (h3 : Rd w u3 (B8 b3)) : RdL w v [b1, b2, b3] :=
  ⟨[u1, u2, u3], rfl, h, fun i hi => by
    match i, hi with
    | 0, _ => exact h1
    | 1, _ => exact h2
    | 2, _ => exact h3⟩

end Go.Proofs.Ytikganlbnhapcaa
