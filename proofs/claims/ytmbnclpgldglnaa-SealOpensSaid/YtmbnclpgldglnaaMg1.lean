import Derived.Test.YtmbnclpgldglnaaAvHand
import Derived.Test.YtmbnclpgldglnaaBits
import Derived.Below
import Derived.Deep.Draws
import Derived.OwnWalk
import Derived.Tactics
import Derived.WalkKit
import Derived.KernelRfl
import Derived.RowKit3
import Derived.Deep.LoopGhost
import Derived.Deep.QuietTactic
import Derived.BigQuiet
import Derived.WideLaws
import Derived.Deep.DeepCutAuto
import Derived.Deep.CutBlock
import Derived.Laws.Rows
import Derived.Outline
import Derived.Lib.Hide
import Derived.Lib.SlBytesConst
import Derived.Deep.AppendLies
import Derived.Laws.CopyOwn
import Derived.Deep.OwnRows
import Derived.Laws.BytesArg
import Derived.Lib.AppendStr
import Derived.Test.YtmbnclpgldglnaaProg
import Derived.RegionTactic
import Derived.ChangeAlike
import Derived.Lib.Mul64
import Derived.Laws.Bits64b
import Derived.OwnWalkIn
import Derived.TacticsInMore
import Derived.RegionIn
import Derived.LoopNIn
import Derived.LoopIn
import Derived.Lib.Overlaps
import Derived.Deep.RegionLaw
import Derived.Laws.IdiomCopy
import Derived.Lib.MakeNoZero
section
namespace Go.Proofs.Ytmbnclpgldglnaa
open Go.RowKit
set_option linter.unusedVariables false
set_option linter.unusedSimpArgs false
/-! a walk cut in two -/
section
variable {P : Program}
theorem aMCall_mono {s : St} {o : Oper} {K K' : St → Prop} (h : ∀ s, K s → K' s) (ha : aMCall P s o K) : aMCall P s o K' := by
  obtain ⟨f, args, ts, d, g, cs, cs', ys, r, h1, h2, h3, h4, h5⟩ := ha
  exact ⟨f, args, ts, d, g, cs, cs', ys, r, h1, h2, h3, h4, h _ h5⟩
theorem aRun_mono {ops : List Oper} {K K' : St → Prop} (h : ∀ s, K s → K' s) : ∀ (l : List Oper) (i : Nat) (s : St), aRun P ops i l s K → aRun P ops i l s K'
  | [], i, s, ha => by obtain ⟨s', h1, h2⟩ := ha; exact ⟨s', h1, h _ h2⟩
  | o :: l, i, s, ha => by
    rcases ha with ha | ⟨h1, ha⟩
    · refine .inl (aGuard_step.2 ?_)
      obtain ⟨s', h1, h2⟩ := aGuard_step.1 ha
      exact ⟨s', h1, aRun_mono h l (i + 1) s' h2⟩
    · exact .inr ⟨h1, aMCall_mono (fun s => aRun_mono h l (i + 1) s) ha⟩
theorem xRun_mono {ops : List Oper} {kw : Nat → List Nat × List Nat} {K K' : St → Prop} (h : ∀ s, K s → K' s) : ∀ (l : List (Nat × Oper)) (s : St), xRun P ops kw l s K → xRun P ops kw l s K'
  | [], s, ha => h s ha
  | (i, o) :: l, s, ha => by
    obtain ⟨h1, s', h2, h3⟩ := ha
    exact ⟨h1, s', h2, xRun_mono h l s' h3⟩
theorem aWp_mono : ∀ (c : Code) {Q Q' : AEx → St → Prop} {s : St}, (∀ e s, Q e s → Q' e s) → aWp P c Q s → aWp P c Q' s := by
  intro c
  induction c with
  | skip => intro Q Q' s h ha; exact h _ _ ha
  | region id ops draw =>
    intro Q Q' s h ha
    cases draw with
    | true =>
      obtain ⟨kw, h1, h2⟩ := ha
      exact ⟨kw, h1, xRun_mono (fun s hs => h _ _ hs) _ _ h2⟩
    | false => exact aRun_mono (fun s hs => h _ _ hs) _ _ _ ha
  | seq a b iha ihb =>
    intro Q Q' s h ha
    refine iha (fun e s he => ?_) ha
    cases e with
    | normal => exact ihb h he
    | exit id => exact h _ _ he
    | ret => exact h _ _ he
  | cond c a b iha ihb =>
    intro Q Q' s h ha
    simp only [aWp] at ha ⊢
    split
    · rename_i t ht
      rw [ht] at ha
      exact ⟨fun e => iha h (ha.1 e), fun e => ihb h (ha.2 e)⟩
    · rename_i hn
      split at ha
      · rename_i t ht; exact absurd ht (hn t)
      · exact ha
  | block id c ih =>
    intro Q Q' s h ha
    refine ih (fun e s he => ?_) ha
    cases e with
    | normal => exact h _ _ he
    | exit id' =>
      have he' : if id' = id then Q .normal s else Q (.exit id') s := he
      show if id' = id then Q' .normal s else Q' (.exit id') s
      split at he'
      · rename_i q; rw [if_pos q]; exact h _ _ he'
      · rename_i q; rw [if_neg q]; exact h _ _ he'
    | ret => exact h _ _ he
  | loop c ih =>
    intro Q Q' s h ha
    obtain ⟨I, n, h0, hr⟩ := ha
    refine ⟨I, n, h0, fun n s hI => ih (fun e s he => ?_) (hr n s hI)⟩
    cases e with
    | normal => exact he
    | exit id => exact h _ _ he
    | ret => exact h _ _ he
  | exit id => intro Q Q' s h ha; exact h _ _ ha
  | ret => intro Q Q' s h ha; exact h _ _ ha
  | rangeFunc g ps asg body iha ih =>
    intro Q Q' s h ha
    obtain ⟨gf, caps, els, I, l, h1, h2, h3, h4, h5, h6, h7⟩ := ha
    refine ⟨gf, caps, els, I, l, h1, h2, h3, h4, h5, fun pre x s' q1 q2 q3 q4 => ih (fun e s he => ?_) (h6 pre x s' q1 q2 q3 q4), fun s' hs => h _ _ (h7 s' hs)⟩
    cases e with
    | normal => exact he
    | exit id => exact ⟨he.1, h _ _ he.2⟩
    | ret => exact ⟨he.1, h _ _ he.2⟩
  | scope => intro Q Q' s h ha; exact ha
  | label => intro Q Q' s h ha; exact ha
  | goto => intro Q Q' s h ha; exact ha
  | refuse => intro Q Q' s h ha; exact ha
variable {Q : AEx → St → Prop} {Kn : St → Prop} {c : Code} {s : St}
theorem aWp_cut (M : St → Prop) (h1 : aWp P c (AEx.seq M Q) s) (h2 : ∀ s, M s → Kn s) : aWp P c (AEx.seq Kn Q) s :=
  aWp_mono c (fun e s he => by
    cases e with
    | normal => exact h2 s he
    | exit id => exact he
    | ret => exact he) h1
end
section
variable {P : Program} {F : Nat → SV} {T : Nat → Option (Nat × Ent)} {ν i : Nat} {md : Md} {K : St → Prop} {ops : List Oper}
/-- at a region's end: a whole object is known from now on -/
theorem rzp {t d g : Nat} {cs : List AV} (h1 : F t = .ob d g 0) (h2 : T d = some (g, .obj cs)) (h : K ⟨upd F t (.k (.cp cs)), upd T d none, ν, md⟩) : aRun P ops i [] ⟨F, T, ν, md⟩ K :=
  rzob h1 h2 (Nat.zero_le _) (List.drop_zero ..) h
theorem rzs {t d g n cap : Nat} {cs : List AV} (h1 : F t = .os d g 0 n cap) (h2 : T d = some (g, .obj cs)) (h : K ⟨upd F t (.k (.sl false n cs)), upd T d none, ν, md⟩) : aRun P ops i [] ⟨F, T, ν, md⟩ K :=
  rzos (m := cs.length) h1 h2 (by omega) (by simp) h
end
end Go.Proofs.Ytmbnclpgldglnaa
end
section
namespace Go.Proofs.Ytmbnclpgldglnaa
open Go.RowKit
set_option linter.unusedVariables false
set_option linter.unusedSimpArgs false


/-- a slice value reads as a list of one-cell values -/
def Rd (w : World) (v : Value) (xs : List Value) : Prop :=
  ∃ a cap, v = .slice a xs.length cap ∧ xs.length ≤ cap ∧ cap ≤ 9223372036854775807 ∧
    (xs.length = 0 ∨ ∃ b off, a = some ⟨b, off, none⟩ ∧ ∀ i, i < xs.length → w.cell? ⟨b, off + i, none⟩ = some (xs.getD i undef))
def B8 (l : List (BitVec 8)) : List Value := l.map fun b => .int .u8 (n8 b)

theorem B8_len (l : List (BitVec 8)) : (B8 l).length = l.length := by simp [B8]
theorem B8_getD (l : List (BitVec 8)) (i : Nat) (h : i < l.length) : (B8 l).getD i undef = .int .u8 (n8 (l.getD i 0)) := by
  simp [B8, h]
theorem lt_of_cell {w : World} {p : Addr} {x : Value} (h : w.cell? p = some x) : p.block < w.heap.size := by
  unfold World.cell? at h
  by_cases hb : p.block < w.heap.size
  · exact hb
  · simp [Array.getElem?_eq_none (by omega : w.heap.size ≤ p.block)] at h

theorem Rd.below {w w' : World} {v : Value} {xs : List Value} (h : Rd w v xs) (hb : Below w.heap.size w w') : Rd w' v xs := by
  obtain ⟨a, cap, rfl, h1, h2, h3⟩ := h
  refine ⟨a, cap, rfl, h1, h2, ?_⟩
  rcases h3 with h3 | ⟨b, off, rfl, h3⟩
  · exact .inl h3
  · refine .inr ⟨b, off, rfl, fun i hi => ?_⟩
    have hc := h3 i hi
    rw [hb.cell (lt_of_cell hc)]; exact hc

theorem Rd.cell {w : World} {v : Value} {xs : List Value} (h : Rd w v xs) (k : Nat) (hk : k < xs.length) :
    ∃ b off cap, v = .slice (some ⟨b, off, none⟩) xs.length cap ∧ xs.length ≤ cap ∧ cap ≤ 9223372036854775807 ∧ ∀ i, i < xs.length → w.cell? ⟨b, off + i, none⟩ = some (xs.getD i undef) := by
  obtain ⟨a, cap, rfl, h1, h2, h3⟩ := h
  rcases h3 with h3 | ⟨b, off, rfl, h3⟩
  · omega
  · exact ⟨b, off, cap, rfl, h1, h2, h3⟩

theorem Rd.slice {w : World} {v : Value} {xs : List Value} (h : Rd w v xs) : ∃ a cap, v = .slice a xs.length cap ∧ xs.length ≤ cap ∧ cap ≤ 9223372036854775807 :=
  let ⟨a, cap, h0, h1, h2, _⟩ := h; ⟨a, cap, h0, h1, h2⟩

theorem Rd.nil (w : World) : Rd w (.slice none 0 0) [] := ⟨none, 0, rfl, Nat.le_refl _, by omega, .inl rfl⟩

theorem Rd.take {w : World} {a : Option Addr} {n cap : Nat} {xs : List Value} (h : Rd w (.slice a n cap) xs) (k : Nat) (hk : k ≤ xs.length) : Rd w (.slice a k cap) (xs.take k) := by
  obtain ⟨a', cap', e, h1, h2, h3⟩ := h
  injection e with e1 e2 e3
  subst e1 e3
  have hl : (xs.take k).length = k := by simp; omega
  refine ⟨a, cap, by rw [hl], by omega, h2, ?_⟩
  rw [hl]
  rcases h3 with h3 | ⟨b, off, rfl, h3⟩
  · exact .inl (by omega)
  · refine .inr ⟨b, off, rfl, fun i hi => ?_⟩
    rw [h3 i (by omega)]
    simp [List.getD, hi]

theorem Rd.lt {w : World} {p : Addr} {n c : Nat} {xs : List Value} (h : Rd w (.slice (some p) n c) xs) (h0 : 0 < xs.length) : p.block < w.heap.size := by
  obtain ⟨a', c', e, h1, h2, h3⟩ := h
  injection e with e1 e2 e3
  rcases h3 with h3 | ⟨b', off', e', h3⟩
  · omega
  · rw [e'] at e1
    injection e1 with e1
    rw [e1]; exact lt_of_cell (h3 0 h0)
theorem Rd.drop {w : World} {b off n c : Nat} {xs : List Value} (h : Rd w (.slice (some ⟨b, off, none⟩) n c) xs) (k : Nat) (hk : k ≤ n) : Rd w (.slice (some ⟨b, off + k, none⟩) (n - k) (c - k)) (xs.drop k) := by
  obtain ⟨a', c', e, h1, h2, h3⟩ := h
  injection e with e1 e2 e3
  subst e1 e2 e3
  have hl : (xs.drop k).length = xs.length - k := by simp
  refine ⟨_, c - k, by rw [hl], by omega, by omega, ?_⟩
  rw [hl]
  rcases h3 with h3 | ⟨b', off', e, h3⟩
  · exact .inl (by omega)
  · injection e with e
    injection e with e1 e2
    subst e1 e2
    refine .inr ⟨b, off + k, rfl, fun i hi => ?_⟩
    rw [Nat.add_assoc, h3 (k + i) (by omega)]
    simp [List.getD, List.getElem?_drop]
/-- a slice over a whole block -/
theorem Rd.block {w : World} {g : Nat} {t : TypeId} {f : Nat × Nat} (cs : Array Value) (n cap : Nat) (h : w.heap[g]? = some (.cells cs t f)) (hn : n ≤ cs.size) (hc : n ≤ cap) (hm : cap ≤ 9223372036854775807) :
    Rd w (.slice (some ⟨g, 0, none⟩) n cap) (cs.toList.take n) := by
  have hl : (cs.toList.take n).length = n := by simp; omega
  refine ⟨_, cap, by rw [hl], by omega, hm, .inr ⟨g, 0, rfl, fun i hi => ?_⟩⟩
  rw [hl] at hi
  rw [cell_of_row w g _ cs t f h]
  have : i < cs.size := by omega
  simp [List.getD, hi, this]

/-- a slice of slices of bytes -/
def RdL (w : World) (v : Value) (bss : List (List (BitVec 8))) : Prop :=
  ∃ vs : List Value, vs.length = bss.length ∧ Rd w v vs ∧ ∀ i, i < bss.length → Rd w (vs.getD i undef) (B8 (bss.getD i []))

theorem Rd.new {w : World} (t : TypeId) (f : Nat × Nat) (cs : Array Value) (n g : Nat) (hg : g = w.heap.size) (hn : n = cs.size) (hm : n ≤ 9223372036854775807) :
    Rd (w.alloc (.cells cs t f)) (.slice (some ⟨g, 0, none⟩) n n) cs.toList := by
  subst hg hn
  have h := Rd.block cs cs.size cs.size (heap_alloc_new w (.cells cs t f)) (Nat.le_refl _) (Nat.le_refl _) hm
  rwa [List.take_of_length_le (by simp)] at h
theorem Rd.alloc {w : World} {v : Value} {xs : List Value} (h : Rd w v xs) (o : Obj) : Rd (w.alloc o) v xs :=
  h.below ((Below.refl _ _).alloc (Nat.le_refl _) o)
theorem RdL.none (w : World) : RdL w (.slice none 0 0) [] := ⟨[], rfl, Rd.nil w, fun i hi => absurd hi (Nat.not_lt_zero i)⟩
theorem RdL.one {w : World} {v u : Value} {b : List (BitVec 8)} (h : Rd w v [u]) (hb : Rd w u (B8 b)) : RdL w v [b] :=
  ⟨[u], rfl, h, fun i hi => by obtain rfl : i = 0 := by simpa using hi
                               exact hb⟩
theorem RdL.three {w : World} {v u1 u2 u3 : Value} {b1 b2 b3 : List (BitVec 8)} (h : Rd w v [u1, u2, u3]) (h1 : Rd w u1 (B8 b1)) (h2 : Rd w u2 (B8 b2)) (h3 : Rd w u3 (B8 b3)) : RdL w v [b1, b2, b3] :=
  ⟨[u1, u2, u3], rfl, h, fun i hi => by
    match i, hi with
    | 0, _ => exact h1
    | 1, _ => exact h2
    | 2, _ => exact h3⟩

end Go.Proofs.Ytmbnclpgldglnaa
end
section
namespace Go.Proofs.Ytmbnclpgldglnaa
open Go.RowKit
set_option linter.unusedVariables false
set_option linter.unusedSimpArgs false

/-- a slice type over one-cell elements -/
structure SlT (P : Program) (t e : TypeId) (z : Value) (bytes : Nat) : Prop where
  ht : P.underlying t = some (.slice e)
  hi : (P.info? e).map (fun i => (i.zero, i.size, i.bytes)) = some (some z, 1, bytes)
  hz : z.cells.size = 1

/-- a slice that the call itself made, from block 'base' on -/
def Own (w : World) (base : Nat) (e : TypeId) (v : Value) (xs : List Value) : Prop := w.ownsRow base e 1 v xs.length xs

theorem Own.rd {w : World} {base : Nat} {e : TypeId} {v : Value} {xs : List Value} (h : Own w base e v xs) : Rd w v xs := by
  obtain ⟨_, h⟩ := h
  rcases h with ⟨rfl, h0⟩ | ⟨g, cap, cur, rfl, hb, hg, h1, h2, h3, h4⟩
  · have : xs = [] := List.eq_nil_of_length_eq_zero h0
    subst this; exact Rd.nil w
  · have h := Rd.block cur xs.length cap hg (by omega) h1 (by unfold maxLen at h2; omega)
    rw [Nat.mul_one] at h4
    rwa [h4] at h
theorem Own.made {w : World} {base : Nat} {e : TypeId} (cs : Array Value) (n : Nat) (hb : base ≤ w.heap.size) (hn : n = cs.size) (hm : n ≤ maxLen) (g : Nat) (hg : g = w.heap.size) :
    Own (w.alloc (.cells cs e)) base e (.slice (some ⟨g, 0, none⟩) n n) cs.toList := by
  subst hn hg
  refine ⟨by simp, .inr ⟨_, _, cs, by simp, hb, heap_alloc_new w _, by simp, hm, by simp, ?_⟩⟩
  rw [List.take_of_length_le (by simp)]
theorem Own.alloc {w : World} {base : Nat} {e : TypeId} {v : Value} {xs : List Value} (h : Own w base e v xs) (o : Obj) : Own (w.alloc o) base e v xs :=
  World.ownsRow.alloc h o

theorem run_append_zero {P : Program} (w : World) {t ty e : TypeId} {z : Value} {bytes : Nat} (T : SlT P t e z bytes) (a : Option Addr) (n cap cap2 : Nat) (h : n ≤ cap) (u : Option Addr) :
    (Builtin.append_ #[t, t] ty #[.slice a n cap, .slice u 0 cap2]).run P w = .ok (.slice a n cap) w := by
  obtain ⟨i, hi, hz, hs, hb⟩ := info_parts T.hi
  cases u <;> cases a <;> simp [Builtin.append_, run_underlying T.ht, sizeOf, typeInfo, hi, Builtin.lenOf, Builtin.firstCells, loadCells, loadCellsFrom, h, storeCells]

theorem run_append_rd {P : Program} (w : World) {t ty e : TypeId} {z : Value} {bytes : Nat} (T : SlT P t e z bytes) (base : Nat) (v u : Value) (xs ys : List Value)
    (hown : Own w base e v xs) (hr : Rd w u ys) (h1 : ∀ y ∈ ys, y.oneCell' = true) (h63 : xs.length + ys.length ≤ maxLen) (hby : (xs.length + ys.length) * bytes ≤ 140737488355328) (hbase : base ≤ w.heap.size) :
    ∃ v' w', (Builtin.append_ #[t, t] ty #[v, u]).run P w = .ok v' w' ∧ Own w' base e v' (xs ++ ys) ∧ w.grownBy w' v.ownBlock := by
  obtain ⟨i, hi, hz, hs, hb⟩ := info_parts T.hi
  obtain ⟨a, cap, rfl, hc, hm, hcell⟩ := hr
  rcases hcell with h0 | ⟨b, off, rfl, hcell⟩
  · have hy : ys = [] := List.eq_nil_of_length_eq_zero h0
    subst hy
    have hv : ∃ a n c, v = .slice a n c ∧ n ≤ c := by
      rcases hown.2 with ⟨rfl, _⟩ | ⟨g, cp, cur, rfl, _, _, h, _⟩
      · exact ⟨none, 0, 0, rfl, Nat.le_refl _⟩
      · exact ⟨_, _, _, rfl, h⟩
    obtain ⟨a', n', c', rfl, hle⟩ := hv
    refine ⟨_, w, run_append_zero w T _ _ _ _ hle _, by rw [List.append_nil]; exact hown, ⟨rfl, rfl, rfl, Nat.le_refl _, fun _ _ _ => rfl⟩⟩
  · obtain ⟨v', w', r1, r2, r3, _⟩ := run_append_own (P := P) (w := w) base t ty e i z 1 bytes T.ht hi hz hs hb T.hz (by decide) v xs.length xs hown ⟨b, off, none⟩ ys.length cap ys (by simp)
      (fun j x hx => by
        have hj : j < ys.length := (List.getElem?_eq_some_iff.1 hx).1
        have e : (⟨b, off, none⟩ : Addr).add j = ⟨b, off + j, none⟩ := by unfold Addr.add; split <;> simp_all
        rw [e, hcell j hj]; simp [List.getD, hx]) h1 h63 hby hbase
    exact ⟨v', w', r1, by unfold Own; rw [List.length_append]; exact r2, r3⟩

theorem wpList_append_rd {P : Program} {w : World} {ops : Array Oper} {rest : List Oper} {o : Oper} {a : Act} {Q : Exit → Act → World → Prop} (hw : Region.wanted o (yielded ops a.tmps) = true)
    (s x : Operand) (t : TypeId) (ho : o.op = .call { callee := .builtin .append, args := #[s, x], argTypes := #[t, t] })
    {e : TypeId} {z : Value} {bytes : Nat} (T : SlT P t e z bytes) (base : Nat) (v u : Value) (xs ys : List Value) (hs : a.eval s = v) (hx : a.eval x = u)
    (hown : Own w base e v xs) (hr : Rd w u ys) (h1 : ∀ y ∈ ys, y.oneCell' = true) (h63 : xs.length + ys.length ≤ maxLen) (hby : (xs.length + ys.length) * bytes ≤ 140737488355328) (hbase : base ≤ w.heap.size)
    (h : ∀ v' w', Own w' base e v' (xs ++ ys) → w.grownBy w' v.ownBlock → wpList P ops Q rest (a.put o.dst v') w') : wpList P ops Q (o :: rest) a w := by
  obtain ⟨v', w', r, h2, h3⟩ := run_append_rd (ty := o.type) w T base v u xs ys hown hr h1 h63 hby hbase
  refine wpList_step fun K hK => ?_
  rw [if_pos hw]
  unfold Oper.wp execOp
  simp only [ho, resolve, invoke, builtin, Sem.run_bind, Sem.run_pure, Result.andThen_ok, List.map_toArray, List.map_cons, List.map_nil, hs, hx, r]
  exact hK _ _ (h v' w' h2 h3)

theorem Own.base {w : World} {base : Nat} {e : TypeId} {v : Value} {xs : List Value} (h : Own w base e v xs) : ∀ k, v.ownBlock = some k → base ≤ k := by
  intro k hk; exact (World.ownsRow.lt h k hk).1

theorem wpList_append_bd {P : Program} {W0 w : World} {ops : Array Oper} {rest : List Oper} {o : Oper} {a : Act} {Q : Exit → Act → World → Prop} (hw : Region.wanted o (yielded ops a.tmps) = true)
    (s x : Operand) (t : TypeId) (ho : o.op = .call { callee := .builtin .append, args := #[s, x], argTypes := #[t, t] })
    {e : TypeId} {z : Value} {bytes : Nat} (T : SlT P t e z bytes) (v u : Value) (xs ys : List Value) (hs : a.eval s = v) (hx : a.eval x = u) (hB : Below W0.heap.size W0 w)
    (hown : Own w W0.heap.size e v xs) (hr : Rd w u ys) (h1 : ∀ y ∈ ys, y.oneCell' = true) (h63 : xs.length + ys.length ≤ maxLen) (hby : (xs.length + ys.length) * bytes ≤ 140737488355328)
    (h : ∀ v' w', Own w' W0.heap.size e v' (xs ++ ys) → Below W0.heap.size W0 w' → w.grownBy w' v.ownBlock → wpList P ops Q rest (a.put o.dst v') w') : wpList P ops Q (o :: rest) a w :=
  wpList_append_rd hw s x t ho T _ v u xs ys hs hx hown hr h1 h63 hby hB.size fun v' w' h2 h3 => h v' w' h2 (hB.grown h3 hB.size hown.base) h3

theorem Own.block {w : World} {base : Nat} {e : TypeId} {a : Option Addr} {n c : Nat} {xs : List Value} (h : Own w base e (.slice a n c) xs) (h0 : 0 < xs.length) :
    ∃ g tl, a = some ⟨g, 0, none⟩ ∧ base ≤ g ∧ g < w.heap.size ∧ w.heap[g]? = some (.cells (xs ++ tl).toArray e (0, 0)) := by
  rcases h.2 with ⟨_, h1⟩ | ⟨g, cap, cur, hv, hb, hg, _, _, _, ht⟩
  · omega
  · injection hv with e1 e2 e3
    rw [Nat.mul_one] at ht
    refine ⟨g, cur.toList.drop xs.length, e1, hb, (Array.getElem?_eq_some_iff.1 hg).1, ?_⟩
    rw [hg, ← ht]
    have : (cur.toList.take xs.length ++ cur.toList.drop xs.length).toArray = cur := by rw [List.take_append_drop]
    rw [ht] at this ⊢; rw [this]
theorem row_get (xs tl : List Value) (k : Nat) (h : k < xs.length) : (xs ++ tl).toArray[k]? = some (xs.getD k undef) := by
  simp [List.getElem?_append, h]
theorem B8_set (l : List (BitVec 8)) (k : Nat) (b : BitVec 8) : (B8 l).set k (.int .u8 (n8 b)) = B8 (l.set k b) := by simp [B8, List.map_set]

theorem wpList_copy_rd {P : Program} {w : World} {ops : Array Oper} {rest : List Oper} {o : Oper} {a : Act} {Q : Exit → Act → World → Prop} (hw : Region.wanted o (yielded ops a.tmps) = true)
    (d s : Operand) (t : TypeId) (ho : o.op = .call { callee := .builtin .copy, args := #[d, s], argTypes := #[t, t] })
    {e : TypeId} {z : Value} {bytes : Nat} (T : SlT P t e z bytes) (dp : Option Addr) (dLen dCap : Nat) (u : Value) (ys : List Value) (hd : a.eval d = .slice dp dLen dCap) (hs : a.eval s = u)
    (hr : Rd w u ys) (h1 : ∀ y ∈ ys, y.oneCell' = true) (g off : Nat) (hdp : dp = some ⟨g, off, none⟩) (cur : List Value) (te : TypeId) (hg : w.heap[g]? = some (.cells cur.toArray te (0, 0))) (hfit : off + dLen ≤ cur.length)
    (h : ∀ w', w'.heap[g]? = some (.cells (splice cur off (ys.take dLen)).toArray te (0, 0)) → (∀ k, k ≠ g → w'.heap[k]? = w.heap[k]?) → (∀ B W0, Below B W0 w → B ≤ g → Below B W0 w') → wpList P ops Q rest (a.put o.dst (goInt (ys.take dLen).length)) w') : wpList P ops Q (o :: rest) a w := by
  subst hdp
  have hs1 : (P.info? e).map (·.size) = some 1 := by
    obtain ⟨i, hi, hz, hs, hb⟩ := info_parts T.hi
    simp [hi, hs]
  obtain ⟨a', cap, rfl, hc, hm, hcell⟩ := hr
  refine wpList_step fun K hK => ?_
  rw [if_pos hw]
  have hl : (ys.take dLen).length = Nat.min ys.length dLen := by rw [List.length_take, Nat.min_comm]
  by_cases h0 : Nat.min ys.length dLen = 0
  · have hrun := run_copy_none (P := P) w t t o.type e (some ⟨g, off, none⟩) a' dLen dCap ys.length cap T.ht hs1 h0
    have he : ys.take dLen = [] := List.eq_nil_of_length_eq_zero (by rw [hl, h0])
    unfold Oper.wp
    simp only [execOp, ho, resolve, invoke, builtin, Sem.run_bind, Sem.run_pure, Result.andThen_ok, List.map_toArray, List.map_cons, List.map_nil, hd, hs, hrun]
    have := h w (by rw [he]; simpa [splice] using hg) (fun _ _ => rfl) (fun _ _ hb _ => hb)
    rw [he] at this
    exact hK _ _ this
  · rcases hcell with hz | ⟨b, oo, rfl, hcell⟩
    · rw [hz] at h0; simp at h0
    · have hsrc : ∀ j v, (ys.take dLen)[j]? = some v → w.cell? ((⟨b, oo, none⟩ : Addr).add j) = some v := by
        intro j v hv
        rw [List.getElem?_take] at hv
        split at hv
        · have hj : j < ys.length := (List.getElem?_eq_some_iff.1 hv).1
          have ea : (⟨b, oo, none⟩ : Addr).add j = ⟨b, oo + j, none⟩ := by unfold Addr.add; split <;> simp_all
          rw [ea, hcell j hj]; simp [List.getD, hv]
        · cases hv
      have hrun := run_copy_row (P := P) w t t o.type e g off dLen dCap ⟨b, oo, none⟩ ys.length cap cur.toArray te (ys.take dLen) T.ht hs1 hg hl hsrc
        (by simp [List.length_take]; omega) (fun v hv => h1 v (List.mem_of_mem_take hv))
      unfold Oper.wp
      simp only [execOp, ho, resolve, invoke, builtin, Sem.run_bind, Sem.run_pure, Result.andThen_ok, List.map_toArray, List.map_cons, List.map_nil, hd, hs, hrun]
      refine hK _ _ (h _ ?_ (fun k hk => setRow_other w g k _ hk) (fun B W0 hb hB => below_setRow hb hB _))
      rw [setRow_heap w g _ _ te _ hg]; simp [splice]

theorem wpList_store_agg {P : Program} {w : World} {ops : Array Oper} {rest : List Oper} {o : Oper} {a : Act} {Q : Exit → Act → World → Prop} (hw : Region.wanted o (yielded ops a.tmps) = true)
    (ty : TypeId) (x y : Operand) (ho : o.op = .store ty x y) (g : Nat) (cells : Array Value) (hx : a.eval x = .pointer (some ⟨g, 0, none⟩)) (hy : a.eval y = .agg cells)
    (t : TypeId) (old : Array Value) (hg : w.heap[g]? = some (.cells old t (0, 0))) (hi : (P.info? ty).map (·.size) = some cells.size) (hold : old.size = cells.size) (h1 : cells.all (·.oneCell') = true)
    (h : ∀ w', w'.heap[g]? = some (.cells cells t (0, 0)) → (∀ k, k ≠ g → w'.heap[k]? = w.heap[k]?) → (∀ B W0, Below B W0 w → B ≤ g → Below B W0 w') → wpList P ops Q rest (a.put o.dst undef) w') : wpList P ops Q (o :: rest) a w := by
  refine wpList_step fun K hK => ?_
  rw [if_pos hw]
  exact wp_store_row ty x y ho g cells hx hy t old hg hi hold h1 (hK _ _ (h _ (setRow_heap w g old _ t _ hg) (fun k hk => setRow_other w g k _ hk) (fun B W0 hb hB => below_setRow hb hB _)))

theorem Rd.cut {w : World} {a : Option Addr} {n cap : Nat} {xs : List Value} (hr : Rd w (.slice a n cap) xs) (l h : Nat) (h1 : l ≤ h) (h2 : h ≤ n) :
    Rd w (.slice (if cap = l then a else a.map (·.add l)) (h - l) (cap - l)) ((xs.take h).drop l) := by
  obtain ⟨a', c', e, g1, g2, g3⟩ := hr
  injection e with e1 e2 e3
  subst e1 e2 e3
  have hl : ((xs.take h).drop l).length = h - l := by simp; omega
  refine ⟨_, cap - l, by rw [hl], by omega, by omega, ?_⟩
  rw [hl]
  by_cases h0 : h - l = 0
  · exact .inl h0
  · rcases g3 with g3 | ⟨b, off, rfl, g3⟩
    · omega
    · refine .inr ⟨b, off + l, ?_, fun i hi => ?_⟩
      · rw [if_neg (by omega)]
        simp [Addr.add]
      · rw [Nat.add_assoc, g3 (l + i) (by omega)]
        simp [List.getD, List.getElem?_drop, List.getElem?_take]
        rw [if_pos (by omega)]
theorem B8_one (l : List (BitVec 8)) : ∀ y ∈ B8 l, y.oneCell' = true := by
  intro y hy
  obtain ⟨b, _, rfl⟩ := List.mem_map.1 hy
  rfl
theorem B8_append (a b : List (BitVec 8)) : B8 (a ++ b) = B8 a ++ B8 b := List.map_append

theorem made8 (n : Nat) : madeCells #[Value.int .u8 0] n = (B8 (List.replicate n 0#8)).toArray := by
  apply Array.ext_getElem?
  intro j
  by_cases hj : j < n
  · simp [madeCells, hj, Nat.mod_one, B8]; rfl
  · rw [Array.getElem?_eq_none (by simp [madeCells]; omega), Array.getElem?_eq_none (by simp [B8]; omega)]
/-- make([]byte, n) -/
theorem make8 {P : Program} {t e : TypeId} (T : SlT P t e (.int .u8 0) 1) (n : Nat) (hn : n ≤ 281474976710656) (w : World) :
    (Instr.makeSlice t (.int .i64 (n : Int)) (.int .i64 (n : Int))).run P w = .ok (.slice (some ⟨w.heap.size, 0, none⟩) n n) (w.alloc (.cells (B8 (List.replicate n 0#8)).toArray e)) := by
  have := run_make_row' (P := P) t e (.int .u8 0) 1 T.ht T.hi rfl .i64 .i64 n (by omega) (by omega) w
  rwa [made8] at this

end Go.Proofs.Ytmbnclpgldglnaa
end
section
namespace Go.Proofs.Ytmbnclpgldglnaa
open Go.RowKit Go.Lib
set_option linter.unusedVariables false
set_option linter.unusedSimpArgs false

/-- the text of bytes -/
def sOf (l : List (BitVec 8)) : ByteArray := ⟨(l.map UInt8.ofBitVec).toArray⟩
theorem sOf_size (l : List (BitVec 8)) : (sOf l).size = l.length := by
  show (l.map UInt8.ofBitVec).toArray.size = _; simp
theorem sOf_get (l : List (BitVec 8)) (i : Nat) (h : i < (sOf l).size) : ((sOf l)[i].toNat : Int) = n8 (l.getD i 0) := by
  have hi : i < l.length := by rw [sOf_size] at h; exact h
  show (((l.map UInt8.ofBitVec).toArray[i]'(by simpa using hi)).toNat : Int) = _
  simp [n8, hi, UInt8.toNat]
end Go.Proofs.Ytmbnclpgldglnaa
end
section
namespace Go.Proofs.Ytmbnclpgldglnaa
open Go.RowKit
set_option linter.unusedVariables false
set_option linter.unusedSimpArgs false


theorem slT8 : SlT Try.prog 22 5 (.int .u8 0) 1 := ⟨Try.underlying22, by kernel_rfl, rfl⟩

/-- a number's bytes, so many -/
def ser (x : BitVec 64) (s : Nat) : List (BitVec 8) := (List.range s).map fun i => (x >>> (8 * (s - 1 - i))).setWidth 8
theorem ser_len (x : BitVec 64) (s : Nat) : (ser x s).length = s := by simp [ser]

def serTo (x : BitVec 64) (s k : Nat) : List (BitVec 8) := (List.range s).map fun i => if i < k then (x >>> (8 * (s - 1 - i))).setWidth 8 else 0#8
theorem serTo_all (x : BitVec 64) (s : Nat) : serTo x s s = ser x s := by
  unfold serTo ser
  exact List.map_congr_left fun i hi => by rw [if_pos (by simpa using hi)]
theorem splice_ser (bs : List (BitVec 8)) (x : BitVec 64) (s : Nat) : splice (B8 (List.replicate (bs.length + s) 0#8)) 0 ((B8 bs).take (bs.length + s)) = B8 (bs ++ serTo x s 0) := by
  have : serTo x s 0 = List.replicate s 0#8 := by simp [serTo, List.map_const']
  rw [this, B8_append, List.take_of_length_le (by rw [B8_len]; omega)]
  simp [splice, B8, List.drop_replicate]
theorem serTo_set (bs : List (BitVec 8)) (x : BitVec 64) (s k : Nat) (h : k < s) : (bs ++ serTo x s k).set (bs.length + k) ((x >>> (8 * (s - 1 - k))).setWidth 8) = bs ++ serTo x s (k + 1) := by
  rw [List.set_append_right _ _ (by omega)]
  congr 1
  rw [Nat.add_sub_cancel_left]
  apply List.ext_getElem (by simp [serTo])
  intro i h1 h2
  simp only [serTo, List.getElem_set, List.getElem_map, List.getElem_range]
  by_cases e : k = i
  · subst e; simp
  · simp [e]; congr 1; simp; omega
theorem byte64 (x : BitVec 64) (m : Nat) : n64 x / (2 : Int) ^ m % (256 : Int) = n8 ((x >>> m).setWidth 8) := by
  unfold n64 n8
  rw [BitVec.toNat_setWidth, BitVec.toNat_ushiftRight, Nat.shiftRight_eq_div_pow]; simp
theorem B8_at (l : List (BitVec 8)) (i : Nat) (h : i < l.length) : (B8 l).toArray[i]? = some (.int .u8 (n8 (l.getD i 0))) := by
  simp [B8, h]

set_option maxHeartbeats 800000 in
set_option maxRecDepth 100000 in
theorem behind_calls (bs : List (BitVec 8)) (x : BitVec 64) (s : Nat) (v : Value) (w : World) (h : Rd w v (B8 bs)) (hb : bs.length ≤ 1000000000) (hs : s ≤ 8) :
    Calls Try.prog 84 #[v, .int .u64 (n64 x), .int .i64 (s : Int)] w fun e w' => ∃ v', e = .returned v' ∧ Own w' w.heap.size 5 v' (B8 (bs ++ ser x s)) ∧ Below w.heap.size w w' := by
  obtain ⟨a, cap, rfl, hc, hm⟩ := h.slice
  have hmk := make8 slT8 (bs.length + s) (by omega)
  rw [B8_len] at *
  have e1 : ((bs.length + s : Nat) : Int) = (bs.length : Int) + s := by omega
  rw [e1] at hmk
  go_enter Try.func84, Try.ntmps84
  go_wp2_with (first
    | (refine wpList_copy_rd (o := ⟨some 17, _, _, _, _, _⟩) rfl _ _ 22 rfl slT8 _ _ _ (.slice a bs.length cap) (B8 bs) rfl rfl (h.alloc _) (B8_one _) w.heap.size 0 rfl _ _ (heap_alloc_new _ _) (by simp [B8_len]) ?_; intro w1 e1 e2 e3)
    | fail)
  rw [show min (bs.length + s) (B8 bs).length = bs.length by rw [B8_len]; omega]
  have G0 : Hid (w1.heap[w.heap.size]? = some (.cells (B8 (bs ++ serTo x s 0)).toArray 5 (0, 0))) := Lib.hid (by rw [e1, splice_ser])
  have B0 : Hid (Below w.heap.size w w1) := Lib.hid (e3 _ _ ((Below.refl _ _).alloc (Nat.le_refl _) _) (Nat.le_refl _))
  clear e1 e2 e3 hmk h
  go_loopw [19] (fun i wr => ∃ k : Nat, k ≤ s ∧ i = .int .i64 k ∧ wr.heap[w.heap.size]? = some (.cells (B8 (bs ++ serTo x s k)).toArray 5 (0, 0)) ∧ Below w.heap.size w wr) (fun i _ => s - (intOf i).toNat)
  case atStart => exact ⟨0, by omega, rfl, G0.out, B0.out⟩
  case round =>
    clear G0 B0
    obtain ⟨k, hk, rfl, G, hB⟩ := hrel
    have HG := Lib.hid G
    have HB := Lib.hid hB
    by_cases hlt : k < s
    · have c1 := cell_of_row wr _ (bs.length + k) _ _ _ G
      rw [B8_at _ _ (by simp [serTo]; omega)] at c1
      generalize (bs ++ serTo x s k).getD (bs.length + k) 0 = q at c1
      have f1 := frozen_of_row wr _ (bs.length + k) _ _ G
      clear G hB
      go_wp2
      go_roundw
      case rel =>
        refine ⟨k + 1, by omega, by go_num, ?_, HB.out.setCell (Nat.le_refl _) _⟩
        rw [byte64, heap_setCell_same _ _ _ _ _ _ HG.out, List.setIfInBounds_toArray, B8_set, serTo_set _ _ _ _ hlt]
      case measure => simp only [intOf]; omega
    · have em : Hid (k = s) := Lib.hid (by omega)
      clear G hB
      go_wp2
      go_ret
      refine ⟨_, rfl, ?_, HB.out⟩
      have hg := HG.out
      rw [em.out, serTo_all] at hg
      exact ⟨by simp, .inr ⟨_, bs.length + s, _, by rw [B8_len]; simp [ser_len], Nat.le_refl _, hg, by simp [B8_len, ser_len], by unfold maxLen; omega, by simp [B8_len, ser_len], by simp⟩⟩

theorem u64_of (n : Int) : IntKind.u64.wrap n = n64 (BitVec.ofInt 64 n) := by
  unfold n64
  rw [IntKind.wrap_u64, BitVec.toNat_ofInt]
  omega
/-- a number, put down -/
def encI (n : Int) : List (BitVec 8) := ser (BitVec.ofInt 64 n) 8
theorem encI_len (n : Int) : (encI n).length = 8 := ser_len _ _
set_option maxHeartbeats 800000 in
theorem oint_calls (bs : List (BitVec 8)) (n : Int) (v : Value) (w : World) (h : Rd w v (B8 bs)) (hb : bs.length ≤ 1000000000) :
    Calls Try.prog 53 #[v, .int .i64 n] w fun e w' => ∃ v', e = .returned v' ∧ Own w' w.heap.size 5 v' (B8 (bs ++ encI n)) ∧ Below w.heap.size w w' := by
  have hu := u64_of n
  go_enter Try.func53, Try.ntmps53
  go_wp2_with fail
  clear hu
  refine (behind_calls bs (BitVec.ofInt 64 n) 8 _ _ h hb (by omega)).mono ?_
  rintro e w' ⟨v', rfl, ho, hB⟩
  go_wp2
  go_ret
  exact ⟨_, rfl, ho, hB⟩

/-- a slice above a line -/
def Fresh (N : Nat) (v : Value) : Prop := ∀ a n c, v = .slice (some a) n c → N ≤ a.block
theorem Own.fresh {w : World} {N : Nat} {e : TypeId} {v : Value} {xs : List Value} (h : Own w N e v xs) : Fresh N v := by
  rintro a n c rfl
  obtain ⟨_, h⟩ := h
  rcases h with ⟨h, _⟩ | ⟨g, cap, cur, h, hb, _⟩
  · cases h
  · injection h with h1; injection h1 with h1; subst h1; exact hb
end Go.Proofs.Ytmbnclpgldglnaa
end
section
namespace Go.Proofs.Ytmbnclpgldglnaa
open Go.RowKit
set_option linter.unusedVariables false
set_option linter.unusedSimpArgs false
set_option maxRecDepth 20000
def tb (l : List UInt8) : List (BitVec 8) := l.map UInt8.toBitVec
def fb (l : List (BitVec 8)) : List UInt8 := l.map UInt8.ofBitVec
theorem tb_fb (l : List (BitVec 8)) : tb (fb l) = l := by
  unfold tb fb; rw [List.map_map, show UInt8.toBitVec ∘ UInt8.ofBitVec = id from rfl]; simp
theorem tb_len (l : List UInt8) : (tb l).length = l.length := by simp [tb]
theorem fb_len (l : List (BitVec 8)) : (fb l).length = l.length := by simp [fb]
theorem fb_tb (l : List UInt8) : fb (tb l) = l := by
  unfold tb fb; rw [List.map_map, show UInt8.ofBitVec ∘ UInt8.toBitVec = id from rfl]; simp
theorem sB_fb (l : List (BitVec 8)) : sB (fb l) = sOf l := rfl
theorem sB_tb (l : List UInt8) : sB l = sOf (tb l) := by rw [← sB_fb, fb_tb]
/-- bytes that are known are read -/
theorem rd_of_k {K : Kd} {w : World} (hk : KOk K w) {full : Bool} {l : List UInt8} {v : Value} (h : KRep K (.sl full l.length (aOfBytes l)) v) : Rd w v (B8 (tb l)) := by
  generalize hn : l.length = n at h
  generalize hc : aOfBytes l = cs at h
  cases h with
  | sl0 full a cap hm hf =>
    have : l = [] := List.eq_nil_of_length_eq_zero hn
    subst this
    exact ⟨a, cap, rfl, Nat.zero_le _, hm, .inl rfl⟩
  | sl full n cells b o cap h0 hm hf h1 h3 =>
    subst hc hn
    refine ⟨some ⟨b, o, none⟩, cap, by rw [B8_len, tb_len], by rw [B8_len, tb_len]; exact h0, hm, .inr ⟨b, o, rfl, fun i hi => ?_⟩⟩
    rw [B8_len, tb_len] at hi
    rw [(hk.at_ h1 (by rw [aOfBytes_len']; exact hi)).1]
    have hx : (aOfBytes l)[i]? = some (.int .u8 ((l[i]).toNat : Int)) := by simp [aOfBytes, hi]
    rw [kint_inv (h3 i _ hx)]
    congr 1
    rw [B8_getD _ _ (by rw [tb_len]; exact hi)]
    simp [tb, hi, n8]
/-- new bytes that are read are known -/
theorem k_of_rd {K : Kd} {w : World} {N : Nat} {l : List (BitVec 8)} {v : Value} (h : Rd w v (B8 l)) (hf : Fresh N v) : KRep (K.wide N w) (.sl false (fb l).length (aOfBytes (fb l))) v := by
  obtain ⟨a, cap, rfl, h1, h2, h3⟩ := h
  rw [B8_len] at h1 h3 ⊢
  rw [fb_len]
  by_cases h0 : l.length = 0
  · have : l = [] := List.eq_nil_of_length_eq_zero h0
    subst this
    exact .sl0 _ _ _ h2 (fun q => by cases q)
  · rcases h3 with h3 | ⟨b, o, rfl, h3⟩
    · exact absurd h3 h0
    · have hN : ¬ b < N := by have := hf _ _ _ rfl; simp only at this; omega
      have hl : (aOfBytes (fb l)).length = l.length := by rw [aOfBytes_len', fb_len]
      have hc : ∀ i, i < l.length → w.cell? ⟨b, o + i, none⟩ = some (.int .u8 (n8 (l.getD i 0))) := fun i hi => by
        rw [h3 i hi, B8_getD _ _ hi]
      have hv : ∀ i, i < l.length → (K.wide N w).val b (o + i) = .int .u8 (n8 (l.getD i 0)) := fun i hi => by
        simp only [Kd.wide, hN, if_false]; exact val_of (hc i hi)
      refine .sl _ _ _ _ _ _ h1 h2 (fun q => by cases q) ⟨?_, fun i hi => ?_⟩ fun i x hx => ?_
      · rw [hl]
        have := hw_of (hc (l.length - 1) (by omega))
        simp only [Kd.wide, hN, if_false]; omega
      · rw [hl] at hi; rw [hv i hi]; rfl
      · have hi : i < l.length := by have := getq_lt hx; rw [hl] at this; exact this
        rw [hv i hi]
        have : x = .int .u8 (n8 (l.getD i 0)) := by
          simp [aOfBytes, fb, hi] at hx
          rw [← hx]; simp [n8, hi]
        subst this
        exact .int _ _
def pI (l : List UInt8) (n : Int) : List UInt8 := fb (tb l ++ encI n)
theorem aInt_spec (full : Bool) (l : List UInt8) (n : Int) (hb : l.length ≤ 1000000) : Spec Try.prog 53 [.sl full l.length (aOfBytes l), .int .i64 n] (.k (.sl false (pI l n).length (aOfBytes (pI l n)))) := by
  refine spec_calls ⟨_, Try.func53, rfl, rfl⟩ fun K w vs hk ha => ?_
  obtain ⟨u, v, rfl, g0, g1⟩ := args2 ha
  rw [kint_inv g1]
  refine (oint_calls (tb l) n u w (rd_of_k hk g0) (by rw [tb_len]; omega)).mono ?_
  rintro e w' ⟨v', rfl, ho, b⟩
  exact ⟨v', rfl, b, k_of_rd ho.rd ho.fresh⟩
end Go.Proofs.Ytmbnclpgldglnaa
end
section
namespace Go.Proofs.Ytmbnclpgldglnaa
open Go.RowKit
set_option linter.unusedVariables false
set_option linter.unusedSimpArgs false


/-! eight bytes as a number -/
theorem fold_snoc {α β : Type} (f : β → α → β) (d : α) (s : β) (l : List α) (k : Nat) (h : k < l.length) :
    (l.take (k + 1)).foldl f s = f ((l.take k).foldl f s) (l.getD k d) := by
  rw [List.take_succ_eq_append_getElem h, List.foldl_append]
  simp [h]
def vN (l : List (BitVec 8)) : BitVec 64 := l.foldl (fun n b => n <<< 8 + b.setWidth 64) 0#64
theorem vN_step (x : BitVec 64) (b : BitVec 8) : IntKind.u64.wrap (IntKind.u64.wrap (n64 x * 256) + IntKind.u64.wrap (n8 b)) = n64 (x <<< 8 + b.setWidth 64) := by
  rw [IntKind.wrap_u64, IntKind.wrap_u64, IntKind.wrap_u64]
  unfold n64 n8
  rw [BitVec.toNat_add, BitVec.toNat_shiftLeft, BitVec.toNat_setWidth, Nat.shiftLeft_eq]
  have := b.isLt
  rw [Nat.mod_eq_of_lt (by omega : b.toNat < 2 ^ 64)]
  simp
set_option maxHeartbeats 800000 in
theorem value_calls (l : List (BitVec 8)) (w : World) (hl : l.length ≤ 1000000000) :
    Calls Try.prog 88 #[.string (sOf l)] w fun e w' => e = .returned (.int .i64 (wrap64 (n64 (vN l)))) ∧ w = w' := by
  have hz := sOf_size l
  go_enter Try.func88, Try.ntmps88
  go_wp2
  go_loop [3, 7] (fun n i => ∃ k : Nat, k ≤ l.length ∧ i = .int .i64 k ∧ n = .int .u64 (n64 (vN (l.take k)))) (fun _ i => l.length - (intOf i).toNat)
  case atStart => exact ⟨0, by omega, rfl, rfl⟩
  case round =>
    obtain ⟨k, hk, rfl, rfl⟩ := hrel
    by_cases hlt : k < l.length
    · have hlt2 : k < (sOf l).size := by omega
      have hg := sOf_get l k hlt2
      go_wp2
      go_round
      case rel =>
        refine ⟨k + 1, by omega, by go_num, ?_⟩
        rw [vN_step]; unfold vN; rw [fold_snoc _ 0 _ _ _ hlt]; simp [hlt]
      case measure => simp only [intOf]; omega
    · have em : Hid (k = l.length) := Lib.hid (by omega)
      go_wp2
      go_ret
      exact ⟨by rw [em.out, List.take_length]; rfl, rfl⟩
def vI (l : List (BitVec 8)) : Int := wrap64 (n64 (vN l))
theorem vN_snoc (l : List (BitVec 8)) (b : BitVec 8) : vN (l ++ [b]) = vN l <<< 8 + b.setWidth 64 := by simp [vN]
theorem ser_snoc (x : BitVec 64) (k : Nat) : ser x (k + 1) = ser (x >>> 8) k ++ [x.setWidth 8] := by
  apply List.ext_getElem?
  intro i
  by_cases h1 : i < k
  · rw [List.getElem?_append_left (by simp [ser]; omega)]
    simp only [ser, List.getElem?_map, List.getElem?_range (show i < k + 1 by omega), List.getElem?_range h1, Option.map_some]
    rw [← BitVec.shiftRight_add, show 8 * (k + 1 - 1 - i) = 8 + 8 * (k - 1 - i) by omega]
  · rw [List.getElem?_append_right (by simp [ser]; omega), ser_len]
    by_cases h2 : i = k
    · subst h2
      simp [ser, List.getElem?_range (show i < i + 1 by omega)]
    · rw [List.getElem?_eq_none (by simp [ser]; omega), List.getElem?_eq_none (by simp; omega)]
theorem vN_ser (k : Nat) (hk : k ≤ 8) (x : BitVec 64) : (vN (ser x k)).toNat = x.toNat % 2 ^ (8 * k) := by
  induction k generalizing x with
  | zero => simp [ser, vN, Nat.mod_one]
  | succ k ih =>
    rw [ser_snoc, vN_snoc, BitVec.toNat_add, BitVec.toNat_shiftLeft, ih (by omega)]
    have hm : 2 ^ (8 * (k + 1)) = 256 * 2 ^ (8 * k) := by rw [show 8 * (k + 1) = 8 + 8 * k by omega, Nat.pow_add]
    have hp : 2 ^ (8 * k) ≤ 2 ^ 56 := Nat.pow_le_pow_right (by omega) (by omega)
    rw [hm, Nat.mod_mul]
    have hlt : x.toNat / 256 % 2 ^ (8 * k) < 2 ^ (8 * k) := Nat.mod_lt _ (Nat.pow_pos (by omega))
    simp only [BitVec.toNat_ushiftRight, Nat.shiftRight_eq_div_pow, Nat.shiftLeft_eq, BitVec.toNat_setWidth]
    rw [show (2 : Nat) ^ 8 = 256 by rfl]
    generalize x.toNat / 256 % 2 ^ (8 * k) = q at *
    omega
theorem vI_encI (n : Int) (h1 : -9223372036854775808 ≤ n) (h2 : n ≤ 9223372036854775807) : vI (encI n) = n := by
  have : vN (encI n) = BitVec.ofInt 64 n := BitVec.eq_of_toNat_eq (by
    rw [encI, vN_ser 8 (by omega)]
    have := (BitVec.ofInt 64 n).isLt
    omega)
  unfold vI
  rw [this, ← u64_of]
  simp only [wrap64, IntKind.wrap, IntKind.bits, IntKind.signed]
  simp
  omega
/-- bytes as a number -/
def vB (l : List UInt8) : Int := vI (tb l)
theorem fb_app (a b : List (BitVec 8)) : fb (a ++ b) = fb a ++ fb b := by simp [fb]
theorem pI_app (l : List UInt8) (n : Int) : pI l n = l ++ fb (encI n) := by rw [pI, fb_app, fb_tb]
theorem vB_enc (n : Int) (h1 : -9223372036854775808 ≤ n) (h2 : n ≤ 9223372036854775807) : vB (fb (encI n)) = n := by rw [vB, tb_fb, vI_encI n h1 h2]
theorem value_spec (l : List UInt8) (hl : l.length ≤ 1000000) : Spec Try.prog 88 [.str (sB l)] (.k (.int .i64 (vB l))) := by
  refine spec_calls ⟨_, Try.func88, rfl, rfl⟩ fun K w vs hk ha => ?_
  obtain ⟨u, rfl, hu⟩ := args1 ha
  rw [kstr_inv hu, sB_tb]
  refine (value_calls (tb l) w (by rw [tb_len]; omega)).mono ?_
  rintro e w' ⟨rfl, rfl⟩
  exact ⟨_, rfl, Below.refl _ _, .int _ _⟩
theorem sB_ext (l : List UInt8) (a b : Nat) : (sB l).extract a b = sB ((l.take b).drop a) := by
  apply ByteArray.ext
  rw [ByteArray.data_extract]
  apply Array.toList_inj.1
  have e : ∀ (l : List UInt8), ((l.drop a).take (b - a)) = (l.take b).drop a := fun l => by rw [List.drop_take]
  simp only [sB, Array.toList_extract, List.extract, List.map_id', e]
/-! a reader of bytes -/
theorem onew_spec (full : Bool) (l : List UInt8) : Spec Try.prog 57 [.sl full l.length (aOfBytes l)] (.new [.str (sB l), .bool false]) := by
  have hla := aOfBytes_len l
  refine spec_of_new (fun _ => false) (by kernel_rfl) Try.func57 rfl rfl (by simp [Try.ntmps57]) (by decide) ?_
  intro δ
  rw [init1]
  repeat (first | with_reducible (first | refine aWp_seq ?_ | refine seq_normal ?_ | refine seq_ret ?_ | refine seq_exit ?_ | refine blk_normal ?_ | refine blk_ret ?_ | refine blk_hit ?_ | refine blk_miss rfl ?_ | refine aWp_ret ?_ | refine aWp_skip ?_ | refine aWp_block ?_ | refine aWp_exit ?_ | refine end_ret ?_ | refine end_normal ?_) | ((refine rgA ?_); intro ν) | ((with_reducible apply cndT); exact rfl; (first | rfl | assumption)) | ((with_reducible apply cndF); exact rfl; (first | rfl | assumption)))
  (first | with_reducible refine end_r ?_ | with_reducible refine end_n ?_)
  exact ⟨_, _, _, rfl, rfl, rfl⟩
theorem initM2 (x y : MA) (k : Nat) (cs : List AV) (md : Md) : initM [x, y] k cs md = ⟨upd (upd (fun _ => .k .any) 0 (x.sv k)) 1 (y.sv k), upd (fun _ => none) k (some (0, .obj cs)), 1, md⟩ := by
  unfold initM; congr 1; funext t
  match t with
  | 0 => rfl
  | 1 => rfl
  | t + 2 => simp [upd]
theorem initM1 (x : MA) (k : Nat) (cs : List AV) (md : Md) : initM [x] k cs md = ⟨upd (fun _ => .k .any) 0 (x.sv k), upd (fun _ => none) k (some (0, .obj cs)), 1, md⟩ := by
  unfold initM; congr 1; funext t
  match t with
  | 0 => rfl
  | t + 1 => simp [upd]
theorem next_spec (l : List UInt8) (hl : 8 ≤ l.length) (hb : l.length ≤ 100000) : MSpec Try.prog 87 [.ob 0, .k (.int .i64 8)] [.str (sB l), .bool false] (some [.str (sB (l.drop 8)), .bool false]) (.tup [.str (sB (l.take 8)), .bool true]) := by
  refine mspec_of 0 (fun _ => false) false (by kernel_rfl) Try.func87 rfl rfl (by simp [Try.ntmps87]) (by decide) rfl ?_
  intro δ
  rw [initM2]
  simp only [MA.sv]
  have hs := sB_size l
  have e1 := sB_ext l 0 8
  have e2 := sB_ext l 8 (sB l).size
  rw [List.drop_zero] at e1
  rw [hs, List.take_length] at e2
  rw [← e1, ← e2]
  generalize sB l = b at *
  repeat (first | with_reducible (first | refine aWp_seq ?_ | refine seq_normal ?_ | refine seq_ret ?_ | refine seq_exit ?_ | refine blk_normal ?_ | refine blk_ret ?_ | refine blk_hit ?_ | refine blk_miss rfl ?_ | refine aWp_ret ?_ | refine aWp_skip ?_ | refine aWp_block ?_ | refine aWp_exit ?_ | refine end_ret ?_ | refine end_normal ?_) | ((refine rgA ?_); intro ν) | ((with_reducible apply cndT); exact rfl; (first | rfl | assumption)) | ((with_reducible apply cndF); exact rfl; (first | rfl | assumption)))
  refine rgxA [(4,[0],[]),(10,[0],[]),(16,[0],[0])] ?_
  intro ν
  repeat (first | with_reducible (first | refine aWp_seq ?_ | refine seq_normal ?_ | refine seq_ret ?_ | refine seq_exit ?_ | refine blk_normal ?_ | refine blk_ret ?_ | refine blk_hit ?_ | refine blk_miss rfl ?_ | refine aWp_ret ?_ | refine aWp_skip ?_ | refine aWp_block ?_ | refine aWp_exit ?_ | refine end_ret ?_ | refine end_normal ?_) | ((refine rgA ?_); intro ν) | ((with_reducible apply cndT); exact rfl; (first | rfl | assumption)) | ((with_reducible apply cndF); exact rfl; (first | rfl | assumption)))
  (first | with_reducible refine end_r ?_ | with_reducible refine end_n ?_)
  refine ⟨?_, _, rfl, WkL.of_eq (by rw [hs])⟩
  refine en2 ?_
  rfl
theorem rint_spec (l : List UInt8) (hl : 8 ≤ l.length) (hb : l.length ≤ 100000) : MSpec Try.prog 58 [.ob 0] [.str (sB l), .bool false] (some [.str (sB (l.drop 8)), .bool false]) (.int .i64 (vB (l.take 8))) := by
  have s1 := next_spec l hl hb
  have s2 := value_spec (l.take 8) (by simp; omega)
  refine mspec_of 0 (fun _ => false) false (by kernel_rfl) Try.func58 rfl rfl (by simp [Try.ntmps58]) (by decide) rfl ?_
  intro δ
  rw [initM1]
  simp only [MA.sv]
  generalize sB l = b0 at *
  generalize sB (l.drop 8) = b1 at *
  generalize sB (l.take 8) = b2 at *
  repeat with_reducible (first | refine aWp_seq ?_ | refine seq_normal ?_ | refine seq_ret ?_ | refine seq_exit ?_ | refine blk_normal ?_ | refine blk_ret ?_ | refine blk_hit ?_ | refine blk_miss rfl ?_ | refine aWp_ret ?_ | refine aWp_skip ?_ | refine aWp_block ?_ | refine aWp_exit ?_ | refine end_ret ?_ | refine end_normal ?_)
  refine rgA ?_
  intro ν
  repeat with_reducible (first | refine aWp_seq ?_ | refine seq_normal ?_ | refine seq_ret ?_ | refine seq_exit ?_ | refine blk_normal ?_ | refine blk_ret ?_ | refine blk_hit ?_ | refine blk_miss rfl ?_ | refine aWp_ret ?_ | refine aWp_skip ?_ | refine aWp_block ?_ | refine aWp_exit ?_ | refine end_ret ?_ | refine end_normal ?_)
  refine rg fun K hK => ?_
  refine stA ?_
  (first | with_reducible refine g0 ?_ | ((with_reducible refine g1 ?_ ?_); (with_reducible apply gt_); exact rfl; exact rfl; (first | rfl | assumption | (simp [*] <;> done)))); (first | refine smA (h2 := (s1)) (e := 0) (hk := ?_) | refine smA0 (h2 := (s1)) (e := 0) (hk := ?_) | refine smN (h2 := (s1)) (e := 0) (hk := ?_))
  refine stA ?_
  with_reducible refine rz ?_
  refine hK _ _ _ ?_
  clear hK K; intro ν
  repeat with_reducible (first | refine aWp_seq ?_ | refine seq_normal ?_ | refine seq_ret ?_ | refine seq_exit ?_ | refine blk_normal ?_ | refine blk_ret ?_ | refine blk_hit ?_ | refine blk_miss rfl ?_ | refine aWp_ret ?_ | refine aWp_skip ?_ | refine aWp_block ?_ | refine aWp_exit ?_ | refine end_ret ?_ | refine end_normal ?_)
  refine rg fun K hK => ?_
  refine stA ?_
  (first | with_reducible refine g0 ?_ | ((with_reducible refine g1 ?_ ?_); (with_reducible apply gt_); exact rfl; exact rfl; (first | rfl | assumption | (simp [*] <;> done)))); refine scA (h2 := (s2)) (hk := ?_)
  refine stA ?_
  with_reducible refine rz ?_
  refine hK _ _ _ ?_
  clear hK K; intro ν
  repeat (first | with_reducible (first | refine aWp_seq ?_ | refine seq_normal ?_ | refine seq_ret ?_ | refine seq_exit ?_ | refine blk_normal ?_ | refine blk_ret ?_ | refine blk_hit ?_ | refine blk_miss rfl ?_ | refine aWp_ret ?_ | refine aWp_skip ?_ | refine aWp_block ?_ | refine aWp_exit ?_ | refine end_ret ?_ | refine end_normal ?_) | ((refine rgA ?_); intro ν) | ((with_reducible apply cndT); exact rfl; (first | rfl | assumption)) | ((with_reducible apply cndF); exact rfl; (first | rfl | assumption)))
  (first | with_reducible refine end_r ?_ | with_reducible refine end_n ?_)
  refine ⟨?_, _, rfl, WkL.of_eq rfl⟩
  refine en1 ?_
  rfl
end Go.Proofs.Ytmbnclpgldglnaa
end
section
namespace Go.Proofs.Ytmbnclpgldglnaa
open Go.RowKit Go.Lib
set_option linter.unusedVariables false
set_option linter.unusedSimpArgs false
set_option maxRecDepth 20000
attribute [local go_sem] Oper.semAt_some
/-! the long product, as the kit's worked proof has it -/
theorem m64_mask (a : Nat) (ha : a < 18446744073709551616) : bits .and .u64 (a : Int) 4294967295 = ((a % 4294967296 : Nat) : Int) := by
  have h := bits_and_u64_nat a 4294967295 ha (by omega)
  have e : a &&& 4294967295 = a % 4294967296 := Nat.and_two_pow_sub_one_eq_mod a 32
  rw [e] at h
  exact h
theorem m64_div (a : Nat) : (a : Int) / 4294967296 = ((a / 4294967296 : Nat) : Int) := by omega
theorem m64_mul (a b : Nat) : (a : Int) * (b : Int) = ((a * b : Nat) : Int) := (Int.natCast_mul a b).symm
theorem m64_add (a b : Nat) : (a : Int) + (b : Int) = ((a + b : Nat) : Int) := (Int.natCast_add a b).symm
theorem m64_wrap (a : Nat) (ha : a < 18446744073709551616) : IntKind.u64.wrap (a : Int) = (a : Int) := by rw [IntKind.wrap_u64]; omega
theorem m64_wrapM (a : Nat) : IntKind.u64.wrap (a : Int) = ((a % 18446744073709551616 : Nat) : Int) := by rw [IntKind.wrap_u64]; omega
set_option maxHeartbeats 1000000 in
theorem mul64_calls (x y : Nat) (hx : x < 18446744073709551616) (hy : y < 18446744073709551616) (w : World) :
    Calls Try.prog 107 #[.int .u64 x, .int .u64 y] w fun e w' => e = .returned (.tuple #[.int .u64 ((x * y / 18446744073709551616 : Nat) : Int), .int .u64 ((x * y % 18446744073709551616 : Nat) : Int)]) ∧ w' = w := by
  obtain ⟨bd, bt, bw, hhi⟩ := Lib.mul64_hi x y hx hy
  have ba := Lib.half_mul_le (a := x / 4294967296) (b := y / 4294967296) (by omega) (by omega)
  have bb := Lib.half_mul_le (a := x / 4294967296) (b := y % 4294967296) (by omega) (by omega)
  have bc := Lib.half_mul_le (a := x % 4294967296) (b := y / 4294967296) (by omega) (by omega)
  have ba' : x / 4294967296 * (y / 4294967296) < 18446744073709551616 := by omega
  have bb' : x / 4294967296 * (y % 4294967296) < 18446744073709551616 := by omega
  have bc' : x % 4294967296 * (y / 4294967296) < 18446744073709551616 := by omega
  have bh1 : x / 4294967296 * (y / 4294967296) + (x / 4294967296 * (y % 4294967296) + x % 4294967296 * (y % 4294967296) / 4294967296) / 4294967296 < 18446744073709551616 := by omega
  have bh : x / 4294967296 * (y / 4294967296) + (x / 4294967296 * (y % 4294967296) + x % 4294967296 * (y % 4294967296) / 4294967296) / 4294967296 + ((x / 4294967296 * (y % 4294967296) + x % 4294967296 * (y % 4294967296) / 4294967296) % 4294967296 + x % 4294967296 * (y / 4294967296)) / 4294967296 < 18446744073709551616 := by omega
  go_enter Try.func107, Try.ntmps107
  go_wp2
  simp only [m64_mask x hx, m64_mask y hy, m64_div, m64_mul, m64_add, m64_wrap _ bd, m64_wrap _ bb', m64_wrap _ bt, m64_mask _ bt, m64_wrap _ bc', m64_wrap _ bw, m64_wrap _ ba', m64_wrap _ bh1, m64_wrap _ bh, m64_wrapM (x * y)]
  rw [hhi]
  go_ret2
  exact ⟨rfl, rfl⟩
theorem mul64_spec (x y : Nat) (hx : x < 18446744073709551616) (hy : y < 18446744073709551616) : Spec Try.prog 107 [.int .u64 x, .int .u64 y] (.k (.tup [.int .u64 ((x * y / 18446744073709551616 : Nat) : Int), .int .u64 ((x * y % 18446744073709551616 : Nat) : Int)])) := by
  refine spec_calls ⟨_, Try.func107, rfl, rfl⟩ fun K w vs hk ha => ?_
  obtain ⟨u, v, rfl, g0, g1⟩ := args2 ha
  rw [kint_inv g0, kint_inv g1]
  refine (mul64_calls x y hx hy w).mono ?_
  rintro e w' ⟨rfl, rfl⟩
  exact ⟨_, rfl, Below.refl _ _, krep_pair (.int _ _) (.int _ _)⟩
end Go.Proofs.Ytmbnclpgldglnaa
end
section
namespace Go.Proofs.Ytmbnclpgldglnaa
open Go.RowKit
set_option linter.unusedVariables false
set_option linter.unusedSimpArgs false
/-! the digest, as plain lists -/
def beW (b : List UInt8) (t : Nat) : BitVec 32 :=
  (((b.getD (4 * t) 0).toBitVec.setWidth 32 <<< 24 ||| (b.getD (4 * t + 1) 0).toBitVec.setWidth 32 <<< 16) ||| (b.getD (4 * t + 2) 0).toBitVec.setWidth 32 <<< 8) ||| (b.getD (4 * t + 3) 0).toBitVec.setWidth 32
def sig0 (y : BitVec 32) : BitVec 32 := (y.rotateRight 7 ^^^ y.rotateRight 18) ^^^ y >>> 3
def sig1 (x : BitVec 32) : BitVec 32 := (x.rotateRight 17 ^^^ x.rotateRight 19) ^^^ x >>> 10
def schW (b : List UInt8) (ws : List (BitVec 32)) (t : Nat) : BitVec 32 :=
  if t < 16 then beW b t else sig1 (ws.getD (t - 2) 0) + ws.getD (t - 7) 0 + sig0 (ws.getD (t - 15) 0) + ws.getD (t - 16) 0
def sched (b : List UInt8) : Nat → List (BitVec 32)
  | 0 => []
  | t + 1 => sched b t ++ [schW b (sched b t) t]
theorem sched_len (b : List UInt8) (t : Nat) : (sched b t).length = t := by induction t with
  | zero => rfl
  | succ t ih => simp [sched, ih]
/-- one round -/
def rnd (k w : BitVec 32) : List (BitVec 32) → List (BitVec 32)
  | [a, b, c, d, e, f, g, h] =>
    let one := (((h + ((e.rotateRight 6 ^^^ e.rotateRight 11) ^^^ e.rotateRight 25)) + (e &&& f ^^^ ~~~e &&& g)) + k) + w
    let two := ((a.rotateRight 2 ^^^ a.rotateRight 13) ^^^ a.rotateRight 22) + ((a &&& b ^^^ a &&& c) ^^^ b &&& c)
    [one + two, a, b, c, d + one, e, f, g]
  | v => v
def rnds (ks ws h : List (BitVec 32)) : Nat → List (BitVec 32)
  | 0 => h
  | t + 1 => rnd (ks.getD t 0) (ws.getD t 0) (rnds ks ws h t)
theorem rnd_len (k w : BitVec 32) (v : List (BitVec 32)) : (rnd k w v).length = v.length := by
  unfold rnd; split <;> rfl
theorem rnds_len (ks ws h : List (BitVec 32)) (t : Nat) : (rnds ks ws h t).length = h.length := by
  induction t with
  | zero => rfl
  | succ t ih => rw [rnds, rnd_len, ih]
def press (ks h : List (BitVec 32)) (b : List UInt8) : List (BitVec 32) := List.zipWith (· + ·) h (rnds ks (sched b 64) h 64)
theorem press_len (ks h : List (BitVec 32)) (b : List UInt8) : (press ks h b).length = h.length := by
  simp [press, rnds_len]
theorem eight {α : Type} {l : List α} (h : l.length = 8) : ∃ a b c d e f g i, l = [a, b, c, d, e, f, g, i] := by
  match l, h with
  | [a, b, c, d, e, f, g, i], _ => exact ⟨a, b, c, d, e, f, g, i, rfl⟩
/-! cells -/
theorem ld_w (ws : List (BitVec 32)) (rest : List AV) (i : Nat) (h : i < ws.length) : ldAgg (.int .u32) 1 (List.drop i (aOfW ws ++ rest)) = some (.int .u32 (n32 (ws.getD i 0))) := by
  have hl : i < (aOfW ws ++ rest).length := by rw [List.length_append, aOfW_len]; omega
  have e : (aOfW ws ++ rest)[i] = .int .u32 (n32 (ws.getD i 0)) := by
    rw [List.getElem_append_left (by rw [aOfW_len]; exact h)]
    simp [aOfW, h]
  rw [List.drop_eq_getElem_cons hl, e]; rfl
theorem ld_w0 (ws : List (BitVec 32)) (i : Nat) (h : i < ws.length) : ldAgg (.int .u32) 1 (List.drop i (aOfW ws)) = some (.int .u32 (n32 (ws.getD i 0))) := by
  have := ld_w ws [] i h
  rwa [List.append_nil] at this
theorem ld_b (l : List UInt8) (i : Nat) (h : i < l.length) : ldAgg (.int .u8) 1 (List.drop i (aOfBytes l)) = some (.int .u8 ((l.getD i 0).toNat : Int)) := by
  have hl : i < (aOfBytes l).length := by rw [aOfBytes_len]; exact h
  have e : (aOfBytes l)[i] = .int .u8 ((l.getD i 0).toNat : Int) := by simp [aOfBytes, h]
  rw [List.drop_eq_getElem_cons hl, e]; rfl
/-- the next cell of an array that is filled from the left -/
theorem fill_next {xs : List AV} {z v : AV} {t n : Nat} (hx : xs.length = t) (ht : t < n) : List.take t (xs ++ List.replicate (n - t) z) ++ [v] ++ List.drop (t + 1) (xs ++ List.replicate (n - t) z) = (xs ++ [v]) ++ List.replicate (n - (t + 1)) z := by
  subst hx
  rw [List.take_left, List.drop_append, List.drop_of_length_le (by omega), List.nil_append, Nat.add_sub_cancel_left, List.drop_replicate, Nat.sub_sub]
/-- a cell in the midst turns -/
theorem set_cell {α : Type} (xs : List α) (v : α) (i : Nat) (h : i < xs.length) : List.take i xs ++ [v] ++ List.drop (i + 1) xs = xs.set i v := by
  rw [List.set_eq_take_append_cons_drop, if_pos h]; simp
theorem ld_arr {n : Nat} {e : TypeId} {sz : Nat} (cs : List AV) (h : cs.length = sz) : ldAgg (.arr n e) sz (List.drop 0 cs) = some (.agg cs) := by
  rw [List.drop_zero]
  simp only [ldAgg]
  rw [if_pos (by omega), List.take_of_length_le (by omega)]
theorem drop_rep {α : Type} (n : Nat) (z : α) : List.drop n (List.replicate n z) = [] := by simp
/-! arrays that are filled place by place -/
def setN (f : Nat → UInt8) (l : List UInt8) : Nat → List UInt8
  | 0 => l
  | i + 1 => (setN f l i).set i (f i)
theorem setN_len (f : Nat → UInt8) (l : List UInt8) (i : Nat) : (setN f l i).length = l.length := by
  induction i with
  | zero => rfl
  | succ i ih => rw [setN, List.length_set, ih]
theorem setN_get (f : Nat → UInt8) (l : List UInt8) (j : Nat) : ∀ i, j ≤ i → (setN f l j).getD i 0 = l.getD i 0 := by
  induction j with
  | zero => intro i _; rfl
  | succ j ih =>
    intro i hi
    rw [setN, List.getD_eq_getElem?_getD, List.getElem?_set_ne (by omega), ← List.getD_eq_getElem?_getD]
    exact ih i (by omega)
theorem setN_eq (f : Nat → UInt8) (l : List UInt8) (i : Nat) (h : i ≤ l.length) : setN f l i = (List.range i).map f ++ l.drop i := by
  induction i with
  | zero => simp [setN]
  | succ i ih =>
    rw [setN, ih (by omega), List.range_succ, List.map_append, List.append_assoc]
    rw [List.set_append_right _ _ (by simp)]
    congr 1
    simp only [List.length_map, List.length_range, Nat.sub_self, List.map_cons, List.map_nil, List.singleton_append]
    rw [List.drop_eq_getElem_cons (by omega : i < l.length), List.set_cons_zero]
theorem setN_all (f : Nat → UInt8) (l : List UInt8) (n : Nat) (h : l.length = n) : setN f l n = (List.range n).map f := by
  rw [setN_eq f l n (by omega), List.drop_of_length_le (by omega), List.append_nil]
theorem set_b (l : List UInt8) (x : UInt8) (i : Nat) (h : i < l.length) : List.take i (aOfBytes l) ++ [.int .u8 (x.toNat : Int)] ++ List.drop (i + 1) (aOfBytes l) = aOfBytes (l.set i x) := by
  rw [set_cell _ _ _ (by rw [aOfBytes_len]; exact h)]
  simp [aOfBytes, List.map_set]
theorem rng_len (f : Nat → UInt8) (n : Nat) : ((List.range n).map f).length = n := by simp
theorem rng_next (f : Nat → UInt8) (n : Nat) : (List.range (n + 1)).map f = (List.range n).map f ++ [f n] := by simp [List.range_succ]
end Go.Proofs.Ytmbnclpgldglnaa
end
section
namespace Go.Proofs.Ytmbnclpgldglnaa
open Go.RowKit
set_option linter.unusedVariables false
set_option linter.unusedSimpArgs false
set_option maxRecDepth 20000
attribute [local go_sem] Oper.semAt_some
theorem chunk_run (a : Option Addr) (n c : Nat) (k : Int) (w : World) (hk : 1 ≤ k) : Calls Try.prog 41 #[.slice a n c, .int .i64 k] w fun e w' =>
    e = .returned (.func (.func 76) #[] #[.pointer (some ⟨w.heap.size, 0, none⟩), .pointer (some ⟨w.heap.size + 1, 0, none⟩)]) ∧ w' = (w.alloc (.cells #[.slice a n c] 22)).alloc (.cells #[.int .i64 k] 3) := by
  go_enter Try.func41, Try.ntmps41
  go_wp2_with fail
  go_ret
  exact ⟨rfl, rfl⟩
/-- the k-th part -/
def chV (b o len k i : Nat) : Value := .slice (some ⟨b, o + i * k, none⟩) (min k (len - i * k)) (min k (len - i * k))
def chN (len k : Nat) : Nat := (len + k - 1) / k
theorem chN_lt {len k i : Nat} (hk : 0 < k) : i < chN len k ↔ i * k < len := by
  unfold chN
  rw [Nat.lt_div_iff_mul_lt hk]
  have : i * k + k = (i + 1) * k := by rw [Nat.add_mul, Nat.one_mul]
  constructor <;> intro h <;> omega
set_option maxHeartbeats 4000000 in
theorem chunk1_in (n : Nat) (K : Kd) (l b1 o1 b2 o2 : Nat) (b o len cap k : Nat) (hk : 0 < k) (hlc : len ≤ cap) (hcm : cap ≤ maxLen) (hk2 : k ≤ 65536) (hl2 : len ≤ 1000000000) (i1 : K.In b1 o1 1) (i2 : K.In b2 o2 1) (v1 : K.val b1 o1 = .slice (some ⟨b, o, none⟩) len cap) (v2 : K.val b2 o2 = .int .i64 k)
    (J Jx : List (Fin (chN len k)) → World → Prop)
    (hY : ∀ (pre : List (Fin (chN len k))) (x : Fin (chN len k)) (W : World), J pre W → pre.length < chN len k → YieldAt Fence.wide (n - 1) Try.prog l #[chV b o len k x.val] W fun e W' => (e = .returned (.bool true) ∧ J (pre ++ [x]) W' ∧ (KOk K W → KOk K W')) ∨ (e = .returned (.bool false) ∧ Jx (pre ++ [x]) W'))
    (W : World) (hA : AbidesFrom W.heap.size J) (hK : KOk K W) (h0 : J [] W) :
    CallsIn Fence.wide n Try.prog 76 #[.func (.yield l) #[] #[], .pointer (some ⟨b1, o1, none⟩), .pointer (some ⟨b2, o2, none⟩)] W fun e W' => (∃ v, e = .returned v) ∧
      ((∃ xs : List (Fin (chN len k)), xs.map (·.val) = List.range (chN len k) ∧ J xs W') ∨ (∃ pre, True ∧ Jx pre W')) := by
  refine callsIn_of_wp Try.func76 rfl trivial ?_ rfl
  simp only [Try.ntmps76, List.size_toArray, List.length_cons, List.length_nil, Nat.reduceAdd, Nat.reduceSub, Array.replicate_succ, Array.replicate_zero, List.push_toArray, List.append_toArray, List.nil_append, List.cons_append]
  have c1 : ∀ wr, KOk K wr → wr.cell? ⟨b1, o1, none⟩ = some (.slice (some ⟨b, o, none⟩) len cap) := fun wr h => by have := (h.at_ i1 (i := 0) (by omega)).1; rw [Nat.add_zero, v1] at this; exact this
  have c2 : ∀ wr, KOk K wr → wr.cell? ⟨b2, o2, none⟩ = some (.int .i64 k) := fun wr h => by have := (h.at_ i2 (i := 0) (by omega)).1; rw [Nat.add_zero, v2] at this; exact this
  gi_wp2
  gi_loopw [4] (fun i wr => ∃ (pre : List (Fin (chN len k))), i = .int .i64 ((pre.length * k : Nat) : Int) ∧ pre.map (·.val) = List.range pre.length ∧ pre.length ≤ chN len k ∧ J pre wr ∧ KOk K wr)
    (fun i wr => (len + k - intOf i).toNat)
  case atStart => exact ⟨[], by simp, rfl, Nat.zero_le _, h0, hK⟩
  case round =>
    obtain ⟨pre, rfl, hp, hpl, hJ, hKr⟩ := hrel
    have d1 := c1 wr hKr
    have d2 := c2 wr hKr
    by_cases hlt : pre.length * k < len
    · have hltN := (chN_lt hk).2 hlt
      have hJ2 : J pre wr.drew := hA _ _ _ none hJ ⟨rfl, rfl, rfl, Nat.le_refl _, fun _ _ _ => rfl⟩ (fun r e => by cases e)
      have hK2 : KOk K wr.drew := hKr
      have e1 := c1 wr.drew hK2
      have e2 := c2 wr.drew hK2
      generalize hq : pre.length * k = q at *
      have hlt' : (q : Int) < len := by omega
      gi_wp2
      gi_region
      obtain ⟨m, hm⟩ : ∃ m : Nat, m = min k (len - q) := ⟨_, rfl⟩
      have hm1 : (if len - q < k then ((len - q : Nat) : Int) else (k : Int)) = (m : Int) := by split <;> omega
      simp only [hm1]
      obtain ⟨fn, tmps, assign, body, hy, hR⟩ := hY pre ⟨pre.length, hltN⟩ wr.drew hJ2 hltN
      have hch : chV b o len k pre.length = .slice (some ⟨b, o + q, none⟩) m m := by unfold chV; rw [hq, hm]
      rw [show chV b o len k (Fin.val ⟨pre.length, hltN⟩) = .slice (some ⟨b, o + q, none⟩) m m from hch] at hy
      have hm2 : (q : Int) + m ≤ cap := by omega
      have hm3 : 1 ≤ m := by omega
      have hm4 : m ≤ k := by omega
      have hq' : Hid (pre.length * k = q) := Lib.hid hq
      clear hm1 hm hq hch
      gi_wp2
      refine ⟨(fun h => by cases h), hR.mono ?_⟩
      rintro e W3 (⟨rfl, hJ3, hk3⟩ | ⟨rfl, hJx3⟩)
      · have f2 := c2 W3 (hk3 hK2)
        gi_wp2
        go_roundw
        case rel => exact ⟨pre ++ [⟨pre.length, hltN⟩], by simp [Nat.add_mul, hq'.out], by simp [hp, List.range_succ], by simp; omega, hJ3, hk3 hK2⟩
        case measure => simp only [intOf]; omega
      · gi_wp2
        refine bodyPost_ret (results_none rfl _ _ _) rfl ?_
        exact ⟨⟨_, rfl⟩, .inr ⟨_, trivial, hJx3⟩⟩
    · have hN : pre.length = chN len k := by
        have := mt (chN_lt (i := pre.length) hk).1 hlt
        omega
      generalize hq : pre.length * k = q at *
      gi_wp2
      go_end0
      exact ⟨⟨_, rfl⟩, .inl ⟨pre, by rw [hp, hN], hJ⟩⟩
set_option maxHeartbeats 4000000 in
theorem chunk_spec (full : Bool) (n : Nat) (cs : List AV) (k : Nat) (hk : 1 ≤ k) : Spec Try.prog 41 [.sl full n cs, .int .i64 k] (.k (.fn 76 [.cp [.sl full n cs], .cp [.int .i64 k]])) := by
  refine spec_calls ⟨_, Try.func41, rfl, rfl⟩ fun K w vs hk0 ha => ?_
  obtain ⟨u, v, rfl, g0, g1⟩ := args2 ha
  rw [kint_inv g1]
  obtain ⟨a, c, rfl, _⟩ := ksl_inv g0
  refine (chunk_run a n c k w (by omega)).mono ?_
  rintro e w' ⟨rfl, rfl⟩
  have hb : Below w.heap.size w ((w.alloc (.cells #[.slice a n c] 22)).alloc (.cells #[.int .i64 k] 3)) := ((Below.refl _ _).alloc (Nat.le_refl _) _).alloc (by simp) _
  refine ⟨_, rfl, hb, krep_fn2 ?_ ?_⟩
  · have hc : ((w.alloc (.cells #[.slice a n c] 22)).alloc (.cells #[.int .i64 k] 3)).cell? ⟨w.heap.size, 0, none⟩ = some (.slice a n c) := by
      rw [cell_of_row _ _ 0 _ _ _ ((heap_alloc_old _ _ (by simp : w.heap.size < (w.alloc _).heap.size)).trans (heap_alloc_new w _))]; rfl
    have h1 := hw_of hc
    have hN : ¬ w.heap.size < w.heap.size := by omega
    refine .cp _ _ _ ⟨by simp only [Kd.wide, hN, if_false, List.length_cons, List.length_nil]; omega, fun i hi => ?_⟩ fun i x hx => ?_
    · obtain rfl : i = 0 := by simpa using hi
      simp only [Kd.wide, hN, if_false]
      rw [val_of hc]; rfl
    · match i with
      | 0 =>
        simp at hx; subst hx
        simp only [Kd.wide, hN, if_false]
        rw [val_of hc]
        exact g0.mono (wide_le hk0)
      | i + 1 => simp at hx
  · have hc : ((w.alloc (.cells #[.slice a n c] 22)).alloc (.cells #[.int .i64 k] 3)).cell? ⟨w.heap.size + 1, 0, none⟩ = some (.int .i64 k) := by
      have h := heap_alloc_new (w.alloc (.cells #[.slice a n c] 22)) (.cells #[.int .i64 k] 3)
      rw [show (w.alloc (.cells #[.slice a n c] 22)).heap.size = w.heap.size + 1 by simp] at h
      rw [cell_of_row _ _ 0 _ _ _ h]; rfl
    have h1 := hw_of hc
    have hN : ¬ w.heap.size + 1 < w.heap.size := by omega
    refine .cp _ _ _ ⟨by simp only [Kd.wide, hN, if_false, List.length_cons, List.length_nil]; omega, fun i hi => ?_⟩ fun i x hx => ?_
    · obtain rfl : i = 0 := by simpa using hi
      simp only [Kd.wide, hN, if_false]
      rw [val_of hc]; rfl
    · match i with
      | 0 =>
        simp at hx; subst hx
        simp only [Kd.wide, hN, if_false]
        rw [val_of hc]
        exact .int _ _
      | i + 1 => simp at hx
theorem enters_ {P : Program} {f : FuncId} (h : Callable P f) (args : Array Value) (w : World) : (callFunc f args).run P w = .ok (.enter f args) w := by
  obtain ⟨fn, hfn, hname, hbody⟩ := h
  have hname' : ¬ fn.name = "runtime.NumGoroutine" := by simpa using hname
  have hbody' : ¬ fn.body = none := fun q => by rw [q] at hbody; cases hbody
  simp [callFunc, hfn, hname', hbody']
/-- the parts -/
def chunkL (k : Nat) (cs : List AV) : List (List AV) := (List.range (chN cs.length k)).map fun j => [.sl true (min k (cs.length - j * k)) ((cs.drop (j * k)).take k)]
theorem chunks_len (k : Nat) (cs : List AV) : (chunkL k cs).length = chN cs.length k := by simp [chunkL]
theorem chunk_iter (full : Bool) (cs : List AV) (k : Nat) (hk : 0 < k) (hk2 : k ≤ 65536) (h0 : cs ≠ []) (hl : cs.length ≤ 1000000000) : Iter Try.prog 76 [.cp [.sl full cs.length cs], .cp [.int .i64 k]] (chunkL k cs) := by
  refine ⟨fun args w => enters_ ⟨_, Try.func76, rfl, rfl⟩ args w, fun K w vs hK ha => ?_⟩
  obtain ⟨p1, p2, rfl, g0, g1⟩ := args2 ha
  obtain ⟨b1, o1, rfl, i1, v1⟩ := kcp1_inv g0
  obtain ⟨b2, o2, rfl, i2, v2⟩ := kcp1_inv g1
  obtain ⟨a, c, e1, hlc, hcm, _, hsl⟩ := ksl_inv v1
  rcases hsl with ⟨q, _⟩ | ⟨b, o, rfl, hin, hcs⟩
  · exact absurd (List.eq_nil_of_length_eq_zero q) h0
  refine ⟨fun i => #[chV b o cs.length k i], fun i x hx => ?_, fun n l J Jx W hW hA hAx hY hJ => ?_⟩
  · have hi : i < chN cs.length k := by have := getq_lt hx; rw [chunks_len] at this; exact this
    simp only [chunkL, List.getElem?_map, List.getElem?_range hi, Option.map_some, Option.some.injEq] at hx
    subst hx
    have hlt := (chN_lt hk).1 hi
    refine argsR1 ?_
    have hlen : ((cs.drop (i * k)).take k).length = min k (cs.length - i * k) := by simp
    unfold chV
    refine .sl _ _ _ _ _ _ (Nat.le_refl _) (Nat.le_trans (by omega) hcm) (fun _ => rfl) (by rw [hlen]; exact In_sub hin _ _ (by omega)) fun j y hy => ?_
    rw [List.getElem?_take] at hy
    split at hy
    · rw [List.getElem?_drop] at hy
      rw [Nat.add_assoc]
      exact hcs _ _ hy
    · cases hy
  · have hKW : KOk K W := hK.after hW
    have hlenF : (chunkL k cs).length = chN cs.length k := chunks_len k cs
    revert J Jx
    rw [hlenF]
    intro J Jx hA hAx hY hJ
    exact chunk1_in n K l b1 o1 b2 o2 b o cs.length c k hk hlc hcm hk2 hl i1 i2 e1 (kint_inv v2) J Jx hY W hA hKW hJ
end Go.Proofs.Ytmbnclpgldglnaa
end
section
namespace Go.Proofs.Ytmbnclpgldglnaa
open Go.RowKit
set_option linter.unusedVariables false
set_option linter.unusedSimpArgs false
set_option maxRecDepth 20000
attribute [local go_sem] Oper.semAt_some
theorem spec_own {P : Program} {f : FuncId} {args : List AV} {e : TypeId} (hf : Callable P f) (h : ∀ (K : Kd) (w : World) (vs : Array Value), KOk K w → ArgsR K args vs →
    Calls P f vs w fun x w' => ∃ v, x = .returned v ∧ Below w.heap.size w w' ∧ w'.ownsRow w.heap.size e (tiOf P e).sz v 0 []) : Spec P f args (.own 0 e []) := by
  refine ⟨hf, fun K w vs hk ha => (h K w vs hk ha).mono ?_⟩
  rintro x w' ⟨v, rfl, hb, ho⟩
  exact ⟨v, K, rfl, hb, .refl _, hk.after hb, fun _ _ => rfl, fun _ _ _ _ => rfl, [], ho, fun b q => hk.hw0 (World.ownsRow.lt ho b q).1, (fun x hx => by cases hx), rfl, fun i x u hx => by simp at hx⟩
/-- a builtin, by its own law -/
theorem wpList_bi {P : Program} {w w' : World} {ops : Array Oper} {rest : List Oper} {o : Oper} {a : Act} {Q : Exit → Act → World → Prop} (hw : Region.wanted o (yielded ops a.tmps) = true)
    (s x : Operand) (t t' : TypeId) (ho : o.op = .call { callee := .builtin .append, args := #[s, x], argTypes := #[t, t'] }) {v u r : Value} (hs : a.eval s = v) (hx : a.eval x = u) (hr : (Builtin.append_ #[t, t'] o.type #[v, u]).run P w = .ok r w')
    (h : wpList P ops Q rest (a.put o.dst r) w') : wpList P ops Q (o :: rest) a w := by
  refine wpList_step fun K hK => ?_
  rw [if_pos hw]
  unfold Oper.wp execOp
  simp only [ho, resolve, invoke, builtin, Sem.run_bind, Sem.run_pure, Result.andThen_ok, List.map_toArray, List.map_cons, List.map_nil, hs, hx, hr]
  exact hK _ _ h
set_option maxHeartbeats 4000000 in
theorem grow_run (a : Option Addr) (n : Nat) (w : World) (h0 : 0 < n) (hn : n ≤ 1000000000) : Calls Try.prog 77 #[.slice a 0 0, .int .i64 n] w fun e w' =>
    ∃ cap cs, e = .returned (.slice (some ⟨w.heap.size, 0, none⟩) 0 cap) ∧ cs.size = cap ∧ cap ≤ maxLen ∧ w' = w.drew.alloc (.cells cs 5) := by
  obtain ⟨i, z, d, hi, hz, hzs, hz1, hsz, hbe, hzr, hd⟩ := ti_ok (P := Try.prog) (t := 5) (by kernel_rfl)
  have s1 : i.size = 1 := by rw [← hsz]; kernel_rfl
  have b1 : i.bytes = 1 := by rw [← hbe]; kernel_rfl
  have hone : ∀ u ∈ (Builtin.zeroCells z.cells n).toList, u.oneCell' = true := fun u hu => by
    obtain ⟨j, hj⟩ := List.getElem?_of_mem hu
    rw [Array.getElem?_toList] at hj
    exact (zeros_rep ⟨fun _ _ => .bool true, fun _ => 0, fun _ _ _ => none, 0, fun _ _ _ _ => rfl⟩ n i.size z.cells hzs (by omega) hz1).2.1 j u (by rw [← hzs]; exact hj)
  have src := ASrc.ofZeros (w := w) (t' := 3) hi hz hzs hone Try.underlying3 (by omega) (m := n) (by omega) (by rw [b1]; omega) .i64
  have hfc : (Builtin.firstCells i.size 0 (.slice a 0 0)).run Try.prog w.drew = .ok ([] : List Value).toArray w.drew := by
    cases a with
    | none => exact run_firstCells_none w.drew i.size 0 0 0
    | some p => exact run_firstCells_some w.drew i.size 0 p 0 0 [] (by simp) (fun j u hu => by simp at hu)
  have hrun := src.grow 22 22 a 0 0 [] Try.underlying22 hfc h0 (by omega) (by omega) (by rw [b1]; omega)
  have hcs : ((([] : List Value).toArray ++ (Builtin.zeroCells z.cells n).toList.toArray ++ Builtin.zeroCells z.cells (grownCap w (0 + n) 0 5 - (0 + n)))).size = grownCap w (0 + n) 0 5 := by
    have hge := grownCap_ge w (0 + n) 0 5
    simp only [Array.size_append, size_zeroCells, hzs, s1, List.size_toArray, Array.length_toList, List.length_nil]; omega
  have hcm : grownCap w (0 + n) 0 5 ≤ maxLen := grownCap_le_maxLen w (0 + n) 0 5 (by unfold maxLen; omega)
  have hge := grownCap_ge w (0 + n) 0 5
  generalize (([] : List Value).toArray ++ (Builtin.zeroCells z.cells n).toList.toArray ++ Builtin.zeroCells z.cells (grownCap w (0 + n) 0 5 - (0 + n))) = cs at hrun hcs
  generalize grownCap w (0 + n) 0 5 = cap at *
  rw [Nat.zero_add] at hrun hge
  clear hone hzr hz1 hzs hz hsz hbe hi src hfc hd
  go_enter Try.func77, Try.ntmps77
  have HR := Lib.hid hrun
  clear hrun
  go_wp2_with (at_builtin; refine wpList_bi (o := ⟨some 22, _, _, _, _, _⟩) rfl _ _ 22 3 rfl rfl rfl HR.out ?_)
  go_ret
  exact ⟨cap, cs, rfl, hcs, hcm, rfl⟩
theorem grow_spec (n : Nat) (h0 : 0 < n) (hn : n ≤ 1000000000) : Spec Try.prog 77 [.sl true 0 [], .int .i64 n] (.own 0 5 []) := by
  refine spec_own ⟨_, Try.func77, rfl, rfl⟩ fun K w vs hk ha => ?_
  obtain ⟨u, v, rfl, g0, g1⟩ := args2 ha
  rw [kint_inv g1]
  obtain ⟨a, c, rfl, _, _, hc, _⟩ := ksl_inv g0
  rw [hc rfl]
  refine (grow_run a n w h0 hn).mono ?_
  rintro e w' ⟨cap, cs, rfl, h1, h2, rfl⟩
  have hsz : (tiOf Try.prog 5).sz = 1 := by kernel_rfl
  refine ⟨_, rfl, (Below.refl _ _).drew.alloc (Nat.le_refl _) _, ?_⟩
  rw [hsz]
  exact ⟨by simp, .inr ⟨w.heap.size, cap, cs, rfl, Nat.le_refl _, heap_alloc_new w.drew _, Nat.zero_le _, h2, by rw [h1]; simp, by simp⟩⟩
abbrev Part := Bool × List AV
def Part.av (p : Part) : AV := .sl p.1 p.2.length p.2
def pCells (ps : List Part) : List AV := ps.map Part.av
def pAll (ps : List Part) : List AV := ps.flatMap (·.2)
theorem pCells_len (ps : List Part) : (pCells ps).length = ps.length := by simp [pCells]
theorem pAll_take {ps : List Part} {i : Nat} {p : Part} (h : ps[i]? = some p) : pAll (ps.take (i + 1)) = pAll (ps.take i) ++ p.2 := by
  rw [take_succ' h]; simp [pAll]
theorem pAll_le (ps : List Part) (i : Nat) : (pAll (ps.take i)).length ≤ (pAll ps).length := by
  conv => rhs; rw [← List.take_append_drop i ps]
  simp only [pAll, List.flatMap_append, List.length_append]; omega
set_option maxHeartbeats 8000000 in
theorem concat_spec (full : Bool) (ps : List Part) (h0 : 0 < (pAll ps).length) (hb : (pAll ps).length ≤ 100000000) (hN : ps.length ≤ 1000000) : Spec Try.prog 42 [.sl full ps.length (pCells ps)] (.k (.sl false (pAll ps).length (pAll ps))) := by
  refine spec_of (fun _ => false) (by kernel_rfl) Try.func42 rfl rfl (by simp [Try.ntmps42]) (by decide) ?_
  intro δ
  rw [init1]
  have hlen := pCells_len ps
  repeat (first | with_reducible (first | refine aWp_seq ?_ | refine seq_normal ?_ | refine seq_ret ?_ | refine seq_exit ?_ | refine blk_normal ?_ | refine blk_ret ?_ | refine blk_hit ?_ | refine blk_miss rfl ?_ | refine aWp_ret ?_ | refine aWp_skip ?_ | refine aWp_block ?_ | refine aWp_exit ?_ | refine end_ret ?_ | refine end_normal ?_) | ((refine rgA ?_); intro ν) | ((with_reducible apply cndT); exact rfl; (first | rfl | assumption)) | ((with_reducible apply cndF); exact rfl; (first | rfl | assumption)))
  refine aWp_loop (fun m s => ∃ F T ν i, m = ps.length - i ∧ i ≤ ps.length ∧ s = ⟨F, T, ν, ⟨fun _ => false, δ, false⟩⟩ ∧
    F 0 = .k (.sl full ps.length (pCells ps)) ∧ F 9 = .k (.sl full ps.length (pCells ps)) ∧ F 10 = .k (.int .i64 (ps.length : Nat)) ∧ F 11 = .k (.int .i64 (i : Nat)) ∧ F 3 = .k (.int .i64 ((pAll (ps.take i)).length : Nat))) ps.length ⟨_, _, _, 0, rfl, Nat.zero_le _, rfl, rfl, rfl, rfl, rfl, rfl⟩ ?_
  rintro m s ⟨F, T, ν, i, rfl, hi, rfl, f0, f9, f10, f11, f3⟩
  rw [has5 f0 f9 f10 f11 f3]
  repeat with_reducible (first | refine aWp_seq ?_ | refine seq_normal ?_ | refine seq_ret ?_ | refine seq_exit ?_ | refine blk_normal ?_ | refine blk_ret ?_ | refine blk_hit ?_ | refine blk_miss rfl ?_ | refine aWp_ret ?_ | refine aWp_skip ?_ | refine aWp_block ?_ | refine aWp_exit ?_ | refine end_ret ?_ | refine end_normal ?_)
  by_cases hlt : i < ps.length
  · obtain ⟨p, hp⟩ : ∃ p, ps[i]? = some p := ⟨ps[i], by simp [hlt]⟩
    have hld : ldAgg (.sl 5) 1 (List.drop i (pCells ps)) = some p.av := by
      have : (pCells ps)[i]? = some p.av := by simp [pCells, hp]
      have hl : i < (pCells ps).length := by omega
      rw [List.drop_eq_getElem_cons hl]
      rw [List.getElem?_eq_getElem hl] at this
      injection this with this
      rw [this]; rfl
    have hpt := pAll_take hp
    have hle := pAll_le ps (i + 1)
    rw [hpt, List.length_append] at hle
    repeat (first | with_reducible (first | refine aWp_seq ?_ | refine seq_normal ?_ | refine seq_ret ?_ | refine seq_exit ?_ | refine blk_normal ?_ | refine blk_ret ?_ | refine blk_hit ?_ | refine blk_miss rfl ?_ | refine aWp_ret ?_ | refine aWp_skip ?_ | refine aWp_block ?_ | refine aWp_exit ?_ | refine end_ret ?_ | refine end_normal ?_) | ((refine rgA ?_); intro ν) | ((with_reducible apply cndT); exact rfl; (first | rfl | assumption)) | ((with_reducible apply cndF); exact rfl; (first | rfl | assumption)))
    refine ⟨ps.length - (i + 1), by omega, _, _, _, i + 1, rfl, by omega, rfl, rfl, rfl, rfl, rfl, ?_⟩
    show (SV.k (.int .i64 (((pAll (ps.take i)).length : Int) + (p.2.length : Int))) : SV) = _
    rw [hpt, List.length_append]; push_cast; rfl
  · have hie : i = ps.length := by omega
    subst hie
    rw [List.take_length]
    have hg := grow_spec (pAll ps).length h0 (by omega)
    repeat (first | with_reducible (first | refine aWp_seq ?_ | refine seq_normal ?_ | refine seq_ret ?_ | refine seq_exit ?_ | refine blk_normal ?_ | refine blk_ret ?_ | refine blk_hit ?_ | refine blk_miss rfl ?_ | refine aWp_ret ?_ | refine aWp_skip ?_ | refine aWp_block ?_ | refine aWp_exit ?_ | refine end_ret ?_ | refine end_normal ?_) | ((refine rgA ?_); intro ν) | ((with_reducible apply cndT); exact rfl; (first | rfl | assumption)) | ((with_reducible apply cndF); exact rfl; (first | rfl | assumption)))
    refine rg fun K hK => ?_
    refine stA ?_
    (first | with_reducible refine g0 ?_ | ((with_reducible refine g1 ?_ ?_); (with_reducible apply gt_); exact rfl; exact rfl; (first | rfl | assumption | (simp [*] <;> done)))); refine scA (h2 := (hg)) (hk := ?_)
    refine stA ?_
    with_reducible refine rz ?_
    refine hK _ _ _ ?_
    clear hK K; intro ν
    repeat (first | with_reducible (first | refine aWp_seq ?_ | refine seq_normal ?_ | refine seq_ret ?_ | refine seq_exit ?_ | refine blk_normal ?_ | refine blk_ret ?_ | refine blk_hit ?_ | refine blk_miss rfl ?_ | refine aWp_ret ?_ | refine aWp_skip ?_ | refine aWp_block ?_ | refine aWp_exit ?_ | refine end_ret ?_ | refine end_normal ?_) | ((refine rgA ?_); intro ν) | ((with_reducible apply cndT); exact rfl; (first | rfl | assumption)) | ((with_reducible apply cndF); exact rfl; (first | rfl | assumption)))
    refine aWp_loop (fun m s => ∃ F T ν i x, m = ps.length - i ∧ i ≤ ps.length ∧ s = ⟨F, T, ν, ⟨fun _ => false, δ, false⟩⟩ ∧
      F 25 = .k (.sl full ps.length (pCells ps)) ∧ F 26 = .k (.int .i64 (ps.length : Nat)) ∧ F 27 = .k (.int .i64 (i : Nat)) ∧ F 6 = x ∧ AccO 5 [24, 33] T x (pAll (ps.take i)).length (pAll (ps.take i))) ps.length ⟨_, _, _, 0, _, rfl, Nat.zero_le _, rfl, rfl, rfl, rfl, rfl, .ow (by simp) rfl rfl rfl⟩ ?_
    rintro m s ⟨F, T, ν, i, x, rfl, hi, rfl, f25, f26, f27, f6, hacc⟩
    rw [has4 f25 f26 f27 f6]
    repeat with_reducible (first | refine aWp_seq ?_ | refine seq_normal ?_ | refine seq_ret ?_ | refine seq_exit ?_ | refine blk_normal ?_ | refine blk_ret ?_ | refine blk_hit ?_ | refine blk_miss rfl ?_ | refine aWp_ret ?_ | refine aWp_skip ?_ | refine aWp_block ?_ | refine aWp_exit ?_ | refine end_ret ?_ | refine end_normal ?_)
    by_cases hlt : i < ps.length
    · obtain ⟨p, hp⟩ : ∃ p, ps[i]? = some p := ⟨ps[i], by simp [hlt]⟩
      have hld : ldAgg (.sl 5) 1 (List.drop i (pCells ps)) = some p.av := by
        have : (pCells ps)[i]? = some p.av := by simp [pCells, hp]
        have hl : i < (pCells ps).length := by omega
        rw [List.drop_eq_getElem_cons hl]
        rw [List.getElem?_eq_getElem hl] at this
        injection this with this
        rw [this]; rfl
      have hpt := pAll_take hp
      have hle := pAll_le ps (i + 1)
      rw [hpt, List.length_append] at hle
      obtain ⟨d, g, hd, rfl, hT⟩ := hacc
      simp only [List.mem_cons, List.not_mem_nil, or_false] at hd
      rw [upd_self hT]
      rcases hd with rfl | rfl
      iterate 2
        · repeat (first | with_reducible (first | refine aWp_seq ?_ | refine seq_normal ?_ | refine seq_ret ?_ | refine seq_exit ?_ | refine blk_normal ?_ | refine blk_ret ?_ | refine blk_hit ?_ | refine blk_miss rfl ?_ | refine aWp_ret ?_ | refine aWp_skip ?_ | refine aWp_block ?_ | refine aWp_exit ?_ | refine end_ret ?_ | refine end_normal ?_) | ((refine rgA ?_); intro ν) | ((with_reducible apply cndT); exact rfl; (first | rfl | assumption)) | ((with_reducible apply cndF); exact rfl; (first | rfl | assumption)))
          refine ⟨ps.length - (i + 1), by omega, _, _, _, i + 1, _, rfl, by omega, rfl, rfl, rfl, rfl, rfl, .ow (by simp) rfl ?_ ?_⟩
          · rw [hpt, List.length_append]
          · rw [hpt]
    · have hie : i = ps.length := by omega
      subst hie
      rw [List.take_length] at hacc
      obtain ⟨d, g, hd, rfl, hT⟩ := hacc
      simp only [List.mem_cons, List.not_mem_nil, or_false] at hd
      rw [upd_self hT]
      rcases hd with rfl | rfl
      iterate 2
        · repeat (first | with_reducible (first | refine aWp_seq ?_ | refine seq_normal ?_ | refine seq_ret ?_ | refine seq_exit ?_ | refine blk_normal ?_ | refine blk_ret ?_ | refine blk_hit ?_ | refine blk_miss rfl ?_ | refine aWp_ret ?_ | refine aWp_skip ?_ | refine aWp_block ?_ | refine aWp_exit ?_ | refine end_ret ?_ | refine end_normal ?_) | ((refine rgA ?_); intro ν) | ((with_reducible apply cndT); exact rfl; (first | rfl | assumption)) | ((with_reducible apply cndF); exact rfl; (first | rfl | assumption)))
          (first | with_reducible refine end_r ?_ | with_reducible refine end_n ?_); refine en1 ?_
          rfl
end Go.Proofs.Ytmbnclpgldglnaa
end
section
namespace Go.Proofs.Ytmbnclpgldglnaa
open Go.RowKit
set_option linter.unusedVariables false
set_option linter.unusedSimpArgs false
set_option maxRecDepth 20000
attribute [local go_sem] Oper.semAt_some
/-! parts of bytes, put together: the result is nobody else's -/
def pB (p : Bool × List UInt8) : Part := (p.1, aOfBytes p.2)
theorem pB_all (ps : List (Bool × List UInt8)) : pAll (ps.map pB) = aOfBytes (ps.flatMap (·.2)) := by
  induction ps with
  | nil => rfl
  | cons p ps ih => simp only [pAll, List.map_cons, List.flatMap_cons, aOfBytes_append] at ih ⊢; rw [ih]; rfl
set_option maxHeartbeats 8000000 in
theorem concatO_spec (full : Bool) (ps : List Part) (hsc : (pAll ps).all AV.sc = true) (h0 : 0 < (pAll ps).length) (hb : (pAll ps).length ≤ 100000000) (hN : ps.length ≤ 1000000) : Spec Try.prog 42 [.sl full ps.length (pCells ps)] (.own (pAll ps).length 5 (pAll ps)) := by
  refine spec_of_own (fun _ => false) (by kernel_rfl) Try.func42 rfl rfl (by simp [Try.ntmps42]) (by decide) ?_
  intro δ
  rw [init1]
  have hlen := pCells_len ps
  repeat (first | with_reducible (first | refine aWp_seq ?_ | refine seq_normal ?_ | refine seq_ret ?_ | refine seq_exit ?_ | refine blk_normal ?_ | refine blk_ret ?_ | refine blk_hit ?_ | refine blk_miss rfl ?_ | refine aWp_ret ?_ | refine aWp_skip ?_ | refine aWp_block ?_ | refine aWp_exit ?_ | refine end_ret ?_ | refine end_normal ?_) | ((refine rgA ?_); intro ν) | ((with_reducible apply cndT); exact rfl; (first | rfl | assumption)) | ((with_reducible apply cndF); exact rfl; (first | rfl | assumption)))
  refine aWp_loop (fun m s => ∃ F T ν i, m = ps.length - i ∧ i ≤ ps.length ∧ s = ⟨F, T, ν, ⟨fun _ => false, δ, false⟩⟩ ∧
    F 0 = .k (.sl full ps.length (pCells ps)) ∧ F 9 = .k (.sl full ps.length (pCells ps)) ∧ F 10 = .k (.int .i64 (ps.length : Nat)) ∧ F 11 = .k (.int .i64 (i : Nat)) ∧ F 3 = .k (.int .i64 ((pAll (ps.take i)).length : Nat))) ps.length ⟨_, _, _, 0, rfl, Nat.zero_le _, rfl, rfl, rfl, rfl, rfl, rfl⟩ ?_
  rintro m s ⟨F, T, ν, i, rfl, hi, rfl, f0, f9, f10, f11, f3⟩
  rw [has5 f0 f9 f10 f11 f3]
  repeat with_reducible (first | refine aWp_seq ?_ | refine seq_normal ?_ | refine seq_ret ?_ | refine seq_exit ?_ | refine blk_normal ?_ | refine blk_ret ?_ | refine blk_hit ?_ | refine blk_miss rfl ?_ | refine aWp_ret ?_ | refine aWp_skip ?_ | refine aWp_block ?_ | refine aWp_exit ?_ | refine end_ret ?_ | refine end_normal ?_)
  by_cases hlt : i < ps.length
  · obtain ⟨p, hp⟩ : ∃ p, ps[i]? = some p := ⟨ps[i], by simp [hlt]⟩
    have hld : ldAgg (.sl 5) 1 (List.drop i (pCells ps)) = some p.av := by
      have : (pCells ps)[i]? = some p.av := by simp [pCells, hp]
      have hl : i < (pCells ps).length := by omega
      rw [List.drop_eq_getElem_cons hl]
      rw [List.getElem?_eq_getElem hl] at this
      injection this with this
      rw [this]; rfl
    have hpt := pAll_take hp
    have hle := pAll_le ps (i + 1)
    rw [hpt, List.length_append] at hle
    repeat (first | with_reducible (first | refine aWp_seq ?_ | refine seq_normal ?_ | refine seq_ret ?_ | refine seq_exit ?_ | refine blk_normal ?_ | refine blk_ret ?_ | refine blk_hit ?_ | refine blk_miss rfl ?_ | refine aWp_ret ?_ | refine aWp_skip ?_ | refine aWp_block ?_ | refine aWp_exit ?_ | refine end_ret ?_ | refine end_normal ?_) | ((refine rgA ?_); intro ν) | ((with_reducible apply cndT); exact rfl; (first | rfl | assumption)) | ((with_reducible apply cndF); exact rfl; (first | rfl | assumption)))
    refine ⟨ps.length - (i + 1), by omega, _, _, _, i + 1, rfl, by omega, rfl, rfl, rfl, rfl, rfl, ?_⟩
    show (SV.k (.int .i64 (((pAll (ps.take i)).length : Int) + (p.2.length : Int))) : SV) = _
    rw [hpt, List.length_append]; push_cast; rfl
  · have hie : i = ps.length := by omega
    subst hie
    rw [List.take_length]
    have hg := grow_spec (pAll ps).length h0 (by omega)
    repeat (first | with_reducible (first | refine aWp_seq ?_ | refine seq_normal ?_ | refine seq_ret ?_ | refine seq_exit ?_ | refine blk_normal ?_ | refine blk_ret ?_ | refine blk_hit ?_ | refine blk_miss rfl ?_ | refine aWp_ret ?_ | refine aWp_skip ?_ | refine aWp_block ?_ | refine aWp_exit ?_ | refine end_ret ?_ | refine end_normal ?_) | ((refine rgA ?_); intro ν) | ((with_reducible apply cndT); exact rfl; (first | rfl | assumption)) | ((with_reducible apply cndF); exact rfl; (first | rfl | assumption)))
    refine rg fun K hK => ?_
    refine stA ?_
    (first | with_reducible refine g0 ?_ | ((with_reducible refine g1 ?_ ?_); (with_reducible apply gt_); exact rfl; exact rfl; (first | rfl | assumption | (simp [*] <;> done)))); refine scA (h2 := (hg)) (hk := ?_)
    refine stA ?_
    with_reducible refine rz ?_
    refine hK _ _ _ ?_
    clear hK K; intro ν
    repeat (first | with_reducible (first | refine aWp_seq ?_ | refine seq_normal ?_ | refine seq_ret ?_ | refine seq_exit ?_ | refine blk_normal ?_ | refine blk_ret ?_ | refine blk_hit ?_ | refine blk_miss rfl ?_ | refine aWp_ret ?_ | refine aWp_skip ?_ | refine aWp_block ?_ | refine aWp_exit ?_ | refine end_ret ?_ | refine end_normal ?_) | ((refine rgA ?_); intro ν) | ((with_reducible apply cndT); exact rfl; (first | rfl | assumption)) | ((with_reducible apply cndF); exact rfl; (first | rfl | assumption)))
    refine aWp_loop (fun m s => ∃ F T ν i x, m = ps.length - i ∧ i ≤ ps.length ∧ s = ⟨F, T, ν, ⟨fun _ => false, δ, false⟩⟩ ∧
      F 25 = .k (.sl full ps.length (pCells ps)) ∧ F 26 = .k (.int .i64 (ps.length : Nat)) ∧ F 27 = .k (.int .i64 (i : Nat)) ∧ F 6 = x ∧ AccO 5 [24, 33] T x (pAll (ps.take i)).length (pAll (ps.take i))) ps.length ⟨_, _, _, 0, _, rfl, Nat.zero_le _, rfl, rfl, rfl, rfl, rfl, .ow (by simp) rfl rfl rfl⟩ ?_
    rintro m s ⟨F, T, ν, i, x, rfl, hi, rfl, f25, f26, f27, f6, hacc⟩
    rw [has4 f25 f26 f27 f6]
    repeat with_reducible (first | refine aWp_seq ?_ | refine seq_normal ?_ | refine seq_ret ?_ | refine seq_exit ?_ | refine blk_normal ?_ | refine blk_ret ?_ | refine blk_hit ?_ | refine blk_miss rfl ?_ | refine aWp_ret ?_ | refine aWp_skip ?_ | refine aWp_block ?_ | refine aWp_exit ?_ | refine end_ret ?_ | refine end_normal ?_)
    by_cases hlt : i < ps.length
    · obtain ⟨p, hp⟩ : ∃ p, ps[i]? = some p := ⟨ps[i], by simp [hlt]⟩
      have hld : ldAgg (.sl 5) 1 (List.drop i (pCells ps)) = some p.av := by
        have : (pCells ps)[i]? = some p.av := by simp [pCells, hp]
        have hl : i < (pCells ps).length := by omega
        rw [List.drop_eq_getElem_cons hl]
        rw [List.getElem?_eq_getElem hl] at this
        injection this with this
        rw [this]; rfl
      have hpt := pAll_take hp
      have hle := pAll_le ps (i + 1)
      rw [hpt, List.length_append] at hle
      obtain ⟨d, g, hd, rfl, hT⟩ := hacc
      simp only [List.mem_cons, List.not_mem_nil, or_false] at hd
      rw [upd_self hT]
      rcases hd with rfl | rfl
      iterate 2
        · repeat (first | with_reducible (first | refine aWp_seq ?_ | refine seq_normal ?_ | refine seq_ret ?_ | refine seq_exit ?_ | refine blk_normal ?_ | refine blk_ret ?_ | refine blk_hit ?_ | refine blk_miss rfl ?_ | refine aWp_ret ?_ | refine aWp_skip ?_ | refine aWp_block ?_ | refine aWp_exit ?_ | refine end_ret ?_ | refine end_normal ?_) | ((refine rgA ?_); intro ν) | ((with_reducible apply cndT); exact rfl; (first | rfl | assumption)) | ((with_reducible apply cndF); exact rfl; (first | rfl | assumption)))
          refine ⟨ps.length - (i + 1), by omega, _, _, _, i + 1, _, rfl, by omega, rfl, rfl, rfl, rfl, rfl, .ow (by simp) rfl ?_ ?_⟩
          · rw [hpt, List.length_append]
          · rw [hpt]
    · have hie : i = ps.length := by omega
      subst hie
      rw [List.take_length] at hacc
      obtain ⟨d, g, hd, rfl, hT⟩ := hacc
      simp only [List.mem_cons, List.not_mem_nil, or_false] at hd
      rw [upd_self hT]
      rcases hd with rfl | rfl
      iterate 2
        · repeat (first | with_reducible (first | refine aWp_seq ?_ | refine seq_normal ?_ | refine seq_ret ?_ | refine seq_exit ?_ | refine blk_normal ?_ | refine blk_ret ?_ | refine blk_hit ?_ | refine blk_miss rfl ?_ | refine aWp_ret ?_ | refine aWp_skip ?_ | refine aWp_block ?_ | refine aWp_exit ?_ | refine end_ret ?_ | refine end_normal ?_) | ((refine rgA ?_); intro ν) | ((with_reducible apply cndT); exact rfl; (first | rfl | assumption)) | ((with_reducible apply cndF); exact rfl; (first | rfl | assumption)))
          (first | with_reducible refine end_r ?_ | with_reducible refine end_n ?_)
          exact endO rfl rfl (by first | rfl | exact hT) hsc
theorem sc_bytes (l : List UInt8) : (aOfBytes l).all AV.sc = true := by
  simp [aOfBytes, AV.sc]
theorem concatBO_spec (full : Bool) (ps : List (Bool × List UInt8)) (h0 : 0 < (ps.flatMap (·.2)).length) (hb : (ps.flatMap (·.2)).length ≤ 100000000) (hN : ps.length ≤ 1000000) : Spec Try.prog 42 [.sl full ps.length (pCells (ps.map pB))] (.own (ps.flatMap (·.2)).length 5 (aOfBytes (ps.flatMap (·.2)))) := by
  have h := concatO_spec full (ps.map pB) (by rw [pB_all]; exact sc_bytes _) (by rw [pB_all, aOfBytes_len]; exact h0) (by rw [pB_all, aOfBytes_len]; exact hb) (by simpa using hN)
  rwa [pB_all, aOfBytes_len, List.length_map] at h
theorem grow0_run (a : Option Addr) (w : World) : Calls Try.prog 77 #[.slice a 0 0, .int .i64 0] w fun e w' => e = .returned (.slice a 0 0) ∧ w' = w := by
  go_enter Try.func77, Try.ntmps77
  go_wp2_with fail
  go_ret
  exact ⟨rfl, rfl⟩
theorem grow0_spec : Spec Try.prog 77 [.sl true 0 [], .int .i64 0] (.k (.sl true 0 [])) := by
  refine spec_calls ⟨_, Try.func77, rfl, rfl⟩ fun K w vs hk ha => ?_
  obtain ⟨u, v, rfl, g0, g1⟩ := args2 ha
  rw [kint_inv g1]
  obtain ⟨a, c, rfl, _, _, hc, _⟩ := ksl_inv g0
  rw [hc rfl]
  refine (grow0_run a w).mono ?_
  rintro e w' ⟨rfl, rfl⟩
  exact ⟨_, rfl, Below.refl _ _, .sl0 _ _ _ (Nat.zero_le _) (fun _ => rfl)⟩
theorem pAll_nil {ps : List Part} (h : pAll ps = []) {i : Nat} {p : Part} (hp : ps[i]? = some p) : p.2 = [] := by
  have h1 := List.flatMap_eq_nil_iff.1 h
  exact h1 p (List.mem_of_getElem? hp)
set_option maxHeartbeats 8000000 in
theorem concatZ_spec (full : Bool) (ps : List Part) (h0 : pAll ps = []) (hN : ps.length ≤ 1000000) : Spec Try.prog 42 [.sl full ps.length (pCells ps)] (.k (.sl true 0 [])) := by
  refine spec_of (fun _ => false) (by kernel_rfl) Try.func42 rfl rfl (by simp [Try.ntmps42]) (by decide) ?_
  intro δ
  rw [init1]
  have hlen := pCells_len ps
  have hel : ∀ (i : Nat) (p : Part), ps[i]? = some p → p.2.length = 0 := fun i p hp => by rw [pAll_nil h0 hp]; rfl
  repeat (first | with_reducible (first | refine aWp_seq ?_ | refine seq_normal ?_ | refine seq_ret ?_ | refine seq_exit ?_ | refine blk_normal ?_ | refine blk_ret ?_ | refine blk_hit ?_ | refine blk_miss rfl ?_ | refine aWp_ret ?_ | refine aWp_skip ?_ | refine aWp_block ?_ | refine aWp_exit ?_ | refine end_ret ?_ | refine end_normal ?_) | ((refine rgA ?_); intro ν) | ((with_reducible apply cndT); exact rfl; (first | rfl | assumption)) | ((with_reducible apply cndF); exact rfl; (first | rfl | assumption)))
  refine aWp_loop (fun m s => ∃ F T ν i, m = ps.length - i ∧ i ≤ ps.length ∧ s = ⟨F, T, ν, ⟨fun _ => false, δ, false⟩⟩ ∧
    F 0 = .k (.sl full ps.length (pCells ps)) ∧ F 9 = .k (.sl full ps.length (pCells ps)) ∧ F 10 = .k (.int .i64 (ps.length : Nat)) ∧ F 11 = .k (.int .i64 (i : Nat)) ∧ F 3 = .k (.int .i64 0)) ps.length ⟨_, _, _, 0, rfl, Nat.zero_le _, rfl, rfl, rfl, rfl, rfl, rfl⟩ ?_
  rintro m s ⟨F, T, ν, i, rfl, hi, rfl, f0, f9, f10, f11, f3⟩
  rw [has5 f0 f9 f10 f11 f3]
  repeat with_reducible (first | refine aWp_seq ?_ | refine seq_normal ?_ | refine seq_ret ?_ | refine seq_exit ?_ | refine blk_normal ?_ | refine blk_ret ?_ | refine blk_hit ?_ | refine blk_miss rfl ?_ | refine aWp_ret ?_ | refine aWp_skip ?_ | refine aWp_block ?_ | refine aWp_exit ?_ | refine end_ret ?_ | refine end_normal ?_)
  by_cases hlt : i < ps.length
  · obtain ⟨p, hp⟩ : ∃ p, ps[i]? = some p := ⟨ps[i], by simp [hlt]⟩
    have hld : ldAgg (.sl 5) 1 (List.drop i (pCells ps)) = some p.av := by
      have : (pCells ps)[i]? = some p.av := by simp [pCells, hp]
      have hl : i < (pCells ps).length := by omega
      rw [List.drop_eq_getElem_cons hl]
      rw [List.getElem?_eq_getElem hl] at this
      injection this with this
      rw [this]; rfl
    have hp0 := hel i p hp
    repeat (first | with_reducible (first | refine aWp_seq ?_ | refine seq_normal ?_ | refine seq_ret ?_ | refine seq_exit ?_ | refine blk_normal ?_ | refine blk_ret ?_ | refine blk_hit ?_ | refine blk_miss rfl ?_ | refine aWp_ret ?_ | refine aWp_skip ?_ | refine aWp_block ?_ | refine aWp_exit ?_ | refine end_ret ?_ | refine end_normal ?_) | ((refine rgA ?_); intro ν) | ((with_reducible apply cndT); exact rfl; (first | rfl | assumption)) | ((with_reducible apply cndF); exact rfl; (first | rfl | assumption)))
    refine ⟨ps.length - (i + 1), by omega, _, _, _, i + 1, rfl, by omega, rfl, rfl, rfl, rfl, rfl, ?_⟩
    show (SV.k (.int .i64 ((0 : Int) + (p.2.length : Int))) : SV) = _
    rw [hp0]; rfl
  · have hie : i = ps.length := by omega
    subst hie
    repeat (first | with_reducible (first | refine aWp_seq ?_ | refine seq_normal ?_ | refine seq_ret ?_ | refine seq_exit ?_ | refine blk_normal ?_ | refine blk_ret ?_ | refine blk_hit ?_ | refine blk_miss rfl ?_ | refine aWp_ret ?_ | refine aWp_skip ?_ | refine aWp_block ?_ | refine aWp_exit ?_ | refine end_ret ?_ | refine end_normal ?_) | ((refine rgA ?_); intro ν) | ((with_reducible apply cndT); exact rfl; (first | rfl | assumption)) | ((with_reducible apply cndF); exact rfl; (first | rfl | assumption)))
    refine rg fun K hK => ?_
    refine stA ?_
    (first | with_reducible refine g0 ?_ | ((with_reducible refine g1 ?_ ?_); (with_reducible apply gt_); exact rfl; exact rfl; (first | rfl | assumption | (simp [*] <;> done)))); refine scA (h2 := (grow0_spec)) (hk := ?_)
    refine stA ?_
    with_reducible refine rz ?_
    refine hK _ _ _ ?_
    clear hK K; intro ν
    repeat (first | with_reducible (first | refine aWp_seq ?_ | refine seq_normal ?_ | refine seq_ret ?_ | refine seq_exit ?_ | refine blk_normal ?_ | refine blk_ret ?_ | refine blk_hit ?_ | refine blk_miss rfl ?_ | refine aWp_ret ?_ | refine aWp_skip ?_ | refine aWp_block ?_ | refine aWp_exit ?_ | refine end_ret ?_ | refine end_normal ?_) | ((refine rgA ?_); intro ν) | ((with_reducible apply cndT); exact rfl; (first | rfl | assumption)) | ((with_reducible apply cndF); exact rfl; (first | rfl | assumption)))
    refine aWp_loop (fun m s => ∃ F T ν i, m = ps.length - i ∧ i ≤ ps.length ∧ s = ⟨F, T, ν, ⟨fun _ => false, δ, false⟩⟩ ∧
      F 25 = .k (.sl full ps.length (pCells ps)) ∧ F 26 = .k (.int .i64 (ps.length : Nat)) ∧ F 27 = .k (.int .i64 (i : Nat)) ∧ F 6 = .k (.sl true 0 [])) ps.length ⟨_, _, _, 0, rfl, Nat.zero_le _, rfl, rfl, rfl, rfl, rfl⟩ ?_
    rintro m s ⟨F, T, ν, i, rfl, hi, rfl, f25, f26, f27, f6⟩
    rw [has4 f25 f26 f27 f6]
    repeat with_reducible (first | refine aWp_seq ?_ | refine seq_normal ?_ | refine seq_ret ?_ | refine seq_exit ?_ | refine blk_normal ?_ | refine blk_ret ?_ | refine blk_hit ?_ | refine blk_miss rfl ?_ | refine aWp_ret ?_ | refine aWp_skip ?_ | refine aWp_block ?_ | refine aWp_exit ?_ | refine end_ret ?_ | refine end_normal ?_)
    by_cases hlt : i < ps.length
    · obtain ⟨p, hp⟩ : ∃ p, ps[i]? = some p := ⟨ps[i], by simp [hlt]⟩
      have hld : ldAgg (.sl 5) 1 (List.drop i (pCells ps)) = some p.av := by
        have : (pCells ps)[i]? = some p.av := by simp [pCells, hp]
        have hl : i < (pCells ps).length := by omega
        rw [List.drop_eq_getElem_cons hl]
        rw [List.getElem?_eq_getElem hl] at this
        injection this with this
        rw [this]; rfl
      have hp0 := hel i p hp
      repeat (first | with_reducible (first | refine aWp_seq ?_ | refine seq_normal ?_ | refine seq_ret ?_ | refine seq_exit ?_ | refine blk_normal ?_ | refine blk_ret ?_ | refine blk_hit ?_ | refine blk_miss rfl ?_ | refine aWp_ret ?_ | refine aWp_skip ?_ | refine aWp_block ?_ | refine aWp_exit ?_ | refine end_ret ?_ | refine end_normal ?_) | ((refine rgA ?_); intro ν) | ((with_reducible apply cndT); exact rfl; (first | rfl | assumption)) | ((with_reducible apply cndF); exact rfl; (first | rfl | assumption)))
      refine ⟨ps.length - (i + 1), by omega, _, _, _, i + 1, rfl, by omega, rfl, rfl, rfl, rfl, rfl⟩
    · have hie : i = ps.length := by omega
      subst hie
      repeat (first | with_reducible (first | refine aWp_seq ?_ | refine seq_normal ?_ | refine seq_ret ?_ | refine seq_exit ?_ | refine blk_normal ?_ | refine blk_ret ?_ | refine blk_hit ?_ | refine blk_miss rfl ?_ | refine aWp_ret ?_ | refine aWp_skip ?_ | refine aWp_block ?_ | refine aWp_exit ?_ | refine end_ret ?_ | refine end_normal ?_) | ((refine rgA ?_); intro ν) | ((with_reducible apply cndT); exact rfl; (first | rfl | assumption)) | ((with_reducible apply cndF); exact rfl; (first | rfl | assumption)))
      (first | with_reducible refine end_r ?_ | with_reducible refine end_n ?_); refine en1 ?_
      rfl
theorem concatBZ_spec (full : Bool) (ps : List (Bool × List UInt8)) (h0 : ps.flatMap (·.2) = []) (hN : ps.length ≤ 1000000) : Spec Try.prog 42 [.sl full ps.length (pCells (ps.map pB))] (.k (.sl true 0 [])) := by
  have h := concatZ_spec full (ps.map pB) (by rw [pB_all, h0]; rfl) (by simpa using hN)
  rwa [List.length_map] at h
end Go.Proofs.Ytmbnclpgldglnaa
end
section
namespace Go.Proofs.Ytmbnclpgldglnaa
open Go.RowKit
set_option linter.unusedVariables false
set_option linter.unusedSimpArgs false
set_option maxRecDepth 20000
attribute [local go_sem] Oper.semAt_some
/-! slices.Insert(s, 0, x) at [][]byte -/
theorem wpList_cp {P : Program} {w w' : World} {ops : Array Oper} {rest : List Oper} {o : Oper} {a : Act} {Q : Exit → Act → World → Prop} (hgd : o.guard = none) (d s : Operand) (t t' : TypeId)
    (ho : o.op = .call { callee := .builtin .copy, args := #[d, s], argTypes := #[t, t'] }) {v u v' : Value} (hd : a.eval d = v) (hs : a.eval s = u) (hr : (Builtin.copy_ #[t, t'] o.type #[v, u]).run P w = .ok v' w')
    (h : wpList P ops Q rest (a.put o.dst v') w') : wpList P ops Q (o :: rest) a w := by
  refine wpList_plain hgd fun K hK => ?_
  unfold Oper.wp execOp
  simp only [ho, resolve, invoke, builtin, Sem.run_bind, Sem.run_pure, Result.andThen_ok, List.map_toArray, List.map_cons, List.map_nil, hd, hs, hr]
  exact hK _ _ h
theorem step_cp {P : Program} {ops : Array Oper} {o : Oper} {a : Act} {w w' : World} {K : Act → World → Prop} {Q : Exit → Act → World → Prop} {E : Prop} (hg : o.guard = none) (d x : Operand) (dT sT : TypeId)
    (hop : o.op = Op.call { callee := Callee.builtin Builtin.copy, args := #[d, x], argTypes := #[dT, sT] }) {v u v' : Value} (hd : a.eval d = v) (hx : a.eval x = u) (hr : (Builtin.copy_ #[dT, sT] o.type #[v, u]).run P w = .ok v' w') (hK : K (a.put o.dst v') w') :
    if Region.wanted o (yielded ops a.tmps) = true then Oper.wp P o a w K Q else E := by
  have hw : Region.wanted o (yielded ops a.tmps) = true := by simp [Region.wanted, hg]
  rw [if_pos hw]
  unfold Oper.wp
  simp [execOp, hop, resolve, invoke, builtin, hd, hx, hr, Result.andThen]
  exact hK
theorem getv {arr : Array Value} {w : World} {b : Nat} {T : TypeId} {fz : Nat × Nat} (hb : w.heap[b]? = some (.cells arr T fz)) {l : List Value} {n : Nat} (h : arr.toList.take n = l) {off : Nat} (j : Nat) (u : Value) (hu : (l.drop off)[j]? = some u) : w.cell? ((⟨b, off, none⟩ : Addr).add j) = some u := by
  rw [show (⟨b, off, none⟩ : Addr).add j = ⟨b, off + j, none⟩ by unfold Addr.add; split <;> simp_all]
  rw [cell_of_row w b (off + j) arr T _ hb]
  rw [List.getElem?_drop, ← h, List.getElem?_take] at hu
  split at hu
  · rwa [Array.getElem?_toList] at hu
  · cases hu
set_option maxHeartbeats 8000000 in
set_option maxRecDepth 100000 in
theorem ins_room (b n c vb vc : Nat) (cur curv : Array Value) (cs : List Value) (v : Value) (w : World) (hn : 0 < n) (hroom : n + 1 ≤ c) (hc : c ≤ 9223372036854775807) (hvb : vb ≠ b)
    (hb : w.heap[b]? = some (.cells cur 22 (0, 0))) (hcur : cur.size = c) (htk : cur.toList.take n = cs) (hb2 : w.heap[vb]? = some (.cells curv 22 (0, 0))) (hv : curv[0]? = some v) (h1c : ∀ x ∈ cs, x.oneCell' = true) (h1v : v.oneCell' = true) :
    Calls Try.prog 62 #[.slice (some ⟨b, 0, none⟩) n c, .int .i64 0, .slice (some ⟨vb, 0, none⟩) 1 vc] w fun e w' =>
      e = .returned (.slice (some ⟨b, 0, none⟩) (n + 1) c) ∧ ∃ r : List Value, w' = (w.drew.setRow b (cur.toList.take 1 ++ cs ++ cur.toList.drop (1 + n)).toArray).setRow b (v :: cs ++ r).toArray := by
  have hcl : cs.length = n := by rw [← htk, List.length_take, Array.length_toList]; omega
  have hsz : (Try.prog.info? 22).map (·.size) = some 1 := by kernel_rfl
  obtain ⟨i, z, d, hi, hz, hzs, hz1, hszz, hbe, hzr, hd⟩ := ti_ok (P := Try.prog) (t := 22) (by kernel_rfl)
  have hs1 : ∀ w, (Go.sizeOf 22).run Try.prog w = .ok 1 w := fun w => by
    rw [run_sizeOf' hi]
    rw [hi] at hsz
    simp only [Option.map_some, Option.some.injEq] at hsz
    rw [hsz]
  have hsa : w.shape? vb = some (22, curv.size) := by unfold World.shape?; rw [hb2]
  have hsb : w.shape? b = some (22, cur.size) := by unfold World.shape?; rw [hb]
  have hfa : ∀ k, w.frozen? ⟨vb, k, none⟩ = false := fun k => by unfold World.frozen?; simp [hb2]
  have hov : ∀ lb cb, (callFunc 95 #[.slice (some ⟨vb, 0, none⟩) 1 vc, .slice (some ⟨b, 1, none⟩) lb cb]).run Try.prog w = .ok (.value (.bool false)) w := fun lb cb => by
    rw [run_callFunc_extern Try.func95 (by kernel_rfl) (by kernel_rfl) (by kernel_rfl) (e := Extern.SlicesOverlaps.overlaps #[79, 79] #[4]) (by kernel_rfl),
      Lib.run_overlaps_apart w 79 4 22 Try.underlying79 1 hs1 ⟨vb, 0, none⟩ ⟨b, 1, none⟩ 1 vc lb cb hvb _ _ _ _ hsa hsb (by omega) (hfa _) (hfa _)]
    rfl
  have hcp1 : ∀ ty dc sc, (Builtin.copy_ #[79, 79] ty #[.slice (some ⟨b, 1, none⟩) n dc, .slice (some ⟨b, 0, none⟩) (n + 1) sc]).run Try.prog w.drew = .ok (goInt cs.length) (w.drew.setRow b (cur.toList.take 1 ++ cs ++ cur.toList.drop (1 + n)).toArray) := fun ty dc sc => by
    have := run_copy_row (P := Try.prog) w.drew 79 79 ty 22 b 1 n dc ⟨b, 0, none⟩ (n + 1) sc cur 22 cs Try.underlying79 hsz hb (by simp only [Nat.min_def]; split <;> omega) (fun j u hu => getv hb htk j u (by simpa using hu)) (by omega) h1c
    rw [hcl] at this
    rw [hcl]; exact this
  obtain ⟨A1, hA1⟩ : ∃ A1, A1 = (cur.toList.take 1 ++ cs ++ cur.toList.drop (1 + n)).toArray := ⟨_, rfl⟩
  have hA1s : A1.size = c := by rw [hA1]; simp; omega
  rw [← hA1] at hcp1 ⊢
  have hcp2 : ∀ (W : World), W.heap = (w.drew.setRow b A1).heap → ∀ ty dc, (Builtin.copy_ #[79, 79] ty #[.slice (some ⟨b, 0, none⟩) (n + 1) dc, .slice (some ⟨vb, 0, none⟩) 1 vc]).run Try.prog W = .ok (goInt 1) (W.setRow b (v :: cs ++ A1.toList.drop (1 + n)).toArray) := fun W hW ty dc => by
    have e1 : W.heap[b]? = some (.cells A1 22 (0, 0)) := by rw [hW]; exact setRow_heap w.drew b cur A1 _ _ hb
    have e2 : W.heap[vb]? = some (.cells curv 22 (0, 0)) := by rw [hW, setRow_other w.drew b vb A1 hvb]; exact hb2
    have := run_copy_row (P := Try.prog) W 79 79 ty 22 b 0 (n + 1) dc ⟨vb, 0, none⟩ 1 vc A1 22 [v] Try.underlying79 hsz e1 (by simp only [Nat.min_def]; split <;> simp; omega) (fun j u hu => by
      cases j with
      | zero => simp at hu; subst hu; rw [show (⟨vb, 0, none⟩ : Addr).add 0 = ⟨vb, 0, none⟩ from rfl, cell_of_row W vb 0 curv _ _ e2]; exact hv
      | succ j => simp at hu) (by simp; omega) (by simpa using h1v)
    have e3 : (A1.toList.take 0 ++ [v] ++ A1.toList.drop (0 + [v].length)) = v :: cs ++ A1.toList.drop (1 + n) := by
      have e4 : A1.toList = cur.toList.take 1 ++ cs ++ cur.toList.drop (1 + n) := by rw [hA1]
      have l1 : (cur.toList.take 1).length = 1 := by simp; omega
      have h5 : A1.toList.drop 1 = cs ++ cur.toList.drop (1 + n) := by rw [e4, List.append_assoc]; exact List.drop_left' l1
      have h6 : A1.toList.drop (1 + n) = cur.toList.drop (1 + n) := by rw [e4]; exact List.drop_left' (by rw [List.length_append, l1, hcl])
      rw [h6, List.take_zero, List.nil_append, List.length_singleton, Nat.zero_add, h5]; rfl
    rw [e3] at this
    exact this
  have H1 := Lib.hid hcp1
  have H2 := Lib.hid hcp2
  have HO := Lib.hid hov
  clear hcp1 hcp2 hov hA1 htk hzr hz1 hzs hz hbe hi hd hs1
  have hz1 : ¬ ((0 : Int) = (n : Int)) := by omega
  have hw1 : IntKind.i64.wrap 1 = (1 : Int) := by decide
  have hb2 : ¬ (c = 1) := by omega
  have hb3 : (1 : Int) ≤ (n : Int) + 1 := by omega
  have hb4 : ¬ (c = 0) := by omega
  have hb5 : (0 : Int) ≤ (n : Int) + 1 := by omega
  go_enter Try.func62, Try.ntmps62
  go_wp2_with (simp only [HO.out])
  go_region_law (refine step_cp (v := .slice (some ⟨b, 1, none⟩) n (c - 1)) (u := .slice (some ⟨b, 0, none⟩) (n + 1) c) rfl _ _ 79 79 rfl (by simp [Act.eval, Act.put]) (by simp [Act.eval, Act.put]) (H1.out _ _ _) ?_)
  go_wp2_with (refine wpList_cp (o := ⟨some 82, _, _, _, _, _⟩) (v := .slice (some ⟨b, 0, none⟩) (n + 1) c) (u := .slice (some ⟨vb, 0, none⟩) 1 vc) rfl _ _ 79 79 rfl rfl rfl (H2.out (w.drew.setRow b A1) rfl _ _) ?_)
  go_ret
  exact ⟨rfl, _, rfl⟩
set_option maxHeartbeats 8000000 in
set_option maxRecDepth 100000 in
theorem ins_new (b n vb vc : Nat) (cur curv : Array Value) (cs : List Value) (v : Value) (w : World) (hn : 0 < n) (hc : n ≤ 1000000) (hvb : vb ≠ b)
    (hb : w.heap[b]? = some (.cells cur 22 (0, 0))) (htk : cur.toList.take n = cs) (hcl : cs.length = n) (hb2 : w.heap[vb]? = some (.cells curv 22 (0, 0))) (hv : curv[0]? = some v) (h1c : ∀ x ∈ cs, x.oneCell' = true) (h1v : v.oneCell' = true) :
    Calls Try.prog 62 #[.slice (some ⟨b, 0, none⟩) n n, .int .i64 0, .slice (some ⟨vb, 0, none⟩) 1 vc] w fun e w' =>
      ∃ (cap : Nat) (A0 A1 : Array Value) (r : List Value), e = .returned (.slice (some ⟨w.heap.size, 0, none⟩) (n + 1) cap) ∧ n + 1 ≤ cap ∧ cap ≤ maxLen ∧ A0.size = cap ∧ (v :: cs ++ r).length = cap ∧ w' = ((w.drew.alloc (.cells A0 22)).setRow w.heap.size A1).drew.setRow w.heap.size (v :: cs ++ r).toArray := by
  have hsz : (Try.prog.info? 22).map (·.size) = some 1 := by kernel_rfl
  obtain ⟨i, z, d, hi, hz, hzs, hz1, hszz, hbe, hzr, hd⟩ := ti_ok (P := Try.prog) (t := 22) (by kernel_rfl)
  have s1 : i.size = 1 := by rw [← hszz]; kernel_rfl
  have b1 : i.bytes = 24 := by rw [← hbe]; kernel_rfl
  have hone : ∀ u ∈ (Builtin.zeroCells z.cells (n + 1)).toList, u.oneCell' = true := fun u hu => by
    obtain ⟨j, hj⟩ := List.getElem?_of_mem hu
    rw [Array.getElem?_toList] at hj
    exact (zeros_rep ⟨fun _ _ => .bool true, fun _ => 0, fun _ _ _ => none, 0, fun _ _ _ _ => rfl⟩ (n + 1) i.size z.cells hzs (by omega) hz1).2.1 j u (by rw [← hzs]; exact hj)
  have src := ASrc.ofZeros (w := w) (t' := 3) hi hz hzs hone Try.underlying3 (by omega) (m := n + 1) (by omega) (by rw [b1]; omega) .i64
  have hfc : (Builtin.firstCells i.size 0 (.slice (some ⟨b, 0, none⟩) 0 n)).run Try.prog w.drew = .ok ([] : List Value).toArray w.drew := run_firstCells_some w.drew i.size 0 ⟨b, 0, none⟩ 0 n [] (by simp) (fun j u hu => by simp at hu)
  have hrun := src.grow 79 79 (some ⟨b, 0, none⟩) 0 n [] Try.underlying79 hfc (by omega) (by omega) (by omega) (by rw [b1]; omega)
  have hcm : grownCap w (0 + (n + 1)) n 22 ≤ maxLen := grownCap_le_maxLen w _ n 22 (by unfold maxLen; omega)
  have hge := grownCap_ge w (0 + (n + 1)) n 22
  have hcs0 : ((([] : List Value).toArray ++ (Builtin.zeroCells z.cells (n + 1)).toList.toArray ++ Builtin.zeroCells z.cells (grownCap w (0 + (n + 1)) n 22 - (0 + (n + 1))))).size = grownCap w (0 + (n + 1)) n 22 := by
    simp only [Array.size_append, size_zeroCells, hzs, s1, List.size_toArray, Array.length_toList, List.length_nil]; omega
  generalize (([] : List Value).toArray ++ (Builtin.zeroCells z.cells (n + 1)).toList.toArray ++ Builtin.zeroCells z.cells (grownCap w (0 + (n + 1)) n 22 - (0 + (n + 1)))) = A0 at hrun hcs0
  generalize grownCap w (0 + (n + 1)) n 22 = cap at *
  rw [Nat.zero_add] at hrun hge
  have hN : b ≠ w.heap.size := by have := (Array.getElem?_eq_some_iff.1 hb).1; omega
  have hN2 : vb ≠ w.heap.size := by have := (Array.getElem?_eq_some_iff.1 hb2).1; omega
  obtain ⟨W1, hW1⟩ : ∃ W1, W1 = w.drew.alloc (.cells A0 22) := ⟨_, rfl⟩
  have k0 : W1.heap[w.heap.size]? = some (.cells A0 22 (0, 0)) := by rw [hW1]; exact heap_alloc_new w.drew _
  have k1 : W1.heap[b]? = some (.cells cur 22 (0, 0)) := by rw [hW1]; exact (Below.heap_alloc w.drew _ b (Array.getElem?_eq_some_iff.1 hb).1).trans hb
  have k2 : W1.heap[vb]? = some (.cells curv 22 (0, 0)) := by rw [hW1]; exact (Below.heap_alloc w.drew _ vb (Array.getElem?_eq_some_iff.1 hb2).1).trans hb2
  rw [← hW1, show ((n + 1 : Nat) : Int) = (n : Int) + 1 by omega] at hrun
  obtain ⟨A1, hA1⟩ : ∃ A1, A1 = (v :: A0.toList.drop 1).toArray := ⟨_, rfl⟩
  have hA1s : A1.size = cap := by rw [hA1]; simp; omega
  have hcp1 : ∀ ty dc, (Builtin.copy_ #[79, 79] ty #[.slice (some ⟨w.heap.size, 0, none⟩) (n + 1) dc, .slice (some ⟨vb, 0, none⟩) 1 vc]).run Try.prog W1 = .ok (goInt 1) (W1.setRow w.heap.size A1) := fun ty dc => by
    have := run_copy_row (P := Try.prog) W1 79 79 ty 22 w.heap.size 0 (n + 1) dc ⟨vb, 0, none⟩ 1 vc A0 22 [v] Try.underlying79 hsz k0 (by simp only [Nat.min_def]; split <;> simp; omega) (fun j u hu => by
      cases j with
      | zero => simp at hu; subst hu; rw [show (⟨vb, 0, none⟩ : Addr).add 0 = ⟨vb, 0, none⟩ from rfl, cell_of_row W1 vb 0 curv _ _ k2]; exact hv
      | succ j => simp at hu) (by simp; omega) (by simpa using h1v)
    rw [show (A0.toList.take 0 ++ [v] ++ A0.toList.drop (0 + [v].length)).toArray = A1 by rw [hA1]; simp] at this
    exact this
  obtain ⟨W2, hW2⟩ : ∃ W2, W2 = W1.setRow w.heap.size A1 := ⟨_, rfl⟩
  rw [← hW2] at hcp1
  have q0 : W2.heap[w.heap.size]? = some (.cells A1 22 (0, 0)) := by rw [hW2]; exact setRow_heap W1 _ A0 A1 _ _ k0
  have q1 : W2.heap[b]? = some (.cells cur 22 (0, 0)) := by rw [hW2, setRow_other W1 _ b A1 hN]; exact k1
  have hcp2 : ∀ ty dc sc, (Builtin.copy_ #[79, 79] ty #[.slice (some ⟨w.heap.size, 1, none⟩) n dc, .slice (some ⟨b, 0, none⟩) n sc]).run Try.prog W2.drew = .ok (goInt cs.length) (W2.drew.setRow w.heap.size (v :: cs ++ A1.toList.drop (1 + n)).toArray) := fun ty dc sc => by
    have := run_copy_row (P := Try.prog) W2.drew 79 79 ty 22 w.heap.size 1 n dc ⟨b, 0, none⟩ n sc A1 22 cs Try.underlying79 hsz q0 (by simp only [Nat.min_def]; split <;> omega) (fun j u hu => by
      exact getv (w := W2.drew) (off := 0) q1 htk j u (by simpa using hu)) (by omega) h1c
    rw [hcl] at this
    rw [show A1.toList.take 1 ++ cs ++ A1.toList.drop (1 + n) = v :: cs ++ A1.toList.drop (1 + n) by rw [hA1]; simp] at this
    rw [hcl]; exact this
  have hfin : (v :: cs ++ A1.toList.drop (1 + n)).length = cap := by simp [hcl]; omega
  have H0 := Lib.hid hrun
  have H1 := Lib.hid hcp1
  have H2 := Lib.hid hcp2
  have HF := Lib.hid hfin
  have HW1 := Lib.hid hW1
  have HW2 := Lib.hid hW2
  clear hW1 hW2 hrun hcp1 hcp2 hA1 htk hzr hz1 hzs hz hbe hi hd hone src hfc hfin
  have hz1 : ¬ ((0 : Int) = (n : Int)) := by omega
  have hw1 : IntKind.i64.wrap 1 = (1 : Int) := by decide
  have hb3 : (1 : Int) ≤ (n : Int) + 1 := by omega
  have hb5 : (0 : Int) ≤ (n : Int) + 1 := by omega
  have hb6 : ¬ (n = 0) := by omega
  have hb7 : ¬ (cap = 0) := by omega
  have hb8 : ¬ (cap = 1) := by omega
  go_enter Try.func62, Try.ntmps62
  go_wp2_with (first | (at_builtin; refine wpList_bi (o := ⟨some 40, _, _, _, _, _⟩) rfl _ _ 79 3 rfl rfl rfl H0.out ?_) | (refine wpList_cp (o := ⟨some 45, _, _, _, _, _⟩) (v := .slice (some ⟨w.heap.size, 0, none⟩) (n + 1) cap) (u := .slice (some ⟨vb, 0, none⟩) 1 vc) rfl _ _ 79 79 rfl rfl rfl (H1.out _ _) ?_))
  go_region_law (refine step_cp (v := .slice (some ⟨w.heap.size, 1, none⟩) n (cap - 1)) (u := .slice (some ⟨b, 0, none⟩) n n) rfl _ _ 79 79 rfl (by simp [Act.eval, Act.put]) (by simp [Act.eval, Act.put]) (H2.out _ _ _) ?_)
  go_wp2_with fail
  go_ret
  exact ⟨cap, A0, A1, _, rfl, hge, hcm, hcs0, HF.out, by rw [HW2.out, HW1.out]⟩
end Go.Proofs.Ytmbnclpgldglnaa
end
section
namespace Go.Proofs.Ytmbnclpgldglnaa
open Go.RowKit
set_option linter.unusedVariables false
set_option linter.unusedSimpArgs false
set_option maxRecDepth 20000
/-! the rest of a function, walked over abstract values, behind a beginning that is walked by hand -/
theorem av_tailQ {P : Program} {fn : Func} {c : Code} {args : List MA} {vs : Array Value} {R : Ending → World → Prop} {K : Kd} {w : World} {b k : Nat} {cs : List AV} {r : AV} {Q' : Exit → Act → World → Prop} (os : Nat → Bool) (hmo : P.follows .mixedOrders = true) (hok : codeOk vs.size true c = true) (hk : KOk K w) (ho : OkB K w b cs) (ha : MArgs P w K b args vs)
    (h : aWp P c (fun e s => e = .normal ∧ aEndK P fn.results.toList fn.resultTypes.toList s r) (initM args k cs ⟨os, K.dp, false⟩))
    (hR : ∀ v w' K', (Base.but w b).Kp w' → K.le K' → KOk K' w' → (∀ x, x < w.heap.size → x ≠ b → K'.hw x = K.hw x) → (∀ δ, δ < K.dp → ∀ d g, K'.rw δ d g = K.rw δ d g) → KRep K' r v → R (.returned v) w') (hQ : ∀ a' w', LeavesInM Fence.wide 5 P fn a'.tmps R a'.defers .returning w' → Q' .normal a' w') : c.wp P Q' { tmps := vs, defers := [] } w := by
  have hreal := initM_real (os := os) (nest := false) (k := k) hk ho ha vs.size
  rw [Nat.sub_self, Array.replicate_zero, Array.append_empty] at hreal
  refine wpIn_wide.1 (wpIn_mono (n := 5) (aWp_sound (N := vs.size) hmo c true Fence.wide 5 _ _ _ _ _ w _ .wide (fun _ => rfl) hok h hreal rfl) ?_)
  rintro e a' w' ⟨e', s', G', rfl, k1, k2, k3⟩
  have hl := leaves (fn := fn) (R := R) a'.defers _ G' a' w' rfl k2 fun A G2 a2 w2 q1 q2 _ q4 q5 q6 => by
    obtain ⟨v, h1, h6⟩ := finish q6 k1.2
    rw [q2] at h1
    have hkle : K.le G2.K := by have := q6.kle; rw [q1] at this; exact this
    refine ⟨v, h1, hR v w2 (lendK s' G2 w2) q6.below (hkle.trans (lend_le q6)) (lend_ok q6) (fun b2 hb2 e => (lend_below q6 (show b2 < w.heap.size ∧ b2 ≠ b from ⟨hb2, e⟩)).trans (by have := q6.kold b2 ⟨hb2, e⟩; rw [q1] at this; exact this)) (fun δ hδ d g => ?_) h6⟩
    have := q6.kro δ (by rw [q1]; exact hδ) d g
    rw [q1] at this; exact this
  obtain rfl := k1.1
  exact hQ _ _ hl
end Go.Proofs.Ytmbnclpgldglnaa
end
section
namespace Go.Proofs.Ytmbnclpgldglnaa
open Go.RowKit
set_option linter.unusedVariables false
set_option linter.unusedSimpArgs false
set_option maxRecDepth 20000
/-- a new slice, known from now on -/
theorem Spec.news_k {P : Program} {f : FuncId} {args : List AV} {n : Nat} {cells : List AV} (hn : cells.length = n) (h : Spec P f args (.news n cells)) : Spec P f args (.k (.sl false n cells)) := by
  refine ⟨h.1, fun K w vs hk ha => (h.2 K w vs hk ha).mono ?_⟩
  rintro e w' ⟨v, K', rfl, hbel, hle, hok, hhw, hrw, b, c, arr, ty, rfl, hnc, hcm, hB, hg, hh, hsz, hone, hkk⟩
  have hxl : (arr.toList.take n).length = n := by simp; omega
  have hxg : ∀ i, (hi : i < n) → (arr.toList.take n)[i]? = arr[i]? := fun i hi => by
    rw [List.getElem?_take, if_pos hi, Array.getElem?_toList]
  have hle2 : K'.le (K'.ext b n (arr.toList.take n)) := Kd.ext_le (by omega) fun i hi => by omega
  have one' : ∀ x ∈ arr.toList.take n, x.oneCell' = true := fun x hx => by
    obtain ⟨j, hj⟩ := List.getElem?_of_mem hx
    have hjn : j < n := by have := getq_lt hj; omega
    rw [hxg j hjn] at hj
    exact hone j x (by omega) hj
  have hgd : ∀ i, (hi : i < n) → arr[i]? = some ((arr.toList.take n).getD i undef) := fun i hi => by
    rw [List.getD_eq_getElem?_getD, hxg i hi]
    have : i < arr.size := by omega
    simp [this]
  have hcell : ∀ i, i < n → w'.cell? ⟨b, i, none⟩ = some ((arr.toList.take n).getD i undef) := fun i hi => by
    rw [World.cell?]
    simp only [hg]
    exact hgd i hi
  have hval : ∀ i, i < n → (K'.ext b n (arr.toList.take n)).val b (0 + i) = (arr.toList.take n).getD i undef := fun i hi => by
    show (if b = b then (arr.toList.take n).getD (0 + i) undef else K'.val b (0 + i)) = _
    rw [if_pos rfl, Nat.zero_add]
  refine ⟨_, K'.ext b n (arr.toList.take n), rfl, hbel, hle.trans hle2, hok.ext (by omega) one' hcell, fun b2 hb2 => ?_, hrw, .sl _ _ _ _ _ _ hnc hcm (fun q => by cases q) ⟨?_, fun i hi => ?_⟩ fun i x hxi => ?_⟩
  · show (if b2 = b then n else K'.hw b2) = K.hw b2
    rw [if_neg (by omega)]; exact hhw b2 hb2
  · show 0 + cells.length ≤ (if b = b then n else K'.hw b)
    rw [if_pos rfl]; omega
  · rw [hval i (by omega)]
    exact hone i _ hi (hgd i (by omega))
  · have hi' : i < cells.length := getq_lt hxi
    rw [hval i (by omega)]
    exact (hkk i x _ hxi (hgd i (by omega))).mono hle2
theorem bcells_len (l : List UInt8) (n : Nat) (h : l.length = n) : (aOfBytes l).length = n := by rw [aOfBytes_len, h]
end Go.Proofs.Ytmbnclpgldglnaa
end
section
namespace Go.Proofs.Ytmbnclpgldglnaa
open Go.RowKit Go.Lib
set_option linter.unusedVariables false
set_option linter.unusedSimpArgs false
set_option maxRecDepth 20000
attribute [local go_sem] Oper.semAt_some
set_option maxHeartbeats 1000000 in
theorem mulw_calls (x y : Nat) (hx : x < 18446744073709551616) (hy : y < 18446744073709551616) (w : World) :
    Calls Try.prog 78 #[.int .u64 x, .int .u64 y] w fun e w' => e = .returned (.tuple #[.int .u64 ((x * y / 18446744073709551616 : Nat) : Int), .int .u64 ((x * y % 18446744073709551616 : Nat) : Int)]) ∧ w' = w := by
  have c64 := mul64_calls x y hx hy w
  go_enter Try.func78, Try.ntmps78
  go_wp2_with (go_at_call 107; refine c64.mono ?_; rintro e w' ⟨rfl, hw⟩; rw [hw])
  go_ret2
  exact ⟨rfl, rfl⟩
theorem wpList_cp2 {P : Program} {w w' : World} {ops : Array Oper} {rest : List Oper} {o : Oper} {a : Act} {Q : Exit → Act → World → Prop} (hgd : o.guard = none) (d s : Operand) (t t' : TypeId)
    (ho : o.op = .call { callee := .builtin .copy, args := #[d, s], argTypes := #[t, t'] }) {v u v' : Value} (hd : a.eval d = v) (hs : a.eval s = u) (hr : (Builtin.copy_ #[t, t'] o.type #[v, u]).run P w = .ok v' w')
    (h : wpList P ops Q rest (a.put o.dst v') w') : wpList P ops Q (o :: rest) a w := by
  refine wpList_plain hgd fun K hK => ?_
  unfold Oper.wp execOp
  simp only [ho, resolve, invoke, builtin, Sem.run_bind, Sem.run_pure, Result.andThen_ok, List.map_toArray, List.map_cons, List.map_nil, hd, hs, hr]
  exact hK _ _ h
theorem step_cp2 {P : Program} {ops : Array Oper} {o : Oper} {a : Act} {w w' : World} {K : Act → World → Prop} {Q : Exit → Act → World → Prop} {E : Prop} (hg : o.guard = none) (d x : Operand) (dT sT : TypeId)
    (hop : o.op = Op.call { callee := Callee.builtin Builtin.copy, args := #[d, x], argTypes := #[dT, sT] }) {v u v' : Value} (hd : a.eval d = v) (hx : a.eval x = u) (hr : (Builtin.copy_ #[dT, sT] o.type #[v, u]).run P w = .ok v' w') (hK : K (a.put o.dst v') w') :
    if Region.wanted o (yielded ops a.tmps) = true then Oper.wp P o a w K Q else E := by
  have hw : Region.wanted o (yielded ops a.tmps) = true := by simp [Region.wanted, hg]
  rw [if_pos hw]
  unfold Oper.wp
  simp [execOp, hop, resolve, invoke, builtin, hd, hx, hr, Result.andThen]
  exact hK
set_option maxHeartbeats 8000000 in
set_option maxRecDepth 100000 in
theorem repeat_run (b o c : Nat) (x : Int) (n : Nat) (w : World) (hc : w.cell? ⟨b, o, none⟩ = some (.int .u8 x)) (hb : b < w.heap.size) (h1 : 1 ≤ n) (h2 : n ≤ 16) :
    Calls Try.prog 43 #[.slice (some ⟨b, o, none⟩) 1 c, .int .i64 n] w fun e w' => e = .returned (.slice (some ⟨w.heap.size, 0, none⟩) n n) ∧ ∃ arr : Array Value, w'.heap[w.heap.size]? = some (.cells arr 5 (0, 0)) ∧ n ≤ arr.size ∧ arr.toList.take n = List.replicate n (.int .u8 x) ∧ Below w.heap.size w w' := by
  obtain ⟨cs, hrun, hle, hmx⟩ := Lib.run_makeNoZero (P := Try.prog) w #[3] 22 5 Try.underlying22 n (by omega)
  obtain ⟨w1, hw1⟩ : ∃ w1, w1 = w.drew.drew.alloc (.cells cs 5) := ⟨_, rfl⟩
  have hmk : (callFunc 79 #[.int .i64 n]).run Try.prog w = .ok (.value (.slice (some ⟨w.heap.size, 0, none⟩) n cs.size)) w1 := by
    rw [run_callFunc_extern Try.func79 (by kernel_rfl) (by kernel_rfl) (by kernel_rfl) (e := Extern.BytealgMakeNoZero.makeNoZero #[3] #[22]) (by kernel_rfl), hrun, hw1]
    rfl
  go_enter Try.func43, Try.ntmps43
  have e1 : (1 : Nat) * n / 18446744073709551616 = 0 := by omega
  have e2 : (1 : Nat) * n % 18446744073709551616 = n := by omega
  have cm := mulw_calls 1 n (by omega) (by omega) w
  rw [e1, e2] at cm
  have hn0 : ¬ (n : Int) = 0 := by omega
  have hn1 : ¬ (n : Int) < 0 := by omega
  have HM := Lib.hid hmk
  have hw64 : IntKind.u64.wrap (n : Int) = n := m64_wrap n (by omega)
  have hwi : IntKind.i64.wrap (n : Int) = n := IntWalk.i64_in _ ⟨by omega, by omega⟩
  have hn2 : ¬ (9223372036854775807 : Int) < (n : Int) := by omega
  have hn3 : ¬ (8192 : Int) < (n : Int) := by omega
  have hbelo : Below w.heap.size w w1 := by rw [hw1]; exact (Below.refl _ _).drew.drew.alloc (Nat.le_refl _) _
  have hgo : w1.heap[w.heap.size]? = some (.cells cs 5 (0, 0)) := by rw [hw1]; exact heap_alloc_new w.drew.drew _
  have hco : w1.cell? ⟨b, o, none⟩ = some (.int .u8 x) := by
    rw [World.cell?_of_block (a := ⟨b, o, none⟩) (hbelo.block b hb)]; exact hc
  have hsz : (Try.prog.info? 5).map (·.size) = some 1 := by kernel_rfl
  have HL := Lib.hid hle
  have HSZ := Lib.hid hsz
  clear hmk hle hmx hrun hw1 e1 e2 hsz
  go_upto_region 17 with (first | (go_at_call 78; refine cm.mono ?_; rintro e w' ⟨rfl, hw⟩; rw [hw]; clear hw w') | simp only [HM.out])
  obtain ⟨A1, hA1⟩ : ∃ A1 : Array Value, A1 = (cs.toList.take 0 ++ [Value.int .u8 x] ++ cs.toList.drop (0 + 1)).toArray := ⟨_, rfl⟩
  have hcp1 : ∀ ty, (Builtin.copy_ #[22, 22] ty #[.slice (some ⟨w.heap.size, 0, none⟩) n n, .slice (some ⟨b, o, none⟩) 1 c]).run Try.prog w1 = .ok (goInt 1) (w1.setRow w.heap.size A1) := fun ty => by
    have := run_copy_row (P := Try.prog) w1 22 22 ty 5 w.heap.size 0 n n ⟨b, o, none⟩ 1 c cs 5 [.int .u8 x] Try.underlying22 HSZ.out hgo (by simp only [Nat.min_def]; split <;> simp <;> omega) (fun j u hu => by
      cases j with
      | zero => simp at hu; subst hu; exact hco
      | succ j => simp at hu) (by have := HL.out; simp; omega) (by simp [Value.oneCell'])
    rw [hA1]; exact this
  have hA1s : A1.size = cs.size := by have := HL.out; rw [hA1]; simp; omega
  have hA1t : A1.toList.take 1 = List.replicate 1 (.int .u8 x) := by rw [hA1]; simp
  have hg1 : (w1.setRow w.heap.size A1).heap[w.heap.size]? = some (.cells A1 5 (0, 0)) := setRow_heap w1 _ cs A1 _ _ hgo
  have hb1 : Below w.heap.size w (w1.setRow w.heap.size A1) := below_setRow hbelo (Nat.le_refl _) _
  have HC1 := Lib.hid hcp1
  have HS1 := Lib.hid hA1s
  have HT1 := Lib.hid hA1t
  have HG1 := Lib.hid hg1
  have HB1 := Lib.hid hb1
  clear hcp1 hA1s hA1t hg1 hb1 hbelo hgo hco hA1
  go_wp2_with (refine wpList_cp2 (o := ⟨some 60, _, _, _, _, _⟩) rfl _ _ 22 22 rfl rfl rfl (HC1.out _) ?_)
  go_loopw [10] (fun i wr => ∃ (k : Nat) (arr : Array Value), 1 ≤ k ∧ k ≤ n ∧ i = .int .i64 k ∧ wr.heap[w.heap.size]? = some (.cells arr 5 (0, 0)) ∧ arr.size = cs.size ∧ arr.toList.take k = List.replicate k (.int .u8 x) ∧ Below w.heap.size w wr) (fun i _ => n - (intOf i).toNat)
  case atStart => exact ⟨1, A1, Nat.le_refl _, h1, rfl, HG1.out, HS1.out, HT1.out, HB1.out⟩
  case round =>
    obtain ⟨k, arr, h1k, hkn, rfl, hg, hs, htk, hbel⟩ := hrel
    have hHG := Lib.hid hg
    have hHS := Lib.hid hs
    have hHT := Lib.hid htk
    have hHB := Lib.hid hbel
    clear hg hs htk hbel
    by_cases hlt : k < n
    · have hkm : min (k : Int) (n : Int) = (k : Int) := by omega
      obtain ⟨r, hr⟩ : ∃ r, r = min (n - k) k := ⟨_, rfl⟩
      obtain ⟨A2, hA2⟩ : ∃ A2 : Array Value, A2 = (arr.toList.take k ++ List.replicate r (Value.int .u8 x) ++ arr.toList.drop (k + r)).toArray := ⟨_, rfl⟩
      have hcp2 : ∀ ty dc sc, (Builtin.copy_ #[22, 22] ty #[.slice (some ⟨w.heap.size, k, none⟩) (n - k) dc, .slice (some ⟨w.heap.size, 0, none⟩) k sc]).run Try.prog wr.drew = .ok (goInt r) (wr.drew.setRow w.heap.size A2) := fun ty dc sc => by
        have := run_copy_row (P := Try.prog) wr.drew 22 22 ty 5 w.heap.size k (n - k) dc ⟨w.heap.size, 0, none⟩ k sc arr 5 (List.replicate r (Value.int .u8 x)) Try.underlying22 HSZ.out hHG.out (by rw [List.length_replicate, hr]; simp only [Nat.min_def]; split <;> split <;> omega) (fun j u hu => by
          rw [List.getElem?_replicate] at hu
          split at hu
          · rename_i hj
            injection hu with hu; subst hu
            have hg : wr.drew.heap[w.heap.size]? = some (.cells arr 5 (0, 0)) := hHG.out
            rw [show (⟨w.heap.size, 0, none⟩ : Addr).add j = ⟨w.heap.size, 0 + j, none⟩ by unfold Addr.add; split <;> simp_all, cell_of_row wr.drew _ (0 + j) arr _ _ hg, Nat.zero_add]
            have hjk : j < k := by omega
            have := congrArg (fun l => l[j]?) hHT.out
            simp only [List.getElem?_take, hjk, if_true, List.getElem?_replicate, Array.getElem?_toList] at this
            exact this
          · cases hu) (by have := HL.out; have := hHS.out; rw [List.length_replicate]; omega) (by intro u hu; rw [List.eq_of_mem_replicate hu]; rfl)
        rw [List.length_replicate] at this
        rw [hA2]; exact this
      have hA2s : A2.size = cs.size := by have := HL.out; have := hHS.out; rw [hA2]; simp; omega
      have hA2t : A2.toList.take (k + r) = List.replicate (k + r) (.int .u8 x) := by
        have hl : (arr.toList.take k ++ List.replicate r (Value.int .u8 x)).length = k + r := by have := HL.out; have := hHS.out; simp; omega
        rw [hA2]
        show List.take (k + r) (arr.toList.take k ++ List.replicate r (Value.int .u8 x) ++ arr.toList.drop (k + r)) = _
        rw [List.take_left' hl, hHT.out, List.replicate_append_replicate]
      have hg2 : (wr.drew.setRow w.heap.size A2).heap[w.heap.size]? = some (.cells A2 5 (0, 0)) := setRow_heap wr.drew _ arr A2 _ _ hHG.out
      have hb2 : Below w.heap.size w (wr.drew.setRow w.heap.size A2) := below_setRow hHB.out.drew (Nat.le_refl _) _
      have hrk : 1 ≤ r ∧ k + r ≤ n := by omega
      have HC2 := Lib.hid hcp2
      have HS2 := Lib.hid hA2s
      have HT2 := Lib.hid hA2t
      have HG2 := Lib.hid hg2
      have HB2 := Lib.hid hb2
      have HRK := Lib.hid hrk
      have hnk : ¬ (n : Int) < (k : Int) := by omega
      have hnk2 : ¬ n = k := by omega
      clear hcp2 hA2s hA2t hg2 hb2 hA2 hr hrk
      go_upto_region 20 with fail
      go_region_law (refine step_cp2 (v := .slice (some ⟨w.heap.size, k, none⟩) (n - k) (n - k)) (u := .slice (some ⟨w.heap.size, 0, none⟩) k n) rfl _ _ 22 22 rfl (by simp [Act.eval, Act.put]) (by simp [Act.eval, Act.put]) (HC2.out _ _ _) ?_)
      all_goals
        go_wp2_with fail
        go_roundw
        case rel => exact ⟨k + r, by have := HRK.out; omega, HRK.out.2, by have := HRK.out; rw [IntWalk.i64_in _ ⟨by omega, by omega⟩]; push_cast; rfl, A2, HG2.out, HS2.out, HT2.out, HB2.out⟩
        case measure =>
          have := HRK.out
          have hw : IntKind.i64.wrap ((k : Int) + (r : Int)) = (k : Int) + r := IntWalk.i64_in _ ⟨by omega, by omega⟩
          simp only [intOf, hw]
          omega
    · have hke := Lib.hid (show k = n by omega)
      go_wp2_with fail
      go_ret
      have hkn' := hke.out
      subst hkn'
      exact ⟨rfl, arr, hHG.out, by rw [hHS.out]; exact HL.out, hHT.out, hHB.out⟩
end Go.Proofs.Ytmbnclpgldglnaa
end
