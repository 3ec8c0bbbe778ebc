import Derived.Test.YtikganlbnhapcaaMem
import Derived.Deep.AppendLies
import Derived.Laws.CopyOwn
import Derived.Deep.OwnRows
namespace Go.Proofs.Ytikganlbnhapcaa
open Go.RowKit
set_option linter.unusedVariables false
set_option linter.unusedSimpArgs false

/-- a slice type over one-cell elements -/
structure SlT (P : Program) (t e : TypeId) (z : Value) (bytes : Nat) : Prop where
  ht : P.underlying t = some (.slice e)
  hi : (P.info? e).map (fun i => (i.zero, i.size, i.bytes)) = some (some z, 1, bytes)
  hz : z.cells.size = 1

/-- a slice that the call itself made, from block 'base' on -/
def Own (w : World) (base : Nat) (e : TypeId) (v : Value) (xs : List Value) : Prop := w.ownsRow base e 1 v xs.length xs

theorem Own.rd {w : World} {base : Nat} {e : TypeId} {v : Value} {xs : List Value} (h : Own w base e v xs) : Rd w v xs := by
  obtain ⟨_, h⟩ := h
  rcases h with ⟨rfl, h0⟩ | ⟨g, cap, cur, rfl, hb, hg, h1, h2, h3, h4⟩
  · have : xs = [] := List.eq_nil_of_length_eq_zero h0
    subst this; exact Rd.nil w
  · have h := Rd.block cur xs.length cap hg (by omega) h1 (by unfold maxLen at h2; omega)
    rw [Nat.mul_one] at h4
    rwa [h4] at h
theorem Own.kept {w w' : World} {base : Nat} {e : TypeId} {v : Value} {xs : List Value} {row : Option Nat} (h : Own w base e v xs) (hg : w.grownBy w' row) (hne : v.ownBlock = none ∨ v.ownBlock ≠ row) : Own w' base e v xs :=
  World.ownsRow.kept h hg hne
theorem Own.made {w : World} {base : Nat} {e : TypeId} (cs : Array Value) (n : Nat) (hb : base ≤ w.heap.size) (hn : n = cs.size) (hm : n ≤ maxLen) (g : Nat) (hg : g = w.heap.size) :
    Own (w.alloc (.cells cs e)) base e (.slice (some ⟨g, 0, none⟩) n n) cs.toList := by
  subst hn hg
  refine ⟨by simp, .inr ⟨_, _, cs, by simp, hb, heap_alloc_new w _, by simp, hm, by simp, ?_⟩⟩
  rw [List.take_of_length_le (by simp)]
theorem Own.alloc {w : World} {base : Nat} {e : TypeId} {v : Value} {xs : List Value} (h : Own w base e v xs) (o : Obj) : Own (w.alloc o) base e v xs :=
  World.ownsRow.alloc h o

theorem run_append_zero {P : Program} (w : World) {t ty e : TypeId} {z : Value} {bytes : Nat} (T : SlT P t e z bytes) (a : Option Addr) (n cap cap2 : Nat) (h : n ≤ cap) (u : Option Addr) :
    (Builtin.append_ #[t, t] ty #[.slice a n cap, .slice u 0 cap2]).run P w = .ok (.slice a n cap) w := by
  obtain ⟨i, hi, hz, hs, hb⟩ := info_parts T.hi
  cases u <;> cases a <;> simp [Builtin.append_, run_underlying T.ht, sizeOf, typeInfo, hi, Builtin.lenOf, Builtin.firstCells, loadCells, loadCellsFrom, h, storeCells]

theorem run_append_rd {P : Program} (w : World) {t ty e : TypeId} {z : Value} {bytes : Nat} (T : SlT P t e z bytes) (base : Nat) (v u : Value) (xs ys : List Value)
    (hown : Own w base e v xs) (hr : Rd w u ys) (h1 : ∀ y ∈ ys, y.oneCell' = true) (h63 : xs.length + ys.length ≤ maxLen) (hby : (xs.length + ys.length) * bytes ≤ 140737488355328) (hbase : base ≤ w.heap.size) :
    ∃ v' w', (Builtin.append_ #[t, t] ty #[v, u]).run P w = .ok v' w' ∧ Own w' base e v' (xs ++ ys) ∧ w.grownBy w' v.ownBlock := by
  obtain ⟨i, hi, hz, hs, hb⟩ := info_parts T.hi
  obtain ⟨a, cap, rfl, hc, hm, hcell⟩ := hr
  rcases hcell with h0 | ⟨b, off, rfl, hcell⟩
  · have hy : ys = [] := List.eq_nil_of_length_eq_zero h0
    subst hy
    have hv : ∃ a n c, v = .slice a n c ∧ n ≤ c := by
      rcases hown.2 with ⟨rfl, _⟩ | ⟨g, cp, cur, rfl, _, _, h, _⟩
      · exact ⟨none, 0, 0, rfl, Nat.le_refl _⟩
      · exact ⟨_, _, _, rfl, h⟩
    obtain ⟨a', n', c', rfl, hle⟩ := hv
    refine ⟨_, w, run_append_zero w T _ _ _ _ hle _, by rw [List.append_nil]; exact hown, ⟨rfl, rfl, rfl, Nat.le_refl _, fun _ _ _ => rfl⟩⟩
  · obtain ⟨v', w', r1, r2, r3, _⟩ := run_append_own (P := P) (w := w) base t ty e i z 1 bytes T.ht hi hz hs hb T.hz (by decide) v xs.length xs hown ⟨b, off, none⟩ ys.length cap ys (by simp)
      (fun j x hx => by
        have hj : j < ys.length := (List.getElem?_eq_some_iff.1 hx).1
        have e : (⟨b, off, none⟩ : Addr).add j = ⟨b, off + j, none⟩ := by unfold Addr.add; split <;> simp_all
        rw [e, hcell j hj]; simp [List.getD, hx]) h1 h63 hby hbase
    exact ⟨v', w', r1, by unfold Own; rw [List.length_append]; exact r2, r3⟩

theorem wpList_append_rd {P : Program} {w : World} {ops : Array Oper} {rest : List Oper} {o : Oper} {a : Act} {Q : Exit → Act → World → Prop} (hw : Region.wanted o (yielded ops a.tmps) = true)
    (s x : Operand) (t : TypeId) (ho : o.op = .call { callee := .builtin .append, args := #[s, x], argTypes := #[t, t] })
    {e : TypeId} {z : Value} {bytes : Nat} (T : SlT P t e z bytes) (base : Nat) (v u : Value) (xs ys : List Value) (hs : a.eval s = v) (hx : a.eval x = u)
    (hown : Own w base e v xs) (hr : Rd w u ys) (h1 : ∀ y ∈ ys, y.oneCell' = true) (h63 : xs.length + ys.length ≤ maxLen) (hby : (xs.length + ys.length) * bytes ≤ 140737488355328) (hbase : base ≤ w.heap.size)
    (h : ∀ v' w', Own w' base e v' (xs ++ ys) → w.grownBy w' v.ownBlock → wpList P ops Q rest (a.put o.dst v') w') : wpList P ops Q (o :: rest) a w := by
  obtain ⟨v', w', r, h2, h3⟩ := run_append_rd (ty := o.type) w T base v u xs ys hown hr h1 h63 hby hbase
  refine wpList_step fun K hK => ?_
  rw [if_pos hw]
  unfold Oper.wp execOp
  simp only [ho, resolve, invoke, builtin, Sem.run_bind, Sem.run_pure, Result.andThen_ok, List.map_toArray, List.map_cons, List.map_nil, hs, hx, r]
  exact hK _ _ (h v' w' h2 h3)

theorem Own.base {w : World} {base : Nat} {e : TypeId} {v : Value} {xs : List Value} (h : Own w base e v xs) : ∀ k, v.ownBlock = some k → base ≤ k := by
  intro k hk; exact (World.ownsRow.lt h k hk).1

theorem wpList_append_bd {P : Program} {W0 w : World} {ops : Array Oper} {rest : List Oper} {o : Oper} {a : Act} {Q : Exit → Act → World → Prop} (hw : Region.wanted o (yielded ops a.tmps) = true)
    (s x : Operand) (t : TypeId) (ho : o.op = .call { callee := .builtin .append, args := #[s, x], argTypes := #[t, t] })
    {e : TypeId} {z : Value} {bytes : Nat} (T : SlT P t e z bytes) (v u : Value) (xs ys : List Value) (hs : a.eval s = v) (hx : a.eval x = u) (hB : Below W0.heap.size W0 w)
    (hown : Own w W0.heap.size e v xs) (hr : Rd w u ys) (h1 : ∀ y ∈ ys, y.oneCell' = true) (h63 : xs.length + ys.length ≤ maxLen) (hby : (xs.length + ys.length) * bytes ≤ 140737488355328)
    (h : ∀ v' w', Own w' W0.heap.size e v' (xs ++ ys) → Below W0.heap.size W0 w' → w.grownBy w' v.ownBlock → wpList P ops Q rest (a.put o.dst v') w') : wpList P ops Q (o :: rest) a w :=
  wpList_append_rd hw s x t ho T _ v u xs ys hs hx hown hr h1 h63 hby hB.size fun v' w' h2 h3 => h v' w' h2 (hB.grown h3 hB.size hown.base) h3

theorem Own.block {w : World} {base : Nat} {e : TypeId} {a : Option Addr} {n c : Nat} {xs : List Value} (h : Own w base e (.slice a n c) xs) (h0 : 0 < xs.length) :
    ∃ g tl, a = some ⟨g, 0, none⟩ ∧ base ≤ g ∧ g < w.heap.size ∧ w.heap[g]? = some (.cells (xs ++ tl).toArray e (0, 0)) := by
  rcases h.2 with ⟨_, h1⟩ | ⟨g, cap, cur, hv, hb, hg, _, _, _, ht⟩
  · omega
  · injection hv with e1 e2 e3
    rw [Nat.mul_one] at ht
    refine ⟨g, cur.toList.drop xs.length, e1, hb, (Array.getElem?_eq_some_iff.1 hg).1, ?_⟩
    rw [hg, ← ht]
    have : (cur.toList.take xs.length ++ cur.toList.drop xs.length).toArray = cur := by rw [List.take_append_drop]
    rw [ht] at this ⊢; rw [this]
theorem row_get (xs tl : List Value) (k : Nat) (h : k < xs.length) : (xs ++ tl).toArray[k]? = some (xs.getD k undef) := by
  simp [List.getElem?_append, h]
theorem row_set (xs tl : List Value) (k : Nat) (h : k < xs.length) (v : Value) : (xs ++ tl).toArray.setIfInBounds k v = (xs.set k v ++ tl).toArray := by
  simp [h]
theorem B8_set (l : List (BitVec 8)) (k : Nat) (b : BitVec 8) : (B8 l).set k (.int .u8 (n8 b)) = B8 (l.set k b) := by simp [B8, List.map_set]

theorem wpList_copy_rd {P : Program} {w : World} {ops : Array Oper} {rest : List Oper} {o : Oper} {a : Act} {Q : Exit → Act → World → Prop} (hw : Region.wanted o (yielded ops a.tmps) = true)
    (d s : Operand) (t : TypeId) (ho : o.op = .call { callee := .builtin .copy, args := #[d, s], argTypes := #[t, t] })
    {e : TypeId} {z : Value} {bytes : Nat} (T : SlT P t e z bytes) (dp : Option Addr) (dLen dCap : Nat) (u : Value) (ys : List Value) (hd : a.eval d = .slice dp dLen dCap) (hs : a.eval s = u)
    (hr : Rd w u ys) (h1 : ∀ y ∈ ys, y.oneCell' = true) (g off : Nat) (hdp : dp = some ⟨g, off, none⟩) (cur : List Value) (te : TypeId) (hg : w.heap[g]? = some (.cells cur.toArray te (0, 0))) (hfit : off + dLen ≤ cur.length)
    (h : ∀ w', w'.heap[g]? = some (.cells (splice cur off (ys.take dLen)).toArray te (0, 0)) → (∀ k, k ≠ g → w'.heap[k]? = w.heap[k]?) → (∀ B W0, Below B W0 w → B ≤ g → Below B W0 w') → wpList P ops Q rest (a.put o.dst (goInt (ys.take dLen).length)) w') : wpList P ops Q (o :: rest) a w := by
  subst hdp
  have hs1 : (P.info? e).map (·.size) = some 1 := by
    obtain ⟨i, hi, hz, hs, hb⟩ := info_parts T.hi
    simp [hi, hs]
  obtain ⟨a', cap, rfl, hc, hm, hcell⟩ := hr
  refine wpList_step fun K hK => ?_
  rw [if_pos hw]
  have hl : (ys.take dLen).length = Nat.min ys.length dLen := by rw [List.length_take, Nat.min_comm]
  by_cases h0 : Nat.min ys.length dLen = 0
  · have hrun := run_copy_none (P := P) w t t o.type e (some ⟨g, off, none⟩) a' dLen dCap ys.length cap T.ht hs1 h0
    have he : ys.take dLen = [] := List.eq_nil_of_length_eq_zero (by rw [hl, h0])
    unfold Oper.wp
    simp only [execOp, ho, resolve, invoke, builtin, Sem.run_bind, Sem.run_pure, Result.andThen_ok, List.map_toArray, List.map_cons, List.map_nil, hd, hs, hrun]
    have := h w (by rw [he]; simpa [splice] using hg) (fun _ _ => rfl) (fun _ _ hb _ => hb)
    rw [he] at this
    exact hK _ _ this
  · rcases hcell with hz | ⟨b, oo, rfl, hcell⟩
    · rw [hz] at h0; simp at h0
    · have hsrc : ∀ j v, (ys.take dLen)[j]? = some v → w.cell? ((⟨b, oo, none⟩ : Addr).add j) = some v := by
        intro j v hv
        rw [List.getElem?_take] at hv
        split at hv
        · have hj : j < ys.length := (List.getElem?_eq_some_iff.1 hv).1
          have ea : (⟨b, oo, none⟩ : Addr).add j = ⟨b, oo + j, none⟩ := by unfold Addr.add; split <;> simp_all
          rw [ea, hcell j hj]; simp [List.getD, hv]
        · cases hv
      have hrun := run_copy_row (P := P) w t t o.type e g off dLen dCap ⟨b, oo, none⟩ ys.length cap cur.toArray te (ys.take dLen) T.ht hs1 hg hl hsrc
        (by simp [List.length_take]; omega) (fun v hv => h1 v (List.mem_of_mem_take hv))
      unfold Oper.wp
      simp only [execOp, ho, resolve, invoke, builtin, Sem.run_bind, Sem.run_pure, Result.andThen_ok, List.map_toArray, List.map_cons, List.map_nil, hd, hs, hrun]
      refine hK _ _ (h _ ?_ (fun k hk => setRow_other w g k _ hk) (fun B W0 hb hB => below_setRow hb hB _))
      rw [setRow_heap w g _ _ te _ hg]; simp [splice]

theorem wpList_store_agg {P : Program} {w : World} {ops : Array Oper} {rest : List Oper} {o : Oper} {a : Act} {Q : Exit → Act → World → Prop} (hw : Region.wanted o (yielded ops a.tmps) = true)
    (ty : TypeId) (x y : Operand) (ho : o.op = .store ty x y) (g : Nat) (cells : Array Value) (hx : a.eval x = .pointer (some ⟨g, 0, none⟩)) (hy : a.eval y = .agg cells)
    (t : TypeId) (old : Array Value) (hg : w.heap[g]? = some (.cells old t (0, 0))) (hi : (P.info? ty).map (·.size) = some cells.size) (hold : old.size = cells.size) (h1 : cells.all (·.oneCell') = true)
    (h : ∀ w', w'.heap[g]? = some (.cells cells t (0, 0)) → (∀ k, k ≠ g → w'.heap[k]? = w.heap[k]?) → (∀ B W0, Below B W0 w → B ≤ g → Below B W0 w') → wpList P ops Q rest (a.put o.dst undef) w') : wpList P ops Q (o :: rest) a w := by
  refine wpList_step fun K hK => ?_
  rw [if_pos hw]
  exact wp_store_row ty x y ho g cells hx hy t old hg hi hold h1 (hK _ _ (h _ (setRow_heap w g old _ t _ hg) (fun k hk => setRow_other w g k _ hk) (fun B W0 hb hB => below_setRow hb hB _)))

theorem run_cut {P : Program} (w : World) {t e : TypeId} {z : Value} {bytes : Nat} (T : SlT P t e z bytes) (a : Option Addr) (n cap : Nat) (lo hi : Option Value) (l h : Nat)
    (hlo : (lo = none ∧ l = 0) ∨ ∃ k, lo = some (.int k (l : Int))) (hhi : (hi = none ∧ h = n) ∨ ∃ k, hi = some (.int k (h : Int))) (h1 : l ≤ h) (h2 : h ≤ cap) :
    (Instr.slice t (.slice a n cap) lo hi none).run P w = .ok (.slice (if cap = l then a else a.map (·.add l)) (h - l) (cap - l)) w := by
  obtain ⟨i, hi', hz, hs, hb⟩ := info_parts T.hi
  rcases hlo with ⟨rfl, rfl⟩ | ⟨k, rfl⟩ <;> rcases hhi with ⟨rfl, rfl⟩ | ⟨k', rfl⟩ <;>
    simp [Instr.slice, Instr.sliceBounds, Instr.sliceBound, asIntOf, run_underlying T.ht, sizeOf, typeInfo, hi', hs, h1, h2, Option.isSome]
theorem Rd.cut {w : World} {a : Option Addr} {n cap : Nat} {xs : List Value} (hr : Rd w (.slice a n cap) xs) (l h : Nat) (h1 : l ≤ h) (h2 : h ≤ n) :
    Rd w (.slice (if cap = l then a else a.map (·.add l)) (h - l) (cap - l)) ((xs.take h).drop l) := by
  obtain ⟨a', c', e, g1, g2, g3⟩ := hr
  injection e with e1 e2 e3
  subst e1 e2 e3
  have hl : ((xs.take h).drop l).length = h - l := by simp; omega
  refine ⟨_, cap - l, by rw [hl], by omega, by omega, ?_⟩
  rw [hl]
  by_cases h0 : h - l = 0
  · exact .inl h0
  · rcases g3 with g3 | ⟨b, off, rfl, g3⟩
    · omega
    · refine .inr ⟨b, off + l, ?_, fun i hi => ?_⟩
      · rw [if_neg (by omega)]
        simp [Addr.add]
      · rw [Nat.add_assoc, g3 (l + i) (by omega)]
        simp [List.getD, List.getElem?_drop, List.getElem?_take]
        rw [if_pos (by omega)]
theorem wpList_cut_rd {P : Program} {w : World} {ops : Array Oper} {rest : List Oper} {o : Oper} {a : Act} {Q : Exit → Act → World → Prop} (hw : Region.wanted o (yielded ops a.tmps) = true)
    (t : TypeId) (x : Operand) (lo hi : Option Operand) (ho : o.op = .slice t x lo hi none) {e : TypeId} {z : Value} {bytes : Nat} (T : SlT P t e z bytes) (v : Value) (xs : List Value) (hx : a.eval x = v) (hr : Rd w v xs) (l h : Nat)
    (hlo : (lo.map a.eval = none ∧ l = 0) ∨ ∃ k, lo.map a.eval = some (.int k (l : Int))) (hhi : (hi.map a.eval = none ∧ h = xs.length) ∨ ∃ k, hi.map a.eval = some (.int k (h : Int))) (h1 : l ≤ h) (h2 : h ≤ xs.length)
    (hk : ∀ v', Rd w v' ((xs.take h).drop l) → wpList P ops Q rest (a.put o.dst v') w) : wpList P ops Q (o :: rest) a w := by
  refine wpList_step fun K hK => ?_
  rw [if_pos hw]
  obtain ⟨a', cap, rfl, g1, g2⟩ := hr.slice
  have hrun := run_cut (P := P) w T a' xs.length cap (lo.map a.eval) (hi.map a.eval) l h hlo hhi h1 (by omega)
  have hat : (Instr.sliceAt t (.slice a' xs.length cap) (lo.map a.eval) (hi.map a.eval) none).run P w = (Instr.slice t (.slice a' xs.length cap) (lo.map a.eval) (hi.map a.eval) none).run P w := by
    simp [Instr.sliceAt, run_underlying T.ht]
  unfold Oper.wp execOp
  simp only [ho, hx, Option.map_none, Sem.run_bind, Sem.run_pure, Result.andThen_ok, hat, hrun]
  exact hK _ _ (hk _ (hr.cut l h h1 h2))

theorem B8_one (l : List (BitVec 8)) : ∀ y ∈ B8 l, y.oneCell' = true := by
  intro y hy
  obtain ⟨b, _, rfl⟩ := List.mem_map.1 hy
  rfl
theorem B8_append (a b : List (BitVec 8)) : B8 (a ++ b) = B8 a ++ B8 b := List.map_append

theorem made8 (n : Nat) : madeCells #[Value.int .u8 0] n = (B8 (List.replicate n 0#8)).toArray := by
  apply Array.ext_getElem?
  intro j
  by_cases hj : j < n
  · simp [madeCells, hj, Nat.mod_one, B8]; rfl
  · rw [Array.getElem?_eq_none (by simp [madeCells]; omega), Array.getElem?_eq_none (by simp [B8]; omega)]
/-- make([]byte, n) -/
theorem make8 {P : Program} {t e : TypeId} (T : SlT P t e (.int .u8 0) 1) (n : Nat) (hn : n ≤ 281474976710656) (w : World) :
    (Instr.makeSlice t (.int .i64 (n : Int)) (.int .i64 (n : Int))).run P w = .ok (.slice (some ⟨w.heap.size, 0, none⟩) n n) (w.alloc (.cells (B8 (List.replicate n 0#8)).toArray e)) := by
  have := run_make_row' (P := P) t e (.int .u8 0) 1 T.ht T.hi rfl .i64 .i64 n (by omega) (by omega) w
  rwa [made8] at this

end Go.Proofs.Ytikganlbnhapcaa
