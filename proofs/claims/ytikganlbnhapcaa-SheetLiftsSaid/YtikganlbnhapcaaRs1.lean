import Derived.Test.YtikganlbnhapcaaProg
import Derived.Test.YtikganlbnhapcaaOctInt
import Derived.RegionTactic
import Derived.ChangeAlike
import Derived.Below
import Derived.Deep.Draws
import Derived.OwnWalk
import Derived.Tactics
import Derived.WalkKit
import Derived.KernelRfl
import Derived.RowKit3
import Derived.Deep.LoopGhost
import Derived.Deep.QuietTactic
import Derived.BigQuiet
import Derived.WideLaws
import Derived.Deep.DeepCutAuto
import Derived.Deep.CutBlock
import Derived.Laws.Rows
import Derived.Outline
import Derived.Lib.Hide
import Derived.ArgAppend
import Derived.Deep.MidRow
import Derived.Lib.SlBuf
namespace Go.Proofs.Ytikganlbnhapcaa
open Go.RowKit
set_option linter.unusedVariables false
set_option linter.unusedSimpArgs false
/-! the document's numbers: a new row, and its last four bytes -/
theorem own_down {w : World} {B B' : Nat} {e : TypeId} {v : Value} {xs : List Value} (h : Own w B e v xs) (hb : B' ≤ B) : Own w B' e v xs := by
  refine ⟨h.1, ?_⟩
  rcases h.2 with h2 | ⟨g, cap, cur, h1, h2, h3⟩
  · exact .inl h2
  · exact .inr ⟨g, cap, cur, h1, Nat.le_trans hb h2, h3⟩
theorem own_form {w : World} {B : Nat} {e : TypeId} {v : Value} {xs : List Value} (h : Own w B e v xs) (h0 : 0 < xs.length) :
    ∃ g cap cur, v = .slice (some ⟨g, 0, none⟩) xs.length cap ∧ B ≤ g ∧ w.heap[g]? = some (.cells cur e (0, 0)) ∧ xs.length ≤ cap ∧ cap ≤ maxLen ∧ cur.size = cap ∧ cur.toList.take xs.length = xs := by
  rcases h.2 with ⟨_, h1⟩ | ⟨g, cap, cur, h1, h2, h3, h4, h5, h6, h7⟩
  · omega
  · rw [Nat.mul_one] at h6 h7
    exact ⟨g, cap, cur, h1, h2, h3, h4, h5, h6, h7⟩
theorem div256 (x : BitVec 64) (k : Nat) : n64 (x >>> (8 * k)) / (256 : Int) = n64 (x >>> (8 * (k + 1))) := by
  unfold n64
  rw [BitVec.toNat_ushiftRight, BitVec.toNat_ushiftRight, Nat.shiftRight_eq_div_pow, Nat.shiftRight_eq_div_pow, Nat.mul_add, Nat.pow_add, ← Nat.div_div_eq_div_mul]
  simp
theorem tdiv256 (y : BitVec 64) : IntKind.u64.wrap ((n64 y).tdiv 256) = n64 y / 256 := by
  have h0 := n64_lo y
  have h1 := n64_hi y
  rw [IntKind.wrap_u64, Int.tdiv_eq_ediv_of_nonneg h0]; omega
theorem mod256 (x : BitVec 64) : n64 x % (256 : Int) = n8 (x.setWidth 8) := by
  unfold n64 n8; rw [BitVec.toNat_setWidth]; simp
def bk (x : BitVec 64) (k : Nat) : List (BitVec 8) := (List.range 8).map fun i => if 7 - i < k then (x >>> (8 * (7 - i))).setWidth 8 else 0#8
theorem bk_zero (x : BitVec 64) : bk x 0 = List.replicate 8 0#8 := by simp [bk, List.map_const']
theorem bk_all (x : BitVec 64) : bk x 8 = ser x 8 := by
  unfold bk ser
  exact List.map_congr_left fun i hi => by rw [if_pos (by omega)]
theorem bk_set (x : BitVec 64) (k : Nat) (h : k < 8) : (bk x k).set (7 - k) ((x >>> (8 * k)).setWidth 8) = bk x (k + 1) := by
  apply List.ext_getElem (by simp [bk])
  intro i h1 h2
  have h3 : i < 8 := by simpa [bk] using h2
  simp only [bk, List.getElem_set, List.getElem_map, List.getElem_range]
  by_cases e : 7 - k = i
  · subst e; rw [if_pos rfl, if_pos (by omega)]; rw [show 7 - (7 - k) = k by omega]
  · rw [if_neg e]
    by_cases e2 : 7 - i < k
    · rw [if_pos e2, if_pos (by omega)]
    · rw [if_neg e2, if_neg (by omega)]

set_option maxHeartbeats 1600000 in
set_option maxRecDepth 100000 in
theorem refint_callsO (bs : List (BitVec 8)) (n : Int) (v : Value) (w : World) (h : Rd w v (B8 bs)) (hb : bs.length ≤ 1000000000) :
    Calls Try.prog 85 #[v, .int .i64 n] w fun e w' => ∃ v', e = .returned v' ∧ Own w' w.heap.size 5 v' (B8 (bs ++ encI n)) ∧ Below w.heap.size w w' := by
  have hu := u64_of n
  have hmk : ∀ w : World, (Instr.makeSlice 22 (.int .i64 8) (.int .i64 8)).run Try.prog w = .ok (.slice (some ⟨w.heap.size, 0, none⟩) 8 8) (w.alloc (.cells (B8 (List.replicate 8 0#8)).toArray 5)) := fun w => make8 slT8 8 (by decide) w
  go_enter Try.func85, Try.ntmps85
  go_wp2_with fail
  clear hmk hu
  have Hx : Hid (encI n = ser (BitVec.ofInt 64 n) 8) := Lib.hid rfl
  generalize BitVec.ofInt 64 n = x at Hx
  go_loopw [6, 7] (fun u i wr => ∃ k : Nat, k ≤ 8 ∧ i = .int .i64 k ∧ u = .int .u64 (n64 (x >>> (8 * k))) ∧ wr.heap[w.heap.size]? = some (.cells (B8 (bk x k)).toArray 5 (0, 0)) ∧ Below w.heap.size w wr) (fun _ i _ => 8 - (intOf i).toNat)
  case atStart => exact ⟨0, by omega, rfl, by simp, by rw [bk_zero]; exact heap_alloc_new _ _, (Below.refl _ _).alloc (Nat.le_refl _) _⟩
  case round =>
    obtain ⟨k, hk, rfl, rfl, G, hB⟩ := hrel
    have HG := Lib.hid G
    have HB := Lib.hid hB
    by_cases hlt : k < 8
    · have c1 := cell_of_row wr _ (7 - k) _ _ _ G
      rw [B8_at _ _ (by simp [bk]; omega)] at c1
      generalize (bk x k).getD (7 - k) 0 = q at c1
      have f1 := frozen_of_row wr _ (7 - k) _ _ G
      have hq : Hid (n64 (x >>> (8 * k)) / (256 : Int) = n64 (x >>> (8 * (k + 1)))) := Lib.hid (div256 x k)
      have hm : Hid (n64 (x >>> (8 * k)) % (256 : Int) = n8 ((x >>> (8 * k)).setWidth 8)) := Lib.hid (mod256 _)
      have hs : Hid ((bk x k).set (7 - k) ((x >>> (8 * k)).setWidth 8) = bk x (k + 1)) := Lib.hid (bk_set x k hlt)
      clear G hB
      generalize x >>> (8 * k) = y at hq hm hs
      have y0 := n64_lo y
      go_wp2
      go_roundw
      case rel =>
        refine ⟨k + 1, by omega, by go_num, ?_, ?_, HB.out.setCell (Nat.le_refl _) _⟩
        · rw [← hq.out, tdiv256]
        · rw [hm.out, heap_setCell_same _ _ _ _ _ _ HG.out, List.setIfInBounds_toArray, B8_set, hs.out]
      case measure => simp only [intOf]; omega
    · have em : Hid (k = 8) := Lib.hid (by omega)
      have r1 : Hid (Rd wr (.slice (some ⟨w.heap.size, 0, none⟩) 8 8) (B8 (encI n))) := Lib.hid (by
        rw [em.out, bk_all, ← Hx.out] at G
        have := Rd.block (n := 8) (cap := 8) _ G (by simp [B8_len, encI_len]) (Nat.le_refl _) (by omega)
        rwa [List.toList_toArray, List.take_of_length_le (by rw [B8_len, encI_len]; omega)] at this)
      clear G hB HG
      go_wp2_with (first
        | (at_builtin; refine wpList_append_bd (W0 := wr) (o := ⟨some 26, _, _, _, _, _⟩) rfl _ _ 22 rfl slT8 (.slice (some ⟨wr.heap.size, 0, none⟩) 0 0) v [] (B8 bs) rfl rfl ((Below.refl _ _).alloc (Nat.le_refl _) _) (by exact Own.made #[] 0 (Nat.le_refl _) rfl (by decide) _ rfl) (h.below (HB.out.alloc HB.out.size _)) (B8_one _) (by simp [B8_len, maxLen]; omega) (by simp [B8_len]; omega) ?_; intro u1 w1 o1 b1 g1; rw [List.nil_append] at o1)
        | (at_builtin; refine wpList_append_bd (o := ⟨some 28, _, _, _, _, _⟩) rfl _ _ 22 rfl slT8 u1 _ _ (B8 (encI n)) rfl rfl b1 o1 (r1.out.below b1) (B8_one _) (by simp [B8_len, maxLen, encI_len]; omega) (by simp [B8_len, encI_len]; omega) ?_; intro u2 w2 o2 b2 g2)
        | fail)
      go_ret
      exact ⟨_, rfl, by rw [B8_append]; exact own_down o2 HB.out.size, HB.out.trans (b2.mono HB.out.size)⟩


theorem four_calls (n : Int) (w : World) :
    Calls Try.prog 66 #[.int .i64 n] w fun e w' => ∃ g c cur, e = .returned (.slice (some ⟨g, 4, none⟩) 4 c) ∧ w.heap.size ≤ g ∧ w'.heap[g]? = some (.cells cur 5 (0, 0)) ∧ cur.size = 4 + c ∧ 4 ≤ c ∧ 4 + c ≤ maxLen ∧ cur.toList.take 8 = B8 (encI n) ∧ Below w.heap.size w w' := by
  have hl8 : (B8 (encI n)).length = 8 := by rw [B8_len, encI_len]
  have hl := Lib.hid hl8
  clear hl8
  go_enter Try.func66, Try.ntmps66
  go_wp2_with (first
    | (go_at_call 85; refine (refint_callsO [] n _ _ (Rd.nil _) (by simp)).mono ?_; rintro e w1 ⟨v1, rfl, ho, bel⟩
       rw [List.nil_append] at ho
       obtain ⟨g, cap, cur, rfl, k1, k2, k3, k4, k5, k6⟩ := own_form ho (by rw [hl.out]; omega)
       rw [hl.out] at k3 k6 ⊢
       have hc0 : (0 : Int) ≤ 4 := by omega
       have hc1 : (4 : Int) ≤ 8 := by omega
       have hc2 : (8 : Int) ≤ (cap : Int) := by omega
       have hc3 : ¬ cap = 4 := by omega
       have H1 := Lib.hid k1
       have H2 := Lib.hid k2
       have H5 := Lib.hid k5
       have H6 := Lib.hid k6
       have H4 := Lib.hid k4
       have H3 := Lib.hid k3
       have HB := Lib.hid bel
       clear k1 k2 k5 k6 bel)
    | fail)
  go_ret
  have h3 := H3.out
  have h5 := H5.out
  have h4 := H4.out
  exact ⟨g, cap - 4, cur, rfl, H1.out, H2.out, by omega, by omega, by omega, H6.out, HB.out⟩

/-- an append onto a cut of a new row, from an offset on: what comes back is read -/
theorem wpList_append_tail {P : Program} {W0 w : World} {ops : Array Oper} {rest : List Oper} {o : Oper} {a : Act} {Q : Exit → Act → World → Prop} (hgd : o.guard = none)
    (s x : Operand) (t : TypeId) (ho : o.op = .call { callee := .builtin .append, args := #[s, x], argTypes := #[t, t] })
    {e : TypeId} {z : Value} {bytes : Nat} (T : SlT P t e z bytes) (g off n cap g2 o2 m c2 : Nat) (xs ys : List Value) (cur cur2 : Array Value) (te te2 : TypeId)
    (hs : a.eval s = .slice (some ⟨g, off, none⟩) n cap) (hx : a.eval x = .slice (some ⟨g2, o2, none⟩) m c2) (hB : Below W0.heap.size W0 w) (hg : W0.heap.size ≤ g)
    (h1 : w.heap[g]? = some (.cells cur te (0, 0))) (h2 : w.heap[g2]? = some (.cells cur2 te2 (0, 0))) (hsz : cur.size = off + cap) (hn : n ≤ cap) (hcm : cap ≤ maxLen)
    (hxl : xs.length = n) (hyl : ys.length = m) (hxs : ∀ j u, xs[j]? = some u → cur[off + j]? = some u) (hys : ∀ j u, ys[j]? = some u → cur2[o2 + j]? = some u) (hy1 : ∀ y ∈ ys, y.oneCell' = true) (h0 : 0 < n)
    (h63 : n + m ≤ maxLen) (hby : (n + m) * bytes ≤ 140737488355328)
    (h : ∀ v' w', Rd w' v' (xs ++ ys) → Fresh W0.heap.size v' → Below W0.heap.size W0 w' → wpList P ops Q rest (a.put o.dst v') w') : wpList P ops Q (o :: rest) a w := by
  obtain ⟨i, hi, hz, hsi, hb⟩ := info_parts T.hi
  have hcell : ∀ j u, xs[j]? = some u → w.cell? ⟨g, off + j, none⟩ = some u := fun j u hj => by
    rw [cell_of_row w g (off + j) cur te _ h1]; exact hxs j u hj
  have hcell2 : ∀ j u, ys[j]? = some u → w.cell? ((⟨g2, o2, none⟩ : Addr).add j) = some u := fun j u hj => by
    rw [Addr.add_mid, cell_of_row w g2 (o2 + j) cur2 te2 _ h2]; exact hys j u hj
  refine wpList_append_arg w hgd s x t ho e i z 1 bytes T.ht hi hz hsi hb T.hz (by decide) g off n cap xs hs (by rw [hxl, Nat.mul_one]) hcell ⟨g2, o2, none⟩ m c2 ys hx (by rw [hyl, Nat.mul_one]) hcell2 hy1 ?_ h63 hby ?_ ?_
  · intro hr j hj
    rw [Nat.mul_one, cell_of_row w g (off + n + j) cur te _ h1]
    refine ⟨?_, frozen_of_row w g (off + n + j) cur te h1⟩
    have : off + n + j < cur.size := by omega
    rw [Array.getElem?_eq_getElem this]; rfl
  · intro hr
    rw [Nat.mul_one]
    have hr1 : w.rangeAt g off xs := fun j u hj => hcell j u hj
    have ht : w.there g (off + n) ys.length := fun j hj => by
      rw [cell_of_row w g (off + n + j) cur te _ h1]
      refine ⟨?_, frozen_of_row w g (off + n + j) cur te h1⟩
      have : off + n + j < cur.size := by omega
      rw [Array.getElem?_eq_getElem this]; rfl
    have a1 := World.rangeAt_setCells_same w g (off + n) ys ht
    have a2 := World.rangeAt_setCells_apart hr1 g (off + n) ys (.inr (.inl (by omega)))
    refine h _ _ ⟨some ⟨g, off, none⟩, cap, by rw [List.length_append, hxl, hyl], by rw [List.length_append]; omega, by unfold maxLen at hcm; omega, .inr ⟨g, off, rfl, fun k hk => ?_⟩⟩ (fun a' n' c' e' => by
      injection e' with e1 e2 e3; injection e1 with e1; rw [← e1]; exact hg) (Lib.below_setCells g hg ys _ hB)
    by_cases q : k < xs.length
    · have hk' : (xs ++ ys)[k]? = some ((xs ++ ys).getD k undef) := by rw [List.getD_eq_getElem?_getD, List.getElem?_eq_getElem hk]; rfl
      rw [List.getElem?_append_left q] at hk'
      exact a2 k _ hk'
    · have hk' : (xs ++ ys)[k]? = some ((xs ++ ys).getD k undef) := by rw [List.getD_eq_getElem?_getD, List.getElem?_eq_getElem hk]; rfl
      rw [List.getElem?_append_right (by omega)] at hk'
      have := a1 _ _ hk'
      rw [show off + n + (k - xs.length) = off + k by omega] at this
      exact this
  · intro hf v' w' hown hgr
    have ho' : Own w' w.heap.size e v' (xs ++ ys) := by
      unfold Own; rw [List.length_append, hxl, hyl]; exact hown
    refine h v' w' ho'.rd (fun a' n' c' e' => Nat.le_trans hB.size (ho'.fresh a' n' c' e')) (hB.grown hgr hB.size (fun k hk => by cases hk))
end Go.Proofs.Ytikganlbnhapcaa
