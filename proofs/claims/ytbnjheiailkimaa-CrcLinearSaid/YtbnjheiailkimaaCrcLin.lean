import Derived.Test.YtbnjheiailkimaaProg
import Derived.Test.YtbnjheiailkimaaCrcLaws
import Derived.RegionTactic
import Derived.ChangeAlike
import Derived.Laws.CopyOwn
import Derived.StillTailTactics
import Derived.Below
import Derived.Deep.Draws
import Derived.OwnWalk
import Derived.Tactics
import Derived.WalkKit
import Derived.KernelRfl
import Derived.RowKit3
import Derived.Deep.LoopGhost
import Derived.Deep.QuietTactic
import Derived.BigQuiet
import Derived.WideLaws
import Derived.Deep.DeepCutAuto
import Derived.Deep.CutBlock
import Derived.Laws.Rows
import Derived.Outline
import Derived.Lib.Hide
namespace Go.Proofs.Ytbnjheiailkimaa
open Go.RowKit
set_option linter.unusedVariables false
set_option linter.unusedSimpArgs false


def pad (n : Nat) (l : List (BitVec 8)) : List (BitVec 8) := l.take n ++ List.replicate (n - l.length) 0#8
theorem pad_len (n : Nat) (l : List (BitVec 8)) : (pad n l).length = n := by simp [pad]; omega
theorem splice_pad (n : Nat) (l : List (BitVec 8)) : splice (B8 (List.replicate n 0#8)) 0 ((B8 l).take n) = B8 (pad n l) := by
  simp [splice, pad, B8, List.map_take, List.drop_replicate]; omega
def xor3 (x y z : List (BitVec 8)) (k : Nat) : List (BitVec 8) := (List.range x.length).map fun i => if i < k then x.getD i 0 ^^^ y.getD i 0 ^^^ z.getD i 0 else 0#8
theorem xor3_zero (x y z : List (BitVec 8)) (_h1 : y.length = x.length) (_h2 : z.length = x.length) : xor3 x y z 0 = List.replicate x.length 0#8 := by
  simp [xor3, List.map_const']
theorem xor3_len (x y z : List (BitVec 8)) (_h1 : y.length = x.length) (_h2 : z.length = x.length) (k : Nat) : (xor3 x y z k).length = x.length := by simp [xor3]
theorem xor3_set (x y z : List (BitVec 8)) (k : Nat) (_h : k < x.length) : (xor3 x y z k).set k (x.getD k 0 ^^^ y.getD k 0 ^^^ z.getD k 0) = xor3 x y z (k + 1) := by
  apply List.ext_getElem (by simp [xor3])
  intro i h1 h2
  simp only [xor3, List.getElem_set, List.getElem_map, List.getElem_range]
  by_cases e : k = i
  · subst e; simp
  · simp [e]; congr 1; simp; omega
theorem B8_at (l : List (BitVec 8)) (i : Nat) (h : i < l.length) : (B8 l).toArray[i]? = some (.int .u8 (n8 (l.getD i 0))) := by
  simp [B8, h]

theorem bitAt_xor3 (x y z : List (BitVec 8)) (h1 : y.length = x.length) (h2 : z.length = x.length) (p : Nat) (hp : p < 8 * x.length) :
    bitAt (xor3 x y z x.length) p = ((bitAt x p ^^ bitAt y p) ^^ bitAt z p) := by
  have hl : p / 8 < x.length := by omega
  unfold bitAt
  have : (xor3 x y z x.length).getD (p / 8) 0 = x.getD (p / 8) 0 ^^^ y.getD (p / 8) 0 ^^^ z.getD (p / 8) 0 := by
    simp [xor3, hl]
  rw [this, BitVec.getLsbD_xor, BitVec.getLsbD_xor]
theorem crcBits_xor3 (x y z a : List (BitVec 8)) (s : BitVec 32) (k : Nat) (h : ∀ p, p < k → bitAt a p = ((bitAt x p ^^ bitAt y p) ^^ bitAt z p)) :
    crcBits a s k = crcBits x s k ^^^ crcBits y s k ^^^ crcBits z s k := by
  induction k with
  | zero => simp [crcBits]
  | succ k ih =>
    have hk := h k (by omega)
    unfold bitAt at hk
    simp only [crcBits]
    rw [crcBit_xor, crcBit_xor, ← ih (fun p hp => h p (by omega)), hk]
theorem linear (x y z : List (BitVec 8)) (h1 : y.length = x.length) (h2 : z.length = x.length) :
    crcOf [xor3 x y z x.length] = crcOf [x] ^^^ crcOf [y] ^^^ crcOf [z] := by
  show crcMore 0#32 _ = crcMore 0#32 _ ^^^ crcMore 0#32 _ ^^^ crcMore 0#32 _
  rw [crcMore_bits, crcMore_bits, crcMore_bits, crcMore_bits, xor3_len _ _ _ h1 h2, h1, h2, crcBits_xor3 x y z _ _ _ (fun p hp => bitAt_xor3 x y z h1 h2 p hp)]
  generalize crcBits x _ _ = a
  generalize crcBits y _ _ = b
  generalize crcBits z _ _ = c
  apply BitVec.eq_of_getLsbD_eq
  intro i hi
  simp only [BitVec.getLsbD_xor, BitVec.getLsbD_not, hi, decide_true, Bool.true_and]
  cases a.getLsbD i <;> cases b.getLsbD i <;> cases c.getLsbD i <;> rfl

theorem heap3_0 (w : World) (a b c : Obj) : (((w.alloc a).alloc b).alloc c).drew.heap[w.heap.size]? = some a := by
  show (((w.alloc a).alloc b).alloc c).heap[w.heap.size]? = _
  rw [heap_alloc_old _ _ (by simp; omega), heap_alloc_old _ _ (by simp), heap_alloc_new]
theorem heap3_1 (w : World) (a b c : Obj) : (((w.alloc a).alloc b).alloc c).drew.heap[w.heap.size + 1]? = some b := by
  show (((w.alloc a).alloc b).alloc c).heap[w.heap.size + 1]? = _
  rw [heap_alloc_old _ _ (by simp)]
  exact heap_alloc2_new _ _ _
theorem heap3_2 (w : World) (a b c : Obj) : (((w.alloc a).alloc b).alloc c).drew.heap[w.heap.size + 1 + 1]? = some c := by
  show (((w.alloc a).alloc b).alloc c).heap[w.heap.size + 1 + 1]? = _
  have := heap_alloc_new ((w.alloc a).alloc b) c
  simpa using this
theorem below3 (w : World) (a b c : Obj) : Below w.heap.size w (((w.alloc a).alloc b).alloc c).drew :=
  ((((Below.refl _ _).alloc (Nat.le_refl _) _).alloc (by simp) _).alloc (by simp; omega) _).drew

set_option maxHeartbeats 1600000 in
theorem law_CrcLinear (xs bs cs : List (BitVec 8)) (u v x : Value) (w : World) (h1 : Rd w u (B8 xs)) (h2 : Rd w v (B8 bs)) (h3 : Rd w x (B8 cs)) :
    Calls Try.prog 6 #[u, v, x] w fun e w' => e = .returned (.bool true) ∧ Below w.heap.size w w' := by
  go_enter Try.func6, Try.ntmps6
  go_wp2_with fail
  refine (short_calls xs _ _ h1).mono ?_
  rintro e w' ⟨v1, rfl, k1, hw⟩
  rw [← hw]
  clear hw
  have l1 : (xs.take 200).length ≤ 200 := by simp; omega
  clear h1
  generalize xs.take 200 = xs at k1 l1
  obtain ⟨a1, c1, rfl, c2, c3⟩ := k1.slice
  rw [B8_len] at *
  have hmk := make8 slT8 xs.length (by omega)
  go_upto_region 2 with fail
  go_cut [8, 9, 10] (fun p q r wx => ∃ g1 g2 g3 : Nat, g1 ≠ g2 ∧ g1 ≠ g3 ∧ g2 ≠ g3 ∧ w.heap.size ≤ g1 ∧ w.heap.size ≤ g2 ∧ w.heap.size ≤ g3 ∧ p = .slice (some ⟨g1, 0, none⟩) xs.length xs.length ∧ q = .slice (some ⟨g2, 0, none⟩) xs.length xs.length ∧ r = .slice (some ⟨g3, 0, none⟩) xs.length xs.length
    ∧ wx.heap[g1]? = some (.cells (B8 (List.replicate xs.length 0#8)).toArray 5 (0, 0)) ∧ wx.heap[g2]? = some (.cells (B8 (List.replicate xs.length 0#8)).toArray 5 (0, 0)) ∧ wx.heap[g3]? = some (.cells (B8 (List.replicate xs.length 0#8)).toArray 5 (0, 0)) ∧ Below w.heap.size w wx)
  case first =>
    go_region
    all_goals
      go_wp2_with fail
      go_meet
      refine ⟨_, _, _, ?_, ?_, ?_, ?_, ?_, ?_, rfl, rfl, rfl, ?_, ?_, ?_, ?_⟩ <;> first | omega | exact heap3_0 _ _ _ _ | exact heap3_1 _ _ _ _ | exact heap3_2 _ _ _ _ | exact below3 _ _ _ _
  case rest =>
    clear hmk
    obtain ⟨g1, g2, g3, n1, n2, n3, m1, m2, m3, rfl, rfl, rfl, hg1, hg2, hg3, hb⟩ := hcut
    have hlz : (B8 (List.replicate xs.length 0#8)).length = xs.length := by simp [B8]
    have Hlz := Lib.hid hlz
    clear hlz
    have H1 := Lib.hid hg1
    have H2 := Lib.hid hg2
    have H3 := Lib.hid hg3
    have HB := Lib.hid hb
    clear hg1 hg2 hg3 hb
    go_wp2_with (first
      | (refine wpList_copy_rd (o := ⟨some 25, _, _, _, _, _⟩) rfl _ _ 23 rfl slT8 _ _ _ v (B8 bs) rfl rfl (h2.below HB.out) (B8_one _) g1 0 rfl _ _ H1.out (by rw [Hlz.out]; omega) ?_; intro w1 e1 e2 e3; replace e1 := Lib.hid e1; replace e2 := Lib.hid e2; replace e3 := Lib.hid e3)
      | (refine wpList_copy_rd (o := ⟨some 28, _, _, _, _, _⟩) rfl _ _ 23 rfl slT8 _ _ _ x (B8 cs) rfl rfl (h3.below (e3.out _ _ HB.out m1)) (B8_one _) g2 0 rfl _ _ ((e2.out _ n1.symm).trans H2.out) (by rw [Hlz.out]; omega) ?_; intro w2 f1 f2 f3; replace f1 := Lib.hid f1; replace f2 := Lib.hid f2; replace f3 := Lib.hid f3)
      | fail)
    have hB := f3.out _ _ (e3.out _ _ HB.out m1) m2
    have G1 : w2.heap[g1]? = some (.cells (B8 (pad xs.length bs)).toArray 5 (0, 0)) := by rw [f2.out _ n1, e1.out, splice_pad]
    have G2 : w2.heap[g2]? = some (.cells (B8 (pad xs.length cs)).toArray 5 (0, 0)) := by rw [f1.out, splice_pad]
    have G3 : w2.heap[g3]? = some (.cells (B8 (List.replicate xs.length 0#8)).toArray 5 (0, 0)) := by rw [f2.out _ n3.symm, e2.out _ n2.symm, H3.out]
    clear e1 e2 e3 f1 f2 f3 H1 H2 H3 HB h2 h3 w1
    have l2 := pad_len xs.length bs
    have l3 := pad_len xs.length cs
    generalize pad xs.length bs = ys at G1 l2
    generalize pad xs.length cs = zs at G2 l3
    have L2 := Lib.hid l2
    have L3 := Lib.hid l3
    have hrd := k1
    obtain ⟨a1', c1', he, -, -, hr⟩ := k1
    injection he with he1 he2 he3
    subst he1 he3
    clear he2 l2 l3
    have HG1 := Lib.hid G1
    have HG2 := Lib.hid G2
    have HG3 := Lib.hid G3
    have HB := Lib.hid hB
    have HR := Lib.hid hrd
    clear G1 G2 G3 hB hrd
    go_loopw [11] (fun i wr => ∃ k : Nat, k ≤ xs.length ∧ i = .int .i64 k ∧ wr.heap[g1]? = some (.cells (B8 ys).toArray 5 (0, 0)) ∧ wr.heap[g2]? = some (.cells (B8 zs).toArray 5 (0, 0))
      ∧ wr.heap[g3]? = some (.cells (B8 (xor3 xs ys zs k)).toArray 5 (0, 0)) ∧ Below w.heap.size w wr) (fun i _ => xs.length - (intOf i).toNat)
    case atStart => exact ⟨0, by omega, rfl, HG1.out, HG2.out, by rw [xor3_zero _ _ _ L2.out L3.out]; exact HG3.out, HB.out⟩
    case round =>
      clear HG1 HG2 HG3 HB
      obtain ⟨k, hk, rfl, G1, G2, G3, hB⟩ := hrel
      have hl : (xor3 xs ys zs k).length = xs.length := xor3_len _ _ _ L2.out L3.out _
      have L := Lib.hid hl
      clear hl
      by_cases hlt : k < xs.length
      · rcases hr with hr | ⟨b, off, rfl, hcell⟩
        · rw [B8_len] at hr; omega
        · have hc0 := hcell k (by rw [B8_len]; exact hlt)
          rw [B8_getD _ _ hlt, ← hB.cell (lt_of_cell hc0)] at hc0
          have hc1 := cell_of_row wr g1 k _ _ _ G1
          have hc2 := cell_of_row wr g2 k _ _ _ G2
          have hc3 := cell_of_row wr g3 k _ _ _ G3
          have hf3 := frozen_of_row wr g3 k _ _ G3
          rw [B8_at _ _ (by rw [L2.out]; exact hlt)] at hc1
          rw [B8_at _ _ (by rw [L3.out]; exact hlt)] at hc2
          rw [B8_at _ _ (by rw [L.out]; exact hlt)] at hc3
          have HG1 := Lib.hid G1
          have HG2 := Lib.hid G2
          have HG3 := Lib.hid G3
          have HB := Lib.hid hB
          clear G1 G2 G3 hB hcell
          generalize hx : xs.getD k 0 = bx at hc0
          generalize hy : ys.getD k 0 = bY at hc1
          generalize hz : zs.getD k 0 = bz at hc2
          generalize (xor3 xs ys zs k).getD k 0 = bw at hc3
          have Hx := Lib.hid hx
          have Hy := Lib.hid hy
          have Hz := Lib.hid hz
          clear hx hy hz
          go_wp2_with fail
          go_region
          all_goals
            go_wp2
            go_roundw
            case measure => simp only [intOf]; omega
            case rel =>
              refine ⟨k + 1, by omega, by go_num, ?_, ?_, ?_, ?_⟩
              · first | exact (heap_setCell_other _ _ _ _ n2).trans HG1.out | (rw [heap_drew]; exact (heap_setCell_other _ _ _ _ n2).trans HG1.out)
              · first | exact (heap_setCell_other _ _ _ _ n3).trans HG2.out | (rw [heap_drew]; exact (heap_setCell_other _ _ _ _ n3).trans HG2.out)
              · rw [bxor8, bxor8, ← xor3_set _ _ _ _ hlt, Hx.out, Hy.out, Hz.out, ← B8_set, ← List.setIfInBounds_toArray]
                first | exact heap_setCell_same _ _ _ _ _ _ HG3.out | (rw [heap_drew]; exact heap_setCell_same _ _ _ _ _ _ HG3.out)
              · first | exact HB.out.setCell m3 _ | exact (HB.out.setCell m3 _).drew
      · obtain em : Hid (k = xs.length) := Lib.hid (by omega)
        have r1 := Lib.hid (HR.out.below hB)
        have r2 : Hid (Rd wr (.slice (some ⟨g1, 0, none⟩) xs.length xs.length) (B8 ys)) := Lib.hid (by
          have := Rd.block (n := xs.length) (cap := xs.length) _ G1 (by simp [B8_len, L2.out]) (Nat.le_refl _) (by omega)
          rwa [List.toList_toArray, List.take_of_length_le (by rw [B8_len, L2.out]; omega)] at this)
        have r3 : Hid (Rd wr (.slice (some ⟨g2, 0, none⟩) xs.length xs.length) (B8 zs)) := Lib.hid (by
          have := Rd.block (n := xs.length) (cap := xs.length) _ G2 (by simp [B8_len, L3.out]) (Nat.le_refl _) (by omega)
          rwa [List.toList_toArray, List.take_of_length_le (by rw [B8_len, L3.out]; omega)] at this)
        have r4 : Hid (Rd wr (.slice (some ⟨g3, 0, none⟩) xs.length xs.length) (B8 (xor3 xs ys zs xs.length))) := Lib.hid (by
          rw [em.out] at G3 L
          have := Rd.block (n := xs.length) (cap := xs.length) _ G3 (by simp [B8_len, L.out]) (Nat.le_refl _) (by omega)
          rwa [List.toList_toArray, List.take_of_length_le (by rw [B8_len, L.out]; omega)] at this)
        have HX := Lib.hid (linear xs ys zs L2.out L3.out)
        generalize xor3 xs ys zs xs.length = all at r4 HX
        have HB := Lib.hid hB
        clear hB G1 G2 G3 hr HR
        go_wp2_with fail
        refine (awake02_calls _).mono ?_
        rintro e w4 ⟨rfl, b4⟩
        have q1 := r1.out.below b4
        have q2 := r2.out.below b4
        have q3 := r3.out.below b4
        have q4 := r4.out.below b4
        go_wp2_with fail
        refine (crc_of_calls [all] _ _ (by exact RdL.one (Rd.new _ _ _ _ _ rfl rfl (by simp)) (q4.alloc _))).mono ?_
        rintro e w' ⟨rfl, hw⟩
        rw [← hw]; clear hw
        go_wp2_with fail
        refine (crc_of_calls [xs] _ _ (by exact RdL.one (Rd.new _ _ _ _ _ (by simp) rfl (by simp)) ((q1.alloc _).alloc _))).mono ?_
        rintro e w' ⟨rfl, hw⟩
        rw [← hw]; clear hw
        go_wp2_with fail
        refine (crc_of_calls [ys] _ _ (by exact RdL.one (Rd.new _ _ _ _ _ (by simp) rfl (by simp)) (((q2.alloc _).alloc _).alloc _))).mono ?_
        rintro e w' ⟨rfl, hw⟩
        rw [← hw]; clear hw
        go_wp2_with fail
        refine (crc_of_calls [zs] _ _ (by exact RdL.one (Rd.new _ _ _ _ _ (by simp) rfl (by simp)) ((((q3.alloc _).alloc _).alloc _).alloc _))).mono ?_
        rintro e w' ⟨rfl, hw⟩
        rw [← hw, HX.out]; clear hw
        go_wp2
        go_ret
        refine ⟨by simp [bxor32], ?_⟩
        have b5 := HB.out.trans (b4.mono HB.out.size)
        repeat (first | exact b5 | (refine Below.alloc ?_ (by have := b5.size; first | (simp; done) | (simp; omega)) _))

end Go.Proofs.Ytbnjheiailkimaa
