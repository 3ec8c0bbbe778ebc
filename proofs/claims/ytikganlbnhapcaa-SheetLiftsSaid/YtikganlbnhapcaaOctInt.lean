import Derived.Test.YtikganlbnhapcaaProg
import Derived.Test.YtikganlbnhapcaaStr
import Derived.Below
import Derived.Deep.Draws
import Derived.OwnWalk
import Derived.Tactics
import Derived.WalkKit
import Derived.KernelRfl
import Derived.RowKit3
import Derived.Deep.LoopGhost
import Derived.Deep.QuietTactic
import Derived.BigQuiet
import Derived.WideLaws
import Derived.Deep.DeepCutAuto
import Derived.Deep.CutBlock
import Derived.Laws.Rows
import Derived.Outline
import Derived.Lib.Hide
namespace Go.Proofs.Ytikganlbnhapcaa
open Go.RowKit
set_option linter.unusedVariables false
set_option linter.unusedSimpArgs false


theorem slT8 : SlT Try.prog 22 5 (.int .u8 0) 1 := ⟨Try.underlying22, by kernel_rfl, rfl⟩

/-- a number's bytes, so many -/
def ser (x : BitVec 64) (s : Nat) : List (BitVec 8) := (List.range s).map fun i => (x >>> (8 * (s - 1 - i))).setWidth 8
theorem ser_len (x : BitVec 64) (s : Nat) : (ser x s).length = s := by simp [ser]

def serTo (x : BitVec 64) (s k : Nat) : List (BitVec 8) := (List.range s).map fun i => if i < k then (x >>> (8 * (s - 1 - i))).setWidth 8 else 0#8
theorem serTo_all (x : BitVec 64) (s : Nat) : serTo x s s = ser x s := by
  unfold serTo ser
  exact List.map_congr_left fun i hi => by rw [if_pos (by simpa using hi)]
theorem splice_ser (bs : List (BitVec 8)) (x : BitVec 64) (s : Nat) : splice (B8 (List.replicate (bs.length + s) 0#8)) 0 ((B8 bs).take (bs.length + s)) = B8 (bs ++ serTo x s 0) := by
  have : serTo x s 0 = List.replicate s 0#8 := by simp [serTo, List.map_const']
  rw [this, B8_append, List.take_of_length_le (by rw [B8_len]; omega)]
  simp [splice, B8, List.drop_replicate]
theorem serTo_set (bs : List (BitVec 8)) (x : BitVec 64) (s k : Nat) (h : k < s) : (bs ++ serTo x s k).set (bs.length + k) ((x >>> (8 * (s - 1 - k))).setWidth 8) = bs ++ serTo x s (k + 1) := by
  rw [List.set_append_right _ _ (by omega)]
  congr 1
  rw [Nat.add_sub_cancel_left]
  apply List.ext_getElem (by simp [serTo])
  intro i h1 h2
  simp only [serTo, List.getElem_set, List.getElem_map, List.getElem_range]
  by_cases e : k = i
  · subst e; simp
  · simp [e]; congr 1; simp; omega
theorem byte64 (x : BitVec 64) (m : Nat) : n64 x / (2 : Int) ^ m % (256 : Int) = n8 ((x >>> m).setWidth 8) := by
  unfold n64 n8
  rw [BitVec.toNat_setWidth, BitVec.toNat_ushiftRight, Nat.shiftRight_eq_div_pow]; simp
theorem B8_at (l : List (BitVec 8)) (i : Nat) (h : i < l.length) : (B8 l).toArray[i]? = some (.int .u8 (n8 (l.getD i 0))) := by
  simp [B8, h]

set_option maxHeartbeats 800000 in
set_option maxRecDepth 100000 in
theorem behind_calls (bs : List (BitVec 8)) (x : BitVec 64) (s : Nat) (v : Value) (w : World) (h : Rd w v (B8 bs)) (hb : bs.length ≤ 1000000000) (hs : s ≤ 8) :
    Calls Try.prog 86 #[v, .int .u64 (n64 x), .int .i64 (s : Int)] w fun e w' => ∃ v', e = .returned v' ∧ Own w' w.heap.size 5 v' (B8 (bs ++ ser x s)) ∧ Below w.heap.size w w' := by
  obtain ⟨a, cap, rfl, hc, hm⟩ := h.slice
  have hmk := make8 slT8 (bs.length + s) (by omega)
  rw [B8_len] at *
  have e1 : ((bs.length + s : Nat) : Int) = (bs.length : Int) + s := by omega
  rw [e1] at hmk
  go_enter Try.func86, Try.ntmps86
  go_wp2_with (first
    | (refine wpList_copy_rd (o := ⟨some 17, _, _, _, _, _⟩) rfl _ _ 22 rfl slT8 _ _ _ (.slice a bs.length cap) (B8 bs) rfl rfl (h.alloc _) (B8_one _) w.heap.size 0 rfl _ _ (heap_alloc_new _ _) (by simp [B8_len]) ?_; intro w1 e1 e2 e3)
    | fail)
  rw [show min (bs.length + s) (B8 bs).length = bs.length by rw [B8_len]; omega]
  have G0 : Hid (w1.heap[w.heap.size]? = some (.cells (B8 (bs ++ serTo x s 0)).toArray 5 (0, 0))) := Lib.hid (by rw [e1, splice_ser])
  have B0 : Hid (Below w.heap.size w w1) := Lib.hid (e3 _ _ ((Below.refl _ _).alloc (Nat.le_refl _) _) (Nat.le_refl _))
  clear e1 e2 e3 hmk h
  go_loopw [19] (fun i wr => ∃ k : Nat, k ≤ s ∧ i = .int .i64 k ∧ wr.heap[w.heap.size]? = some (.cells (B8 (bs ++ serTo x s k)).toArray 5 (0, 0)) ∧ Below w.heap.size w wr) (fun i _ => s - (intOf i).toNat)
  case atStart => exact ⟨0, by omega, rfl, G0.out, B0.out⟩
  case round =>
    clear G0 B0
    obtain ⟨k, hk, rfl, G, hB⟩ := hrel
    have HG := Lib.hid G
    have HB := Lib.hid hB
    by_cases hlt : k < s
    · have c1 := cell_of_row wr _ (bs.length + k) _ _ _ G
      rw [B8_at _ _ (by simp [serTo]; omega)] at c1
      generalize (bs ++ serTo x s k).getD (bs.length + k) 0 = q at c1
      have f1 := frozen_of_row wr _ (bs.length + k) _ _ G
      clear G hB
      go_wp2
      go_roundw
      case rel =>
        refine ⟨k + 1, by omega, by go_num, ?_, HB.out.setCell (Nat.le_refl _) _⟩
        rw [byte64, heap_setCell_same _ _ _ _ _ _ HG.out, List.setIfInBounds_toArray, B8_set, serTo_set _ _ _ _ hlt]
      case measure => simp only [intOf]; omega
    · have em : Hid (k = s) := Lib.hid (by omega)
      clear G hB
      go_wp2
      go_ret
      refine ⟨_, rfl, ?_, HB.out⟩
      have hg := HG.out
      rw [em.out, serTo_all] at hg
      exact ⟨by simp, .inr ⟨_, bs.length + s, _, by rw [B8_len]; simp [ser_len], Nat.le_refl _, hg, by simp [B8_len, ser_len], by unfold maxLen; omega, by simp [B8_len, ser_len], by simp⟩⟩

theorem u64_of (n : Int) : IntKind.u64.wrap n = n64 (BitVec.ofInt 64 n) := by
  unfold n64
  rw [IntKind.wrap_u64, BitVec.toNat_ofInt]
  omega
/-- a number, put down -/
def encI (n : Int) : List (BitVec 8) := ser (BitVec.ofInt 64 n) 8
theorem encI_len (n : Int) : (encI n).length = 8 := ser_len _ _
/-- a text, put down -/
def encT (l : List (BitVec 8)) : List (BitVec 8) := ser (BitVec.ofNat 64 l.length) 2 ++ l

set_option maxHeartbeats 800000 in
theorem oint_calls (bs : List (BitVec 8)) (n : Int) (v : Value) (w : World) (h : Rd w v (B8 bs)) (hb : bs.length ≤ 1000000000) :
    Calls Try.prog 74 #[v, .int .i64 n] w fun e w' => ∃ v', e = .returned v' ∧ Own w' w.heap.size 5 v' (B8 (bs ++ encI n)) ∧ Below w.heap.size w w' := by
  have hu := u64_of n
  go_enter Try.func74, Try.ntmps74
  go_wp2_with fail
  clear hu
  refine (behind_calls bs (BitVec.ofInt 64 n) 8 _ _ h hb (by omega)).mono ?_
  rintro e w' ⟨v', rfl, ho, hB⟩
  go_wp2
  go_ret
  exact ⟨_, rfl, ho, hB⟩

/-- a slice above a line -/
def Fresh (N : Nat) (v : Value) : Prop := ∀ a n c, v = .slice (some a) n c → N ≤ a.block
theorem Own.fresh {w : World} {N : Nat} {e : TypeId} {v : Value} {xs : List Value} (h : Own w N e v xs) : Fresh N v := by
  rintro a n c rfl
  obtain ⟨_, h⟩ := h
  rcases h with ⟨h, _⟩ | ⟨g, cap, cur, h, hb, _⟩
  · cases h
  · injection h with h1; injection h1 with h1; subst h1; exact hb
theorem Fresh.clip {N n c n' c' : Nat} {a : Option Addr} (h : Fresh N (.slice a n c)) : Fresh N (.slice a n' c') := by
  intro x m d e
  injection e with e1; subst e1
  exact h _ _ _ rfl
end Go.Proofs.Ytikganlbnhapcaa
