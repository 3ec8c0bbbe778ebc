import Derived.Test.YtbnjheiailkimaaProg
import Derived.Test.YtbnjheiailkimaaCrcLaws
import Derived.Below
import Derived.Deep.Draws
import Derived.OwnWalk
import Derived.Tactics
import Derived.WalkKit
import Derived.KernelRfl
import Derived.RowKit3
import Derived.Deep.LoopGhost
import Derived.Deep.QuietTactic
import Derived.BigQuiet
import Derived.WideLaws
import Derived.Deep.DeepCutAuto
import Derived.Deep.CutBlock
import Derived.Laws.Rows
import Derived.Outline
import Derived.Lib.Hide
namespace Go.Proofs.Ytbnjheiailkimaa
open Go.RowKit


set_option maxHeartbeats 1600000 in
set_option maxRecDepth 100000 in
theorem law_CrcDamage (bs : List (BitVec 8)) (x : BitVec 16) (bits : BitVec 32) (v : Value) (w : World) (h : Rd w v (B8 bs)) :
    Calls Try.prog 5 #[v, .int .u16 (n16 x), .int .u32 (n32 bits)] w fun e w' => e = .returned (.bool true) ∧ Below w.heap.size w w' := by
  go_enter Try.func5, Try.ntmps5
  go_wp2_with fail
  refine (short_calls bs _ _ (h.alloc _)).mono ?_
  rintro e w' ⟨v1, rfl, k1, hw⟩
  rw [← hw]
  clear hw
  have l1 : (bs.take 200).length ≤ 200 := by simp; omega
  clear h
  generalize bs.take 200 = xs at k1 l1
  go_wp2_with (first
    | (at_builtin; refine wpList_append_bd (W0 := w) (o := ⟨some 15, _, _, _, _, _⟩) rfl _ _ 23 rfl slT8 (.slice (some ⟨w.heap.size, 0, none⟩) 0 0) v1 [] (B8 xs) rfl rfl ((Below.refl _ _).alloc (Nat.le_refl _) _) (by exact Own.made #[] 0 (Nat.le_refl _) rfl (by decide) _ rfl) k1 (B8_one _) (by simp [B8_len, maxLen]; omega) (by simp [B8_len]; omega) ?_; intro u1 w1 o1 b1 g1; clear g1 k1; rw [List.nil_append] at o1; obtain ⟨a1, c1, rfl, c2, c3⟩ := o1.rd.slice; rw [B8_len])
    | fail)
  · refine (awake02_calls _).mono ?_
    rintro e w2 ⟨rfl, b2⟩
    go_wp2
    go_ret
    exact ⟨rfl, b1.trans (b2.mono b1.size)⟩
  · have hpos : 0 < xs.length := by
      rcases Nat.eq_zero_or_pos xs.length with h0 | h0
      · exfalso
        have : ((xs.length : Int) == 0) = false := by assumption
        rw [h0] at this; simp at this
      · exact h0
    have r1 := o1.rd
    rw [B8_len] at r1
    refine (crc_of_calls [xs] _ _ (by exact RdL.one (Rd.new _ _ _ _ _ rfl rfl (by simp)) (r1.alloc _))).mono ?_
    rintro e w' ⟨rfl, hw⟩
    rw [← hw]; clear hw
    generalize hwas : crcOf [xs] = was
    have Hwas := Lib.hid hwas
    clear hwas
    obtain ⟨g, tl, rfl, hbase, hgl, hg⟩ := o1.block (by rw [B8_len]; exact hpos)
    rw [← heap_alloc_old w1 (Obj.cells #[Value.slice (some ⟨g, 0, none⟩) xs.length c1] 23) hgl] at hg
    have b2 : Below w.heap.size w (w1.alloc (Obj.cells #[Value.slice (some ⟨g, 0, none⟩) xs.length c1] 23)) := b1.alloc b1.size _
    have hgl2 : g < (w1.alloc (Obj.cells #[Value.slice (some ⟨g, 0, none⟩) xs.length c1] 23)).heap.size := by simp; omega
    clear o1 r1 hgl b1
    generalize w1.alloc (Obj.cells #[Value.slice (some ⟨g, 0, none⟩) xs.length c1] 23) = w2 at *
    have hx0 := n16_lo x
    have hx1 := n16_hi x
    obtain ⟨s, hs⟩ : ∃ s : Nat, n16 x % (8 * (xs.length : Int)) = s := ⟨(n16 x % (8 * (xs.length : Int))).toNat, by rw [Int.toNat_of_nonneg]; exact Int.emod_nonneg _ (by omega)⟩
    have hs1 : s < 8 * xs.length := by
      have := Int.emod_lt_of_pos (n16 x) (show 0 < 8 * (xs.length : Int) by omega)
      omega
    have Hs := Lib.hid hs
    have Hg := Lib.hid hg
    have Hb := Lib.hid b2
    clear hs hg b2
    go_wp2
    rw [Hs.out]
    clear Hs hx0 hx1
    go_loopw [10, 11] (fun t i wr => ∃ k : Nat, k ≤ 32 ∧ s + k ≤ 8 * xs.length ∧ i = .int .i64 k ∧ t = .bool (anyBit bits k) ∧ wr.heap[g]? = some (.cells (B8 (dmg xs s bits k) ++ tl).toArray 5 (0, 0)) ∧ Below w.heap.size w wr) (fun _ i _ => 32 - (intOf i).toNat)
    case atStart => exact ⟨0, by omega, by omega, rfl, rfl, Hg.out, Hb.out⟩
    case round =>
      clear Hg Hb
      obtain ⟨k, hk, hsk, rfl, rfl, hg, hb⟩ := hrel
      have Hg := Lib.hid hg
      have Hb := Lib.hid hb
      by_cases hc : k < 32 ∧ s + k < 8 * xs.length
      · obtain ⟨hc1, hc2⟩ := hc
        have hc2' : (s : Int) + k < 8 * xs.length := by omega
        have hlen : (dmg xs s bits k).length = xs.length := dmg_len xs s bits k
        have hl : (s + k) / 8 < (dmg xs s bits k).length := by omega
        have hc := cell_of_row wr g ((s + k) / 8) _ _ _ hg
        rw [row_get _ _ _ (by rw [B8_len]; exact hl), B8_getD _ _ hl] at hc
        have hf := frozen_of_row wr g ((s + k) / 8) _ _ hg
        have Hlen := Lib.hid hlen
        have Hl := Lib.hid hl
        clear hg hb hlen hl
        have hd1 : ((s : Int) + k) / 8 < xs.length := by omega
        generalize hcc : (dmg xs s bits k).getD ((s + k) / 8) 0 = cc at hc
        have Hcc := Lib.hid hcc
        clear hcc
        cases hbit : bits.getLsbD k
        all_goals
          have hq := bit32_eq1 bits k
          rw [hbit] at hq
          have Hbit := Lib.hid hbit
          clear hbit
          go_wp2
          go_roundw
          case measure => simp only [intOf]; omega
          case rel =>
            refine ⟨k + 1, by omega, by omega, by go_num, by simp [anyBit, Hbit.out], ?_, by first | exact Hb.out | exact Hb.out.setCell hbase _⟩
            first
              | (rw [dmg, if_neg (by rw [Hbit.out]; decide)]; exact Hg.out)
              | (rw [dmg, if_pos Hbit.out, heap_setCell_same _ _ _ _ _ _ Hg.out, row_set _ _ _ (by rw [B8_len]; exact Hl.out), pow2_8 _ (by omega), bxor8, B8_set, Hcc.out])
      · have hdm := damage xs s k bits hk hsk
        rw [Hwas.out] at hdm
        have hdm' : (n32 (crcOf [dmg xs s bits k]) == n32 was) = !(anyBit bits k) := by
          rw [← hdm]
          cases he : (crcOf [dmg xs s bits k] != was)
          · simp at he; simp [he]
          · simp at he; simp [n32_inj, he]
        have Hdm := Lib.hid hdm'
        have hgl : g < wr.heap.size := (Array.getElem?_eq_some_iff.1 hg).1
        have r1 : Rd wr (.slice (some ⟨g, 0, none⟩) xs.length c1) (B8 (dmg xs s bits k)) := by
          have := Rd.block (n := xs.length) (cap := c1) _ hg (by simp [B8_len, dmg_len]) (by rw [B8_len] at c2; exact c2) c3
          rwa [List.toList_toArray, List.take_left' (by rw [B8_len, dmg_len])] at this
        clear hdm hdm' hg hb Hg
        generalize dmg xs s bits k = ys at r1 Hdm
        generalize anyBit bits k = q at Hdm
        have hc' : (32 ≤ k) ∨ (k < 32 ∧ 8 * (xs.length : Int) ≤ s + k) := by omega
        clear hc hsk
        rcases hc' with hc | ⟨hc, hc2⟩
        all_goals
          go_wp2_with fail
          refine (awake02_calls _).mono ?_
          rintro e w3 ⟨rfl, b3⟩
          have r2 := r1.below b3
          go_wp2_with fail
          refine (crc_of_calls [ys] _ _ (by exact RdL.one (Rd.new _ _ _ _ _ rfl rfl (by simp)) (r2.alloc _))).mono ?_
          rintro e w' ⟨rfl, hw⟩
          rw [← hw]; clear hw
          have hd := Hdm.out
          cases q
          all_goals
            simp only [Bool.not_false, Bool.not_true] at hd
            go_wp2
            go_ret
            exact ⟨by simp [bne, hd], (Hb.out.trans (b3.mono Hb.out.size)).alloc (by have := Hb.out.size; have := b3.size; omega) _⟩

end Go.Proofs.Ytbnjheiailkimaa
