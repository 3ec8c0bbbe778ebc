import Derived.Test.YtikganlbnhapcaaProg
import Derived.Test.YtikganlbnhapcaaBits
import Derived.Test.YtikganlbnhapcaaMem
import Derived.Test.YtikganlbnhapcaaCrcPure
import Derived.Deep.OwnRows
import Derived.Below
import Derived.Deep.Draws
import Derived.OwnWalk
import Derived.Tactics
import Derived.WalkKit
import Derived.KernelRfl
import Derived.RowKit3
import Derived.Deep.LoopGhost
import Derived.Deep.QuietTactic
import Derived.BigQuiet
import Derived.WideLaws
import Derived.Deep.DeepCutAuto
import Derived.Deep.CutBlock
import Derived.Laws.Rows
import Derived.Outline
import Derived.Lib.Hide
namespace Go.Proofs.Ytikganlbnhapcaa
open Go.RowKit
set_option linter.unusedVariables false
set_option linter.unusedSimpArgs false
attribute [local go_sem] bit8_eq1 bit32_eq1


def bR (f : Nat → Bool) : Array Value := ((List.range 32).map fun i => Value.bool (f i)).toArray
theorem bR_size (f : Nat → Bool) : (bR f).size = 32 := by simp [bR]
theorem bR_get (f : Nat → Bool) (i : Nat) (h : i < 32) : (bR f)[i]? = some (.bool (f i)) := by
  simp [bR, h]
theorem bR_set (f : Nat → Bool) (i : Nat) (b : Bool) : (bR f).setIfInBounds i (.bool b) = bR (fun j => if j = i then b else f j) := by
  apply Array.ext_getElem?
  intro j
  by_cases hj : j < 32
  · rw [bR_get _ _ hj, Array.getElem?_setIfInBounds]
    by_cases e : i = j
    · subst e; simp [bR_size, hj]
    · simp [e, bR_get _ _ hj, Ne.symm e]
  · have h1 : (bR fun j => if j = i then b else f j)[j]? = none := by rw [Array.getElem?_eq_none]; rw [bR_size]; omega
    rw [h1, Array.getElem?_eq_none]; rw [Array.size_setIfInBounds, bR_size]; omega
theorem bR_congr {f f' : Nat → Bool} (h : ∀ j, j < 32 → f j = f' j) : bR f = bR f' := by
  unfold bR; congr 1
  exact List.map_congr_left fun i hi => by rw [h i (by simpa using hi)]
theorem bR_made : madeCells #[Value.bool false] 32 = bR (fun _ => false) := by
  apply Array.ext_getElem?
  intro j
  by_cases hj : j < 32
  · rw [bR_get _ _ hj]; simp [madeCells, hj, Nat.mod_one]
  · rw [Array.getElem?_eq_none (by simp [madeCells]; omega), Array.getElem?_eq_none (by rw [bR_size]; omega)]

theorem info4_ : ∃ i, Try.prog.info? 4 = some i ∧ i.zero = some (.bool false) ∧ i.size = 1 ∧ i.bytes = 1 := by
  obtain ⟨i, h1, h2, h3, h4⟩ := info_parts (P := Try.prog) (e := 4) (z := .bool false) (size := 1) (bytes := 1) (by kernel_rfl)
  exact ⟨i, h1, h2, h3, h4⟩

set_option maxHeartbeats 1600000 in
set_option maxRecDepth 100000 in
theorem ref_more_calls (s : BitVec 32) (bs : List (BitVec 8)) (v : Value) (w : World) (h : Rd w v (B8 bs)) (hlen : bs.length ≤ 1000000) :
    Calls Try.prog 67 #[.int .u32 (n32 s), v] w fun e w' => e = .returned (.int .u32 (n32 (crcMore s bs))) ∧ Below w.heap.size w w' := by
  obtain ⟨i4, hi4, hz4, hs4, hb4⟩ := info4_
  obtain ⟨a, cap, rfl, hcap, hmax, hr⟩ := h
  rw [B8_len] at hcap hr ⊢
  go_enter Try.func67, Try.ntmps67
  go_wp2_with (at_make; refine wpList_make_row _ rfl _ _ 122 rfl 4 i4 (.bool false) Try.underlying122 hi4 hz4 hs4 rfl .i64 .i64 32 rfl rfl (by rw [hb4]; decide) (by decide) ?_; rw [bR_made])
  go_loopw [6] (fun i wr => ∃ k : Nat, k ≤ 32 ∧ i = .int .i64 k ∧ wr.heap[w.heap.size]? = some (.cells (bR fun j => decide (j < k) && !(s.getLsbD j)) 4 (0, 0)) ∧ Below w.heap.size w wr) (fun i _ => 32 - (intOf i).toNat)
  case atStart => exact ⟨0, by omega, rfl, heap_alloc_new _ _, (Below.refl _ _).alloc (Nat.le_refl _) _⟩
  case round =>
    obtain ⟨k, hk, rfl, hg, hbel⟩ := hrel
    by_cases hlt : k < 32
    · have hc := cell_of_row wr _ k _ _ _ hg
      rw [bR_get _ _ hlt] at hc
      have hf := frozen_of_row wr _ k _ _ hg
      have hg' := Lib.hid hg
      have hbel' := Lib.hid hbel
      clear hg hbel
      go_wp2
      go_roundw
      case rel =>
        rw [bit32_eq0]
        refine ⟨k + 1, by omega, by go_num, ?_, hbel'.out.setCell (by simp) _⟩
        rw [heap_setCell_same _ _ _ _ _ _ hg'.out, bR_set]
        congr 3
        funext j
        by_cases e : j = k
        · subst e; simp
        · simp [e]; congr 1; simp; omega
      case measure => simp [intOf]; omega
    · have em0 : Hid (k = 32) := Lib.hid (by omega)
      have hg' := Lib.hid hg
      have hbel' := Lib.hid hbel
      clear hg hbel
      have hlen2 : (8 * (bs.length : Int)) ≤ 8000000 := by omega
      go_wp2
      go_loopw [5, 7] (fun r i wr => ∃ (k g : Nat), k ≤ 8 * bs.length ∧ i = .int .i64 k ∧ r = .slice (some ⟨g, 0, none⟩) 32 32 ∧ w.heap.size ≤ g ∧ wr.heap[g]? = some (.cells (bR (crcBits bs (~~~ s) k).getLsbD) 4 (0, 0)) ∧ Below w.heap.size w wr) (fun _ i _ => 8 * bs.length - (intOf i).toNat)
      case atStart =>
        refine ⟨0, _, by omega, rfl, rfl, Nat.le_refl _, ?_, hbel'.out⟩
        rw [hg'.out, em0.out]
        congr 2
        refine bR_congr fun j hj => ?_
        simp [crcBits, hj]
      case round =>
        clear hg' hbel'
        obtain ⟨k, g, hk, rfl, rfl, hgw, hg, hbel⟩ := hrel
        by_cases hlt : k < 8 * bs.length
        · rcases hr with hr | ⟨b, off, rfl, hcell⟩
          · omega
          · have hc := hcell (k / 8) (by omega)
            rw [B8_getD _ _ (by omega), ← hbel.cell (lt_of_cell hc)] at hc
            clear hcell
            have hstep : crcBits bs (~~~ s) (k + 1) = crcBit (crcBits bs (~~~ s) k) ((bs.getD (k / 8) 0).getLsbD (k % 8)) := rfl
            have Hs := Lib.hid hstep
            clear hstep
            generalize crcBits bs (~~~ s) k = x at hg Hs
            generalize bs.getD (k / 8) 0 = c at hc Hs
            have hr0 := cell_of_row wr _ 0 _ _ _ hg
            rw [bR_get _ _ (by omega)] at hr0
            have hgl : g < wr.heap.size := by
              have := (Array.getElem?_eq_some_iff.1 hg).1; exact this
            have hg' := Lib.hid hg
            have hbel' := Lib.hid hbel
            clear hg hbel
            have k1 : (k : Int) / 8 < bs.length := by omega
            go_wp2_with (at_make; refine wpList_make_row _ rfl _ _ 122 rfl 4 i4 (.bool false) Try.underlying122 hi4 hz4 hs4 rfl .i64 .i64 32 rfl rfl (by rw [hb4]; decide) (by decide) ?_; rw [bR_made])
            clear hr0 hc
            generalize ho : (!x[0] == c.getLsbD (k % 8)) = o
            have Ho := Lib.hid ho
            clear ho
            obtain ⟨wo, rfl⟩ : ∃ wo : World, wo = wr := ⟨_, rfl⟩
            go_loopw [11] (fun i wi => ∃ m : Nat, m ≤ 31 ∧ i = .int .i64 m ∧ wi.heap[wo.heap.size]? = some (.cells (bR fun j => decide (j < m) && x.getLsbD (j + 1)) 4 (0, 0)) ∧ Below wo.heap.size wo wi) (fun i _ => 31 - (intOf i).toNat)
            case atStart => exact ⟨0, by omega, rfl, by simpa using heap_alloc_new _ _, (Below.refl _ _).alloc (Nat.le_refl _) _⟩
            case round =>
              obtain ⟨m, hm, rfl, hG, hb3⟩ := hrel
              obtain ⟨wi, rfl⟩ : ∃ wi : World, wi = wr := ⟨_, rfl⟩
              have hgi := (hb3.block g hgl).trans hg'.out
              have hG' := Lib.hid hG
              have hb3' := Lib.hid hb3
              by_cases hlt3 : m < 31
              · have hr1 := cell_of_row wi _ (m + 1) _ _ _ hgi
                rw [bR_get _ _ (by omega)] at hr1
                have hc1 := cell_of_row wi _ m _ _ _ hG
                rw [bR_get _ _ (by omega)] at hc1
                have hf1 := frozen_of_row wi _ m _ _ hG
                clear hgi hG hb3
                go_wp2
                go_roundw
                case rel =>
                  refine ⟨m + 1, by omega, by go_num, ?_, hb3'.out.setCell (by simp) _⟩
                  rw [heap_setCell_same _ _ _ _ _ _ hG'.out, bR_set]
                  congr 2
                  refine bR_congr fun j hj => ?_
                  by_cases e : j = m
                  · subst e; simp
                  · simp [e]; congr 1; simp; omega
                case measure => simp [intOf]; omega
              · have em : Hid (m = 31) := Lib.hid (by omega)
                clear hgi hG hb3
                have hG2 : Hid (wi.heap[wo.heap.size]? = some (.cells (bR (x >>> 1).getLsbD) 4 (0, 0))) := by
                  refine Lib.hid ?_
                  rw [hG'.out, em.out]
                  congr 2
                  refine bR_congr fun j hj => ?_
                  rw [BitVec.getLsbD_ushiftRight]
                  by_cases e : j < 31
                  · simp [e, Nat.add_comm]
                  · obtain rfl : j = 31 := by omega
                    simp
                clear hG'
                cases o with
                | false =>
                  go_wp2
                  go_loopw [12] (fun i wj => i = .int .i64 0 ∧ wj = wi) (fun i _ => 0)
                  case atStart => exact ⟨rfl, rfl⟩
                  case round =>
                    obtain ⟨rfl, rfl⟩ := hrel
                    go_wp2
                    go_roundw
                    case rel =>
                      refine ⟨k + 1, wo.heap.size, by omega, by go_num, rfl, by have := hbel'.out.size; omega, ?_, hbel'.out.trans (hb3'.out.mono (hbel'.out.size))⟩
                      rw [hG2.out, Hs.out]
                      congr 2
                      rw [crcBit_of _ _ _ Ho.out]; simp
                    case measure => refine Nat.sub_lt_sub_left ?_ ?_ <;> simp only [intOf] <;> omega
                | true =>
                  go_wp2
                  go_loopw [12] (fun i wr => ∃ m : Nat, m ≤ 32 ∧ i = .int .i64 m ∧ wr.heap[wo.heap.size]? = some (.cells (bR fun j => (x >>> 1).getLsbD j ^^ (decide (j < m) && (0xEDB88320#32).getLsbD j)) 4 (0, 0)) ∧ Below wo.heap.size wo wr) (fun i _ => 32 - (intOf i).toNat)
                  case atStart => exact ⟨0, by omega, rfl, by rw [hG2.out]; congr 2; exact bR_congr fun j hj => by simp, hb3'.out⟩
                  case round =>
                    clear hG2 hb3'
                    obtain ⟨m, hm, rfl, hG, hb3⟩ := hrel
                    have hG' := Lib.hid hG
                    have hb3' := Lib.hid hb3
                    by_cases hlt4 : m < 32
                    · have hc1 := cell_of_row wr _ m _ _ _ hG
                      rw [bR_get _ _ (by omega)] at hc1
                      simp only [Nat.lt_irrefl, decide_false, Bool.false_and, Bool.xor_false] at hc1
                      generalize hq : (x >>> 1).getLsbD m = q at hc1
                      have Hq := Lib.hid hq
                      have hf1 := frozen_of_row wr _ m _ _ hG
                      have hp := poly_bit m
                      clear hG hb3 hq
                      cases hpm : (3988292384#32).getLsbD m
                      all_goals
                        rw [hpm] at hp
                        have Hpm := Lib.hid hpm
                        clear hpm
                        go_wp2
                        go_roundw
                        case rel =>
                          refine ⟨m + 1, by omega, by go_num, ?_, by first | exact hb3'.out.setCell (by simp) _ | exact hb3'.out⟩
                          first | rw [heap_setCell_same _ _ _ _ _ _ hG'.out, bR_set] | rw [hG'.out]
                          congr 2
                          refine bR_congr fun j hj => ?_
                          by_cases e : j = m
                          · subst e; simp [Hq.out, Hpm.out]
                          · have e2 : decide (j < m + 1) = decide (j < m) := by simp; omega
                            simp [e, e2]
                        case measure => simp [intOf]; omega
                    · have em : Hid (m = 32) := Lib.hid (by omega)
                      clear hG hb3
                      go_wp2
                      go_roundw
                      case rel =>
                        refine ⟨k + 1, wo.heap.size, by omega, by go_num, rfl, by have := hbel'.out.size; omega, ?_, hbel'.out.trans (hb3'.out.mono (hbel'.out.size))⟩
                        rw [hG'.out, Hs.out, em.out]
                        congr 2
                        refine bR_congr fun j hj => ?_
                        rw [crcBit_of _ _ _ Ho.out]; simp [hj]
                      case measure => refine Nat.sub_lt_sub_left ?_ ?_ <;> simp only [intOf] <;> omega
        · obtain rfl : k = 8 * bs.length := by omega
          have hg' := Lib.hid hg
          have hbel' := Lib.hid hbel
          clear hg hbel hr
          go_wp2
          rw [crcBits_whole _ _ _ (Nat.le_refl _), List.take_length] at hg'
          have Hx : crcMore s bs = ~~~ (bs.foldl crcOne (~~~ s)) := rfl
          generalize bs.foldl crcOne (~~~ s) = x at hg' Hx
          have hx := Lib.hid Hx
          clear Hx
          go_loop [13, 14] (fun n i => ∃ m : Nat, m ≤ 32 ∧ i = .int .i64 ((m : Int) - 1) ∧ n = .int .u32 (n32 ((~~~ x) >>> m))) (fun _ i => (intOf i + 1).toNat)
          case atStart => exact ⟨32, by omega, rfl, by rw [shr32]⟩
          case round =>
            obtain ⟨m, hm, rfl, rfl⟩ := hrel
            by_cases hm0 : m = 0
            · subst hm0
              clear hg'
              go_wp2
              go_ret
              exact ⟨by rw [hx.out]; simp, hbel'.out⟩
            · obtain ⟨m, rfl⟩ : ∃ q, m = q + 1 := ⟨m - 1, by omega⟩
              have hc1 := cell_of_row wr _ m _ _ _ hg'.out
              rw [bR_get _ _ (by omega)] at hc1
              have e : ((m + 1 : Nat) : Int) - 1 = m := by omega
              rw [e]
              have hd := double32 (~~~ x) m
              have hb : (~~~ x).getLsbD m = !x.getLsbD m := by simp; omega
              rw [hb] at hd
              have Hd := Lib.hid hd
              have hlo := n32_lo (~~~ x >>> (m + 1))
              have hhi := n32_hi (~~~ x >>> (m + 1))
              clear hd hb hg'
              generalize x.getLsbD m = q at hc1 Hd
              cases q
              all_goals
                have hd := Hd.out
                simp at hd
                have hd2 := n32_hi (~~~ x >>> m)
                have Hd3 := Lib.hid hd
                clear hd
                go_wp2
                go_round
                case rel => 
                  refine ⟨m, by omega, by go_num, ?_⟩
                  rw [← Hd3.out]
                case measure => simp only [intOf]; omega

end Go.Proofs.Ytikganlbnhapcaa
