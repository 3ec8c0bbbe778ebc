import Derived.Test.YtjfeggkjkdbkiaaProg
import Derived.Test.YtjfeggkjkdbkiaaBoxPow
import Derived.RegionTactic
import Derived.ChangeAlike
import Derived.Below
import Derived.Deep.Draws
import Derived.OwnWalk
import Derived.Tactics
import Derived.WalkKit
import Derived.KernelRfl
import Derived.RowKit3
import Derived.Deep.LoopGhost
import Derived.Deep.QuietTactic
import Derived.BigQuiet
import Derived.WideLaws
import Derived.Deep.DeepCutAuto
import Derived.Deep.CutBlock
import Derived.Laws.Rows
import Derived.Outline
import Derived.Lib.Hide
namespace Go.Proofs.Ytjfeggkjkdbkiaa
open Go.RowKit
attribute [local go_sem] zand ob_xor
set_option linter.unusedVariables false
set_option linter.unusedSimpArgs false


theorem slT8 : SlT Try.prog 22 5 (.int .u8 0) 1 := ⟨Try.underlying22, by kernel_rfl, rfl⟩
theorem ofNat_n8 (x : BitVec 8) : BitVec.ofNat 8 (n8 x).toNat = x := by unfold n8; simp
theorem rmul_calls_v (a b : BitVec 8) (u v : Int) (hu : u = n8 a) (hv : v = n8 b) (w : World) :
    Calls Try.prog 80 #[.int .u8 u, .int .u8 v] w fun e w' => e = .returned (.int .u8 (n8 (gmul a b))) ∧ w = w' := by
  subst hu hv; exact rmul_calls a b w
def pwl (k : Nat) : List (BitVec 8) := (List.range k).map pw
theorem pwl_len (k : Nat) : (pwl k).length = k := by simp [pwl]
theorem pwl_get (k i : Nat) (h : i < k) : (pwl k).getD i 0 = pw i := by simp [pwl, h]
theorem pwl_succ (k : Nat) : pwl (k + 1) = pwl k ++ [pw k] := by simp [pwl, List.range_succ]

set_option maxHeartbeats 800000 in
set_option maxRecDepth 100000 in
theorem powers_calls (w : World) :
    Calls Try.prog 98 #[] w fun e w' => ∃ v, e = .returned v ∧ Rd w' v (B8 (pwl 255)) ∧ Below w.heap.size w w' := by
  go_enter Try.func98, Try.ntmps98
  go_wp2
  go_loopw [1, 2] (fun v i wr => ∃ k : Nat, 1 ≤ k ∧ k ≤ 255 ∧ i = .int .i64 k ∧ Own wr w.heap.size 5 v (B8 (pwl k)) ∧ Below w.heap.size w wr) (fun _ i _ => 255 - (intOf i).toNat)
  case atStart => exact ⟨1, by omega, by omega, rfl, by exact Own.made #[Value.int .u8 1] 1 (Nat.le_refl _) rfl (by decide) _ rfl, (Below.refl _ _).alloc (Nat.le_refl _) _⟩
  case round =>
    obtain ⟨k, h1, hk, rfl, ho, hb⟩ := hrel
    obtain ⟨a, c, rfl, hc1, hc2⟩ := ho.rd.slice
    rw [B8_len, pwl_len] at *
    by_cases hlt : k < 255
    · obtain ⟨g, tl, rfl, -, -, hg⟩ := ho.block (by rw [B8_len, pwl_len]; omega)
      have hc := cell_of_row wr g (k - 1) _ _ _ hg
      rw [row_get _ _ _ (by rw [B8_len, pwl_len]; omega), B8_getD _ _ (by rw [pwl_len]; omega), pwl_get _ _ (by omega)] at hc
      obtain ⟨m, rfl⟩ : ∃ m, k = m + 1 := ⟨k - 1, by omega⟩
      have hs := pw_succ ⟨m, by omega⟩
      simp only [Nat.add_sub_cancel] at hc hs
      have Hs := Lib.hid hs
      have HO := Lib.hid ho
      have HB := Lib.hid hb
      clear hs hg ho hb
      have e1 : ((m + 1 : Nat) : Int) - 1 = m := by omega
      go_wp2_with fail
      refine (rmul_calls_v _ 3#8 _ _ rfl rfl _).mono ?_
      rintro e w' ⟨rfl, rfl⟩
      rw [Hs.out]
      obtain ⟨v1, hv1⟩ : ∃ v1 : Value, v1 = .slice (some ⟨g, 0, none⟩) (m + 1) c := ⟨_, rfl⟩
      have HO2 : Own wr w.heap.size 5 v1 (B8 (pwl (m + 1))) := by rw [hv1]; exact HO.out
      go_wp2_with (first
        | (at_builtin; refine wpList_append_bd (W0 := w) (o := ⟨some 16, _, _, _, _, _⟩) rfl _ _ 22 rfl slT8 _ (.slice (some ⟨wr.heap.size, 0, none⟩) 1 1) (B8 (pwl (m + 1))) [.int .u8 (n8 (pw (m + 1)))] rfl rfl (HB.out.alloc HB.out.size _) (HO.out.alloc _) (by exact Rd.new _ _ #[_] 1 _ rfl rfl (by decide)) (by intro y hy; simp at hy; subst hy; rfl) (by simp [B8_len, pwl_len, maxLen]; omega) (by simp [B8_len, pwl_len]; omega) ?_; intro u1 w1 o1 b1 g1)
        | fail)
      go_roundw
      case rel =>
        refine ⟨m + 2, by omega, by omega, by go_num, ?_, b1⟩
        rw [pwl_succ, B8_append]; exact o1
      case measure => simp only [intOf]; omega
    · have em : Hid (k = 255) := Lib.hid (by omega)
      have HO := Lib.hid ho
      have HB := Lib.hid hb
      clear ho hb
      go_wp2
      go_ret
      exact ⟨_, rfl, by have := HO.out.rd; rw [em.out] at this ⊢; exact this, HB.out⟩

set_option maxHeartbeats 1600000 in
set_option maxRecDepth 100000 in
theorem rtables_calls (w : World) :
    Calls Try.prog 79 #[] w fun e w' => ∃ g1 g2 : Nat, e = .returned (.tuple #[.slice (some ⟨g1, 0, none⟩) 256 256, .slice (some ⟨g2, 0, none⟩) 256 256]) ∧
      w'.heap[g1]? = some (.cells (A8 256 fun i => sbox (BitVec.ofNat 8 i)) 5 (0, 0)) ∧ w'.heap[g2]? = some (.cells (A8 256 fun i => ibox (BitVec.ofNat 8 i)) 5 (0, 0)) ∧ Below w.heap.size w w' ∧ w.heap.size ≤ g1 ∧ w.heap.size ≤ g2 := by
  have hmk : ∀ w : World, (Instr.makeSlice 22 (.int .i64 256) (.int .i64 256)).run Try.prog w = .ok (.slice (some ⟨w.heap.size, 0, none⟩) 256 256) (w.alloc (.cells (A8 256 fun _ => 0#8) 5)) := fun w => by
    have := make8 slT8 256 (by decide) w
    rwa [zero_A8] at this
  go_enter Try.func79, Try.ntmps79
  go_wp2_with fail
  refine (powers_calls _).mono ?_
  rintro e w1 ⟨p, rfl, hp, b1⟩
  obtain ⟨b, off, c, rfl, -, -, hcell⟩ := hp.cell 0 (by rw [B8_len, pwl_len]; omega)
  rw [B8_len, pwl_len] at *
  have hbl : b < w1.heap.size := lt_of_cell (hcell 0 (by omega))
  have Hcell : Hid (∀ k, k < 255 → w1.cell? ⟨b, off + k, none⟩ = some (.int .u8 (n8 (pw k)))) := Lib.hid fun k hk => by
    rw [hcell k hk, B8_getD _ _ (by rw [pwl_len]; exact hk), pwl_get _ _ hk]
  clear hcell hp
  go_wp2_with fail
  have Hmk := Lib.hid hmk
  clear hmk
  go_loopw [4] (fun i wr => ∃ k : Nat, k ≤ 255 ∧ i = .int .i64 k ∧ wr.heap[w1.heap.size]? = some (.cells (A8 256 fun j => if lg (BitVec.ofNat 8 j) < k then ginv (BitVec.ofNat 8 j) else 0#8) 5 (0, 0)) ∧ Below w1.heap.size w1 wr) (fun i _ => 255 - (intOf i).toNat)
  case atStart => exact ⟨0, by omega, rfl, heap_alloc_new _ _, (Below.refl _ _).alloc (Nat.le_refl _) _⟩
  case round =>
    obtain ⟨k, hk, rfl, G, hB⟩ := hrel
    have HG := Lib.hid G
    have HB := Lib.hid hB
    by_cases hlt : k < 255
    · obtain ⟨n, hn, hn2⟩ : ∃ n : Nat, (255 - (k : Int)) % 255 = n ∧ n < 255 := ⟨(255 - k) % 255, by omega, by omega⟩
      have hpn : pw n = ginv (pw k) := by
        rw [← pw_inv ⟨k, hlt⟩]; congr 1; show n = (255 - k) % 255; omega
      have c1 := Hcell.out k hlt
      have c2 := Hcell.out n hn2
      rw [← hB.cell (lt_of_cell c1)] at c1
      rw [← hB.cell (lt_of_cell c2)] at c2
      have hlg := lg_pw ⟨k, hlt⟩
      simp only at hlg
      generalize pw k = x at c1 hpn hlg
      generalize pw n = y at c2 hpn
      have x0 := n8_lo x
      have x1 := n8_hi x
      have c3 := cell_of_row wr _ (n8 x).toNat _ _ _ G
      rw [A8_get _ _ _ (by omega)] at c3
      generalize (if lg (BitVec.ofNat 8 (n8 x).toNat) < k then ginv (BitVec.ofNat 8 (n8 x).toNat) else 0#8) = q at c3
      have f3 := frozen_of_row wr _ (n8 x).toNat _ _ G
      have Hlg := Lib.hid hlg
      have Hpn := Lib.hid hpn
      clear hlg hpn G hB
      go_wp2_with fail
      go_region
      all_goals
        go_wp2
        go_roundw
        case measure => simp only [intOf]; omega
        case rel =>
          refine ⟨k + 1, by omega, by go_num, ?_, (HB.out.setCell (Nat.le_refl _) _).drew⟩
          rw [heap_drew, heap_setCell_same _ _ _ _ _ _ HG.out, A8_set]
          congr 2
          refine A8_congr fun j hj => ?_
          by_cases e : j = (n8 x).toNat
          · rw [if_pos e, e, ofNat_n8, Hlg.out, if_pos (by omega), Hpn.out]
          · rw [if_neg e]
            have e2 : lg (BitVec.ofNat 8 j) ≠ k := by
              intro h
              apply e
              have hz : BitVec.ofNat 8 j ≠ 0#8 := by
                intro h0; rw [h0] at h; rw [← h] at hlt; revert hlt; decide +kernel
              have h2 := pw_lg _ hz
              have h3 : lg x < 255 := by rw [Hlg.out]; exact hlt
              have hz2 : x ≠ 0#8 := by intro h0; rw [h0] at h3; revert h3; decide +kernel
              have h4 := pw_lg _ hz2
              rw [h, ← Hlg.out, h4] at h2
              rw [h2]; unfold n8; simp; omega
            by_cases e3 : lg (BitVec.ofNat 8 j) < k
            · rw [if_pos e3, if_pos (by omega)]
            · rw [if_neg e3, if_neg (by omega)]
    · have em : Hid (k = 255) := Lib.hid (by omega)
      have HI : Hid (wr.heap[w1.heap.size]? = some (.cells (A8 256 fun j => ginv (BitVec.ofNat 8 j)) 5 (0, 0))) := Lib.hid (by
        rw [G]; congr 2
        refine A8_congr fun j hj => ?_
        by_cases hz : BitVec.ofNat 8 j = 0#8
        · rw [hz, ginv_zero]; split <;> rfl
        · rw [if_pos (by rw [em.out]; exact lg_lt _ hz)])
      have hb1 : Hid (Below w.heap.size w wr) := Lib.hid (b1.trans (hB.mono b1.size))
      have hgl : w1.heap.size < wr.heap.size := (Array.getElem?_eq_some_iff.1 G).1
      have hw1 := b1.size
      generalize w1.heap.size = h at *
      clear HG HB G hB Hcell
      go_upto_region 7 with fail
      go_cut [5, 6] (fun p q wx => ∃ g1 g2 : Nat, g1 ≠ g2 ∧ wr.heap.size ≤ g1 ∧ wr.heap.size ≤ g2 ∧ p = .slice (some ⟨g1, 0, none⟩) 256 256 ∧ q = .slice (some ⟨g2, 0, none⟩) 256 256
        ∧ wx.heap[g1]? = some (.cells (A8 256 fun _ => 0#8) 5 (0, 0)) ∧ wx.heap[g2]? = some (.cells (A8 256 fun _ => 0#8) 5 (0, 0)) ∧ Below wr.heap.size wr wx)
      case first =>
        have hmk := Hmk.out
        go_region
        all_goals
          go_wp2_with fail
          go_meet
          refine ⟨_, _, ?_, ?_, ?_, rfl, rfl, ?_, ?_, (((Below.refl _ _).alloc (Nat.le_refl _) _).alloc (by simp) _).drew⟩ <;> first | omega | exact heap_alloc2_old _ _ _ | exact heap_alloc2_new _ _ _
      case rest =>
        obtain ⟨g1, g2, n1, m1, m2, rfl, rfl, hg1, hg2, hB⟩ := hcut
        have HI2 : Hid (wc.heap[h]? = some (.cells (A8 256 fun j => ginv (BitVec.ofNat 8 j)) 5 (0, 0))) := Lib.hid ((hB.block _ hgl).trans HI.out)
        have hb2 : Hid (Below w.heap.size w wc) := Lib.hid (hb1.out.trans (hB.mono hb1.out.size))
        have hws := hb1.out.size
        have Hg1 := Lib.hid hg1
        have Hg2 := Lib.hid hg2
        clear Hmk hg1 hg2 hB
        have hh1 : h ≠ g1 := by omega
        have hh2 : h ≠ g2 := by omega
        go_wp2
        go_loopw [7] (fun i wr => ∃ k : Nat, k ≤ 256 ∧ i = .int .i64 k ∧ wr.heap[g1]? = some (.cells (A8 256 fun j => if j < k then sbox (BitVec.ofNat 8 j) else 0#8) 5 (0, 0))
          ∧ wr.heap[g2]? = some (.cells (A8 256 fun j => if (ibox (BitVec.ofNat 8 j)).toNat < k then ibox (BitVec.ofNat 8 j) else 0#8) 5 (0, 0))
          ∧ wr.heap[h]? = some (.cells (A8 256 fun j => ginv (BitVec.ofNat 8 j)) 5 (0, 0)) ∧ Below w.heap.size w wr) (fun i _ => 256 - (intOf i).toNat)
        case atStart => exact ⟨0, by omega, rfl, Hg1.out, Hg2.out, HI2.out, hb2.out⟩
        case round =>
          clear Hg1 Hg2 HI2 hb2 HI
          obtain ⟨a, ha, rfl, G1, G2, G3, hB⟩ := hrel
          have HG1 := Lib.hid G1
          have HG2 := Lib.hid G2
          have HG3 := Lib.hid G3
          have HB := Lib.hid hB
          by_cases hlt2 : a < 256
          · have hc := cell_of_row wr h a _ _ _ G3
            rw [A8_get _ _ _ hlt2] at hc
            generalize hcc : ginv (BitVec.ofNat 8 a) = cc at hc
            have Hcc := Lib.hid hcc
            have c0 := n8_lo cc
            have c1 := n8_hi cc
            clear hcc G1 G2 G3 hB
            go_wp2_with fail
            go_loop [9, 10] (fun s i => ∃ m : Nat, m ≤ 8 ∧ i = .int .i64 m ∧ s = .int .i64 (sAcc cc m : Int)) (fun _ i => 8 - (intOf i).toNat)
            case atStart => exact ⟨0, by omega, rfl, rfl⟩
            case round =>
              obtain ⟨m, hm, rfl, rfl⟩ := hrel
              by_cases hlt3 : m < 8
              · go_wp2_with fail
                go_loop [11, 12] (fun t i => ∃ q : Nat, q ≤ 4 ∧ i = .int .i64 ((q : Int) + 4) ∧ t = .int .i64 (ob (bitX cc m q))) (fun _ i => 8 - (intOf i).toNat)
                case atStart => exact ⟨0, by omega, rfl, rfl⟩
                case round =>
                  obtain ⟨q, hq, rfl, rfl⟩ := hrel
                  by_cases hlt4 : q < 4
                  · go_wp2
                    go_round
                    case rel => exact ⟨q + 1, by omega, by go_num, rfl⟩
                    case measure => simp only [intOf]; omega
                  · have em4 : Hid (bitX cc m q = bitX cc m 4) := Lib.hid (by rw [show q = 4 by omega])
                    have hacc := sAcc_lt cc m
                    have hp : 2 ^ m ≤ 2 ^ 7 := Nat.pow_le_pow_right (by decide) (by omega)
                    have hp0 : (0 : Int) ≤ (2 : Int) ^ m := Int.pow_nonneg (by decide)
                    have hp1 : (2 : Int) ^ m ≤ 128 := by exact_mod_cast hp
                    have ha2 : (sAcc cc m : Int) ≤ 127 := by omega
                    have hstep : sAcc cc (m + 1) = sAcc cc m + (if bitX cc m 4 then 2 ^ m else 0) := rfl
                    rw [← em4.out] at hstep
                    have Hstep := Lib.hid hstep
                    clear hstep em4 hacc hp
                    generalize bitX cc m q = bb at Hstep
                    generalize sAcc cc m = acc at ha2 Hstep
                    cases bb
                    · rw [show ob false = 0 from rfl]
                      go_wp2
                      go_round
                      case rel => exact ⟨m + 1, by omega, by go_num, by rw [Hstep.out]; simp⟩
                      case measure => simp only [intOf]; omega
                    · rw [show ob true = 1 from rfl]
                      go_wp2
                      go_round
                      case rel => exact ⟨m + 1, by omega, by go_num, by rw [Hstep.out]; simp⟩
                      case measure => simp only [intOf]; omega
              · have hs : (sAcc cc m : Int) = n8 (sboxOf cc ^^^ 99#8) := by rw [show m = 8 by omega, sAcc_is]; rfl
                rw [hs]
                have hx := zxor99 (sboxOf cc ^^^ 99#8)
                rw [BitVec.xor_assoc, BitVec.xor_self, BitVec.xor_zero] at hx
                have hsb : Hid (sboxOf cc = sbox (BitVec.ofNat 8 a)) := Lib.hid (by rw [← Hcc.out, sbox_is])
                generalize sboxOf cc ^^^ 99#8 = t at hx
                generalize sboxOf cc = s at hx hsb
                have s0 := n8_lo s
                have s1 := n8_hi s
                have d1 := cell_of_row wr g1 a _ _ _ HG1.out
                rw [A8_get _ _ _ hlt2] at d1
                generalize (if a < a then sbox (BitVec.ofNat 8 a) else 0#8) = q1 at d1
                have f1 := frozen_of_row wr g1 a _ _ HG1.out
                have d2 := cell_of_row wr g2 (n8 s).toNat _ _ _ HG2.out
                rw [A8_get _ _ _ (by omega)] at d2
                generalize (if (ibox (BitVec.ofNat 8 (n8 s).toNat)).toNat < a then ibox (BitVec.ofNat 8 (n8 s).toNat) else 0#8) = q2 at d2
                have f2 := frozen_of_row wr g2 (n8 s).toNat _ _ HG2.out
                clear hs
                go_wp2
                go_roundw
                case measure => simp only [intOf]; omega
                case rel =>
                  have hav : (a : Int) = n8 (BitVec.ofNat 8 a) := by simp [n8]; omega
                  refine ⟨a + 1, by omega, by go_num, ?_, ?_, ?_, (HB.out.setCell (show w.heap.size ≤ g1 by omega) _).setCell (show w.heap.size ≤ g2 by omega) _⟩
                  · rw [heap_setCell_other _ _ _ _ n1, heap_setCell_same _ _ _ _ _ _ HG1.out, A8_set]
                    congr 2
                    refine A8_congr fun j hj => ?_
                    by_cases e : j = a
                    · subst e; rw [if_pos rfl, if_pos (by omega), hsb.out]
                    · rw [if_neg e]
                      by_cases e2 : j < a
                      · rw [if_pos e2, if_pos (by omega)]
                      · rw [if_neg e2, if_neg (by omega)]
                  · rw [hav, heap_setCell_same _ _ _ _ _ _ ((heap_setCell_other _ _ _ _ n1.symm).trans HG2.out), A8_set]
                    congr 2
                    refine A8_congr fun j hj => ?_
                    have hk8 : (BitVec.ofNat 8 a).toNat = a := by simp; omega
                    by_cases e : j = (n8 s).toNat
                    · rw [if_pos e]
                      have e2 : BitVec.ofNat 8 j = s := by rw [e, ofNat_n8]
                      rw [e2, hsb.out, ibox_sbox, if_pos (by rw [hk8]; omega)]
                    · rw [if_neg e]
                      have e3 : (ibox (BitVec.ofNat 8 j)).toNat ≠ a := by
                        intro h
                        apply e
                        have h2 : ibox (BitVec.ofNat 8 j) = BitVec.ofNat 8 a := BitVec.eq_of_toNat_eq (by rw [h, hk8])
                        have h3 : BitVec.ofNat 8 j = s := by rw [hsb.out, ← h2, sbox_ibox]
                        rw [← h3]; unfold n8; simp; omega
                      by_cases e2 : (ibox (BitVec.ofNat 8 j)).toNat < a
                      · rw [if_pos e2, if_pos (by omega)]
                      · rw [if_neg e2, if_neg (by omega)]
                  · rw [heap_setCell_other _ _ _ _ hh2, heap_setCell_other _ _ _ _ hh1, HG3.out]
          · have em2 : Hid (a = 256) := Lib.hid (by omega)
            clear G1 G2 G3 hB
            go_wp2
            go_ret2
            refine ⟨g1, g2, rfl, ?_, ?_, HB.out, by omega, by omega⟩
            · rw [HG1.out]; congr 2; exact A8_congr fun j hj => if_pos (by rw [em2.out]; exact hj)
            · rw [HG2.out]; congr 2; exact A8_congr fun j hj => if_pos (by rw [em2.out]; exact (ibox _).isLt)

end Go.Proofs.Ytjfeggkjkdbkiaa
