import Derived.Test.YtikganlbnhapcaaRs1
import Derived.Test.YtikganlbnhapcaaCrcRef
import Derived.Test.YtikganlbnhapcaaSheet3
import Derived.Test.YtikganlbnhapcaaSheet5
namespace Go.Proofs.Ytikganlbnhapcaa
open Go.RowKit
set_option linter.unusedVariables false
set_option linter.unusedSimpArgs false
set_option maxRecDepth 20000
/-! the document's counting and checksum -/
def cntN (n : Int) : Nat := if n < 0 ∨ 65535 < n then 0 else chN (n.toNat + 6) 24
theorem cntN_pos (m : Nat) (h : m ≤ 65535) : cntN (m : Int) = chN (m + 6) 24 := by
  unfold cntN; rw [if_neg (by omega), Int.toNat_natCast]
set_option maxHeartbeats 4000000 in
theorem rcount_spec (n : Int) : Spec Try.prog 36 [.int .i64 n] (.k (.int .i64 (cntN n : Nat))) := by
  refine spec_of (fun _ => false) (by kernel_rfl) Try.func36 rfl rfl (by simp [Try.ntmps36]) (by decide) ?_
  intro δ
  rw [init1]
  by_cases h0 : n < 0
  · have e : cntN n = 0 := by unfold cntN; rw [if_pos (.inl h0)]
    rw [e]
    repeat (first | with_reducible (first | refine aWp_seq ?_ | refine seq_normal ?_ | refine seq_ret ?_ | refine seq_exit ?_ | refine blk_normal ?_ | refine blk_ret ?_ | refine blk_hit ?_ | refine blk_miss rfl ?_ | refine aWp_ret ?_ | refine aWp_skip ?_ | refine aWp_block ?_ | refine aWp_exit ?_ | refine end_ret ?_ | refine end_normal ?_) | ((refine rgA ?_); intro ν) | ((with_reducible apply cndT); exact rfl; (first | rfl | assumption)) | ((with_reducible apply cndF); exact rfl; (first | rfl | assumption)))
    (first | with_reducible refine end_r ?_ | with_reducible refine end_n ?_); refine en1 ?_
    rfl
  · by_cases h1 : 65535 < n
    · have e : cntN n = 0 := by unfold cntN; rw [if_pos (.inr h1)]
      rw [e]
      repeat (first | with_reducible (first | refine aWp_seq ?_ | refine seq_normal ?_ | refine seq_ret ?_ | refine seq_exit ?_ | refine blk_normal ?_ | refine blk_ret ?_ | refine blk_hit ?_ | refine blk_miss rfl ?_ | refine aWp_ret ?_ | refine aWp_skip ?_ | refine aWp_block ?_ | refine aWp_exit ?_ | refine end_ret ?_ | refine end_normal ?_) | ((refine rgA ?_); intro ν) | ((with_reducible apply cndT); exact rfl; (first | rfl | assumption)) | ((with_reducible apply cndF); exact rfl; (first | rfl | assumption)))
      (first | with_reducible refine end_r ?_ | with_reducible refine end_n ?_); refine en1 ?_
      rfl
    · obtain ⟨m, rfl⟩ : ∃ m : Nat, n = (m : Int) := ⟨n.toNat, by omega⟩
      rw [cntN_pos m (by omega)]
      obtain ⟨hN1, hN2⟩ := chN_bound (m + 6)
      have hN0 : 1 ≤ chN (m + 6) 24 := by omega
      generalize chN (m + 6) 24 = N at *
      repeat (first | with_reducible (first | refine aWp_seq ?_ | refine seq_normal ?_ | refine seq_ret ?_ | refine seq_exit ?_ | refine blk_normal ?_ | refine blk_ret ?_ | refine blk_hit ?_ | refine blk_miss rfl ?_ | refine aWp_ret ?_ | refine aWp_skip ?_ | refine aWp_block ?_ | refine aWp_exit ?_ | refine end_ret ?_ | refine end_normal ?_) | ((refine rgA ?_); intro ν) | ((with_reducible apply cndT); exact rfl; (first | rfl | assumption)) | ((with_reducible apply cndF); exact rfl; (first | rfl | assumption)))
      refine aWp_loop (fun q s => ∃ F T ν i, q = N - i ∧ 1 ≤ i ∧ i ≤ N ∧ s = ⟨F, T, ν, ⟨fun _ => false, δ, false⟩⟩ ∧ F 0 = .k (.int .i64 (m : Nat)) ∧ F 3 = .k (.int .i64 (i : Nat))) (N - 1) ⟨_, _, _, 1, rfl, Nat.le_refl _, hN0, rfl, rfl, rfl⟩ ?_
      rintro q s ⟨F, T, ν, i, rfl, hi1, hi, rfl, f0, f3⟩
      rw [has2 f0 f3]
      by_cases hlt : i < N
      · have hc : 24 * (i : Int) < (m : Int) + 6 := by omega
        repeat (first | with_reducible (first | refine aWp_seq ?_ | refine seq_normal ?_ | refine seq_ret ?_ | refine seq_exit ?_ | refine blk_normal ?_ | refine blk_ret ?_ | refine blk_hit ?_ | refine blk_miss rfl ?_ | refine aWp_ret ?_ | refine aWp_skip ?_ | refine aWp_block ?_ | refine aWp_exit ?_ | refine end_ret ?_ | refine end_normal ?_) | ((refine rgA ?_); intro ν) | ((with_reducible apply cndT); exact rfl; (first | rfl | assumption)) | ((with_reducible apply cndF); exact rfl; (first | rfl | assumption)))
        refine ⟨N - (i + 1), by omega, _, _, _, i + 1, rfl, by omega, by omega, rfl, rfl, ?_⟩
        show (SV.k (.int .i64 ((i : Int) + 1)) : SV) = _
        rw [Int.natCast_succ]
      · have hie : i = N := by omega
        subst hie
        have hc : ¬ 24 * (i : Int) < (m : Int) + 6 := by omega
        repeat (first | with_reducible (first | refine aWp_seq ?_ | refine seq_normal ?_ | refine seq_ret ?_ | refine seq_exit ?_ | refine blk_normal ?_ | refine blk_ret ?_ | refine blk_hit ?_ | refine blk_miss rfl ?_ | refine aWp_ret ?_ | refine aWp_skip ?_ | refine aWp_block ?_ | refine aWp_exit ?_ | refine end_ret ?_ | refine end_normal ?_) | ((refine rgA ?_); intro ν) | ((with_reducible apply cndT); exact rfl; (first | rfl | assumption)) | ((with_reducible apply cndF); exact rfl; (first | rfl | assumption)))
        (first | with_reducible refine end_r ?_ | with_reducible refine end_n ?_); refine en1 ?_
        rfl
theorem count_bad (n : Int) (h : n < 0 ∨ 65535 < n) : Spec Try.prog 35 [.int .i64 n] (.k (.int .i64 0)) := by
  refine spec_of (fun _ => false) (by kernel_rfl) Try.func35 rfl rfl (by simp [Try.ntmps35]) (by decide) ?_
  intro δ
  rw [init1]
  by_cases h0 : n < 0
  · repeat (first | with_reducible (first | refine aWp_seq ?_ | refine seq_normal ?_ | refine seq_ret ?_ | refine seq_exit ?_ | refine blk_normal ?_ | refine blk_ret ?_ | refine blk_hit ?_ | refine blk_miss rfl ?_ | refine aWp_ret ?_ | refine aWp_skip ?_ | refine aWp_block ?_ | refine aWp_exit ?_ | refine end_ret ?_ | refine end_normal ?_) | ((refine rgA ?_); intro ν) | ((with_reducible apply cndT); exact rfl; (first | rfl | assumption)) | ((with_reducible apply cndF); exact rfl; (first | rfl | assumption)))
    (first | with_reducible refine end_r ?_ | with_reducible refine end_n ?_); refine en1 ?_
    rfl
  · have h1 : 65535 < n := by omega
    repeat (first | with_reducible (first | refine aWp_seq ?_ | refine seq_normal ?_ | refine seq_ret ?_ | refine seq_exit ?_ | refine blk_normal ?_ | refine blk_ret ?_ | refine blk_hit ?_ | refine blk_miss rfl ?_ | refine aWp_ret ?_ | refine aWp_skip ?_ | refine aWp_block ?_ | refine aWp_exit ?_ | refine end_ret ?_ | refine end_normal ?_) | ((refine rgA ?_); intro ν) | ((with_reducible apply cndT); exact rfl; (first | rfl | assumption)) | ((with_reducible apply cndF); exact rfl; (first | rfl | assumption)))
    (first | with_reducible refine end_r ?_ | with_reducible refine end_n ?_); refine en1 ?_
    rfl
theorem countI_spec (n : Int) : Spec Try.prog 35 [.int .i64 n] (.k (.int .i64 (cntN n : Nat))) := by
  by_cases h : n < 0 ∨ 65535 < n
  · have e : cntN n = 0 := by unfold cntN; rw [if_pos h]
    rw [e]; exact count_bad n h
  · obtain ⟨m, rfl⟩ : ∃ m : Nat, n = (m : Int) := ⟨n.toNat, by omega⟩
    rw [cntN_pos m (by omega)]
    exact count_spec m (by omega)
theorem rmore_spec (full : Bool) (x : BitVec 32) (l : List UInt8) (hl : l.length ≤ 100000) : Spec Try.prog 67 [.int .u32 (n32 x), .sl full l.length (aOfBytes l)] (.k (.int .u32 (n32 (crcMore x (tb l))))) := by
  refine spec_calls ⟨_, Try.func67, rfl, rfl⟩ fun K w vs hk ha => ?_
  obtain ⟨u, v, rfl, gA, gB⟩ := args2 ha
  rw [kint_inv gA]
  refine (ref_more_calls x (tb l) v w (rd_of_k hk gB) (by rw [tb_len]; omega)).mono ?_
  rintro e w' ⟨rfl, b⟩
  exact ⟨_, rfl, b, .int _ _⟩
theorem crcI_two (a b : List UInt8) : crcI [a, b] = n32 (crcMore (crcMore 0#32 (tb a)) (tb b)) := rfl
theorem fb_drop (l : List (BitVec 8)) (k : Nat) : (fb l).drop k = fb (l.drop k) := by simp [fb, List.map_drop]
theorem lastB_eq (n : Int) : lastB n 4 = fb ((encI n).drop 4) := by
  have : pI [] n = fb (encI n) := by simp [pI, tb]
  rw [lastB, this, fb_drop]
theorem four_spec (n : Int) : Spec Try.prog 66 [.int .i64 n] (.k (.sl false 4 (aOfBytes (lastB n 4)))) := by
  refine spec_calls ⟨_, Try.func66, rfl, rfl⟩ fun K w vs hk ha => ?_
  obtain ⟨u, rfl, gA⟩ := args1 ha
  rw [kint_inv gA]
  refine (four_calls n w).mono ?_
  rintro e w' ⟨g, c, cur, rfl, k1, k2, k3, k4, k5, k6, bel⟩
  refine ⟨_, rfl, bel, ?_⟩
  have hl : (B8 ((encI n).drop 4)).length = 4 := by rw [B8_len, List.length_drop, encI_len]
  have hr : Rd w' (.slice (some ⟨g, 4, none⟩) 4 c) (B8 ((encI n).drop 4)) := by
    refine ⟨some ⟨g, 4, none⟩, c, by rw [hl], by omega, by unfold maxLen at k5; omega, .inr ⟨g, 4, rfl, fun i hi => ?_⟩⟩
    rw [cell_of_row w' g (4 + i) cur _ _ k2]
    have e1 : B8 ((encI n).drop 4) = (cur.toList.take 8).drop 4 := by rw [k6]; simp [B8, List.map_drop]
    rw [e1, List.getD_eq_getElem?_getD, List.getElem?_drop, List.getElem?_take, if_pos (by omega), Array.getElem?_toList]
    have : 4 + i < cur.size := by omega
    rw [Array.getElem?_eq_getElem this]; rfl
  have := k_of_rd (K := K) hr (N := w.heap.size) (fun a n' c' e' => by injection e' with e1 e2 e3; injection e1 with e1; rw [← e1]; exact k1)
  rw [← lastB_eq, lastB_len _ _ (by omega)] at this
  exact this
end Go.Proofs.Ytikganlbnhapcaa
