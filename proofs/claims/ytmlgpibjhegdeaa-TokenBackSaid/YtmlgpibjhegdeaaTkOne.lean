import Derived.Test.YtmlgpibjhegdeaaTkGood
namespace Go.Proofs.Ytmlgpibjhegdeaa
open Go.RowKit
set_option linter.unusedVariables false
set_option linter.unusedSimpArgs false
set_option maxRecDepth 20000
set_option maxHeartbeats 4000000 in
theorem clone_spec (full : Bool) (n : Nat) (cs : List AV) (h0 : 0 < n) (hl : cs.length = n) (hb : n ≤ 16777216) : Spec Try.prog 54 [.sl full n cs] (.k (.sl false n cs)) := by
  refine spec_of (fun t => t == 5 || t == 7) (by kernel_rfl) Try.func54 rfl rfl (by simp [Try.ntmps54]) (by decide) ?_
  intro δ
  rw [init1]
  repeat with_reducible (first | refine aWp_seq ?_ | refine seq_normal ?_ | refine seq_ret ?_ | refine seq_exit ?_ | refine blk_normal ?_ | refine blk_ret ?_ | refine blk_hit ?_ | refine blk_miss rfl ?_ | refine aWp_ret ?_ | refine aWp_skip ?_ | refine aWp_block ?_ | refine aWp_exit ?_ | refine end_ret ?_ | refine end_normal ?_)
  refine rg fun K hK => ?_
  repeat (first | ((with_reducible refine rf ?_ ?_); (with_reducible apply gf_); exact rfl; exact rfl; (first | rfl | assumption | (simp [*] <;> done))) | ((with_reducible refine rf0 ?_ ?_); (with_reducible apply gf_); exact rfl; exact rfl; (first | rfl | assumption | (simp [*] <;> done))) | ((first | with_reducible refine g0 ?_ | ((with_reducible refine g1 ?_ ?_); (with_reducible apply gt_); exact rfl; exact rfl; (first | rfl | assumption | (simp [*] <;> done)))); (with_reducible apply sd); exact det_))
  with_reducible refine rz ?_
  refine hK _ _ _ ?_
  clear hK K; intro ν
  repeat with_reducible (first | refine aWp_seq ?_ | refine seq_normal ?_ | refine seq_ret ?_ | refine seq_exit ?_ | refine blk_normal ?_ | refine blk_ret ?_ | refine blk_hit ?_ | refine blk_miss rfl ?_ | refine aWp_ret ?_ | refine aWp_skip ?_ | refine aWp_block ?_ | refine aWp_exit ?_ | refine end_ret ?_ | refine end_normal ?_)
  refine rg fun K hK => ?_
  repeat (first | ((with_reducible refine rf ?_ ?_); (with_reducible apply gf_); exact rfl; exact rfl; (first | rfl | assumption | (simp [*] <;> done))) | ((with_reducible refine rf0 ?_ ?_); (with_reducible apply gf_); exact rfl; exact rfl; (first | rfl | assumption | (simp [*] <;> done))) | ((first | with_reducible refine g0 ?_ | ((with_reducible refine g1 ?_ ?_); (with_reducible apply gt_); exact rfl; exact rfl; (first | rfl | assumption | (simp [*] <;> done)))); (with_reducible apply sd); exact det_))
  with_reducible refine rz ?_
  refine hK _ _ _ ?_
  clear hK K; intro ν
  repeat with_reducible (first | refine aWp_seq ?_ | refine seq_normal ?_ | refine seq_ret ?_ | refine seq_exit ?_ | refine blk_normal ?_ | refine blk_ret ?_ | refine blk_hit ?_ | refine blk_miss rfl ?_ | refine aWp_ret ?_ | refine aWp_skip ?_ | refine aWp_block ?_ | refine aWp_exit ?_ | refine end_ret ?_ | refine end_normal ?_)
  (with_reducible apply cndF); exact rfl; (first | rfl | assumption | (simp [*] <;> done))
  repeat with_reducible (first | refine aWp_seq ?_ | refine seq_normal ?_ | refine seq_ret ?_ | refine seq_exit ?_ | refine blk_normal ?_ | refine blk_ret ?_ | refine blk_hit ?_ | refine blk_miss rfl ?_ | refine aWp_ret ?_ | refine aWp_skip ?_ | refine aWp_block ?_ | refine aWp_exit ?_ | refine end_ret ?_ | refine end_normal ?_)
  refine rg fun K hK => ?_
  repeat (first | ((with_reducible refine rf ?_ ?_); (with_reducible apply gf_); exact rfl; exact rfl; (first | rfl | assumption | (simp [*] <;> done))) | ((with_reducible refine rf0 ?_ ?_); (with_reducible apply gf_); exact rfl; exact rfl; (first | rfl | assumption | (simp [*] <;> done))) | ((first | with_reducible refine g0 ?_ | ((with_reducible refine g1 ?_ ?_); (with_reducible apply gt_); exact rfl; exact rfl; (first | rfl | assumption | (simp [*] <;> done)))); (with_reducible apply sd); exact det_))
  with_reducible refine rz ?_
  refine hK _ _ _ ?_
  clear hK K; intro ν
  repeat with_reducible (first | refine aWp_seq ?_ | refine seq_normal ?_ | refine seq_ret ?_ | refine seq_exit ?_ | refine blk_normal ?_ | refine blk_ret ?_ | refine blk_hit ?_ | refine blk_miss rfl ?_ | refine aWp_ret ?_ | refine aWp_skip ?_ | refine aWp_block ?_ | refine aWp_exit ?_ | refine end_ret ?_ | refine end_normal ?_)
  (first | with_reducible refine end_r ?_ | with_reducible refine end_n ?_); (with_reducible apply end1); exact rfl; exact rfl; (exact arg_)
  rw [List.take_of_length_le (by omega)]
def tokZ : List AV := [.sl true 0 [], .int .i64 0, .int .i64 0]
def tokOne : List UInt8 → List AV × Int
  | [] => (tokZ, 0)
  | b0 :: l => if b0.toNat < 128 then
      if b0.toNat + 1 ≤ l.length then ([.sl false (b0.toNat + 1) (aOfBytes (l.take (b0.toNat + 1))), .int .i64 0, .int .i64 0], (b0.toNat : Int) + 2) else (tokZ, 0)
    else match l with
      | b1 :: b2 :: _ => if goodB 0 ((b0.toNat : Int) - 125) (1 + (b1.toNat : Int) * 256 + (b2.toNat : Int)) = true then ([.sl true 0 [], .int .i64 ((b0.toNat : Int) - 125), .int .i64 (1 + (b1.toNat : Int) * 256 + (b2.toNat : Int))], 3) else (tokZ, 0)
      | _ => (tokZ, 0)
theorem aOfBytes_cons (b : UInt8) (l : List UInt8) : aOfBytes (b :: l) = .int .u8 (b.toNat : Int) :: aOfBytes l := rfl
theorem aOfBytes_len (l : List UInt8) : (aOfBytes l).length = l.length := by simp [aOfBytes]
set_option maxHeartbeats 4000000 in
theorem one_spec (full : Bool) (l : List UInt8) (hn : l ≠ []) (hb : l.length ≤ 16777216) : Spec Try.prog 49 [.sl full l.length (aOfBytes l)] (.k (.tup [.agg (tokOne l).1, .int .i64 (tokOne l).2])) := by
  refine spec_of (fun _ => false) (by kernel_rfl) Try.func49 rfl rfl (by simp [Try.ntmps49]) (by decide) ?_
  intro δ
  rw [init1]
  obtain ⟨b0, l, rfl⟩ := List.exists_cons_of_ne_nil hn
  have hb0 := b0.toNat_lt
  have hlen := aOfBytes_len l
  simp only [List.length_cons] at hb
  rw [aOfBytes_cons, List.length_cons]
  repeat with_reducible (first | refine aWp_seq ?_ | refine seq_normal ?_ | refine seq_ret ?_ | refine seq_exit ?_ | refine blk_normal ?_ | refine blk_ret ?_ | refine blk_hit ?_ | refine blk_miss rfl ?_ | refine aWp_ret ?_ | refine aWp_skip ?_ | refine aWp_block ?_ | refine aWp_exit ?_ | refine end_ret ?_ | refine end_normal ?_)
  refine rg fun K hK => ?_
  repeat (first | ((with_reducible refine rf ?_ ?_); (with_reducible apply gf_); exact rfl; exact rfl; (first | rfl | assumption | (simp [*] <;> done))) | ((with_reducible refine rf0 ?_ ?_); (with_reducible apply gf_); exact rfl; exact rfl; (first | rfl | assumption | (simp [*] <;> done))) | ((first | with_reducible refine g0 ?_ | ((with_reducible refine g1 ?_ ?_); (with_reducible apply gt_); exact rfl; exact rfl; (first | rfl | assumption | (simp [*] <;> done)))); (with_reducible apply sd); exact det_))
  with_reducible refine rz ?_
  refine hK _ _ _ ?_
  clear hK K; intro ν
  repeat with_reducible (first | refine aWp_seq ?_ | refine seq_normal ?_ | refine seq_ret ?_ | refine seq_exit ?_ | refine blk_normal ?_ | refine blk_ret ?_ | refine blk_hit ?_ | refine blk_miss rfl ?_ | refine aWp_ret ?_ | refine aWp_skip ?_ | refine aWp_block ?_ | refine aWp_exit ?_ | refine end_ret ?_ | refine end_normal ?_)
  refine rg fun K hK => ?_
  repeat (first | ((with_reducible refine rf ?_ ?_); (with_reducible apply gf_); exact rfl; exact rfl; (first | rfl | assumption | (simp [*] <;> done))) | ((with_reducible refine rf0 ?_ ?_); (with_reducible apply gf_); exact rfl; exact rfl; (first | rfl | assumption | (simp [*] <;> done))) | ((first | with_reducible refine g0 ?_ | ((with_reducible refine g1 ?_ ?_); (with_reducible apply gt_); exact rfl; exact rfl; (first | rfl | assumption | (simp [*] <;> done)))); (with_reducible apply sd); exact det_))
  with_reducible refine rz ?_
  refine hK _ _ _ ?_
  clear hK K; intro ν
  repeat with_reducible (first | refine aWp_seq ?_ | refine seq_normal ?_ | refine seq_ret ?_ | refine seq_exit ?_ | refine blk_normal ?_ | refine blk_ret ?_ | refine blk_hit ?_ | refine blk_miss rfl ?_ | refine aWp_ret ?_ | refine aWp_skip ?_ | refine aWp_block ?_ | refine aWp_exit ?_ | refine end_ret ?_ | refine end_normal ?_)
  refine rg fun K hK => ?_
  repeat (first | ((with_reducible refine rf ?_ ?_); (with_reducible apply gf_); exact rfl; exact rfl; (first | rfl | assumption | (simp [*] <;> done))) | ((with_reducible refine rf0 ?_ ?_); (with_reducible apply gf_); exact rfl; exact rfl; (first | rfl | assumption | (simp [*] <;> done))) | ((first | with_reducible refine g0 ?_ | ((with_reducible refine g1 ?_ ?_); (with_reducible apply gt_); exact rfl; exact rfl; (first | rfl | assumption | (simp [*] <;> done)))); (with_reducible apply sd); exact det_))
  with_reducible refine rz ?_
  refine hK _ _ _ ?_
  clear hK K; intro ν
  repeat with_reducible (first | refine aWp_seq ?_ | refine seq_normal ?_ | refine seq_ret ?_ | refine seq_exit ?_ | refine blk_normal ?_ | refine blk_ret ?_ | refine blk_hit ?_ | refine blk_miss rfl ?_ | refine aWp_ret ?_ | refine aWp_skip ?_ | refine aWp_block ?_ | refine aWp_exit ?_ | refine end_ret ?_ | refine end_normal ?_)
  by_cases h1 : b0.toNat < 128
  · refine rg fun K hK => ?_
    repeat (first | ((with_reducible refine rf ?_ ?_); (with_reducible apply gf_); exact rfl; exact rfl; (first | rfl | assumption | (simp [*] <;> done))) | ((with_reducible refine rf0 ?_ ?_); (with_reducible apply gf_); exact rfl; exact rfl; (first | rfl | assumption | (simp [*] <;> done))) | ((first | with_reducible refine g0 ?_ | ((with_reducible refine g1 ?_ ?_); (with_reducible apply gt_); exact rfl; exact rfl; (first | rfl | assumption | (simp [*] <;> done)))); (with_reducible apply sd); exact det_))
    with_reducible refine rz ?_
    refine hK _ _ _ ?_
    clear hK K; intro ν
    repeat with_reducible (first | refine aWp_seq ?_ | refine seq_normal ?_ | refine seq_ret ?_ | refine seq_exit ?_ | refine blk_normal ?_ | refine blk_ret ?_ | refine blk_hit ?_ | refine blk_miss rfl ?_ | refine aWp_ret ?_ | refine aWp_skip ?_ | refine aWp_block ?_ | refine aWp_exit ?_ | refine end_ret ?_ | refine end_normal ?_)
    (with_reducible apply cndT); exact rfl; (first | rfl | assumption | (simp [*] <;> done))
    repeat with_reducible (first | refine aWp_seq ?_ | refine seq_normal ?_ | refine seq_ret ?_ | refine seq_exit ?_ | refine blk_normal ?_ | refine blk_ret ?_ | refine blk_hit ?_ | refine blk_miss rfl ?_ | refine aWp_ret ?_ | refine aWp_skip ?_ | refine aWp_block ?_ | refine aWp_exit ?_ | refine end_ret ?_ | refine end_normal ?_)
    refine rg fun K hK => ?_
    repeat (first | ((with_reducible refine rf ?_ ?_); (with_reducible apply gf_); exact rfl; exact rfl; (first | rfl | assumption | (simp [*] <;> done))) | ((with_reducible refine rf0 ?_ ?_); (with_reducible apply gf_); exact rfl; exact rfl; (first | rfl | assumption | (simp [*] <;> done))) | ((first | with_reducible refine g0 ?_ | ((with_reducible refine g1 ?_ ?_); (with_reducible apply gt_); exact rfl; exact rfl; (first | rfl | assumption | (simp [*] <;> done)))); (with_reducible apply sd); exact det_))
    with_reducible refine rz ?_
    refine hK _ _ _ ?_
    clear hK K; intro ν
    repeat with_reducible (first | refine aWp_seq ?_ | refine seq_normal ?_ | refine seq_ret ?_ | refine seq_exit ?_ | refine blk_normal ?_ | refine blk_ret ?_ | refine blk_hit ?_ | refine blk_miss rfl ?_ | refine aWp_ret ?_ | refine aWp_skip ?_ | refine aWp_block ?_ | refine aWp_exit ?_ | refine end_ret ?_ | refine end_normal ?_)
    by_cases h2 : b0.toNat + 1 ≤ l.length
    · refine rg fun K hK => ?_
      repeat (first | ((with_reducible refine rf ?_ ?_); (with_reducible apply gf_); exact rfl; exact rfl; (first | rfl | assumption | (simp [*] <;> done))) | ((with_reducible refine rf0 ?_ ?_); (with_reducible apply gf_); exact rfl; exact rfl; (first | rfl | assumption | (simp [*] <;> done))) | ((first | with_reducible refine g0 ?_ | ((with_reducible refine g1 ?_ ?_); (with_reducible apply gt_); exact rfl; exact rfl; (first | rfl | assumption | (simp [*] <;> done)))); (with_reducible apply sd); exact det_))
      with_reducible refine rz ?_
      refine hK _ _ _ ?_
      clear hK K; intro ν
      repeat with_reducible (first | refine aWp_seq ?_ | refine seq_normal ?_ | refine seq_ret ?_ | refine seq_exit ?_ | refine blk_normal ?_ | refine blk_ret ?_ | refine blk_hit ?_ | refine blk_miss rfl ?_ | refine aWp_ret ?_ | refine aWp_skip ?_ | refine aWp_block ?_ | refine aWp_exit ?_ | refine end_ret ?_ | refine end_normal ?_)
      (with_reducible apply cndF); exact rfl; (first | rfl | assumption | (simp [*] <;> done))
      repeat with_reducible (first | refine aWp_seq ?_ | refine seq_normal ?_ | refine seq_ret ?_ | refine seq_exit ?_ | refine blk_normal ?_ | refine blk_ret ?_ | refine blk_hit ?_ | refine blk_miss rfl ?_ | refine aWp_ret ?_ | refine aWp_skip ?_ | refine aWp_block ?_ | refine aWp_exit ?_ | refine end_ret ?_ | refine end_normal ?_)
      refine rg fun K hK => ?_
      repeat (first | ((with_reducible refine rf ?_ ?_); (with_reducible apply gf_); exact rfl; exact rfl; (first | rfl | assumption | (simp [*] <;> done))) | ((with_reducible refine rf0 ?_ ?_); (with_reducible apply gf_); exact rfl; exact rfl; (first | rfl | assumption | (simp [*] <;> done))) | ((first | with_reducible refine g0 ?_ | ((with_reducible refine g1 ?_ ?_); (with_reducible apply gt_); exact rfl; exact rfl; (first | rfl | assumption | (simp [*] <;> done)))); (with_reducible apply sd); exact det_))
      with_reducible refine rz ?_
      refine hK _ _ _ ?_
      clear hK K; intro ν
      repeat with_reducible (first | refine aWp_seq ?_ | refine seq_normal ?_ | refine seq_ret ?_ | refine seq_exit ?_ | refine blk_normal ?_ | refine blk_ret ?_ | refine blk_hit ?_ | refine blk_miss rfl ?_ | refine aWp_ret ?_ | refine aWp_skip ?_ | refine aWp_block ?_ | refine aWp_exit ?_ | refine end_ret ?_ | refine end_normal ?_)
      (with_reducible apply cndT); exact rfl; (first | rfl | assumption | (simp [*] <;> done))
      repeat with_reducible (first | refine aWp_seq ?_ | refine seq_normal ?_ | refine seq_ret ?_ | refine seq_exit ?_ | refine blk_normal ?_ | refine blk_ret ?_ | refine blk_hit ?_ | refine blk_miss rfl ?_ | refine aWp_ret ?_ | refine aWp_skip ?_ | refine aWp_block ?_ | refine aWp_exit ?_ | refine end_ret ?_ | refine end_normal ?_)
      have hz1 : ((b0.toNat : Int) + 2).toNat = b0.toNat + 2 := by omega
      have hz2 : b0.toNat + 2 - 1 = b0.toNat + 1 := by omega
      refine rg fun K hK => ?_
      refine stA ?_
      (first | with_reducible refine g0 ?_ | ((with_reducible refine g1 ?_ ?_); (with_reducible apply gt_); exact rfl; exact rfl; (first | rfl | assumption | (simp [*] <;> done)))); refine scA (h2 := (clone_spec _ _ _ (by omega) (by simp only [List.length_drop, List.length_take, List.length_cons, hlen]; omega) (by omega))) (hk := ?_)
      refine stA ?_
      with_reducible refine rz ?_
      refine hK _ _ _ ?_
      clear hK K; intro ν
      repeat with_reducible (first | refine aWp_seq ?_ | refine seq_normal ?_ | refine seq_ret ?_ | refine seq_exit ?_ | refine blk_normal ?_ | refine blk_ret ?_ | refine blk_hit ?_ | refine blk_miss rfl ?_ | refine aWp_ret ?_ | refine aWp_skip ?_ | refine aWp_block ?_ | refine aWp_exit ?_ | refine end_ret ?_ | refine end_normal ?_)
      (first | with_reducible refine end_r ?_ | with_reducible refine end_n ?_); (with_reducible apply end2c); exact rfl; exact rfl; ((with_reducible apply loadC); exact rfl; exact rfl; exact tiX rfl; (exact w_LD); (exact w_OW)); (exact arg_)
      simp only [tokOne, if_pos h1, if_pos h2, aOfBytes, List.map_take, hz1, hz2, List.take_succ_cons, List.drop_succ_cons, List.drop_zero]
    · refine rg fun K hK => ?_
      repeat (first | ((with_reducible refine rf ?_ ?_); (with_reducible apply gf_); exact rfl; exact rfl; (first | rfl | assumption | (simp [*] <;> done))) | ((with_reducible refine rf0 ?_ ?_); (with_reducible apply gf_); exact rfl; exact rfl; (first | rfl | assumption | (simp [*] <;> done))) | ((first | with_reducible refine g0 ?_ | ((with_reducible refine g1 ?_ ?_); (with_reducible apply gt_); exact rfl; exact rfl; (first | rfl | assumption | (simp [*] <;> done)))); (with_reducible apply sd); exact det_))
      with_reducible refine rz ?_
      refine hK _ _ _ ?_
      clear hK K; intro ν
      repeat with_reducible (first | refine aWp_seq ?_ | refine seq_normal ?_ | refine seq_ret ?_ | refine seq_exit ?_ | refine blk_normal ?_ | refine blk_ret ?_ | refine blk_hit ?_ | refine blk_miss rfl ?_ | refine aWp_ret ?_ | refine aWp_skip ?_ | refine aWp_block ?_ | refine aWp_exit ?_ | refine end_ret ?_ | refine end_normal ?_)
      (with_reducible apply cndT); exact rfl; (first | rfl | assumption | (simp [*] <;> done))
      repeat with_reducible (first | refine aWp_seq ?_ | refine seq_normal ?_ | refine seq_ret ?_ | refine seq_exit ?_ | refine blk_normal ?_ | refine blk_ret ?_ | refine blk_hit ?_ | refine blk_miss rfl ?_ | refine aWp_ret ?_ | refine aWp_skip ?_ | refine aWp_block ?_ | refine aWp_exit ?_ | refine end_ret ?_ | refine end_normal ?_)
      refine rg fun K hK => ?_
      repeat (first | ((with_reducible refine rf ?_ ?_); (with_reducible apply gf_); exact rfl; exact rfl; (first | rfl | assumption | (simp [*] <;> done))) | ((with_reducible refine rf0 ?_ ?_); (with_reducible apply gf_); exact rfl; exact rfl; (first | rfl | assumption | (simp [*] <;> done))) | ((first | with_reducible refine g0 ?_ | ((with_reducible refine g1 ?_ ?_); (with_reducible apply gt_); exact rfl; exact rfl; (first | rfl | assumption | (simp [*] <;> done)))); (with_reducible apply sd); exact det_))
      with_reducible refine rz ?_
      refine hK _ _ _ ?_
      clear hK K; intro ν
      repeat with_reducible (first | refine aWp_seq ?_ | refine seq_normal ?_ | refine seq_ret ?_ | refine seq_exit ?_ | refine blk_normal ?_ | refine blk_ret ?_ | refine blk_hit ?_ | refine blk_miss rfl ?_ | refine aWp_ret ?_ | refine aWp_skip ?_ | refine aWp_block ?_ | refine aWp_exit ?_ | refine end_ret ?_ | refine end_normal ?_)
      (first | with_reducible refine end_r ?_ | with_reducible refine end_n ?_); (with_reducible apply end2c); exact rfl; exact rfl; ((with_reducible apply loadC); exact rfl; exact rfl; exact tiX rfl; (exact w_LD); (exact w_OW)); (exact arg_)
      simp only [tokOne, if_pos h1, if_neg h2, tokZ]
  · refine rg fun K hK => ?_
    repeat (first | ((with_reducible refine rf ?_ ?_); (with_reducible apply gf_); exact rfl; exact rfl; (first | rfl | assumption | (simp [*] <;> done))) | ((with_reducible refine rf0 ?_ ?_); (with_reducible apply gf_); exact rfl; exact rfl; (first | rfl | assumption | (simp [*] <;> done))) | ((first | with_reducible refine g0 ?_ | ((with_reducible refine g1 ?_ ?_); (with_reducible apply gt_); exact rfl; exact rfl; (first | rfl | assumption | (simp [*] <;> done)))); (with_reducible apply sd); exact det_))
    with_reducible refine rz ?_
    refine hK _ _ _ ?_
    clear hK K; intro ν
    repeat with_reducible (first | refine aWp_seq ?_ | refine seq_normal ?_ | refine seq_ret ?_ | refine seq_exit ?_ | refine blk_normal ?_ | refine blk_ret ?_ | refine blk_hit ?_ | refine blk_miss rfl ?_ | refine aWp_ret ?_ | refine aWp_skip ?_ | refine aWp_block ?_ | refine aWp_exit ?_ | refine end_ret ?_ | refine end_normal ?_)
    (with_reducible apply cndF); exact rfl; (first | rfl | assumption | (simp [*] <;> done))
    repeat with_reducible (first | refine aWp_seq ?_ | refine seq_normal ?_ | refine seq_ret ?_ | refine seq_exit ?_ | refine blk_normal ?_ | refine blk_ret ?_ | refine blk_hit ?_ | refine blk_miss rfl ?_ | refine aWp_ret ?_ | refine aWp_skip ?_ | refine aWp_block ?_ | refine aWp_exit ?_ | refine end_ret ?_ | refine end_normal ?_)
    by_cases h2 : 2 ≤ l.length
    · obtain ⟨b1, b2, l, rfl⟩ : ∃ b1 b2 l', l = b1 :: b2 :: l' := by
        match l, h2 with
        | b1 :: b2 :: l', _ => exact ⟨b1, b2, l', rfl⟩
      have hb1 := b1.toNat_lt
      have hb2 := b2.toNat_lt
      have hlen3 := aOfBytes_len l
      rw [aOfBytes_cons, aOfBytes_cons]
      simp only [List.length_cons] at hb hlen ⊢
      refine rg fun K hK => ?_
      repeat (first | ((with_reducible refine rf ?_ ?_); (with_reducible apply gf_); exact rfl; exact rfl; (first | rfl | assumption | (simp [*] <;> done))) | ((with_reducible refine rf0 ?_ ?_); (with_reducible apply gf_); exact rfl; exact rfl; (first | rfl | assumption | (simp [*] <;> done))) | ((first | with_reducible refine g0 ?_ | ((with_reducible refine g1 ?_ ?_); (with_reducible apply gt_); exact rfl; exact rfl; (first | rfl | assumption | (simp [*] <;> done)))); (with_reducible apply sd); exact det_))
      with_reducible refine rz ?_
      refine hK _ _ _ ?_
      clear hK K; intro ν
      repeat with_reducible (first | refine aWp_seq ?_ | refine seq_normal ?_ | refine seq_ret ?_ | refine seq_exit ?_ | refine blk_normal ?_ | refine blk_ret ?_ | refine blk_hit ?_ | refine blk_miss rfl ?_ | refine aWp_ret ?_ | refine aWp_skip ?_ | refine aWp_block ?_ | refine aWp_exit ?_ | refine end_ret ?_ | refine end_normal ?_)
      (with_reducible apply cndF); exact rfl; (first | rfl | assumption | (simp [*] <;> done))
      repeat with_reducible (first | refine aWp_seq ?_ | refine seq_normal ?_ | refine seq_ret ?_ | refine seq_exit ?_ | refine blk_normal ?_ | refine blk_ret ?_ | refine blk_hit ?_ | refine blk_miss rfl ?_ | refine aWp_ret ?_ | refine aWp_skip ?_ | refine aWp_block ?_ | refine aWp_exit ?_ | refine end_ret ?_ | refine end_normal ?_)
      refine rg fun K hK => ?_
      repeat (first | ((with_reducible refine rf ?_ ?_); (with_reducible apply gf_); exact rfl; exact rfl; (first | rfl | assumption | (simp [*] <;> done))) | ((with_reducible refine rf0 ?_ ?_); (with_reducible apply gf_); exact rfl; exact rfl; (first | rfl | assumption | (simp [*] <;> done))) | ((first | with_reducible refine g0 ?_ | ((with_reducible refine g1 ?_ ?_); (with_reducible apply gt_); exact rfl; exact rfl; (first | rfl | assumption | (simp [*] <;> done)))); (with_reducible apply sd); exact det_))
      with_reducible refine rz ?_
      refine hK _ _ _ ?_
      clear hK K; intro ν
      repeat with_reducible (first | refine aWp_seq ?_ | refine seq_normal ?_ | refine seq_ret ?_ | refine seq_exit ?_ | refine blk_normal ?_ | refine blk_ret ?_ | refine blk_hit ?_ | refine blk_miss rfl ?_ | refine aWp_ret ?_ | refine aWp_skip ?_ | refine aWp_block ?_ | refine aWp_exit ?_ | refine end_ret ?_ | refine end_normal ?_)
      (with_reducible apply cndF); exact rfl; (first | rfl | assumption | (simp [*] <;> done))
      repeat with_reducible (first | refine aWp_seq ?_ | refine seq_normal ?_ | refine seq_ret ?_ | refine seq_exit ?_ | refine blk_normal ?_ | refine blk_ret ?_ | refine blk_hit ?_ | refine blk_miss rfl ?_ | refine aWp_ret ?_ | refine aWp_skip ?_ | refine aWp_block ?_ | refine aWp_exit ?_ | refine end_ret ?_ | refine end_normal ?_)
      refine rgx [(15, [6], [6])] (by kernel_rfl) fun K hK => ?_
      repeat (first | ((with_reducible refine xf ?_ ?_ ?_); exact rfl; (with_reducible apply gf_); exact rfl; exact rfl; (first | rfl | assumption | (simp [*] <;> done))) | ((with_reducible refine xf0 ?_ ?_ ?_); exact rfl; (with_reducible apply gf_); exact rfl; exact rfl; (first | rfl | assumption | (simp [*] <;> done))) | ((first | ((with_reducible refine x0 ?_ ?_); exact rfl) | ((with_reducible refine x1 ?_ ?_ ?_); exact rfl; (with_reducible apply gt_); exact rfl; exact rfl; (first | rfl | assumption | (simp [*] <;> done)))); (with_reducible apply xd); exact det_))
      with_reducible refine xz ?_
      refine hK _ _ _ ?_
      clear hK K; intro ν
      repeat with_reducible (first | refine aWp_seq ?_ | refine seq_normal ?_ | refine seq_ret ?_ | refine seq_exit ?_ | refine blk_normal ?_ | refine blk_ret ?_ | refine blk_hit ?_ | refine blk_miss rfl ?_ | refine aWp_ret ?_ | refine aWp_skip ?_ | refine aWp_block ?_ | refine aWp_exit ?_ | refine end_ret ?_ | refine end_normal ?_)
      refine rg fun K hK => ?_
      repeat (first | ((with_reducible refine rf ?_ ?_); (with_reducible apply gf_); exact rfl; exact rfl; (first | rfl | assumption | (simp [*] <;> done))) | ((with_reducible refine rf0 ?_ ?_); (with_reducible apply gf_); exact rfl; exact rfl; (first | rfl | assumption | (simp [*] <;> done))) | ((first | with_reducible refine g0 ?_ | ((with_reducible refine g1 ?_ ?_); (with_reducible apply gt_); exact rfl; exact rfl; (first | rfl | assumption | (simp [*] <;> done)))); (with_reducible apply sd); exact det_))
      ((first | with_reducible refine g0 ?_ | ((with_reducible refine g1 ?_ ?_); (with_reducible apply gt_); exact rfl; exact rfl; (first | rfl | assumption | (simp [*] <;> done)))); (with_reducible apply sc); (repeat (first | exact args_nil | ((apply args_cons); (exact arg_)))); exact (good_spec _ _ _ _ _); (first | exact .inr rfl | exact .inl rfl); (first | exact res_k | exact res_k0 | ((with_reducible apply res_ow); exact w_MD) | ((with_reducible apply res_os); exact w_MD; exact w_LEN)))
      repeat (first | ((with_reducible refine rf ?_ ?_); (with_reducible apply gf_); exact rfl; exact rfl; (first | rfl | assumption | (simp [*] <;> done))) | ((with_reducible refine rf0 ?_ ?_); (with_reducible apply gf_); exact rfl; exact rfl; (first | rfl | assumption | (simp [*] <;> done))) | ((first | with_reducible refine g0 ?_ | ((with_reducible refine g1 ?_ ?_); (with_reducible apply gt_); exact rfl; exact rfl; (first | rfl | assumption | (simp [*] <;> done)))); (with_reducible apply sd); exact det_))
      with_reducible refine rz ?_
      refine hK _ _ _ ?_
      clear hK K; intro ν
      repeat with_reducible (first | refine aWp_seq ?_ | refine seq_normal ?_ | refine seq_ret ?_ | refine seq_exit ?_ | refine blk_normal ?_ | refine blk_ret ?_ | refine blk_hit ?_ | refine blk_miss rfl ?_ | refine aWp_ret ?_ | refine aWp_skip ?_ | refine aWp_block ?_ | refine aWp_exit ?_ | refine end_ret ?_ | refine end_normal ?_)
      by_cases hg : goodB 0 ((b0.toNat : Int) - 125) (1 + (b1.toNat : Int) * 256 + (b2.toNat : Int)) = true
      · (with_reducible apply cndF); exact rfl; (first | rfl | assumption | (simp [*] <;> done))
        repeat with_reducible (first | refine aWp_seq ?_ | refine seq_normal ?_ | refine seq_ret ?_ | refine seq_exit ?_ | refine blk_normal ?_ | refine blk_ret ?_ | refine blk_hit ?_ | refine blk_miss rfl ?_ | refine aWp_ret ?_ | refine aWp_skip ?_ | refine aWp_block ?_ | refine aWp_exit ?_ | refine end_ret ?_ | refine end_normal ?_)
        refine rg fun K hK => ?_
        repeat (first | ((with_reducible refine rf ?_ ?_); (with_reducible apply gf_); exact rfl; exact rfl; (first | rfl | assumption | (simp [*] <;> done))) | ((with_reducible refine rf0 ?_ ?_); (with_reducible apply gf_); exact rfl; exact rfl; (first | rfl | assumption | (simp [*] <;> done))) | ((first | with_reducible refine g0 ?_ | ((with_reducible refine g1 ?_ ?_); (with_reducible apply gt_); exact rfl; exact rfl; (first | rfl | assumption | (simp [*] <;> done)))); (with_reducible apply sd); exact det_))
        with_reducible refine rz ?_
        refine hK _ _ _ ?_
        clear hK K; intro ν
        repeat with_reducible (first | refine aWp_seq ?_ | refine seq_normal ?_ | refine seq_ret ?_ | refine seq_exit ?_ | refine blk_normal ?_ | refine blk_ret ?_ | refine blk_hit ?_ | refine blk_miss rfl ?_ | refine aWp_ret ?_ | refine aWp_skip ?_ | refine aWp_block ?_ | refine aWp_exit ?_ | refine end_ret ?_ | refine end_normal ?_)
        (first | with_reducible refine end_r ?_ | with_reducible refine end_n ?_); (with_reducible apply end2c); exact rfl; exact rfl; ((with_reducible apply loadC); exact rfl; exact rfl; exact tiX rfl; (exact w_LD); (exact w_OW)); (exact arg_)
        simp only [tokOne, if_neg h1, if_pos hg]
      · (with_reducible apply cndT); exact rfl; (first | rfl | assumption | (simp [*] <;> done))
        repeat with_reducible (first | refine aWp_seq ?_ | refine seq_normal ?_ | refine seq_ret ?_ | refine seq_exit ?_ | refine blk_normal ?_ | refine blk_ret ?_ | refine blk_hit ?_ | refine blk_miss rfl ?_ | refine aWp_ret ?_ | refine aWp_skip ?_ | refine aWp_block ?_ | refine aWp_exit ?_ | refine end_ret ?_ | refine end_normal ?_)
        refine rg fun K hK => ?_
        repeat (first | ((with_reducible refine rf ?_ ?_); (with_reducible apply gf_); exact rfl; exact rfl; (first | rfl | assumption | (simp [*] <;> done))) | ((with_reducible refine rf0 ?_ ?_); (with_reducible apply gf_); exact rfl; exact rfl; (first | rfl | assumption | (simp [*] <;> done))) | ((first | with_reducible refine g0 ?_ | ((with_reducible refine g1 ?_ ?_); (with_reducible apply gt_); exact rfl; exact rfl; (first | rfl | assumption | (simp [*] <;> done)))); (with_reducible apply sd); exact det_))
        with_reducible refine rz ?_
        refine hK _ _ _ ?_
        clear hK K; intro ν
        repeat with_reducible (first | refine aWp_seq ?_ | refine seq_normal ?_ | refine seq_ret ?_ | refine seq_exit ?_ | refine blk_normal ?_ | refine blk_ret ?_ | refine blk_hit ?_ | refine blk_miss rfl ?_ | refine aWp_ret ?_ | refine aWp_skip ?_ | refine aWp_block ?_ | refine aWp_exit ?_ | refine end_ret ?_ | refine end_normal ?_)
        (first | with_reducible refine end_r ?_ | with_reducible refine end_n ?_); (with_reducible apply end2c); exact rfl; exact rfl; ((with_reducible apply loadC); exact rfl; exact rfl; exact tiX rfl; (exact w_LD); (exact w_OW)); (exact arg_)
        simp only [tokOne, if_neg h1, if_neg hg, tokZ]
    · refine rg fun K hK => ?_
      repeat (first | ((with_reducible refine rf ?_ ?_); (with_reducible apply gf_); exact rfl; exact rfl; (first | rfl | assumption | (simp [*] <;> done))) | ((with_reducible refine rf0 ?_ ?_); (with_reducible apply gf_); exact rfl; exact rfl; (first | rfl | assumption | (simp [*] <;> done))) | ((first | with_reducible refine g0 ?_ | ((with_reducible refine g1 ?_ ?_); (with_reducible apply gt_); exact rfl; exact rfl; (first | rfl | assumption | (simp [*] <;> done)))); (with_reducible apply sd); exact det_))
      with_reducible refine rz ?_
      refine hK _ _ _ ?_
      clear hK K; intro ν
      repeat with_reducible (first | refine aWp_seq ?_ | refine seq_normal ?_ | refine seq_ret ?_ | refine seq_exit ?_ | refine blk_normal ?_ | refine blk_ret ?_ | refine blk_hit ?_ | refine blk_miss rfl ?_ | refine aWp_ret ?_ | refine aWp_skip ?_ | refine aWp_block ?_ | refine aWp_exit ?_ | refine end_ret ?_ | refine end_normal ?_)
      (with_reducible apply cndT); exact rfl; (first | rfl | assumption | (simp [*] <;> done))
      repeat with_reducible (first | refine aWp_seq ?_ | refine seq_normal ?_ | refine seq_ret ?_ | refine seq_exit ?_ | refine blk_normal ?_ | refine blk_ret ?_ | refine blk_hit ?_ | refine blk_miss rfl ?_ | refine aWp_ret ?_ | refine aWp_skip ?_ | refine aWp_block ?_ | refine aWp_exit ?_ | refine end_ret ?_ | refine end_normal ?_)
      refine rg fun K hK => ?_
      repeat (first | ((with_reducible refine rf ?_ ?_); (with_reducible apply gf_); exact rfl; exact rfl; (first | rfl | assumption | (simp [*] <;> done))) | ((with_reducible refine rf0 ?_ ?_); (with_reducible apply gf_); exact rfl; exact rfl; (first | rfl | assumption | (simp [*] <;> done))) | ((first | with_reducible refine g0 ?_ | ((with_reducible refine g1 ?_ ?_); (with_reducible apply gt_); exact rfl; exact rfl; (first | rfl | assumption | (simp [*] <;> done)))); (with_reducible apply sd); exact det_))
      with_reducible refine rz ?_
      refine hK _ _ _ ?_
      clear hK K; intro ν
      repeat with_reducible (first | refine aWp_seq ?_ | refine seq_normal ?_ | refine seq_ret ?_ | refine seq_exit ?_ | refine blk_normal ?_ | refine blk_ret ?_ | refine blk_hit ?_ | refine blk_miss rfl ?_ | refine aWp_ret ?_ | refine aWp_skip ?_ | refine aWp_block ?_ | refine aWp_exit ?_ | refine end_ret ?_ | refine end_normal ?_)
      (first | with_reducible refine end_r ?_ | with_reducible refine end_n ?_); (with_reducible apply end2c); exact rfl; exact rfl; ((with_reducible apply loadC); exact rfl; exact rfl; exact tiX rfl; (exact w_LD); (exact w_OW)); (exact arg_)
      rcases l with _ | ⟨b1, _ | ⟨b2, l⟩⟩
      · simp only [tokOne, if_neg h1, tokZ]
      · simp only [tokOne, if_neg h1, tokZ]
      · simp at h2
end Go.Proofs.Ytmlgpibjhegdeaa
