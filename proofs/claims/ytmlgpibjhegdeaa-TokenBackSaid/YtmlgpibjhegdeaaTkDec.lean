import Derived.Test.YtmlgpibjhegdeaaTkOne
namespace Go.Proofs.Ytmlgpibjhegdeaa
open Go.RowKit
set_option linter.unusedVariables false
set_option linter.unusedSimpArgs false
set_option maxRecDepth 20000
set_option maxHeartbeats 4000000 in
theorem clip_spec (full : Bool) (n : Nat) (cs : List AV) (hl : cs.length = n) : Spec Try.prog 48 [.sl full n cs] (.k (.sl true n cs)) := by
  refine spec_of (fun _ => false) (by kernel_rfl) Try.func48 rfl rfl (by simp [Try.ntmps48]) (by decide) ?_
  intro δ
  rw [init1]
  repeat with_reducible (first | refine aWp_seq ?_ | refine seq_normal ?_ | refine seq_ret ?_ | refine seq_exit ?_ | refine blk_normal ?_ | refine blk_ret ?_ | refine blk_hit ?_ | refine blk_miss rfl ?_ | refine aWp_ret ?_ | refine aWp_skip ?_ | refine aWp_block ?_ | refine aWp_exit ?_ | refine end_ret ?_ | refine end_normal ?_)
  refine rg fun K hK => ?_
  repeat (first | ((with_reducible refine rf ?_ ?_); (with_reducible apply gf_); exact rfl; exact rfl; (first | rfl | assumption | (simp [*] <;> done))) | ((with_reducible refine rf0 ?_ ?_); (with_reducible apply gf_); exact rfl; exact rfl; (first | rfl | assumption | (simp [*] <;> done))) | ((first | with_reducible refine g0 ?_ | ((with_reducible refine g1 ?_ ?_); (with_reducible apply gt_); exact rfl; exact rfl; (first | rfl | assumption | (simp [*] <;> done)))); (with_reducible apply sd); exact det_))
  with_reducible refine rz ?_
  refine hK _ _ _ ?_
  clear hK K; intro ν
  repeat with_reducible (first | refine aWp_seq ?_ | refine seq_normal ?_ | refine seq_ret ?_ | refine seq_exit ?_ | refine blk_normal ?_ | refine blk_ret ?_ | refine blk_hit ?_ | refine blk_miss rfl ?_ | refine aWp_ret ?_ | refine aWp_skip ?_ | refine aWp_block ?_ | refine aWp_exit ?_ | refine end_ret ?_ | refine end_normal ?_)
  refine rg fun K hK => ?_
  repeat (first | ((with_reducible refine rf ?_ ?_); (with_reducible apply gf_); exact rfl; exact rfl; (first | rfl | assumption | (simp [*] <;> done))) | ((with_reducible refine rf0 ?_ ?_); (with_reducible apply gf_); exact rfl; exact rfl; (first | rfl | assumption | (simp [*] <;> done))) | ((first | with_reducible refine g0 ?_ | ((with_reducible refine g1 ?_ ?_); (with_reducible apply gt_); exact rfl; exact rfl; (first | rfl | assumption | (simp [*] <;> done)))); (with_reducible apply sd); exact det_))
  with_reducible refine rz ?_
  refine hK _ _ _ ?_
  clear hK K; intro ν
  repeat with_reducible (first | refine aWp_seq ?_ | refine seq_normal ?_ | refine seq_ret ?_ | refine seq_exit ?_ | refine blk_normal ?_ | refine blk_ret ?_ | refine blk_hit ?_ | refine blk_miss rfl ?_ | refine aWp_ret ?_ | refine aWp_skip ?_ | refine aWp_block ?_ | refine aWp_exit ?_ | refine end_ret ?_ | refine end_normal ?_)
  (first | with_reducible refine end_r ?_ | with_reducible refine end_n ?_); (with_reducible apply end1); exact rfl; exact rfl; (exact arg_)
  rw [List.take_of_length_le (by omega)]
set_option maxHeartbeats 4000000 in
theorem clipT_spec (full : Bool) (n : Nat) (cs : List AV) (hl : cs.length = n * 3) : Spec Try.prog 50 [.sl full n cs] (.k (.sl true n cs)) := by
  refine spec_of (fun _ => false) (by kernel_rfl) Try.func50 rfl rfl (by simp [Try.ntmps50]) (by decide) ?_
  intro δ
  rw [init1]
  repeat with_reducible (first | refine aWp_seq ?_ | refine seq_normal ?_ | refine seq_ret ?_ | refine seq_exit ?_ | refine blk_normal ?_ | refine blk_ret ?_ | refine blk_hit ?_ | refine blk_miss rfl ?_ | refine aWp_ret ?_ | refine aWp_skip ?_ | refine aWp_block ?_ | refine aWp_exit ?_ | refine end_ret ?_ | refine end_normal ?_)
  refine rg fun K hK => ?_
  repeat (first | ((with_reducible refine rf ?_ ?_); (with_reducible apply gf_); exact rfl; exact rfl; (first | rfl | assumption | (simp [*] <;> done))) | ((with_reducible refine rf0 ?_ ?_); (with_reducible apply gf_); exact rfl; exact rfl; (first | rfl | assumption | (simp [*] <;> done))) | ((first | with_reducible refine g0 ?_ | ((with_reducible refine g1 ?_ ?_); (with_reducible apply gt_); exact rfl; exact rfl; (first | rfl | assumption | (simp [*] <;> done)))); (with_reducible apply sd); exact det_))
  with_reducible refine rz ?_
  refine hK _ _ _ ?_
  clear hK K; intro ν
  repeat with_reducible (first | refine aWp_seq ?_ | refine seq_normal ?_ | refine seq_ret ?_ | refine seq_exit ?_ | refine blk_normal ?_ | refine blk_ret ?_ | refine blk_hit ?_ | refine blk_miss rfl ?_ | refine aWp_ret ?_ | refine aWp_skip ?_ | refine aWp_block ?_ | refine aWp_exit ?_ | refine end_ret ?_ | refine end_normal ?_)
  refine rg fun K hK => ?_
  repeat (first | ((with_reducible refine rf ?_ ?_); (with_reducible apply gf_); exact rfl; exact rfl; (first | rfl | assumption | (simp [*] <;> done))) | ((with_reducible refine rf0 ?_ ?_); (with_reducible apply gf_); exact rfl; exact rfl; (first | rfl | assumption | (simp [*] <;> done))) | ((first | with_reducible refine g0 ?_ | ((with_reducible refine g1 ?_ ?_); (with_reducible apply gt_); exact rfl; exact rfl; (first | rfl | assumption | (simp [*] <;> done)))); (with_reducible apply sd); exact det_))
  with_reducible refine rz ?_
  refine hK _ _ _ ?_
  clear hK K; intro ν
  repeat with_reducible (first | refine aWp_seq ?_ | refine seq_normal ?_ | refine seq_ret ?_ | refine seq_exit ?_ | refine blk_normal ?_ | refine blk_ret ?_ | refine blk_hit ?_ | refine blk_miss rfl ?_ | refine aWp_ret ?_ | refine aWp_skip ?_ | refine aWp_block ?_ | refine aWp_exit ?_ | refine end_ret ?_ | refine end_normal ?_)
  (first | with_reducible refine end_r ?_ | with_reducible refine end_n ?_); (with_reducible apply end1); exact rfl; exact rfl; (exact arg_)
  rw [List.take_of_length_le (by omega)]
end Go.Proofs.Ytmlgpibjhegdeaa
