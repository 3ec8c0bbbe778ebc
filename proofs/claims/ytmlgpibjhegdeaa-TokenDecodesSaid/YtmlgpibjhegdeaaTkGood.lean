import Derived.Test.YtmlgpibjhegdeaaAvAuto
namespace Go.Proofs.Ytmlgpibjhegdeaa
open Go.RowKit
set_option linter.unusedVariables false
set_option linter.unusedSimpArgs false
set_option maxRecDepth 20000
def goodB (n : Nat) (len dist : Int) : Bool :=
  if n = 0 then decide (3 ≤ len ∧ len ≤ 130 ∧ 1 ≤ dist ∧ dist ≤ 4096) else decide (n ≤ 128 ∧ len = 0 ∧ dist = 0)
set_option maxHeartbeats 4000000 in
theorem good_spec (full : Bool) (n : Nat) (cells : List AV) (len dist : Int) : Spec Try.prog 43 [.agg [.sl full n cells, .int .i64 len, .int .i64 dist]] (.k (.bool (goodB n len dist))) := by
  refine spec_of (fun _ => false) (by kernel_rfl) Try.func43 rfl rfl (by simp [Try.ntmps43]) (by decide) ?_
  intro δ
  rw [init1]
  repeat with_reducible (first | refine aWp_seq ?_ | refine seq_normal ?_ | refine seq_ret ?_ | refine seq_exit ?_ | refine blk_normal ?_ | refine blk_ret ?_ | refine blk_hit ?_ | refine blk_miss rfl ?_ | refine aWp_ret ?_ | refine aWp_skip ?_ | refine aWp_block ?_ | refine aWp_exit ?_ | refine end_ret ?_ | refine end_normal ?_)
  refine rg fun K hK => ?_
  repeat (first | ((with_reducible refine rf ?_ ?_); (with_reducible apply gf_); exact rfl; exact rfl; (first | rfl | assumption | (simp [*] <;> done))) | ((with_reducible refine rf0 ?_ ?_); (with_reducible apply gf_); exact rfl; exact rfl; (first | rfl | assumption | (simp [*] <;> done))) | ((first | with_reducible refine g0 ?_ | ((with_reducible refine g1 ?_ ?_); (with_reducible apply gt_); exact rfl; exact rfl; (first | rfl | assumption | (simp [*] <;> done)))); (with_reducible apply sd); exact det_))
  with_reducible refine rz ?_
  refine hK _ _ _ ?_
  clear hK K; intro ν
  repeat with_reducible (first | refine aWp_seq ?_ | refine seq_normal ?_ | refine seq_ret ?_ | refine seq_exit ?_ | refine blk_normal ?_ | refine blk_ret ?_ | refine blk_hit ?_ | refine blk_miss rfl ?_ | refine aWp_ret ?_ | refine aWp_skip ?_ | refine aWp_block ?_ | refine aWp_exit ?_ | refine end_ret ?_ | refine end_normal ?_)
  by_cases h0 : n = 0
  · subst h0
    refine rg fun K hK => ?_
    repeat (first | ((with_reducible refine rf ?_ ?_); (with_reducible apply gf_); exact rfl; exact rfl; (first | rfl | assumption | (simp [*] <;> done))) | ((with_reducible refine rf0 ?_ ?_); (with_reducible apply gf_); exact rfl; exact rfl; (first | rfl | assumption | (simp [*] <;> done))) | ((first | with_reducible refine g0 ?_ | ((with_reducible refine g1 ?_ ?_); (with_reducible apply gt_); exact rfl; exact rfl; (first | rfl | assumption | (simp [*] <;> done)))); (with_reducible apply sd); exact det_))
    with_reducible refine rz ?_
    refine hK _ _ _ ?_
    clear hK K; intro ν
    repeat with_reducible (first | refine aWp_seq ?_ | refine seq_normal ?_ | refine seq_ret ?_ | refine seq_exit ?_ | refine blk_normal ?_ | refine blk_ret ?_ | refine blk_hit ?_ | refine blk_miss rfl ?_ | refine aWp_ret ?_ | refine aWp_skip ?_ | refine aWp_block ?_ | refine aWp_exit ?_ | refine end_ret ?_ | refine end_normal ?_)
    (with_reducible apply cndF); exact rfl; (first | rfl | assumption | (simp [*] <;> done))
    repeat with_reducible (first | refine aWp_seq ?_ | refine seq_normal ?_ | refine seq_ret ?_ | refine seq_exit ?_ | refine blk_normal ?_ | refine blk_ret ?_ | refine blk_hit ?_ | refine blk_miss rfl ?_ | refine aWp_ret ?_ | refine aWp_skip ?_ | refine aWp_block ?_ | refine aWp_exit ?_ | refine end_ret ?_ | refine end_normal ?_)
    by_cases a1 : 3 ≤ len <;> by_cases a2 : len ≤ 130 <;> by_cases a3 : 1 ≤ dist <;> by_cases a4 : dist ≤ 4096
    iterate 16
      · refine rg fun K hK => ?_
        repeat (first | ((with_reducible refine rf ?_ ?_); (with_reducible apply gf_); exact rfl; exact rfl; (first | rfl | assumption | (simp [*] <;> done))) | ((with_reducible refine rf0 ?_ ?_); (with_reducible apply gf_); exact rfl; exact rfl; (first | rfl | assumption | (simp [*] <;> done))) | ((first | with_reducible refine g0 ?_ | ((with_reducible refine g1 ?_ ?_); (with_reducible apply gt_); exact rfl; exact rfl; (first | rfl | assumption | (simp [*] <;> done)))); (with_reducible apply sd); exact det_))
        with_reducible refine rz ?_
        refine hK _ _ _ ?_
        clear hK K; intro ν
        repeat with_reducible (first | refine aWp_seq ?_ | refine seq_normal ?_ | refine seq_ret ?_ | refine seq_exit ?_ | refine blk_normal ?_ | refine blk_ret ?_ | refine blk_hit ?_ | refine blk_miss rfl ?_ | refine aWp_ret ?_ | refine aWp_skip ?_ | refine aWp_block ?_ | refine aWp_exit ?_ | refine end_ret ?_ | refine end_normal ?_)
        (first | with_reducible refine end_r ?_ | with_reducible refine end_n ?_); (with_reducible apply end1); exact rfl; exact rfl; (exact arg_)
        first | (exfalso; omega) | simp [goodB, a1, a2, a3, a4]
  · refine rg fun K hK => ?_
    repeat (first | ((with_reducible refine rf ?_ ?_); (with_reducible apply gf_); exact rfl; exact rfl; (first | rfl | assumption | (simp [*] <;> done))) | ((with_reducible refine rf0 ?_ ?_); (with_reducible apply gf_); exact rfl; exact rfl; (first | rfl | assumption | (simp [*] <;> done))) | ((first | with_reducible refine g0 ?_ | ((with_reducible refine g1 ?_ ?_); (with_reducible apply gt_); exact rfl; exact rfl; (first | rfl | assumption | (simp [*] <;> done)))); (with_reducible apply sd); exact det_))
    with_reducible refine rz ?_
    refine hK _ _ _ ?_
    clear hK K; intro ν
    repeat with_reducible (first | refine aWp_seq ?_ | refine seq_normal ?_ | refine seq_ret ?_ | refine seq_exit ?_ | refine blk_normal ?_ | refine blk_ret ?_ | refine blk_hit ?_ | refine blk_miss rfl ?_ | refine aWp_ret ?_ | refine aWp_skip ?_ | refine aWp_block ?_ | refine aWp_exit ?_ | refine end_ret ?_ | refine end_normal ?_)
    (with_reducible apply cndT); exact rfl; (first | rfl | assumption | (simp [*] <;> done))
    repeat with_reducible (first | refine aWp_seq ?_ | refine seq_normal ?_ | refine seq_ret ?_ | refine seq_exit ?_ | refine blk_normal ?_ | refine blk_ret ?_ | refine blk_hit ?_ | refine blk_miss rfl ?_ | refine aWp_ret ?_ | refine aWp_skip ?_ | refine aWp_block ?_ | refine aWp_exit ?_ | refine end_ret ?_ | refine end_normal ?_)
    by_cases a1 : n ≤ 128 <;> by_cases a2 : len = 0 <;> by_cases a3 : dist = 0
    iterate 8
      · refine rg fun K hK => ?_
        repeat (first | ((with_reducible refine rf ?_ ?_); (with_reducible apply gf_); exact rfl; exact rfl; (first | rfl | assumption | (simp [*] <;> done))) | ((with_reducible refine rf0 ?_ ?_); (with_reducible apply gf_); exact rfl; exact rfl; (first | rfl | assumption | (simp [*] <;> done))) | ((first | with_reducible refine g0 ?_ | ((with_reducible refine g1 ?_ ?_); (with_reducible apply gt_); exact rfl; exact rfl; (first | rfl | assumption | (simp [*] <;> done)))); (with_reducible apply sd); exact det_))
        with_reducible refine rz ?_
        refine hK _ _ _ ?_
        clear hK K; intro ν
        repeat with_reducible (first | refine aWp_seq ?_ | refine seq_normal ?_ | refine seq_ret ?_ | refine seq_exit ?_ | refine blk_normal ?_ | refine blk_ret ?_ | refine blk_hit ?_ | refine blk_miss rfl ?_ | refine aWp_ret ?_ | refine aWp_skip ?_ | refine aWp_block ?_ | refine aWp_exit ?_ | refine end_ret ?_ | refine end_normal ?_)
        (first | with_reducible refine end_r ?_ | with_reducible refine end_n ?_); (with_reducible apply end1); exact rfl; exact rfl; (exact arg_)
        first | (exfalso; omega) | simp [goodB, h0, a1, a2, a3]
end Go.Proofs.Ytmlgpibjhegdeaa
