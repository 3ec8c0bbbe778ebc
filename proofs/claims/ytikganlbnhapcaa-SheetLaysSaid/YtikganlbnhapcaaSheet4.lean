import Derived.Test.YtikganlbnhapcaaSheet3
namespace Go.Proofs.Ytikganlbnhapcaa
open Go.RowKit
set_option linter.unusedVariables false
set_option linter.unusedSimpArgs false
set_option maxRecDepth 20000
theorem lay_neg (full : Bool) (e s : Int) (n : Nat) (cs : List AV) (h : min e s < 0) : Spec Try.prog 31 [.int .i64 e, .int .i64 s, .sl full n cs] (.k (.tup [.sl true 0 [], .int .i64 1])) := by
  refine spec_of (fun _ => false) (by kernel_rfl) Try.func31 rfl rfl (by simp [Try.ntmps31]) (by decide) ?_
  intro δ
  rw [init3]
  repeat (first | with_reducible (first | refine aWp_seq ?_ | refine seq_normal ?_ | refine seq_ret ?_ | refine seq_exit ?_ | refine blk_normal ?_ | refine blk_ret ?_ | refine blk_hit ?_ | refine blk_miss rfl ?_ | refine aWp_ret ?_ | refine aWp_skip ?_ | refine aWp_block ?_ | refine aWp_exit ?_ | refine end_ret ?_ | refine end_normal ?_) | ((refine rgA ?_); intro ν) | ((with_reducible apply cndT); exact rfl; (first | rfl | assumption)) | ((with_reducible apply cndF); exact rfl; (first | rfl | assumption)))
  (first | with_reducible refine end_r ?_ | with_reducible refine end_n ?_); refine en2 ?_
  rfl
def awS : List UInt8 := [0, 19, 0, 0, 0, 0, 0, 0, 0, 0, 0, 0, 0, 0, 0, 0, 0, 0, 0, 0, 0, 251, 67, 73, 0, 0, 0, 5, 0, 0, 0, 6, 0, 0, 0, 0, 0, 0, 0, 0, 0, 0, 0, 0, 0, 0, 0, 0, 0, 0, 0, 0, 0, 0, 0, 0, 0, 0, 0, 5, 0, 0, 0, 6]
theorem awS_is : layB 5 6 (List.replicate 19 0) = awS := by decide +kernel
theorem awL : liftR (awS ++ [1]) = .tup [.int .i64 5, .int .i64 6, .sl true 19 (aOfBytes (List.replicate 19 0)), .int .i64 2, .int .i64 0] := by
  have h1 : liftOk (awS ++ [1]) = true := by decide +kernel
  have h2 : liftE (awS ++ [1]) = 5 := by decide +kernel
  have h3 : liftQ (awS ++ [1]) = 6 := by decide +kernel
  have h4 : liftB (awS ++ [1]) = List.replicate 19 0 := by decide +kernel
  have h5 : liftN (awS ++ [1]) = 2 := by decide +kernel
  rw [liftR, if_pos h1, h2, h3, h4, h5]; rfl
theorem awL2 : liftR (awS.take 63) = liftBad := by
  have h1 : liftOk (awS.take 63) = false := by decide +kernel
  rw [liftR, h1]; rfl
theorem aZeros_bytes (n : Nat) : aZeros n 1 [.int .u8 0] = aOfBytes (List.replicate n 0) := by rw [aZeros8, aOfBytes_zeros]
set_option maxHeartbeats 8000000 in
theorem awake15_spec : Spec Try.prog 34 [] (.k (.bool true)) := by
  have s1 := lay_spec false 5 6 (List.replicate 19 0) (by omega) (by omega) (by simp)
  have s2 := lift_spec false (awS ++ [1]) (by decide)
  have s3 := lift_spec false (awS.take 63) (by decide)
  have s4 := lay_neg true (-1) 0 0 [] (by omega)
  have s5 := count_spec 18 (by omega)
  have s6 := count_spec 19 (by omega)
  rw [awS_is, ← aZeros_bytes, List.length_replicate] at s1
  rw [awL, aOfBytes_append] at s2
  rw [awL2, ← aOfBytes_take] at s3
  rw [show chN (18 + 6) 24 = 1 by decide] at s5
  rw [show chN (19 + 6) 24 = 2 by decide] at s6
  have e1 : awS.length = 64 := rfl
  have e2 : (awS ++ [1]).length = 65 := rfl
  have e3 : (awS.take 63).length = 63 := rfl
  have e4 : aOfBytes [1] = [AV.int .u8 1] := rfl
  rw [e1] at s1
  rw [e2, e4] at s2
  rw [e3] at s3
  have hl := aOfBytes_len awS
  rw [e1] at hl
  have l1 : ldAgg (.int .u8) 1 (List.drop 27 (aOfBytes awS)) = some (.int .u8 5) := rfl
  have l2 : ldAgg (.int .u8) 1 (List.drop 31 (aOfBytes awS)) = some (.int .u8 6) := rfl
  have l3 : ldAgg (.int .u8) 1 (List.drop 63 (aOfBytes awS)) = some (.int .u8 6) := rfl
  generalize aOfBytes awS = W at *
  refine spec_of (fun _ => false) (by kernel_rfl) Try.func34 rfl rfl (by simp [Try.ntmps34]) (by decide) ?_
  intro δ
  rw [init0]
  repeat (first | with_reducible (first | refine aWp_seq ?_ | refine seq_normal ?_ | refine seq_ret ?_ | refine seq_exit ?_ | refine blk_normal ?_ | refine blk_ret ?_ | refine blk_hit ?_ | refine blk_miss rfl ?_ | refine aWp_ret ?_ | refine aWp_skip ?_ | refine aWp_block ?_ | refine aWp_exit ?_ | refine end_ret ?_ | refine end_normal ?_) | ((refine rgA ?_); intro ν) | ((with_reducible apply cndT); exact rfl; (first | rfl | assumption)) | ((with_reducible apply cndF); exact rfl; (first | rfl | assumption)))
  refine rg fun K hK => ?_
  refine stA ?_
  (first | with_reducible refine g0 ?_ | ((with_reducible refine g1 ?_ ?_); (with_reducible apply gt_); exact rfl; exact rfl; (first | rfl | assumption | (simp [*] <;> done)))); refine scA (h2 := (s1)) (hk := ?_)
  refine stA ?_
  with_reducible refine rz ?_
  refine hK _ _ _ ?_
  clear hK K; intro ν
  repeat (first | with_reducible (first | refine aWp_seq ?_ | refine seq_normal ?_ | refine seq_ret ?_ | refine seq_exit ?_ | refine blk_normal ?_ | refine blk_ret ?_ | refine blk_hit ?_ | refine blk_miss rfl ?_ | refine aWp_ret ?_ | refine aWp_skip ?_ | refine aWp_block ?_ | refine aWp_exit ?_ | refine end_ret ?_ | refine end_normal ?_) | ((refine rgA ?_); intro ν) | ((with_reducible apply cndT); exact rfl; (first | rfl | assumption)) | ((with_reducible apply cndF); exact rfl; (first | rfl | assumption)))
  refine rg fun K hK => ?_
  refine stA ?_
  (first | with_reducible refine g0 ?_ | ((with_reducible refine g1 ?_ ?_); (with_reducible apply gt_); exact rfl; exact rfl; (first | rfl | assumption | (simp [*] <;> done)))); refine scA (h2 := (s2)) (hk := ?_)
  refine stA ?_
  with_reducible refine rz ?_
  refine hK _ _ _ ?_
  clear hK K; intro ν
  repeat (first | with_reducible (first | refine aWp_seq ?_ | refine seq_normal ?_ | refine seq_ret ?_ | refine seq_exit ?_ | refine blk_normal ?_ | refine blk_ret ?_ | refine blk_hit ?_ | refine blk_miss rfl ?_ | refine aWp_ret ?_ | refine aWp_skip ?_ | refine aWp_block ?_ | refine aWp_exit ?_ | refine end_ret ?_ | refine end_normal ?_) | ((refine rgA ?_); intro ν) | ((with_reducible apply cndT); exact rfl; (first | rfl | assumption)) | ((with_reducible apply cndF); exact rfl; (first | rfl | assumption)))
  refine rg fun K hK => ?_
  refine stA ?_
  (first | with_reducible refine g0 ?_ | ((with_reducible refine g1 ?_ ?_); (with_reducible apply gt_); exact rfl; exact rfl; (first | rfl | assumption | (simp [*] <;> done)))); refine scA (h2 := (s3)) (hk := ?_)
  refine stA ?_
  with_reducible refine rz ?_
  refine hK _ _ _ ?_
  clear hK K; intro ν
  repeat (first | with_reducible (first | refine aWp_seq ?_ | refine seq_normal ?_ | refine seq_ret ?_ | refine seq_exit ?_ | refine blk_normal ?_ | refine blk_ret ?_ | refine blk_hit ?_ | refine blk_miss rfl ?_ | refine aWp_ret ?_ | refine aWp_skip ?_ | refine aWp_block ?_ | refine aWp_exit ?_ | refine end_ret ?_ | refine end_normal ?_) | ((refine rgA ?_); intro ν) | ((with_reducible apply cndT); exact rfl; (first | rfl | assumption)) | ((with_reducible apply cndF); exact rfl; (first | rfl | assumption)))
  refine rg fun K hK => ?_
  refine stA ?_
  (first | with_reducible refine g0 ?_ | ((with_reducible refine g1 ?_ ?_); (with_reducible apply gt_); exact rfl; exact rfl; (first | rfl | assumption | (simp [*] <;> done)))); refine scA (h2 := (s4)) (hk := ?_)
  refine stA ?_
  with_reducible refine rz ?_
  refine hK _ _ _ ?_
  clear hK K; intro ν
  repeat (first | with_reducible (first | refine aWp_seq ?_ | refine seq_normal ?_ | refine seq_ret ?_ | refine seq_exit ?_ | refine blk_normal ?_ | refine blk_ret ?_ | refine blk_hit ?_ | refine blk_miss rfl ?_ | refine aWp_ret ?_ | refine aWp_skip ?_ | refine aWp_block ?_ | refine aWp_exit ?_ | refine end_ret ?_ | refine end_normal ?_) | ((refine rgA ?_); intro ν) | ((with_reducible apply cndT); exact rfl; (first | rfl | assumption)) | ((with_reducible apply cndF); exact rfl; (first | rfl | assumption)))
  refine rg fun K hK => ?_
  refine stA ?_
  (first | with_reducible refine g0 ?_ | ((with_reducible refine g1 ?_ ?_); (with_reducible apply gt_); exact rfl; exact rfl; (first | rfl | assumption | (simp [*] <;> done)))); refine scA (h2 := (s5)) (hk := ?_)
  refine stA ?_
  (first | with_reducible refine g0 ?_ | ((with_reducible refine g1 ?_ ?_); (with_reducible apply gt_); exact rfl; exact rfl; (first | rfl | assumption | (simp [*] <;> done)))); refine scA (h2 := (s6)) (hk := ?_)
  refine stA ?_
  with_reducible refine rz ?_
  refine hK _ _ _ ?_
  clear hK K; intro ν
  repeat (first | with_reducible (first | refine aWp_seq ?_ | refine seq_normal ?_ | refine seq_ret ?_ | refine seq_exit ?_ | refine blk_normal ?_ | refine blk_ret ?_ | refine blk_hit ?_ | refine blk_miss rfl ?_ | refine aWp_ret ?_ | refine aWp_skip ?_ | refine aWp_block ?_ | refine aWp_exit ?_ | refine end_ret ?_ | refine end_normal ?_) | ((refine rgA ?_); intro ν) | ((with_reducible apply cndT); exact rfl; (first | rfl | assumption)) | ((with_reducible apply cndF); exact rfl; (first | rfl | assumption)))
  (first | with_reducible refine end_r ?_ | with_reducible refine end_n ?_); refine en1 ?_
  rfl
end Go.Proofs.Ytikganlbnhapcaa
