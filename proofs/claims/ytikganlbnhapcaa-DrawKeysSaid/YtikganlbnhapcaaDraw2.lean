import Derived.Test.YtikganlbnhapcaaDraw
namespace Go.Proofs.Ytikganlbnhapcaa
open Go.RowKit
set_option linter.unusedVariables false
set_option linter.unusedSimpArgs false
set_option maxRecDepth 20000
theorem bytes_spec (k : List UInt8) (hk : k.length = 64) : Spec Try.prog 27 [.agg (aOfBytes k)] (.k (.sl false 64 (aOfBytes k))) := by
  have s1 := concatB_spec false [(true, k.take 32), (true, (k.drop 32).take 32)] (by simp; omega) (by simp; omega) (by simp)
  have e1 : k.take 32 ++ (k.drop 32).take 32 = k := by
    rw [List.take_of_length_le (by simp; omega : (k.drop 32).length ≤ 32), List.take_append_drop]
  have h1 : (k.take 32).length = 32 := by simp; omega
  have h2 : ((k.drop 32).take 32).length = 32 := by simp; omega
  simp only [List.map_cons, List.map_nil, pCells, pB, Part.av, List.flatMap_cons, List.flatMap_nil, List.append_nil, List.length_cons, List.length_nil, Nat.reduceAdd, aOfBytes_len, h1, h2, e1, hk] at s1
  rw [bytes_take, bytes_take, bytes_drop] at s1
  have hka := aOfBytes_len k
  refine spec_of (fun _ => false) (by kernel_rfl) Try.func27 rfl rfl (by simp [Try.ntmps27]) (by decide) ?_
  intro δ
  rw [init1]
  repeat with_reducible (first | refine aWp_seq ?_ | refine seq_normal ?_ | refine seq_ret ?_ | refine seq_exit ?_ | refine blk_normal ?_ | refine blk_ret ?_ | refine blk_hit ?_ | refine blk_miss rfl ?_ | refine aWp_ret ?_ | refine aWp_skip ?_ | refine aWp_block ?_ | refine aWp_exit ?_ | refine end_ret ?_ | refine end_normal ?_)
  refine rg fun K hK => ?_
  refine stA ?_
  refine rzp (t := 1) rfl rfl ?_
  refine hK _ _ _ ?_
  clear hK K; intro ν
  repeat with_reducible (first | refine aWp_seq ?_ | refine seq_normal ?_ | refine seq_ret ?_ | refine seq_exit ?_ | refine blk_normal ?_ | refine blk_ret ?_ | refine blk_hit ?_ | refine blk_miss rfl ?_ | refine aWp_ret ?_ | refine aWp_skip ?_ | refine aWp_block ?_ | refine aWp_exit ?_ | refine end_ret ?_ | refine end_normal ?_)
  refine rgx [(5,[7],[8])] (by kernel_rfl) fun K hK => ?_
  refine stxA ?_
  ((first | ((with_reducible refine x0 ?_ ?_); exact rfl) | ((with_reducible refine x1 ?_ ?_ ?_); exact rfl; (with_reducible apply gt_); exact rfl; exact rfl; (first | rfl | assumption | (simp [*] <;> done)))); refine xcA (h2 := (s1)) (hk := ?_))
  refine stxA ?_
  with_reducible refine xz ?_
  refine hK _ _ _ ?_
  clear hK K; intro ν
  repeat (first | with_reducible (first | refine aWp_seq ?_ | refine seq_normal ?_ | refine seq_ret ?_ | refine seq_exit ?_ | refine blk_normal ?_ | refine blk_ret ?_ | refine blk_hit ?_ | refine blk_miss rfl ?_ | refine aWp_ret ?_ | refine aWp_skip ?_ | refine aWp_block ?_ | refine aWp_exit ?_ | refine end_ret ?_ | refine end_normal ?_) | ((refine rgA ?_); intro ν) | ((with_reducible apply cndT); exact rfl; (first | rfl | assumption)) | ((with_reducible apply cndF); exact rfl; (first | rfl | assumption)))
  (first | with_reducible refine end_r ?_ | with_reducible refine end_n ?_); refine en1 ?_
  rfl
def fromOk (b : List UInt8) : AV := if b.length = 64 then .tup [.agg (aOfBytes b), .int .i64 0] else .tup [.agg (List.replicate 64 (.int .u8 0)), .int .i64 3]
theorem from_spec (full : Bool) (b : List UInt8) : Spec Try.prog 26 [.sl full b.length (aOfBytes b)] (.k (fromOk b)) := by
  refine spec_of (fun _ => false) (by kernel_rfl) Try.func26 rfl rfl (by simp [Try.ntmps26]) (by decide) ?_
  intro δ
  rw [init1]
  have hba := aOfBytes_len b
  unfold fromOk
  by_cases h : b.length = 64
  · rw [if_pos h]
    have h1 : (b.take 32).length = 32 := by simp; omega
    have h2 : ((b.drop 32).take 32).length = 32 := by simp; omega
    have e1 : b.take 32 ++ (b.drop 32).take 32 = b := by
      rw [List.take_of_length_le (by simp; omega : (b.drop 32).length ≤ 32), List.take_append_drop]
    have a1 : ldAgg (.arr 32 5) 32 (aOfBytes b) = some (.agg (aOfBytes (b.take 32))) := by
      simp only [ldAgg]
      rw [if_pos (by omega), bytes_take]
    have a2 : ldAgg (.arr 32 5) 32 (List.drop 32 (List.take b.length (aOfBytes b))) = some (.agg (aOfBytes ((b.drop 32).take 32))) := by
      rw [List.take_of_length_le (by omega)]
      simp only [ldAgg]
      rw [if_pos (by simp; omega), bytes_take, bytes_drop]
    have hfl := fill2 (aOfBytes (b.take 32)) (aOfBytes ((b.drop 32).take 32)) (.int .u8 0) (by rw [aOfBytes_len]; exact h1) (by rw [aOfBytes_len]; exact h2)
    rw [← aOfBytes_append, e1] at hfl
    have ls := ld_st (fs := [(0, 32), (32, 32)]) (aOfBytes b) (sz := 64) (by omega)
    repeat (first | with_reducible (first | refine aWp_seq ?_ | refine seq_normal ?_ | refine seq_ret ?_ | refine seq_exit ?_ | refine blk_normal ?_ | refine blk_ret ?_ | refine blk_hit ?_ | refine blk_miss rfl ?_ | refine aWp_ret ?_ | refine aWp_skip ?_ | refine aWp_block ?_ | refine aWp_exit ?_ | refine end_ret ?_ | refine end_normal ?_) | ((refine rgA ?_); intro ν) | ((with_reducible apply cndT); exact rfl; (first | rfl | assumption)) | ((with_reducible apply cndF); exact rfl; (first | rfl | assumption)))
    refine rgxA [(8,[2],[2])] ?_
    intro ν
    rw [drop_rep, List.append_nil]
    repeat (first | with_reducible (first | refine aWp_seq ?_ | refine seq_normal ?_ | refine seq_ret ?_ | refine seq_exit ?_ | refine blk_normal ?_ | refine blk_ret ?_ | refine blk_hit ?_ | refine blk_miss rfl ?_ | refine aWp_ret ?_ | refine aWp_skip ?_ | refine aWp_block ?_ | refine aWp_exit ?_ | refine end_ret ?_ | refine end_normal ?_) | ((refine rgA ?_); intro ν) | ((with_reducible apply cndT); exact rfl; (first | rfl | assumption)) | ((with_reducible apply cndF); exact rfl; (first | rfl | assumption)))
    (first | with_reducible refine end_r ?_ | with_reducible refine end_n ?_); refine en2c ?_
    rfl
  · rw [if_neg h]
    have ls := ld_st (fs := [(0, 32), (32, 32)]) (List.replicate 64 (AV.int .u8 0)) (sz := 64) (by simp)
    repeat (first | with_reducible (first | refine aWp_seq ?_ | refine seq_normal ?_ | refine seq_ret ?_ | refine seq_exit ?_ | refine blk_normal ?_ | refine blk_ret ?_ | refine blk_hit ?_ | refine blk_miss rfl ?_ | refine aWp_ret ?_ | refine aWp_skip ?_ | refine aWp_block ?_ | refine aWp_exit ?_ | refine end_ret ?_ | refine end_normal ?_) | ((refine rgA ?_); intro ν) | ((with_reducible apply cndT); exact rfl; (first | rfl | assumption)) | ((with_reducible apply cndF); exact rfl; (first | rfl | assumption)))
    rw [drop_rep, List.append_nil]
    (first | with_reducible refine end_r ?_ | with_reducible refine end_n ?_); refine en2c ?_
    rfl
end Go.Proofs.Ytikganlbnhapcaa
