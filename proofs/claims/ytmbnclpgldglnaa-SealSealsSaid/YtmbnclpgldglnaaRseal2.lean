import Derived.Test.YtmbnclpgldglnaaRseal1
import Derived.Test.YtmbnclpgldglnaaRseal0
namespace Go.Proofs.Ytmbnclpgldglnaa
open Go.RowKit
set_option linter.unusedVariables false
set_option linter.unusedSimpArgs false
set_option maxRecDepth 20000
theorem init5S (a b c d e : AV) (md : Md) : initSt [a, b, c, d, e] md = ⟨upd (upd (upd (upd (upd (fun _ => .k .any) 0 (.k a)) 1 (.k b)) 2 (.k c)) 3 (.k d)) 4 (.k e), fun _ => none, 0, md⟩ := by
  unfold initSt; congr 1; funext t
  match t with
  | 0 | 1 | 2 | 3 | 4 => rfl
  | t + 5 => simp [upd]
set_option maxHeartbeats 16000000 in
theorem ropened_spec (full : Bool) (kE kM s : List UInt8) (id gen : Int) (hE : kE.length = 32) (hM : kM.length = 32) (hs : s.length ≤ 2000) :
    Spec Try.prog 27 [sumsA, .agg (aOfBytes (kE ++ kM)), .int .i64 id, .int .i64 gen, .sl full s.length (aOfBytes s)] (.k (ropenR (ropnS kE kM s id gen))) := by
  have hsa := aOfBytes_len s
  have hKa : (aOfBytes (kE ++ kM)).length = 64 := by rw [aOfBytes_len, List.length_append, hE, hM]
  have hEt : List.take 32 (aOfBytes (kE ++ kM)) = aOfBytes kE := by rw [aOfBytes_append]; exact List.take_left' (by rw [aOfBytes_len, hE])
  have lk4 : ldAgg (.st [(0, 32), (32, 32)]) 64 (List.drop 0 (aOfBytes (kE ++ kM))) = some (.agg (aOfBytes (kE ++ kM))) := by
    simp only [ldAgg, List.drop_zero]; rw [if_pos (by omega), List.take_of_length_le (by omega)]
  by_cases h88 : s.length < 88
  · rw [ropnS, if_neg (by omega), ropenR]
    have hS : sumsA = .agg [.sl false 64 (aOfW wordsK), .sl false 8 (aOfW startH)] := rfl
    rw [hS]
    generalize AV.sl false 64 (aOfW wordsK) = SA at *
    generalize AV.sl false 8 (aOfW startH) = SB at *
    clear hS
    refine spec_of (fun _ => false) (by kernel_rfl) Try.func27 rfl rfl (by simp [Try.ntmps27]) (by decide) ?_
    intro δ
    rw [init5S]
    repeat (first | with_reducible (first | refine aWp_seq ?_ | refine seq_normal ?_ | refine seq_ret ?_ | refine seq_exit ?_ | refine blk_normal ?_ | refine blk_ret ?_ | refine blk_hit ?_ | refine blk_miss rfl ?_ | refine aWp_ret ?_ | refine aWp_skip ?_ | refine aWp_block ?_ | refine aWp_exit ?_ | refine end_ret ?_ | refine end_normal ?_) | ((refine rgA ?_); intro ν) | ((with_reducible apply cndT); exact rfl; (first | rfl | assumption)) | ((with_reducible apply cndF); exact rfl; (first | rfl | assumption)))
    (first | with_reducible refine end_r ?_ | with_reducible refine end_n ?_); refine en2 ?_
    rfl
  · have hnT : ((s.length : Int) - 32).toNat = s.length - 32 := by omega
    have hivl : ((s.take 40).drop 24).length = 16 := by rw [List.length_drop, List.length_take]; omega
    have hcl : ((s.take (s.length - 32)).drop 40).length = s.length - 32 - 40 := by rw [List.length_drop, List.length_take]; omega
    have s1 := ropen_key (.inr (.inr hE)) true (full && decide ((40 : Int) = (s.length : Int))) (full && decide ((s.length : Int) - 32 = (s.length : Int))) ((s.take 40).drop 24) ((s.take (s.length - 32)).drop 40) hivl (by omega)
    rw [ropnS, if_pos (by omega)]
    rw [hE, ← hEt, hcl, bytes_drop', bytes_take', bytes_drop', bytes_take', ← hnT] at s1
    have s2 := fun f1 f2 x (hx : x.length ≤ 2000) => rsealed_spec f1 f2 kE kM ((s.take 40).drop 24) x id gen hE hM hivl hx
    rw [bytes_drop', bytes_take'] at s2
    have hop : ∀ x, openB (cbcD kE) ((s.take 40).drop 24) ((s.take (s.length - 32)).drop 40) = some x → x.length ≤ 2000 := fun x h => by
      have := (seal_open (cbcD_len kE) (cbcED kE) h).2
      omega
    rw [hnT] at s1
    generalize openB (cbcD kE) ((s.take 40).drop 24) ((s.take (s.length - 32)).drop 40) = o at *
    have hS : sumsA = .agg [.sl false 64 (aOfW wordsK), .sl false 8 (aOfW startH)] := rfl
    rw [hS] at s2 ⊢
    generalize AV.sl false 64 (aOfW wordsK) = SA at *
    generalize AV.sl false 8 (aOfW startH) = SB at *
    clear hS
    cases o with
    | none =>
      rw [ropenR] at s1
      show Spec _ _ _ (.k (ropenR none))
      rw [ropenR]
      refine spec_of (fun _ => false) (by kernel_rfl) Try.func27 rfl rfl (by simp [Try.ntmps27]) (by decide) ?_
      intro δ
      rw [init5S]
      repeat with_reducible (first | refine aWp_seq ?_ | refine seq_normal ?_ | refine seq_ret ?_ | refine seq_exit ?_ | refine blk_normal ?_ | refine blk_ret ?_ | refine blk_hit ?_ | refine blk_miss rfl ?_ | refine aWp_ret ?_ | refine aWp_skip ?_ | refine aWp_block ?_ | refine aWp_exit ?_ | refine end_ret ?_ | refine end_normal ?_)
      refine rg fun K hK => ?_
      refine stA ?_
      refine rzp (t := 6) rfl rfl ?_
      refine hK _ _ _ ?_
      clear hK K; intro ν
      repeat (first | with_reducible (first | refine aWp_seq ?_ | refine seq_normal ?_ | refine seq_ret ?_ | refine seq_exit ?_ | refine blk_normal ?_ | refine blk_ret ?_ | refine blk_hit ?_ | refine blk_miss rfl ?_ | refine aWp_ret ?_ | refine aWp_skip ?_ | refine aWp_block ?_ | refine aWp_exit ?_ | refine end_ret ?_ | refine end_normal ?_) | ((refine rgA ?_); intro ν) | ((with_reducible apply cndT); exact rfl; (first | rfl | assumption)) | ((with_reducible apply cndF); exact rfl; (first | rfl | assumption)))
      refine rgx [] (by kernel_rfl) fun K hK => ?_
      refine stxA ?_
      rw [hnT]
      refine stxA ?_
      ((first | ((with_reducible refine x0 ?_ ?_); exact rfl) | ((with_reducible refine x1 ?_ ?_ ?_); exact rfl; (with_reducible apply gt_); exact rfl; exact rfl; (first | rfl | assumption | (simp [*] <;> done)))); refine xcA (h2 := (s1)) (hk := ?_))
      refine stxA ?_
      with_reducible refine xz ?_
      refine hK _ _ _ ?_
      clear hK K; intro ν
      repeat (first | with_reducible (first | refine aWp_seq ?_ | refine seq_normal ?_ | refine seq_ret ?_ | refine seq_exit ?_ | refine blk_normal ?_ | refine blk_ret ?_ | refine blk_hit ?_ | refine blk_miss rfl ?_ | refine aWp_ret ?_ | refine aWp_skip ?_ | refine aWp_block ?_ | refine aWp_exit ?_ | refine end_ret ?_ | refine end_normal ?_) | ((refine rgA ?_); intro ν) | ((with_reducible apply cndT); exact rfl; (first | rfl | assumption)) | ((with_reducible apply cndF); exact rfl; (first | rfl | assumption)))
      (first | with_reducible refine end_r ?_ | with_reducible refine end_n ?_); refine en2 ?_
      rfl
    | some x =>
      have hxl := hop x rfl
      have s3 := fun f1 f2 => s2 f1 f2 x hxl
      clear s2 hop
      rw [ropenR] at s1
      show Spec _ _ _ (.k (ropenR (if _ then some x else none)))
      generalize hY : sealedB kE kM ((s.take 40).drop 24) x id gen = Y at *
      have hYa := aOfBytes_len Y
      have hxa := aOfBytes_len x
      by_cases q : Y = s
      · rw [if_pos q, ropenR]
        refine spec_of (fun _ => false) (by kernel_rfl) Try.func27 rfl rfl (by simp [Try.ntmps27]) (by decide) ?_
        intro δ
        rw [init5S]
        repeat with_reducible (first | refine aWp_seq ?_ | refine seq_normal ?_ | refine seq_ret ?_ | refine seq_exit ?_ | refine blk_normal ?_ | refine blk_ret ?_ | refine blk_hit ?_ | refine blk_miss rfl ?_ | refine aWp_ret ?_ | refine aWp_skip ?_ | refine aWp_block ?_ | refine aWp_exit ?_ | refine end_ret ?_ | refine end_normal ?_)
        refine rg fun K hK => ?_
        refine stA ?_
        refine rzp (t := 6) rfl rfl ?_
        refine hK _ _ _ ?_
        clear hK K; intro ν
        repeat (first | with_reducible (first | refine aWp_seq ?_ | refine seq_normal ?_ | refine seq_ret ?_ | refine seq_exit ?_ | refine blk_normal ?_ | refine blk_ret ?_ | refine blk_hit ?_ | refine blk_miss rfl ?_ | refine aWp_ret ?_ | refine aWp_skip ?_ | refine aWp_block ?_ | refine aWp_exit ?_ | refine end_ret ?_ | refine end_normal ?_) | ((refine rgA ?_); intro ν) | ((with_reducible apply cndT); exact rfl; (first | rfl | assumption)) | ((with_reducible apply cndF); exact rfl; (first | rfl | assumption)))
        refine rgx [] (by kernel_rfl) fun K hK => ?_
        refine stxA ?_
        rw [hnT]
        refine stxA ?_
        ((first | ((with_reducible refine x0 ?_ ?_); exact rfl) | ((with_reducible refine x1 ?_ ?_ ?_); exact rfl; (with_reducible apply gt_); exact rfl; exact rfl; (first | rfl | assumption | (simp [*] <;> done)))); refine xcA (h2 := (s1)) (hk := ?_))
        refine stxA ?_
        with_reducible refine xz ?_
        refine hK _ _ _ ?_
        clear hK K; intro ν
        repeat (first | with_reducible (first | refine aWp_seq ?_ | refine seq_normal ?_ | refine seq_ret ?_ | refine seq_exit ?_ | refine blk_normal ?_ | refine blk_ret ?_ | refine blk_hit ?_ | refine blk_miss rfl ?_ | refine aWp_ret ?_ | refine aWp_skip ?_ | refine aWp_block ?_ | refine aWp_exit ?_ | refine end_ret ?_ | refine end_normal ?_) | ((refine rgA ?_); intro ν) | ((with_reducible apply cndT); exact rfl; (first | rfl | assumption)) | ((with_reducible apply cndF); exact rfl; (first | rfl | assumption)))
        refine rgx [(0,[5],[])] (by kernel_rfl) fun K hK => ?_
        refine stxA ?_
        ((first | ((with_reducible refine x0 ?_ ?_); exact rfl) | ((with_reducible refine x1 ?_ ?_ ?_); exact rfl; (with_reducible apply gt_); exact rfl; exact rfl; (first | rfl | assumption | (simp [*] <;> done)))); refine xcA (h2 := (s3 _ _)) (hk := ?_))
        refine stxA ?_
        with_reducible refine xz ?_
        refine hK _ _ _ ?_
        clear hK K; intro ν
        repeat (first | with_reducible (first | refine aWp_seq ?_ | refine seq_normal ?_ | refine seq_ret ?_ | refine seq_exit ?_ | refine blk_normal ?_ | refine blk_ret ?_ | refine blk_hit ?_ | refine blk_miss rfl ?_ | refine aWp_ret ?_ | refine aWp_skip ?_ | refine aWp_block ?_ | refine aWp_exit ?_ | refine end_ret ?_ | refine end_normal ?_) | ((refine rgA ?_); intro ν) | ((with_reducible apply cndT); exact rfl; (first | rfl | assumption)) | ((with_reducible apply cndF); exact rfl; (first | rfl | assumption)))
        (first | with_reducible refine end_r ?_ | with_reducible refine end_n ?_); refine en2 ?_
        rfl
      · rw [if_neg q, ropenR]
        refine spec_of (fun _ => false) (by kernel_rfl) Try.func27 rfl rfl (by simp [Try.ntmps27]) (by decide) ?_
        intro δ
        rw [init5S]
        repeat with_reducible (first | refine aWp_seq ?_ | refine seq_normal ?_ | refine seq_ret ?_ | refine seq_exit ?_ | refine blk_normal ?_ | refine blk_ret ?_ | refine blk_hit ?_ | refine blk_miss rfl ?_ | refine aWp_ret ?_ | refine aWp_skip ?_ | refine aWp_block ?_ | refine aWp_exit ?_ | refine end_ret ?_ | refine end_normal ?_)
        refine rg fun K hK => ?_
        refine stA ?_
        refine rzp (t := 6) rfl rfl ?_
        refine hK _ _ _ ?_
        clear hK K; intro ν
        repeat (first | with_reducible (first | refine aWp_seq ?_ | refine seq_normal ?_ | refine seq_ret ?_ | refine seq_exit ?_ | refine blk_normal ?_ | refine blk_ret ?_ | refine blk_hit ?_ | refine blk_miss rfl ?_ | refine aWp_ret ?_ | refine aWp_skip ?_ | refine aWp_block ?_ | refine aWp_exit ?_ | refine end_ret ?_ | refine end_normal ?_) | ((refine rgA ?_); intro ν) | ((with_reducible apply cndT); exact rfl; (first | rfl | assumption)) | ((with_reducible apply cndF); exact rfl; (first | rfl | assumption)))
        refine rgx [] (by kernel_rfl) fun K hK => ?_
        refine stxA ?_
        rw [hnT]
        refine stxA ?_
        ((first | ((with_reducible refine x0 ?_ ?_); exact rfl) | ((with_reducible refine x1 ?_ ?_ ?_); exact rfl; (with_reducible apply gt_); exact rfl; exact rfl; (first | rfl | assumption | (simp [*] <;> done)))); refine xcA (h2 := (s1)) (hk := ?_))
        refine stxA ?_
        with_reducible refine xz ?_
        refine hK _ _ _ ?_
        clear hK K; intro ν
        repeat (first | with_reducible (first | refine aWp_seq ?_ | refine seq_normal ?_ | refine seq_ret ?_ | refine seq_exit ?_ | refine blk_normal ?_ | refine blk_ret ?_ | refine blk_hit ?_ | refine blk_miss rfl ?_ | refine aWp_ret ?_ | refine aWp_skip ?_ | refine aWp_block ?_ | refine aWp_exit ?_ | refine end_ret ?_ | refine end_normal ?_) | ((refine rgA ?_); intro ν) | ((with_reducible apply cndT); exact rfl; (first | rfl | assumption)) | ((with_reducible apply cndF); exact rfl; (first | rfl | assumption)))
        refine rgx [(0,[5],[])] (by kernel_rfl) fun K hK => ?_
        refine stxA ?_
        ((first | ((with_reducible refine x0 ?_ ?_); exact rfl) | ((with_reducible refine x1 ?_ ?_ ?_); exact rfl; (with_reducible apply gt_); exact rfl; exact rfl; (first | rfl | assumption | (simp [*] <;> done)))); refine xcA (h2 := (s3 _ _)) (hk := ?_))
        refine stxA ?_
        with_reducible refine xz ?_
        refine hK _ _ _ ?_
        clear hK K; intro ν
        repeat (first | with_reducible (first | refine aWp_seq ?_ | refine seq_normal ?_ | refine seq_ret ?_ | refine seq_exit ?_ | refine blk_normal ?_ | refine blk_ret ?_ | refine blk_hit ?_ | refine blk_miss rfl ?_ | refine aWp_ret ?_ | refine aWp_skip ?_ | refine aWp_block ?_ | refine aWp_exit ?_ | refine end_ret ?_ | refine end_normal ?_) | ((refine rgA ?_); intro ν) | ((with_reducible apply cndT); exact rfl; (first | rfl | assumption)) | ((with_reducible apply cndF); exact rfl; (first | rfl | assumption)))
        (first | with_reducible refine end_r ?_ | with_reducible refine end_n ?_); refine en2 ?_
        rfl
end Go.Proofs.Ytmbnclpgldglnaa
