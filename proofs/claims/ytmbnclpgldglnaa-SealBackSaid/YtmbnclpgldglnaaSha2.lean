import Derived.Test.YtmbnclpgldglnaaSha1
import Derived.Test.YtmbnclpgldglnaaShaPure
namespace Go.Proofs.Ytmbnclpgldglnaa
open Go.RowKit
set_option linter.unusedVariables false
set_option linter.unusedSimpArgs false
set_option maxRecDepth 20000
set_option maxHeartbeats 8000000 in
theorem schedule_spec (full : Bool) (b : List UInt8) (hb : b.length = 64) : Spec Try.prog 108 [.sl full 64 (aOfBytes b)] (.k (.agg (aOfW (sched b 64)))) := by
  refine spec_of (fun _ => false) (by kernel_rfl) Try.func108 rfl rfl (by simp [Try.ntmps108]) (by decide) ?_
  intro δ
  rw [init1]
  have hba := aOfBytes_len b
  repeat (first | with_reducible (first | refine aWp_seq ?_ | refine seq_normal ?_ | refine seq_ret ?_ | refine seq_exit ?_ | refine blk_normal ?_ | refine blk_ret ?_ | refine blk_hit ?_ | refine blk_miss rfl ?_ | refine aWp_ret ?_ | refine aWp_skip ?_ | refine aWp_block ?_ | refine aWp_exit ?_ | refine end_ret ?_ | refine end_normal ?_) | ((refine rgA ?_); intro ν) | ((with_reducible apply cndT); exact rfl; (first | rfl | assumption)) | ((with_reducible apply cndF); exact rfl; (first | rfl | assumption)))
  refine aWp_loop (fun m s => ∃ F T ν t g g2, m = 64 - t ∧ t ≤ 64 ∧ s = ⟨F, T, ν, ⟨fun _ => false, δ, false⟩⟩ ∧
    F 0 = .k (.sl full 64 (aOfBytes b)) ∧ F 2 = .ob 2 g2 0 ∧ F 3 = .ob 3 g 0 ∧ F 7 = .k (.int .i64 (t : Nat)) ∧ T 2 = some (g2, .obj (List.replicate 64 (.int .u32 0))) ∧ T 3 = some (g, .obj (aOfW (sched b t) ++ List.replicate (64 - t) (.int .u32 0)))) 64 ⟨_, _, _, 0, _, _, rfl, Nat.zero_le _, rfl, rfl, rfl, rfl, rfl, rfl, rfl⟩ ?_
  rintro m s ⟨F, T, ν, t, g, g2, rfl, ht, rfl, f0, f2, f3, f7, t2, t3⟩
  rw [has4 f0 f2 f3 f7, has2 t2 t3]
  have hsl := sched_len b t
  have hlen : (aOfW (sched b t) ++ List.replicate (64 - t) (AV.int .u32 0)).length = 64 := by rw [List.length_append, aOfW_len, hsl, List.length_replicate]; omega
  repeat with_reducible (first | refine aWp_seq ?_ | refine seq_normal ?_ | refine seq_ret ?_ | refine seq_exit ?_ | refine blk_normal ?_ | refine blk_ret ?_ | refine blk_hit ?_ | refine blk_miss rfl ?_ | refine aWp_ret ?_ | refine aWp_skip ?_ | refine aWp_block ?_ | refine aWp_exit ?_ | refine end_ret ?_ | refine end_normal ?_)
  by_cases hlt : t < 64
  · have fin : ∀ v, v = schW b (sched b t) t → List.take t (aOfW (sched b t) ++ List.replicate (64 - t) (AV.int .u32 0)) ++ [AV.int .u32 (n32 v)] ++ List.drop (t + 1) (aOfW (sched b t) ++ List.replicate (64 - t) (AV.int .u32 0)) = aOfW (sched b (t + 1)) ++ List.replicate (64 - (t + 1)) (AV.int .u32 0) := by
      rintro v rfl
      rw [fill_next (by rw [aOfW_len, hsl]) hlt, sched, aOfW_append]; rfl
    by_cases h16 : t < 16
    · have l0 := ld_b b (4 * (t : Int)).toNat (by omega)
      have l1 := ld_b b (4 * (t : Int) + 1).toNat (by omega)
      have l2 := ld_b b (4 * (t : Int) + 2).toNat (by omega)
      have l3 := ld_b b (4 * (t : Int) + 3).toNat (by omega)
      repeat (first | with_reducible (first | refine aWp_seq ?_ | refine seq_normal ?_ | refine seq_ret ?_ | refine seq_exit ?_ | refine blk_normal ?_ | refine blk_ret ?_ | refine blk_hit ?_ | refine blk_miss rfl ?_ | refine aWp_ret ?_ | refine aWp_skip ?_ | refine aWp_block ?_ | refine aWp_exit ?_ | refine end_ret ?_ | refine end_normal ?_) | ((refine rgA ?_); intro ν) | ((with_reducible apply cndT); exact rfl; (first | rfl | assumption)) | ((with_reducible apply cndF); exact rfl; (first | rfl | assumption)))
      refine rgxA [(35,[3],[3])] ?_
      intro ν
      repeat (first | with_reducible (first | refine aWp_seq ?_ | refine seq_normal ?_ | refine seq_ret ?_ | refine seq_exit ?_ | refine blk_normal ?_ | refine blk_ret ?_ | refine blk_hit ?_ | refine blk_miss rfl ?_ | refine aWp_ret ?_ | refine aWp_skip ?_ | refine aWp_block ?_ | refine aWp_exit ?_ | refine end_ret ?_ | refine end_normal ?_) | ((refine rgA ?_); intro ν) | ((with_reducible apply cndT); exact rfl; (first | rfl | assumption)) | ((with_reducible apply cndF); exact rfl; (first | rfl | assumption)))
      refine ⟨64 - (t + 1), by omega, _, _, _, t + 1, g, g2, rfl, by omega, rfl, rfl, rfl, rfl, ?_, rfl, ?_⟩
      · show (SV.k (.int .i64 ((t : Int) + 1)) : SV) = _
        rw [Int.natCast_succ]
      · rw [upd_same, fin]
        rw [schW, if_pos h16, beW, show (4 * (t : Int)).toNat = 4 * t by omega, show (4 * (t : Int) + 1).toNat = 4 * t + 1 by omega, show (4 * (t : Int) + 2).toNat = 4 * t + 2 by omega, show (4 * (t : Int) + 3).toNat = 4 * t + 3 by omega]
    · have l2 := ld_w (sched b t) (List.replicate (64 - t) (AV.int .u32 0)) ((t : Int) - 2).toNat (by omega)
      have l15 := ld_w (sched b t) (List.replicate (64 - t) (AV.int .u32 0)) ((t : Int) - 15).toNat (by omega)
      have l7 := ld_w (sched b t) (List.replicate (64 - t) (AV.int .u32 0)) ((t : Int) - 7).toNat (by omega)
      have l16 := ld_w (sched b t) (List.replicate (64 - t) (AV.int .u32 0)) ((t : Int) - 16).toNat (by omega)
      repeat (first | with_reducible (first | refine aWp_seq ?_ | refine seq_normal ?_ | refine seq_ret ?_ | refine seq_exit ?_ | refine blk_normal ?_ | refine blk_ret ?_ | refine blk_hit ?_ | refine blk_miss rfl ?_ | refine aWp_ret ?_ | refine aWp_skip ?_ | refine aWp_block ?_ | refine aWp_exit ?_ | refine end_ret ?_ | refine end_normal ?_) | ((refine rgA ?_); intro ν) | ((with_reducible apply cndT); exact rfl; (first | rfl | assumption)) | ((with_reducible apply cndF); exact rfl; (first | rfl | assumption)))
      refine rgxA [(3,[3],[]),(7,[3],[])] ?_
      intro ν
      repeat with_reducible (first | refine aWp_seq ?_ | refine seq_normal ?_ | refine seq_ret ?_ | refine seq_exit ?_ | refine blk_normal ?_ | refine blk_ret ?_ | refine blk_hit ?_ | refine blk_miss rfl ?_ | refine aWp_ret ?_ | refine aWp_skip ?_ | refine aWp_block ?_ | refine aWp_exit ?_ | refine end_ret ?_ | refine end_normal ?_)
      refine rgx [(12,[3],[]),(26,[3],[]),(29,[3],[3])] (by kernel_rfl) fun K hK => ?_
      refine stxA ?_
      ((first | ((with_reducible refine x0 ?_ ?_); exact rfl) | ((with_reducible refine x1 ?_ ?_ ?_); exact rfl; (with_reducible apply gt_); exact rfl; exact rfl; (first | rfl | assumption | (simp [*] <;> done)))); refine xcA (h2 := (turn_spec _ 17 (by omega) (by omega) (by decide))) (hk := ?_))
      refine stxA ?_
      ((first | ((with_reducible refine x0 ?_ ?_); exact rfl) | ((with_reducible refine x1 ?_ ?_ ?_); exact rfl; (with_reducible apply gt_); exact rfl; exact rfl; (first | rfl | assumption | (simp [*] <;> done)))); refine xcA (h2 := (turn_spec _ 19 (by omega) (by omega) (by decide))) (hk := ?_))
      refine stxA ?_
      ((first | ((with_reducible refine x0 ?_ ?_); exact rfl) | ((with_reducible refine x1 ?_ ?_ ?_); exact rfl; (with_reducible apply gt_); exact rfl; exact rfl; (first | rfl | assumption | (simp [*] <;> done)))); refine xcA (h2 := (turn_spec _ 7 (by omega) (by omega) (by decide))) (hk := ?_))
      refine stxA ?_
      ((first | ((with_reducible refine x0 ?_ ?_); exact rfl) | ((with_reducible refine x1 ?_ ?_ ?_); exact rfl; (with_reducible apply gt_); exact rfl; exact rfl; (first | rfl | assumption | (simp [*] <;> done)))); refine xcA (h2 := (turn_spec _ 18 (by omega) (by omega) (by decide))) (hk := ?_))
      refine stxA ?_
      with_reducible refine xz ?_
      refine hK _ _ _ ?_
      clear hK K; intro ν
      repeat (first | with_reducible (first | refine aWp_seq ?_ | refine seq_normal ?_ | refine seq_ret ?_ | refine seq_exit ?_ | refine blk_normal ?_ | refine blk_ret ?_ | refine blk_hit ?_ | refine blk_miss rfl ?_ | refine aWp_ret ?_ | refine aWp_skip ?_ | refine aWp_block ?_ | refine aWp_exit ?_ | refine end_ret ?_ | refine end_normal ?_) | ((refine rgA ?_); intro ν) | ((with_reducible apply cndT); exact rfl; (first | rfl | assumption)) | ((with_reducible apply cndF); exact rfl; (first | rfl | assumption)))
      refine ⟨64 - (t + 1), by omega, _, _, _, t + 1, g, g2, rfl, by omega, rfl, rfl, rfl, rfl, ?_, rfl, ?_⟩
      · show (SV.k (.int .i64 ((t : Int) + 1)) : SV) = _
        rw [Int.natCast_succ]
      · rw [upd_same, fin]
        rw [schW, if_neg h16, show ((t : Int) - 2).toNat = t - 2 by omega, show ((t : Int) - 15).toNat = t - 15 by omega, show ((t : Int) - 7).toNat = t - 7 by omega, show ((t : Int) - 16).toNat = t - 16 by omega]; rfl
  · have he : t = 64 := by omega
    subst he
    rw [Nat.sub_self, List.replicate_zero, List.append_nil]
    rw [Nat.sub_self, List.replicate_zero, List.append_nil] at hlen
    clear t2 t3
    generalize sched b 64 = ws at *
    have h1 := ld_arr (n := 64) (e := 85) (aOfW ws) hlen
    repeat (first | with_reducible (first | refine aWp_seq ?_ | refine seq_normal ?_ | refine seq_ret ?_ | refine seq_exit ?_ | refine blk_normal ?_ | refine blk_ret ?_ | refine blk_hit ?_ | refine blk_miss rfl ?_ | refine aWp_ret ?_ | refine aWp_skip ?_ | refine aWp_block ?_ | refine aWp_exit ?_ | refine end_ret ?_ | refine end_normal ?_) | ((refine rgA ?_); intro ν) | ((with_reducible apply cndT); exact rfl; (first | rfl | assumption)) | ((with_reducible apply cndF); exact rfl; (first | rfl | assumption)))
    rw [drop_rep, List.append_nil]
    (first | with_reducible refine end_r ?_ | with_reducible refine end_n ?_); refine en1c ?_
    rfl
end Go.Proofs.Ytmbnclpgldglnaa
