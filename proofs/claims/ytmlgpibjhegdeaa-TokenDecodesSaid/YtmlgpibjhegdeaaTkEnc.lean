import Derived.Test.YtmlgpibjhegdeaaTkMod
namespace Go.Proofs.Ytmlgpibjhegdeaa
open Go.RowKit
set_option linter.unusedVariables false
set_option linter.unusedSimpArgs false
set_option maxRecDepth 20000
set_option maxHeartbeats 4000000 in
theorem tenc_spec (full : Bool) (ts : List TkV) (hb : ts.length ≤ 65536) : Spec Try.prog 28 [.sl full ts.length (tkCells ts)] (.k (encR true ts)) := by
  refine spec_of (fun _ => false) (by kernel_rfl) Try.func28 rfl rfl (by simp [Try.ntmps28]) (by decide) ?_
  intro δ
  rw [init1]
  repeat (first | with_reducible (first | refine aWp_seq ?_ | refine seq_normal ?_ | refine seq_ret ?_ | refine seq_exit ?_ | refine blk_normal ?_ | refine blk_ret ?_ | refine blk_hit ?_ | refine blk_miss rfl ?_ | refine aWp_ret ?_ | refine aWp_skip ?_ | refine aWp_block ?_ | refine aWp_exit ?_ | refine end_ret ?_ | refine end_normal ?_) | ((refine rgA ?_); intro ν) | ((with_reducible apply cndT); exact rfl; (first | rfl | assumption)) | ((with_reducible apply cndF); exact rfl; (first | rfl | assumption)))
  refine aWp_loop (fun m s => ∃ F T ν i x bs, m = ts.length - i ∧ i ≤ ts.length ∧ (ts.take i).all TkV.good = true ∧ bs = encL (ts.take i) ∧ s = ⟨F, T, ν, ⟨fun _ => false, δ, false⟩⟩ ∧
    F 7 = .k (.sl full ts.length (tkCells ts)) ∧ F 8 = .k (.int .i64 ts.length) ∧ F 9 = .k (.int .i64 (i : Nat)) ∧ F 4 = x ∧ Acc 5 [28, 48] T x bs.length (aOfBytes bs)) ts.length ⟨_, _, _, 0, _, [], rfl, Nat.zero_le _, rfl, rfl, rfl, rfl, rfl, rfl, rfl, .nil⟩ ?_
  rintro m s ⟨F, T, ν, i, x, bs, rfl, hi, hgood, hbs, rfl, h7, h8, h9, h4, hacc⟩
  have hlen := tkCells_len ts
  rw [has4 h7 h8 h9 h4]
  repeat with_reducible (first | refine aWp_seq ?_ | refine seq_normal ?_ | refine seq_ret ?_ | refine seq_exit ?_ | refine blk_normal ?_ | refine blk_ret ?_ | refine blk_hit ?_ | refine blk_miss rfl ?_ | refine aWp_ret ?_ | refine aWp_skip ?_ | refine aWp_block ?_ | refine aWp_exit ?_ | refine end_ret ?_ | refine end_normal ?_)
  by_cases hlt : i < ts.length
  · obtain ⟨t, ht⟩ : ∃ t, ts[i]? = some t := ⟨ts[i], by simp [hlt]⟩
    have hld : ldAgg (.st [(0, 1), (1, 1), (2, 1)]) 3 (List.drop (i * 3) (tkCells ts)) = some (.agg [.sl t.full t.lit.length (aOfBytes t.lit), .int .i64 t.len, .int .i64 t.dist]) := by rw [tkCells_drop ts i t ht]; simp [ldAgg, TkV.av]
    have hble : bs.length ≤ 65536 * 129 := by have := encL_le hgood; rw [← hbs, List.length_take] at this; omega
    have hal := aOfBytes_len bs
    have hal2 := aOfBytes_len t.lit
    have hel := encL_take ht
    rw [← hbs] at hel
    repeat (first | with_reducible (first | refine aWp_seq ?_ | refine seq_normal ?_ | refine seq_ret ?_ | refine seq_exit ?_ | refine blk_normal ?_ | refine blk_ret ?_ | refine blk_hit ?_ | refine blk_miss rfl ?_ | refine aWp_ret ?_ | refine aWp_skip ?_ | refine aWp_block ?_ | refine aWp_exit ?_ | refine end_ret ?_ | refine end_normal ?_) | ((refine rgA ?_); intro ν) | ((with_reducible apply cndT); exact rfl; (first | rfl | assumption)) | ((with_reducible apply cndF); exact rfl; (first | rfl | assumption)))
    refine rg fun K hK => ?_
    refine stA ?_
    (first | with_reducible refine g0 ?_ | ((with_reducible refine g1 ?_ ?_); (with_reducible apply gt_); exact rfl; exact rfl; (first | rfl | assumption | (simp [*] <;> done)))); refine scA (h2 := (good_spec _ _ _ _ _)) (hk := ?_)
    refine stA ?_
    with_reducible refine rz ?_
    refine hK _ _ _ ?_
    clear hK K; intro ν
    repeat with_reducible (first | refine aWp_seq ?_ | refine seq_normal ?_ | refine seq_ret ?_ | refine seq_exit ?_ | refine blk_normal ?_ | refine blk_ret ?_ | refine blk_hit ?_ | refine blk_miss rfl ?_ | refine aWp_ret ?_ | refine aWp_skip ?_ | refine aWp_block ?_ | refine aWp_exit ?_ | refine end_ret ?_ | refine end_normal ?_)
    by_cases hg : t.good = true
    · have hg' : (!goodB t.lit.length t.len t.dist) = false := by rw [show goodB t.lit.length t.len t.dist = true from hg]; rfl
      have hgl := good_lit hg
      have hall := all_take ht hgood hg
      by_cases hl : t.lit = []
      · have hl0 : t.lit.length = 0 := by rw [hl]; rfl
        obtain ⟨q1, q2, q3, q4, q5⟩ := enc_pair hl hg
        rcases hacc with ⟨rfl, hn, hc⟩ | ⟨d, g, hd, rfl, hT⟩
        · have hb0 : bs = [] := List.length_eq_zero_iff.1 hn
          repeat (first | with_reducible (first | refine aWp_seq ?_ | refine seq_normal ?_ | refine seq_ret ?_ | refine seq_exit ?_ | refine blk_normal ?_ | refine blk_ret ?_ | refine blk_hit ?_ | refine blk_miss rfl ?_ | refine aWp_ret ?_ | refine aWp_skip ?_ | refine aWp_block ?_ | refine aWp_exit ?_ | refine end_ret ?_ | refine end_normal ?_) | ((refine rgA ?_); intro ν) | ((with_reducible apply cndT); exact rfl; (first | rfl | assumption)) | ((with_reducible apply cndF); exact rfl; (first | rfl | assumption)))
          refine ⟨ts.length - (i + 1), by omega, _, _, _, i + 1, _, encL (ts.take (i + 1)), rfl, by omega, hall, rfl, rfl, rfl, rfl, rfl, rfl, .ow (by simp) rfl ?_ ?_⟩
          · have h5 := congrArg List.length q5
            rw [aOfBytes_len] at h5
            simp only [List.length_cons, List.length_nil] at h5
            rw [hel, List.length_append, hb0]; simp; omega
          · rw [hel, aOfBytes_append, q5, hb0, ← IntKind.wrap_u8]; rfl
        · simp only [List.mem_cons, List.not_mem_nil, or_false] at hd
          rw [upd_self hT]
          rcases hd with rfl | rfl
          iterate 2
            · repeat (first | with_reducible (first | refine aWp_seq ?_ | refine seq_normal ?_ | refine seq_ret ?_ | refine seq_exit ?_ | refine blk_normal ?_ | refine blk_ret ?_ | refine blk_hit ?_ | refine blk_miss rfl ?_ | refine aWp_ret ?_ | refine aWp_skip ?_ | refine aWp_block ?_ | refine aWp_exit ?_ | refine end_ret ?_ | refine end_normal ?_) | ((refine rgA ?_); intro ν) | ((with_reducible apply cndT); exact rfl; (first | rfl | assumption)) | ((with_reducible apply cndF); exact rfl; (first | rfl | assumption)))
              refine ⟨ts.length - (i + 1), by omega, _, _, _, i + 1, _, encL (ts.take (i + 1)), rfl, by omega, hall, rfl, rfl, rfl, rfl, rfl, rfl, .ow (by simp) rfl ?_ ?_⟩
              · have h5 := congrArg List.length q5
                rw [aOfBytes_len] at h5
                simp only [List.length_cons, List.length_nil] at h5
                rw [hel, List.length_append]; omega
              · rw [hel, aOfBytes_append, q5, ← IntKind.wrap_u8]
      · have hl0 := List.length_pos_iff.2 hl
        have q5 := enc_lit hl hg
        rcases hacc with ⟨rfl, hn, hc⟩ | ⟨d, g, hd, rfl, hT⟩
        · have hb0 : bs = [] := List.length_eq_zero_iff.1 hn
          repeat (first | with_reducible (first | refine aWp_seq ?_ | refine seq_normal ?_ | refine seq_ret ?_ | refine seq_exit ?_ | refine blk_normal ?_ | refine blk_ret ?_ | refine blk_hit ?_ | refine blk_miss rfl ?_ | refine aWp_ret ?_ | refine aWp_skip ?_ | refine aWp_block ?_ | refine aWp_exit ?_ | refine end_ret ?_ | refine end_normal ?_) | ((refine rgA ?_); intro ν) | ((with_reducible apply cndT); exact rfl; (first | rfl | assumption)) | ((with_reducible apply cndF); exact rfl; (first | rfl | assumption)))
          refine rgxA [(2, [6], []), (7, [28, 48, 44], [45, 28, 48, 44]), (9, [6], []), (10, [45], [48, 45])] ?_
          intro ν
          repeat (first | with_reducible (first | refine aWp_seq ?_ | refine seq_normal ?_ | refine seq_ret ?_ | refine seq_exit ?_ | refine blk_normal ?_ | refine blk_ret ?_ | refine blk_hit ?_ | refine blk_miss rfl ?_ | refine aWp_ret ?_ | refine aWp_skip ?_ | refine aWp_block ?_ | refine aWp_exit ?_ | refine end_ret ?_ | refine end_normal ?_) | ((refine rgA ?_); intro ν) | ((with_reducible apply cndT); exact rfl; (first | rfl | assumption)) | ((with_reducible apply cndF); exact rfl; (first | rfl | assumption)))
          refine ⟨ts.length - (i + 1), by omega, _, _, _, i + 1, _, encL (ts.take (i + 1)), rfl, by omega, hall, rfl, rfl, rfl, rfl, rfl, rfl, .ow (by simp) rfl ?_ ?_⟩
          · have h5 := congrArg List.length q5
            rw [aOfBytes_len] at h5
            simp only [List.length_cons, aOfBytes_len] at h5
            rw [hel, List.length_append, hb0]; simp; omega
          · rw [hel, aOfBytes_append, q5, hb0]; rfl
        · simp only [List.mem_cons, List.not_mem_nil, or_false] at hd
          rw [upd_self hT]
          rcases hd with rfl | rfl
          iterate 2
            · repeat (first | with_reducible (first | refine aWp_seq ?_ | refine seq_normal ?_ | refine seq_ret ?_ | refine seq_exit ?_ | refine blk_normal ?_ | refine blk_ret ?_ | refine blk_hit ?_ | refine blk_miss rfl ?_ | refine aWp_ret ?_ | refine aWp_skip ?_ | refine aWp_block ?_ | refine aWp_exit ?_ | refine end_ret ?_ | refine end_normal ?_) | ((refine rgA ?_); intro ν) | ((with_reducible apply cndT); exact rfl; (first | rfl | assumption)) | ((with_reducible apply cndF); exact rfl; (first | rfl | assumption)))
              refine rgxA [(2, [6], []), (7, [28, 48, 44], [45, 28, 48, 44]), (9, [6], []), (10, [45], [48, 45])] ?_
              intro ν
              repeat (first | with_reducible (first | refine aWp_seq ?_ | refine seq_normal ?_ | refine seq_ret ?_ | refine seq_exit ?_ | refine blk_normal ?_ | refine blk_ret ?_ | refine blk_hit ?_ | refine blk_miss rfl ?_ | refine aWp_ret ?_ | refine aWp_skip ?_ | refine aWp_block ?_ | refine aWp_exit ?_ | refine end_ret ?_ | refine end_normal ?_) | ((refine rgA ?_); intro ν) | ((with_reducible apply cndT); exact rfl; (first | rfl | assumption)) | ((with_reducible apply cndF); exact rfl; (first | rfl | assumption)))
              refine ⟨ts.length - (i + 1), by omega, _, _, _, i + 1, _, encL (ts.take (i + 1)), rfl, by omega, hall, rfl, rfl, rfl, rfl, rfl, rfl, .ow (by simp) rfl ?_ ?_⟩
              · have h5 := congrArg List.length q5
                rw [aOfBytes_len] at h5
                simp only [List.length_cons, aOfBytes_len] at h5
                rw [hel, List.length_append]; omega
              · rw [hel, aOfBytes_append, q5]; simp
    · have hg' : (!goodB t.lit.length t.len t.dist) = true := by rw [show goodB t.lit.length t.len t.dist = false from (by cases h : goodB t.lit.length t.len t.dist with | true => exact absurd h hg | false => rfl)]; rfl
      repeat (first | with_reducible (first | refine aWp_seq ?_ | refine seq_normal ?_ | refine seq_ret ?_ | refine seq_exit ?_ | refine blk_normal ?_ | refine blk_ret ?_ | refine blk_hit ?_ | refine blk_miss rfl ?_ | refine aWp_ret ?_ | refine aWp_skip ?_ | refine aWp_block ?_ | refine aWp_exit ?_ | refine end_ret ?_ | refine end_normal ?_) | ((refine rgA ?_); intro ν) | ((with_reducible apply cndT); exact rfl; (first | rfl | assumption)) | ((with_reducible apply cndF); exact rfl; (first | rfl | assumption)))
      (first | with_reducible refine end_r ?_ | with_reducible refine end_n ?_); refine en2 ?_
      rw [encR, if_neg]
      intro hc
      exact hg (List.all_eq_true.1 hc t (List.mem_of_getElem? ht))
  · have hie : i = ts.length := by omega
    subst hie
    rw [List.take_length] at hgood hbs
    rcases hacc with ⟨rfl, hn, hc⟩ | ⟨d, g, hd, rfl, hT⟩
    · repeat (first | with_reducible (first | refine aWp_seq ?_ | refine seq_normal ?_ | refine seq_ret ?_ | refine seq_exit ?_ | refine blk_normal ?_ | refine blk_ret ?_ | refine blk_hit ?_ | refine blk_miss rfl ?_ | refine aWp_ret ?_ | refine aWp_skip ?_ | refine aWp_block ?_ | refine aWp_exit ?_ | refine end_ret ?_ | refine end_normal ?_) | ((refine rgA ?_); intro ν) | ((with_reducible apply cndT); exact rfl; (first | rfl | assumption)) | ((with_reducible apply cndF); exact rfl; (first | rfl | assumption)))
      refine rg fun K hK => ?_
      refine stA ?_
      (first | with_reducible refine g0 ?_ | ((with_reducible refine g1 ?_ ?_); (with_reducible apply gt_); exact rfl; exact rfl; (first | rfl | assumption | (simp [*] <;> done)))); refine scA (h2 := (clip_spec true 0 [] rfl)) (hk := ?_)
      refine stA ?_
      with_reducible refine rz ?_
      refine hK _ _ _ ?_
      clear hK K; intro ν
      repeat (first | with_reducible (first | refine aWp_seq ?_ | refine seq_normal ?_ | refine seq_ret ?_ | refine seq_exit ?_ | refine blk_normal ?_ | refine blk_ret ?_ | refine blk_hit ?_ | refine blk_miss rfl ?_ | refine aWp_ret ?_ | refine aWp_skip ?_ | refine aWp_block ?_ | refine aWp_exit ?_ | refine end_ret ?_ | refine end_normal ?_) | ((refine rgA ?_); intro ν) | ((with_reducible apply cndT); exact rfl; (first | rfl | assumption)) | ((with_reducible apply cndF); exact rfl; (first | rfl | assumption)))
      (first | with_reducible refine end_r ?_ | with_reducible refine end_n ?_); refine en2 ?_
      have : bs = [] := List.length_eq_zero_iff.1 hn
      rw [encR, if_pos hgood, ← hbs, this]; rfl
    · repeat (first | with_reducible (first | refine aWp_seq ?_ | refine seq_normal ?_ | refine seq_ret ?_ | refine seq_exit ?_ | refine blk_normal ?_ | refine blk_ret ?_ | refine blk_hit ?_ | refine blk_miss rfl ?_ | refine aWp_ret ?_ | refine aWp_skip ?_ | refine aWp_block ?_ | refine aWp_exit ?_ | refine end_ret ?_ | refine end_normal ?_) | ((refine rgA ?_); intro ν) | ((with_reducible apply cndT); exact rfl; (first | rfl | assumption)) | ((with_reducible apply cndF); exact rfl; (first | rfl | assumption)))
      refine rg fun K hK => ?_
      refine stA ?_
      (first | with_reducible refine g0 ?_ | ((with_reducible refine g1 ?_ ?_); (with_reducible apply gt_); exact rfl; exact rfl; (first | rfl | assumption | (simp [*] <;> done)))); refine scA (h2 := (clip_spec _ _ _ (aOfBytes_len bs))) (hk := ?_)
      refine stA ?_
      with_reducible refine rz ?_
      refine hK _ _ _ ?_
      clear hK K; intro ν
      repeat (first | with_reducible (first | refine aWp_seq ?_ | refine seq_normal ?_ | refine seq_ret ?_ | refine seq_exit ?_ | refine blk_normal ?_ | refine blk_ret ?_ | refine blk_hit ?_ | refine blk_miss rfl ?_ | refine aWp_ret ?_ | refine aWp_skip ?_ | refine aWp_block ?_ | refine aWp_exit ?_ | refine end_ret ?_ | refine end_normal ?_) | ((refine rgA ?_); intro ν) | ((with_reducible apply cndT); exact rfl; (first | rfl | assumption)) | ((with_reducible apply cndF); exact rfl; (first | rfl | assumption)))
      (first | with_reducible refine end_r ?_ | with_reducible refine end_n ?_); refine en2 ?_
      rw [encR, if_pos hgood, ← hbs]
end Go.Proofs.Ytmlgpibjhegdeaa
