import Derived.Test.YtmbnclpgldglnaaRseal2
import Derived.Test.YtmbnclpgldglnaaSeal4
namespace Go.Proofs.Ytmbnclpgldglnaa
open Go.RowKit
set_option linter.unusedVariables false
set_option linter.unusedSimpArgs false
set_option maxRecDepth 20000
theorem tag_none (full : Bool) (K s : List UInt8) (hK : K.length = 64) (h32 : s.length < 32) :
    Spec Try.prog 28 [.agg (aOfBytes K), .sl full s.length (aOfBytes s)] (.k (.tup [.agg (List.replicate 32 (.int .u8 0)), .bool false])) := by
  have hsa := aOfBytes_len s
  have hKa := aOfBytes_len K
  refine spec_of (fun _ => false) (by kernel_rfl) Try.func28 rfl rfl (by simp [Try.ntmps28]) (by decide) ?_
  intro δ
  rw [init2]
  repeat (first | with_reducible (first | refine aWp_seq ?_ | refine seq_normal ?_ | refine seq_ret ?_ | refine seq_exit ?_ | refine blk_normal ?_ | refine blk_ret ?_ | refine blk_hit ?_ | refine blk_miss rfl ?_ | refine aWp_ret ?_ | refine aWp_skip ?_ | refine aWp_block ?_ | refine aWp_exit ?_ | refine end_ret ?_ | refine end_normal ?_) | ((refine rgA ?_); intro ν) | ((with_reducible apply cndT); exact rfl; (first | rfl | assumption)) | ((with_reducible apply cndF); exact rfl; (first | rfl | assumption)))
  (first | with_reducible refine end_r ?_ | with_reducible refine end_n ?_); refine en2c ?_
  rfl
set_option maxHeartbeats 16000000 in
theorem law_SealOpens (kE kM s : List UInt8) (id gen : Int) (hE : kE.length = 32) (hM : kM.length = 32) (h1 : I64 id) (h2 : I64 gen) :
    Spec Try.prog 8 [.agg (aOfBytes (kE ++ kM)), .int .i64 id, .int .i64 gen, .sl false s.length (aOfBytes s)] (.k (.bool true)) := by
  have s0 := sums_spec
  have s3 := fun f (X : List UInt8) (h : X.length ≤ 400) => opened_spec f kE kM X id gen hE hM (by omega)
  have s4 := fun f (X : List UInt8) (h : X.length ≤ 400) => ropened_spec f kE kM X id gen hE hM (by omega)
  have hop := fun (X : List UInt8) (h : X.length ≤ 400) => ropn_eq kE kM X id gen h1 h2 (by omega)
  have s5 := fun f (X : List UInt8) (h : 32 ≤ X.length) (h4 : X.length ≤ 400) => tag_spec f kE kM X hE hM h (by omega)
  have hkl : (kE ++ kM).length = 64 := by rw [List.length_append, hE, hM]
  have s6 := fun f (X : List UInt8) (h : X.length < 32) => tag_none f (kE ++ kM) X hkl h
  have s7 := fun f2 (X : List UInt8) (h : X.length ≤ 400) => rmac_spec true f2 kM X (by omega) (by omega)
  have hsa := aOfBytes_len s
  have hKa := aOfBytes_len (kE ++ kM)
  have hMt : List.take 32 (List.drop 32 (aOfBytes (kE ++ kM))) = aOfBytes kM := by
    rw [aOfBytes_append, List.drop_left' (by rw [aOfBytes_len, hE]), List.take_of_length_le (by rw [aOfBytes_len, hM]; exact Nat.le_refl _)]
  rw [hM, ← hMt] at s7
  have lk : ∀ fs, ldAgg (.st fs) 64 (aOfBytes (kE ++ kM)) = some (.agg (aOfBytes (kE ++ kM))) := fun fs => by
    simp only [ldAgg]; rw [if_pos (by omega), List.take_of_length_le (by omega)]
  have lk4 : ldAgg (.st [(0, 32), (32, 32)]) 64 (List.drop 0 (aOfBytes (kE ++ kM))) = some (.agg (aOfBytes (kE ++ kM))) := lk [(0, 32), (32, 32)]
  have hml := fun (X : List UInt8) => macB_len kM X
  generalize kE ++ kM = K at *
  have hS : sumsA = .agg [.sl false 64 (aOfW wordsK), .sl false 8 (aOfW startH)] := rfl
  rw [hS] at s0
  simp only [hS] at s4 s7
  generalize AV.sl false 64 (aOfW wordsK) = SA at *
  generalize AV.sl false 8 (aOfW startH) = SB at *
  clear hS
  refine spec_of (fun _ => false) (by kernel_rfl) Try.func8 rfl rfl (by simp [Try.ntmps8]) (by decide) ?_
  intro δ
  rw [init4]
  repeat with_reducible (first | refine aWp_seq ?_ | refine seq_normal ?_ | refine seq_ret ?_ | refine seq_exit ?_ | refine blk_normal ?_ | refine blk_ret ?_ | refine blk_hit ?_ | refine blk_miss rfl ?_ | refine aWp_ret ?_ | refine aWp_skip ?_ | refine aWp_block ?_ | refine aWp_exit ?_ | refine end_ret ?_ | refine end_normal ?_)
  refine rg fun K hK => ?_
  refine stA ?_
  refine rzp (t := 4) rfl rfl ?_
  refine hK _ _ _ ?_
  clear hK K; intro ν
  repeat with_reducible (first | refine aWp_seq ?_ | refine seq_normal ?_ | refine seq_ret ?_ | refine seq_exit ?_ | refine blk_normal ?_ | refine blk_ret ?_ | refine blk_hit ?_ | refine blk_miss rfl ?_ | refine aWp_ret ?_ | refine aWp_skip ?_ | refine aWp_block ?_ | refine aWp_exit ?_ | refine end_ret ?_ | refine end_normal ?_)
  refine rgA ?_
  intro ν
  refine aWp_seq ?_
  refine aWp_cut (fun s => ∃ F T ν f X, s = ⟨F, T, ν, ⟨fun _ => false, δ, false⟩⟩ ∧ F 1 = .k (.int .i64 id) ∧ F 2 = .k (.int .i64 gen) ∧ F 4 = .k (.cp (aOfBytes K)) ∧ F 9 = .k (.sl f X.length (aOfBytes X)) ∧ X.length ≤ 400) ?_ ?_
  · by_cases h : 400 < s.length
    · repeat (first | with_reducible (first | refine aWp_seq ?_ | refine seq_normal ?_ | refine seq_ret ?_ | refine seq_exit ?_ | refine blk_normal ?_ | refine blk_ret ?_ | refine blk_hit ?_ | refine blk_miss rfl ?_ | refine aWp_ret ?_ | refine aWp_skip ?_ | refine aWp_block ?_ | refine aWp_exit ?_ | refine end_ret ?_ | refine end_normal ?_) | ((refine rgA ?_); intro ν) | ((with_reducible apply cndT); exact rfl; (first | rfl | assumption)) | ((with_reducible apply cndF); exact rfl; (first | rfl | assumption)))
      refine ⟨_, _, _, false, s.take 400, rfl, rfl, rfl, rfl, ?_, by simp; omega⟩
      rw [show (List.take 400 s).length = 400 by simp; omega, bytes_take']
      show SV.k (AV.sl (false && decide ((400 : Int) = (s.length : Int))) 400 _) = _
      rw [Bool.false_and]
    · repeat (first | with_reducible (first | refine aWp_seq ?_ | refine seq_normal ?_ | refine seq_ret ?_ | refine seq_exit ?_ | refine blk_normal ?_ | refine blk_ret ?_ | refine blk_hit ?_ | refine blk_miss rfl ?_ | refine aWp_ret ?_ | refine aWp_skip ?_ | refine aWp_block ?_ | refine aWp_exit ?_ | refine end_ret ?_ | refine end_normal ?_) | ((refine rgA ?_); intro ν) | ((with_reducible apply cndT); exact rfl; (first | rfl | assumption)) | ((with_reducible apply cndF); exact rfl; (first | rfl | assumption)))
      exact ⟨_, _, _, false, s, rfl, rfl, rfl, rfl, rfl, by omega⟩
  rintro s ⟨F, T, ν, f, X, rfl, f1, f2, f4, f9, hX⟩
  rw [has4 f1 f2 f4 f9]
  have hXa := aOfBytes_len X
  have s3 := s3 f X hX
  have s4 := s4 f X hX
  rw [hop X hX] at s3
  clear hop
  by_cases h32 : X.length < 32
  · have hN : ropnS kE kM X id gen = none := by rw [ropnS, if_neg (by omega)]
    rw [hN, openR] at s3
    rw [hN, ropenR] at s4
    have s5 := s6 f X h32
    clear s6 s7
    repeat with_reducible (first | refine aWp_seq ?_ | refine seq_normal ?_ | refine seq_ret ?_ | refine seq_exit ?_ | refine blk_normal ?_ | refine blk_ret ?_ | refine blk_hit ?_ | refine blk_miss rfl ?_ | refine aWp_ret ?_ | refine aWp_skip ?_ | refine aWp_block ?_ | refine aWp_exit ?_ | refine end_ret ?_ | refine end_normal ?_)
    refine rg fun K hK => ?_
    refine stA ?_
    (first | with_reducible refine g0 ?_ | ((with_reducible refine g1 ?_ ?_); (with_reducible apply gt_); exact rfl; exact rfl; (first | rfl | assumption | (simp [*] <;> done)))); refine scA (h2 := (s3)) (hk := ?_)
    refine stA ?_
    with_reducible refine rz ?_
    refine hK _ _ _ ?_
    clear hK K; intro ν
    repeat with_reducible (first | refine aWp_seq ?_ | refine seq_normal ?_ | refine seq_ret ?_ | refine seq_exit ?_ | refine blk_normal ?_ | refine blk_ret ?_ | refine blk_hit ?_ | refine blk_miss rfl ?_ | refine aWp_ret ?_ | refine aWp_skip ?_ | refine aWp_block ?_ | refine aWp_exit ?_ | refine end_ret ?_ | refine end_normal ?_)
    refine rgx [] (by kernel_rfl) fun K hK => ?_
    refine stxA ?_
    ((first | ((with_reducible refine x0 ?_ ?_); exact rfl) | ((with_reducible refine x1 ?_ ?_ ?_); exact rfl; (with_reducible apply gt_); exact rfl; exact rfl; (first | rfl | assumption | (simp [*] <;> done)))); refine xcA (h2 := (s0)) (hk := ?_))
    refine stxA ?_
    ((first | ((with_reducible refine x0 ?_ ?_); exact rfl) | ((with_reducible refine x1 ?_ ?_ ?_); exact rfl; (with_reducible apply gt_); exact rfl; exact rfl; (first | rfl | assumption | (simp [*] <;> done)))); refine xcA (h2 := (s4)) (hk := ?_))
    refine stxA ?_
    with_reducible refine xz ?_
    refine hK _ _ _ ?_
    clear hK K; intro ν
    repeat with_reducible (first | refine aWp_seq ?_ | refine seq_normal ?_ | refine seq_ret ?_ | refine seq_exit ?_ | refine blk_normal ?_ | refine blk_ret ?_ | refine blk_hit ?_ | refine blk_miss rfl ?_ | refine aWp_ret ?_ | refine aWp_skip ?_ | refine aWp_block ?_ | refine aWp_exit ?_ | refine end_ret ?_ | refine end_normal ?_)
    refine rg fun K hK => ?_
    refine stA ?_
    (first | with_reducible refine g0 ?_ | ((with_reducible refine g1 ?_ ?_); (with_reducible apply gt_); exact rfl; exact rfl; (first | rfl | assumption | (simp [*] <;> done)))); refine scA (h2 := (s5)) (hk := ?_)
    refine stA ?_
    refine rzp (t := 14) rfl rfl ?_
    refine hK _ _ _ ?_
    clear hK K; intro ν
    repeat (first | with_reducible (first | refine aWp_seq ?_ | refine seq_normal ?_ | refine seq_ret ?_ | refine seq_exit ?_ | refine blk_normal ?_ | refine blk_ret ?_ | refine blk_hit ?_ | refine blk_miss rfl ?_ | refine aWp_ret ?_ | refine aWp_skip ?_ | refine aWp_block ?_ | refine aWp_exit ?_ | refine end_ret ?_ | refine end_normal ?_) | ((refine rgA ?_); intro ν) | ((with_reducible apply cndT); exact rfl; (first | rfl | assumption)) | ((with_reducible apply cndF); exact rfl; (first | rfl | assumption)))
    refine rg fun K hK => ?_
    refine stA ?_
    (first | with_reducible refine g0 ?_ | ((with_reducible refine g1 ?_ ?_); (with_reducible apply gt_); exact rfl; exact rfl; (first | rfl | assumption | (simp [*] <;> done)))); refine scA (h2 := (awake10_spec)) (hk := ?_)
    refine stA ?_
    with_reducible refine rz ?_
    refine hK _ _ _ ?_
    clear hK K; intro ν
    repeat (first | with_reducible (first | refine aWp_seq ?_ | refine seq_normal ?_ | refine seq_ret ?_ | refine seq_exit ?_ | refine blk_normal ?_ | refine blk_ret ?_ | refine blk_hit ?_ | refine blk_miss rfl ?_ | refine aWp_ret ?_ | refine aWp_skip ?_ | refine aWp_block ?_ | refine aWp_exit ?_ | refine end_ret ?_ | refine end_normal ?_) | ((refine rgA ?_); intro ν) | ((with_reducible apply cndT); exact rfl; (first | rfl | assumption)) | ((with_reducible apply cndF); exact rfl; (first | rfl | assumption)))
    (first | with_reducible refine end_r ?_ | with_reducible refine end_n ?_); refine en1 ?_
    rfl
  · have hnT : ((X.length : Int) - 32).toNat = X.length - 32 := by omega
    have htl : (X.take (X.length - 32)).length = X.length - 32 := by simp
    have s5 := s5 f X (by omega) hX
    have s7 := s7 (f && decide ((X.length : Int) - 32 = (X.length : Int))) (X.take (X.length - 32)) (by omega)
    have hDl := hml (X.take (X.length - 32))
    clear s6 hml
    generalize macB kM (X.take (X.length - 32)) = D at *
    rw [htl, bytes_take', ← hnT] at s7
    have hDa := aOfBytes_len D
    have b1 : aBytes (List.take 32 (aOfBytes D)) = some D := by rw [List.take_of_length_le (by omega)]; exact aBytes_of' _
    have ld := ld_arrT' (n := 32) (e := 5) (aOfBytes D) (sz := 32) (by omega)
    have ld' := ld_arr (n := 32) (e := 5) (aOfBytes D) (sz := 32) (by omega)
    obtain ⟨z, e, fa, fb, hs3, hs4⟩ : ∃ (z : List UInt8) (e : Int) (fa fb : Bool), openR (ropnS kE kM X id gen) = .tup [.sl fa z.length (aOfBytes z), .int .i64 e] ∧ ropenR (ropnS kE kM X id gen) = .tup [.sl fb z.length (aOfBytes z), .int .i64 e] := by
      cases ropnS kE kM X id gen with
      | none => exact ⟨[], 12, true, true, rfl, rfl⟩
      | some z => exact ⟨z, 0, true, false, rfl, rfl⟩
    rw [hs3] at s3
    rw [hs4] at s4
    have hza := aOfBytes_len z
    repeat with_reducible (first | refine aWp_seq ?_ | refine seq_normal ?_ | refine seq_ret ?_ | refine seq_exit ?_ | refine blk_normal ?_ | refine blk_ret ?_ | refine blk_hit ?_ | refine blk_miss rfl ?_ | refine aWp_ret ?_ | refine aWp_skip ?_ | refine aWp_block ?_ | refine aWp_exit ?_ | refine end_ret ?_ | refine end_normal ?_)
    refine rg fun K hK => ?_
    refine stA ?_
    (first | with_reducible refine g0 ?_ | ((with_reducible refine g1 ?_ ?_); (with_reducible apply gt_); exact rfl; exact rfl; (first | rfl | assumption | (simp [*] <;> done)))); refine scA (h2 := (s3)) (hk := ?_)
    refine stA ?_
    with_reducible refine rz ?_
    refine hK _ _ _ ?_
    clear hK K; intro ν
    repeat with_reducible (first | refine aWp_seq ?_ | refine seq_normal ?_ | refine seq_ret ?_ | refine seq_exit ?_ | refine blk_normal ?_ | refine blk_ret ?_ | refine blk_hit ?_ | refine blk_miss rfl ?_ | refine aWp_ret ?_ | refine aWp_skip ?_ | refine aWp_block ?_ | refine aWp_exit ?_ | refine end_ret ?_ | refine end_normal ?_)
    refine rgx [] (by kernel_rfl) fun K hK => ?_
    refine stxA ?_
    ((first | ((with_reducible refine x0 ?_ ?_); exact rfl) | ((with_reducible refine x1 ?_ ?_ ?_); exact rfl; (with_reducible apply gt_); exact rfl; exact rfl; (first | rfl | assumption | (simp [*] <;> done)))); refine xcA (h2 := (s0)) (hk := ?_))
    refine stxA ?_
    ((first | ((with_reducible refine x0 ?_ ?_); exact rfl) | ((with_reducible refine x1 ?_ ?_ ?_); exact rfl; (with_reducible apply gt_); exact rfl; exact rfl; (first | rfl | assumption | (simp [*] <;> done)))); refine xcA (h2 := (s4)) (hk := ?_))
    refine stxA ?_
    with_reducible refine xz ?_
    refine hK _ _ _ ?_
    clear hK K; intro ν
    repeat with_reducible (first | refine aWp_seq ?_ | refine seq_normal ?_ | refine seq_ret ?_ | refine seq_exit ?_ | refine blk_normal ?_ | refine blk_ret ?_ | refine blk_hit ?_ | refine blk_miss rfl ?_ | refine aWp_ret ?_ | refine aWp_skip ?_ | refine aWp_block ?_ | refine aWp_exit ?_ | refine end_ret ?_ | refine end_normal ?_)
    refine rg fun K hK => ?_
    refine stA ?_
    (first | with_reducible refine g0 ?_ | ((with_reducible refine g1 ?_ ?_); (with_reducible apply gt_); exact rfl; exact rfl; (first | rfl | assumption | (simp [*] <;> done)))); refine scA (h2 := (s5)) (hk := ?_)
    refine stA ?_
    refine rzp (t := 14) rfl rfl ?_
    refine hK _ _ _ ?_
    clear hK K; intro ν
    rw [drop_rep, List.append_nil]
    repeat (first | with_reducible (first | refine aWp_seq ?_ | refine seq_normal ?_ | refine seq_ret ?_ | refine seq_exit ?_ | refine blk_normal ?_ | refine blk_ret ?_ | refine blk_hit ?_ | refine blk_miss rfl ?_ | refine aWp_ret ?_ | refine aWp_skip ?_ | refine aWp_block ?_ | refine aWp_exit ?_ | refine end_ret ?_ | refine end_normal ?_) | ((refine rgA ?_); intro ν) | ((with_reducible apply cndT); exact rfl; (first | rfl | assumption)) | ((with_reducible apply cndF); exact rfl; (first | rfl | assumption)))
    refine rgx [(12,[],[82]),(13,[82],[82])] (by kernel_rfl) fun K hK => ?_
    refine stxA ?_
    ((first | ((with_reducible refine x0 ?_ ?_); exact rfl) | ((with_reducible refine x1 ?_ ?_ ?_); exact rfl; (with_reducible apply gt_); exact rfl; exact rfl; (first | rfl | assumption | (simp [*] <;> done)))); refine xcA (h2 := (awake10_spec)) (hk := ?_))
    refine stxA ?_
    ((first | ((with_reducible refine x0 ?_ ?_); exact rfl) | ((with_reducible refine x1 ?_ ?_ ?_); exact rfl; (with_reducible apply gt_); exact rfl; exact rfl; (first | rfl | assumption | (simp [*] <;> done)))); refine xcA (h2 := (s0)) (hk := ?_))
    refine stxA ?_
    ((first | ((with_reducible refine x0 ?_ ?_); exact rfl) | ((with_reducible refine x1 ?_ ?_ ?_); exact rfl; (with_reducible apply gt_); exact rfl; exact rfl; (first | rfl | assumption | (simp [*] <;> done)))); refine xcA (h2 := (s7)) (hk := ?_))
    refine stxA ?_
    with_reducible refine xz ?_
    refine hK _ _ _ ?_
    clear hK K; intro ν
    repeat (first | with_reducible (first | refine aWp_seq ?_ | refine seq_normal ?_ | refine seq_ret ?_ | refine seq_exit ?_ | refine blk_normal ?_ | refine blk_ret ?_ | refine blk_hit ?_ | refine blk_miss rfl ?_ | refine aWp_ret ?_ | refine aWp_skip ?_ | refine aWp_block ?_ | refine aWp_exit ?_ | refine end_ret ?_ | refine end_normal ?_) | ((refine rgA ?_); intro ν) | ((with_reducible apply cndT); exact rfl; (first | rfl | assumption)) | ((with_reducible apply cndF); exact rfl; (first | rfl | assumption)))
    (first | with_reducible refine end_r ?_ | with_reducible refine end_n ?_); refine en1 ?_
    rfl
end Go.Proofs.Ytmbnclpgldglnaa
