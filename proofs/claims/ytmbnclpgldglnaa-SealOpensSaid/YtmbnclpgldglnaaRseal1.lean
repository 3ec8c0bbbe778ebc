import Derived.Test.YtmbnclpgldglnaaRint
import Derived.Test.YtmbnclpgldglnaaMacR
import Derived.Test.YtmbnclpgldglnaaRcbc3
import Derived.Test.YtmbnclpgldglnaaSeal3
namespace Go.Proofs.Ytmbnclpgldglnaa
open Go.RowKit
set_option linter.unusedVariables false
set_option linter.unusedSimpArgs false
set_option maxRecDepth 20000
/-! the document's sealing -/
theorem init6S (a b c d e f : AV) (md : Md) : initSt [a, b, c, d, e, f] md = ⟨upd (upd (upd (upd (upd (upd (fun _ => .k .any) 0 (.k a)) 1 (.k b)) 2 (.k c)) 3 (.k d)) 4 (.k e)) 5 (.k f), fun _ => none, 0, md⟩ := by
  unfold initSt; congr 1; funext t
  match t with
  | 0 | 1 | 2 | 3 | 4 | 5 => rfl
  | t + 6 => simp [upd]
set_option maxHeartbeats 16000000 in
theorem rsealed_spec (fi fb : Bool) (kE kM iv b : List UInt8) (id gen : Int) (hE : kE.length = 32) (hM : kM.length = 32) (hiv : iv.length = 16) (hb : b.length ≤ 2000) :
    Spec Try.prog 22 [sumsA, .agg (aOfBytes (kE ++ kM)), .sl fi 16 (aOfBytes iv), .int .i64 id, .int .i64 gen, .sl fb b.length (aOfBytes b)] (.k (.tup [.sl false (sealedB kE kM iv b id gen).length (aOfBytes (sealedB kE kM iv b id gen)), .int .i64 0])) := by
  have s1 := rseal_key (.inr (.inr hE)) true fi fb iv b hiv (by omega)
  have hXl := sealB_len (cbcE_len kE) iv b
  unfold sealedB preS
  generalize sealB (cbcE kE) iv b = X at *
  have hXb : X.length ≤ 2100 := by omega
  have hX0 : 0 < X.length := by omega
  have hH := hdB_len id gen (X.length : Int)
  have a1 := refint_spec true [] id (by simp)
  have a2 := refint_spec false (pI [] id) gen (by rw [pI_len]; simp)
  have a3 := refint_spec false (pI (pI [] id) gen) (X.length : Int) (by rw [pI_len, pI_len]; simp)
  have hHd : hdB id gen (X.length : Int) = pI (pI (pI [] id) gen) (X.length : Int) := rfl
  rw [← hHd] at a3
  have hP1 : (pI [] id).length = 8 := by rw [pI_len]; rfl
  have hP2 : (pI (pI [] id) gen).length = 16 := by rw [pI_len, pI_len]; rfl
  rw [hP1] at a2
  rw [hP2] at a3
  have hP1a := aOfBytes_len (pI [] id)
  have hP2a := aOfBytes_len (pI (pI [] id) gen)
  generalize pI (pI [] id) gen = P2 at *
  generalize pI [] id = P1 at *
  generalize hdB id gen (X.length : Int) = H at *
  clear hHd hXl
  have hHa := aOfBytes_len H
  obtain ⟨P, hP⟩ : ∃ P, P = H ++ (iv ++ X) := ⟨_, rfl⟩
  have hPl : P.length = 24 + 16 + X.length := by rw [hP, List.length_append, List.length_append, hH, hiv]; omega
  have hPa : aOfBytes H ++ aOfBytes iv ++ aOfBytes X = aOfBytes P := by rw [hP, aOfBytes_append, aOfBytes_append, List.append_assoc]
  have s4 := rmac_spec true false kM P (by omega) (by omega)
  rw [← hP]
  have hDl := macB_len kM P
  have hDa := aOfBytes_len (macB kM P)
  generalize macB kM P = D at *
  clear hP
  have hXa := aOfBytes_len X
  have hPaa := aOfBytes_len P
  have hia := aOfBytes_len iv
  have hba := aOfBytes_len b
  have hKa : (aOfBytes (kE ++ kM)).length = 64 := by rw [aOfBytes_len, List.length_append, hE, hM]
  have hEt : List.take 32 (aOfBytes (kE ++ kM)) = aOfBytes kE := by rw [aOfBytes_append]; exact List.take_left' (by rw [aOfBytes_len, hE])
  have hMt : List.take 32 (List.drop 32 (aOfBytes (kE ++ kM))) = aOfBytes kM := by
    rw [aOfBytes_append, List.drop_left' (by rw [aOfBytes_len, hE]), List.take_of_length_le (by rw [aOfBytes_len, hM]; exact Nat.le_refl _)]
  rw [hE, ← hEt] at s1
  rw [hM, ← hMt, hPl] at s4
  have e0 : aOfBytes [] = [] := rfl
  rw [e0] at a1
  simp only [List.length_nil] at a1
  rw [show 0 + 8 = 8 from rfl] at a1
  rw [show 8 + 8 = 16 from rfl] at a2
  rw [show 16 + 8 = 24 from rfl] at a3
  have hS : sumsA = .agg [.sl false 64 (aOfW wordsK), .sl false 8 (aOfW startH)] := rfl
  rw [hS] at s4 ⊢
  generalize AV.sl false 64 (aOfW wordsK) = SA at *
  generalize AV.sl false 8 (aOfW startH) = SB at *
  clear hS
  refine spec_of (fun _ => false) (by kernel_rfl) Try.func22 rfl rfl (by simp [Try.ntmps22]) (by decide) ?_
  intro δ
  rw [init6S]
  repeat with_reducible (first | refine aWp_seq ?_ | refine seq_normal ?_ | refine seq_ret ?_ | refine seq_exit ?_ | refine blk_normal ?_ | refine blk_ret ?_ | refine blk_hit ?_ | refine blk_miss rfl ?_ | refine aWp_ret ?_ | refine aWp_skip ?_ | refine aWp_block ?_ | refine aWp_exit ?_ | refine end_ret ?_ | refine end_normal ?_)
  refine rg fun K hK => ?_
  refine stA ?_
  refine rzp (t := 7) rfl rfl ?_
  refine hK _ _ _ ?_
  clear hK K; intro ν
  repeat (first | with_reducible (first | refine aWp_seq ?_ | refine seq_normal ?_ | refine seq_ret ?_ | refine seq_exit ?_ | refine blk_normal ?_ | refine blk_ret ?_ | refine blk_hit ?_ | refine blk_miss rfl ?_ | refine aWp_ret ?_ | refine aWp_skip ?_ | refine aWp_block ?_ | refine aWp_exit ?_ | refine end_ret ?_ | refine end_normal ?_) | ((refine rgA ?_); intro ν) | ((with_reducible apply cndT); exact rfl; (first | rfl | assumption)) | ((with_reducible apply cndF); exact rfl; (first | rfl | assumption)))
  refine rg fun K hK => ?_
  refine stA ?_
  (first | with_reducible refine g0 ?_ | ((with_reducible refine g1 ?_ ?_); (with_reducible apply gt_); exact rfl; exact rfl; (first | rfl | assumption | (simp [*] <;> done)))); refine scA (h2 := (s1)) (hk := ?_)
  refine stA ?_
  with_reducible refine rz ?_
  refine hK _ _ _ ?_
  clear hK K; intro ν
  repeat (first | with_reducible (first | refine aWp_seq ?_ | refine seq_normal ?_ | refine seq_ret ?_ | refine seq_exit ?_ | refine blk_normal ?_ | refine blk_ret ?_ | refine blk_hit ?_ | refine blk_miss rfl ?_ | refine aWp_ret ?_ | refine aWp_skip ?_ | refine aWp_block ?_ | refine aWp_exit ?_ | refine end_ret ?_ | refine end_normal ?_) | ((refine rgA ?_); intro ν) | ((with_reducible apply cndT); exact rfl; (first | rfl | assumption)) | ((with_reducible apply cndF); exact rfl; (first | rfl | assumption)))
  refine rg fun K hK => ?_
  refine stA ?_
  (first | with_reducible refine g0 ?_ | ((with_reducible refine g1 ?_ ?_); (with_reducible apply gt_); exact rfl; exact rfl; (first | rfl | assumption | (simp [*] <;> done)))); refine scA (h2 := (a1)) (hk := ?_)
  refine stA ?_
  (first | with_reducible refine g0 ?_ | ((with_reducible refine g1 ?_ ?_); (with_reducible apply gt_); exact rfl; exact rfl; (first | rfl | assumption | (simp [*] <;> done)))); refine scA (h2 := (a2)) (hk := ?_)
  refine stA ?_
  (first | with_reducible refine g0 ?_ | ((with_reducible refine g1 ?_ ?_); (with_reducible apply gt_); exact rfl; exact rfl; (first | rfl | assumption | (simp [*] <;> done)))); refine scA (h2 := (a3)) (hk := ?_)
  refine stA ?_
  with_reducible refine rz ?_
  refine hK _ _ _ ?_
  clear hK K; intro ν
  repeat (first | with_reducible (first | refine aWp_seq ?_ | refine seq_normal ?_ | refine seq_ret ?_ | refine seq_exit ?_ | refine blk_normal ?_ | refine blk_ret ?_ | refine blk_hit ?_ | refine blk_miss rfl ?_ | refine aWp_ret ?_ | refine aWp_skip ?_ | refine aWp_block ?_ | refine aWp_exit ?_ | refine end_ret ?_ | refine end_normal ?_) | ((refine rgA ?_); intro ν) | ((with_reducible apply cndT); exact rfl; (first | rfl | assumption)) | ((with_reducible apply cndF); exact rfl; (first | rfl | assumption)))
  rw [hPa]
  repeat (first | with_reducible (first | refine aWp_seq ?_ | refine seq_normal ?_ | refine seq_ret ?_ | refine seq_exit ?_ | refine blk_normal ?_ | refine blk_ret ?_ | refine blk_hit ?_ | refine blk_miss rfl ?_ | refine aWp_ret ?_ | refine aWp_skip ?_ | refine aWp_block ?_ | refine aWp_exit ?_ | refine end_ret ?_ | refine end_normal ?_) | ((refine rgA ?_); intro ν) | ((with_reducible apply cndT); exact rfl; (first | rfl | assumption)) | ((with_reducible apply cndF); exact rfl; (first | rfl | assumption)))
  refine rgx [(1,[6],[]),(5,[39],[45]),(6,[39,45,46],[39,45,46])] (by kernel_rfl) fun K hK => ?_
  refine stxA ?_
  ((first | ((with_reducible refine x0 ?_ ?_); exact rfl) | ((with_reducible refine x1 ?_ ?_ ?_); exact rfl; (with_reducible apply gt_); exact rfl; exact rfl; (first | rfl | assumption | (simp [*] <;> done)))); refine xcA (h2 := (s4)) (hk := ?_))
  refine stxA ?_
  with_reducible refine xz ?_
  refine hK _ _ _ ?_
  clear hK K; intro ν
  repeat (first | with_reducible (first | refine aWp_seq ?_ | refine seq_normal ?_ | refine seq_ret ?_ | refine seq_exit ?_ | refine blk_normal ?_ | refine blk_ret ?_ | refine blk_hit ?_ | refine blk_miss rfl ?_ | refine aWp_ret ?_ | refine aWp_skip ?_ | refine aWp_block ?_ | refine aWp_exit ?_ | refine end_ret ?_ | refine end_normal ?_) | ((refine rgA ?_); intro ν) | ((with_reducible apply cndT); exact rfl; (first | rfl | assumption)) | ((with_reducible apply cndF); exact rfl; (first | rfl | assumption)))
  (first | with_reducible refine end_r ?_ | with_reducible refine end_n ?_); refine en2 ?_
  rw [List.length_append, aOfBytes_append, hDl, hPl]
end Go.Proofs.Ytmbnclpgldglnaa
