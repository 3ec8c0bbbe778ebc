import Derived.Test.YtmbnclpgldglnaaCbc4
import Derived.Test.YtmbnclpgldglnaaMg3
import Derived.Test.YtmbnclpgldglnaaMg1
namespace Go.Proofs.Ytmbnclpgldglnaa
open Go.RowKit
set_option linter.unusedVariables false
set_option linter.unusedSimpArgs false
set_option maxRecDepth 20000
/-! blocks that are encrypted, and then signed -/
def hdB (id gen n : Int) : List UInt8 := pI (pI (pI [] id) gen) n
theorem hdB_len (id gen n : Int) : (hdB id gen n).length = 24 := by rw [hdB, pI_len, pI_len, pI_len]; rfl
def preS (kE iv b : List UInt8) (id gen : Int) : List UInt8 := hdB id gen ((sealB (cbcE kE) iv b).length : Int) ++ (iv ++ sealB (cbcE kE) iv b)
def sealedB (kE kM iv b : List UInt8) (id gen : Int) : List UInt8 := preS kE iv b id gen ++ macB kM (preS kE iv b id gen)
set_option maxHeartbeats 16000000 in
theorem sealed_spec (fb : Bool) (kE kM iv b : List UInt8) (id gen : Int) (hE : kE.length = 32) (hM : kM.length = 32) (hiv : iv.length = 16) (hb : b.length ≤ 2000) :
    Spec Try.prog 20 [.agg (aOfBytes (kE ++ kM)), .agg (aOfBytes iv), .int .i64 id, .int .i64 gen, .sl fb b.length (aOfBytes b)] (.k (.tup [.sl true (sealedB kE kM iv b id gen).length (aOfBytes (sealedB kE kM iv b id gen)), .int .i64 0])) := by
  have s1 := seal_spec true fb kE iv b (.inr (.inr hE)) hiv (by omega)
  have hXl := sealB_len (cbcE_len kE) iv b
  unfold sealedB preS
  generalize sealB (cbcE kE) iv b = X at *
  have hXb : X.length ≤ 2100 := by omega
  have hH := hdB_len id gen (X.length : Int)
  have a1 := aInt_spec true [] id (by simp)
  have a2 := aInt_spec false (pI [] id) gen (by rw [pI_len]; simp)
  have a3 := aInt_spec false (pI (pI [] id) gen) (X.length : Int) (by rw [pI_len, pI_len]; simp)
  have hHd : hdB id gen (X.length : Int) = pI (pI (pI [] id) gen) (X.length : Int) := rfl
  rw [← hHd] at a3
  generalize hdB id gen (X.length : Int) = H at *
  clear hHd hXl
  have s3 := concatBO_spec false [(false, H), (true, iv), (true, X)] (by simp only [List.flatMap_cons, List.flatMap_nil, List.append_nil, List.length_append]; omega) (by simp only [List.flatMap_cons, List.flatMap_nil, List.append_nil, List.length_append]; omega) (by simp)
  obtain ⟨P, hP⟩ : ∃ P, P = H ++ (iv ++ X) := ⟨_, rfl⟩
  have hPl : P.length = 24 + (16 + X.length) := by rw [hP, List.length_append, List.length_append, hH, hiv]
  have s4 := macOf_spec true false kM (by omega) [(false, P)] (by simp) (by simp) (by simp only [List.flatMap_cons, List.flatMap_nil, List.append_nil]; omega)
  simp only [List.map_cons, List.map_nil, pCells, pB, Part.av, List.flatMap_cons, List.flatMap_nil, List.append_nil, List.length_cons, List.length_nil, Nat.reduceAdd, aOfBytes_len] at s3 s4
  rw [← hP] at s3 ⊢
  have hDl := macB_len kM P
  have hDa := aOfBytes_len (macB kM P)
  generalize macB kM P = D at *
  clear hP
  have hXa := aOfBytes_len X
  have hPa := aOfBytes_len P
  have hia := aOfBytes_len iv
  have hKa : (aOfBytes (kE ++ kM)).length = 64 := by rw [aOfBytes_len, List.length_append, hE, hM]
  have hEt : List.take 32 (aOfBytes (kE ++ kM)) = aOfBytes kE := by rw [aOfBytes_append]; exact List.take_left' (by rw [aOfBytes_len, hE])
  have hMt : List.take 32 (List.drop 32 (aOfBytes (kE ++ kM))) = aOfBytes kM := by
    rw [aOfBytes_append, List.drop_left' (by rw [aOfBytes_len, hE]), List.take_of_length_le (by rw [aOfBytes_len, hM]; exact Nat.le_refl _)]
  have hit : List.take 16 (aOfBytes iv) = aOfBytes iv := List.take_of_length_le (by rw [hia, hiv]; exact Nat.le_refl _)
  rw [hE, ← hEt] at s1
  rw [hM, ← hMt] at s4
  rw [hH, hiv, ← hit] at s3
  have e0 : aOfBytes [] = [] := rfl
  rw [e0] at a1
  simp only [List.length_nil] at a1
  rw [hH] at a3
  have li := ld_arr (n := 16) (e := 5) (aOfBytes iv) (sz := 16) (by omega)
  have hDt : List.take 32 (aOfBytes D) = aOfBytes D := List.take_of_length_le (by omega)
  have s5 := clip_spec false (P.length + 32) (aOfBytes P ++ List.take 32 (aOfBytes D)) (by rw [hDt, List.length_append]; omega)
  refine spec_of (fun _ => false) (by kernel_rfl) Try.func20 rfl rfl (by simp [Try.ntmps20]) (by decide) ?_
  intro δ
  rw [init5]
  repeat with_reducible (first | refine aWp_seq ?_ | refine seq_normal ?_ | refine seq_ret ?_ | refine seq_exit ?_ | refine blk_normal ?_ | refine blk_ret ?_ | refine blk_hit ?_ | refine blk_miss rfl ?_ | refine aWp_ret ?_ | refine aWp_skip ?_ | refine aWp_block ?_ | refine aWp_exit ?_ | refine end_ret ?_ | refine end_normal ?_)
  refine rg fun K hK => ?_
  refine stA ?_
  refine rzp (t := 5) rfl rfl ?_
  refine hK _ _ _ ?_
  clear hK K; intro ν
  repeat with_reducible (first | refine aWp_seq ?_ | refine seq_normal ?_ | refine seq_ret ?_ | refine seq_exit ?_ | refine blk_normal ?_ | refine blk_ret ?_ | refine blk_hit ?_ | refine blk_miss rfl ?_ | refine aWp_ret ?_ | refine aWp_skip ?_ | refine aWp_block ?_ | refine aWp_exit ?_ | refine end_ret ?_ | refine end_normal ?_)
  refine rgx [(2,[6],[])] (by kernel_rfl) fun K hK => ?_
  refine stxA ?_
  ((first | ((with_reducible refine x0 ?_ ?_); exact rfl) | ((with_reducible refine x1 ?_ ?_ ?_); exact rfl; (with_reducible apply gt_); exact rfl; exact rfl; (first | rfl | assumption | (simp [*] <;> done)))); refine xcA (h2 := (s1)) (hk := ?_))
  refine stxA ?_
  with_reducible refine xz ?_
  refine hK _ _ _ ?_
  clear hK K; intro ν
  repeat with_reducible (first | refine aWp_seq ?_ | refine seq_normal ?_ | refine seq_ret ?_ | refine seq_exit ?_ | refine blk_normal ?_ | refine blk_ret ?_ | refine blk_hit ?_ | refine blk_miss rfl ?_ | refine aWp_ret ?_ | refine aWp_skip ?_ | refine aWp_block ?_ | refine aWp_exit ?_ | refine end_ret ?_ | refine end_normal ?_)
  refine rg fun K hK => ?_
  refine stA ?_
  refine rzp (t := 6) rfl rfl ?_
  refine hK _ _ _ ?_
  clear hK K; intro ν
  repeat (first | with_reducible (first | refine aWp_seq ?_ | refine seq_normal ?_ | refine seq_ret ?_ | refine seq_exit ?_ | refine blk_normal ?_ | refine blk_ret ?_ | refine blk_hit ?_ | refine blk_miss rfl ?_ | refine aWp_ret ?_ | refine aWp_skip ?_ | refine aWp_block ?_ | refine aWp_exit ?_ | refine end_ret ?_ | refine end_normal ?_) | ((refine rgA ?_); intro ν) | ((with_reducible apply cndT); exact rfl; (first | rfl | assumption)) | ((with_reducible apply cndF); exact rfl; (first | rfl | assumption)))
  refine rgx [(10,[36],[37])] (by kernel_rfl) fun K hK => ?_
  refine stxA ?_
  ((first | ((with_reducible refine x0 ?_ ?_); exact rfl) | ((with_reducible refine x1 ?_ ?_ ?_); exact rfl; (with_reducible apply gt_); exact rfl; exact rfl; (first | rfl | assumption | (simp [*] <;> done)))); refine xcA (h2 := (a1)) (hk := ?_))
  refine stxA ?_
  ((first | ((with_reducible refine x0 ?_ ?_); exact rfl) | ((with_reducible refine x1 ?_ ?_ ?_); exact rfl; (with_reducible apply gt_); exact rfl; exact rfl; (first | rfl | assumption | (simp [*] <;> done)))); refine xcA (h2 := (a2)) (hk := ?_))
  refine stxA ?_
  ((first | ((with_reducible refine x0 ?_ ?_); exact rfl) | ((with_reducible refine x1 ?_ ?_ ?_); exact rfl; (with_reducible apply gt_); exact rfl; exact rfl; (first | rfl | assumption | (simp [*] <;> done)))); refine xcA (h2 := (a3)) (hk := ?_))
  refine stxA ?_
  ((first | ((with_reducible refine x0 ?_ ?_); exact rfl) | ((with_reducible refine x1 ?_ ?_ ?_); exact rfl; (with_reducible apply gt_); exact rfl; exact rfl; (first | rfl | assumption | (simp [*] <;> done)))); refine xcA (h2 := (s3)) (hk := ?_))
  refine stxA ?_
  with_reducible refine xz ?_
  refine hK _ _ _ ?_
  clear hK K; intro ν
  repeat with_reducible (first | refine aWp_seq ?_ | refine seq_normal ?_ | refine seq_ret ?_ | refine seq_exit ?_ | refine blk_normal ?_ | refine blk_ret ?_ | refine blk_hit ?_ | refine blk_miss rfl ?_ | refine aWp_ret ?_ | refine aWp_skip ?_ | refine aWp_block ?_ | refine aWp_exit ?_ | refine end_ret ?_ | refine end_normal ?_)
  refine rg fun K hK => ?_
  refine stA ?_
  (first | with_reducible refine g0 ?_ | ((with_reducible refine g1 ?_ ?_); (with_reducible apply gt_); exact rfl; exact rfl; (first | rfl | assumption | (simp [*] <;> done)))); refine scA (h2 := (s4)) (hk := ?_)
  refine stA ?_
  refine rzp (t := 15) rfl rfl ?_
  refine hK _ _ _ ?_
  clear hK K; intro ν
  rw [drop_rep, List.append_nil]
  repeat with_reducible (first | refine aWp_seq ?_ | refine seq_normal ?_ | refine seq_ret ?_ | refine seq_exit ?_ | refine blk_normal ?_ | refine blk_ret ?_ | refine blk_hit ?_ | refine blk_miss rfl ?_ | refine aWp_ret ?_ | refine aWp_skip ?_ | refine aWp_block ?_ | refine aWp_exit ?_ | refine end_ret ?_ | refine end_normal ?_)
  refine rg fun K hK => ?_
  refine stA ?_
  (first | with_reducible refine g0 ?_ | ((with_reducible refine g1 ?_ ?_); (with_reducible apply gt_); exact rfl; exact rfl; (first | rfl | assumption | (simp [*] <;> done)))); refine scA (h2 := (s5)) (hk := ?_)
  refine stA ?_
  with_reducible refine rz ?_
  refine hK _ _ _ ?_
  clear hK K; intro ν
  repeat (first | with_reducible (first | refine aWp_seq ?_ | refine seq_normal ?_ | refine seq_ret ?_ | refine seq_exit ?_ | refine blk_normal ?_ | refine blk_ret ?_ | refine blk_hit ?_ | refine blk_miss rfl ?_ | refine aWp_ret ?_ | refine aWp_skip ?_ | refine aWp_block ?_ | refine aWp_exit ?_ | refine end_ret ?_ | refine end_normal ?_) | ((refine rgA ?_); intro ν) | ((with_reducible apply cndT); exact rfl; (first | rfl | assumption)) | ((with_reducible apply cndF); exact rfl; (first | rfl | assumption)))
  (first | with_reducible refine end_r ?_ | with_reducible refine end_n ?_); refine en2 ?_
  rw [hDt, List.length_append, aOfBytes_append, hDl]
end Go.Proofs.Ytmbnclpgldglnaa
