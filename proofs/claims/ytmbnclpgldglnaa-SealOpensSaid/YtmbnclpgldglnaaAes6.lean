import Derived.Test.YtmbnclpgldglnaaMg2
import Derived.Test.YtmbnclpgldglnaaAes5
namespace Go.Proofs.Ytmbnclpgldglnaa
open Go.RowKit
set_option linter.unusedVariables false
set_option linter.unusedSimpArgs false
set_option maxRecDepth 20000
def aesK (key : List UInt8) : List UInt8 := exW key sL (key.length / 4) (4 * (key.length / 4 + 7))
def aesR (key : List UInt8) : Nat := key.length / 4 + 7
def aesOk (key : List UInt8) : Prop := key.length = 16 ∨ key.length = 24 ∨ key.length = 32
instance (key : List UInt8) : Decidable (aesOk key) := by unfold aesOk; exact inferInstance
def aesC (key : List UInt8) : AV := .cp (cph sL iL (aesK key) (aesR key))
def newR (key : List UInt8) : AV := if aesOk key then .tup [aesC key, .int .i64 0] else .tup [.raw (.pointer none), .int .i64 1]
theorem aesK_len {key : List UInt8} (h : aesOk key) : (aesK key).length = aesR key * 16 := by
  unfold aesK aesR
  rw [exW_len (by unfold aesOk at h; omega)]
  omega
theorem two_stores (A B : List AV) (h1 : A.length = 256) (h2 : B.length = 256) (z y : AV) :
    List.take 256 (A ++ List.drop 256 (List.replicate 512 z ++ [y])) ++ B ++ List.drop 512 (A ++ List.drop 256 (List.replicate 512 z ++ [y])) = A ++ (B ++ [y]) := by
  have e1 : List.take 256 (A ++ List.drop 256 (List.replicate 512 z ++ [y])) = A := List.take_left' h1
  have e2 : List.drop 512 (A ++ List.drop 256 (List.replicate 512 z ++ [y])) = [y] := by
    rw [List.drop_append, List.drop_of_length_le (by omega), List.nil_append, List.drop_drop, h1]
    exact List.drop_left' (by simp)
  rw [e1, e2, List.append_assoc]
set_option maxHeartbeats 16000000 in
theorem new_spec (full : Bool) (key : List UInt8) (hb : key.length ≤ 9223372036854775807) : Spec Try.prog 40 [.sl full key.length (aOfBytes key)] (.k (newR key)) := by
  refine spec_of (fun _ => false) (by kernel_rfl) Try.func40 rfl rfl (by simp [Try.ntmps40]) (by decide) ?_
  intro δ
  rw [init1]
  have hka := aOfBytes_len key
  by_cases h : aesOk key
  · have hsp := expand_spec sL iL key full (key.length / 4) sL_len iL_len (by unfold aesOk at h; omega) (by unfold aesOk at h; omega) (by unfold aesOk at h; omega)
    have s1 := tables_spec
    rw [newR, if_pos h, aesC]
    change MSpec _ _ _ _ (some (cph sL iL (aesK key) (aesR key))) _ at hsp
    have hC := cph_len (T := sL) (B := iL) (K := aesK key) (R := aesR key) sL_len iL_len
    generalize cph sL iL (aesK key) (aesR key) = C at *
    have hsl := sL_len
    have hil := iL_len
    have ha := aOfBytes_len sL
    have hb2 := aOfBytes_len iL
    have h2s := two_stores (aOfBytes sL) (aOfBytes iL) (by omega) (by omega) (.int .u8 0) (.sl true 0 [])
    generalize sL = sl at *
    generalize iL = il at *
    have hq : (key.length : Int) / 4 = ((key.length / 4 : Nat) : Int) := by omega
    unfold aesOk at h
    repeat (first | with_reducible (first | refine aWp_seq ?_ | refine seq_normal ?_ | refine seq_ret ?_ | refine seq_exit ?_ | refine blk_normal ?_ | refine blk_ret ?_ | refine blk_hit ?_ | refine blk_miss rfl ?_ | refine aWp_ret ?_ | refine aWp_skip ?_ | refine aWp_block ?_ | refine aWp_exit ?_ | refine end_ret ?_ | refine end_normal ?_) | ((refine rgA ?_); intro ν) | ((with_reducible apply cndT); exact rfl; (first | rfl | assumption)) | ((with_reducible apply cndF); exact rfl; (first | rfl | assumption)))
    refine rg fun K hK => ?_
    refine stA ?_
    (first | with_reducible refine g0 ?_ | ((with_reducible refine g1 ?_ ?_); (with_reducible apply gt_); exact rfl; exact rfl; (first | rfl | assumption | (simp [*] <;> done)))); refine scA (h2 := (s1)) (hk := ?_)
    refine stA ?_
    with_reducible refine rz ?_
    refine hK _ _ _ ?_
    clear hK K; intro ν
    rw [h2s]
    repeat (first | with_reducible (first | refine aWp_seq ?_ | refine seq_normal ?_ | refine seq_ret ?_ | refine seq_exit ?_ | refine blk_normal ?_ | refine blk_ret ?_ | refine blk_hit ?_ | refine blk_miss rfl ?_ | refine aWp_ret ?_ | refine aWp_skip ?_ | refine aWp_block ?_ | refine aWp_exit ?_ | refine end_ret ?_ | refine end_normal ?_) | ((refine rgA ?_); intro ν) | ((with_reducible apply cndT); exact rfl; (first | rfl | assumption)) | ((with_reducible apply cndF); exact rfl; (first | rfl | assumption)))
    try rw [hq]
    refine rg fun K hK => ?_
    refine stA ?_
    (first | with_reducible refine g0 ?_ | ((with_reducible refine g1 ?_ ?_); (with_reducible apply gt_); exact rfl; exact rfl; (first | rfl | assumption | (simp [*] <;> done)))); (first | refine smA (h2 := (hsp)) (e := 22) (hk := ?_) | refine smA0 (h2 := (hsp)) (e := 22) (hk := ?_) | refine smN (h2 := (hsp)) (e := 22) (hk := ?_))
    refine stA ?_
    with_reducible refine rz ?_
    refine hK _ _ _ ?_
    clear hK K; intro ν
    repeat (first | with_reducible (first | refine aWp_seq ?_ | refine seq_normal ?_ | refine seq_ret ?_ | refine seq_exit ?_ | refine blk_normal ?_ | refine blk_ret ?_ | refine blk_hit ?_ | refine blk_miss rfl ?_ | refine aWp_ret ?_ | refine aWp_skip ?_ | refine aWp_block ?_ | refine aWp_exit ?_ | refine end_ret ?_ | refine end_normal ?_) | ((refine rgA ?_); intro ν) | ((with_reducible apply cndT); exact rfl; (first | rfl | assumption)) | ((with_reducible apply cndF); exact rfl; (first | rfl | assumption)))
    (first | with_reducible refine end_r ?_ | with_reducible refine end_n ?_); refine en2 ?_
    rfl
  · rw [newR, if_neg h]
    unfold aesOk at h
    by_cases q1 : key.length % 8 = 0
    · by_cases q2 : key.length / 4 < 4
      · repeat (first | with_reducible (first | refine aWp_seq ?_ | refine seq_normal ?_ | refine seq_ret ?_ | refine seq_exit ?_ | refine blk_normal ?_ | refine blk_ret ?_ | refine blk_hit ?_ | refine blk_miss rfl ?_ | refine aWp_ret ?_ | refine aWp_skip ?_ | refine aWp_block ?_ | refine aWp_exit ?_ | refine end_ret ?_ | refine end_normal ?_) | ((refine rgA ?_); intro ν) | ((with_reducible apply cndT); exact rfl; (first | rfl | assumption)) | ((with_reducible apply cndF); exact rfl; (first | rfl | assumption)))
        (first | with_reducible refine end_r ?_ | with_reducible refine end_n ?_); refine en2 ?_
        rfl
      · have q3 : 8 < key.length / 4 := by omega
        repeat (first | with_reducible (first | refine aWp_seq ?_ | refine seq_normal ?_ | refine seq_ret ?_ | refine seq_exit ?_ | refine blk_normal ?_ | refine blk_ret ?_ | refine blk_hit ?_ | refine blk_miss rfl ?_ | refine aWp_ret ?_ | refine aWp_skip ?_ | refine aWp_block ?_ | refine aWp_exit ?_ | refine end_ret ?_ | refine end_normal ?_) | ((refine rgA ?_); intro ν) | ((with_reducible apply cndT); exact rfl; (first | rfl | assumption)) | ((with_reducible apply cndF); exact rfl; (first | rfl | assumption)))
        (first | with_reducible refine end_r ?_ | with_reducible refine end_n ?_); refine en2 ?_
        rfl
    · repeat (first | with_reducible (first | refine aWp_seq ?_ | refine seq_normal ?_ | refine seq_ret ?_ | refine seq_exit ?_ | refine blk_normal ?_ | refine blk_ret ?_ | refine blk_hit ?_ | refine blk_miss rfl ?_ | refine aWp_ret ?_ | refine aWp_skip ?_ | refine aWp_block ?_ | refine aWp_exit ?_ | refine end_ret ?_ | refine end_normal ?_) | ((refine rgA ?_); intro ν) | ((with_reducible apply cndT); exact rfl; (first | rfl | assumption)) | ((with_reducible apply cndF); exact rfl; (first | rfl | assumption)))
      (first | with_reducible refine end_r ?_ | with_reducible refine end_n ?_); refine en2 ?_
      rfl
end Go.Proofs.Ytmbnclpgldglnaa
