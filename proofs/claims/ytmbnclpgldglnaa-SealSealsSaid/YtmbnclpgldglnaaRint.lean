import Derived.Test.YtmbnclpgldglnaaMg1
import Derived.Test.YtmbnclpgldglnaaRsha4
namespace Go.Proofs.Ytmbnclpgldglnaa
open Go.RowKit
set_option linter.unusedVariables false
set_option linter.unusedSimpArgs false
set_option maxRecDepth 20000
/-! the document's numbers -/
def bkF (x : BitVec 64) (i : Nat) : UInt8 := UInt8.ofBitVec ((x >>> (8 * (7 - i))).setWidth 8)
def bkL (x : BitVec 64) (k : Nat) : List UInt8 := (List.range 8).map fun i => if 7 - i < k then bkF x i else 0
theorem bkL_len (x : BitVec 64) (k : Nat) : (bkL x k).length = 8 := by simp [bkL]
theorem bkL_set (x : BitVec 64) (k : Nat) (h : k < 8) : (bkL x k).set (7 - k) (bkF x (7 - k)) = bkL x (k + 1) := by
  apply List.ext_getElem (by simp [bkL])
  intro i h1 h2
  have h3 : i < 8 := by simpa [bkL] using h2
  simp only [bkL, List.getElem_set, List.getElem_map, List.getElem_range]
  by_cases e : 7 - k = i
  · subst e; rw [if_pos rfl, if_pos (by omega)]
  · rw [if_neg e]
    by_cases e2 : 7 - i < k
    · rw [if_pos e2, if_pos (by omega)]
    · rw [if_neg e2, if_neg (by omega)]
theorem bkL_all (n : Int) : bkL (BitVec.ofInt 64 n) 8 = fb (encI n) := by
  unfold bkL fb encI ser
  rw [List.map_map]
  apply List.map_congr_left
  intro i hi
  have hi : i < 8 := by simpa using hi
  rw [if_pos (by omega)]
  show _ = UInt8.ofBitVec ((BitVec.ofInt 64 n >>> (8 * (8 - 1 - i))).setWidth 8)
  rw [bkF, show 8 - 1 - i = 7 - i by omega]
theorem bkF_val (x : BitVec 64) (k : Nat) (h : k < 8) : ((bkF x (7 - k)).toNat : Int) = ((x.toNat / 256 ^ k % 256 : Nat) : Int) := by
  unfold bkF
  rw [show 7 - (7 - k) = k by omega]
  show (((x >>> (8 * k)).setWidth 8).toNat : Int) = _
  rw [BitVec.toNat_setWidth, BitVec.toNat_ushiftRight, Nat.shiftRight_eq_div_pow, Nat.pow_mul]
theorem bkL_0 (x : BitVec 64) : aOfBytes (bkL x 0) = List.replicate 8 (AV.int .u8 0) := by
  simp [bkL, aOfBytes, List.map_const']
set_option maxHeartbeats 8000000 in
theorem refint_spec (full : Bool) (l : List UInt8) (n : Int) (hl : l.length ≤ 1000000) : Spec Try.prog 54 [.sl full l.length (aOfBytes l), .int .i64 n] (.own (l.length + 8) 5 (aOfBytes (pI l n))) := by
  have hla := aOfBytes_len l
  obtain ⟨x, hx⟩ : ∃ x : BitVec 64, x = BitVec.ofInt 64 n := ⟨_, rfl⟩
  obtain ⟨N, hN⟩ : ∃ N, N = x.toNat := ⟨_, rfl⟩
  have hNb : N < 18446744073709551616 := by rw [hN]; exact x.isLt
  have hwr : IntKind.u64.wrap n = (N : Int) := by rw [hN, hx, BitVec.toNat_ofInt, IntKind.wrap_u64]; omega
  have hv := fun k h => bkF_val x k h
  have hall := bkL_all n
  rw [← hx] at hall
  rw [← hN] at hv
  rw [show pI l n = l ++ fb (encI n) from pI_app l n]
  refine spec_of_own (fun t => t == 8 || t == 24) (by kernel_rfl) Try.func54 rfl rfl (by simp [Try.ntmps54]) (by decide) ?_
  intro δ
  rw [init2]
  repeat with_reducible (first | refine aWp_seq ?_ | refine seq_normal ?_ | refine seq_ret ?_ | refine seq_exit ?_ | refine blk_normal ?_ | refine blk_ret ?_ | refine blk_hit ?_ | refine blk_miss rfl ?_ | refine aWp_ret ?_ | refine aWp_skip ?_ | refine aWp_block ?_ | refine aWp_exit ?_ | refine end_ret ?_ | refine end_normal ?_)
  refine rgA ?_
  intro ν
  repeat with_reducible (first | refine aWp_seq ?_ | refine seq_normal ?_ | refine seq_ret ?_ | refine seq_exit ?_ | refine blk_normal ?_ | refine blk_ret ?_ | refine blk_hit ?_ | refine blk_miss rfl ?_ | refine aWp_ret ?_ | refine aWp_skip ?_ | refine aWp_block ?_ | refine aWp_exit ?_ | refine end_ret ?_ | refine end_normal ?_)
  refine rgA ?_
  intro ν
  repeat with_reducible (first | refine aWp_seq ?_ | refine seq_normal ?_ | refine seq_ret ?_ | refine seq_exit ?_ | refine blk_normal ?_ | refine blk_ret ?_ | refine blk_hit ?_ | refine blk_miss rfl ?_ | refine aWp_ret ?_ | refine aWp_skip ?_ | refine aWp_block ?_ | refine aWp_exit ?_ | refine end_ret ?_ | refine end_normal ?_)
  refine rgA ?_
  intro ν
  rw [hwr]
  repeat (first | with_reducible (first | refine aWp_seq ?_ | refine seq_normal ?_ | refine seq_ret ?_ | refine seq_exit ?_ | refine blk_normal ?_ | refine blk_ret ?_ | refine blk_hit ?_ | refine blk_miss rfl ?_ | refine aWp_ret ?_ | refine aWp_skip ?_ | refine aWp_block ?_ | refine aWp_exit ?_ | refine end_ret ?_ | refine end_normal ?_) | ((refine rgA ?_); intro ν) | ((with_reducible apply cndT); exact rfl; (first | rfl | assumption)) | ((with_reducible apply cndF); exact rfl; (first | rfl | assumption)))
  refine aWp_loop (fun m s => ∃ F T ν k g, m = 8 - k ∧ k ≤ 8 ∧ s = ⟨F, T, ν, ⟨fun t => t == 8 || t == 24, δ, false⟩⟩ ∧
    F 0 = .k (.sl full l.length (aOfBytes l)) ∧ F 5 = .os 8 g 0 8 8 ∧ F 6 = .k (.int .u64 ((N / 256 ^ k : Nat) : Int)) ∧ F 7 = .k (.int .i64 (k : Nat)) ∧ T 8 = some (g, .obj (aOfBytes (bkL x k)))) 8 ⟨_, _, _, 0, _, rfl, Nat.zero_le _, rfl, rfl, rfl, ?_, rfl, ?_⟩ ?_
  · rw [Nat.pow_zero, Nat.div_one]; rfl
  · rw [bkL_0]; rfl
  rintro m s ⟨F, T, ν, k, g, rfl, hk, rfl, f0, f5, f6, f7, t8⟩
  rw [has4 f0 f5 f6 f7, has1 t8]
  have hbl := bkL_len x k
  have hba := aOfBytes_len (bkL x k)
  by_cases hlt : k < 8
  · have hst := set_b (bkL x k) (bkF x (7 - k)) (7 - k) (by omega)
    rw [bkL_set x k hlt, hv k hlt] at hst
    have hq : N / 256 ^ (k + 1) = N / 256 ^ k / 256 := by rw [Nat.pow_succ, Nat.div_div_eq_div_mul]
    have hqb : N / 256 ^ k < 18446744073709551616 := Nat.lt_of_le_of_lt (Nat.div_le_self _ _) hNb
    have e7 : ((7 : Int) - (k : Int)).toNat = 7 - k := by omega
    rw [← e7] at hst
    generalize N / 256 ^ k = q at *
    repeat (first | with_reducible (first | refine aWp_seq ?_ | refine seq_normal ?_ | refine seq_ret ?_ | refine seq_exit ?_ | refine blk_normal ?_ | refine blk_ret ?_ | refine blk_hit ?_ | refine blk_miss rfl ?_ | refine aWp_ret ?_ | refine aWp_skip ?_ | refine aWp_block ?_ | refine aWp_exit ?_ | refine end_ret ?_ | refine end_normal ?_) | ((refine rgA ?_); intro ν) | ((with_reducible apply cndT); exact rfl; (first | rfl | assumption)) | ((with_reducible apply cndF); exact rfl; (first | rfl | assumption)))
    refine ⟨8 - (k + 1), by omega, _, _, _, k + 1, g, rfl, by omega, rfl, rfl, rfl, ?_, ?_, ?_⟩
    · have hqi : ((q / 256 : Nat) : Int) = (q : Int) / 256 := by omega
      rw [hq, hqi]; rfl
    · show (SV.k (.int .i64 ((k : Int) + 1)) : SV) = _
      rw [Int.natCast_succ]
    · rw [upd_same]
      exact congrArg (fun q => some (g, Ent.obj q)) hst
  · have hke : k = 8 := by omega
    subst hke
    rw [hall]
    clear t8 hv hall hwr
    have hel : (fb (encI n)).length = 8 := by rw [fb_len, encI_len]
    have hea := aOfBytes_len (fb (encI n))
    have ht8 : List.take 8 (aOfBytes (fb (encI n))) = aOfBytes (fb (encI n)) := List.take_of_length_le (by omega)
    by_cases h0 : l.length = 0
    · have hl0 : l = [] := List.eq_nil_of_length_eq_zero h0
      repeat (first | with_reducible (first | refine aWp_seq ?_ | refine seq_normal ?_ | refine seq_ret ?_ | refine seq_exit ?_ | refine blk_normal ?_ | refine blk_ret ?_ | refine blk_hit ?_ | refine blk_miss rfl ?_ | refine aWp_ret ?_ | refine aWp_skip ?_ | refine aWp_block ?_ | refine aWp_exit ?_ | refine end_ret ?_ | refine end_normal ?_) | ((refine rgA ?_); intro ν) | ((with_reducible apply cndT); exact rfl; (first | rfl | assumption)) | ((with_reducible apply cndF); exact rfl; (first | rfl | assumption)))
      rw [ht8]
      refine ⟨rfl, endO rfl (d := 28) ?_ rfl (all_scB _)⟩
      rw [hl0]; rfl
    · repeat (first | with_reducible (first | refine aWp_seq ?_ | refine seq_normal ?_ | refine seq_ret ?_ | refine seq_exit ?_ | refine blk_normal ?_ | refine blk_ret ?_ | refine blk_hit ?_ | refine blk_miss rfl ?_ | refine aWp_ret ?_ | refine aWp_skip ?_ | refine aWp_block ?_ | refine aWp_exit ?_ | refine end_ret ?_ | refine end_normal ?_) | ((refine rgA ?_); intro ν) | ((with_reducible apply cndT); exact rfl; (first | rfl | assumption)) | ((with_reducible apply cndF); exact rfl; (first | rfl | assumption)))
      rw [ht8, ← aOfBytes_append]
      exact ⟨rfl, endO rfl rfl rfl (all_scB _)⟩
end Go.Proofs.Ytmbnclpgldglnaa
