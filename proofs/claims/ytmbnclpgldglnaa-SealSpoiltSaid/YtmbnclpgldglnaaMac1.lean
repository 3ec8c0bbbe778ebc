import Derived.Test.YtmbnclpgldglnaaSha5
namespace Go.Proofs.Ytmbnclpgldglnaa
open Go.RowKit
set_option linter.unusedVariables false
set_option linter.unusedSimpArgs false
set_option maxRecDepth 20000
/-! a key of 64 bytes, each turned -/
def cutK (k : List UInt8) : List UInt8 := if 64 < k.length then shaB k else k
def padK (k : List UInt8) : List UInt8 := cutK k ++ List.replicate (64 - (cutK k).length) 0
def mixKF (k : List UInt8) (x : UInt8) (i : Nat) : UInt8 := k.getD i 0 ^^^ x
def mixK (k : List UInt8) (x : UInt8) : List UInt8 := (List.range 64).map (mixKF (padK k) x)
theorem mixK_len (k : List UInt8) (x : UInt8) : (mixK k x).length = 64 := by simp [mixK]
theorem cutK_len (k : List UInt8) : (cutK k).length ≤ 64 := by
  unfold cutK; split
  · rw [shaB_len]; omega
  · omega
theorem padK_len (k : List UInt8) : (padK k).length = 64 := by
  have := cutK_len k
  simp [padK]; omega
theorem padK_av (k : List UInt8) : aOfBytes (padK k) = aOfBytes (cutK k) ++ List.replicate (64 - (cutK k).length) (AV.int .u8 0) := by
  simp [padK, aOfBytes]
set_option maxHeartbeats 8000000 in
set_option maxHeartbeats 8000000 in
theorem mixed_spec (full : Bool) (k : List UInt8) (hk : k.length ≤ 900000) (x : UInt8) : Spec Try.prog 64 [.sl full k.length (aOfBytes k), .int .u8 (x.toNat : Int)] (.k (.sl false 64 (aOfBytes (mixK k x)))) := by
  have hka := aOfBytes_len k
  have hP := padK_len k
  have hPv := padK_av k
  have hc := cutK_len k
  have hca := aOfBytes_len (cutK k)
  have s1 := of_spec false [(full, k)] (by simpa using hk) (by simp)
  simp only [List.map_cons, List.map_nil, pCells, pB, Part.av, List.flatMap_cons, List.flatMap_nil, List.append_nil, List.length_cons, List.length_nil, Nat.reduceAdd, hka] at s1
  refine spec_of (fun t => t == 15) (by kernel_rfl) Try.func64 rfl rfl (by simp [Try.ntmps64]) (by decide) ?_
  intro δ
  rw [init2]
  generalize hMb : mixK k x = M at *
  unfold mixK at hMb
  generalize padK k = PK at *
  have hPa := aOfBytes_len PK
  have hz : aZeros 64 1 [AV.int .u8 0] = List.replicate 64 (AV.int .u8 0) := rfl
  by_cases h : 64 < k.length
  · have ec : cutK k = shaB k := by unfold cutK; rw [if_pos h]
    rw [ec] at hPv hca hc
    have hl := shaB_len k
    have hla := aOfBytes_len (shaB k)
    generalize shaB k = D at *
    repeat (first | with_reducible (first | refine aWp_seq ?_ | refine seq_normal ?_ | refine seq_ret ?_ | refine seq_exit ?_ | refine blk_normal ?_ | refine blk_ret ?_ | refine blk_hit ?_ | refine blk_miss rfl ?_ | refine aWp_ret ?_ | refine aWp_skip ?_ | refine aWp_block ?_ | refine aWp_exit ?_ | refine end_ret ?_ | refine end_normal ?_) | ((refine rgA ?_); intro ν) | ((with_reducible apply cndT); exact rfl; (first | rfl | assumption)) | ((with_reducible apply cndF); exact rfl; (first | rfl | assumption)))
    refine rg fun K hK => ?_
    refine stA ?_
    (first | with_reducible refine g0 ?_ | ((with_reducible refine g1 ?_ ?_); (with_reducible apply gt_); exact rfl; exact rfl; (first | rfl | assumption | (simp [*] <;> done)))); refine scA (h2 := (s1)) (hk := ?_)
    refine stA ?_
    with_reducible refine rz ?_
    refine hK _ _ _ ?_
    clear hK K; intro ν
    rw [drop_rep, List.append_nil]
    repeat (first | with_reducible (first | refine aWp_seq ?_ | refine seq_normal ?_ | refine seq_ret ?_ | refine seq_exit ?_ | refine blk_normal ?_ | refine blk_ret ?_ | refine blk_hit ?_ | refine blk_miss rfl ?_ | refine aWp_ret ?_ | refine aWp_skip ?_ | refine aWp_block ?_ | refine aWp_exit ?_ | refine end_ret ?_ | refine end_normal ?_) | ((refine rgA ?_); intro ν) | ((with_reducible apply cndT); exact rfl; (first | rfl | assumption)) | ((with_reducible apply cndF); exact rfl; (first | rfl | assumption)))
    refine aWp_loop (fun m s => ∃ F T ν i g, m = 64 - i ∧ i ≤ 64 ∧ s = ⟨F, T, ν, ⟨fun t => t == 15, δ, false⟩⟩ ∧
      F 6 = .os 15 g 0 64 64 ∧ F 1 = .k (.int .u8 (x.toNat : Int)) ∧ F 20 = .k (.int .i64 64) ∧ F 21 = .k (.int .i64 (i : Nat)) ∧ T 15 = some (g, .obj (aOfBytes (setN (mixKF PK x) PK i)))) 64 ⟨_, _, _, 0, _, rfl, Nat.zero_le _, rfl, rfl, rfl, rfl, rfl, ?_⟩ ?_
    · rw [upd_same, setN, hPv, hz, List.drop_replicate, List.take_of_length_le (by rw [List.length_take]; omega), List.take_of_length_le (by omega)]
      (try rw [hl])
    rintro m s ⟨F, T, ν, i, g, rfl, hi, rfl, f6, f1, f20, f21, t15⟩
    rw [has4 f6 f1 f20 f21, has1 t15]
    have hsl := setN_len (mixKF PK x) PK i
    have hsa := aOfBytes_len (setN (mixKF PK x) PK i)
    by_cases hlt : i < 64
    · have l1 := ld_b (setN (mixKF PK x) PK i) i (by omega)
      rw [setN_get (mixKF PK x) PK i i (Nat.le_refl _)] at l1
      have hst := set_b (setN (mixKF PK x) PK i) (mixKF PK x i) i (by omega)
      repeat (first | with_reducible (first | refine aWp_seq ?_ | refine seq_normal ?_ | refine seq_ret ?_ | refine seq_exit ?_ | refine blk_normal ?_ | refine blk_ret ?_ | refine blk_hit ?_ | refine blk_miss rfl ?_ | refine aWp_ret ?_ | refine aWp_skip ?_ | refine aWp_block ?_ | refine aWp_exit ?_ | refine end_ret ?_ | refine end_normal ?_) | ((refine rgA ?_); intro ν) | ((with_reducible apply cndT); exact rfl; (first | rfl | assumption)) | ((with_reducible apply cndF); exact rfl; (first | rfl | assumption)))
      refine ⟨64 - (i + 1), by omega, _, _, _, i + 1, g, rfl, by omega, rfl, rfl, rfl, rfl, ?_, ?_⟩
      · show (SV.k (.int .i64 ((i : Int) + 1)) : SV) = _
        rw [Int.natCast_succ]
      · rw [upd_same]
        exact congrArg (fun q => some (g, Ent.obj q)) hst
    · have hie : i = 64 := by omega
      subst hie
      have he := setN_all (mixKF PK x) PK 64 hP
      rw [hMb] at he
      rw [he]
      rw [he] at hsa
      have hMl : M.length = 64 := by rw [← hMb, List.length_map, List.length_range]
      clear hMb he hsl hPv hz
      repeat (first | with_reducible (first | refine aWp_seq ?_ | refine seq_normal ?_ | refine seq_ret ?_ | refine seq_exit ?_ | refine blk_normal ?_ | refine blk_ret ?_ | refine blk_hit ?_ | refine blk_miss rfl ?_ | refine aWp_ret ?_ | refine aWp_skip ?_ | refine aWp_block ?_ | refine aWp_exit ?_ | refine end_ret ?_ | refine end_normal ?_) | ((refine rgA ?_); intro ν) | ((with_reducible apply cndT); exact rfl; (first | rfl | assumption)) | ((with_reducible apply cndF); exact rfl; (first | rfl | assumption)))
      clear t15
      (first | with_reducible refine end_r ?_ | with_reducible refine end_n ?_); refine en1 ?_
      have hfin : List.take 64 (aOfBytes M) = aOfBytes M := List.take_of_length_le (by rw [hsa, hMl]; exact Nat.le_refl 64)
      rw [hfin]
  · have ec : cutK k = k := by unfold cutK; rw [if_neg h]
    rw [ec] at hPv hca hc
    repeat (first | with_reducible (first | refine aWp_seq ?_ | refine seq_normal ?_ | refine seq_ret ?_ | refine seq_exit ?_ | refine blk_normal ?_ | refine blk_ret ?_ | refine blk_hit ?_ | refine blk_miss rfl ?_ | refine aWp_ret ?_ | refine aWp_skip ?_ | refine aWp_block ?_ | refine aWp_exit ?_ | refine end_ret ?_ | refine end_normal ?_) | ((refine rgA ?_); intro ν) | ((with_reducible apply cndT); exact rfl; (first | rfl | assumption)) | ((with_reducible apply cndF); exact rfl; (first | rfl | assumption)))
    refine aWp_loop (fun m s => ∃ F T ν i g, m = 64 - i ∧ i ≤ 64 ∧ s = ⟨F, T, ν, ⟨fun t => t == 15, δ, false⟩⟩ ∧
      F 6 = .os 15 g 0 64 64 ∧ F 1 = .k (.int .u8 (x.toNat : Int)) ∧ F 20 = .k (.int .i64 64) ∧ F 21 = .k (.int .i64 (i : Nat)) ∧ T 15 = some (g, .obj (aOfBytes (setN (mixKF PK x) PK i)))) 64 ⟨_, _, _, 0, _, rfl, Nat.zero_le _, rfl, rfl, rfl, rfl, rfl, ?_⟩ ?_
    · rw [upd_same, setN, hPv, hz, List.drop_replicate, List.take_of_length_le (by omega)]
    rintro m s ⟨F, T, ν, i, g, rfl, hi, rfl, f6, f1, f20, f21, t15⟩
    rw [has4 f6 f1 f20 f21, has1 t15]
    have hsl := setN_len (mixKF PK x) PK i
    have hsa := aOfBytes_len (setN (mixKF PK x) PK i)
    by_cases hlt : i < 64
    · have l1 := ld_b (setN (mixKF PK x) PK i) i (by omega)
      rw [setN_get (mixKF PK x) PK i i (Nat.le_refl _)] at l1
      have hst := set_b (setN (mixKF PK x) PK i) (mixKF PK x i) i (by omega)
      repeat (first | with_reducible (first | refine aWp_seq ?_ | refine seq_normal ?_ | refine seq_ret ?_ | refine seq_exit ?_ | refine blk_normal ?_ | refine blk_ret ?_ | refine blk_hit ?_ | refine blk_miss rfl ?_ | refine aWp_ret ?_ | refine aWp_skip ?_ | refine aWp_block ?_ | refine aWp_exit ?_ | refine end_ret ?_ | refine end_normal ?_) | ((refine rgA ?_); intro ν) | ((with_reducible apply cndT); exact rfl; (first | rfl | assumption)) | ((with_reducible apply cndF); exact rfl; (first | rfl | assumption)))
      refine ⟨64 - (i + 1), by omega, _, _, _, i + 1, g, rfl, by omega, rfl, rfl, rfl, rfl, ?_, ?_⟩
      · show (SV.k (.int .i64 ((i : Int) + 1)) : SV) = _
        rw [Int.natCast_succ]
      · rw [upd_same]
        exact congrArg (fun q => some (g, Ent.obj q)) hst
    · have hie : i = 64 := by omega
      subst hie
      have he := setN_all (mixKF PK x) PK 64 hP
      rw [hMb] at he
      rw [he]
      rw [he] at hsa
      have hMl : M.length = 64 := by rw [← hMb, List.length_map, List.length_range]
      clear hMb he hsl hPv hz
      repeat (first | with_reducible (first | refine aWp_seq ?_ | refine seq_normal ?_ | refine seq_ret ?_ | refine seq_exit ?_ | refine blk_normal ?_ | refine blk_ret ?_ | refine blk_hit ?_ | refine blk_miss rfl ?_ | refine aWp_ret ?_ | refine aWp_skip ?_ | refine aWp_block ?_ | refine aWp_exit ?_ | refine end_ret ?_ | refine end_normal ?_) | ((refine rgA ?_); intro ν) | ((with_reducible apply cndT); exact rfl; (first | rfl | assumption)) | ((with_reducible apply cndF); exact rfl; (first | rfl | assumption)))
      clear t15
      (first | with_reducible refine end_r ?_ | with_reducible refine end_n ?_); refine en1 ?_
      have hfin : List.take 64 (aOfBytes M) = aOfBytes M := List.take_of_length_le (by rw [hsa, hMl]; exact Nat.le_refl 64)
      rw [hfin]
end Go.Proofs.Ytmbnclpgldglnaa
