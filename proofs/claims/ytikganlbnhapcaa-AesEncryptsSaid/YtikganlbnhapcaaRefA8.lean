import Derived.Test.YtikganlbnhapcaaRefA7
import Derived.Test.YtikganlbnhapcaaAes8
namespace Go.Proofs.Ytikganlbnhapcaa
open Go.RowKit
set_option linter.unusedVariables false
set_option linter.unusedSimpArgs false
set_option maxRecDepth 20000
theorem ld_arrT4 {n : Nat} {e : TypeId} {sz : Nat} (cs : List AV) (h : cs.length = sz) : ldAgg (.arr n e) sz cs = some (.agg cs) := by
  have := ld_arr (n := n) (e := e) cs h
  rwa [List.drop_zero] at this
set_option maxHeartbeats 8000000 in
theorem law_AesEncrypts (key b : List UInt8) (n : UInt8) (hb : b.length = 16) (hkb : key.length ≤ 9223372036854775807) : Spec Try.prog 4 [.sl false key.length (aOfBytes key), .int .u8 (n.toNat : Int), .agg (aOfBytes b)] (.k (.bool true)) := by
  have s1 := sized_spec false key n
  have hok := sizedB_ok key n
  generalize sizedB key n = k at *
  have hka := aOfBytes_len key
  have hba := aOfBytes_len b
  have s2 := new_spec false k (by unfold aesOk at hok; omega)
  rw [newR, if_pos hok] at s2
  have s3 := rnewK k false hok
  have hR : aesR k ≤ 1000 ∧ 0 < aesR k := by unfold aesOk at hok; unfold aesR; omega
  have s4 := encrypt_spec sL iL (aesK k) b (aesR k) sL_len iL_len (aesK_len hok) hR.1 hR.2 hb
  have s5 := decrypt_spec sL iL (aesK k) b (aesR k) sL_len iL_len (aesK_len hok) hR.1 hR.2 hb
  have s6 := fun f => renc_key hok f b hb
  have s7 := fun f => rdec_key hok f b hb
  have hXl := encB_len sL (aesK k) b (aesR k)
  have hYl := decB_len iL (aesK k) b (aesR k)
  generalize encB sL (aesK k) b (aesR k) = X at *
  generalize decB iL (aesK k) b (aesR k) = Y at *
  change Spec _ _ [aesC k, _] _ at s4
  change Spec _ _ [aesC k, _] _ at s5
  have hcC : ∃ cs, aesC k = .cp cs := ⟨_, rfl⟩
  have hcR : ∃ cs, rKey k = .cp cs := ⟨_, rfl⟩
  generalize aesC k = C at *
  generalize rKey k = R at *
  obtain ⟨cC, rfl⟩ := hcC
  obtain ⟨cR, rfl⟩ := hcR
  have lb := ld_arrT4 (n := 16) (e := 5) (aOfBytes b) (sz := 16) (by omega)
  have hXa := aOfBytes_len X
  have hYa := aOfBytes_len Y
  have b1 : aBytes (List.take 16 (aOfBytes X)) = some X := by rw [List.take_of_length_le (by omega)]; exact aBytes_of' _
  have b2 : aBytes (List.take 16 (aOfBytes Y)) = some Y := by rw [List.take_of_length_le (by omega)]; exact aBytes_of' _
  have hbt : List.take 16 (aOfBytes b) = aOfBytes b := List.take_of_length_le (by omega)
  rw [← hbt] at s6 s7
  have main : ∀ (v : AV) (e : Int) (w : AV) (may : Bool), (decide (e = 0) == may) = true → Spec Try.prog 18 [.sl false key.length (aOfBytes key)] (.k (.tup [v, .int .i64 e])) → Spec Try.prog 20 [.sl false key.length (aOfBytes key)] (.k (.tup [w, .bool may])) →
      Spec Try.prog 4 [.sl false key.length (aOfBytes key), .int .u8 (n.toNat : Int), .agg (aOfBytes b)] (.k (.bool true)) := by
    intro v e w may hem s8 s9
    refine spec_of (fun _ => false) (by kernel_rfl) Try.func4 rfl rfl (by simp [Try.ntmps4]) (by decide) ?_
    intro δ
    rw [init3]
    repeat with_reducible (first | refine aWp_seq ?_ | refine seq_normal ?_ | refine seq_ret ?_ | refine seq_exit ?_ | refine blk_normal ?_ | refine blk_ret ?_ | refine blk_hit ?_ | refine blk_miss rfl ?_ | refine aWp_ret ?_ | refine aWp_skip ?_ | refine aWp_block ?_ | refine aWp_exit ?_ | refine end_ret ?_ | refine end_normal ?_)
    refine rg fun K hK => ?_
    refine stA ?_
    refine rzp (t := 5) rfl rfl ?_
    refine hK _ _ _ ?_
    clear hK K; intro ν
    repeat with_reducible (first | refine aWp_seq ?_ | refine seq_normal ?_ | refine seq_ret ?_ | refine seq_exit ?_ | refine blk_normal ?_ | refine blk_ret ?_ | refine blk_hit ?_ | refine blk_miss rfl ?_ | refine aWp_ret ?_ | refine aWp_skip ?_ | refine aWp_block ?_ | refine aWp_exit ?_ | refine end_ret ?_ | refine end_normal ?_)
    refine rg fun K hK => ?_
    refine stA ?_
    (first | with_reducible refine g0 ?_ | ((with_reducible refine g1 ?_ ?_); (with_reducible apply gt_); exact rfl; exact rfl; (first | rfl | assumption | (simp [*] <;> done)))); refine scA (h2 := (s1)) (hk := ?_)
    refine stA ?_
    (first | with_reducible refine g0 ?_ | ((with_reducible refine g1 ?_ ?_); (with_reducible apply gt_); exact rfl; exact rfl; (first | rfl | assumption | (simp [*] <;> done)))); refine scA (h2 := (s2)) (hk := ?_)
    refine stA ?_
    with_reducible refine rz ?_
    refine hK _ _ _ ?_
    clear hK K; intro ν
    repeat with_reducible (first | refine aWp_seq ?_ | refine seq_normal ?_ | refine seq_ret ?_ | refine seq_exit ?_ | refine blk_normal ?_ | refine blk_ret ?_ | refine blk_hit ?_ | refine blk_miss rfl ?_ | refine aWp_ret ?_ | refine aWp_skip ?_ | refine aWp_block ?_ | refine aWp_exit ?_ | refine end_ret ?_ | refine end_normal ?_)
    refine rg fun K hK => ?_
    refine stA ?_
    (first | with_reducible refine g0 ?_ | ((with_reducible refine g1 ?_ ?_); (with_reducible apply gt_); exact rfl; exact rfl; (first | rfl | assumption | (simp [*] <;> done)))); refine scA (h2 := (s1)) (hk := ?_)
    refine stA ?_
    (first | with_reducible refine g0 ?_ | ((with_reducible refine g1 ?_ ?_); (with_reducible apply gt_); exact rfl; exact rfl; (first | rfl | assumption | (simp [*] <;> done)))); refine scA (h2 := (s3)) (hk := ?_)
    refine stA ?_
    with_reducible refine rz ?_
    refine hK _ _ _ ?_
    clear hK K; intro ν
    repeat (first | with_reducible (first | refine aWp_seq ?_ | refine seq_normal ?_ | refine seq_ret ?_ | refine seq_exit ?_ | refine blk_normal ?_ | refine blk_ret ?_ | refine blk_hit ?_ | refine blk_miss rfl ?_ | refine aWp_ret ?_ | refine aWp_skip ?_ | refine aWp_block ?_ | refine aWp_exit ?_ | refine end_ret ?_ | refine end_normal ?_) | ((refine rgA ?_); intro ν) | ((with_reducible apply cndT); exact rfl; (first | rfl | assumption)) | ((with_reducible apply cndF); exact rfl; (first | rfl | assumption)))
    refine rgx [(8,[11],[11]),(9,[12],[12])] (by kernel_rfl) fun K hK => ?_
    refine stxA ?_
    ((first | ((with_reducible refine x0 ?_ ?_); exact rfl) | ((with_reducible refine x1 ?_ ?_ ?_); exact rfl; (with_reducible apply gt_); exact rfl; exact rfl; (first | rfl | assumption | (simp [*] <;> done)))); refine xcA (h2 := (s4)) (hk := ?_))
    refine stxA ?_
    ((first | ((with_reducible refine x0 ?_ ?_); exact rfl) | ((with_reducible refine x1 ?_ ?_ ?_); exact rfl; (with_reducible apply gt_); exact rfl; exact rfl; (first | rfl | assumption | (simp [*] <;> done)))); refine xcA (h2 := (s5)) (hk := ?_))
    refine stxA ?_
    with_reducible refine xz ?_
    refine hK _ _ _ ?_
    clear hK K; intro ν
    rw [drop_rep, List.append_nil, List.append_nil]
    repeat (first | with_reducible (first | refine aWp_seq ?_ | refine seq_normal ?_ | refine seq_ret ?_ | refine seq_exit ?_ | refine blk_normal ?_ | refine blk_ret ?_ | refine blk_hit ?_ | refine blk_miss rfl ?_ | refine aWp_ret ?_ | refine aWp_skip ?_ | refine aWp_block ?_ | refine aWp_exit ?_ | refine end_ret ?_ | refine end_normal ?_) | ((refine rgA ?_); intro ν) | ((with_reducible apply cndT); exact rfl; (first | rfl | assumption)) | ((with_reducible apply cndF); exact rfl; (first | rfl | assumption)))
    refine rg fun K hK => ?_
    refine stA ?_
    (first | with_reducible refine g0 ?_ | ((with_reducible refine g1 ?_ ?_); (with_reducible apply gt_); exact rfl; exact rfl; (first | rfl | assumption | (simp [*] <;> done)))); refine scA (h2 := (s8)) (hk := ?_)
    refine stA ?_
    with_reducible refine rz ?_
    refine hK _ _ _ ?_
    clear hK K; intro ν
    repeat with_reducible (first | refine aWp_seq ?_ | refine seq_normal ?_ | refine seq_ret ?_ | refine seq_exit ?_ | refine blk_normal ?_ | refine blk_ret ?_ | refine blk_hit ?_ | refine blk_miss rfl ?_ | refine aWp_ret ?_ | refine aWp_skip ?_ | refine aWp_block ?_ | refine aWp_exit ?_ | refine end_ret ?_ | refine end_normal ?_)
    refine rg fun K hK => ?_
    refine stA ?_
    (first | with_reducible refine g0 ?_ | ((with_reducible refine g1 ?_ ?_); (with_reducible apply gt_); exact rfl; exact rfl; (first | rfl | assumption | (simp [*] <;> done)))); refine scA (h2 := (s9)) (hk := ?_)
    refine stA ?_
    with_reducible refine rz ?_
    refine hK _ _ _ ?_
    clear hK K; intro ν
    repeat with_reducible (first | refine aWp_seq ?_ | refine seq_normal ?_ | refine seq_ret ?_ | refine seq_exit ?_ | refine blk_normal ?_ | refine blk_ret ?_ | refine blk_hit ?_ | refine blk_miss rfl ?_ | refine aWp_ret ?_ | refine aWp_skip ?_ | refine aWp_block ?_ | refine aWp_exit ?_ | refine end_ret ?_ | refine end_normal ?_)
    refine rgx [(3,[11],[11]),(12,[12],[12])] (by kernel_rfl) fun K hK => ?_
    refine stxA ?_
    ((first | ((with_reducible refine x0 ?_ ?_); exact rfl) | ((with_reducible refine x1 ?_ ?_ ?_); exact rfl; (with_reducible apply gt_); exact rfl; exact rfl; (first | rfl | assumption | (simp [*] <;> done)))); refine xcA (h2 := (awake04_spec)) (hk := ?_))
    refine stxA ?_
    ((first | ((with_reducible refine x0 ?_ ?_); exact rfl) | ((with_reducible refine x1 ?_ ?_ ?_); exact rfl; (with_reducible apply gt_); exact rfl; exact rfl; (first | rfl | assumption | (simp [*] <;> done)))); refine xcA (h2 := (s6 _)) (hk := ?_))
    refine stxA ?_
    ((first | ((with_reducible refine x0 ?_ ?_); exact rfl) | ((with_reducible refine x1 ?_ ?_ ?_); exact rfl; (with_reducible apply gt_); exact rfl; exact rfl; (first | rfl | assumption | (simp [*] <;> done)))); refine xcA (h2 := (s7 _)) (hk := ?_))
    refine stxA ?_
    with_reducible refine xz ?_
    refine hK _ _ _ ?_
    clear hK K; intro ν
    repeat (first | with_reducible (first | refine aWp_seq ?_ | refine seq_normal ?_ | refine seq_ret ?_ | refine seq_exit ?_ | refine blk_normal ?_ | refine blk_ret ?_ | refine blk_hit ?_ | refine blk_miss rfl ?_ | refine aWp_ret ?_ | refine aWp_skip ?_ | refine aWp_block ?_ | refine aWp_exit ?_ | refine end_ret ?_ | refine end_normal ?_) | ((refine rgA ?_); intro ν) | ((with_reducible apply cndT); exact rfl; (first | rfl | assumption)) | ((with_reducible apply cndF); exact rfl; (first | rfl | assumption)))
    (first | with_reducible refine end_r ?_ | with_reducible refine end_n ?_); refine en1 ?_
    rw [hem]
  by_cases q : aesOk key
  · have s8 := new_spec false key hkb
    rw [newR, if_pos q] at s8
    exact main _ 0 _ true rfl s8 (rnewK key false q)
  · have s8 := new_spec false key hkb
    rw [newR, if_neg q] at s8
    exact main _ 1 _ false rfl s8 (rnew_none key false q hkb)
end Go.Proofs.Ytikganlbnhapcaa
