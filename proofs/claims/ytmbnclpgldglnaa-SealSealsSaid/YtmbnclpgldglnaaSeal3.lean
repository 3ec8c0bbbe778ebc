import Derived.Test.YtmbnclpgldglnaaSeal2
namespace Go.Proofs.Ytmbnclpgldglnaa
open Go.RowKit
set_option linter.unusedVariables false
set_option linter.unusedSimpArgs false
set_option maxRecDepth 20000
def I64 (n : Int) : Prop := -9223372036854775808 ≤ n ∧ n ≤ 9223372036854775807
theorem fe_len (n : Int) : (fb (encI n)).length = 8 := by rw [fb_len, encI_len]
theorem hdB_eq (id gen n : Int) : hdB id gen n = fb (encI id) ++ (fb (encI gen) ++ fb (encI n)) := by
  rw [hdB, pI_app, pI_app, pI_app, List.nil_append, List.append_assoc]
theorem preS_len (kE iv b : List UInt8) (id gen : Int) (hiv : iv.length = 16) : (preS kE iv b id gen).length = 56 + b.length / 16 * 16 := by
  rw [preS, List.length_append, List.length_append, hdB_len, hiv, sealB_len (cbcE_len kE)]; omega
theorem sealedB_len (kE kM iv b : List UInt8) (id gen : Int) (hiv : iv.length = 16) : (sealedB kE kM iv b id gen).length = 88 + b.length / 16 * 16 := by
  rw [sealedB, List.length_append, preS_len _ _ _ _ _ hiv, macB_len]; omega
theorem parts5 (A B N V X M : List UInt8) (hA : A.length = 8) (hB : B.length = 8) (hN : N.length = 8) (hV : V.length = 16) :
    (A ++ (B ++ (N ++ (V ++ X))) ++ M).take 8 = A ∧ ((A ++ (B ++ (N ++ (V ++ X))) ++ M).drop 8).take 8 = B ∧ ((A ++ (B ++ (N ++ (V ++ X))) ++ M).drop 16).take 8 = N ∧ ((A ++ (B ++ (N ++ (V ++ X))) ++ M).take 40).drop 24 = V ∧ (A ++ (B ++ (N ++ (V ++ X)))).drop 40 = X := by
  have d8 : ∀ (Y Z W : List UInt8), Y.length = 8 → (Y ++ Z ++ W).drop 8 = Z ++ W := fun Y Z W h => by rw [List.append_assoc]; exact List.drop_left' h
  have dd : ∀ (Y Z : List UInt8) (n k : Nat), Y.length = n → (Y ++ Z).drop (n + k) = Z.drop k := fun Y Z n k h => by rw [← List.drop_drop, List.drop_left' h]
  have f16 : (A ++ (B ++ (N ++ (V ++ X))) ++ M).drop 16 = N ++ (V ++ X) ++ M := by rw [List.append_assoc, dd A _ 8 8 hA, List.append_assoc B, List.drop_left' hB]
  have f24 : (A ++ (B ++ (N ++ (V ++ X))) ++ M).drop 24 = V ++ (X ++ M) := by rw [show 24 = 16 + 8 from rfl, ← List.drop_drop, f16, List.append_assoc, List.drop_left' hN, List.append_assoc]
  refine ⟨?_, ?_, ?_, ?_, ?_⟩
  · rw [List.append_assoc]; exact List.take_left' hA
  · rw [d8 _ _ _ hA, List.append_assoc]; exact List.take_left' hB
  · rw [f16, List.append_assoc]; exact List.take_left' hN
  · rw [List.drop_take, f24]; exact List.take_left' hV
  · rw [show 40 = 8 + 32 from rfl, dd A _ 8 32 hA, show 32 = 8 + 24 from rfl, dd B _ 8 24 hB, show 24 = 8 + 16 from rfl, dd N _ 8 16 hN]; exact List.drop_left' hV
/-- what is sealed, opened -/
theorem opn_sealed (kE kM iv b : List UInt8) (id gen id2 gen2 : Int) (hiv : iv.length = 16) (h1 : I64 id) (h2 : I64 gen) (hb : b.length ≤ 100000) :
    opnS kE kM (sealedB kE kM iv b id gen) id2 gen2 = if id = id2 ∧ gen = gen2 then some b else none := by
  have hpl := preS_len kE iv b id gen hiv
  have hsl := sealedB_len kE kM iv b id gen hiv
  have ho := open_seal (cbcE_len kE) (cbcDE kE) (iv := iv) (b := b)
  have hXl := sealB_len (cbcE_len kE) iv b
  have hpre : preS kE iv b id gen = fb (encI id) ++ (fb (encI gen) ++ (fb (encI ((sealB (cbcE kE) iv b).length : Int)) ++ (iv ++ sealB (cbcE kE) iv b))) := by
    rw [preS, hdB_eq, List.append_assoc, List.append_assoc]
  have e0 : (sealedB kE kM iv b id gen).length - 32 = (preS kE iv b id gen).length := by omega
  have e1 : (sealedB kE kM iv b id gen).take ((sealedB kE kM iv b id gen).length - 32) = preS kE iv b id gen := by rw [e0]; exact List.take_left' rfl
  have e2 : (sealedB kE kM iv b id gen).drop ((sealedB kE kM iv b id gen).length - 32) = macB kM (preS kE iv b id gen) := by rw [e0]; exact List.drop_left' rfl
  obtain ⟨f1, f2, f3, f4, f5⟩ := parts5 (fb (encI id)) (fb (encI gen)) (fb (encI ((sealB (cbcE kE) iv b).length : Int))) iv (sealB (cbcE kE) iv b) (macB kM (preS kE iv b id gen)) (fe_len _) (fe_len _) (fe_len _) hiv
  rw [← hpre] at f1 f2 f3 f4 f5
  change List.take 8 (sealedB kE kM iv b id gen) = _ at f1
  change List.take 8 (List.drop 8 (sealedB kE kM iv b id gen)) = _ at f2
  change List.take 8 (List.drop 16 (sealedB kE kM iv b id gen)) = _ at f3
  change List.drop 24 (List.take 40 (sealedB kE kM iv b id gen)) = _ at f4
  rw [opnS, e1, e2, f1, f2, f3, f4, f5, vB_enc id h1.1 h1.2, vB_enc gen h2.1 h2.2, vB_enc _ (by omega) (by omega), ho]
  by_cases q : id = id2 ∧ gen = gen2
  · rw [if_pos ⟨by omega, rfl, q.1, q.2, by omega⟩, if_pos q]
  · rw [if_neg (fun h => q ⟨h.2.2.1, h.2.2.2.1⟩), if_neg q]
theorem size_spec (n : Nat) (h : n ≤ 1048576) : Spec Try.prog 25 [.int .i64 (n : Int)] (.k (.int .i64 ((88 + n / 16 * 16 : Nat) : Int))) := by
  refine spec_of (fun _ => false) (by kernel_rfl) Try.func25 rfl rfl (by simp [Try.ntmps25]) (by decide) ?_
  intro δ
  rw [init1]
  repeat (first | with_reducible (first | refine aWp_seq ?_ | refine seq_normal ?_ | refine seq_ret ?_ | refine seq_exit ?_ | refine blk_normal ?_ | refine blk_ret ?_ | refine blk_hit ?_ | refine blk_miss rfl ?_ | refine aWp_ret ?_ | refine aWp_skip ?_ | refine aWp_block ?_ | refine aWp_exit ?_ | refine end_ret ?_ | refine end_normal ?_) | ((refine rgA ?_); intro ν) | ((with_reducible apply cndT); exact rfl; (first | rfl | assumption)) | ((with_reducible apply cndF); exact rfl; (first | rfl | assumption)))
  (first | with_reducible refine end_r ?_ | with_reducible refine end_n ?_); refine en1 ?_
  rw [show (40 : Int) + (n : Int) / 16 * 16 + 16 + 32 = ((88 + n / 16 * 16 : Nat) : Int) by omega]
theorem short10_spec (l : List UInt8) : Spec Try.prog 21 [.sl false l.length (aOfBytes l)] (.k (.sl false (l.take 200).length (aOfBytes (l.take 200)))) := by
  refine spec_of (fun _ => false) (by kernel_rfl) Try.func21 rfl rfl (by simp [Try.ntmps21]) (by decide) ?_
  intro δ
  rw [init1]
  have hl := aOfBytes_len l
  by_cases h : 200 < l.length
  · repeat (first | with_reducible (first | refine aWp_seq ?_ | refine seq_normal ?_ | refine seq_ret ?_ | refine seq_exit ?_ | refine blk_normal ?_ | refine blk_ret ?_ | refine blk_hit ?_ | refine blk_miss rfl ?_ | refine aWp_ret ?_ | refine aWp_skip ?_ | refine aWp_block ?_ | refine aWp_exit ?_ | refine end_ret ?_ | refine end_normal ?_) | ((refine rgA ?_); intro ν) | ((with_reducible apply cndT); exact rfl; (first | rfl | assumption)) | ((with_reducible apply cndF); exact rfl; (first | rfl | assumption)))
    (first | with_reducible refine end_r ?_ | with_reducible refine end_n ?_); refine en1 ?_
    simp [aOfBytes, List.map_take]; omega
  · repeat (first | with_reducible (first | refine aWp_seq ?_ | refine seq_normal ?_ | refine seq_ret ?_ | refine seq_exit ?_ | refine blk_normal ?_ | refine blk_ret ?_ | refine blk_hit ?_ | refine blk_miss rfl ?_ | refine aWp_ret ?_ | refine aWp_skip ?_ | refine aWp_block ?_ | refine aWp_exit ?_ | refine end_ret ?_ | refine end_normal ?_) | ((refine rgA ?_); intro ν) | ((with_reducible apply cndT); exact rfl; (first | rfl | assumption)) | ((with_reducible apply cndF); exact rfl; (first | rfl | assumption)))
    (first | with_reducible refine end_r ?_ | with_reducible refine end_n ?_); refine en1 ?_
    rw [List.take_of_length_le (by omega)]
set_option maxHeartbeats 8000000 in
theorem awake10_walk (kE kM iv S D : List UInt8) (hK : List.replicate 64 (AV.int .u8 0) = aOfBytes (kE ++ kM)) (hv : List.replicate 16 (AV.int .u8 0) = aOfBytes iv) (hkl : (kE ++ kM).length = 64) (hiv : iv.length = 16) (hS : S.length = 88) (hDl : D.length = 32) (hD : D = S.drop 56)
    (s1 : Spec Try.prog 20 [.agg (aOfBytes (kE ++ kM)), .agg (aOfBytes iv), .int .i64 3, .int .i64 4, .sl true 0 []] (.k (.tup [.sl true S.length (aOfBytes S), .int .i64 0])))
    (s2 : Spec Try.prog 26 [.agg (aOfBytes (kE ++ kM)), .int .i64 3, .int .i64 4, .sl true S.length (aOfBytes S)] (.k (.tup [.sl true 0 [], .int .i64 0])))
    (s3 : Spec Try.prog 26 [.agg (aOfBytes (kE ++ kM)), .int .i64 4, .int .i64 4, .sl true S.length (aOfBytes S)] (.k (.tup [.sl true 0 [], .int .i64 12])))
    (s4 : Spec Try.prog 28 [.agg (aOfBytes (kE ++ kM)), .sl true S.length (aOfBytes S)] (.k (.tup [.agg (aOfBytes D), .bool true]))) :
    Spec Try.prog 24 [] (.k (.bool true)) := by
  have s5 := size_spec 0 (by omega)
  have hSa := aOfBytes_len S
  have hDa := aOfBytes_len D
  have hia := aOfBytes_len iv
  have hKa := aOfBytes_len (kE ++ kM)
  have lk : ∀ fs, ldAgg (.st fs) 64 (aOfBytes (kE ++ kM)) = some (.agg (aOfBytes (kE ++ kM))) := fun fs => by
    simp only [ldAgg]; rw [if_pos (by omega), List.take_of_length_le (by omega)]
  have lk4 := lk [(0, 32), (32, 32)]
  have b1 : aBytes (List.take 32 (aOfBytes D)) = some D := by rw [List.take_of_length_le (by omega)]; exact aBytes_of' _
  have b2 : aBytes (List.drop 56 (List.take S.length (aOfBytes S))) = some (S.drop 56) := by rw [List.take_of_length_le (by omega), ← bytes_drop']; exact aBytes_of' _
  generalize kE ++ kM = K at *
  refine spec_of (fun _ => false) (by kernel_rfl) Try.func24 rfl rfl (by simp [Try.ntmps24]) (by decide) ?_
  intro δ
  rw [init0]
  repeat with_reducible (first | refine aWp_seq ?_ | refine seq_normal ?_ | refine seq_ret ?_ | refine seq_exit ?_ | refine blk_normal ?_ | refine blk_ret ?_ | refine blk_hit ?_ | refine blk_miss rfl ?_ | refine aWp_ret ?_ | refine aWp_skip ?_ | refine aWp_block ?_ | refine aWp_exit ?_ | refine end_ret ?_ | refine end_normal ?_)
  refine rgA ?_
  intro ν
  repeat with_reducible (first | refine aWp_seq ?_ | refine seq_normal ?_ | refine seq_ret ?_ | refine seq_exit ?_ | refine blk_normal ?_ | refine blk_ret ?_ | refine blk_hit ?_ | refine blk_miss rfl ?_ | refine aWp_ret ?_ | refine aWp_skip ?_ | refine aWp_block ?_ | refine aWp_exit ?_ | refine end_ret ?_ | refine end_normal ?_)
  refine rg fun K hK => ?_
  refine stA ?_
  refine rzp (t := 1) rfl rfl ?_
  refine hK _ _ _ ?_
  clear hK K; intro ν
  rw [drop_rep, List.append_nil, hK]
  repeat with_reducible (first | refine aWp_seq ?_ | refine seq_normal ?_ | refine seq_ret ?_ | refine seq_exit ?_ | refine blk_normal ?_ | refine blk_ret ?_ | refine blk_hit ?_ | refine blk_miss rfl ?_ | refine aWp_ret ?_ | refine aWp_skip ?_ | refine aWp_block ?_ | refine aWp_exit ?_ | refine end_ret ?_ | refine end_normal ?_)
  refine rg fun K hK => ?_
  refine stA ?_
  rw [hv]
  (first | with_reducible refine g0 ?_ | ((with_reducible refine g1 ?_ ?_); (with_reducible apply gt_); exact rfl; exact rfl; (first | rfl | assumption | (simp [*] <;> done)))); refine scA (h2 := (s1)) (hk := ?_)
  refine stA ?_
  with_reducible refine rz ?_
  refine hK _ _ _ ?_
  clear hK K; intro ν
  repeat (first | with_reducible (first | refine aWp_seq ?_ | refine seq_normal ?_ | refine seq_ret ?_ | refine seq_exit ?_ | refine blk_normal ?_ | refine blk_ret ?_ | refine blk_hit ?_ | refine blk_miss rfl ?_ | refine aWp_ret ?_ | refine aWp_skip ?_ | refine aWp_block ?_ | refine aWp_exit ?_ | refine end_ret ?_ | refine end_normal ?_) | ((refine rgA ?_); intro ν) | ((with_reducible apply cndT); exact rfl; (first | rfl | assumption)) | ((with_reducible apply cndF); exact rfl; (first | rfl | assumption)))
  refine rg fun K hK => ?_
  refine stA ?_
  (first | with_reducible refine g0 ?_ | ((with_reducible refine g1 ?_ ?_); (with_reducible apply gt_); exact rfl; exact rfl; (first | rfl | assumption | (simp [*] <;> done)))); refine scA (h2 := (s2)) (hk := ?_)
  refine stA ?_
  with_reducible refine rz ?_
  refine hK _ _ _ ?_
  clear hK K; intro ν
  repeat (first | with_reducible (first | refine aWp_seq ?_ | refine seq_normal ?_ | refine seq_ret ?_ | refine seq_exit ?_ | refine blk_normal ?_ | refine blk_ret ?_ | refine blk_hit ?_ | refine blk_miss rfl ?_ | refine aWp_ret ?_ | refine aWp_skip ?_ | refine aWp_block ?_ | refine aWp_exit ?_ | refine end_ret ?_ | refine end_normal ?_) | ((refine rgA ?_); intro ν) | ((with_reducible apply cndT); exact rfl; (first | rfl | assumption)) | ((with_reducible apply cndF); exact rfl; (first | rfl | assumption)))
  refine rg fun K hK => ?_
  refine stA ?_
  (first | with_reducible refine g0 ?_ | ((with_reducible refine g1 ?_ ?_); (with_reducible apply gt_); exact rfl; exact rfl; (first | rfl | assumption | (simp [*] <;> done)))); refine scA (h2 := (s3)) (hk := ?_)
  refine stA ?_
  with_reducible refine rz ?_
  refine hK _ _ _ ?_
  clear hK K; intro ν
  repeat (first | with_reducible (first | refine aWp_seq ?_ | refine seq_normal ?_ | refine seq_ret ?_ | refine seq_exit ?_ | refine blk_normal ?_ | refine blk_ret ?_ | refine blk_hit ?_ | refine blk_miss rfl ?_ | refine aWp_ret ?_ | refine aWp_skip ?_ | refine aWp_block ?_ | refine aWp_exit ?_ | refine end_ret ?_ | refine end_normal ?_) | ((refine rgA ?_); intro ν) | ((with_reducible apply cndT); exact rfl; (first | rfl | assumption)) | ((with_reducible apply cndF); exact rfl; (first | rfl | assumption)))
  refine rg fun K hK => ?_
  refine stA ?_
  (first | with_reducible refine g0 ?_ | ((with_reducible refine g1 ?_ ?_); (with_reducible apply gt_); exact rfl; exact rfl; (first | rfl | assumption | (simp [*] <;> done)))); refine scA (h2 := (s4)) (hk := ?_)
  refine stA ?_
  refine rzp (t := 8) rfl rfl ?_
  refine hK _ _ _ ?_
  clear hK K; intro ν
  rw [drop_rep, List.append_nil]
  repeat (first | with_reducible (first | refine aWp_seq ?_ | refine seq_normal ?_ | refine seq_ret ?_ | refine seq_exit ?_ | refine blk_normal ?_ | refine blk_ret ?_ | refine blk_hit ?_ | refine blk_miss rfl ?_ | refine aWp_ret ?_ | refine aWp_skip ?_ | refine aWp_block ?_ | refine aWp_exit ?_ | refine end_ret ?_ | refine end_normal ?_) | ((refine rgA ?_); intro ν) | ((with_reducible apply cndT); exact rfl; (first | rfl | assumption)) | ((with_reducible apply cndF); exact rfl; (first | rfl | assumption)))
  refine rgx [] (by kernel_rfl) fun K hK => ?_
  refine stxA ?_
  ((first | ((with_reducible refine x0 ?_ ?_); exact rfl) | ((with_reducible refine x1 ?_ ?_ ?_); exact rfl; (with_reducible apply gt_); exact rfl; exact rfl; (first | rfl | assumption | (simp [*] <;> done)))); refine xcA (h2 := (s5)) (hk := ?_))
  refine stxA ?_
  with_reducible refine xz ?_
  refine hK _ _ _ ?_
  clear hK K; intro ν
  repeat (first | with_reducible (first | refine aWp_seq ?_ | refine seq_normal ?_ | refine seq_ret ?_ | refine seq_exit ?_ | refine blk_normal ?_ | refine blk_ret ?_ | refine blk_hit ?_ | refine blk_miss rfl ?_ | refine aWp_ret ?_ | refine aWp_skip ?_ | refine aWp_block ?_ | refine aWp_exit ?_ | refine end_ret ?_ | refine end_normal ?_) | ((refine rgA ?_); intro ν) | ((with_reducible apply cndT); exact rfl; (first | rfl | assumption)) | ((with_reducible apply cndF); exact rfl; (first | rfl | assumption)))
  (first | with_reducible refine end_r ?_ | with_reducible refine end_n ?_); refine en1 ?_
  rfl
def k32 : List UInt8 := List.replicate 32 0
theorem k32_av : List.replicate 64 (AV.int .u8 0) = aOfBytes (k32 ++ k32) := rfl
theorem awake10_spec : Spec Try.prog 24 [] (.k (.bool true)) := by
  have h32 : k32.length = 32 := rfl
  have hz : kZ.length = 16 := rfl
  have i3 : I64 3 := ⟨by omega, by omega⟩
  have i4 : I64 4 := ⟨by omega, by omega⟩
  have hl := sealedB_len k32 k32 kZ [] 3 4 hz
  have e1 := opn_sealed k32 k32 kZ [] 3 4 3 4 hz i3 i4 (by simp)
  have e2 := opn_sealed k32 k32 kZ [] 3 4 4 4 hz i3 i4 (by simp)
  rw [if_pos ⟨rfl, rfl⟩] at e1
  rw [if_neg (by omega)] at e2
  have s1 := sealed_spec true k32 k32 kZ [] 3 4 h32 h32 hz (by simp)
  have s2 := opened_spec true k32 k32 (sealedB k32 k32 kZ [] 3 4) 3 4 h32 h32 (by rw [hl]; simp)
  have s3 := opened_spec true k32 k32 (sealedB k32 k32 kZ [] 3 4) 4 4 h32 h32 (by rw [hl]; simp)
  have s4 := tag_spec true k32 k32 (sealedB k32 k32 kZ [] 3 4) h32 h32 (by rw [hl]; simp) (by rw [hl]; simp)
  rw [e1] at s2
  rw [e2] at s3
  have hpl : (preS k32 kZ [] 3 4).length = 56 := preS_len k32 kZ [] 3 4 hz
  have hD : macB k32 ((sealedB k32 k32 kZ [] 3 4).take ((sealedB k32 k32 kZ [] 3 4).length - 32)) = (sealedB k32 k32 kZ [] 3 4).drop 56 := by
    rw [hl, sealedB, show 88 + ([] : List UInt8).length / 16 * 16 - 32 = 56 from rfl, List.take_left' hpl, List.drop_left' hpl]
  have hDl := macB_len k32 ((sealedB k32 k32 kZ [] 3 4).take ((sealedB k32 k32 kZ [] 3 4).length - 32))
  exact awake10_walk k32 k32 kZ _ _ k32_av kZ_av (by rw [List.length_append, h32]) hz hl hDl hD s1 s2 s3 s4
end Go.Proofs.Ytmbnclpgldglnaa
