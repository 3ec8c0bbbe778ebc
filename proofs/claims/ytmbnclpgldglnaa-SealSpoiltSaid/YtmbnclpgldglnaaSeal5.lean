import Derived.Test.YtmbnclpgldglnaaSeal4
namespace Go.Proofs.Ytmbnclpgldglnaa
open Go.RowKit
set_option linter.unusedVariables false
set_option linter.unusedSimpArgs false
set_option maxRecDepth 20000
theorem init8 (a b c d e f g h : AV) (md : Md) : initSt [a, b, c, d, e, f, g, h] md = ⟨upd (upd (upd (upd (upd (upd (upd (upd (fun _ => .k .any) 0 (.k a)) 1 (.k b)) 2 (.k c)) 3 (.k d)) 4 (.k e)) 5 (.k f)) 6 (.k g)) 7 (.k h), fun _ => none, 0, md⟩ := by
  unfold initSt; congr 1; funext t
  match t with
  | 0 | 1 | 2 | 3 | 4 | 5 | 6 | 7 => rfl
  | t + 8 => simp [upd]
set_option maxHeartbeats 16000000 in
theorem law_SealSpoilt (kE kM iv b sp : List UInt8) (id gen : Int) (at_ : Nat) (y : UInt8) (hE : kE.length = 32) (hM : kM.length = 32) (hiv : iv.length = 16) (h1 : I64 id) (h2 : I64 gen) (hat : at_ < 65536) (hsp : sp.length ≤ 140737488351232) :
    Spec Try.prog 10 [.agg (aOfBytes (kE ++ kM)), .agg (aOfBytes iv), .int .i64 id, .int .i64 gen, .sl false b.length (aOfBytes b), .sl false sp.length (aOfBytes sp), .int .u16 (at_ : Nat), .int .u8 (y.toNat : Int)] (.k (.bool true)) := by
  have s1 := short10_spec b
  have hb : (b.take 200).length ≤ 200 := by simp; omega
  generalize b.take 200 = x at *
  have s2 := sealed_spec false kE kM iv x id gen hE hM hiv (by omega)
  have hSl := sealedB_len kE kM iv x id gen hiv
  have hop := opn_sealed kE kM iv x id gen id gen hiv h1 h2 (by omega)
  rw [if_pos ⟨rfl, rfl⟩] at hop
  generalize sealedB kE kM iv x id gen = S at *
  have hkl : (kE ++ kM).length = 64 := by rw [List.length_append, hE, hM]
  have hSa := aOfBytes_len S
  have hspa := aOfBytes_len sp
  have hxa := aOfBytes_len x
  have hia := aOfBytes_len iv
  have hKa := aOfBytes_len (kE ++ kM)
  have hMt : List.take 32 (List.drop 32 (aOfBytes (kE ++ kM))) = aOfBytes kM := by
    rw [aOfBytes_append, List.drop_left' (by rw [aOfBytes_len, hE]), List.take_of_length_le (by rw [aOfBytes_len, hM]; exact Nat.le_refl _)]
  have s3 := fun f X (h : List.length X ≤ 3000) => opened_spec f kE kM X id gen hE hM h
  have lk : ∀ fs, ldAgg (.st fs) 64 (aOfBytes (kE ++ kM)) = some (.agg (aOfBytes (kE ++ kM))) := fun fs => by
    simp only [ldAgg]; rw [if_pos (by omega), List.take_of_length_le (by omega)]
  have lk4 : ldAgg (.st [(0, 32), (32, 32)]) 64 (aOfBytes (kE ++ kM)) = some (.agg (aOfBytes (kE ++ kM))) := lk [(0, 32), (32, 32)]
  have li := ld_arr (n := 16) (e := 5) (aOfBytes iv) (sz := 16) (by omega)
  have hym : ((y.toNat : Int)) % 4 = ((y.toNat % 4 : Nat) : Int) := by omega
  obtain ⟨i, hi⟩ : ∃ i, i = at_ % S.length := ⟨_, rfl⟩
  have hil : i < S.length := by rw [hi]; exact Nat.mod_lt _ (by omega)
  have hiI : (at_ : Int) % (S.length : Int) = (i : Int) := by rw [hi]; omega
  have l1 := ld_b S i hil
  have hst := set_b S (S.getD i 0 ^^^ y) i hil
  generalize hK : kE ++ kM = K at *
  refine spec_of (fun t => t == 48 || t == 46 || t == 42 || t == 40 || t == 1000042) (by kernel_rfl) Try.func10 rfl rfl (by simp [Try.ntmps10]) (by decide) ?_
  intro δ
  rw [init8]
  repeat with_reducible (first | refine aWp_seq ?_ | refine seq_normal ?_ | refine seq_ret ?_ | refine seq_exit ?_ | refine blk_normal ?_ | refine blk_ret ?_ | refine blk_hit ?_ | refine blk_miss rfl ?_ | refine aWp_ret ?_ | refine aWp_skip ?_ | refine aWp_block ?_ | refine aWp_exit ?_ | refine end_ret ?_ | refine end_normal ?_)
  refine rg fun K hK => ?_
  refine stA ?_
  refine rzp (t := 8) rfl rfl ?_
  refine hK _ _ _ ?_
  clear hK K; intro ν
  repeat with_reducible (first | refine aWp_seq ?_ | refine seq_normal ?_ | refine seq_ret ?_ | refine seq_exit ?_ | refine blk_normal ?_ | refine blk_ret ?_ | refine blk_hit ?_ | refine blk_miss rfl ?_ | refine aWp_ret ?_ | refine aWp_skip ?_ | refine aWp_block ?_ | refine aWp_exit ?_ | refine end_ret ?_ | refine end_normal ?_)
  refine rgx [(1,[9],[])] (by kernel_rfl) fun K hK => ?_
  refine stxA ?_
  ((first | ((with_reducible refine x0 ?_ ?_); exact rfl) | ((with_reducible refine x1 ?_ ?_ ?_); exact rfl; (with_reducible apply gt_); exact rfl; exact rfl; (first | rfl | assumption | (simp [*] <;> done)))); refine xcA (h2 := (s1)) (hk := ?_))
  refine stxA ?_
  ((first | ((with_reducible refine x0 ?_ ?_); exact rfl) | ((with_reducible refine x1 ?_ ?_ ?_); exact rfl; (with_reducible apply gt_); exact rfl; exact rfl; (first | rfl | assumption | (simp [*] <;> done)))); refine xcA (h2 := (s2)) (hk := ?_))
  refine stxA ?_
  with_reducible refine xz ?_
  refine hK _ _ _ ?_
  clear hK K; intro ν
  repeat (first | with_reducible (first | refine aWp_seq ?_ | refine seq_normal ?_ | refine seq_ret ?_ | refine seq_exit ?_ | refine blk_normal ?_ | refine blk_ret ?_ | refine blk_hit ?_ | refine blk_miss rfl ?_ | refine aWp_ret ?_ | refine aWp_skip ?_ | refine aWp_block (id := 0) ?_ | refine aWp_block (id := 1) ?_ | refine aWp_block (id := 2) ?_ | refine aWp_block (id := 3) ?_ | refine aWp_block (id := 4) ?_ | refine aWp_block (id := 5) ?_ | refine aWp_block (id := 6) ?_ | refine aWp_block (id := 7) ?_ | refine aWp_block (id := 8) ?_ | refine aWp_block (id := 9) ?_ | refine aWp_block (id := 10) ?_ | refine aWp_block (id := 11) ?_ | refine aWp_block (id := 12) ?_ | refine aWp_block (id := 13) ?_ | refine aWp_block (id := 14) ?_ | refine aWp_block (id := 15) ?_ | refine aWp_block (id := 16) ?_ | refine aWp_block (id := 17) ?_ | refine aWp_block (id := 18) ?_ | refine aWp_block (id := 19) ?_ | refine aWp_block (id := 20) ?_ | refine aWp_block (id := 21) ?_ | refine aWp_block (id := 22) ?_ | refine aWp_block (id := 23) ?_ | refine aWp_exit ?_ | refine end_ret ?_ | refine end_normal ?_) | ((refine rgA ?_); intro ν) | ((with_reducible apply cndT); exact rfl; (first | rfl | assumption)) | ((with_reducible apply cndF); exact rfl; (first | rfl | assumption)))
  refine aWp_cut (fun s => ∃ F T ν f X, s = ⟨F, T, ν, ⟨fun t => t == 48 || t == 46 || t == 42 || t == 40 || t == 1000042, δ, false⟩⟩ ∧ F 2 = .k (.int .i64 id) ∧ F 3 = .k (.int .i64 gen) ∧ F 4 = .k (.sl false b.length (aOfBytes b)) ∧ F 8 = .k (.cp (aOfBytes K)) ∧ F 17 = .k (.sl true S.length (aOfBytes S)) ∧ F 19 = .k (.sl f X.length (aOfBytes X)) ∧ F 6 = .k (.int .u16 (at_ : Nat)) ∧ F 7 = .k (.int .u8 (y.toNat : Int))) ?_ ?_
  · by_cases h : sp.length = 0
    · repeat (first | with_reducible (first | refine aWp_seq ?_ | refine seq_normal ?_ | refine seq_ret ?_ | refine seq_exit ?_ | refine blk_normal ?_ | refine blk_ret ?_ | refine blk_hit ?_ | refine blk_miss rfl ?_ | refine aWp_ret ?_ | refine aWp_skip ?_ | refine aWp_block ?_ | refine aWp_exit ?_ | refine end_ret ?_ | refine end_normal ?_) | ((refine rgA ?_); intro ν) | ((with_reducible apply cndT); exact rfl; (first | rfl | assumption)) | ((with_reducible apply cndF); exact rfl; (first | rfl | assumption)))
      exact ⟨_, _, _, true, [], rfl, rfl, rfl, rfl, rfl, rfl, rfl, rfl, rfl⟩
    · repeat (first | with_reducible (first | refine aWp_seq ?_ | refine seq_normal ?_ | refine seq_ret ?_ | refine seq_exit ?_ | refine blk_normal ?_ | refine blk_ret ?_ | refine blk_hit ?_ | refine blk_miss rfl ?_ | refine aWp_ret ?_ | refine aWp_skip ?_ | refine aWp_block ?_ | refine aWp_exit ?_ | refine end_ret ?_ | refine end_normal ?_) | ((refine rgA ?_); intro ν) | ((with_reducible apply cndT); exact rfl; (first | rfl | assumption)) | ((with_reducible apply cndF); exact rfl; (first | rfl | assumption)))
      exact ⟨_, _, _, false, sp, rfl, rfl, rfl, rfl, rfl, rfl, rfl, rfl, rfl⟩
  rintro s ⟨F, T, ν, f, X, rfl, f2, f3, f4, f8, f17, f19, f6, f7⟩
  rw [has8 f2 f3 f4 f8 f17 f19 f6 f7]
  refine aWp_seq ?_
  refine aWp_cut (fun s => ∃ F T ν f X, s = ⟨F, T, ν, ⟨fun t => t == 48 || t == 46 || t == 42 || t == 40 || t == 1000042, δ, false⟩⟩ ∧ F 2 = .k (.int .i64 id) ∧ F 3 = .k (.int .i64 gen) ∧ F 4 = .k (.sl false b.length (aOfBytes b)) ∧ F 8 = .k (.cp (aOfBytes K)) ∧ F 17 = .k (.sl true S.length (aOfBytes S)) ∧ F 19 = .k (.sl f X.length (aOfBytes X))) ?_ ?_
  · by_cases h : y.toNat % 4 = 0
    · repeat (first | with_reducible (first | refine aWp_seq ?_ | refine seq_normal ?_ | refine seq_ret ?_ | refine seq_exit ?_ | refine blk_normal ?_ | refine blk_ret ?_ | refine blk_hit ?_ | refine blk_miss rfl ?_ | refine aWp_ret ?_ | refine aWp_skip ?_ | refine aWp_block ?_ | refine aWp_exit ?_ | refine end_ret ?_ | refine end_normal ?_) | ((refine rgA ?_); intro ν) | ((with_reducible apply cndT); exact rfl; (first | rfl | assumption)) | ((with_reducible apply cndF); exact rfl; (first | rfl | assumption)))
      exact ⟨_, _, _, f, X, rfl, rfl, rfl, rfl, rfl, rfl, rfl⟩
    · have hy4 : ¬ (y.toNat : Int) % 4 = 0 := by omega
      have e0 : ((at_ : Int) % (S.length : Int)).toNat = i := by rw [hiI]; rfl
      have hm0 : 0 ≤ (at_ : Int) % (S.length : Int) := by rw [hiI]; omega
      have hm1 : (at_ : Int) % (S.length : Int) < (S.length : Int) := by rw [hiI]; omega
      rw [← e0] at l1
      repeat with_reducible (first | refine aWp_seq ?_ | refine seq_normal ?_ | refine seq_ret ?_ | refine seq_exit ?_ | refine blk_normal ?_ | refine blk_ret ?_ | refine blk_hit ?_ | refine blk_miss rfl ?_ | refine aWp_ret ?_ | refine aWp_skip ?_ | refine aWp_block ?_ | refine aWp_exit ?_ | refine end_ret ?_ | refine end_normal ?_)
      refine rgA ?_
      intro ν
      repeat with_reducible (first | refine aWp_seq ?_ | refine seq_normal ?_ | refine seq_ret ?_ | refine seq_exit ?_ | refine blk_normal ?_ | refine blk_ret ?_ | refine blk_hit ?_ | refine blk_miss rfl ?_ | refine aWp_ret ?_ | refine aWp_skip ?_ | refine aWp_block ?_ | refine aWp_exit ?_ | refine end_ret ?_ | refine end_normal ?_)
      (with_reducible apply cndT); exact rfl; (first | rfl | assumption | (simp [*] <;> done))
      repeat with_reducible (first | refine aWp_seq ?_ | refine seq_normal ?_ | refine seq_ret ?_ | refine seq_exit ?_ | refine blk_normal ?_ | refine blk_ret ?_ | refine blk_hit ?_ | refine blk_miss rfl ?_ | refine aWp_ret ?_ | refine aWp_skip ?_ | refine aWp_block ?_ | refine aWp_exit ?_ | refine end_ret ?_ | refine end_normal ?_)
      refine rgA ?_
      intro ν
      repeat with_reducible (first | refine aWp_seq ?_ | refine seq_normal ?_ | refine seq_ret ?_ | refine seq_exit ?_ | refine blk_normal ?_ | refine blk_ret ?_ | refine blk_hit ?_ | refine blk_miss rfl ?_ | refine aWp_ret ?_ | refine aWp_skip ?_ | refine aWp_block ?_ | refine aWp_exit ?_ | refine end_ret ?_ | refine end_normal ?_)
      refine rg fun K hK => ?_
      refine stA ?_
      refine rzs (t := 19) rfl rfl ?_
      refine hK _ _ _ ?_
      clear hK K; intro ν
      repeat (first | with_reducible (first | refine aWp_seq ?_ | refine seq_normal ?_ | refine seq_ret ?_ | refine seq_exit ?_ | refine blk_normal ?_ | refine blk_ret ?_ | refine blk_hit ?_ | refine blk_miss rfl ?_ | refine aWp_ret ?_ | refine aWp_skip ?_ | refine aWp_block ?_ | refine aWp_exit ?_ | refine end_ret ?_ | refine end_normal ?_) | ((refine rgA ?_); intro ν) | ((with_reducible apply cndT); exact rfl; (first | rfl | assumption)) | ((with_reducible apply cndF); exact rfl; (first | rfl | assumption)))
      refine ⟨_, _, _, false, S.set i (S.getD i 0 ^^^ y), rfl, rfl, rfl, rfl, rfl, rfl, ?_⟩
      rw [e0, List.length_set, ← hst]
      rfl
  rintro s ⟨F, T, ν, f, X, rfl, f2, f3, f4, f8, f17, f19⟩
  rw [has6 f2 f3 f4 f8 f17 f19]
  refine aWp_seq ?_
  refine aWp_cut (fun s => ∃ F T ν f X, s = ⟨F, T, ν, ⟨fun t => t == 48 || t == 46 || t == 42 || t == 40 || t == 1000042, δ, false⟩⟩ ∧ F 2 = .k (.int .i64 id) ∧ F 3 = .k (.int .i64 gen) ∧ F 4 = .k (.sl false b.length (aOfBytes b)) ∧ F 8 = .k (.cp (aOfBytes K)) ∧ F 17 = .k (.sl true S.length (aOfBytes S)) ∧ F 19 = .k (.sl f X.length (aOfBytes X)) ∧ X.length ≤ 400) ?_ ?_
  · have hXa := aOfBytes_len X
    by_cases h : 400 < X.length
    · repeat (first | with_reducible (first | refine aWp_seq ?_ | refine seq_normal ?_ | refine seq_ret ?_ | refine seq_exit ?_ | refine blk_normal ?_ | refine blk_ret ?_ | refine blk_hit ?_ | refine blk_miss rfl ?_ | refine aWp_ret ?_ | refine aWp_skip ?_ | refine aWp_block ?_ | refine aWp_exit ?_ | refine end_ret ?_ | refine end_normal ?_) | ((refine rgA ?_); intro ν) | ((with_reducible apply cndT); exact rfl; (first | rfl | assumption)) | ((with_reducible apply cndF); exact rfl; (first | rfl | assumption)))
      refine ⟨_, _, _, false, X.take 400, rfl, rfl, rfl, rfl, rfl, rfl, ?_, by simp; omega⟩
      rw [show (List.take 400 X).length = 400 by simp; omega, bytes_take']
      show SV.k (AV.sl (f && decide ((400 : Int) = (X.length : Int))) 400 _) = _
      rw [decide_eq_false (by omega), Bool.and_false]
    · repeat (first | with_reducible (first | refine aWp_seq ?_ | refine seq_normal ?_ | refine seq_ret ?_ | refine seq_exit ?_ | refine blk_normal ?_ | refine blk_ret ?_ | refine blk_hit ?_ | refine blk_miss rfl ?_ | refine aWp_ret ?_ | refine aWp_skip ?_ | refine aWp_block ?_ | refine aWp_exit ?_ | refine end_ret ?_ | refine end_normal ?_) | ((refine rgA ?_); intro ν) | ((with_reducible apply cndT); exact rfl; (first | rfl | assumption)) | ((with_reducible apply cndF); exact rfl; (first | rfl | assumption)))
      exact ⟨_, _, _, f, X, rfl, rfl, rfl, rfl, rfl, rfl, rfl, by omega⟩
  rintro s ⟨F, T, ν, f, X, rfl, f2, f3, f4, f8, f17, f19, hX⟩
  rw [has6 f2 f3 f4 f8 f17 f19]
  have hXa := aOfBytes_len X
  have s4 := s3 f X (by omega)
  cases hO : opnS kE kM X id gen with
  | none =>
    rw [hO, openR] at s4
    repeat with_reducible (first | refine aWp_seq ?_ | refine seq_normal ?_ | refine seq_ret ?_ | refine seq_exit ?_ | refine blk_normal ?_ | refine blk_ret ?_ | refine blk_hit ?_ | refine blk_miss rfl ?_ | refine aWp_ret ?_ | refine aWp_skip ?_ | refine aWp_block ?_ | refine aWp_exit ?_ | refine end_ret ?_ | refine end_normal ?_)
    refine rg fun K hK => ?_
    refine stA ?_
    (first | with_reducible refine g0 ?_ | ((with_reducible refine g1 ?_ ?_); (with_reducible apply gt_); exact rfl; exact rfl; (first | rfl | assumption | (simp [*] <;> done)))); refine scA (h2 := (s4)) (hk := ?_)
    refine stA ?_
    with_reducible refine rz ?_
    refine hK _ _ _ ?_
    clear hK K; intro ν
    repeat (first | with_reducible (first | refine aWp_seq ?_ | refine seq_normal ?_ | refine seq_ret ?_ | refine seq_exit ?_ | refine blk_normal ?_ | refine blk_ret ?_ | refine blk_hit ?_ | refine blk_miss rfl ?_ | refine aWp_ret ?_ | refine aWp_skip ?_ | refine aWp_block ?_ | refine aWp_exit ?_ | refine end_ret ?_ | refine end_normal ?_) | ((refine rgA ?_); intro ν) | ((with_reducible apply cndT); exact rfl; (first | rfl | assumption)) | ((with_reducible apply cndF); exact rfl; (first | rfl | assumption)))
    refine rg fun K hK => ?_
    refine stA ?_
    (first | with_reducible refine g0 ?_ | ((with_reducible refine g1 ?_ ?_); (with_reducible apply gt_); exact rfl; exact rfl; (first | rfl | assumption | (simp [*] <;> done)))); refine scA (h2 := (awake10_spec)) (hk := ?_)
    refine stA ?_
    with_reducible refine rz ?_
    refine hK _ _ _ ?_
    clear hK K; intro ν
    repeat (first | with_reducible (first | refine aWp_seq ?_ | refine seq_normal ?_ | refine seq_ret ?_ | refine seq_exit ?_ | refine blk_normal ?_ | refine blk_ret ?_ | refine blk_hit ?_ | refine blk_miss rfl ?_ | refine aWp_ret ?_ | refine aWp_skip ?_ | refine aWp_block ?_ | refine aWp_exit ?_ | refine end_ret ?_ | refine end_normal ?_) | ((refine rgA ?_); intro ν) | ((with_reducible apply cndT); exact rfl; (first | rfl | assumption)) | ((with_reducible apply cndF); exact rfl; (first | rfl | assumption)))
    (first | with_reducible refine end_r ?_ | with_reducible refine end_n ?_); refine en1 ?_
    rfl
  | some z =>
    obtain ⟨h72, hT⟩ := openS_some (kE := kE) (kM := kM) (s := X) (id := id) (gen := gen) (by rw [hO]; rfl)
    rw [hO, openR] at s4
    have hza := aOfBytes_len z
    by_cases hXS : X = S
    · have hzx : z = x := by rw [hXS, hop] at hO; exact (Option.some.inj hO).symm
      repeat with_reducible (first | refine aWp_seq ?_ | refine seq_normal ?_ | refine seq_ret ?_ | refine seq_exit ?_ | refine blk_normal ?_ | refine blk_ret ?_ | refine blk_hit ?_ | refine blk_miss rfl ?_ | refine aWp_ret ?_ | refine aWp_skip ?_ | refine aWp_block ?_ | refine aWp_exit ?_ | refine end_ret ?_ | refine end_normal ?_)
      refine rg fun K hK => ?_
      refine stA ?_
      (first | with_reducible refine g0 ?_ | ((with_reducible refine g1 ?_ ?_); (with_reducible apply gt_); exact rfl; exact rfl; (first | rfl | assumption | (simp [*] <;> done)))); refine scA (h2 := (s4)) (hk := ?_)
      refine stA ?_
      with_reducible refine rz ?_
      refine hK _ _ _ ?_
      clear hK K; intro ν
      repeat (first | with_reducible (first | refine aWp_seq ?_ | refine seq_normal ?_ | refine seq_ret ?_ | refine seq_exit ?_ | refine blk_normal ?_ | refine blk_ret ?_ | refine blk_hit ?_ | refine blk_miss rfl ?_ | refine aWp_ret ?_ | refine aWp_skip ?_ | refine aWp_block ?_ | refine aWp_exit ?_ | refine end_ret ?_ | refine end_normal ?_) | ((refine rgA ?_); intro ν) | ((with_reducible apply cndT); exact rfl; (first | rfl | assumption)) | ((with_reducible apply cndF); exact rfl; (first | rfl | assumption)))
      refine rgx [] (by kernel_rfl) fun K hK => ?_
      refine stxA ?_
      ((first | ((with_reducible refine x0 ?_ ?_); exact rfl) | ((with_reducible refine x1 ?_ ?_ ?_); exact rfl; (with_reducible apply gt_); exact rfl; exact rfl; (first | rfl | assumption | (simp [*] <;> done)))); refine xcA (h2 := (awake10_spec)) (hk := ?_))
      refine stxA ?_
      ((first | ((with_reducible refine x0 ?_ ?_); exact rfl) | ((with_reducible refine x1 ?_ ?_ ?_); exact rfl; (with_reducible apply gt_); exact rfl; exact rfl; (first | rfl | assumption | (simp [*] <;> done)))); refine xcA (h2 := (s1)) (hk := ?_))
      refine stxA ?_
      with_reducible refine xz ?_
      refine hK _ _ _ ?_
      clear hK K; intro ν
      repeat (first | with_reducible (first | refine aWp_seq ?_ | refine seq_normal ?_ | refine seq_ret ?_ | refine seq_exit ?_ | refine blk_normal ?_ | refine blk_ret ?_ | refine blk_hit ?_ | refine blk_miss rfl ?_ | refine aWp_ret ?_ | refine aWp_skip ?_ | refine aWp_block ?_ | refine aWp_exit ?_ | refine end_ret ?_ | refine end_normal ?_) | ((refine rgA ?_); intro ν) | ((with_reducible apply cndT); exact rfl; (first | rfl | assumption)) | ((with_reducible apply cndF); exact rfl; (first | rfl | assumption)))
      (first | with_reducible refine end_r ?_ | with_reducible refine end_n ?_); refine en1 ?_
      rfl
    · have hnT : ((X.length : Int) - 32).toNat = X.length - 32 := by omega
      have htl : (X.take (X.length - 32)).length = X.length - 32 := by simp
      have s5 := macOf_spec true false kM (by omega) [(f && decide ((X.length : Int) - 32 = (X.length : Int)), X.take (X.length - 32))] (by simp) (by simp) (by simp only [List.flatMap_cons, List.flatMap_nil, List.append_nil]; omega)
      simp only [List.map_cons, List.map_nil, pCells, pB, Part.av, List.flatMap_cons, List.flatMap_nil, List.append_nil, List.length_cons, List.length_nil, Nat.reduceAdd, aOfBytes_len] at s5
      rw [hM, ← hMt, htl, cut_take, hT, ← hnT] at s5
      have hDl : (X.drop ((X.length : Int) - 32).toNat).length = 32 := by rw [hnT]; simp; omega
      have b2 : aBytes (List.drop ((X.length : Int) - 32).toNat (List.take X.length (aOfBytes X))) = some (X.drop ((X.length : Int) - 32).toNat) := by
        rw [List.take_of_length_le (by omega), ← bytes_drop']; exact aBytes_of' _
      have hDD : X.drop ((X.length : Int) - 32).toNat = X.drop ((X.length : Int) - 32).toNat := rfl
      generalize hDe : X.drop ((X.length : Int) - 32).toNat = D at s5 hDl b2 hDD
      have hDa := aOfBytes_len D
      have b1 : aBytes (List.take 32 (aOfBytes D)) = some D := by rw [List.take_of_length_le (by omega)]; exact aBytes_of' _
      repeat with_reducible (first | refine aWp_seq ?_ | refine seq_normal ?_ | refine seq_ret ?_ | refine seq_exit ?_ | refine blk_normal ?_ | refine blk_ret ?_ | refine blk_hit ?_ | refine blk_miss rfl ?_ | refine aWp_ret ?_ | refine aWp_skip ?_ | refine aWp_block ?_ | refine aWp_exit ?_ | refine end_ret ?_ | refine end_normal ?_)
      refine rg fun K hK => ?_
      refine stA ?_
      (first | with_reducible refine g0 ?_ | ((with_reducible refine g1 ?_ ?_); (with_reducible apply gt_); exact rfl; exact rfl; (first | rfl | assumption | (simp [*] <;> done)))); refine scA (h2 := (s4)) (hk := ?_)
      refine stA ?_
      with_reducible refine rz ?_
      refine hK _ _ _ ?_
      clear hK K; intro ν
      repeat (first | with_reducible (first | refine aWp_seq ?_ | refine seq_normal ?_ | refine seq_ret ?_ | refine seq_exit ?_ | refine blk_normal ?_ | refine blk_ret ?_ | refine blk_hit ?_ | refine blk_miss rfl ?_ | refine aWp_ret ?_ | refine aWp_skip ?_ | refine aWp_block ?_ | refine aWp_exit ?_ | refine end_ret ?_ | refine end_normal ?_) | ((refine rgA ?_); intro ν) | ((with_reducible apply cndT); exact rfl; (first | rfl | assumption)) | ((with_reducible apply cndF); exact rfl; (first | rfl | assumption)))
      refine rgx [(8,[106],[107]),(10,[22],[22])] (by kernel_rfl) fun K hK => ?_
      refine stxA ?_
      ((first | ((with_reducible refine x0 ?_ ?_); exact rfl) | ((with_reducible refine x1 ?_ ?_ ?_); exact rfl; (with_reducible apply gt_); exact rfl; exact rfl; (first | rfl | assumption | (simp [*] <;> done)))); refine xcA (h2 := (s5)) (hk := ?_))
      refine stxA ?_
      with_reducible refine xz ?_
      refine hK _ _ _ ?_
      clear hK K; intro ν
      rw [drop_rep, List.append_nil]
      repeat with_reducible (first | refine aWp_seq ?_ | refine seq_normal ?_ | refine seq_ret ?_ | refine seq_exit ?_ | refine blk_normal ?_ | refine blk_ret ?_ | refine blk_hit ?_ | refine blk_miss rfl ?_ | refine aWp_ret ?_ | refine aWp_skip ?_ | refine aWp_block ?_ | refine aWp_exit ?_ | refine end_ret ?_ | refine end_normal ?_)
      refine rgx [(3,[22],[22])] (by kernel_rfl) fun K hK => ?_
      refine stxA ?_
      ((first | ((with_reducible refine x0 ?_ ?_); exact rfl) | ((with_reducible refine x1 ?_ ?_ ?_); exact rfl; (with_reducible apply gt_); exact rfl; exact rfl; (first | rfl | assumption | (simp [*] <;> done)))); refine xcA (h2 := (awake10_spec)) (hk := ?_))
      refine stxA ?_
      with_reducible refine xz ?_
      refine hK _ _ _ ?_
      clear hK K; intro ν
      repeat (first | with_reducible (first | refine aWp_seq ?_ | refine seq_normal ?_ | refine seq_ret ?_ | refine seq_exit ?_ | refine blk_normal ?_ | refine blk_ret ?_ | refine blk_hit ?_ | refine blk_miss rfl ?_ | refine aWp_ret ?_ | refine aWp_skip ?_ | refine aWp_block ?_ | refine aWp_exit ?_ | refine end_ret ?_ | refine end_normal ?_) | ((refine rgA ?_); intro ν) | ((with_reducible apply cndT); exact rfl; (first | rfl | assumption)) | ((with_reducible apply cndF); exact rfl; (first | rfl | assumption)))
      (first | with_reducible refine end_r ?_ | with_reducible refine end_n ?_); refine en1 ?_
      rfl
end Go.Proofs.Ytmbnclpgldglnaa
