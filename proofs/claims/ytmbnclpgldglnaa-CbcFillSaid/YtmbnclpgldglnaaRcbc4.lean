import Derived.Test.YtmbnclpgldglnaaRcbc3
namespace Go.Proofs.Ytmbnclpgldglnaa
open Go.RowKit
set_option linter.unusedVariables false
set_option linter.unusedSimpArgs false
set_option maxRecDepth 20000
theorem fill_open (k iv last : List UInt8) (hl : last.length = 16) : openB (cbcD k) iv (cbcE k (xorB last iv)) = openT last := by
  have hc : (cbcE k (xorB last iv)).length = 16 := cbcE_len k _ (xorB_len _ _)
  have hb : blocks16 (cbcE k (xorB last iv)) = [cbcE k (xorB last iv)] := by
    unfold blocks16
    rw [hc]
    show [((cbcE k (xorB last iv)).drop (0 * 16)).take 16] = _
    rw [Nat.zero_mul, List.drop_zero, List.take_of_length_le (by omega)]
  rw [openB, if_neg (by omega), openF, hb, List.foldl_cons, List.foldl_nil, openS]
  show openT ([] ++ xorB (cbcD k (cbcE k (xorB last iv))) iv) = _
  rw [cbcDE k _ (xorB_len _ _), xor_xor last iv hl, List.nil_append]
theorem openT_good (l : List UInt8) (w : UInt8) (hl : l.length = 16) (hw : l.getD 15 0 = w) (h1 : 1 ≤ w.toNat) (h2 : w.toNat ≤ 16) (h : ∀ j, j < w.toNat → l.getD (16 - (j + 1)) 0 = w) : openT l = some (l.take (16 - w.toNat)) := by
  have e : l.length - 1 = 15 := by omega
  rw [openT, e, hw, if_pos ⟨h1, h2, drop_same l w w.toNat (by omega) (by rw [hl]; exact h)⟩, hl]
theorem openT_bad (l : List UInt8) (w : UInt8) (hl : l.length = 16) (hw : l.getD 15 0 = w) (h : ¬ (1 ≤ w.toNat ∧ w.toNat ≤ 16) ∨ ∃ j, j < w.toNat ∧ l.getD (16 - (j + 1)) 0 ≠ w) : openT l = none := by
  have e : l.length - 1 = 15 := by omega
  rw [openT, e, hw]
  rcases h with h | ⟨j, hj, h⟩
  · exact if_neg fun q => h ⟨q.1, q.2.1⟩
  · by_cases q : 1 ≤ w.toNat ∧ w.toNat ≤ 16
    · exact if_neg fun r => drop_other l w w.toNat j (by omega) hj (by rw [hl]; exact h) r.2.2
    · exact if_neg fun r => q ⟨r.1, r.2.1⟩
set_option maxHeartbeats 16000000 in
theorem law_CbcFill (key iv last : List UInt8) (hiv : iv.length = 16) (hll : last.length = 16) : Spec Try.prog 6 [.sl false key.length (aOfBytes key), .agg (aOfBytes iv), .agg (aOfBytes last)] (.k (.bool true)) := by
  have hka := aOfBytes_len key
  have hia := aOfBytes_len iv
  have hla := aOfBytes_len last
  have hz1 : key.length ≤ 16 → List.take 16 (aOfBytes key) ++ List.drop key.length (List.replicate 16 (AV.int .u8 0)) = aOfBytes (kszB key 16) := fun h => by
    rw [kszB, aOfBytes_append, cut_take, List.drop_replicate, rep_eq7]
  have hz2 : ¬ key.length ≤ 16 → List.take 16 (aOfBytes key) ++ List.drop 16 (List.replicate 16 (AV.int .u8 0)) = aOfBytes (kszB key 16) := fun h => by
    rw [kszB, aOfBytes_append, cut_take, List.drop_replicate, ← rep_eq7, show 16 - key.length = 0 by omega, Nat.sub_self]
  have hok : aesOk (kszB key 16) := by unfold aesOk; rw [kszB_len]; omega
  have hkl := kszB_len key 16
  generalize kszB key 16 = k at *
  have hkka := aOfBytes_len k
  have s1 := rnewK k false hok
  have s2 := renc_key hok false (xorB last iv) (xorB_len _ _)
  change Spec _ _ [rKey k, _] (.k (.sl false 16 (aOfBytes (cbcE k (xorB last iv))))) at s2
  have s5 := open_spec false false k iv (cbcE k (xorB last iv)) hok hiv (by rw [cbcE_len k _ (xorB_len _ _)]; omega)
  rw [fill_open k iv last hll] at s5
  have hEl := cbcE_len k _ (xorB_len last iv)
  rw [hEl, hkl] at s5
  rw [hkl] at s1
  have hxs := xor_setN last iv hll
  have hXl := xorB_len last iv
  generalize cbcE k (xorB last iv) = EX at *
  obtain ⟨cC, hcC⟩ := rKey_cp k
  rw [hcC] at s1 s2
  have li := ld_arr (n := 16) (e := 5) (aOfBytes iv) (sz := 16) (by omega)
  obtain ⟨fx, hfx⟩ : ∃ fx, fx = fun k => last.getD k 0 ^^^ iv.getD k 0 := ⟨_, rfl⟩
  rw [← hfx] at hxs
  have hfk : ∀ k, last.getD k 0 ^^^ iv.getD k 0 = fx k := fun k => by rw [hfx]
  clear hfx hcC
  obtain ⟨w, hF⟩ : ∃ w, last.getD 15 0 = w := ⟨_, rfl⟩
  have l15 := ld_b last 15 (by omega)
  rw [hF] at l15
  have hwlt := w.toNat_lt
  refine spec_of (fun t => t == 17 || t == 28 || t == 26) (by kernel_rfl) Try.func6 rfl rfl (by simp [Try.ntmps6]) (by decide) ?_
  intro δ
  rw [init3]
  repeat with_reducible (first | refine aWp_seq ?_ | refine seq_normal ?_ | refine seq_ret ?_ | refine seq_exit ?_ | refine blk_normal ?_ | refine blk_ret ?_ | refine blk_hit ?_ | refine blk_miss rfl ?_ | refine aWp_ret ?_ | refine aWp_skip ?_ | refine aWp_block ?_ | refine aWp_exit ?_ | refine end_ret ?_ | refine end_normal ?_)
  refine rg fun K hK => ?_
  refine stA ?_
  refine rzp (t := 5) rfl rfl ?_
  refine hK _ _ _ ?_
  clear hK K; intro ν
  repeat with_reducible (first | refine aWp_seq ?_ | refine seq_normal ?_ | refine seq_ret ?_ | refine seq_exit ?_ | refine blk_normal ?_ | refine blk_ret ?_ | refine blk_hit ?_ | refine blk_miss rfl ?_ | refine aWp_ret ?_ | refine aWp_skip ?_ | refine aWp_block ?_ | refine aWp_exit ?_ | refine end_ret ?_ | refine end_normal ?_)
  refine rgA ?_
  intro ν
  repeat with_reducible (first | refine aWp_seq ?_ | refine seq_normal ?_ | refine seq_ret ?_ | refine seq_exit ?_ | refine blk_normal ?_ | refine blk_ret ?_ | refine blk_hit ?_ | refine blk_miss rfl ?_ | refine aWp_ret ?_ | refine aWp_skip ?_ | refine aWp_block ?_ | refine aWp_exit ?_ | refine end_ret ?_ | refine end_normal ?_)
  refine aWp_cut (fun s => ∃ F T ν g4, s = ⟨F, T, ν, ⟨fun t => t == 17 || t == 28 || t == 26, δ, false⟩⟩ ∧ F 4 = .ob 4 g4 0 ∧ F 5 = .k (.cp (aOfBytes last)) ∧ F 7 = .k (.sl false 16 (aOfBytes k)) ∧ T 4 = some (g4, .obj (aOfBytes iv))) ?_ ?_
  · by_cases h : key.length ≤ 16
    · repeat with_reducible (first | refine aWp_seq ?_ | refine seq_normal ?_ | refine seq_ret ?_ | refine seq_exit ?_ | refine blk_normal ?_ | refine blk_ret ?_ | refine blk_hit ?_ | refine blk_miss rfl ?_ | refine aWp_ret ?_ | refine aWp_skip ?_ | refine aWp_block ?_ | refine aWp_exit ?_ | refine end_ret ?_ | refine end_normal ?_)
      refine rg fun K hK => ?_
      refine stA ?_
      refine rzs (t := 7) rfl rfl ?_
      refine hK _ _ _ ?_
      clear hK K; intro ν
      rw [aZ17, hz1 h]
      repeat (first | with_reducible (first | refine aWp_seq ?_ | refine seq_normal ?_ | refine seq_ret ?_ | refine seq_exit ?_ | refine blk_normal ?_ | refine blk_ret ?_ | refine blk_hit ?_ | refine blk_miss rfl ?_ | refine aWp_ret ?_ | refine aWp_skip ?_ | refine aWp_block ?_ | refine aWp_exit ?_ | refine end_ret ?_ | refine end_normal ?_) | ((refine rgA ?_); intro ν) | ((with_reducible apply cndT); exact rfl; (first | rfl | assumption)) | ((with_reducible apply cndF); exact rfl; (first | rfl | assumption)))
      exact ⟨_, _, _, _, rfl, rfl, rfl, rfl, rfl⟩
    · repeat with_reducible (first | refine aWp_seq ?_ | refine seq_normal ?_ | refine seq_ret ?_ | refine seq_exit ?_ | refine blk_normal ?_ | refine blk_ret ?_ | refine blk_hit ?_ | refine blk_miss rfl ?_ | refine aWp_ret ?_ | refine aWp_skip ?_ | refine aWp_block ?_ | refine aWp_exit ?_ | refine end_ret ?_ | refine end_normal ?_)
      refine rg fun K hK => ?_
      refine stA ?_
      refine rzs (t := 7) rfl rfl ?_
      refine hK _ _ _ ?_
      clear hK K; intro ν
      rw [aZ17, hz2 h]
      repeat (first | with_reducible (first | refine aWp_seq ?_ | refine seq_normal ?_ | refine seq_ret ?_ | refine seq_exit ?_ | refine blk_normal ?_ | refine blk_ret ?_ | refine blk_hit ?_ | refine blk_miss rfl ?_ | refine aWp_ret ?_ | refine aWp_skip ?_ | refine aWp_block ?_ | refine aWp_exit ?_ | refine end_ret ?_ | refine end_normal ?_) | ((refine rgA ?_); intro ν) | ((with_reducible apply cndT); exact rfl; (first | rfl | assumption)) | ((with_reducible apply cndF); exact rfl; (first | rfl | assumption)))
      exact ⟨_, _, _, _, rfl, rfl, rfl, rfl, rfl⟩
  clear hz1 hz2
  rintro s ⟨F, T, ν, g4, rfl, f4, f5, f7, t4⟩
  rw [has3 f4 f5 f7, has1 t4]
  repeat with_reducible (first | refine aWp_seq ?_ | refine seq_normal ?_ | refine seq_ret ?_ | refine seq_exit ?_ | refine blk_normal ?_ | refine blk_ret ?_ | refine blk_hit ?_ | refine blk_miss rfl ?_ | refine aWp_ret ?_ | refine aWp_skip ?_ | refine aWp_block ?_ | refine aWp_exit ?_ | refine end_ret ?_ | refine end_normal ?_)
  refine rg fun K hK => ?_
  refine stA ?_
  (first | with_reducible refine g0 ?_ | ((with_reducible refine g1 ?_ ?_); (with_reducible apply gt_); exact rfl; exact rfl; (first | rfl | assumption | (simp [*] <;> done)))); refine scA (h2 := (s1)) (hk := ?_)
  refine stA ?_
  with_reducible refine rz ?_
  refine hK _ _ _ ?_
  clear hK K; intro ν
  repeat (first | with_reducible (first | refine aWp_seq ?_ | refine seq_normal ?_ | refine seq_ret ?_ | refine seq_exit ?_ | refine blk_normal ?_ | refine blk_ret ?_ | refine blk_hit ?_ | refine blk_miss rfl ?_ | refine aWp_ret ?_ | refine aWp_skip ?_ | refine aWp_block ?_ | refine aWp_exit ?_ | refine end_ret ?_ | refine end_normal ?_) | ((refine rgA ?_); intro ν) | ((with_reducible apply cndT); exact rfl; (first | rfl | assumption)) | ((with_reducible apply cndF); exact rfl; (first | rfl | assumption)))
  refine aWp_loop (fun m s => ∃ F T ν i g4 g, m = 16 - i ∧ i ≤ 16 ∧ s = ⟨F, T, ν, ⟨fun t => t == 17 || t == 28 || t == 26, δ, false⟩⟩ ∧ F 4 = .ob 4 g4 0 ∧ F 5 = .k (.cp (aOfBytes last)) ∧ F 7 = .k (.sl false 16 (aOfBytes k)) ∧ F 8 = .k (.cp cC) ∧ F 10 = .os 28 g 0 16 16 ∧ F 11 = .k (.int .i64 (i : Nat)) ∧ T 4 = some (g4, .obj (aOfBytes iv)) ∧ T 28 = some (g, .obj (aOfBytes (setN fx last i)))) 16 ⟨_, _, _, 0, _, _, rfl, Nat.zero_le _, rfl, rfl, rfl, rfl, rfl, rfl, rfl, rfl, ?_⟩ ?_
  · rw [List.take_of_length_le (by omega)]; rfl
  rintro m s ⟨F, T, ν, i, g4, g, rfl, hi, rfl, f4, f5, f7, f8, f10, f11, t4, t28⟩
  rw [has6 f4 f5 f7 f8 f10 f11, has2 t4 t28]
  have hsl := setN_len fx last i
  have hsa := aOfBytes_len (setN fx last i)
  by_cases hli : i < 16
  · have l1 := ld_b (setN fx last i) i (by omega)
    rw [setN_get fx last i i (Nat.le_refl _)] at l1
    have l2 := ld_b iv i (by omega)
    have hst := set_b (setN fx last i) (fx i) i (by omega)
    rw [show aOfBytes ((setN fx last i).set i (fx i)) = aOfBytes (setN fx last (i + 1)) from rfl, ← hfk] at hst
    repeat (first | with_reducible (first | refine aWp_seq ?_ | refine seq_normal ?_ | refine seq_ret ?_ | refine seq_exit ?_ | refine blk_normal ?_ | refine blk_ret ?_ | refine blk_hit ?_ | refine blk_miss rfl ?_ | refine aWp_ret ?_ | refine aWp_skip ?_ | refine aWp_block ?_ | refine aWp_exit ?_ | refine end_ret ?_ | refine end_normal ?_) | ((refine rgA ?_); intro ν) | ((with_reducible apply cndT); exact rfl; (first | rfl | assumption)) | ((with_reducible apply cndF); exact rfl; (first | rfl | assumption)))
    refine rgxA [(5,[28],[]),(8,[4],[]),(11,[28],[28])] ?_
    intro ν
    repeat (first | with_reducible (first | refine aWp_seq ?_ | refine seq_normal ?_ | refine seq_ret ?_ | refine seq_exit ?_ | refine blk_normal ?_ | refine blk_ret ?_ | refine blk_hit ?_ | refine blk_miss rfl ?_ | refine aWp_ret ?_ | refine aWp_skip ?_ | refine aWp_block ?_ | refine aWp_exit ?_ | refine end_ret ?_ | refine end_normal ?_) | ((refine rgA ?_); intro ν) | ((with_reducible apply cndT); exact rfl; (first | rfl | assumption)) | ((with_reducible apply cndF); exact rfl; (first | rfl | assumption)))
    refine ⟨16 - (i + 1), by omega, _, _, _, i + 1, _, _, rfl, by omega, rfl, rfl, rfl, rfl, rfl, rfl, ?_, rfl, ?_⟩
    · show (SV.k (.int .i64 ((i : Int) + 1)) : SV) = _
      rw [Int.natCast_succ]
    · rw [upd_same]
      exact congrArg (fun q => some (g, Ent.obj q)) hst
  have hie : i = 16 := by omega
  subst hie
  rw [hxs] at hsa ⊢
  clear t28 hsl hxs hfk
  generalize xorB last iv = X at *
  by_cases hr : 1 ≤ w.toNat ∧ w.toNat ≤ 16
  · cases hO : openT last with
    | some z =>
      as_aux_lemma =>
        have hall : ∀ j, j < w.toNat → last.getD (16 - (j + 1)) 0 = w := fun j hj => by
          by_cases q : last.getD (16 - (j + 1)) 0 = w
          · exact q
          · rw [openT_bad last w hll hF (.inr ⟨j, hj, q⟩)] at hO; cases hO
        have hz : z = last.take (16 - w.toNat) := by
          rw [openT_good last w hll hF hr.1 hr.2 hall] at hO
          exact (Option.some.inj hO).symm
        rw [hO, openR] at s5
        have hza := aOfBytes_len z
        have eN : ((16 : Int) - (w.toNat : Int)).toNat = 16 - w.toNat := by omega
        have b1 : aBytes (List.take ((16 : Int) - (w.toNat : Int)).toNat (aOfBytes last)) = some (last.take (16 - w.toNat)) := by
          rw [eN, ← bytes_take']; exact aBytes_of' _
        repeat with_reducible (first | refine aWp_seq ?_ | refine seq_normal ?_ | refine seq_ret ?_ | refine seq_exit ?_ | refine blk_normal ?_ | refine blk_ret ?_ | refine blk_hit ?_ | refine blk_miss rfl ?_ | refine aWp_ret ?_ | refine aWp_skip ?_ | refine aWp_block ?_ | refine aWp_exit ?_ | refine end_ret ?_ | refine end_normal ?_)
        refine rg fun K hK => ?_
        refine stA ?_
        refine rzs (t := 10) rfl rfl ?_
        refine hK _ _ _ ?_
        clear hK K; intro ν
        repeat with_reducible (first | refine aWp_seq ?_ | refine seq_normal ?_ | refine seq_ret ?_ | refine seq_exit ?_ | refine blk_normal ?_ | refine blk_ret ?_ | refine blk_hit ?_ | refine blk_miss rfl ?_ | refine aWp_ret ?_ | refine aWp_skip ?_ | refine aWp_block ?_ | refine aWp_exit ?_ | refine end_ret ?_ | refine end_normal ?_)
        (with_reducible apply cndF); exact rfl; (first | rfl | assumption | (simp [*] <;> done))
        repeat with_reducible (first | refine aWp_seq ?_ | refine seq_normal ?_ | refine seq_ret ?_ | refine seq_exit ?_ | refine blk_normal ?_ | refine blk_ret ?_ | refine blk_hit ?_ | refine blk_miss rfl ?_ | refine aWp_ret ?_ | refine aWp_skip ?_ | refine aWp_block ?_ | refine aWp_exit ?_ | refine end_ret ?_ | refine end_normal ?_)
        refine rgx [(1,[4],[])] (by kernel_rfl) fun K hK => ?_
        refine stxA ?_
        ((first | ((with_reducible refine x0 ?_ ?_); exact rfl) | ((with_reducible refine x1 ?_ ?_ ?_); exact rfl; (with_reducible apply gt_); exact rfl; exact rfl; (first | rfl | assumption | (simp [*] <;> done)))); refine xcA (h2 := (s2)) (hk := ?_))
        refine stxA ?_
        ((first | ((with_reducible refine x0 ?_ ?_); exact rfl) | ((with_reducible refine x1 ?_ ?_ ?_); exact rfl; (with_reducible apply gt_); exact rfl; exact rfl; (first | rfl | assumption | (simp [*] <;> done)))); refine xcA (h2 := (s5)) (hk := ?_))
        refine stxA ?_
        with_reducible refine xz ?_
        refine hK _ _ _ ?_
        clear hK K; intro ν
        repeat (first | with_reducible (first | refine aWp_seq ?_ | refine seq_normal ?_ | refine seq_ret ?_ | refine seq_exit ?_ | refine blk_normal ?_ | refine blk_ret ?_ | refine blk_hit ?_ | refine blk_miss rfl ?_ | refine aWp_ret ?_ | refine aWp_skip ?_ | refine aWp_block ?_ | refine aWp_exit ?_ | refine end_ret ?_ | refine end_normal ?_) | ((refine rgA ?_); intro ν) | ((with_reducible apply cndT); exact rfl; (first | rfl | assumption)) | ((with_reducible apply cndF); exact rfl; (first | rfl | assumption)))
        refine aWp_loop (fun m s => ∃ F T ν i, m = w.toNat - i ∧ i ≤ w.toNat ∧ s = ⟨F, T, ν, ⟨fun t => t == 17 || t == 28 || t == 26, δ, false⟩⟩ ∧ F 5 = .k (.cp (aOfBytes last)) ∧ F 12 = .k (.sl true z.length (aOfBytes z)) ∧ F 13 = .k (.int .i64 0) ∧ F 14 = .k (.int .i64 (w.toNat : Nat)) ∧ F 15 = .k (.bool true) ∧ F 16 = .k (.int .i64 ((i + 1 : Nat) : Int))) w.toNat ⟨_, _, _, 0, rfl, Nat.zero_le _, rfl, rfl, rfl, rfl, rfl, rfl, rfl⟩ ?_
        clear f4 f5 f7 f8 f10 f11 t4
        rintro m s ⟨F, T, ν, i, rfl, hi, rfl, f5, f12, f13, f14, f15, f16⟩
        rw [has6 f5 f12 f13 f14 f15 f16]
        by_cases hli : i < w.toNat
        · have eI : ((16 : Int) - ((i + 1 : Nat) : Int)).toNat = 16 - (i + 1) := by omega
          have l1 := ld_b last (16 - (i + 1)) (by omega)
          rw [hall i hli, ← eI] at l1
          clear hall
          repeat (first | with_reducible (first | refine aWp_seq ?_ | refine seq_normal ?_ | refine seq_ret ?_ | refine seq_exit ?_ | refine blk_normal ?_ | refine blk_ret ?_ | refine blk_hit ?_ | refine blk_miss rfl ?_ | refine aWp_ret ?_ | refine aWp_skip ?_ | refine aWp_block ?_ | refine aWp_exit ?_ | refine end_ret ?_ | refine end_normal ?_) | ((refine rgA ?_); intro ν) | ((with_reducible apply cndT); exact rfl; (first | rfl | assumption)) | ((with_reducible apply cndF); exact rfl; (first | rfl | assumption)))
          refine ⟨w.toNat - (i + 1), by omega, _, _, _, i + 1, rfl, by omega, rfl, rfl, rfl, rfl, rfl, rfl, ?_⟩
          show (SV.k (.int .i64 (((i + 1 : Nat) : Int) + 1)) : SV) = _
          rw [Int.natCast_succ (i + 1)]
        · have hie : i = w.toNat := by omega
          subst hie
          clear hall
          repeat (first | with_reducible (first | refine aWp_seq ?_ | refine seq_normal ?_ | refine seq_ret ?_ | refine seq_exit ?_ | refine blk_normal ?_ | refine blk_ret ?_ | refine blk_hit ?_ | refine blk_miss rfl ?_ | refine aWp_ret ?_ | refine aWp_skip ?_ | refine aWp_block ?_ | refine aWp_exit ?_ | refine end_ret ?_ | refine end_normal ?_) | ((refine rgA ?_); intro ν) | ((with_reducible apply cndT); exact rfl; (first | rfl | assumption)) | ((with_reducible apply cndF); exact rfl; (first | rfl | assumption)))
          refine rgx [] (by kernel_rfl) fun K hK => ?_
          refine stxA ?_
          ((first | ((with_reducible refine x0 ?_ ?_); exact rfl) | ((with_reducible refine x1 ?_ ?_ ?_); exact rfl; (with_reducible apply gt_); exact rfl; exact rfl; (first | rfl | assumption | (simp [*] <;> done)))); refine xcA (h2 := (awake07_spec)) (hk := ?_))
          refine stxA ?_
          with_reducible refine xz ?_
          refine hK _ _ _ ?_
          clear hK K; intro ν
          repeat (first | with_reducible (first | refine aWp_seq ?_ | refine seq_normal ?_ | refine seq_ret ?_ | refine seq_exit ?_ | refine blk_normal ?_ | refine blk_ret ?_ | refine blk_hit ?_ | refine blk_miss rfl ?_ | refine aWp_ret ?_ | refine aWp_skip ?_ | refine aWp_block ?_ | refine aWp_exit ?_ | refine end_ret ?_ | refine end_normal ?_) | ((refine rgA ?_); intro ν) | ((with_reducible apply cndT); exact rfl; (first | rfl | assumption)) | ((with_reducible apply cndF); exact rfl; (first | rfl | assumption)))
          (first | with_reducible refine end_r ?_ | with_reducible refine end_n ?_); refine en1 ?_
          rfl
    | none =>
      as_aux_lemma =>
        rw [hO, openR] at s5
        repeat with_reducible (first | refine aWp_seq ?_ | refine seq_normal ?_ | refine seq_ret ?_ | refine seq_exit ?_ | refine blk_normal ?_ | refine blk_ret ?_ | refine blk_hit ?_ | refine blk_miss rfl ?_ | refine aWp_ret ?_ | refine aWp_skip ?_ | refine aWp_block ?_ | refine aWp_exit ?_ | refine end_ret ?_ | refine end_normal ?_)
        refine rg fun K hK => ?_
        refine stA ?_
        refine rzs (t := 10) rfl rfl ?_
        refine hK _ _ _ ?_
        clear hK K; intro ν
        repeat with_reducible (first | refine aWp_seq ?_ | refine seq_normal ?_ | refine seq_ret ?_ | refine seq_exit ?_ | refine blk_normal ?_ | refine blk_ret ?_ | refine blk_hit ?_ | refine blk_miss rfl ?_ | refine aWp_ret ?_ | refine aWp_skip ?_ | refine aWp_block ?_ | refine aWp_exit ?_ | refine end_ret ?_ | refine end_normal ?_)
        (with_reducible apply cndF); exact rfl; (first | rfl | assumption | (simp [*] <;> done))
        repeat with_reducible (first | refine aWp_seq ?_ | refine seq_normal ?_ | refine seq_ret ?_ | refine seq_exit ?_ | refine blk_normal ?_ | refine blk_ret ?_ | refine blk_hit ?_ | refine blk_miss rfl ?_ | refine aWp_ret ?_ | refine aWp_skip ?_ | refine aWp_block ?_ | refine aWp_exit ?_ | refine end_ret ?_ | refine end_normal ?_)
        refine rgx [(1,[4],[])] (by kernel_rfl) fun K hK => ?_
        refine stxA ?_
        ((first | ((with_reducible refine x0 ?_ ?_); exact rfl) | ((with_reducible refine x1 ?_ ?_ ?_); exact rfl; (with_reducible apply gt_); exact rfl; exact rfl; (first | rfl | assumption | (simp [*] <;> done)))); refine xcA (h2 := (s2)) (hk := ?_))
        refine stxA ?_
        ((first | ((with_reducible refine x0 ?_ ?_); exact rfl) | ((with_reducible refine x1 ?_ ?_ ?_); exact rfl; (with_reducible apply gt_); exact rfl; exact rfl; (first | rfl | assumption | (simp [*] <;> done)))); refine xcA (h2 := (s5)) (hk := ?_))
        refine stxA ?_
        with_reducible refine xz ?_
        refine hK _ _ _ ?_
        clear hK K; intro ν
        repeat (first | with_reducible (first | refine aWp_seq ?_ | refine seq_normal ?_ | refine seq_ret ?_ | refine seq_exit ?_ | refine blk_normal ?_ | refine blk_ret ?_ | refine blk_hit ?_ | refine blk_miss rfl ?_ | refine aWp_ret ?_ | refine aWp_skip ?_ | refine aWp_block ?_ | refine aWp_exit ?_ | refine end_ret ?_ | refine end_normal ?_) | ((refine rgA ?_); intro ν) | ((with_reducible apply cndT); exact rfl; (first | rfl | assumption)) | ((with_reducible apply cndF); exact rfl; (first | rfl | assumption)))
        refine aWp_loop (fun m s => ∃ F T ν i gd, m = (if gd = true then w.toNat + 1 - i else 0) ∧ i ≤ w.toNat ∧ s = ⟨F, T, ν, ⟨fun t => t == 17 || t == 28 || t == 26, δ, false⟩⟩ ∧ F 5 = .k (.cp (aOfBytes last)) ∧ F 12 = .k (.sl true 0 []) ∧ F 13 = .k (.int .i64 12) ∧ F 14 = .k (.int .i64 (w.toNat : Nat)) ∧ F 15 = .k (.bool gd) ∧ F 16 = .k (.int .i64 ((i + 1 : Nat) : Int)) ∧ (gd = true → ∀ j, j < i → last.getD (16 - (j + 1)) 0 = w)) (w.toNat + 1) ⟨_, _, _, 0, true, rfl, Nat.zero_le _, rfl, rfl, rfl, rfl, rfl, rfl, rfl, fun _ j hj => absurd hj (Nat.not_lt_zero j)⟩ ?_
        clear f4 f5 f7 f8 f10 f11 t4
        rintro m s ⟨F, T, ν, i, gd, rfl, hi, rfl, f5, f12, f13, f14, f15, f16, hall⟩
        rw [has6 f5 f12 f13 f14 f15 f16]
        cases gd with
        | true =>
          have hall := hall rfl
          by_cases hli : i < w.toNat
          · have eI : ((16 : Int) - ((i + 1 : Nat) : Int)).toNat = 16 - (i + 1) := by omega
            have l1 := ld_b last (16 - (i + 1)) (by omega)
            by_cases hq : last.getD (16 - (i + 1)) 0 = w
            · have hall2 : ∀ j, j < i + 1 → last.getD (16 - (j + 1)) 0 = w := fun j hj => by
                by_cases q : j < i
                · exact hall j q
                · have : j = i := by omega
                  subst this; exact hq
              rw [hq, ← eI] at l1
              clear hall hq
              repeat (first | with_reducible (first | refine aWp_seq ?_ | refine seq_normal ?_ | refine seq_ret ?_ | refine seq_exit ?_ | refine blk_normal ?_ | refine blk_ret ?_ | refine blk_hit ?_ | refine blk_miss rfl ?_ | refine aWp_ret ?_ | refine aWp_skip ?_ | refine aWp_block ?_ | refine aWp_exit ?_ | refine end_ret ?_ | refine end_normal ?_) | ((refine rgA ?_); intro ν) | ((with_reducible apply cndT); exact rfl; (first | rfl | assumption)) | ((with_reducible apply cndF); exact rfl; (first | rfl | assumption)))
              refine ⟨w.toNat + 1 - (i + 1), by rw [if_pos rfl]; omega, _, _, _, i + 1, true, (by rw [if_pos rfl]), by omega, rfl, rfl, rfl, rfl, rfl, rfl, ?_, fun _ => hall2⟩
              show (SV.k (.int .i64 (((i + 1 : Nat) : Int) + 1)) : SV) = _
              rw [Int.natCast_succ (i + 1)]
            · have hzn : ¬ (last.getD (16 - (i + 1)) 0).toNat = w.toNat := fun e => hq (UInt8.toNat_inj.1 e)
              generalize last.getD (16 - (i + 1)) 0 = z at *
              have hzlt := z.toNat_lt
              rw [← eI] at l1
              clear hall hq
              repeat (first | with_reducible (first | refine aWp_seq ?_ | refine seq_normal ?_ | refine seq_ret ?_ | refine seq_exit ?_ | refine blk_normal ?_ | refine blk_ret ?_ | refine blk_hit ?_ | refine blk_miss rfl ?_ | refine aWp_ret ?_ | refine aWp_skip ?_ | refine aWp_block ?_ | refine aWp_exit ?_ | refine end_ret ?_ | refine end_normal ?_) | ((refine rgA ?_); intro ν) | ((with_reducible apply cndT); exact rfl; (first | rfl | assumption)) | ((with_reducible apply cndF); exact rfl; (first | rfl | assumption)))
              refine ⟨0, by rw [if_pos rfl]; omega, _, _, _, i + 1, false, rfl, by omega, rfl, rfl, rfl, rfl, rfl, rfl, ?_, fun h => by cases h⟩
              show (SV.k (.int .i64 (((i + 1 : Nat) : Int) + 1)) : SV) = _
              rw [Int.natCast_succ (i + 1)]
          · have hie : i = w.toNat := by omega
            rw [openT_good last w hll hF hr.1 hr.2 (by rw [← hie]; exact hall)] at hO
            cases hO
        | false =>
          clear hall
          repeat (first | with_reducible (first | refine aWp_seq ?_ | refine seq_normal ?_ | refine seq_ret ?_ | refine seq_exit ?_ | refine blk_normal ?_ | refine blk_ret ?_ | refine blk_hit ?_ | refine blk_miss rfl ?_ | refine aWp_ret ?_ | refine aWp_skip ?_ | refine aWp_block ?_ | refine aWp_exit ?_ | refine end_ret ?_ | refine end_normal ?_) | ((refine rgA ?_); intro ν) | ((with_reducible apply cndT); exact rfl; (first | rfl | assumption)) | ((with_reducible apply cndF); exact rfl; (first | rfl | assumption)))
          refine rg fun K hK => ?_
          refine stA ?_
          (first | with_reducible refine g0 ?_ | ((with_reducible refine g1 ?_ ?_); (with_reducible apply gt_); exact rfl; exact rfl; (first | rfl | assumption | (simp [*] <;> done)))); refine scA (h2 := (awake07_spec)) (hk := ?_)
          refine stA ?_
          with_reducible refine rz ?_
          refine hK _ _ _ ?_
          clear hK K; intro ν
          repeat (first | with_reducible (first | refine aWp_seq ?_ | refine seq_normal ?_ | refine seq_ret ?_ | refine seq_exit ?_ | refine blk_normal ?_ | refine blk_ret ?_ | refine blk_hit ?_ | refine blk_miss rfl ?_ | refine aWp_ret ?_ | refine aWp_skip ?_ | refine aWp_block ?_ | refine aWp_exit ?_ | refine end_ret ?_ | refine end_normal ?_) | ((refine rgA ?_); intro ν) | ((with_reducible apply cndT); exact rfl; (first | rfl | assumption)) | ((with_reducible apply cndF); exact rfl; (first | rfl | assumption)))
          (first | with_reducible refine end_r ?_ | with_reducible refine end_n ?_); refine en1 ?_
          rfl
  · have HB := openT_bad last w hll hF (.inl hr)
    rw [HB, openR] at s5
    clear HB
    by_cases h0 : w.toNat = 0
    · skip
      repeat with_reducible (first | refine aWp_seq ?_ | refine seq_normal ?_ | refine seq_ret ?_ | refine seq_exit ?_ | refine blk_normal ?_ | refine blk_ret ?_ | refine blk_hit ?_ | refine blk_miss rfl ?_ | refine aWp_ret ?_ | refine aWp_skip ?_ | refine aWp_block ?_ | refine aWp_exit ?_ | refine end_ret ?_ | refine end_normal ?_)
      refine rg fun K hK => ?_
      refine stA ?_
      refine rzs (t := 10) rfl rfl ?_
      refine hK _ _ _ ?_
      clear hK K; intro ν
      repeat with_reducible (first | refine aWp_seq ?_ | refine seq_normal ?_ | refine seq_ret ?_ | refine seq_exit ?_ | refine blk_normal ?_ | refine blk_ret ?_ | refine blk_hit ?_ | refine blk_miss rfl ?_ | refine aWp_ret ?_ | refine aWp_skip ?_ | refine aWp_block ?_ | refine aWp_exit ?_ | refine end_ret ?_ | refine end_normal ?_)
      (with_reducible apply cndF); exact rfl; (first | rfl | assumption | (simp [*] <;> done))
      repeat with_reducible (first | refine aWp_seq ?_ | refine seq_normal ?_ | refine seq_ret ?_ | refine seq_exit ?_ | refine blk_normal ?_ | refine blk_ret ?_ | refine blk_hit ?_ | refine blk_miss rfl ?_ | refine aWp_ret ?_ | refine aWp_skip ?_ | refine aWp_block ?_ | refine aWp_exit ?_ | refine end_ret ?_ | refine end_normal ?_)
      refine rgx [(1,[4],[])] (by kernel_rfl) fun K hK => ?_
      refine stxA ?_
      ((first | ((with_reducible refine x0 ?_ ?_); exact rfl) | ((with_reducible refine x1 ?_ ?_ ?_); exact rfl; (with_reducible apply gt_); exact rfl; exact rfl; (first | rfl | assumption | (simp [*] <;> done)))); refine xcA (h2 := (s2)) (hk := ?_))
      refine stxA ?_
      ((first | ((with_reducible refine x0 ?_ ?_); exact rfl) | ((with_reducible refine x1 ?_ ?_ ?_); exact rfl; (with_reducible apply gt_); exact rfl; exact rfl; (first | rfl | assumption | (simp [*] <;> done)))); refine xcA (h2 := (s5)) (hk := ?_))
      refine stxA ?_
      with_reducible refine xz ?_
      refine hK _ _ _ ?_
      clear hK K; intro ν
      repeat (first | with_reducible (first | refine aWp_seq ?_ | refine seq_normal ?_ | refine seq_ret ?_ | refine seq_exit ?_ | refine blk_normal ?_ | refine blk_ret ?_ | refine blk_hit ?_ | refine blk_miss rfl ?_ | refine aWp_ret ?_ | refine aWp_skip ?_ | refine aWp_block ?_ | refine aWp_exit ?_ | refine end_ret ?_ | refine end_normal ?_) | ((refine rgA ?_); intro ν) | ((with_reducible apply cndT); exact rfl; (first | rfl | assumption)) | ((with_reducible apply cndF); exact rfl; (first | rfl | assumption)))
      refine aWp_loop (fun m s => ∃ F T ν, m = 0 ∧ s = ⟨F, T, ν, ⟨fun t => t == 17 || t == 28 || t == 26, δ, false⟩⟩ ∧ F 12 = .k (.sl true 0 []) ∧ F 13 = .k (.int .i64 12) ∧ F 15 = .k (.bool false)) 0 ⟨_, _, _, rfl, rfl, rfl, rfl, rfl⟩ ?_
      rintro m s ⟨F, T, ν, rfl, rfl, f12, f13, f15⟩
      rw [has3 f12 f13 f15]
      repeat (first | with_reducible (first | refine aWp_seq ?_ | refine seq_normal ?_ | refine seq_ret ?_ | refine seq_exit ?_ | refine blk_normal ?_ | refine blk_ret ?_ | refine blk_hit ?_ | refine blk_miss rfl ?_ | refine aWp_ret ?_ | refine aWp_skip ?_ | refine aWp_block ?_ | refine aWp_exit ?_ | refine end_ret ?_ | refine end_normal ?_) | ((refine rgA ?_); intro ν) | ((with_reducible apply cndT); exact rfl; (first | rfl | assumption)) | ((with_reducible apply cndF); exact rfl; (first | rfl | assumption)))
      refine rg fun K hK => ?_
      refine stA ?_
      (first | with_reducible refine g0 ?_ | ((with_reducible refine g1 ?_ ?_); (with_reducible apply gt_); exact rfl; exact rfl; (first | rfl | assumption | (simp [*] <;> done)))); refine scA (h2 := (awake07_spec)) (hk := ?_)
      refine stA ?_
      with_reducible refine rz ?_
      refine hK _ _ _ ?_
      clear hK K; intro ν
      repeat (first | with_reducible (first | refine aWp_seq ?_ | refine seq_normal ?_ | refine seq_ret ?_ | refine seq_exit ?_ | refine blk_normal ?_ | refine blk_ret ?_ | refine blk_hit ?_ | refine blk_miss rfl ?_ | refine aWp_ret ?_ | refine aWp_skip ?_ | refine aWp_block ?_ | refine aWp_exit ?_ | refine end_ret ?_ | refine end_normal ?_) | ((refine rgA ?_); intro ν) | ((with_reducible apply cndT); exact rfl; (first | rfl | assumption)) | ((with_reducible apply cndF); exact rfl; (first | rfl | assumption)))
      (first | with_reducible refine end_r ?_ | with_reducible refine end_n ?_); refine en1 ?_
      rfl
    · have h17 : 16 < w.toNat := by omega
      repeat with_reducible (first | refine aWp_seq ?_ | refine seq_normal ?_ | refine seq_ret ?_ | refine seq_exit ?_ | refine blk_normal ?_ | refine blk_ret ?_ | refine blk_hit ?_ | refine blk_miss rfl ?_ | refine aWp_ret ?_ | refine aWp_skip ?_ | refine aWp_block ?_ | refine aWp_exit ?_ | refine end_ret ?_ | refine end_normal ?_)
      refine rg fun K hK => ?_
      refine stA ?_
      refine rzs (t := 10) rfl rfl ?_
      refine hK _ _ _ ?_
      clear hK K; intro ν
      repeat with_reducible (first | refine aWp_seq ?_ | refine seq_normal ?_ | refine seq_ret ?_ | refine seq_exit ?_ | refine blk_normal ?_ | refine blk_ret ?_ | refine blk_hit ?_ | refine blk_miss rfl ?_ | refine aWp_ret ?_ | refine aWp_skip ?_ | refine aWp_block ?_ | refine aWp_exit ?_ | refine end_ret ?_ | refine end_normal ?_)
      (with_reducible apply cndF); exact rfl; (first | rfl | assumption | (simp [*] <;> done))
      repeat with_reducible (first | refine aWp_seq ?_ | refine seq_normal ?_ | refine seq_ret ?_ | refine seq_exit ?_ | refine blk_normal ?_ | refine blk_ret ?_ | refine blk_hit ?_ | refine blk_miss rfl ?_ | refine aWp_ret ?_ | refine aWp_skip ?_ | refine aWp_block ?_ | refine aWp_exit ?_ | refine end_ret ?_ | refine end_normal ?_)
      refine rgx [(1,[4],[])] (by kernel_rfl) fun K hK => ?_
      refine stxA ?_
      ((first | ((with_reducible refine x0 ?_ ?_); exact rfl) | ((with_reducible refine x1 ?_ ?_ ?_); exact rfl; (with_reducible apply gt_); exact rfl; exact rfl; (first | rfl | assumption | (simp [*] <;> done)))); refine xcA (h2 := (s2)) (hk := ?_))
      refine stxA ?_
      ((first | ((with_reducible refine x0 ?_ ?_); exact rfl) | ((with_reducible refine x1 ?_ ?_ ?_); exact rfl; (with_reducible apply gt_); exact rfl; exact rfl; (first | rfl | assumption | (simp [*] <;> done)))); refine xcA (h2 := (s5)) (hk := ?_))
      refine stxA ?_
      with_reducible refine xz ?_
      refine hK _ _ _ ?_
      clear hK K; intro ν
      repeat (first | with_reducible (first | refine aWp_seq ?_ | refine seq_normal ?_ | refine seq_ret ?_ | refine seq_exit ?_ | refine blk_normal ?_ | refine blk_ret ?_ | refine blk_hit ?_ | refine blk_miss rfl ?_ | refine aWp_ret ?_ | refine aWp_skip ?_ | refine aWp_block ?_ | refine aWp_exit ?_ | refine end_ret ?_ | refine end_normal ?_) | ((refine rgA ?_); intro ν) | ((with_reducible apply cndT); exact rfl; (first | rfl | assumption)) | ((with_reducible apply cndF); exact rfl; (first | rfl | assumption)))
      refine aWp_loop (fun m s => ∃ F T ν, m = 0 ∧ s = ⟨F, T, ν, ⟨fun t => t == 17 || t == 28 || t == 26, δ, false⟩⟩ ∧ F 12 = .k (.sl true 0 []) ∧ F 13 = .k (.int .i64 12) ∧ F 15 = .k (.bool false)) 0 ⟨_, _, _, rfl, rfl, rfl, rfl, rfl⟩ ?_
      rintro m s ⟨F, T, ν, rfl, rfl, f12, f13, f15⟩
      rw [has3 f12 f13 f15]
      repeat (first | with_reducible (first | refine aWp_seq ?_ | refine seq_normal ?_ | refine seq_ret ?_ | refine seq_exit ?_ | refine blk_normal ?_ | refine blk_ret ?_ | refine blk_hit ?_ | refine blk_miss rfl ?_ | refine aWp_ret ?_ | refine aWp_skip ?_ | refine aWp_block ?_ | refine aWp_exit ?_ | refine end_ret ?_ | refine end_normal ?_) | ((refine rgA ?_); intro ν) | ((with_reducible apply cndT); exact rfl; (first | rfl | assumption)) | ((with_reducible apply cndF); exact rfl; (first | rfl | assumption)))
      refine rg fun K hK => ?_
      refine stA ?_
      (first | with_reducible refine g0 ?_ | ((with_reducible refine g1 ?_ ?_); (with_reducible apply gt_); exact rfl; exact rfl; (first | rfl | assumption | (simp [*] <;> done)))); refine scA (h2 := (awake07_spec)) (hk := ?_)
      refine stA ?_
      with_reducible refine rz ?_
      refine hK _ _ _ ?_
      clear hK K; intro ν
      repeat (first | with_reducible (first | refine aWp_seq ?_ | refine seq_normal ?_ | refine seq_ret ?_ | refine seq_exit ?_ | refine blk_normal ?_ | refine blk_ret ?_ | refine blk_hit ?_ | refine blk_miss rfl ?_ | refine aWp_ret ?_ | refine aWp_skip ?_ | refine aWp_block ?_ | refine aWp_exit ?_ | refine end_ret ?_ | refine end_normal ?_) | ((refine rgA ?_); intro ν) | ((with_reducible apply cndT); exact rfl; (first | rfl | assumption)) | ((with_reducible apply cndF); exact rfl; (first | rfl | assumption)))
      (first | with_reducible refine end_r ?_ | with_reducible refine end_n ?_); refine en1 ?_
      rfl
end Go.Proofs.Ytmbnclpgldglnaa
