import Derived.Test.YtikganlbnhapcaaRs3
import Derived.Test.YtikganlbnhapcaaSheet6
namespace Go.Proofs.Ytikganlbnhapcaa
open Go.RowKit
set_option linter.unusedVariables false
set_option linter.unusedSimpArgs false
set_option maxRecDepth 20000
/-! the document's lifting -/
theorem bytes_take15 (l : List UInt8) (n : Nat) : aOfBytes (l.take n) = (aOfBytes l).take n := by simp [aOfBytes]
theorem numB_next (s : List UInt8) (a j : Nat) (h : a + j < s.length) : numB ((s.drop a).take (j + 1)) = 256 * numB ((s.drop a).take j) + (s.getD (a + j) 0).toNat := by
  rw [List.take_add_one, List.getElem?_drop, List.getElem?_eq_getElem h, List.getD_eq_getElem?_getD, List.getElem?_eq_getElem h]
  exact numB_snoc _ _
theorem numB_two (s : List UInt8) (h : 2 ≤ s.length) : numB (s.take 2) = 256 * (s.getD 0 0).toNat + (s.getD 1 0).toNat := by
  have e0 := numB_next s 0 0 (by omega)
  have e1 := numB_next s 0 1 (by omega)
  simp only [Nat.zero_add, List.drop_zero] at e0 e1
  rw [e1, e0]
  have : numB (List.take 0 s) = 0 := rfl
  rw [this]; omega
theorem liftM_get (s : List UInt8) (n p : Nat) (hn : 32 * n ≤ s.length) (hp : p < 24 * n) : ((List.range n).flatMap fun j => (s.drop (j * 32)).take 24).getD p 0 = s.getD (32 * (p / 24) + p % 24) 0 := by
  induction n with
  | zero => omega
  | succ n ih =>
    have hl : ∀ m, 32 * m ≤ s.length → ((List.range m).flatMap fun j => (s.drop (j * 32)).take 24).length = 24 * m := by
      intro m
      induction m with
      | zero => intro _; rfl
      | succ m ih2 =>
        intro hm
        rw [List.range_succ, List.flatMap_append, List.length_append, ih2 (by omega), List.flatMap_singleton, List.length_take, List.length_drop]
        omega
    rw [List.range_succ, List.flatMap_append, List.flatMap_singleton, List.getD_eq_getElem?_getD]
    have hln := hl n (by omega)
    by_cases q : p < 24 * n
    · rw [List.getElem?_append_left (by omega), ← List.getD_eq_getElem?_getD]
      exact ih (by omega) q
    · rw [List.getElem?_append_right (by omega), hln, List.getElem?_take, if_pos (by omega), List.getElem?_drop, List.getD_eq_getElem?_getD]
      have : n * 32 + (p - 24 * n) = 32 * (p / 24) + p % 24 := by omega
      rw [this]
theorem liftB_len (s : List UInt8) (h : 32 * liftN s ≤ s.length) : (liftB s).length = liftG s := by
  have hm := liftM_len s h
  have hb := (chN_bound (liftG s + 6)).1
  unfold liftN at hm
  unfold liftB
  rw [List.length_drop, List.length_take, hm]
  omega
theorem liftB_get (s : List UInt8) (i : Nat) (h : 32 * liftN s ≤ s.length) (hi : i < liftG s) : (liftB s).getD i 0 = s.getD (32 * ((i + 2) / 24) + (i + 2) % 24) 0 := by
  have hb := (chN_bound (liftG s + 6)).1
  have := liftM_get s (liftN s) (i + 2) h (by unfold liftN; omega)
  rw [← this]
  unfold liftB
  rw [List.getD_eq_getElem?_getD, List.getElem?_drop, List.getElem?_take, if_pos (by omega), List.getD_eq_getElem?_getD, Nat.add_comm 2 i]
  rfl
def rliftR (s : List UInt8) : AV := if liftOk s = true then .tup [.int .i64 (liftE s), .int .i64 (liftQ s), .sl false (liftB s).length (aOfBytes (liftB s)), .int .i64 (liftN s : Nat), .int .i64 0] else liftBad
set_option maxHeartbeats 16000000 in
theorem rlift_spec (full : Bool) (s : List UInt8) (hs : s.length ≤ 1000000) : Spec Try.prog 38 [.sl full s.length (aOfBytes s)] (.k (rliftR s)) := by
  have hsa := aOfBytes_len s
  by_cases h32 : 32 ≤ s.length
  · have hG := numB_two s (by omega)
    have hGb := liftG_lt s h32
    have he := liftE_lt s h32
    have hq := liftQ_lt s h32
    have m4 := rcount_spec (liftG s : Int)
    rw [cntN_pos _ (by omega)] at m4
    have hNe : chN (liftG s + 6) 24 = liftN s := rfl
    rw [hNe] at m4
    have hNb := chN_bound (liftG s + 6)
    rw [hNe] at hNb
    have l0 := ld_b s 0 (by omega)
    have l1 := ld_b s 1 (by omega)
    have hGI : 256 * ((s.getD 0 0).toNat : Int) + ((s.getD 1 0).toNat : Int) = (liftG s : Int) := by
      unfold liftG; rw [hG]; push_cast; rfl
    have b0 := UInt8.toNat_lt (s.getD 0 0)
    have b1 := UInt8.toNat_lt (s.getD 1 0)
    by_cases h2 : 32 * liftN s ≤ s.length
    · have hBl := liftB_len s h2
      have hBg := fun i hi => liftB_get s i h2 hi
      have hE : liftE s = ((numB ((s.drop 24).take 4) : Nat) : Int) := by unfold liftE; rw [List.drop_take]
      have hQ : liftQ s = ((numB ((s.drop 28).take 4) : Nat) : Int) := by unfold liftQ; rw [List.drop_take]
      have hAl : (liftA s).length = 32 * liftN s := by
        unfold liftA layB
        rw [secsB_len (markB_len _ _), matB_len, hBl]; rfl
      have s5 := rlay_spec false (liftE s) (liftQ s) (liftB s) he hq (by omega)
      change Spec _ _ _ (.k (.tup [.sl false (liftA s).length (aOfBytes (liftA s)), .int .i64 0])) at s5
      have hnT : (32 * (liftN s : Int)).toNat = 32 * liftN s := by omega
      have hok : liftOk s = decide (liftA s = s.take (32 * (liftN s : Int)).toNat) := by
        unfold liftOk; rw [decide_eq_true h32, decide_eq_true h2, Bool.true_and, Bool.true_and, hAl, hnT]
      have b2 : aBytes (List.take (32 * (liftN s : Int)).toNat (aOfBytes s)) = some (s.take (32 * (liftN s : Int)).toNat) := by
        rw [← bytes_take15]; exact aBytes_of' _
      have hAa := aOfBytes_len (liftA s)
      have hBa := aOfBytes_len (liftB s)
      unfold rliftR
      rw [hok]
      have hnn1 := fun j (h : 24 + j < s.length) => numB_next s 24 j h
      have hnn2 := fun j (h : 28 + j < s.length) => numB_next s 28 j h
      have hb1 : ∀ j, j ≤ 4 → numB ((s.drop 24).take j) < 4294967296 := fun j hj => Nat.lt_of_lt_of_le (numB_lt j _ (by rw [List.length_take, List.length_drop]; omega)) (Nat.le_trans (Nat.pow_le_pow_right (by omega) hj) (by decide))
      have hb2 : ∀ j, j ≤ 4 → numB ((s.drop 28).take j) < 4294967296 := fun j hj => Nat.lt_of_lt_of_le (numB_lt j _ (by rw [List.length_take, List.length_drop]; omega)) (Nat.le_trans (Nat.pow_le_pow_right (by omega) hj) (by decide))
      have hz1 : numB ((s.drop 24).take 0) = 0 := rfl
      have hz2 : numB ((s.drop 28).take 0) = 0 := rfl
      generalize hn1 : (fun j => numB ((s.drop 24).take j)) = n1
      generalize hn2 : (fun j => numB ((s.drop 28).take j)) = n2
      have en1 : ∀ j, numB ((s.drop 24).take j) = n1 j := fun j => by rw [← hn1]
      have en2 : ∀ j, numB ((s.drop 28).take j) = n2 j := fun j => by rw [← hn2]
      simp only [en1] at hE hnn1 hb1 hz1
      simp only [en2] at hQ hnn2 hb2 hz2
      clear hn1 hn2 en1 en2
      clear hNe hAl hok hG
      generalize liftE s = E at *
      generalize liftQ s = Q at *
      generalize liftN s = N at *
      generalize liftG s = G at *
      generalize liftA s = A at *
      generalize liftB s = B at *
      refine spec_of (fun _ => false) (by kernel_rfl) Try.func38 rfl rfl (by simp [Try.ntmps38]) (by decide) ?_
      intro δ
      rw [init1]
      repeat (first | with_reducible (first | refine aWp_seq ?_ | refine seq_normal ?_ | refine seq_ret ?_ | refine seq_exit ?_ | refine blk_normal ?_ | refine blk_ret ?_ | refine blk_hit ?_ | refine blk_miss rfl ?_ | refine aWp_ret ?_ | refine aWp_skip ?_ | refine aWp_block ?_ | refine aWp_exit ?_ | refine end_ret ?_ | refine end_normal ?_) | ((refine rgA ?_); intro ν) | ((with_reducible apply cndT); exact rfl; (first | rfl | assumption)) | ((with_reducible apply cndF); exact rfl; (first | rfl | assumption)))
      refine rgx [] (by kernel_rfl) fun K hK => ?_
      refine stxA ?_
      rw [hGI]
      refine stxA ?_
      with_reducible refine xz ?_
      refine hK _ _ _ ?_
      clear hK K; intro ν
      repeat (first | with_reducible (first | refine aWp_seq ?_ | refine seq_normal ?_ | refine seq_ret ?_ | refine seq_exit ?_ | refine blk_normal ?_ | refine blk_ret ?_ | refine blk_hit ?_ | refine blk_miss rfl ?_ | refine aWp_ret ?_ | refine aWp_skip ?_ | refine aWp_block ?_ | refine aWp_exit ?_ | refine end_ret ?_ | refine end_normal ?_) | ((refine rgA ?_); intro ν) | ((with_reducible apply cndT); exact rfl; (first | rfl | assumption)) | ((with_reducible apply cndF); exact rfl; (first | rfl | assumption)))
      refine rg fun K hK => ?_
      refine stA ?_
      (first | with_reducible refine g0 ?_ | ((with_reducible refine g1 ?_ ?_); (with_reducible apply gt_); exact rfl; exact rfl; (first | rfl | assumption | (simp [*] <;> done)))); refine scA (h2 := (m4)) (hk := ?_)
      refine stA ?_
      with_reducible refine rz ?_
      refine hK _ _ _ ?_
      clear hK K; intro ν
      repeat (first | with_reducible (first | refine aWp_seq ?_ | refine seq_normal ?_ | refine seq_ret ?_ | refine seq_exit ?_ | refine blk_normal ?_ | refine blk_ret ?_ | refine blk_hit ?_ | refine blk_miss rfl ?_ | refine aWp_ret ?_ | refine aWp_skip ?_ | refine aWp_block ?_ | refine aWp_exit ?_ | refine end_ret ?_ | refine end_normal ?_) | ((refine rgA ?_); intro ν) | ((with_reducible apply cndT); exact rfl; (first | rfl | assumption)) | ((with_reducible apply cndF); exact rfl; (first | rfl | assumption)))
      refine aWp_loop (fun m s' => ∃ F T ν j, m = 4 - j ∧ j ≤ 4 ∧ s' = ⟨F, T, ν, ⟨fun _ => false, δ, false⟩⟩ ∧ F 0 = .k (.sl full s.length (aOfBytes s)) ∧ F 7 = .k (.int .i64 (G : Nat)) ∧ F 8 = .k (.int .i64 (N : Nat)) ∧ F 9 = .k (.int .i64 (n1 j : Nat)) ∧ F 10 = .k (.int .i64 (n2 j : Nat)) ∧ F 11 = .k (.int .i64 ((24 + j : Nat) : Int))) 4 ⟨_, _, _, 0, rfl, Nat.zero_le _, rfl, rfl, rfl, rfl, ?_, ?_, rfl⟩ ?_
      · rw [hz1]; rfl
      · rw [hz2]; rfl
      rintro m s' ⟨F, T, ν, j, rfl, hj, rfl, f0, f7, f8, f9, f10, f11⟩
      rw [has6 f0 f7 f8 f9 f10 f11]
      by_cases hlt : j < 4
      · have la := ld_b s (24 + j) (by omega)
        have ea : (((24 + j : Nat) : Int) + 4).toNat = 28 + j := by omega
        have lb : ldAgg (.int .u8) 1 (List.drop (((24 + j : Nat) : Int) + 4).toNat (aOfBytes s)) = some (.int .u8 ((s.getD (28 + j) 0).toNat : Int)) := by rw [ea]; exact ld_b s (28 + j) (by omega)
        have ba := UInt8.toNat_lt (s.getD (24 + j) 0)
        have bb := UInt8.toNat_lt (s.getD (28 + j) 0)
        have c1 := hb1 (j + 1) (by omega)
        have c2 := hb2 (j + 1) (by omega)
        have d1 := hnn1 j (by omega)
        have d2 := hnn2 j (by omega)
        repeat (first | with_reducible (first | refine aWp_seq ?_ | refine seq_normal ?_ | refine seq_ret ?_ | refine seq_exit ?_ | refine blk_normal ?_ | refine blk_ret ?_ | refine blk_hit ?_ | refine blk_miss rfl ?_ | refine aWp_ret ?_ | refine aWp_skip ?_ | refine aWp_block ?_ | refine aWp_exit ?_ | refine end_ret ?_ | refine end_normal ?_) | ((refine rgA ?_); intro ν) | ((with_reducible apply cndT); exact rfl; (first | rfl | assumption)) | ((with_reducible apply cndF); exact rfl; (first | rfl | assumption)))
        refine rgxA [] ?_
        intro ν
        repeat (first | with_reducible (first | refine aWp_seq ?_ | refine seq_normal ?_ | refine seq_ret ?_ | refine seq_exit ?_ | refine blk_normal ?_ | refine blk_ret ?_ | refine blk_hit ?_ | refine blk_miss rfl ?_ | refine aWp_ret ?_ | refine aWp_skip ?_ | refine aWp_block ?_ | refine aWp_exit ?_ | refine end_ret ?_ | refine end_normal ?_) | ((refine rgA ?_); intro ν) | ((with_reducible apply cndT); exact rfl; (first | rfl | assumption)) | ((with_reducible apply cndF); exact rfl; (first | rfl | assumption)))
        refine ⟨4 - (j + 1), by omega, _, _, _, j + 1, rfl, by omega, rfl, rfl, rfl, rfl, ?_, ?_, ?_⟩
        · show (SV.k (.int .i64 (256 * ((n1 j : Nat) : Int) + ((s.getD (24 + j) 0).toNat : Int))) : SV) = _
          rw [d1]; push_cast; rfl
        · show (SV.k (.int .i64 (256 * ((n2 j : Nat) : Int) + ((s.getD (28 + j) 0).toNat : Int))) : SV) = _
          rw [d2]; push_cast; rfl
        · show (SV.k (.int .i64 (((24 + j : Nat) : Int) + 1)) : SV) = _
          rw [show ((24 + j : Nat) : Int) + 1 = ((24 + (j + 1) : Nat) : Int) by omega]
      · have hje : j = 4 := by omega
        subst hje
        rw [← hE, ← hQ]
        rw [hBl] at s5 hBa ⊢
        clear hnn1 hnn2 hb1 hb2 hz1 hz2 l0 l1 m4 hE hQ hGI b0 b1
        repeat (first | with_reducible (first | refine aWp_seq ?_ | refine seq_normal ?_ | refine seq_ret ?_ | refine seq_exit ?_ | refine blk_normal ?_ | refine blk_ret ?_ | refine blk_hit ?_ | refine blk_miss rfl ?_ | refine aWp_ret ?_ | refine aWp_skip ?_ | refine aWp_block ?_ | refine aWp_exit ?_ | refine end_ret ?_ | refine end_normal ?_) | ((refine rgA ?_); intro ν) | ((with_reducible apply cndT); exact rfl; (first | rfl | assumption)) | ((with_reducible apply cndF); exact rfl; (first | rfl | assumption)))
        refine aWp_loop (fun m s' => ∃ F T ν x i, m = G - i ∧ i ≤ G ∧ s' = ⟨F, T, ν, ⟨fun _ => false, δ, false⟩⟩ ∧ F 0 = .k (.sl full s.length (aOfBytes s)) ∧ F 7 = .k (.int .i64 (G : Nat)) ∧ F 8 = .k (.int .i64 (N : Nat)) ∧ F 9 = .k (.int .i64 E) ∧ F 10 = .k (.int .i64 Q) ∧ F 12 = x ∧ F 13 = .k (.int .i64 (i : Nat)) ∧ AccO 5 [57, 77] T x i (aOfBytes (B.take i))) G ⟨_, _, _, _, 0, rfl, Nat.zero_le _, rfl, rfl, rfl, rfl, rfl, rfl, rfl, rfl, .ow (by simp) rfl rfl rfl⟩ ?_
        clear f0 f7 f8 f9 f10 f11
        rintro m s' ⟨F, T, ν, x, i, rfl, hi, rfl, f0, f7, f8, f9, f10, f12, f13, hacc⟩
        rw [has7 f0 f7 f8 f9 f10 f12 f13]
        obtain ⟨d, g, hd, rfl, hT⟩ := hacc
        have hcl : (aOfBytes (B.take i)).length = i := by rw [aOfBytes_len, List.length_take, hBl]; omega
        by_cases hlt2 : i < G
        · have hp : 32 * ((i + 2) / 24) + (i + 2) % 24 < s.length := by omega
          have e2 : (32 * (((i : Int) + 2) / 24) + ((i : Int) + 2) % 24).toNat = 32 * ((i + 2) / 24) + (i + 2) % 24 := by omega
          have l2 : ldAgg (.int .u8) 1 (List.drop (32 * (((i : Int) + 2) / 24) + ((i : Int) + 2) % 24).toNat (aOfBytes s)) = some (.int .u8 ((B.getD i 0).toNat : Int)) := by rw [e2, hBg i hlt2]; exact ld_b s (32 * ((i + 2) / 24) + (i + 2) % 24) hp
          have hx : aOfBytes (B.take i) ++ [.int .u8 ((B.getD i 0).toNat : Int)] = aOfBytes (B.take (i + 1)) := by
            rw [List.take_add_one, List.getElem?_eq_getElem (by omega), aOfBytes_append, List.getD_eq_getElem?_getD, List.getElem?_eq_getElem (by omega)]
            rfl
          generalize B.getD i 0 = bx at *
          simp only [List.mem_cons, List.not_mem_nil, or_false] at hd
          rw [upd_self hT]
          rcases hd with rfl | rfl
          iterate 2
            · repeat (first | with_reducible (first | refine aWp_seq ?_ | refine seq_normal ?_ | refine seq_ret ?_ | refine seq_exit ?_ | refine blk_normal ?_ | refine blk_ret ?_ | refine blk_hit ?_ | refine blk_miss rfl ?_ | refine aWp_ret ?_ | refine aWp_skip ?_ | refine aWp_block ?_ | refine aWp_exit ?_ | refine end_ret ?_ | refine end_normal ?_) | ((refine rgA ?_); intro ν) | ((with_reducible apply cndT); exact rfl; (first | rfl | assumption)) | ((with_reducible apply cndF); exact rfl; (first | rfl | assumption)))
              refine ⟨G - (i + 1), by omega, _, _, _, _, i + 1, rfl, by omega, rfl, rfl, rfl, rfl, rfl, rfl, rfl, ?_, .ow (by simp) rfl rfl hx⟩
              show (SV.k (.int .i64 ((i : Int) + 1)) : SV) = _
              rw [Int.natCast_succ]
        · have hie : i = G := by omega
          subst hie
          have hBt : B.take i = B := List.take_of_length_le (by omega)
          rw [hBt]
          clear hBg hcl hT hd
          repeat (first | with_reducible (first | refine aWp_seq ?_ | refine seq_normal ?_ | refine seq_ret ?_ | refine seq_exit ?_ | refine blk_normal ?_ | refine blk_ret ?_ | refine blk_hit ?_ | refine blk_miss rfl ?_ | refine aWp_ret ?_ | refine aWp_skip ?_ | refine aWp_block ?_ | refine aWp_exit ?_ | refine end_ret ?_ | refine end_normal ?_) | ((refine rgA ?_); intro ν) | ((with_reducible apply cndT); exact rfl; (first | rfl | assumption)) | ((with_reducible apply cndF); exact rfl; (first | rfl | assumption)))
          refine rg fun K hK => ?_
          refine stA ?_
          (first | with_reducible refine g0 ?_ | ((with_reducible refine g1 ?_ ?_); (with_reducible apply gt_); exact rfl; exact rfl; (first | rfl | assumption | (simp [*] <;> done)))); refine scA (h2 := (s5)) (hk := ?_)
          refine stA ?_
          with_reducible refine rz ?_
          refine hK _ _ _ ?_
          clear hK K; intro ν
          by_cases q : A = s.take (32 * (N : Int)).toNat
          · rw [if_pos (decide_eq_true q)]
            repeat (first | with_reducible (first | refine aWp_seq ?_ | refine seq_normal ?_ | refine seq_ret ?_ | refine seq_exit ?_ | refine blk_normal ?_ | refine blk_ret ?_ | refine blk_hit ?_ | refine blk_miss rfl ?_ | refine aWp_ret ?_ | refine aWp_skip ?_ | refine aWp_block ?_ | refine aWp_exit ?_ | refine end_ret ?_ | refine end_normal ?_) | ((refine rgA ?_); intro ν) | ((with_reducible apply cndT); exact rfl; (first | rfl | assumption)) | ((with_reducible apply cndF); exact rfl; (first | rfl | assumption)))
            refine rgxA [] ?_
            intro ν
            repeat (first | with_reducible (first | refine aWp_seq ?_ | refine seq_normal ?_ | refine seq_ret ?_ | refine seq_exit ?_ | refine blk_normal ?_ | refine blk_ret ?_ | refine blk_hit ?_ | refine blk_miss rfl ?_ | refine aWp_ret ?_ | refine aWp_skip ?_ | refine aWp_block ?_ | refine aWp_exit ?_ | refine end_ret ?_ | refine end_normal ?_) | ((refine rgA ?_); intro ν) | ((with_reducible apply cndT); exact rfl; (first | rfl | assumption)) | ((with_reducible apply cndF); exact rfl; (first | rfl | assumption)))
            (first | with_reducible refine end_r ?_ | with_reducible refine end_n ?_); refine en5 ?_
            rfl
          · rw [if_neg (by rw [decide_eq_false q]; simp)]
            repeat (first | with_reducible (first | refine aWp_seq ?_ | refine seq_normal ?_ | refine seq_ret ?_ | refine seq_exit ?_ | refine blk_normal ?_ | refine blk_ret ?_ | refine blk_hit ?_ | refine blk_miss rfl ?_ | refine aWp_ret ?_ | refine aWp_skip ?_ | refine aWp_block ?_ | refine aWp_exit ?_ | refine end_ret ?_ | refine end_normal ?_) | ((refine rgA ?_); intro ν) | ((with_reducible apply cndT); exact rfl; (first | rfl | assumption)) | ((with_reducible apply cndF); exact rfl; (first | rfl | assumption)))
            refine rgxA [] ?_
            intro ν
            repeat (first | with_reducible (first | refine aWp_seq ?_ | refine seq_normal ?_ | refine seq_ret ?_ | refine seq_exit ?_ | refine blk_normal ?_ | refine blk_ret ?_ | refine blk_hit ?_ | refine blk_miss rfl ?_ | refine aWp_ret ?_ | refine aWp_skip ?_ | refine aWp_block ?_ | refine aWp_exit ?_ | refine end_ret ?_ | refine end_normal ?_) | ((refine rgA ?_); intro ν) | ((with_reducible apply cndT); exact rfl; (first | rfl | assumption)) | ((with_reducible apply cndF); exact rfl; (first | rfl | assumption)))
            (first | with_reducible refine end_r ?_ | with_reducible refine end_n ?_); refine en5 ?_
            rfl
    · have hok : liftOk s = false := by unfold liftOk; rw [decide_eq_false h2]; simp
      unfold rliftR
      rw [hok, if_neg (by simp), liftBad]
      generalize liftN s = N at *
      generalize liftG s = G at *
      refine spec_of (fun _ => false) (by kernel_rfl) Try.func38 rfl rfl (by simp [Try.ntmps38]) (by decide) ?_
      intro δ
      rw [init1]
      repeat (first | with_reducible (first | refine aWp_seq ?_ | refine seq_normal ?_ | refine seq_ret ?_ | refine seq_exit ?_ | refine blk_normal ?_ | refine blk_ret ?_ | refine blk_hit ?_ | refine blk_miss rfl ?_ | refine aWp_ret ?_ | refine aWp_skip ?_ | refine aWp_block ?_ | refine aWp_exit ?_ | refine end_ret ?_ | refine end_normal ?_) | ((refine rgA ?_); intro ν) | ((with_reducible apply cndT); exact rfl; (first | rfl | assumption)) | ((with_reducible apply cndF); exact rfl; (first | rfl | assumption)))
      refine rgx [] (by kernel_rfl) fun K hK => ?_
      refine stxA ?_
      rw [hGI]
      refine stxA ?_
      with_reducible refine xz ?_
      refine hK _ _ _ ?_
      clear hK K; intro ν
      repeat (first | with_reducible (first | refine aWp_seq ?_ | refine seq_normal ?_ | refine seq_ret ?_ | refine seq_exit ?_ | refine blk_normal ?_ | refine blk_ret ?_ | refine blk_hit ?_ | refine blk_miss rfl ?_ | refine aWp_ret ?_ | refine aWp_skip ?_ | refine aWp_block ?_ | refine aWp_exit ?_ | refine end_ret ?_ | refine end_normal ?_) | ((refine rgA ?_); intro ν) | ((with_reducible apply cndT); exact rfl; (first | rfl | assumption)) | ((with_reducible apply cndF); exact rfl; (first | rfl | assumption)))
      refine rg fun K hK => ?_
      refine stA ?_
      (first | with_reducible refine g0 ?_ | ((with_reducible refine g1 ?_ ?_); (with_reducible apply gt_); exact rfl; exact rfl; (first | rfl | assumption | (simp [*] <;> done)))); refine scA (h2 := (m4)) (hk := ?_)
      refine stA ?_
      with_reducible refine rz ?_
      refine hK _ _ _ ?_
      clear hK K; intro ν
      repeat (first | with_reducible (first | refine aWp_seq ?_ | refine seq_normal ?_ | refine seq_ret ?_ | refine seq_exit ?_ | refine blk_normal ?_ | refine blk_ret ?_ | refine blk_hit ?_ | refine blk_miss rfl ?_ | refine aWp_ret ?_ | refine aWp_skip ?_ | refine aWp_block ?_ | refine aWp_exit ?_ | refine end_ret ?_ | refine end_normal ?_) | ((refine rgA ?_); intro ν) | ((with_reducible apply cndT); exact rfl; (first | rfl | assumption)) | ((with_reducible apply cndF); exact rfl; (first | rfl | assumption)))
      (first | with_reducible refine end_r ?_ | with_reducible refine end_n ?_); refine en5 ?_
      rfl
  · have hok : liftOk s = false := by unfold liftOk; rw [decide_eq_false h32]; simp
    unfold rliftR
    rw [hok, if_neg (by simp), liftBad]
    refine spec_of (fun _ => false) (by kernel_rfl) Try.func38 rfl rfl (by simp [Try.ntmps38]) (by decide) ?_
    intro δ
    rw [init1]
    repeat (first | with_reducible (first | refine aWp_seq ?_ | refine seq_normal ?_ | refine seq_ret ?_ | refine seq_exit ?_ | refine blk_normal ?_ | refine blk_ret ?_ | refine blk_hit ?_ | refine blk_miss rfl ?_ | refine aWp_ret ?_ | refine aWp_skip ?_ | refine aWp_block ?_ | refine aWp_exit ?_ | refine end_ret ?_ | refine end_normal ?_) | ((refine rgA ?_); intro ν) | ((with_reducible apply cndT); exact rfl; (first | rfl | assumption)) | ((with_reducible apply cndF); exact rfl; (first | rfl | assumption)))
    (first | with_reducible refine end_r ?_ | with_reducible refine end_n ?_); refine en5 ?_
    rfl
end Go.Proofs.Ytikganlbnhapcaa
