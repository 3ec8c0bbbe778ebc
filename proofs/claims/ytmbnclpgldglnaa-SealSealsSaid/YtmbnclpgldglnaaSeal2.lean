import Derived.Test.YtmbnclpgldglnaaSeal1
import Derived.Test.YtmbnclpgldglnaaMg1
import Derived.Test.YtmbnclpgldglnaaMacE
namespace Go.Proofs.Ytmbnclpgldglnaa
open Go.RowKit
set_option linter.unusedVariables false
set_option linter.unusedSimpArgs false
set_option maxRecDepth 20000
set_option maxHeartbeats 8000000 in
theorem tag_spec (full : Bool) (kE kM s : List UInt8) (hE : kE.length = 32) (hM : kM.length = 32) (h32 : 32 ≤ s.length) (hs : s.length ≤ 3000) :
    Spec Try.prog 28 [.agg (aOfBytes (kE ++ kM)), .sl full s.length (aOfBytes s)] (.k (.tup [.agg (aOfBytes (macB kM (s.take (s.length - 32)))), .bool true])) := by
  obtain ⟨n, hn⟩ : ∃ n, n = s.length - 32 := ⟨_, rfl⟩
  have hnT : ((s.length : Int) - 32).toNat = n := by omega
  have htl : (s.take n).length = n := by simp; omega
  have s4 := macOf_spec true false kM (by omega) [(full && decide ((s.length : Int) - 32 = (s.length : Int)), s.take n)] (by simp) (by simp) (by simp only [List.flatMap_cons, List.flatMap_nil, List.append_nil]; omega)
  simp only [List.map_cons, List.map_nil, pCells, pB, Part.av, List.flatMap_cons, List.flatMap_nil, List.append_nil, List.length_cons, List.length_nil, Nat.reduceAdd, aOfBytes_len] at s4
  rw [← hn]
  have hDl := macB_len kM (s.take n)
  have hDa := aOfBytes_len (macB kM (s.take n))
  generalize macB kM (s.take n) = D at *
  have hsa := aOfBytes_len s
  have hKa : (aOfBytes (kE ++ kM)).length = 64 := by rw [aOfBytes_len, List.length_append, hE, hM]
  have hMt : List.take 32 (List.drop 32 (aOfBytes (kE ++ kM))) = aOfBytes kM := by
    rw [aOfBytes_append, List.drop_left' (by rw [aOfBytes_len, hE]), List.take_of_length_le (by rw [aOfBytes_len, hM]; exact Nat.le_refl _)]
  rw [hM, ← hMt, htl, cut_take, ← hnT] at s4
  have ld := ld_arrT' (n := 32) (e := 5) (aOfBytes D) (sz := 32) (by omega)
  have e1 : List.drop 32 (aOfBytes D) = [] := List.drop_of_length_le (by omega)
  refine spec_of (fun _ => false) (by kernel_rfl) Try.func28 rfl rfl (by simp [Try.ntmps28]) (by decide) ?_
  intro δ
  rw [init2]
  repeat with_reducible (first | refine aWp_seq ?_ | refine seq_normal ?_ | refine seq_ret ?_ | refine seq_exit ?_ | refine blk_normal ?_ | refine blk_ret ?_ | refine blk_hit ?_ | refine blk_miss rfl ?_ | refine aWp_ret ?_ | refine aWp_skip ?_ | refine aWp_block ?_ | refine aWp_exit ?_ | refine end_ret ?_ | refine end_normal ?_)
  refine rg fun K hK => ?_
  refine stA ?_
  refine rzp (t := 2) rfl rfl ?_
  refine hK _ _ _ ?_
  clear hK K; intro ν
  repeat (first | with_reducible (first | refine aWp_seq ?_ | refine seq_normal ?_ | refine seq_ret ?_ | refine seq_exit ?_ | refine blk_normal ?_ | refine blk_ret ?_ | refine blk_hit ?_ | refine blk_miss rfl ?_ | refine aWp_ret ?_ | refine aWp_skip ?_ | refine aWp_block ?_ | refine aWp_exit ?_ | refine end_ret ?_ | refine end_normal ?_) | ((refine rgA ?_); intro ν) | ((with_reducible apply cndT); exact rfl; (first | rfl | assumption)) | ((with_reducible apply cndF); exact rfl; (first | rfl | assumption)))
  refine rgx [(8,[17],[18]),(9,[4],[4])] (by kernel_rfl) fun K hK => ?_
  refine stxA ?_
  ((first | ((with_reducible refine x0 ?_ ?_); exact rfl) | ((with_reducible refine x1 ?_ ?_ ?_); exact rfl; (with_reducible apply gt_); exact rfl; exact rfl; (first | rfl | assumption | (simp [*] <;> done)))); refine xcA (h2 := (s4)) (hk := ?_))
  refine stxA ?_
  with_reducible refine xz ?_
  refine hK _ _ _ ?_
  clear hK K; intro ν
  rw [drop_rep, List.append_nil]
  repeat (first | with_reducible (first | refine aWp_seq ?_ | refine seq_normal ?_ | refine seq_ret ?_ | refine seq_exit ?_ | refine blk_normal ?_ | refine blk_ret ?_ | refine blk_hit ?_ | refine blk_miss rfl ?_ | refine aWp_ret ?_ | refine aWp_skip ?_ | refine aWp_block ?_ | refine aWp_exit ?_ | refine end_ret ?_ | refine end_normal ?_) | ((refine rgA ?_); intro ν) | ((with_reducible apply cndT); exact rfl; (first | rfl | assumption)) | ((with_reducible apply cndF); exact rfl; (first | rfl | assumption)))
  (first | with_reducible refine end_r ?_ | with_reducible refine end_n ?_); refine en2c ?_
  rfl
/-! opened -/
def opnS (kE kM s : List UInt8) (id gen : Int) : Option (List UInt8) :=
  if 72 ≤ s.length ∧ macB kM (s.take (s.length - 32)) = s.drop (s.length - 32) ∧ vB (s.take 8) = id ∧ vB ((s.drop 8).take 8) = gen ∧ vB ((s.drop 16).take 8) = (s.length : Int) - 72
  then openB (cbcD kE) ((s.take 40).drop 24) ((s.take (s.length - 32)).drop 40) else none
set_option maxHeartbeats 16000000 in
theorem opened_spec (full : Bool) (kE kM s : List UInt8) (id gen : Int) (hE : kE.length = 32) (hM : kM.length = 32) (hs : s.length ≤ 3000) :
    Spec Try.prog 26 [.agg (aOfBytes (kE ++ kM)), .int .i64 id, .int .i64 gen, .sl full s.length (aOfBytes s)] (.k (openR (opnS kE kM s id gen))) := by
  have hsa := aOfBytes_len s
  have hKa : (aOfBytes (kE ++ kM)).length = 64 := by rw [aOfBytes_len, List.length_append, hE, hM]
  have lk : ∀ fs, ldAgg (.st fs) 64 (aOfBytes (kE ++ kM)) = some (.agg (aOfBytes (kE ++ kM))) := fun fs => by
    simp only [ldAgg]; rw [if_pos (by omega), List.take_of_length_le (by omega)]
  have hEt : List.take 32 (aOfBytes (kE ++ kM)) = aOfBytes kE := by rw [aOfBytes_append]; exact List.take_left' (by rw [aOfBytes_len, hE])
  by_cases h72 : s.length < 72
  · rw [opnS, if_neg (by omega)]
    refine spec_of (fun _ => false) (by kernel_rfl) Try.func26 rfl rfl (by simp [Try.ntmps26]) (by decide) ?_
    intro δ
    rw [init4]
    repeat (first | with_reducible (first | refine aWp_seq ?_ | refine seq_normal ?_ | refine seq_ret ?_ | refine seq_exit ?_ | refine blk_normal ?_ | refine blk_ret ?_ | refine blk_hit ?_ | refine blk_miss rfl ?_ | refine aWp_ret ?_ | refine aWp_skip ?_ | refine aWp_block ?_ | refine aWp_exit ?_ | refine end_ret ?_ | refine end_normal ?_) | ((refine rgA ?_); intro ν) | ((with_reducible apply cndT); exact rfl; (first | rfl | assumption)) | ((with_reducible apply cndF); exact rfl; (first | rfl | assumption)))
    (first | with_reducible refine end_r ?_ | with_reducible refine end_n ?_); refine en2 ?_
    rfl
  · have hnT : ((s.length : Int) - 32).toNat = s.length - 32 := by omega
    have s1 := tag_spec full kE kM s hE hM (by omega) hs
    have hDl := macB_len kM (s.take (s.length - 32))
    generalize hD : macB kM (s.take (s.length - 32)) = D at *
    have hDa := aOfBytes_len D
    have hl24 : (s.take 24).length = 24 := by simp; omega
    have s2 := onew_spec (full && decide ((24 : Int) = (s.length : Int))) (s.take 24)
    have i1 := rint_spec (s.take 24) (by omega) (by omega)
    have i2 := rint_spec ((s.take 24).drop 8) (by simp; omega) (by simp; omega)
    have i3 := rint_spec (((s.take 24).drop 8).drop 8) (by simp; omega) (by simp; omega)
    have v1 : (s.take 24).take 8 = s.take 8 := by rw [List.take_take]; rfl
    have v2 : ((s.take 24).drop 8).take 8 = (s.drop 8).take 8 := by rw [List.drop_take, List.take_take]; rfl
    have v3 : (((s.take 24).drop 8).drop 8).take 8 = (s.drop 16).take 8 := by rw [List.drop_drop, List.drop_take, List.take_take]; rfl
    rw [v1] at i1
    rw [v2] at i2
    rw [v3] at i3
    rw [hl24, cut_take] at s2
    have hiv : ((s.take 40).drop 24).length = 16 := by simp; omega
    have lv : ldAgg (.arr 16 5) 16 (List.drop 24 (List.take 40 (aOfBytes s))) = some (.agg (aOfBytes ((s.take 40).drop 24))) := by
      rw [← cut_take, ← cut_drop]; exact ld_arrT' _ (by rw [aOfBytes_len, hiv])
    have hDt : List.take 32 (aOfBytes D) = aOfBytes D := List.take_of_length_le (by omega)
    have hst : List.take s.length (aOfBytes s) = aOfBytes s := List.take_of_length_le (by omega)
    have s4 : ∀ f1 f2, Spec Try.prog 59 [.sl f1 32 (List.take 32 (aOfBytes D)), .sl f2 (s.length - ((s.length : Int) - 32).toNat) (List.drop ((s.length : Int) - 32).toNat (List.take s.length (aOfBytes s)))] (.k (.bool (decide (D = s.drop (s.length - 32))))) := fun f1 f2 => by
      have h := equal_spec f1 f2 D (s.drop (s.length - 32)) (by unfold maxLen; omega)
      rw [hDt, hst, hnT, ← cut_drop]
      rw [hDl, List.length_drop] at h
      exact h
    have s5 : ∀ f, Spec Try.prog 16 [.sl true 32 (List.take 32 (aOfBytes (kE ++ kM))), .agg (aOfBytes ((s.take 40).drop 24)), .sl f (((s.length : Int) - 32).toNat - 40) (List.drop 40 (List.take ((s.length : Int) - 32).toNat (aOfBytes s)))] (.k (openR (openB (cbcD kE) ((s.take 40).drop 24) ((s.take (s.length - 32)).drop 40)))) := fun f => by
      have h := open_spec true f kE ((s.take 40).drop 24) ((s.take (s.length - 32)).drop 40) (.inr (.inr hE)) hiv (by simp; omega)
      have hxl : ((s.take (s.length - 32)).drop 40).length = s.length - 32 - 40 := by simp
      rw [hEt, hnT, ← cut_take, ← cut_drop]
      rw [hxl, hE] at h
      exact h
    rw [opnS, hD]
    have hv : ∀ z, List.drop 32 (aOfBytes D) ++ z = z := fun z => by rw [List.drop_of_length_le (by omega)]; rfl
    generalize hz1 : vB (s.take 8) = z1 at *
    generalize hz2 : vB ((s.drop 8).take 8) = z2 at *
    generalize hz3 : vB ((s.drop 16).take 8) = z3 at *
    generalize sB (List.drop 8 (List.drop 8 (List.drop 8 (List.take 24 s)))) = b3 at *
    generalize sB (List.drop 8 (List.drop 8 (List.take 24 s))) = b2 at *
    generalize sB (List.drop 8 (List.take 24 s)) = b1 at *
    generalize sB (List.take 24 s) = b0 at *
    generalize aOfBytes (kE ++ kM) = KK at *
    refine spec_of (fun _ => false) (by kernel_rfl) Try.func26 rfl rfl (by simp [Try.ntmps26]) (by decide) ?_
    intro δ
    rw [init4]
    repeat with_reducible (first | refine aWp_seq ?_ | refine seq_normal ?_ | refine seq_ret ?_ | refine seq_exit ?_ | refine blk_normal ?_ | refine blk_ret ?_ | refine blk_hit ?_ | refine blk_miss rfl ?_ | refine aWp_ret ?_ | refine aWp_skip ?_ | refine aWp_block ?_ | refine aWp_exit ?_ | refine end_ret ?_ | refine end_normal ?_)
    refine rg fun K hK => ?_
    refine stA ?_
    refine rzp (t := 4) rfl rfl ?_
    refine hK _ _ _ ?_
    clear hK K; intro ν
    repeat (first | with_reducible (first | refine aWp_seq ?_ | refine seq_normal ?_ | refine seq_ret ?_ | refine seq_exit ?_ | refine blk_normal ?_ | refine blk_ret ?_ | refine blk_hit ?_ | refine blk_miss rfl ?_ | refine aWp_ret ?_ | refine aWp_skip ?_ | refine aWp_block ?_ | refine aWp_exit ?_ | refine end_ret ?_ | refine end_normal ?_) | ((refine rgA ?_); intro ν) | ((with_reducible apply cndT); exact rfl; (first | rfl | assumption)) | ((with_reducible apply cndF); exact rfl; (first | rfl | assumption)))
    have lk4 := lk [(0, 32), (32, 32)]
    refine rg fun K hK => ?_
    refine stA ?_
    (first | with_reducible refine g0 ?_ | ((with_reducible refine g1 ?_ ?_); (with_reducible apply gt_); exact rfl; exact rfl; (first | rfl | assumption | (simp [*] <;> done)))); refine scA (h2 := (s1)) (hk := ?_)
    refine stA ?_
    refine rzp (t := 10) rfl rfl ?_
    refine hK _ _ _ ?_
    clear hK K; intro ν
    rw [drop_rep, List.append_nil]
    repeat with_reducible (first | refine aWp_seq ?_ | refine seq_normal ?_ | refine seq_ret ?_ | refine seq_exit ?_ | refine blk_normal ?_ | refine blk_ret ?_ | refine blk_hit ?_ | refine blk_miss rfl ?_ | refine aWp_ret ?_ | refine aWp_skip ?_ | refine aWp_block ?_ | refine aWp_exit ?_ | refine end_ret ?_ | refine end_normal ?_)
    refine rg fun K hK => ?_
    refine stA ?_
    (first | with_reducible refine g0 ?_ | ((with_reducible refine g1 ?_ ?_); (with_reducible apply gt_); exact rfl; exact rfl; (first | rfl | assumption | (simp [*] <;> done)))); refine scA (h2 := (s2)) (h4 := res_new) (hk := ?_)
    refine stA ?_
    with_reducible refine rz ?_
    refine hK _ _ _ ?_
    clear hK K; intro ν
    repeat with_reducible (first | refine aWp_seq ?_ | refine seq_normal ?_ | refine seq_ret ?_ | refine seq_exit ?_ | refine blk_normal ?_ | refine blk_ret ?_ | refine blk_hit ?_ | refine blk_miss rfl ?_ | refine aWp_ret ?_ | refine aWp_skip ?_ | refine aWp_block ?_ | refine aWp_exit ?_ | refine end_ret ?_ | refine end_normal ?_)
    refine rg fun K hK => ?_
    refine stA ?_
    (first | with_reducible refine g0 ?_ | ((with_reducible refine g1 ?_ ?_); (with_reducible apply gt_); exact rfl; exact rfl; (first | rfl | assumption | (simp [*] <;> done)))); (first | refine smA (h2 := (i1)) (e := 26) (hk := ?_) | refine smA0 (h2 := (i1)) (e := 26) (hk := ?_) | refine smN (h2 := (i1)) (e := 26) (hk := ?_))
    refine stA ?_
    (first | with_reducible refine g0 ?_ | ((with_reducible refine g1 ?_ ?_); (with_reducible apply gt_); exact rfl; exact rfl; (first | rfl | assumption | (simp [*] <;> done)))); (first | refine smA (h2 := (i2)) (e := 26) (hk := ?_) | refine smA0 (h2 := (i2)) (e := 26) (hk := ?_) | refine smN (h2 := (i2)) (e := 26) (hk := ?_))
    refine stA ?_
    (first | with_reducible refine g0 ?_ | ((with_reducible refine g1 ?_ ?_); (with_reducible apply gt_); exact rfl; exact rfl; (first | rfl | assumption | (simp [*] <;> done)))); (first | refine smA (h2 := (i3)) (e := 26) (hk := ?_) | refine smA0 (h2 := (i3)) (e := 26) (hk := ?_) | refine smN (h2 := (i3)) (e := 26) (hk := ?_))
    refine stA ?_
    refine rzp (t := 13) rfl rfl ?_
    refine hK _ _ _ ?_
    clear hK K; intro ν
    repeat with_reducible (first | refine aWp_seq ?_ | refine seq_normal ?_ | refine seq_ret ?_ | refine seq_exit ?_ | refine blk_normal ?_ | refine blk_ret ?_ | refine blk_hit ?_ | refine blk_miss rfl ?_ | refine aWp_ret ?_ | refine aWp_skip ?_ | refine aWp_block ?_ | refine aWp_exit ?_ | refine end_ret ?_ | refine end_normal ?_)
    refine rgA ?_
    intro ν
    repeat with_reducible (first | refine aWp_seq ?_ | refine seq_normal ?_ | refine seq_ret ?_ | refine seq_exit ?_ | refine blk_normal ?_ | refine blk_ret ?_ | refine blk_hit ?_ | refine blk_miss rfl ?_ | refine aWp_ret ?_ | refine aWp_skip ?_ | refine aWp_block ?_ | refine aWp_exit ?_ | refine end_ret ?_ | refine end_normal ?_)
    have hnI : ((s.length : Int) - 32).toNat - 40 = s.length - 72 := by omega
    by_cases hT : D = s.drop (s.length - 32)
    · rw [decide_eq_true hT] at s4
      obtain ⟨q, hq⟩ : ∃ q, (!(decide (z1 = id) && (decide (z2 = gen) && (decide (z3 = (((s.length : Int) - 32).toNat - 40 : Nat)) && true)))) = q := ⟨_, rfl⟩
      refine rgx [] (by kernel_rfl) fun K hK => ?_
      refine stxA ?_
      ((first | ((with_reducible refine x0 ?_ ?_); exact rfl) | ((with_reducible refine x1 ?_ ?_ ?_); exact rfl; (with_reducible apply gt_); exact rfl; exact rfl; (first | rfl | assumption | (simp [*] <;> done)))); refine xcA (h2 := (s4 _ _)) (hk := ?_))
      refine stxA ?_
      with_reducible refine xz ?_
      refine hK _ _ _ ?_
      clear hK K; intro ν
      cases q with
      | true =>
        rw [if_neg (fun h => by
          rw [decide_eq_true h.2.2.1, decide_eq_true h.2.2.2.1, decide_eq_true (by omega)] at hq
          cases hq)]
        repeat (first | with_reducible (first | refine aWp_seq ?_ | refine seq_normal ?_ | refine seq_ret ?_ | refine seq_exit ?_ | refine blk_normal ?_ | refine blk_ret ?_ | refine blk_hit ?_ | refine blk_miss rfl ?_ | refine aWp_ret ?_ | refine aWp_skip ?_ | refine aWp_block ?_ | refine aWp_exit ?_ | refine end_ret ?_ | refine end_normal ?_) | ((refine rgA ?_); intro ν) | ((with_reducible apply cndT); exact rfl; (first | rfl | assumption)) | ((with_reducible apply cndF); exact rfl; (first | rfl | assumption)))
        (first | with_reducible refine end_r ?_ | with_reducible refine end_n ?_); refine en2 ?_
        rfl
      | false =>
        have hq2 : z1 = id ∧ z2 = gen ∧ z3 = ((((s.length : Int) - 32).toNat - 40 : Nat) : Int) := by simpa using hq
        rw [if_pos ⟨by omega, hT, hq2.1, hq2.2.1, by omega⟩]
        cases hop : openB (cbcD kE) ((s.take 40).drop 24) ((s.take (s.length - 32)).drop 40) with
        | none =>
          rw [hop, openR] at s5
          rw [openR]
          repeat (first | with_reducible (first | refine aWp_seq ?_ | refine seq_normal ?_ | refine seq_ret ?_ | refine seq_exit ?_ | refine blk_normal ?_ | refine blk_ret ?_ | refine blk_hit ?_ | refine blk_miss rfl ?_ | refine aWp_ret ?_ | refine aWp_skip ?_ | refine aWp_block ?_ | refine aWp_exit ?_ | refine end_ret ?_ | refine end_normal ?_) | ((refine rgA ?_); intro ν) | ((with_reducible apply cndT); exact rfl; (first | rfl | assumption)) | ((with_reducible apply cndF); exact rfl; (first | rfl | assumption)))
          refine rgx [] (by kernel_rfl) fun K hK => ?_
          refine stxA ?_
          ((first | ((with_reducible refine x0 ?_ ?_); exact rfl) | ((with_reducible refine x1 ?_ ?_ ?_); exact rfl; (with_reducible apply gt_); exact rfl; exact rfl; (first | rfl | assumption | (simp [*] <;> done)))); refine xcA (h2 := (s5 _)) (hk := ?_))
          refine stxA ?_
          with_reducible refine xz ?_
          refine hK _ _ _ ?_
          clear hK K; intro ν
          repeat (first | with_reducible (first | refine aWp_seq ?_ | refine seq_normal ?_ | refine seq_ret ?_ | refine seq_exit ?_ | refine blk_normal ?_ | refine blk_ret ?_ | refine blk_hit ?_ | refine blk_miss rfl ?_ | refine aWp_ret ?_ | refine aWp_skip ?_ | refine aWp_block ?_ | refine aWp_exit ?_ | refine end_ret ?_ | refine end_normal ?_) | ((refine rgA ?_); intro ν) | ((with_reducible apply cndT); exact rfl; (first | rfl | assumption)) | ((with_reducible apply cndF); exact rfl; (first | rfl | assumption)))
          (first | with_reducible refine end_r ?_ | with_reducible refine end_n ?_); refine en2 ?_
          rfl
        | some z =>
          rw [hop, openR] at s5
          rw [openR]
          repeat (first | with_reducible (first | refine aWp_seq ?_ | refine seq_normal ?_ | refine seq_ret ?_ | refine seq_exit ?_ | refine blk_normal ?_ | refine blk_ret ?_ | refine blk_hit ?_ | refine blk_miss rfl ?_ | refine aWp_ret ?_ | refine aWp_skip ?_ | refine aWp_block ?_ | refine aWp_exit ?_ | refine end_ret ?_ | refine end_normal ?_) | ((refine rgA ?_); intro ν) | ((with_reducible apply cndT); exact rfl; (first | rfl | assumption)) | ((with_reducible apply cndF); exact rfl; (first | rfl | assumption)))
          refine rgx [] (by kernel_rfl) fun K hK => ?_
          refine stxA ?_
          ((first | ((with_reducible refine x0 ?_ ?_); exact rfl) | ((with_reducible refine x1 ?_ ?_ ?_); exact rfl; (with_reducible apply gt_); exact rfl; exact rfl; (first | rfl | assumption | (simp [*] <;> done)))); refine xcA (h2 := (s5 _)) (hk := ?_))
          refine stxA ?_
          with_reducible refine xz ?_
          refine hK _ _ _ ?_
          clear hK K; intro ν
          repeat (first | with_reducible (first | refine aWp_seq ?_ | refine seq_normal ?_ | refine seq_ret ?_ | refine seq_exit ?_ | refine blk_normal ?_ | refine blk_ret ?_ | refine blk_hit ?_ | refine blk_miss rfl ?_ | refine aWp_ret ?_ | refine aWp_skip ?_ | refine aWp_block ?_ | refine aWp_exit ?_ | refine end_ret ?_ | refine end_normal ?_) | ((refine rgA ?_); intro ν) | ((with_reducible apply cndT); exact rfl; (first | rfl | assumption)) | ((with_reducible apply cndF); exact rfl; (first | rfl | assumption)))
          (first | with_reducible refine end_r ?_ | with_reducible refine end_n ?_); refine en2 ?_
          rfl
    · rw [decide_eq_false hT] at s4
      rw [if_neg (fun h => hT h.2.1)]
      refine rgx [] (by kernel_rfl) fun K hK => ?_
      refine stxA ?_
      ((first | ((with_reducible refine x0 ?_ ?_); exact rfl) | ((with_reducible refine x1 ?_ ?_ ?_); exact rfl; (with_reducible apply gt_); exact rfl; exact rfl; (first | rfl | assumption | (simp [*] <;> done)))); refine xcA (h2 := (s4 _ _)) (hk := ?_))
      refine stxA ?_
      with_reducible refine xz ?_
      refine hK _ _ _ ?_
      clear hK K; intro ν
      repeat (first | with_reducible (first | refine aWp_seq ?_ | refine seq_normal ?_ | refine seq_ret ?_ | refine seq_exit ?_ | refine blk_normal ?_ | refine blk_ret ?_ | refine blk_hit ?_ | refine blk_miss rfl ?_ | refine aWp_ret ?_ | refine aWp_skip ?_ | refine aWp_block ?_ | refine aWp_exit ?_ | refine end_ret ?_ | refine end_normal ?_) | ((refine rgA ?_); intro ν) | ((with_reducible apply cndT); exact rfl; (first | rfl | assumption)) | ((with_reducible apply cndF); exact rfl; (first | rfl | assumption)))
      (first | with_reducible refine end_r ?_ | with_reducible refine end_n ?_); refine en2 ?_
      rfl
end Go.Proofs.Ytmbnclpgldglnaa
