import Derived.Test.YtikganlbnhapcaaSha5
namespace Go.Proofs.Ytikganlbnhapcaa
open Go.RowKit
set_option linter.unusedVariables false
set_option linter.unusedSimpArgs false
set_option maxRecDepth 20000
theorem short05_spec (l : List UInt8) : Spec Try.prog 15 [.sl false l.length (aOfBytes l)] (.k (.sl false (l.take 400).length (aOfBytes (l.take 400)))) := by
  refine spec_of (fun _ => false) (by kernel_rfl) Try.func15 rfl rfl (by simp [Try.ntmps15]) (by decide) ?_
  intro δ
  rw [init1]
  have hl := aOfBytes_len l
  by_cases h : 400 < l.length
  · repeat (first | with_reducible (first | refine aWp_seq ?_ | refine seq_normal ?_ | refine seq_ret ?_ | refine seq_exit ?_ | refine blk_normal ?_ | refine blk_ret ?_ | refine blk_hit ?_ | refine blk_miss rfl ?_ | refine aWp_ret ?_ | refine aWp_skip ?_ | refine aWp_block ?_ | refine aWp_exit ?_ | refine end_ret ?_ | refine end_normal ?_) | ((refine rgA ?_); intro ν) | ((with_reducible apply cndT); exact rfl; (first | rfl | assumption)) | ((with_reducible apply cndF); exact rfl; (first | rfl | assumption)))
    (first | with_reducible refine end_r ?_ | with_reducible refine end_n ?_); refine en1 ?_
    simp [aOfBytes, List.map_take]; omega
  · repeat (first | with_reducible (first | refine aWp_seq ?_ | refine seq_normal ?_ | refine seq_ret ?_ | refine seq_exit ?_ | refine blk_normal ?_ | refine blk_ret ?_ | refine blk_hit ?_ | refine blk_miss rfl ?_ | refine aWp_ret ?_ | refine aWp_skip ?_ | refine aWp_block ?_ | refine aWp_exit ?_ | refine end_ret ?_ | refine end_normal ?_) | ((refine rgA ?_); intro ν) | ((with_reducible apply cndT); exact rfl; (first | rfl | assumption)) | ((with_reducible apply cndF); exact rfl; (first | rfl | assumption)))
    (first | with_reducible refine end_r ?_ | with_reducible refine end_n ?_); refine en1 ?_
    rw [List.take_of_length_le (by omega)]
theorem abc_0 : (shaB [97, 98, 99]).getD 0 0 = 0xba := by decide +kernel
theorem abc_1 : (shaB [97, 98, 99]).getD 1 0 = 0x78 := by decide +kernel
theorem abc_31 : (shaB [97, 98, 99]).getD 31 0 = 0xad := by decide +kernel
set_option maxHeartbeats 8000000 in
theorem awake05_spec : Spec Try.prog 16 [] (.k (.bool true)) := by
  have s1 := of_spec false [(false, [97, 98, 99])] (by simp) (by simp)
  have s2 := of_spec false [(false, [97]), (true, []), (false, [98, 99])] (by simp) (by simp)
  have hl := shaB_len [97, 98, 99]
  have e1 : aOfBytes [97, 98, 99] = [.int .u8 97, .int .u8 98, .int .u8 99] := rfl
  have e2 : aOfBytes [97] = [.int .u8 97] := rfl
  have e3 : aOfBytes [98, 99] = [.int .u8 98, .int .u8 99] := rfl
  have e4 : aOfBytes [] = [] := rfl
  have l0 := ld_b (shaB [97, 98, 99]) 0 (by omega)
  have l1 := ld_b (shaB [97, 98, 99]) 1 (by omega)
  have l2 := ld_b (shaB [97, 98, 99]) 31 (by omega)
  rw [abc_0] at l0
  rw [abc_1] at l1
  rw [abc_31] at l2
  have la := ld_arr (n := 32) (e := 5) (aOfBytes (shaB [97, 98, 99])) (sz := 32) (by rw [aOfBytes_len, hl])
  simp only [List.map_cons, List.map_nil, pCells, pB, Part.av, List.flatMap_cons, List.flatMap_nil, List.append_nil, List.nil_append, List.cons_append, aOfBytes_len, List.length_cons, List.length_nil, Nat.reduceAdd, e1, e2, e3, e4] at s1 s2
  have hb := aOfBytes_len (shaB [97, 98, 99])
  generalize shaB [97, 98, 99] = D at *
  refine spec_of (fun _ => false) (by kernel_rfl) Try.func16 rfl rfl (by simp [Try.ntmps16]) (by decide) ?_
  intro δ
  rw [init0]
  repeat (first | with_reducible (first | refine aWp_seq ?_ | refine seq_normal ?_ | refine seq_ret ?_ | refine seq_exit ?_ | refine blk_normal ?_ | refine blk_ret ?_ | refine blk_hit ?_ | refine blk_miss rfl ?_ | refine aWp_ret ?_ | refine aWp_skip ?_ | refine aWp_block ?_ | refine aWp_exit ?_ | refine end_ret ?_ | refine end_normal ?_) | ((refine rgA ?_); intro ν) | ((with_reducible apply cndT); exact rfl; (first | rfl | assumption)) | ((with_reducible apply cndF); exact rfl; (first | rfl | assumption)))
  refine rg fun K hK => ?_
  refine stA ?_
  (first | with_reducible refine g0 ?_ | ((with_reducible refine g1 ?_ ?_); (with_reducible apply gt_); exact rfl; exact rfl; (first | rfl | assumption | (simp [*] <;> done)))); refine scA (h2 := (s1)) (hk := ?_)
  refine stA ?_
  (first | with_reducible refine g0 ?_ | ((with_reducible refine g1 ?_ ?_); (with_reducible apply gt_); exact rfl; exact rfl; (first | rfl | assumption | (simp [*] <;> done)))); refine scA (h2 := (s2)) (hk := ?_)
  refine stA ?_
  with_reducible refine rz ?_
  refine hK _ _ _ ?_
  clear hK K; intro ν
  rw [drop_rep, List.append_nil]
  repeat (first | with_reducible (first | refine aWp_seq ?_ | refine seq_normal ?_ | refine seq_ret ?_ | refine seq_exit ?_ | refine blk_normal ?_ | refine blk_ret ?_ | refine blk_hit ?_ | refine blk_miss rfl ?_ | refine aWp_ret ?_ | refine aWp_skip ?_ | refine aWp_block ?_ | refine aWp_exit ?_ | refine end_ret ?_ | refine end_normal ?_) | ((refine rgA ?_); intro ν) | ((with_reducible apply cndT); exact rfl; (first | rfl | assumption)) | ((with_reducible apply cndF); exact rfl; (first | rfl | assumption)))
  (first | with_reducible refine end_r ?_ | with_reducible refine end_n ?_); refine en1 ?_
  rfl
theorem parts_core (x : List UInt8) (hx : x.length ≤ 400) (i k : Nat) (hi : i ≤ k) (hk : k ≤ x.length) : x.take i ++ ((x.take k).drop i ++ x.drop k) = x := by
  have h1 : x.take i = (x.take k).take i := by rw [List.take_take, Nat.min_eq_left hi]
  rw [← List.append_assoc, h1, List.take_append_drop, List.take_append_drop]
theorem wf_u16 {n : Int} (h : (Lit.int .u16 n).wf = true) : 0 ≤ n ∧ n ≤ 65535 := by
  simp [Lit.wf, IntKind.min, IntKind.max, IntKind.signed, IntKind.bits] at h
  omega
set_option maxHeartbeats 16000000 in
theorem law_ShaParts (b : List UInt8) (a c : Nat) (ha : a < 65536) (hc : c < 65536) : Spec Try.prog 3 [.sl false b.length (aOfBytes b), .int .u16 (a : Nat), .int .u16 (c : Nat)] (.k (.bool true)) := by
  have s1 := short05_spec b
  have hx : (b.take 400).length ≤ 400 := by simp; omega
  generalize b.take 400 = x at *
  have hxa := aOfBytes_len x
  obtain ⟨i, hi⟩ : ∃ i, i = a % (x.length + 1) := ⟨_, rfl⟩
  obtain ⟨k, hk⟩ : ∃ k, k = c % (x.length + 1) := ⟨_, rfl⟩
  have hiI : (a : Int) % ((x.length : Int) + 1) = (i : Int) := by rw [hi]; push_cast; rfl
  have hkI : (c : Int) % ((x.length : Int) + 1) = (k : Int) := by rw [hk]; push_cast; rfl
  have hil : i ≤ x.length := by have := Nat.mod_lt a (show 0 < x.length + 1 by omega); omega
  have hkl : k ≤ x.length := by have := Nat.mod_lt c (show 0 < x.length + 1 by omega); omega
  have s2 := of_spec false [(false, x)] (by simp; omega) (by simp)
  have s4 := of_spec false [(true, []), (false, x), (true, [])] (by simp; omega) (by simp)
  have s5 := of_spec true [] (by simp) (by simp)
  have s6 := of_spec false [(true, [])] (by simp) (by simp)
  have e4 : aOfBytes [] = [] := rfl
  simp only [List.map_cons, List.map_nil, pCells, pB, Part.av, List.flatMap_cons, List.flatMap_nil, List.append_nil, List.nil_append, List.length_cons, List.length_nil, Nat.reduceAdd, e4, hxa] at s2 s4 s5 s6
  have s3 : ∀ i k, i ≤ k → k ≤ x.length → Spec Try.prog 17 [.sl false 3 [.sl false i (List.take i (aOfBytes x)), .sl false (k - i) (List.drop i (List.take k (aOfBytes x))), .sl false (x.length - k) (List.drop k (List.take x.length (aOfBytes x)))]] (.k (.agg (aOfBytes (shaB x)))) := by
    intro i k h1 h2
    have s3 := of_spec false [(false, x.take i), (false, (x.take k).drop i), (false, (x.take x.length).drop k)] (by simp; omega) (by simp)
    simp only [List.map_cons, List.map_nil, pCells, pB, Part.av, List.flatMap_cons, List.flatMap_nil, List.append_nil, List.nil_append, List.length_cons, List.length_nil, Nat.reduceAdd, aOfBytes_len, bytes_take, bytes_drop, List.length_take, List.length_drop] at s3
    rw [Nat.min_eq_left (show i ≤ x.length by omega), Nat.min_eq_left h2, Nat.min_self, List.take_of_length_le (Nat.le_refl x.length), parts_core x hx i k h1 h2] at s3
    exact s3
  have hb := aOfBytes_len (shaB x)
  have hl := shaB_len x
  have hb2 := aOfBytes_len (shaB [])
  have hl2 := shaB_len []
  generalize shaB x = D at *
  generalize shaB [] = E at *
  refine spec_of (fun _ => false) (by kernel_rfl) Try.func3 rfl rfl (by simp [Try.ntmps3]) (by decide) ?_
  intro δ
  rw [init3]
  repeat (first | with_reducible (first | refine aWp_seq ?_ | refine seq_normal ?_ | refine seq_ret ?_ | refine seq_exit ?_ | refine blk_normal ?_ | refine blk_ret ?_ | refine blk_hit ?_ | refine blk_miss rfl ?_ | refine aWp_ret ?_ | refine aWp_skip ?_ | refine aWp_block ?_ | refine aWp_exit ?_ | refine end_ret ?_ | refine end_normal ?_) | ((refine rgA ?_); intro ν) | ((with_reducible apply cndT); exact rfl; (first | rfl | assumption)) | ((with_reducible apply cndF); exact rfl; (first | rfl | assumption)))
  refine rg fun K hK => ?_
  refine stA ?_
  (first | with_reducible refine g0 ?_ | ((with_reducible refine g1 ?_ ?_); (with_reducible apply gt_); exact rfl; exact rfl; (first | rfl | assumption | (simp [*] <;> done)))); refine scA (h2 := (s1)) (hk := ?_)
  refine stA ?_
  with_reducible refine rz ?_
  refine hK _ _ _ ?_
  clear hK K; intro ν
  repeat with_reducible (first | refine aWp_seq ?_ | refine seq_normal ?_ | refine seq_ret ?_ | refine seq_exit ?_ | refine blk_normal ?_ | refine blk_ret ?_ | refine blk_hit ?_ | refine blk_miss rfl ?_ | refine aWp_ret ?_ | refine aWp_skip ?_ | refine aWp_block ?_ | refine aWp_exit ?_ | refine end_ret ?_ | refine end_normal ?_)
  refine rgxA [] ?_
  intro ν
  rw [hiI, hkI]
  by_cases hik : k < i
  · have s7 := s3 k i (by omega) hil
    repeat (first | with_reducible (first | refine aWp_seq ?_ | refine seq_normal ?_ | refine seq_ret ?_ | refine seq_exit ?_ | refine blk_normal ?_ | refine blk_ret ?_ | refine blk_hit ?_ | refine blk_miss rfl ?_ | refine aWp_ret ?_ | refine aWp_skip ?_ | refine aWp_block ?_ | refine aWp_exit ?_ | refine end_ret ?_ | refine end_normal ?_) | ((refine rgA ?_); intro ν) | ((with_reducible apply cndT); exact rfl; (first | rfl | assumption)) | ((with_reducible apply cndF); exact rfl; (first | rfl | assumption)))
    refine rgx [(4,[32],[33]),(16,[44],[45]),(22,[50],[51]),(25,[53],[54]),(31,[59],[60])] (by kernel_rfl) fun K hK => ?_
    refine stxA ?_
    ((first | ((with_reducible refine x0 ?_ ?_); exact rfl) | ((with_reducible refine x1 ?_ ?_ ?_); exact rfl; (with_reducible apply gt_); exact rfl; exact rfl; (first | rfl | assumption | (simp [*] <;> done)))); refine xcA (h2 := (awake05_spec)) (hk := ?_))
    refine stxA ?_
    ((first | ((with_reducible refine x0 ?_ ?_); exact rfl) | ((with_reducible refine x1 ?_ ?_ ?_); exact rfl; (with_reducible apply gt_); exact rfl; exact rfl; (first | rfl | assumption | (simp [*] <;> done)))); refine xcA (h2 := (s2)) (hk := ?_))
    refine stxA ?_
    ((first | ((with_reducible refine x0 ?_ ?_); exact rfl) | ((with_reducible refine x1 ?_ ?_ ?_); exact rfl; (with_reducible apply gt_); exact rfl; exact rfl; (first | rfl | assumption | (simp [*] <;> done)))); refine xcA (h2 := (s7)) (hk := ?_))
    refine stxA ?_
    ((first | ((with_reducible refine x0 ?_ ?_); exact rfl) | ((with_reducible refine x1 ?_ ?_ ?_); exact rfl; (with_reducible apply gt_); exact rfl; exact rfl; (first | rfl | assumption | (simp [*] <;> done)))); refine xcA (h2 := (s2)) (hk := ?_))
    refine stxA ?_
    ((first | ((with_reducible refine x0 ?_ ?_); exact rfl) | ((with_reducible refine x1 ?_ ?_ ?_); exact rfl; (with_reducible apply gt_); exact rfl; exact rfl; (first | rfl | assumption | (simp [*] <;> done)))); refine xcA (h2 := (s4)) (hk := ?_))
    refine stxA ?_
    ((first | ((with_reducible refine x0 ?_ ?_); exact rfl) | ((with_reducible refine x1 ?_ ?_ ?_); exact rfl; (with_reducible apply gt_); exact rfl; exact rfl; (first | rfl | assumption | (simp [*] <;> done)))); refine xcA (h2 := (s5)) (hk := ?_))
    refine stxA ?_
    ((first | ((with_reducible refine x0 ?_ ?_); exact rfl) | ((with_reducible refine x1 ?_ ?_ ?_); exact rfl; (with_reducible apply gt_); exact rfl; exact rfl; (first | rfl | assumption | (simp [*] <;> done)))); refine xcA (h2 := (s6)) (hk := ?_))
    refine stxA ?_
    with_reducible refine xz ?_
    refine hK _ _ _ ?_
    clear hK K; intro ν
    repeat (first | with_reducible (first | refine aWp_seq ?_ | refine seq_normal ?_ | refine seq_ret ?_ | refine seq_exit ?_ | refine blk_normal ?_ | refine blk_ret ?_ | refine blk_hit ?_ | refine blk_miss rfl ?_ | refine aWp_ret ?_ | refine aWp_skip ?_ | refine aWp_block ?_ | refine aWp_exit ?_ | refine end_ret ?_ | refine end_normal ?_) | ((refine rgA ?_); intro ν) | ((with_reducible apply cndT); exact rfl; (first | rfl | assumption)) | ((with_reducible apply cndF); exact rfl; (first | rfl | assumption)))
    (first | with_reducible refine end_r ?_ | with_reducible refine end_n ?_); refine en1 ?_
    rfl
  · have s7 := s3 i k (by omega) hkl
    repeat (first | with_reducible (first | refine aWp_seq ?_ | refine seq_normal ?_ | refine seq_ret ?_ | refine seq_exit ?_ | refine blk_normal ?_ | refine blk_ret ?_ | refine blk_hit ?_ | refine blk_miss rfl ?_ | refine aWp_ret ?_ | refine aWp_skip ?_ | refine aWp_block ?_ | refine aWp_exit ?_ | refine end_ret ?_ | refine end_normal ?_) | ((refine rgA ?_); intro ν) | ((with_reducible apply cndT); exact rfl; (first | rfl | assumption)) | ((with_reducible apply cndF); exact rfl; (first | rfl | assumption)))
    refine rgx [(4,[32],[33]),(16,[44],[45]),(22,[50],[51]),(25,[53],[54]),(31,[59],[60])] (by kernel_rfl) fun K hK => ?_
    refine stxA ?_
    ((first | ((with_reducible refine x0 ?_ ?_); exact rfl) | ((with_reducible refine x1 ?_ ?_ ?_); exact rfl; (with_reducible apply gt_); exact rfl; exact rfl; (first | rfl | assumption | (simp [*] <;> done)))); refine xcA (h2 := (awake05_spec)) (hk := ?_))
    refine stxA ?_
    ((first | ((with_reducible refine x0 ?_ ?_); exact rfl) | ((with_reducible refine x1 ?_ ?_ ?_); exact rfl; (with_reducible apply gt_); exact rfl; exact rfl; (first | rfl | assumption | (simp [*] <;> done)))); refine xcA (h2 := (s2)) (hk := ?_))
    refine stxA ?_
    ((first | ((with_reducible refine x0 ?_ ?_); exact rfl) | ((with_reducible refine x1 ?_ ?_ ?_); exact rfl; (with_reducible apply gt_); exact rfl; exact rfl; (first | rfl | assumption | (simp [*] <;> done)))); refine xcA (h2 := (s7)) (hk := ?_))
    refine stxA ?_
    ((first | ((with_reducible refine x0 ?_ ?_); exact rfl) | ((with_reducible refine x1 ?_ ?_ ?_); exact rfl; (with_reducible apply gt_); exact rfl; exact rfl; (first | rfl | assumption | (simp [*] <;> done)))); refine xcA (h2 := (s2)) (hk := ?_))
    refine stxA ?_
    ((first | ((with_reducible refine x0 ?_ ?_); exact rfl) | ((with_reducible refine x1 ?_ ?_ ?_); exact rfl; (with_reducible apply gt_); exact rfl; exact rfl; (first | rfl | assumption | (simp [*] <;> done)))); refine xcA (h2 := (s4)) (hk := ?_))
    refine stxA ?_
    ((first | ((with_reducible refine x0 ?_ ?_); exact rfl) | ((with_reducible refine x1 ?_ ?_ ?_); exact rfl; (with_reducible apply gt_); exact rfl; exact rfl; (first | rfl | assumption | (simp [*] <;> done)))); refine xcA (h2 := (s5)) (hk := ?_))
    refine stxA ?_
    ((first | ((with_reducible refine x0 ?_ ?_); exact rfl) | ((with_reducible refine x1 ?_ ?_ ?_); exact rfl; (with_reducible apply gt_); exact rfl; exact rfl; (first | rfl | assumption | (simp [*] <;> done)))); refine xcA (h2 := (s6)) (hk := ?_))
    refine stxA ?_
    with_reducible refine xz ?_
    refine hK _ _ _ ?_
    clear hK K; intro ν
    repeat (first | with_reducible (first | refine aWp_seq ?_ | refine seq_normal ?_ | refine seq_ret ?_ | refine seq_exit ?_ | refine blk_normal ?_ | refine blk_ret ?_ | refine blk_hit ?_ | refine blk_miss rfl ?_ | refine aWp_ret ?_ | refine aWp_skip ?_ | refine aWp_block ?_ | refine aWp_exit ?_ | refine end_ret ?_ | refine end_normal ?_) | ((refine rgA ?_); intro ν) | ((with_reducible apply cndT); exact rfl; (first | rfl | assumption)) | ((with_reducible apply cndF); exact rfl; (first | rfl | assumption)))
    (first | with_reducible refine end_r ?_ | with_reducible refine end_n ?_); refine en1 ?_
    rfl
end Go.Proofs.Ytikganlbnhapcaa
