import Derived.Test.YtjfeggkjkdbkiaaWrap2
import Derived.Test.YtjfeggkjkdbkiaaNews
namespace Go.Proofs.Ytjfeggkjkdbkiaa
open Go.RowKit
set_option linter.unusedVariables false
set_option linter.unusedSimpArgs false
set_option maxRecDepth 20000
/-! unwrapped -/
def unS (D : List UInt8 → List UInt8) (n : Nat) (S : List UInt8) (t : Nat) : List UInt8 :=
  putW (putW (cntB S ((t + 1 : Nat) : Int)) ((D ((cntB S ((t + 1 : Nat) : Int)).take 8 ++ ((cntB S ((t + 1 : Nat) : Int)).drop (atW n t)).take 8)).take 8) 0) ((D ((cntB S ((t + 1 : Nat) : Int)).take 8 ++ ((cntB S ((t + 1 : Nat) : Int)).drop (atW n t)).take 8)).drop 8) (atW n t)
def unN (D : List UInt8 → List UInt8) (n : Nat) (S : List UInt8) : Nat → List UInt8
  | 0 => S
  | k + 1 => unS D n (unN D n S k) (6 * n - 1 - k)
theorem unS_len {D : List UInt8 → List UInt8} (hD : ∀ x, x.length = 16 → (D x).length = 16) {n : Nat} (hn : 0 < n) {S : List UInt8} (hS : S.length = 8 * (n + 1)) (t : Nat) : (unS D n S t).length = 8 * (n + 1) := by
  have ha := atW_le (t := t) hn
  have hc := cntB_len S ((t + 1 : Nat) : Int)
  have hx : ((cntB S ((t + 1 : Nat) : Int)).take 8 ++ ((cntB S ((t + 1 : Nat) : Int)).drop (atW n t)).take 8).length = 16 := by
    rw [List.length_append, List.length_take, List.length_take, List.length_drop, hc]; omega
  have hy := hD _ hx
  unfold unS
  have h1 : (putW (cntB S ((t + 1 : Nat) : Int)) ((D ((cntB S ((t + 1 : Nat) : Int)).take 8 ++ ((cntB S ((t + 1 : Nat) : Int)).drop (atW n t)).take 8)).take 8) 0).length = S.length := by rw [putW_len _ _ _ (by rw [List.length_take]; omega), hc]
  rw [putW_len _ _ _ (by rw [h1, List.length_drop]; omega), h1, hS]
theorem unN_len {D : List UInt8 → List UInt8} (hD : ∀ x, x.length = 16 → (D x).length = 16) {n : Nat} (hn : 0 < n) {S : List UInt8} (hS : S.length = 8 * (n + 1)) (t : Nat) : (unN D n S t).length = 8 * (n + 1) := by
  induction t with
  | zero => exact hS
  | succ t ih => exact unS_len hD hn ih _
def unwrapB (D : List UInt8 → List UInt8) (w : List UInt8) : Option (List UInt8) :=
  if (unN D (w.length / 8 - 1) w (6 * (w.length / 8 - 1))).take 8 = a6 then some ((unN D (w.length / 8 - 1) w (6 * (w.length / 8 - 1))).drop 8) else none
def unR : Option (List UInt8) → AV
  | some x => .tup [.sl false x.length (aOfBytes x), .int .i64 0]
  | none => .tup [.sl true 0 [], .int .i64 8]
theorem cloneN_spec (full : Bool) (n : Nat) (cs : List AV) (h0 : 0 < n) (hl : cs.length = n) (hb : n ≤ 16777216) : Spec Try.prog 36 [.sl full n cs] (.news n cs) := by
  refine spec_of_news (fun t => t == 5 || t == 7) (by kernel_rfl) Try.func36 rfl rfl (by simp [Try.ntmps36]) (by decide) ?_
  intro δ
  rw [init1]
  repeat (first | with_reducible (first | refine aWp_seq ?_ | refine seq_normal ?_ | refine seq_ret ?_ | refine seq_exit ?_ | refine blk_normal ?_ | refine blk_ret ?_ | refine blk_hit ?_ | refine blk_miss rfl ?_ | refine aWp_ret ?_ | refine aWp_skip ?_ | refine aWp_block ?_ | refine aWp_exit ?_ | refine end_ret ?_ | refine end_normal ?_) | ((refine rgA ?_); intro ν) | ((with_reducible apply cndT); exact rfl; (first | rfl | assumption)) | ((with_reducible apply cndF); exact rfl; (first | rfl | assumption)))
  (first | with_reducible refine end_r ?_ | with_reducible refine end_n ?_)
  exact ⟨_, _, _, _, rfl, rfl, rfl⟩
set_option maxHeartbeats 16000000 in
theorem unwrap_walk (fk fb : Bool) (key b : List UInt8) (C : List AV) (D : List UInt8 → List UInt8) (hD : ∀ x, x.length = 16 → (D x).length = 16) (hp : partsN b.length 1 ≠ 0)
    (s1 : Spec Try.prog 45 [.sl fk key.length (aOfBytes key)] (.k (.tup [.cp C, .int .i64 0])))
    (s2 : ∀ x, x.length = 16 → Spec Try.prog 52 [.cp C, .agg (aOfBytes x)] (.k (.agg (aOfBytes (D x))))) :
    Spec Try.prog 26 [.sl fk key.length (aOfBytes key), .sl fb b.length (aOfBytes b)] (.k (unR (unwrapB D b))) := by
  obtain ⟨n, hn⟩ : ∃ n, n = b.length / 8 - 1 := ⟨_, rfl⟩
  have hb8 : b.length = 8 * (n + 1) ∧ 2 ≤ n ∧ n ≤ 32 ∧ partsN b.length 1 = n := by
    unfold partsN at hp ⊢
    split at hp
    · rename_i q; rw [if_pos q]; omega
    · omega
  obtain ⟨hbl, hn2, hn32, hpn⟩ := hb8
  have hba := aOfBytes_len b
  have s3 := parts_spec fb b 1 (by omega) (by omega)
  rw [hpn] at s3
  have hal : a6.length = 8 := rfl
  have s4 := cloneN_spec fb b.length (aOfBytes b) (by omega) (by omega) (by omega)
  have hwN := unN_len hD (n := n) (by omega) (S := b) hbl
  have hfin : unwrapB D b = if (unN D n b (6 * n)).take 8 = a6 then some ((unN D n b (6 * n)).drop 8) else none := by rw [unwrapB, ← hn]
  rw [hfin]
  have h0 : b = unN D n b 0 := rfl
  obtain ⟨N, hN⟩ : ∃ N, N = 8 * (n + 1) := ⟨_, rfl⟩
  rw [← hN] at hwN
  have hNb : b.length = N := by omega
  have hnx : ∀ k, unN D n b (k + 1) = unS D n (unN D n b k) (6 * n - 1 - k) := fun t => rfl
  obtain ⟨wn, hwn⟩ : ∃ wn, wn = unN D n b := ⟨_, rfl⟩
  rw [← hwn] at h0 hwN hnx ⊢
  have h6n : 6 * (n : Int) - 1 = ((6 * n : Nat) : Int) - 1 - ((0 : Nat) : Int) := by omega
  refine spec_of (fun _ => false) (by kernel_rfl) Try.func26 rfl rfl (by simp [Try.ntmps26]) (by decide) ?_
  intro δ
  rw [init2]
  repeat (first | with_reducible (first | refine aWp_seq ?_ | refine seq_normal ?_ | refine seq_ret ?_ | refine seq_exit ?_ | refine blk_normal ?_ | refine blk_ret ?_ | refine blk_hit ?_ | refine blk_miss rfl ?_ | refine aWp_ret ?_ | refine aWp_skip ?_ | refine aWp_block ?_ | refine aWp_exit ?_ | refine end_ret ?_ | refine end_normal ?_) | ((refine rgA ?_); intro ν) | ((with_reducible apply cndT); exact rfl; (first | rfl | assumption)) | ((with_reducible apply cndF); exact rfl; (first | rfl | assumption)))
  refine rg fun K hK => ?_
  refine stA ?_
  (first | with_reducible refine g0 ?_ | ((with_reducible refine g1 ?_ ?_); (with_reducible apply gt_); exact rfl; exact rfl; (first | rfl | assumption | (simp [*] <;> done)))); refine scA (h2 := (s1)) (hk := ?_)
  refine stA ?_
  with_reducible refine rz ?_
  refine hK _ _ _ ?_
  clear hK K; intro ν
  repeat (first | with_reducible (first | refine aWp_seq ?_ | refine seq_normal ?_ | refine seq_ret ?_ | refine seq_exit ?_ | refine blk_normal ?_ | refine blk_ret ?_ | refine blk_hit ?_ | refine blk_miss rfl ?_ | refine aWp_ret ?_ | refine aWp_skip ?_ | refine aWp_block ?_ | refine aWp_exit ?_ | refine end_ret ?_ | refine end_normal ?_) | ((refine rgA ?_); intro ν) | ((with_reducible apply cndT); exact rfl; (first | rfl | assumption)) | ((with_reducible apply cndF); exact rfl; (first | rfl | assumption)))
  refine rg fun K hK => ?_
  refine stA ?_
  (first | with_reducible refine g0 ?_ | ((with_reducible refine g1 ?_ ?_); (with_reducible apply gt_); exact rfl; exact rfl; (first | rfl | assumption | (simp [*] <;> done)))); refine scA (h2 := (s3)) (hk := ?_)
  refine stA ?_
  with_reducible refine rz ?_
  refine hK _ _ _ ?_
  clear hK K; intro ν
  repeat (first | with_reducible (first | refine aWp_seq ?_ | refine seq_normal ?_ | refine seq_ret ?_ | refine seq_exit ?_ | refine blk_normal ?_ | refine blk_ret ?_ | refine blk_hit ?_ | refine blk_miss rfl ?_ | refine aWp_ret ?_ | refine aWp_skip ?_ | refine aWp_block ?_ | refine aWp_exit ?_ | refine end_ret ?_ | refine end_normal ?_) | ((refine rgA ?_); intro ν) | ((with_reducible apply cndT); exact rfl; (first | rfl | assumption)) | ((with_reducible apply cndF); exact rfl; (first | rfl | assumption)))
  refine rg fun K hK => ?_
  refine stA ?_
  (first | with_reducible refine g0 ?_ | ((with_reducible refine g1 ?_ ?_); (with_reducible apply gt_); exact rfl; exact rfl; (first | rfl | assumption | (simp [*] <;> done)))); refine scA (h2 := (s4)) (hk := ?_)
  refine stA ?_
  with_reducible refine rz ?_
  refine hK _ _ _ ?_
  clear hK K; intro ν
  repeat with_reducible (first | refine aWp_seq ?_ | refine seq_normal ?_ | refine seq_ret ?_ | refine seq_exit ?_ | refine blk_normal ?_ | refine blk_ret ?_ | refine blk_hit ?_ | refine blk_miss rfl ?_ | refine aWp_ret ?_ | refine aWp_skip ?_ | refine aWp_block ?_ | refine aWp_exit ?_ | refine end_ret ?_ | refine end_normal ?_)
  refine rgA ?_
  intro ν
  rw [h6n, hNb]
  clear h6n
  repeat (first | with_reducible (first | refine aWp_seq ?_ | refine seq_normal ?_ | refine seq_ret ?_ | refine seq_exit ?_ | refine blk_normal ?_ | refine blk_ret ?_ | refine blk_hit ?_ | refine blk_miss rfl ?_ | refine aWp_ret ?_ | refine aWp_skip ?_ | refine aWp_block ?_ | refine aWp_exit ?_ | refine end_ret ?_ | refine end_normal ?_) | ((refine rgA ?_); intro ν) | ((with_reducible apply cndT); exact rfl; (first | rfl | assumption)) | ((with_reducible apply cndF); exact rfl; (first | rfl | assumption)))
  refine aWp_loop (fun m s => ∃ F T ν k g, m = 6 * n - k ∧ k ≤ 6 * n ∧ s = ⟨F, T, ν, ⟨fun _ => false, δ, false⟩⟩ ∧ F 6 = .k (.cp C) ∧ F 8 = .k (.int .i64 (n : Nat)) ∧ F 9 = .os 27 g 0 N N ∧ F 10 = .k (.int .i64 (((6 * n : Nat) : Int) - 1 - (k : Nat))) ∧ T 27 = some (g, .obj (aOfBytes (wn k)))) (6 * n) ⟨_, _, _, 0, _, rfl, Nat.zero_le _, rfl, rfl, rfl, rfl, rfl, by rw [← h0]; rfl⟩ ?_
  rintro m s ⟨F, T, ν, k, g, rfl, hk, rfl, f6, f8, f9, f10, t27⟩
  rw [has4 f6 f8 f9 f10, has1 t27]
  have hSl := hwN k
  have hSa := aOfBytes_len (wn k)
  by_cases hlt : k < 6 * n
  · have hnx := hnx k
    have hnl := hwN (k + 1)
    generalize hnS : wn (k + 1) = S' at *
    generalize wn k = S0 at *
    obtain ⟨t, ht⟩ : ∃ t, t = 6 * n - 1 - k := ⟨_, rfl⟩
    have htI : ((6 * n : Nat) : Int) - 1 - (k : Nat) = (t : Int) := by omega
    rw [← ht] at hnx
    have hat := atW_le (t := t) (show 0 < n by omega)
    have haI : 8 * (1 + (t : Int) % (n : Int)) = ((atW n t : Nat) : Int) := by unfold atW; push_cast; rfl
    rw [unS] at hnx
    generalize atW n t = at_ at *
    have s8 := count_spec S0 ((t + 1 : Nat) : Int) N (by omega) (by omega)
    have hcl := cntB_len S0 ((t + 1 : Nat) : Int)
    generalize cntB S0 ((t + 1 : Nat) : Int) = S at *
    have hxl : (S.take 8 ++ (S.drop at_).take 8).length = 16 := by simp; omega
    have s6 := concatBO_spec false [(false, S.take 8), (false, (S.drop at_).take 8)] (by simp; omega) (by simp; omega) (by simp)
    simp only [pCells, pB, Part.av, List.map_cons, List.map_nil, List.flatMap_cons, List.flatMap_nil, List.append_nil, List.length_cons, List.length_nil, Nat.reduceAdd, aOfBytes_len] at s6
    rw [hxl, show (S.take 8).length = 8 by simp; omega, show ((S.drop at_).take 8).length = 8 by simp; omega, bytes_take', bytes_take', bytes_drop'] at s6
    have s7 := s2 _ hxl
    have hEl := hD _ hxl
    have e2 : ((at_ : Int) + 8).toNat - at_ = 8 := by omega
    generalize S.take 8 ++ (S.drop at_).take 8 = X at *
    have hXa := aOfBytes_len X
    have lX := ld_arrW (n := 16) (e := 5) (aOfBytes X) (sz := 16) (by omega)
    generalize D X = Y at *
    have hYa := aOfBytes_len Y
    have hSaa := aOfBytes_len S
    rw [htI]
    repeat with_reducible (first | refine aWp_seq ?_ | refine seq_normal ?_ | refine seq_ret ?_ | refine seq_exit ?_ | refine blk_normal ?_ | refine blk_ret ?_ | refine blk_hit ?_ | refine blk_miss rfl ?_ | refine aWp_ret ?_ | refine aWp_skip ?_ | refine aWp_block ?_ | refine aWp_exit ?_ | refine end_ret ?_ | refine end_normal ?_)
    refine rgA ?_
    intro ν
    repeat with_reducible (first | refine aWp_seq ?_ | refine seq_normal ?_ | refine seq_ret ?_ | refine seq_exit ?_ | refine blk_normal ?_ | refine blk_ret ?_ | refine blk_hit ?_ | refine blk_miss rfl ?_ | refine aWp_ret ?_ | refine aWp_skip ?_ | refine aWp_block ?_ | refine aWp_exit ?_ | refine end_ret ?_ | refine end_normal ?_)
    (with_reducible apply cndT); exact rfl; (first | rfl | assumption | (simp [*] <;> done))
    repeat with_reducible (first | refine aWp_seq ?_ | refine seq_normal ?_ | refine seq_ret ?_ | refine seq_exit ?_ | refine blk_normal ?_ | refine blk_ret ?_ | refine blk_hit ?_ | refine blk_miss rfl ?_ | refine aWp_ret ?_ | refine aWp_skip ?_ | refine aWp_block ?_ | refine aWp_exit ?_ | refine end_ret ?_ | refine end_normal ?_)
    refine rgA ?_
    intro ν
    rw [haI]
    repeat with_reducible (first | refine aWp_seq ?_ | refine seq_normal ?_ | refine seq_ret ?_ | refine seq_exit ?_ | refine blk_normal ?_ | refine blk_ret ?_ | refine blk_hit ?_ | refine blk_miss rfl ?_ | refine aWp_ret ?_ | refine aWp_skip ?_ | refine aWp_block ?_ | refine aWp_exit ?_ | refine end_ret ?_ | refine end_normal ?_)
    refine rg fun K hK => ?_
    refine stA ?_
    (first | with_reducible refine g0 ?_ | ((with_reducible refine g1 ?_ ?_); (with_reducible apply gt_); exact rfl; exact rfl; (first | rfl | assumption | (simp [*] <;> done)))); (first | refine smA (h2 := (s8)) (e := 27) (hk := ?_) | refine smA0 (h2 := (s8)) (e := 27) (hk := ?_) | refine smN (h2 := (s8)) (e := 27) (hk := ?_))
    refine stA ?_
    with_reducible refine rz ?_
    refine hK _ _ _ ?_
    clear hK K; intro ν
    repeat with_reducible (first | refine aWp_seq ?_ | refine seq_normal ?_ | refine seq_ret ?_ | refine seq_exit ?_ | refine blk_normal ?_ | refine blk_ret ?_ | refine blk_hit ?_ | refine blk_miss rfl ?_ | refine aWp_ret ?_ | refine aWp_skip ?_ | refine aWp_block ?_ | refine aWp_exit ?_ | refine end_ret ?_ | refine end_normal ?_)
    refine rgx [(9,[27],[54]),(14,[12],[12])] (by kernel_rfl) fun K hK => ?_
    refine stxA ?_
    rw [e2]
    ((first | ((with_reducible refine x0 ?_ ?_); exact rfl) | ((with_reducible refine x1 ?_ ?_ ?_); exact rfl; (with_reducible apply gt_); exact rfl; exact rfl; (first | rfl | assumption | (simp [*] <;> done)))); refine xcA (h2 := (s6)) (hk := ?_))
    refine stxA ?_
    ((first | ((with_reducible refine x0 ?_ ?_); exact rfl) | ((with_reducible refine x1 ?_ ?_ ?_); exact rfl; (with_reducible apply gt_); exact rfl; exact rfl; (first | rfl | assumption | (simp [*] <;> done)))); refine xcA (h2 := (s7)) (hk := ?_))
    refine stxA ?_
    with_reducible refine xz ?_
    refine hK _ _ _ ?_
    clear hK K; intro ν
    rw [drop_rep, List.append_nil]
    repeat with_reducible (first | refine aWp_seq ?_ | refine seq_normal ?_ | refine seq_ret ?_ | refine seq_exit ?_ | refine blk_normal ?_ | refine blk_ret ?_ | refine blk_hit ?_ | refine blk_miss rfl ?_ | refine aWp_ret ?_ | refine aWp_skip ?_ | refine aWp_block ?_ | refine aWp_exit ?_ | refine end_ret ?_ | refine end_normal ?_)
    refine rgA ?_
    intro ν
    have hc1 : List.take N (List.take 8 (aOfBytes Y)) ++ List.drop 8 (aOfBytes S) = aOfBytes (putW S (Y.take 8) 0) := by
      rw [List.take_of_length_le (by rw [List.length_take]; omega), ← bytes_take', ← bytes_drop', ← aOfBytes_append, putW, List.take_zero, List.nil_append, List.length_take, hEl]; rfl
    have hS1l := putW_len S (Y.take 8) 0 (by rw [List.length_take]; omega)
    rw [hc1]
    have hnx2 := aBytes_put (putW S (Y.take 8) 0) (Y.drop 8) at_
    rw [← hnx] at hnx2
    generalize putW S (Y.take 8) 0 = S1 at *
    have hS1a := aOfBytes_len S1
    clear hc1
    repeat with_reducible (first | refine aWp_seq ?_ | refine seq_normal ?_ | refine seq_ret ?_ | refine seq_exit ?_ | refine blk_normal ?_ | refine blk_ret ?_ | refine blk_hit ?_ | refine blk_miss rfl ?_ | refine aWp_ret ?_ | refine aWp_skip ?_ | refine aWp_block ?_ | refine aWp_exit ?_ | refine end_ret ?_ | refine end_normal ?_)
    refine rgxA [(4,[27,12],[27,12])] ?_
    intro ν
    have hdl : (Y.drop 8).length = 8 := by rw [List.length_drop]; omega
    have hda := aOfBytes_len (Y.drop 8)
    rw [← bytes_drop', List.take_of_length_le (show (aOfBytes (Y.drop 8)).length ≤ 8 by omega), List.take_of_length_le (show (aOfBytes (Y.drop 8)).length ≤ N - at_ by omega)]
    rw [hdl] at hnx2
    rw [hnx2]
    repeat (first | with_reducible (first | refine aWp_seq ?_ | refine seq_normal ?_ | refine seq_ret ?_ | refine seq_exit ?_ | refine blk_normal ?_ | refine blk_ret ?_ | refine blk_hit ?_ | refine blk_miss rfl ?_ | refine aWp_ret ?_ | refine aWp_skip ?_ | refine aWp_block ?_ | refine aWp_exit ?_ | refine end_ret ?_ | refine end_normal ?_) | ((refine rgA ?_); intro ν) | ((with_reducible apply cndT); exact rfl; (first | rfl | assumption)) | ((with_reducible apply cndF); exact rfl; (first | rfl | assumption)))
    refine ⟨6 * n - (k + 1), by omega, _, _, _, k + 1, _, rfl, by omega, rfl, rfl, rfl, rfl, ?_, ?_⟩
    · show (SV.k (.int .i64 ((t : Int) - 1)) : SV) = _
      rw [show (t : Int) - 1 = ((6 * n : Nat) : Int) - 1 - ((k + 1 : Nat) : Int) by omega]
    · exact congrArg (fun q => some (g, Ent.obj (aOfBytes q))) hnS.symm
  · have hte : k = 6 * n := by omega
    subst hte
    generalize wn (6 * n) = S at *
    have s9 := first_spec
    have s10 := fun f => equal_spec f false (S.take 8) a6 (by unfold maxLen; simp; omega)
    rw [show (S.take 8).length = 8 by simp; omega, hal, bytes_take'] at s10
    have s11 := fun f => Spec.news_k (n := N - 8) (bcells_len (S.drop 8) (N - 8) (by simp; omega)) (cloneN_spec f (N - 8) (aOfBytes (S.drop 8)) (by omega) (by rw [aOfBytes_len]; simp; omega) (by omega))
    have hdl : (S.drop 8).length = N - 8 := by simp; omega
    rw [bytes_drop'] at s11
    have hte2 : List.take N (aOfBytes S) = aOfBytes S := List.take_of_length_le (by omega)
    by_cases hq : S.take 8 = a6
    · rw [if_pos hq, unR, hdl, bytes_drop']
      rw [decide_eq_true hq] at s10
      clear hq
      repeat with_reducible (first | refine aWp_seq ?_ | refine seq_normal ?_ | refine seq_ret ?_ | refine seq_exit ?_ | refine blk_normal ?_ | refine blk_ret ?_ | refine blk_hit ?_ | refine blk_miss rfl ?_ | refine aWp_ret ?_ | refine aWp_skip ?_ | refine aWp_block ?_ | refine aWp_exit ?_ | refine end_ret ?_ | refine end_normal ?_)
      refine rg fun K hK => ?_
      refine stA ?_
      refine rzs (t := 9) rfl rfl ?_
      refine hK _ _ _ ?_
      clear hK K; intro ν
      repeat (first | with_reducible (first | refine aWp_seq ?_ | refine seq_normal ?_ | refine seq_ret ?_ | refine seq_exit ?_ | refine blk_normal ?_ | refine blk_ret ?_ | refine blk_hit ?_ | refine blk_miss rfl ?_ | refine aWp_ret ?_ | refine aWp_skip ?_ | refine aWp_block ?_ | refine aWp_exit ?_ | refine end_ret ?_ | refine end_normal ?_) | ((refine rgA ?_); intro ν) | ((with_reducible apply cndT); exact rfl; (first | rfl | assumption)) | ((with_reducible apply cndF); exact rfl; (first | rfl | assumption)))
      refine rgx [] (by kernel_rfl) fun K hK => ?_
      refine stxA ?_
      ((first | ((with_reducible refine x0 ?_ ?_); exact rfl) | ((with_reducible refine x1 ?_ ?_ ?_); exact rfl; (with_reducible apply gt_); exact rfl; exact rfl; (first | rfl | assumption | (simp [*] <;> done)))); refine xcA (h2 := (s9)) (hk := ?_))
      refine stxA ?_
      ((first | ((with_reducible refine x0 ?_ ?_); exact rfl) | ((with_reducible refine x1 ?_ ?_ ?_); exact rfl; (with_reducible apply gt_); exact rfl; exact rfl; (first | rfl | assumption | (simp [*] <;> done)))); refine xcA (h2 := (s10 _)) (hk := ?_))
      refine stxA ?_
      with_reducible refine xz ?_
      refine hK _ _ _ ?_
      clear hK K; intro ν
      repeat (first | with_reducible (first | refine aWp_seq ?_ | refine seq_normal ?_ | refine seq_ret ?_ | refine seq_exit ?_ | refine blk_normal ?_ | refine blk_ret ?_ | refine blk_hit ?_ | refine blk_miss rfl ?_ | refine aWp_ret ?_ | refine aWp_skip ?_ | refine aWp_block ?_ | refine aWp_exit ?_ | refine end_ret ?_ | refine end_normal ?_) | ((refine rgA ?_); intro ν) | ((with_reducible apply cndT); exact rfl; (first | rfl | assumption)) | ((with_reducible apply cndF); exact rfl; (first | rfl | assumption)))
      rw [← hte2] at s11
      refine rg fun K hK => ?_
      refine stA ?_
      (first | with_reducible refine g0 ?_ | ((with_reducible refine g1 ?_ ?_); (with_reducible apply gt_); exact rfl; exact rfl; (first | rfl | assumption | (simp [*] <;> done)))); refine scA (h2 := (s11 _)) (hk := ?_)
      refine stA ?_
      with_reducible refine rz ?_
      refine hK _ _ _ ?_
      clear hK K; intro ν
      repeat (first | with_reducible (first | refine aWp_seq ?_ | refine seq_normal ?_ | refine seq_ret ?_ | refine seq_exit ?_ | refine blk_normal ?_ | refine blk_ret ?_ | refine blk_hit ?_ | refine blk_miss rfl ?_ | refine aWp_ret ?_ | refine aWp_skip ?_ | refine aWp_block ?_ | refine aWp_exit ?_ | refine end_ret ?_ | refine end_normal ?_) | ((refine rgA ?_); intro ν) | ((with_reducible apply cndT); exact rfl; (first | rfl | assumption)) | ((with_reducible apply cndF); exact rfl; (first | rfl | assumption)))
      (first | with_reducible refine end_r ?_ | with_reducible refine end_n ?_); refine en2 ?_
      rw [hte2]
    · rw [if_neg hq, unR]
      rw [decide_eq_false hq] at s10
      clear hq
      repeat with_reducible (first | refine aWp_seq ?_ | refine seq_normal ?_ | refine seq_ret ?_ | refine seq_exit ?_ | refine blk_normal ?_ | refine blk_ret ?_ | refine blk_hit ?_ | refine blk_miss rfl ?_ | refine aWp_ret ?_ | refine aWp_skip ?_ | refine aWp_block ?_ | refine aWp_exit ?_ | refine end_ret ?_ | refine end_normal ?_)
      refine rg fun K hK => ?_
      refine stA ?_
      refine rzs (t := 9) rfl rfl ?_
      refine hK _ _ _ ?_
      clear hK K; intro ν
      repeat (first | with_reducible (first | refine aWp_seq ?_ | refine seq_normal ?_ | refine seq_ret ?_ | refine seq_exit ?_ | refine blk_normal ?_ | refine blk_ret ?_ | refine blk_hit ?_ | refine blk_miss rfl ?_ | refine aWp_ret ?_ | refine aWp_skip ?_ | refine aWp_block ?_ | refine aWp_exit ?_ | refine end_ret ?_ | refine end_normal ?_) | ((refine rgA ?_); intro ν) | ((with_reducible apply cndT); exact rfl; (first | rfl | assumption)) | ((with_reducible apply cndF); exact rfl; (first | rfl | assumption)))
      refine rgx [] (by kernel_rfl) fun K hK => ?_
      refine stxA ?_
      ((first | ((with_reducible refine x0 ?_ ?_); exact rfl) | ((with_reducible refine x1 ?_ ?_ ?_); exact rfl; (with_reducible apply gt_); exact rfl; exact rfl; (first | rfl | assumption | (simp [*] <;> done)))); refine xcA (h2 := (s9)) (hk := ?_))
      refine stxA ?_
      ((first | ((with_reducible refine x0 ?_ ?_); exact rfl) | ((with_reducible refine x1 ?_ ?_ ?_); exact rfl; (with_reducible apply gt_); exact rfl; exact rfl; (first | rfl | assumption | (simp [*] <;> done)))); refine xcA (h2 := (s10 _)) (hk := ?_))
      refine stxA ?_
      with_reducible refine xz ?_
      refine hK _ _ _ ?_
      clear hK K; intro ν
      repeat (first | with_reducible (first | refine aWp_seq ?_ | refine seq_normal ?_ | refine seq_ret ?_ | refine seq_exit ?_ | refine blk_normal ?_ | refine blk_ret ?_ | refine blk_hit ?_ | refine blk_miss rfl ?_ | refine aWp_ret ?_ | refine aWp_skip ?_ | refine aWp_block ?_ | refine aWp_exit ?_ | refine end_ret ?_ | refine end_normal ?_) | ((refine rgA ?_); intro ν) | ((with_reducible apply cndT); exact rfl; (first | rfl | assumption)) | ((with_reducible apply cndF); exact rfl; (first | rfl | assumption)))
      (first | with_reducible refine end_r ?_ | with_reducible refine end_n ?_); refine en2 ?_
      rfl
end Go.Proofs.Ytjfeggkjkdbkiaa
