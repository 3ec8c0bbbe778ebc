import Derived.Test.YtjfeggkjkdbkiaaWrap1
import Derived.Test.YtjfeggkjkdbkiaaMacE
namespace Go.Proofs.Ytjfeggkjkdbkiaa
open Go.RowKit
set_option linter.unusedVariables false
set_option linter.unusedSimpArgs false
set_option maxRecDepth 20000
/-! wrapped -/
def putW (S x : List UInt8) (a : Nat) : List UInt8 := S.take a ++ x ++ S.drop (a + x.length)
theorem putW_len (S x : List UInt8) (a : Nat) (h : a + x.length ≤ S.length) : (putW S x a).length = S.length := by
  unfold putW; simp; omega
def atW (n t : Nat) : Nat := 8 * (1 + t % n)
def wrS (E : List UInt8 → List UInt8) (n : Nat) (S : List UInt8) (t : Nat) : List UInt8 :=
  putW (putW S ((cntB (E (S.take 8 ++ (S.drop (atW n t)).take 8)) ((t + 1 : Nat) : Int)).take 8) 0) ((cntB (E (S.take 8 ++ (S.drop (atW n t)).take 8)) ((t + 1 : Nat) : Int)).drop 8) (atW n t)
def wrN (E : List UInt8 → List UInt8) (n : Nat) (S : List UInt8) : Nat → List UInt8
  | 0 => S
  | t + 1 => wrS E n (wrN E n S t) t
theorem atW_le {n t : Nat} (hn : 0 < n) : atW n t + 8 ≤ 8 * (n + 1) ∧ 8 ≤ atW n t := by
  unfold atW; have := Nat.mod_lt t hn; omega
theorem wrS_len {E : List UInt8 → List UInt8} (hE : ∀ x, x.length = 16 → (E x).length = 16) {n : Nat} (hn : 0 < n) {S : List UInt8} (hS : S.length = 8 * (n + 1)) (t : Nat) : (wrS E n S t).length = 8 * (n + 1) := by
  have ha := atW_le (t := t) hn
  have hx : (S.take 8 ++ (S.drop (atW n t)).take 8).length = 16 := by simp; omega
  have hy := cntB_len (E (S.take 8 ++ (S.drop (atW n t)).take 8)) ((t + 1 : Nat) : Int)
  rw [hE _ hx] at hy
  unfold wrS
  have h1 : (putW S ((cntB (E (S.take 8 ++ (S.drop (atW n t)).take 8)) ((t + 1 : Nat) : Int)).take 8) 0).length = S.length := putW_len _ _ _ (by rw [List.length_take]; omega)
  rw [putW_len _ _ _ (by rw [h1, List.length_drop]; omega), h1, hS]
theorem wrN_len {E : List UInt8 → List UInt8} (hE : ∀ x, x.length = 16 → (E x).length = 16) {n : Nat} (hn : 0 < n) {S : List UInt8} (hS : S.length = 8 * (n + 1)) (t : Nat) : (wrN E n S t).length = 8 * (n + 1) := by
  induction t with
  | zero => exact hS
  | succ t ih => exact wrS_len hE hn ih t
def wrapB (E : List UInt8 → List UInt8) (b : List UInt8) : List UInt8 := wrN E (b.length / 8) (a6 ++ b) (6 * (b.length / 8))
theorem clipW_spec (full : Bool) (n : Nat) (cs : List AV) (hl : cs.length = n) : Spec Try.prog 35 [.sl full n cs] (.k (.sl true n cs)) := by
  refine spec_of (fun _ => false) (by kernel_rfl) Try.func35 rfl rfl (by simp [Try.ntmps35]) (by decide) ?_
  intro δ
  rw [init1]
  repeat (first | with_reducible (first | refine aWp_seq ?_ | refine seq_normal ?_ | refine seq_ret ?_ | refine seq_exit ?_ | refine blk_normal ?_ | refine blk_ret ?_ | refine blk_hit ?_ | refine blk_miss rfl ?_ | refine aWp_ret ?_ | refine aWp_skip ?_ | refine aWp_block ?_ | refine aWp_exit ?_ | refine end_ret ?_ | refine end_normal ?_) | ((refine rgA ?_); intro ν) | ((with_reducible apply cndT); exact rfl; (first | rfl | assumption)) | ((with_reducible apply cndF); exact rfl; (first | rfl | assumption)))
  (first | with_reducible refine end_r ?_ | with_reducible refine end_n ?_); refine en1 ?_
  rw [List.take_of_length_le (by omega)]
theorem ld_arrW {n : Nat} {e : TypeId} {sz : Nat} (cs : List AV) (h : cs.length = sz) : ldAgg (.arr n e) sz cs = some (.agg cs) := by
  have := ld_arr (n := n) (e := e) cs h
  rwa [List.drop_zero] at this
theorem aBytes_put (S x : List UInt8) (a : Nat) : List.take a (aOfBytes S) ++ aOfBytes x ++ List.drop (a + x.length) (aOfBytes S) = aOfBytes (putW S x a) := by
  rw [putW, aOfBytes_append, aOfBytes_append, bytes_take', bytes_drop']
set_option maxHeartbeats 16000000 in
theorem wrap_walk (fk fb : Bool) (key b : List UInt8) (C : List AV) (E : List UInt8 → List UInt8) (hE : ∀ x, x.length = 16 → (E x).length = 16) (hp : partsN b.length 0 ≠ 0)
    (s1 : Spec Try.prog 45 [.sl fk key.length (aOfBytes key)] (.k (.tup [.cp C, .int .i64 0])))
    (s2 : ∀ x, x.length = 16 → Spec Try.prog 48 [.cp C, .agg (aOfBytes x)] (.k (.agg (aOfBytes (E x))))) :
    Spec Try.prog 22 [.sl fk key.length (aOfBytes key), .sl fb b.length (aOfBytes b)] (.k (.tup [.sl true (wrapB E b).length (aOfBytes (wrapB E b)), .int .i64 0])) := by
  obtain ⟨n, hn⟩ : ∃ n, n = b.length / 8 := ⟨_, rfl⟩
  have hb8 : b.length = 8 * n ∧ 2 ≤ n ∧ n ≤ 32 ∧ partsN b.length 0 = n := by
    unfold partsN at hp ⊢
    split at hp
    · rename_i q; rw [if_pos q]; omega
    · omega
  obtain ⟨hbl, hn2, hn32, hpn⟩ := hb8
  have hba := aOfBytes_len b
  have s3 := parts_spec fb b 0 (by omega) (by omega)
  rw [hpn] at s3
  have s4 := first_spec
  have hal : a6.length = 8 := rfl
  have s5 := concatBO_spec false [(false, a6), (fb, b)] (by simp; omega) (by simp; omega) (by simp)
  simp only [pCells, pB, Part.av, List.map_cons, List.map_nil, List.flatMap_cons, List.flatMap_nil, List.append_nil, List.length_cons, List.length_nil, Nat.reduceAdd, aOfBytes_len] at s5
  have hwN := wrN_len hE (n := n) (by omega) (S := a6 ++ b) (by rw [List.length_append, hal]; omega)
  have hfin : wrapB E b = wrN E n (a6 ++ b) (6 * n) := by rw [wrapB, ← hn]
  rw [hfin]
  have hSl : (a6 ++ b).length = 8 * (n + 1) := hwN 0
  have h0 : a6 ++ b = wrN E n (a6 ++ b) 0 := rfl
  rw [hSl, hal] at s5
  obtain ⟨N, hN⟩ : ∃ N, N = 8 * (n + 1) := ⟨_, rfl⟩
  rw [← hN] at s5 hwN
  have hnx : ∀ t, wrN E n (a6 ++ b) (t + 1) = wrS E n (wrN E n (a6 ++ b) t) t := fun t => rfl
  rw [h0] at s5
  generalize wrN E n (a6 ++ b) = wn at *
  have h6n : 6 * (n : Int) = ((6 * n : Nat) : Int) := by omega
  refine spec_of (fun t => t == 29) (by kernel_rfl) Try.func22 rfl rfl (by simp [Try.ntmps22]) (by decide) ?_
  intro δ
  rw [init2]
  repeat (first | with_reducible (first | refine aWp_seq ?_ | refine seq_normal ?_ | refine seq_ret ?_ | refine seq_exit ?_ | refine blk_normal ?_ | refine blk_ret ?_ | refine blk_hit ?_ | refine blk_miss rfl ?_ | refine aWp_ret ?_ | refine aWp_skip ?_ | refine aWp_block ?_ | refine aWp_exit ?_ | refine end_ret ?_ | refine end_normal ?_) | ((refine rgA ?_); intro ν) | ((with_reducible apply cndT); exact rfl; (first | rfl | assumption)) | ((with_reducible apply cndF); exact rfl; (first | rfl | assumption)))
  refine rg fun K hK => ?_
  refine stA ?_
  (first | with_reducible refine g0 ?_ | ((with_reducible refine g1 ?_ ?_); (with_reducible apply gt_); exact rfl; exact rfl; (first | rfl | assumption | (simp [*] <;> done)))); refine scA (h2 := (s1)) (hk := ?_)
  refine stA ?_
  with_reducible refine rz ?_
  refine hK _ _ _ ?_
  clear hK K; intro ν
  repeat (first | with_reducible (first | refine aWp_seq ?_ | refine seq_normal ?_ | refine seq_ret ?_ | refine seq_exit ?_ | refine blk_normal ?_ | refine blk_ret ?_ | refine blk_hit ?_ | refine blk_miss rfl ?_ | refine aWp_ret ?_ | refine aWp_skip ?_ | refine aWp_block ?_ | refine aWp_exit ?_ | refine end_ret ?_ | refine end_normal ?_) | ((refine rgA ?_); intro ν) | ((with_reducible apply cndT); exact rfl; (first | rfl | assumption)) | ((with_reducible apply cndF); exact rfl; (first | rfl | assumption)))
  refine rg fun K hK => ?_
  refine stA ?_
  (first | with_reducible refine g0 ?_ | ((with_reducible refine g1 ?_ ?_); (with_reducible apply gt_); exact rfl; exact rfl; (first | rfl | assumption | (simp [*] <;> done)))); refine scA (h2 := (s3)) (hk := ?_)
  refine stA ?_
  with_reducible refine rz ?_
  refine hK _ _ _ ?_
  clear hK K; intro ν
  repeat (first | with_reducible (first | refine aWp_seq ?_ | refine seq_normal ?_ | refine seq_ret ?_ | refine seq_exit ?_ | refine blk_normal ?_ | refine blk_ret ?_ | refine blk_hit ?_ | refine blk_miss rfl ?_ | refine aWp_ret ?_ | refine aWp_skip ?_ | refine aWp_block ?_ | refine aWp_exit ?_ | refine end_ret ?_ | refine end_normal ?_) | ((refine rgA ?_); intro ν) | ((with_reducible apply cndT); exact rfl; (first | rfl | assumption)) | ((with_reducible apply cndF); exact rfl; (first | rfl | assumption)))
  refine rg fun K hK => ?_
  refine stA ?_
  (first | with_reducible refine g0 ?_ | ((with_reducible refine g1 ?_ ?_); (with_reducible apply gt_); exact rfl; exact rfl; (first | rfl | assumption | (simp [*] <;> done)))); refine scA (h2 := (s4)) (hk := ?_)
  refine stA ?_
  (first | with_reducible refine g0 ?_ | ((with_reducible refine g1 ?_ ?_); (with_reducible apply gt_); exact rfl; exact rfl; (first | rfl | assumption | (simp [*] <;> done)))); refine scA (h2 := (s5)) (hk := ?_)
  refine stA ?_
  with_reducible refine rz ?_
  refine hK _ _ _ ?_
  clear hK K; intro ν
  repeat with_reducible (first | refine aWp_seq ?_ | refine seq_normal ?_ | refine seq_ret ?_ | refine seq_exit ?_ | refine blk_normal ?_ | refine blk_ret ?_ | refine blk_hit ?_ | refine blk_miss rfl ?_ | refine aWp_ret ?_ | refine aWp_skip ?_ | refine aWp_block ?_ | refine aWp_exit ?_ | refine end_ret ?_ | refine end_normal ?_)
  refine rgA ?_
  intro ν
  rw [h6n]
  repeat (first | with_reducible (first | refine aWp_seq ?_ | refine seq_normal ?_ | refine seq_ret ?_ | refine seq_exit ?_ | refine blk_normal ?_ | refine blk_ret ?_ | refine blk_hit ?_ | refine blk_miss rfl ?_ | refine aWp_ret ?_ | refine aWp_skip ?_ | refine aWp_block ?_ | refine aWp_exit ?_ | refine end_ret ?_ | refine end_normal ?_) | ((refine rgA ?_); intro ν) | ((with_reducible apply cndT); exact rfl; (first | rfl | assumption)) | ((with_reducible apply cndF); exact rfl; (first | rfl | assumption)))
  refine aWp_loop (fun m s => ∃ F T ν t g, m = 6 * n - t ∧ t ≤ 6 * n ∧ s = ⟨F, T, ν, ⟨fun t => t == 29, δ, false⟩⟩ ∧ F 6 = .k (.cp C) ∧ F 8 = .k (.int .i64 (n : Nat)) ∧ F 9 = .os 29 g 0 N N ∧ F 31 = .k (.int .i64 ((6 * n : Nat) : Int)) ∧ F 32 = .k (.int .i64 (t : Nat)) ∧ T 29 = some (g, .obj (aOfBytes (wn t)))) (6 * n) ⟨_, _, _, 0, _, rfl, Nat.zero_le _, rfl, rfl, rfl, rfl, rfl, rfl, rfl⟩ ?_
  rintro m s ⟨F, T, ν, t, g, rfl, ht, rfl, f6, f8, f9, f31, f32, t29⟩
  rw [has5 f6 f8 f9 f31 f32, has1 t29]
  have hSl := hwN t
  have hSa := aOfBytes_len (wn t)
  by_cases hlt : t < 6 * n
  · have hnx := hnx t
    have hnl := hwN (t + 1)
    generalize hnS : wn (t + 1) = S' at *
    generalize wn t = S at *
    have hat := atW_le (t := t) (show 0 < n by omega)
    have haI : 8 * (1 + (t : Int) % (n : Int)) = ((atW n t : Nat) : Int) := by unfold atW; push_cast; rfl
    rw [wrS] at hnx
    generalize atW n t = at_ at *
    have hxl : (S.take 8 ++ (S.drop at_).take 8).length = 16 := by simp; omega
    have s6 := concatBO_spec false [(false, S.take 8), (false, (S.drop at_).take 8)] (by simp; omega) (by simp; omega) (by simp)
    simp only [pCells, pB, Part.av, List.map_cons, List.map_nil, List.flatMap_cons, List.flatMap_nil, List.append_nil, List.length_cons, List.length_nil, Nat.reduceAdd, aOfBytes_len] at s6
    rw [hxl, show (S.take 8).length = 8 by simp; omega, show ((S.drop at_).take 8).length = 8 by simp; omega, bytes_take', bytes_take', bytes_drop'] at s6
    have s7 := s2 _ hxl
    have hEl := hE _ hxl
    have e2 : ((at_ : Int) + 8).toNat - at_ = 8 := by omega
    generalize S.take 8 ++ (S.drop at_).take 8 = X at *
    have hXa := aOfBytes_len X
    have lX := ld_arrW (n := 16) (e := 5) (aOfBytes X) (sz := 16) (by omega)
    have s8 := count_spec (E X) ((t + 1 : Nat) : Int) 16 (by omega) (by omega)
    have hyl := cntB_len (E X) ((t + 1 : Nat) : Int)
    rw [hEl] at hyl
    generalize cntB (E X) ((t + 1 : Nat) : Int) = Y at *
    have hEa := aOfBytes_len (E X)
    generalize E X = Z at *
    have hYa := aOfBytes_len Y
    repeat with_reducible (first | refine aWp_seq ?_ | refine seq_normal ?_ | refine seq_ret ?_ | refine seq_exit ?_ | refine blk_normal ?_ | refine blk_ret ?_ | refine blk_hit ?_ | refine blk_miss rfl ?_ | refine aWp_ret ?_ | refine aWp_skip ?_ | refine aWp_block ?_ | refine aWp_exit ?_ | refine end_ret ?_ | refine end_normal ?_)
    refine rgA ?_
    intro ν
    repeat with_reducible (first | refine aWp_seq ?_ | refine seq_normal ?_ | refine seq_ret ?_ | refine seq_exit ?_ | refine blk_normal ?_ | refine blk_ret ?_ | refine blk_hit ?_ | refine blk_miss rfl ?_ | refine aWp_ret ?_ | refine aWp_skip ?_ | refine aWp_block ?_ | refine aWp_exit ?_ | refine end_ret ?_ | refine end_normal ?_)
    (with_reducible apply cndT); exact rfl; (first | rfl | assumption | (simp [*] <;> done))
    repeat with_reducible (first | refine aWp_seq ?_ | refine seq_normal ?_ | refine seq_ret ?_ | refine seq_exit ?_ | refine blk_normal ?_ | refine blk_ret ?_ | refine blk_hit ?_ | refine blk_miss rfl ?_ | refine aWp_ret ?_ | refine aWp_skip ?_ | refine aWp_block ?_ | refine aWp_exit ?_ | refine end_ret ?_ | refine end_normal ?_)
    refine rgA ?_
    intro ν
    repeat with_reducible (first | refine aWp_seq ?_ | refine seq_normal ?_ | refine seq_ret ?_ | refine seq_exit ?_ | refine blk_normal ?_ | refine blk_ret ?_ | refine blk_hit ?_ | refine blk_miss rfl ?_ | refine aWp_ret ?_ | refine aWp_skip ?_ | refine aWp_block ?_ | refine aWp_exit ?_ | refine end_ret ?_ | refine end_normal ?_)
    refine rgA ?_
    intro ν
    rw [haI]
    repeat with_reducible (first | refine aWp_seq ?_ | refine seq_normal ?_ | refine seq_ret ?_ | refine seq_exit ?_ | refine blk_normal ?_ | refine blk_ret ?_ | refine blk_hit ?_ | refine blk_miss rfl ?_ | refine aWp_ret ?_ | refine aWp_skip ?_ | refine aWp_block ?_ | refine aWp_exit ?_ | refine end_ret ?_ | refine end_normal ?_)
    refine rgx [(9,[29],[49]),(14,[12],[12])] (by kernel_rfl) fun K hK => ?_
    refine stxA ?_
    rw [e2]
    ((first | ((with_reducible refine x0 ?_ ?_); exact rfl) | ((with_reducible refine x1 ?_ ?_ ?_); exact rfl; (with_reducible apply gt_); exact rfl; exact rfl; (first | rfl | assumption | (simp [*] <;> done)))); refine xcA (h2 := (s6)) (hk := ?_))
    refine stxA ?_
    ((first | ((with_reducible refine x0 ?_ ?_); exact rfl) | ((with_reducible refine x1 ?_ ?_ ?_); exact rfl; (with_reducible apply gt_); exact rfl; exact rfl; (first | rfl | assumption | (simp [*] <;> done)))); refine xcA (h2 := (s7)) (hk := ?_))
    refine stxA ?_
    with_reducible refine xz ?_
    refine hK _ _ _ ?_
    clear hK K; intro ν
    rw [drop_rep, List.append_nil]
    repeat with_reducible (first | refine aWp_seq ?_ | refine seq_normal ?_ | refine seq_ret ?_ | refine seq_exit ?_ | refine blk_normal ?_ | refine blk_ret ?_ | refine blk_hit ?_ | refine blk_miss rfl ?_ | refine aWp_ret ?_ | refine aWp_skip ?_ | refine aWp_block ?_ | refine aWp_exit ?_ | refine end_ret ?_ | refine end_normal ?_)
    refine rg fun K hK => ?_
    refine stA ?_
    (first | with_reducible refine g0 ?_ | ((with_reducible refine g1 ?_ ?_); (with_reducible apply gt_); exact rfl; exact rfl; (first | rfl | assumption | (simp [*] <;> done)))); (first | refine smA (h2 := (s8)) (e := 12) (hk := ?_) | refine smA0 (h2 := (s8)) (e := 12) (hk := ?_) | refine smN (h2 := (s8)) (e := 12) (hk := ?_))
    refine stA ?_
    with_reducible refine rz ?_
    refine hK _ _ _ ?_
    clear hK K; intro ν
    repeat with_reducible (first | refine aWp_seq ?_ | refine seq_normal ?_ | refine seq_ret ?_ | refine seq_exit ?_ | refine blk_normal ?_ | refine blk_ret ?_ | refine blk_hit ?_ | refine blk_miss rfl ?_ | refine aWp_ret ?_ | refine aWp_skip ?_ | refine aWp_block ?_ | refine aWp_exit ?_ | refine end_ret ?_ | refine end_normal ?_)
    refine rgA ?_
    intro ν
    have hc1 : List.take N (List.take 8 (aOfBytes Y)) ++ List.drop 8 (aOfBytes S) = aOfBytes (putW S (Y.take 8) 0) := by
      rw [List.take_of_length_le (by rw [List.length_take]; omega), ← bytes_take', ← bytes_drop', ← aOfBytes_append, putW, List.take_zero, List.nil_append, List.length_take, hyl]; rfl
    have hS1l := putW_len S (Y.take 8) 0 (by rw [List.length_take]; omega)
    rw [hc1]
    have hnx2 := aBytes_put (putW S (Y.take 8) 0) (Y.drop 8) at_
    rw [← hnx] at hnx2
    generalize putW S (Y.take 8) 0 = S1 at *
    have hS1a := aOfBytes_len S1
    clear hc1
    repeat with_reducible (first | refine aWp_seq ?_ | refine seq_normal ?_ | refine seq_ret ?_ | refine seq_exit ?_ | refine blk_normal ?_ | refine blk_ret ?_ | refine blk_hit ?_ | refine blk_miss rfl ?_ | refine aWp_ret ?_ | refine aWp_skip ?_ | refine aWp_block ?_ | refine aWp_exit ?_ | refine end_ret ?_ | refine end_normal ?_)
    refine rgxA [(4,[29,12],[29,12])] ?_
    intro ν
    have hdl : (Y.drop 8).length = 8 := by rw [List.length_drop]; omega
    have hda := aOfBytes_len (Y.drop 8)
    rw [← bytes_drop', List.take_of_length_le (show (aOfBytes (Y.drop 8)).length ≤ 8 by omega), List.take_of_length_le (show (aOfBytes (Y.drop 8)).length ≤ N - at_ by omega)]
    rw [hdl] at hnx2
    rw [hnx2]
    repeat (first | with_reducible (first | refine aWp_seq ?_ | refine seq_normal ?_ | refine seq_ret ?_ | refine seq_exit ?_ | refine blk_normal ?_ | refine blk_ret ?_ | refine blk_hit ?_ | refine blk_miss rfl ?_ | refine aWp_ret ?_ | refine aWp_skip ?_ | refine aWp_block ?_ | refine aWp_exit ?_ | refine end_ret ?_ | refine end_normal ?_) | ((refine rgA ?_); intro ν) | ((with_reducible apply cndT); exact rfl; (first | rfl | assumption)) | ((with_reducible apply cndF); exact rfl; (first | rfl | assumption)))
    refine ⟨6 * n - (t + 1), by omega, _, _, _, t + 1, _, rfl, by omega, rfl, rfl, rfl, rfl, rfl, ?_, ?_⟩
    · show (SV.k (.int .i64 ((t : Int) + 1)) : SV) = _
      rw [Int.natCast_succ]
    · exact congrArg (fun q => some (g, Ent.obj (aOfBytes q))) hnS.symm
  · have hte : t = 6 * n := by omega
    subst hte
    generalize wn (6 * n) = S at *
    have s9 := clipW_spec false N (aOfBytes S) (by omega)
    repeat with_reducible (first | refine aWp_seq ?_ | refine seq_normal ?_ | refine seq_ret ?_ | refine seq_exit ?_ | refine blk_normal ?_ | refine blk_ret ?_ | refine blk_hit ?_ | refine blk_miss rfl ?_ | refine aWp_ret ?_ | refine aWp_skip ?_ | refine aWp_block ?_ | refine aWp_exit ?_ | refine end_ret ?_ | refine end_normal ?_)
    refine rg fun K hK => ?_
    refine stA ?_
    refine rzs (t := 9) rfl rfl ?_
    refine hK _ _ _ ?_
    clear hK K; intro ν
    repeat (first | with_reducible (first | refine aWp_seq ?_ | refine seq_normal ?_ | refine seq_ret ?_ | refine seq_exit ?_ | refine blk_normal ?_ | refine blk_ret ?_ | refine blk_hit ?_ | refine blk_miss rfl ?_ | refine aWp_ret ?_ | refine aWp_skip ?_ | refine aWp_block ?_ | refine aWp_exit ?_ | refine end_ret ?_ | refine end_normal ?_) | ((refine rgA ?_); intro ν) | ((with_reducible apply cndT); exact rfl; (first | rfl | assumption)) | ((with_reducible apply cndF); exact rfl; (first | rfl | assumption)))
    refine rg fun K hK => ?_
    refine stA ?_
    (first | with_reducible refine g0 ?_ | ((with_reducible refine g1 ?_ ?_); (with_reducible apply gt_); exact rfl; exact rfl; (first | rfl | assumption | (simp [*] <;> done)))); refine scA (h2 := (s9)) (hk := ?_)
    refine stA ?_
    with_reducible refine rz ?_
    refine hK _ _ _ ?_
    clear hK K; intro ν
    repeat (first | with_reducible (first | refine aWp_seq ?_ | refine seq_normal ?_ | refine seq_ret ?_ | refine seq_exit ?_ | refine blk_normal ?_ | refine blk_ret ?_ | refine blk_hit ?_ | refine blk_miss rfl ?_ | refine aWp_ret ?_ | refine aWp_skip ?_ | refine aWp_block ?_ | refine aWp_exit ?_ | refine end_ret ?_ | refine end_normal ?_) | ((refine rgA ?_); intro ν) | ((with_reducible apply cndT); exact rfl; (first | rfl | assumption)) | ((with_reducible apply cndF); exact rfl; (first | rfl | assumption)))
    (first | with_reducible refine end_r ?_ | with_reducible refine end_n ?_); refine en2 ?_
    rw [hSl]
end Go.Proofs.Ytjfeggkjkdbkiaa
