import Derived.Test.YtjfeggkjkdbkiaaAes3
namespace Go.Proofs.Ytjfeggkjkdbkiaa
open Go.RowKit
set_option linter.unusedVariables false
set_option linter.unusedSimpArgs false
set_option maxRecDepth 20000
theorem drop16 {xs ys : List UInt8} (h : ys.length = 16) : List.drop 16 (aOfBytes ys) = [] := List.drop_of_length_le (by rw [aOfBytes_len]; omega)
/-! a block, round by round -/
def encS (T K s : List UInt8) (R n : Nat) : List UInt8 :=
  addK K (if n < R - 1 then mixB (shiftB T s 1) [2, 3, 1, 1] else shiftB T s 1) n
def encN (T K b : List UInt8) (R : Nat) : Nat → List UInt8
  | 0 => addK K b 0
  | n + 1 => encS T K (encN T K b R n) R (n + 1)
def encB (T K b : List UInt8) (R : Nat) : List UInt8 := encN T K b R (R - 1)
theorem encN_len (T K b : List UInt8) (R n : Nat) : (encN T K b R n).length = 16 := by cases n <;> exact addK_len _ _ _
theorem encB_len (T K b : List UInt8) (R : Nat) : (encB T K b R).length = 16 := encN_len _ _ _ _ _
theorem ptrT {T B K : List UInt8} {R : Nat} (h1 : T.length = 256) : ∀ i, i < 256 → ldAgg (.int .u8) 1 (List.drop i (cph T B K R)) = some (.int .u8 ((T.getD i 0).toNat : Int)) := cph_T h1
set_option maxHeartbeats 16000000 in
theorem encrypt_spec (T B K b : List UInt8) (R : Nat) (h1 : T.length = 256) (h2 : B.length = 256) (hK : K.length = R * 16) (hR : R ≤ 1000) (hr : 0 < R) (hb : b.length = 16) :
    Spec Try.prog 48 [.cp (cph T B K R), .agg (aOfBytes b)] (.k (.agg (aOfBytes (encB T K b R)))) := by
  refine spec_of (fun _ => false) (by kernel_rfl) Try.func48 rfl rfl (by simp [Try.ntmps48]) (by decide) ?_
  intro δ
  rw [init2]
  have hadd := fun b r hr hb => add_spec T B K b R r h1 h2 hK hR hr hb
  have hsh := fun b hb => shift_spec T b (cph T B K R) 1 (.inl rfl) (by rw [cph_len h1 h2]; omega) (cph_T h1) hb
  have hC := cph_len (K := K) (R := R) h1 h2
  have hCK := cph_K (K := K) (R := R) h1 h2 66
  have hmx := fun b hb => mix_spec b [2, 3, 1, 1] hb rfl
  have e4 : aOfBytes [2, 3, 1, 1] = [.int .u8 2, .int .u8 3, .int .u8 1, .int .u8 1] := rfl
  rw [e4] at hmx
  generalize cph T B K R = C at *
  have hba := aOfBytes_len b
  repeat (first | with_reducible (first | refine aWp_seq ?_ | refine seq_normal ?_ | refine seq_ret ?_ | refine seq_exit ?_ | refine blk_normal ?_ | refine blk_ret ?_ | refine blk_hit ?_ | refine blk_miss rfl ?_ | refine aWp_ret ?_ | refine aWp_skip ?_ | refine aWp_block ?_ | refine aWp_exit ?_ | refine end_ret ?_ | refine end_normal ?_) | ((refine rgA ?_); intro ν) | ((with_reducible apply cndT); exact rfl; (first | rfl | assumption)) | ((with_reducible apply cndF); exact rfl; (first | rfl | assumption)))
  refine rg fun K hK => ?_
  refine stA ?_
  (first | with_reducible refine g0 ?_ | ((with_reducible refine g1 ?_ ?_); (with_reducible apply gt_); exact rfl; exact rfl; (first | rfl | assumption | (simp [*] <;> done)))); (first | refine smA (h2 := (hadd b 0 (by omega) hb)) (e := 3) (hk := ?_) | refine smA0 (h2 := (hadd b 0 (by omega) hb)) (e := 3) (hk := ?_) | refine smN (h2 := (hadd b 0 (by omega) hb)) (e := 3) (hk := ?_))
  refine stA ?_
  with_reducible refine rz ?_
  refine hK _ _ _ ?_
  clear hK K; intro ν
  repeat (first | with_reducible (first | refine aWp_seq ?_ | refine seq_normal ?_ | refine seq_ret ?_ | refine seq_exit ?_ | refine blk_normal ?_ | refine blk_ret ?_ | refine blk_hit ?_ | refine blk_miss rfl ?_ | refine aWp_ret ?_ | refine aWp_skip ?_ | refine aWp_block ?_ | refine aWp_exit ?_ | refine end_ret ?_ | refine end_normal ?_) | ((refine rgA ?_); intro ν) | ((with_reducible apply cndT); exact rfl; (first | rfl | assumption)) | ((with_reducible apply cndF); exact rfl; (first | rfl | assumption)))
  refine aWp_loop (fun m s => ∃ F Tb ν n g3 g4, m = R - n ∧ n < R ∧ s = ⟨F, Tb, ν, ⟨fun _ => false, δ, false⟩⟩ ∧
    F 0 = .k (.cp C) ∧ F 3 = .ob 3 g3 0 ∧ F 4 = .ob 4 g4 0 ∧ F 5 = .k (.int .i64 ((n : Int) + 1)) ∧ Tb 3 = some (g3, .obj (aOfBytes (encN T K b R n))) ∧ Tb 4 = some (g4, .obj (List.replicate 16 (.int .u8 0)))) R ⟨_, _, _, 0, _, _, rfl, hr, rfl, rfl, rfl, rfl, rfl, rfl, rfl⟩ ?_
  rintro m s ⟨F, Tb, ν, n, g3, g4, rfl, hn, rfl, f0, f3, f4, f5, t3, t4⟩
  rw [has4 f0 f3 f4 f5, has2 t3 t4]
  have hel := encN_len T K b R n
  have hea := aOfBytes_len (encN T K b R n)
  have la := ld_arr (n := 16) (e := 5) (aOfBytes (encN T K b R n)) (sz := 16) (by omega)
  by_cases hlt : n + 1 < R
  · have s1 := hsh (encN T K b R n) hel
    have hnx : encN T K b R (n + 1) = encS T K (encN T K b R n) R (n + 1) := rfl
    generalize encN T K b R n = s0 at *
    have d0 := drop16 (xs := s0) (ys := s0) hel
    have q1 := shiftB_len T s0 1
    unfold encS at hnx
    generalize shiftB T s0 1 = sh at *
    have q1a := aOfBytes_len sh
    have lb := ld_arr (n := 16) (e := 5) (aOfBytes sh) (sz := 16) (by omega)
    have s2 := hmx sh q1
    repeat (first | with_reducible (first | refine aWp_seq ?_ | refine seq_normal ?_ | refine seq_ret ?_ | refine seq_exit ?_ | refine blk_normal ?_ | refine blk_ret ?_ | refine blk_hit ?_ | refine blk_miss rfl ?_ | refine aWp_ret ?_ | refine aWp_skip ?_ | refine aWp_block ?_ | refine aWp_exit ?_ | refine end_ret ?_ | refine end_normal ?_) | ((refine rgA ?_); intro ν) | ((with_reducible apply cndT); exact rfl; (first | rfl | assumption)) | ((with_reducible apply cndF); exact rfl; (first | rfl | assumption)))
    refine rgx [(0,[3],[]),(5,[3],[3])] (by kernel_rfl) fun K hK => ?_
    refine stxA ?_
    ((first | ((with_reducible refine x0 ?_ ?_); exact rfl) | ((with_reducible refine x1 ?_ ?_ ?_); exact rfl; (with_reducible apply gt_); exact rfl; exact rfl; (first | rfl | assumption | (simp [*] <;> done)))); refine xcA (h2 := (s1)) (hk := ?_))
    refine stxA ?_
    with_reducible refine xz ?_
    refine hK _ _ _ ?_
    clear hK K; intro ν
    rw [d0, List.append_nil]
    by_cases hm : n + 1 < R - 1
    · rw [if_pos hm] at hnx
      have q2 := mixB_len sh [2, 3, 1, 1]
      generalize mixB sh [2, 3, 1, 1] = mx at *
      have q2a := aOfBytes_len mx
      have d1 := drop16 (xs := sh) (ys := sh) q1
      have s3 := hadd mx (n + 1) hlt q2
      rw [Int.natCast_succ] at s3
      repeat (first | with_reducible (first | refine aWp_seq ?_ | refine seq_normal ?_ | refine seq_ret ?_ | refine seq_exit ?_ | refine blk_normal ?_ | refine blk_ret ?_ | refine blk_hit ?_ | refine blk_miss rfl ?_ | refine aWp_ret ?_ | refine aWp_skip ?_ | refine aWp_block ?_ | refine aWp_exit ?_ | refine end_ret ?_ | refine end_normal ?_) | ((refine rgA ?_); intro ν) | ((with_reducible apply cndT); exact rfl; (first | rfl | assumption)) | ((with_reducible apply cndF); exact rfl; (first | rfl | assumption)))
      refine rg fun K hK => ?_
      refine stA ?_
      (first | with_reducible refine g0 ?_ | ((with_reducible refine g1 ?_ ?_); (with_reducible apply gt_); exact rfl; exact rfl; (first | rfl | assumption | (simp [*] <;> done)))); refine scA (h2 := (s2)) (hk := ?_)
      refine stA ?_
      with_reducible refine rz ?_
      refine hK _ _ _ ?_
      clear hK K; intro ν
      rw [d1, List.append_nil]
      repeat (first | with_reducible (first | refine aWp_seq ?_ | refine seq_normal ?_ | refine seq_ret ?_ | refine seq_exit ?_ | refine blk_normal ?_ | refine blk_ret ?_ | refine blk_hit ?_ | refine blk_miss rfl ?_ | refine aWp_ret ?_ | refine aWp_skip ?_ | refine aWp_block ?_ | refine aWp_exit ?_ | refine end_ret ?_ | refine end_normal ?_) | ((refine rgA ?_); intro ν) | ((with_reducible apply cndT); exact rfl; (first | rfl | assumption)) | ((with_reducible apply cndF); exact rfl; (first | rfl | assumption)))
      refine rg fun K hK => ?_
      refine stA ?_
      (first | with_reducible refine g0 ?_ | ((with_reducible refine g1 ?_ ?_); (with_reducible apply gt_); exact rfl; exact rfl; (first | rfl | assumption | (simp [*] <;> done)))); (first | refine smA (h2 := (s3)) (e := 3) (hk := ?_) | refine smA0 (h2 := (s3)) (e := 3) (hk := ?_) | refine smN (h2 := (s3)) (e := 3) (hk := ?_))
      refine stA ?_
      with_reducible refine rz ?_
      refine hK _ _ _ ?_
      clear hK K; intro ν
      repeat (first | with_reducible (first | refine aWp_seq ?_ | refine seq_normal ?_ | refine seq_ret ?_ | refine seq_exit ?_ | refine blk_normal ?_ | refine blk_ret ?_ | refine blk_hit ?_ | refine blk_miss rfl ?_ | refine aWp_ret ?_ | refine aWp_skip ?_ | refine aWp_block ?_ | refine aWp_exit ?_ | refine end_ret ?_ | refine end_normal ?_) | ((refine rgA ?_); intro ν) | ((with_reducible apply cndT); exact rfl; (first | rfl | assumption)) | ((with_reducible apply cndF); exact rfl; (first | rfl | assumption)))
      refine ⟨R - (n + 1), by omega, _, _, _, n + 1, g3, g4, rfl, hlt, rfl, rfl, rfl, rfl, ?_, ?_, rfl⟩
      · show (SV.k (.int .i64 ((n : Int) + 1 + 1)) : SV) = _
        rw [Int.natCast_succ]
      · rw [upd_same, hnx]
    · rw [if_neg hm] at hnx
      have s3 := hadd sh (n + 1) hlt q1
      rw [Int.natCast_succ] at s3
      repeat (first | with_reducible (first | refine aWp_seq ?_ | refine seq_normal ?_ | refine seq_ret ?_ | refine seq_exit ?_ | refine blk_normal ?_ | refine blk_ret ?_ | refine blk_hit ?_ | refine blk_miss rfl ?_ | refine aWp_ret ?_ | refine aWp_skip ?_ | refine aWp_block ?_ | refine aWp_exit ?_ | refine end_ret ?_ | refine end_normal ?_) | ((refine rgA ?_); intro ν) | ((with_reducible apply cndT); exact rfl; (first | rfl | assumption)) | ((with_reducible apply cndF); exact rfl; (first | rfl | assumption)))
      refine rg fun K hK => ?_
      refine stA ?_
      (first | with_reducible refine g0 ?_ | ((with_reducible refine g1 ?_ ?_); (with_reducible apply gt_); exact rfl; exact rfl; (first | rfl | assumption | (simp [*] <;> done)))); (first | refine smA (h2 := (s3)) (e := 3) (hk := ?_) | refine smA0 (h2 := (s3)) (e := 3) (hk := ?_) | refine smN (h2 := (s3)) (e := 3) (hk := ?_))
      refine stA ?_
      with_reducible refine rz ?_
      refine hK _ _ _ ?_
      clear hK K; intro ν
      repeat (first | with_reducible (first | refine aWp_seq ?_ | refine seq_normal ?_ | refine seq_ret ?_ | refine seq_exit ?_ | refine blk_normal ?_ | refine blk_ret ?_ | refine blk_hit ?_ | refine blk_miss rfl ?_ | refine aWp_ret ?_ | refine aWp_skip ?_ | refine aWp_block ?_ | refine aWp_exit ?_ | refine end_ret ?_ | refine end_normal ?_) | ((refine rgA ?_); intro ν) | ((with_reducible apply cndT); exact rfl; (first | rfl | assumption)) | ((with_reducible apply cndF); exact rfl; (first | rfl | assumption)))
      refine ⟨R - (n + 1), by omega, _, _, _, n + 1, g3, g4, rfl, hlt, rfl, rfl, rfl, rfl, ?_, ?_, rfl⟩
      · show (SV.k (.int .i64 ((n : Int) + 1 + 1)) : SV) = _
        rw [Int.natCast_succ]
      · rw [upd_same, hnx]
  · have hne : n = R - 1 := by omega
    subst hne
    rw [encB]
    generalize encN T K b R (R - 1) = out at *
    repeat (first | with_reducible (first | refine aWp_seq ?_ | refine seq_normal ?_ | refine seq_ret ?_ | refine seq_exit ?_ | refine blk_normal ?_ | refine blk_ret ?_ | refine blk_hit ?_ | refine blk_miss rfl ?_ | refine aWp_ret ?_ | refine aWp_skip ?_ | refine aWp_block ?_ | refine aWp_exit ?_ | refine end_ret ?_ | refine end_normal ?_) | ((refine rgA ?_); intro ν) | ((with_reducible apply cndT); exact rfl; (first | rfl | assumption)) | ((with_reducible apply cndF); exact rfl; (first | rfl | assumption)))
    rw [drop_rep, List.append_nil]
    (first | with_reducible refine end_r ?_ | with_reducible refine end_n ?_); refine en1c ?_
    rfl
/-! the other way round -/
def decS (B K s : List UInt8) (R r : Nat) : List UInt8 :=
  shiftB B (if r < R - 1 then mixB (addK K s r) [14, 11, 13, 9] else addK K s r) (-1)
def decN (B K b : List UInt8) (R : Nat) : Nat → List UInt8
  | 0 => b
  | m + 1 => decS B K (decN B K b R m) R (R - 1 - m)
def decB (B K b : List UInt8) (R : Nat) : List UInt8 := addK K (decN B K b R (R - 1)) 0
theorem decN_len (B K b : List UInt8) (R m : Nat) (hb : b.length = 16) : (decN B K b R m).length = 16 := by
  cases m with
  | zero => exact hb
  | succ m => exact shiftB_len _ _ _
theorem decB_len (B K b : List UInt8) (R : Nat) : (decB B K b R).length = 16 := addK_len _ _ _
set_option maxHeartbeats 16000000 in
theorem decrypt_spec (T B K b : List UInt8) (R : Nat) (h1 : T.length = 256) (h2 : B.length = 256) (hK : K.length = R * 16) (hR : R ≤ 1000) (hr : 0 < R) (hb : b.length = 16) :
    Spec Try.prog 52 [.cp (cph T B K R), .agg (aOfBytes b)] (.k (.agg (aOfBytes (decB B K b R)))) := by
  refine spec_of (fun _ => false) (by kernel_rfl) Try.func52 rfl rfl (by simp [Try.ntmps52]) (by decide) ?_
  intro δ
  rw [init2]
  have hadd := fun b r hr hb => add_spec T B K b R r h1 h2 hK hR hr hb
  have hC := cph_len (K := K) (R := R) h1 h2
  have hsh := fun b hb => shift_spec B b (List.drop 256 (cph T B K R)) (-1) (.inr rfl) (by rw [List.length_drop, cph_len h1 h2]; omega) (cph_B h1 h2) hb
  have hCK := cph_K (K := K) (R := R) h1 h2 66
  have hmx := fun b hb => mix_spec b [14, 11, 13, 9] hb rfl
  have e4 : aOfBytes [14, 11, 13, 9] = [.int .u8 14, .int .u8 11, .int .u8 13, .int .u8 9] := rfl
  rw [e4] at hmx
  generalize cph T B K R = C at *
  have hba := aOfBytes_len b
  repeat (first | with_reducible (first | refine aWp_seq ?_ | refine seq_normal ?_ | refine seq_ret ?_ | refine seq_exit ?_ | refine blk_normal ?_ | refine blk_ret ?_ | refine blk_hit ?_ | refine blk_miss rfl ?_ | refine aWp_ret ?_ | refine aWp_skip ?_ | refine aWp_block ?_ | refine aWp_exit ?_ | refine end_ret ?_ | refine end_normal ?_) | ((refine rgA ?_); intro ν) | ((with_reducible apply cndT); exact rfl; (first | rfl | assumption)) | ((with_reducible apply cndF); exact rfl; (first | rfl | assumption)))
  refine aWp_loop (fun m s => ∃ F Tb ν n g3 g4, m = R - n ∧ n < R ∧ s = ⟨F, Tb, ν, ⟨fun _ => false, δ, false⟩⟩ ∧
    F 0 = .k (.cp C) ∧ F 3 = .ob 3 g3 0 ∧ F 4 = .ob 4 g4 0 ∧ F 5 = .k (.int .i64 ((R - 1 - n : Nat) : Int)) ∧ Tb 3 = some (g3, .obj (aOfBytes (decN B K b R n))) ∧ Tb 4 = some (g4, .obj (List.replicate 16 (.int .u8 0)))) R ⟨_, _, _, 0, _, _, rfl, hr, rfl, rfl, rfl, rfl, ?_, rfl, rfl⟩ ?_
  · show (SV.k (.int .i64 ((R : Int) - 1)) : SV) = _
    rw [show (R : Int) - 1 = ((R - 1 - 0 : Nat) : Int) by omega]
  rintro m s ⟨F, Tb, ν, n, g3, g4, rfl, hn, rfl, f0, f3, f4, f5, t3, t4⟩
  rw [has4 f0 f3 f4 f5, has2 t3 t4]
  have hel := decN_len B K b R n hb
  have hea := aOfBytes_len (decN B K b R n)
  by_cases hlt : n + 1 < R
  · have hnx : decN B K b R (n + 1) = decS B K (decN B K b R n) R (R - 1 - n) := rfl
    obtain ⟨r, hrn⟩ : ∃ r, r = R - 1 - n := ⟨_, rfl⟩
    rw [← hrn] at hnx ⊢
    have s1 := hadd (decN B K b R n) r (by omega) hel
    generalize decN B K b R n = s0 at *
    unfold decS at hnx
    have q1 := addK_len K s0 r
    generalize addK K s0 r = ad at *
    have q1a := aOfBytes_len ad
    have la := ld_arr (n := 16) (e := 5) (aOfBytes ad) (sz := 16) (by omega)
    have d1 := drop16 (xs := ad) (ys := ad) q1
    repeat (first | with_reducible (first | refine aWp_seq ?_ | refine seq_normal ?_ | refine seq_ret ?_ | refine seq_exit ?_ | refine blk_normal ?_ | refine blk_ret ?_ | refine blk_hit ?_ | refine blk_miss rfl ?_ | refine aWp_ret ?_ | refine aWp_skip ?_ | refine aWp_block ?_ | refine aWp_exit ?_ | refine end_ret ?_ | refine end_normal ?_) | ((refine rgA ?_); intro ν) | ((with_reducible apply cndT); exact rfl; (first | rfl | assumption)) | ((with_reducible apply cndF); exact rfl; (first | rfl | assumption)))
    refine rg fun K hK => ?_
    refine stA ?_
    (first | with_reducible refine g0 ?_ | ((with_reducible refine g1 ?_ ?_); (with_reducible apply gt_); exact rfl; exact rfl; (first | rfl | assumption | (simp [*] <;> done)))); (first | refine smA (h2 := (s1)) (e := 3) (hk := ?_) | refine smA0 (h2 := (s1)) (e := 3) (hk := ?_) | refine smN (h2 := (s1)) (e := 3) (hk := ?_))
    refine stA ?_
    with_reducible refine rz ?_
    refine hK _ _ _ ?_
    clear hK K; intro ν
    by_cases hm : r < R - 1
    · rw [if_pos hm] at hnx
      have s2 := hmx ad q1
      have q2 := mixB_len ad [14, 11, 13, 9]
      generalize mixB ad [14, 11, 13, 9] = mx at *
      have q2a := aOfBytes_len mx
      have lb := ld_arr (n := 16) (e := 5) (aOfBytes mx) (sz := 16) (by omega)
      have d2 := drop16 (xs := mx) (ys := mx) q2
      have s3 := hsh mx q2
      have q3 := shiftB_len B mx (-1)
      generalize shiftB B mx (-1) = sh at *
      have q3a := aOfBytes_len sh
      repeat (first | with_reducible (first | refine aWp_seq ?_ | refine seq_normal ?_ | refine seq_ret ?_ | refine seq_exit ?_ | refine blk_normal ?_ | refine blk_ret ?_ | refine blk_hit ?_ | refine blk_miss rfl ?_ | refine aWp_ret ?_ | refine aWp_skip ?_ | refine aWp_block ?_ | refine aWp_exit ?_ | refine end_ret ?_ | refine end_normal ?_) | ((refine rgA ?_); intro ν) | ((with_reducible apply cndT); exact rfl; (first | rfl | assumption)) | ((with_reducible apply cndF); exact rfl; (first | rfl | assumption)))
      refine rg fun K hK => ?_
      refine stA ?_
      (first | with_reducible refine g0 ?_ | ((with_reducible refine g1 ?_ ?_); (with_reducible apply gt_); exact rfl; exact rfl; (first | rfl | assumption | (simp [*] <;> done)))); refine scA (h2 := (s2)) (hk := ?_)
      refine stA ?_
      with_reducible refine rz ?_
      refine hK _ _ _ ?_
      clear hK K; intro ν
      rw [d1, List.append_nil]
      repeat (first | with_reducible (first | refine aWp_seq ?_ | refine seq_normal ?_ | refine seq_ret ?_ | refine seq_exit ?_ | refine blk_normal ?_ | refine blk_ret ?_ | refine blk_hit ?_ | refine blk_miss rfl ?_ | refine aWp_ret ?_ | refine aWp_skip ?_ | refine aWp_block ?_ | refine aWp_exit ?_ | refine end_ret ?_ | refine end_normal ?_) | ((refine rgA ?_); intro ν) | ((with_reducible apply cndT); exact rfl; (first | rfl | assumption)) | ((with_reducible apply cndF); exact rfl; (first | rfl | assumption)))
      refine rgx [(0,[3],[]),(5,[3],[3])] (by kernel_rfl) fun K hK => ?_
      refine stxA ?_
      ((first | ((with_reducible refine x0 ?_ ?_); exact rfl) | ((with_reducible refine x1 ?_ ?_ ?_); exact rfl; (with_reducible apply gt_); exact rfl; exact rfl; (first | rfl | assumption | (simp [*] <;> done)))); refine xcA (h2 := (s3)) (hk := ?_))
      refine stxA ?_
      with_reducible refine xz ?_
      refine hK _ _ _ ?_
      clear hK K; intro ν
      rw [d2, List.append_nil]
      repeat (first | with_reducible (first | refine aWp_seq ?_ | refine seq_normal ?_ | refine seq_ret ?_ | refine seq_exit ?_ | refine blk_normal ?_ | refine blk_ret ?_ | refine blk_hit ?_ | refine blk_miss rfl ?_ | refine aWp_ret ?_ | refine aWp_skip ?_ | refine aWp_block ?_ | refine aWp_exit ?_ | refine end_ret ?_ | refine end_normal ?_) | ((refine rgA ?_); intro ν) | ((with_reducible apply cndT); exact rfl; (first | rfl | assumption)) | ((with_reducible apply cndF); exact rfl; (first | rfl | assumption)))
      refine ⟨R - (n + 1), by omega, _, _, _, n + 1, g3, g4, rfl, hlt, rfl, rfl, rfl, rfl, ?_, ?_, rfl⟩
      · show (SV.k (.int .i64 ((r : Int) - 1)) : SV) = _
        rw [show (r : Int) - 1 = ((R - 1 - (n + 1) : Nat) : Int) by omega]
      · rw [upd_same, hnx]
    · rw [if_neg hm] at hnx
      have s3 := hsh ad q1
      have q3 := shiftB_len B ad (-1)
      generalize shiftB B ad (-1) = sh at *
      have q3a := aOfBytes_len sh
      repeat (first | with_reducible (first | refine aWp_seq ?_ | refine seq_normal ?_ | refine seq_ret ?_ | refine seq_exit ?_ | refine blk_normal ?_ | refine blk_ret ?_ | refine blk_hit ?_ | refine blk_miss rfl ?_ | refine aWp_ret ?_ | refine aWp_skip ?_ | refine aWp_block ?_ | refine aWp_exit ?_ | refine end_ret ?_ | refine end_normal ?_) | ((refine rgA ?_); intro ν) | ((with_reducible apply cndT); exact rfl; (first | rfl | assumption)) | ((with_reducible apply cndF); exact rfl; (first | rfl | assumption)))
      refine rgx [(0,[3],[]),(5,[3],[3])] (by kernel_rfl) fun K hK => ?_
      refine stxA ?_
      ((first | ((with_reducible refine x0 ?_ ?_); exact rfl) | ((with_reducible refine x1 ?_ ?_ ?_); exact rfl; (with_reducible apply gt_); exact rfl; exact rfl; (first | rfl | assumption | (simp [*] <;> done)))); refine xcA (h2 := (s3)) (hk := ?_))
      refine stxA ?_
      with_reducible refine xz ?_
      refine hK _ _ _ ?_
      clear hK K; intro ν
      rw [d1, List.append_nil]
      repeat (first | with_reducible (first | refine aWp_seq ?_ | refine seq_normal ?_ | refine seq_ret ?_ | refine seq_exit ?_ | refine blk_normal ?_ | refine blk_ret ?_ | refine blk_hit ?_ | refine blk_miss rfl ?_ | refine aWp_ret ?_ | refine aWp_skip ?_ | refine aWp_block ?_ | refine aWp_exit ?_ | refine end_ret ?_ | refine end_normal ?_) | ((refine rgA ?_); intro ν) | ((with_reducible apply cndT); exact rfl; (first | rfl | assumption)) | ((with_reducible apply cndF); exact rfl; (first | rfl | assumption)))
      refine ⟨R - (n + 1), by omega, _, _, _, n + 1, g3, g4, rfl, hlt, rfl, rfl, rfl, rfl, ?_, ?_, rfl⟩
      · show (SV.k (.int .i64 ((r : Int) - 1)) : SV) = _
        rw [show (r : Int) - 1 = ((R - 1 - (n + 1) : Nat) : Int) by omega]
      · rw [upd_same, hnx]
  · have hne : n = R - 1 := by omega
    subst hne
    have s1 := hadd (decN B K b R (R - 1)) 0 hr hel
    rw [Nat.sub_self]
    rw [decB]
    have qo := addK_len K (decN B K b R (R - 1)) 0
    generalize addK K (decN B K b R (R - 1)) 0 = out at *
    have qoa := aOfBytes_len out
    have la : ldAgg (.arr 16 5) 16 (List.drop 0 (aOfBytes out)) = some (.agg (aOfBytes out)) := ld_arr _ (by rw [aOfBytes_len]; exact qo)
    repeat (first | with_reducible (first | refine aWp_seq ?_ | refine seq_normal ?_ | refine seq_ret ?_ | refine seq_exit ?_ | refine blk_normal ?_ | refine blk_ret ?_ | refine blk_hit ?_ | refine blk_miss rfl ?_ | refine aWp_ret ?_ | refine aWp_skip ?_ | refine aWp_block ?_ | refine aWp_exit ?_ | refine end_ret ?_ | refine end_normal ?_) | ((refine rgA ?_); intro ν) | ((with_reducible apply cndT); exact rfl; (first | rfl | assumption)) | ((with_reducible apply cndF); exact rfl; (first | rfl | assumption)))
    refine rg fun K hK => ?_
    refine stA ?_
    (first | with_reducible refine g0 ?_ | ((with_reducible refine g1 ?_ ?_); (with_reducible apply gt_); exact rfl; exact rfl; (first | rfl | assumption | (simp [*] <;> done)))); (first | refine smA (h2 := (s1)) (e := 3) (hk := ?_) | refine smA0 (h2 := (s1)) (e := 3) (hk := ?_) | refine smN (h2 := (s1)) (e := 3) (hk := ?_))
    refine stA ?_
    with_reducible refine rz ?_
    refine hK _ _ _ ?_
    clear hK K; intro ν
    repeat (first | with_reducible (first | refine aWp_seq ?_ | refine seq_normal ?_ | refine seq_ret ?_ | refine seq_exit ?_ | refine blk_normal ?_ | refine blk_ret ?_ | refine blk_hit ?_ | refine blk_miss rfl ?_ | refine aWp_ret ?_ | refine aWp_skip ?_ | refine aWp_block ?_ | refine aWp_exit ?_ | refine end_ret ?_ | refine end_normal ?_) | ((refine rgA ?_); intro ν) | ((with_reducible apply cndT); exact rfl; (first | rfl | assumption)) | ((with_reducible apply cndF); exact rfl; (first | rfl | assumption)))
    rw [drop_rep, List.append_nil]
    (first | with_reducible refine end_r ?_ | with_reducible refine end_n ?_); refine en1c ?_
    rfl
end Go.Proofs.Ytjfeggkjkdbkiaa
