import Derived.Test.YtikganlbnhapcaaDraw3
import Derived.Test.YtikganlbnhapcaaRsha4
namespace Go.Proofs.Ytikganlbnhapcaa
open Go.RowKit
set_option linter.unusedVariables false
set_option linter.unusedSimpArgs false
set_option maxRecDepth 20000
/-! the document's numbers and draws -/
def bkF (x : BitVec 64) (i : Nat) : UInt8 := UInt8.ofBitVec ((x >>> (8 * (7 - i))).setWidth 8)
def bkL (x : BitVec 64) (k : Nat) : List UInt8 := (List.range 8).map fun i => if 7 - i < k then bkF x i else 0
theorem bkL_len (x : BitVec 64) (k : Nat) : (bkL x k).length = 8 := by simp [bkL]
theorem bkL_set (x : BitVec 64) (k : Nat) (h : k < 8) : (bkL x k).set (7 - k) (bkF x (7 - k)) = bkL x (k + 1) := by
  apply List.ext_getElem (by simp [bkL])
  intro i h1 h2
  have h3 : i < 8 := by simpa [bkL] using h2
  simp only [bkL, List.getElem_set, List.getElem_map, List.getElem_range]
  by_cases e : 7 - k = i
  · subst e; rw [if_pos rfl, if_pos (by omega)]
  · rw [if_neg e]
    by_cases e2 : 7 - i < k
    · rw [if_pos e2, if_pos (by omega)]
    · rw [if_neg e2, if_neg (by omega)]
theorem bkL_all (n : Int) : bkL (BitVec.ofInt 64 n) 8 = eI n := by
  have e : eI n = fb (encI n) := by simp [eI, pI, tb]
  rw [e]
  unfold bkL fb encI ser
  rw [List.map_map]
  apply List.map_congr_left
  intro i hi
  have hi : i < 8 := by simpa using hi
  rw [if_pos (by omega)]
  show _ = UInt8.ofBitVec ((BitVec.ofInt 64 n >>> (8 * (8 - 1 - i))).setWidth 8)
  rw [bkF, show 8 - 1 - i = 7 - i by omega]
theorem bkF_val (x : BitVec 64) (k : Nat) (h : k < 8) : ((bkF x (7 - k)).toNat : Int) = ((x.toNat / 256 ^ k % 256 : Nat) : Int) := by
  unfold bkF
  rw [show 7 - (7 - k) = k by omega]
  show (((x >>> (8 * k)).setWidth 8).toNat : Int) = _
  rw [BitVec.toNat_setWidth, BitVec.toNat_ushiftRight, Nat.shiftRight_eq_div_pow, Nat.pow_mul]
theorem pI_eI (l : List UInt8) (n : Int) : pI l n = l ++ eI n := by
  show fb (tb l ++ encI n) = l ++ fb (tb [] ++ encI n)
  rw [fb_app, fb_tb]; rfl
theorem aZ8 (n : Nat) (z : AV) : aZeros n 1 [z] = List.replicate n z := by
  unfold aZeros
  apply List.ext_getElem
  · simp
  · intro i h1 h2
    simp [Nat.mod_one]
theorem bkL_0 (x : BitVec 64) : aOfBytes (bkL x 0) = List.replicate 8 (AV.int .u8 0) := by
  simp [bkL, aOfBytes, List.map_const']
set_option maxHeartbeats 8000000 in
theorem rint_spec (full : Bool) (l : List UInt8) (n : Int) (hl : l.length ≤ 1000000) : Spec Try.prog 85 [.sl full l.length (aOfBytes l), .int .i64 n] (.own (l.length + 8) 5 (aOfBytes (l ++ eI n))) := by
  have hla := aOfBytes_len l
  obtain ⟨x, hx⟩ : ∃ x : BitVec 64, x = BitVec.ofInt 64 n := ⟨_, rfl⟩
  obtain ⟨N, hN⟩ : ∃ N, N = x.toNat := ⟨_, rfl⟩
  have hNb : N < 18446744073709551616 := by rw [hN]; exact x.isLt
  have hwr : IntKind.u64.wrap n = (N : Int) := by rw [hN, hx, BitVec.toNat_ofInt, IntKind.wrap_u64]; omega
  have hv := fun k h => bkF_val x k h
  have hall := bkL_all n
  rw [← hx] at hall
  rw [← hN] at hv
  refine spec_of_own (fun t => t == 8 || t == 24) (by kernel_rfl) Try.func85 rfl rfl (by simp [Try.ntmps85]) (by decide) ?_
  intro δ
  rw [init2]
  repeat with_reducible (first | refine aWp_seq ?_ | refine seq_normal ?_ | refine seq_ret ?_ | refine seq_exit ?_ | refine blk_normal ?_ | refine blk_ret ?_ | refine blk_hit ?_ | refine blk_miss rfl ?_ | refine aWp_ret ?_ | refine aWp_skip ?_ | refine aWp_block ?_ | refine aWp_exit ?_ | refine end_ret ?_ | refine end_normal ?_)
  refine rgA ?_
  intro ν
  repeat with_reducible (first | refine aWp_seq ?_ | refine seq_normal ?_ | refine seq_ret ?_ | refine seq_exit ?_ | refine blk_normal ?_ | refine blk_ret ?_ | refine blk_hit ?_ | refine blk_miss rfl ?_ | refine aWp_ret ?_ | refine aWp_skip ?_ | refine aWp_block ?_ | refine aWp_exit ?_ | refine end_ret ?_ | refine end_normal ?_)
  refine rgA ?_
  intro ν
  repeat with_reducible (first | refine aWp_seq ?_ | refine seq_normal ?_ | refine seq_ret ?_ | refine seq_exit ?_ | refine blk_normal ?_ | refine blk_ret ?_ | refine blk_hit ?_ | refine blk_miss rfl ?_ | refine aWp_ret ?_ | refine aWp_skip ?_ | refine aWp_block ?_ | refine aWp_exit ?_ | refine end_ret ?_ | refine end_normal ?_)
  refine rgA ?_
  intro ν
  rw [hwr]
  repeat (first | with_reducible (first | refine aWp_seq ?_ | refine seq_normal ?_ | refine seq_ret ?_ | refine seq_exit ?_ | refine blk_normal ?_ | refine blk_ret ?_ | refine blk_hit ?_ | refine blk_miss rfl ?_ | refine aWp_ret ?_ | refine aWp_skip ?_ | refine aWp_block ?_ | refine aWp_exit ?_ | refine end_ret ?_ | refine end_normal ?_) | ((refine rgA ?_); intro ν) | ((with_reducible apply cndT); exact rfl; (first | rfl | assumption)) | ((with_reducible apply cndF); exact rfl; (first | rfl | assumption)))
  refine aWp_loop (fun m s => ∃ F T ν k g, m = 8 - k ∧ k ≤ 8 ∧ s = ⟨F, T, ν, ⟨fun t => t == 8 || t == 24, δ, false⟩⟩ ∧
    F 0 = .k (.sl full l.length (aOfBytes l)) ∧ F 5 = .os 8 g 0 8 8 ∧ F 6 = .k (.int .u64 ((N / 256 ^ k : Nat) : Int)) ∧ F 7 = .k (.int .i64 (k : Nat)) ∧ T 8 = some (g, .obj (aOfBytes (bkL x k)))) 8 ⟨_, _, _, 0, _, rfl, Nat.zero_le _, rfl, rfl, rfl, ?_, rfl, ?_⟩ ?_
  · rw [Nat.pow_zero, Nat.div_one]; rfl
  · rw [bkL_0]; rfl
  rintro m s ⟨F, T, ν, k, g, rfl, hk, rfl, f0, f5, f6, f7, t8⟩
  rw [has4 f0 f5 f6 f7, has1 t8]
  have hbl := bkL_len x k
  have hba := aOfBytes_len (bkL x k)
  by_cases hlt : k < 8
  · have hst := set_b (bkL x k) (bkF x (7 - k)) (7 - k) (by omega)
    rw [bkL_set x k hlt, hv k hlt] at hst
    have hq : N / 256 ^ (k + 1) = N / 256 ^ k / 256 := by rw [Nat.pow_succ, Nat.div_div_eq_div_mul]
    have hqb : N / 256 ^ k < 18446744073709551616 := Nat.lt_of_le_of_lt (Nat.div_le_self _ _) hNb
    have e7 : ((7 : Int) - (k : Int)).toNat = 7 - k := by omega
    rw [← e7] at hst
    generalize N / 256 ^ k = q at *
    repeat (first | with_reducible (first | refine aWp_seq ?_ | refine seq_normal ?_ | refine seq_ret ?_ | refine seq_exit ?_ | refine blk_normal ?_ | refine blk_ret ?_ | refine blk_hit ?_ | refine blk_miss rfl ?_ | refine aWp_ret ?_ | refine aWp_skip ?_ | refine aWp_block ?_ | refine aWp_exit ?_ | refine end_ret ?_ | refine end_normal ?_) | ((refine rgA ?_); intro ν) | ((with_reducible apply cndT); exact rfl; (first | rfl | assumption)) | ((with_reducible apply cndF); exact rfl; (first | rfl | assumption)))
    refine ⟨8 - (k + 1), by omega, _, _, _, k + 1, g, rfl, by omega, rfl, rfl, rfl, ?_, ?_, ?_⟩
    · have hqi : ((q / 256 : Nat) : Int) = (q : Int) / 256 := by omega
      rw [hq, hqi]; rfl
    · show (SV.k (.int .i64 ((k : Int) + 1)) : SV) = _
      rw [Int.natCast_succ]
    · rw [upd_same]
      exact congrArg (fun q => some (g, Ent.obj q)) hst
  · have hke : k = 8 := by omega
    subst hke
    rw [hall]
    clear t8 hv hall hwr
    have hel := eI_len n
    have hea := aOfBytes_len (eI n)
    have ht8 : List.take 8 (aOfBytes (eI n)) = aOfBytes (eI n) := List.take_of_length_le (by omega)
    by_cases h0 : l.length = 0
    · have hl0 : l = [] := List.eq_nil_of_length_eq_zero h0
      repeat (first | with_reducible (first | refine aWp_seq ?_ | refine seq_normal ?_ | refine seq_ret ?_ | refine seq_exit ?_ | refine blk_normal ?_ | refine blk_ret ?_ | refine blk_hit ?_ | refine blk_miss rfl ?_ | refine aWp_ret ?_ | refine aWp_skip ?_ | refine aWp_block ?_ | refine aWp_exit ?_ | refine end_ret ?_ | refine end_normal ?_) | ((refine rgA ?_); intro ν) | ((with_reducible apply cndT); exact rfl; (first | rfl | assumption)) | ((with_reducible apply cndF); exact rfl; (first | rfl | assumption)))
      rw [ht8]
      refine ⟨rfl, endO rfl (d := 28) ?_ rfl (all_scB _)⟩
      rw [hl0]; rfl
    · repeat (first | with_reducible (first | refine aWp_seq ?_ | refine seq_normal ?_ | refine seq_ret ?_ | refine seq_exit ?_ | refine blk_normal ?_ | refine blk_ret ?_ | refine blk_hit ?_ | refine blk_miss rfl ?_ | refine aWp_ret ?_ | refine aWp_skip ?_ | refine aWp_block ?_ | refine aWp_exit ?_ | refine end_ret ?_ | refine end_normal ?_) | ((refine rgA ?_); intro ν) | ((with_reducible apply cndT); exact rfl; (first | rfl | assumption)) | ((with_reducible apply cndF); exact rfl; (first | rfl | assumption)))
      rw [ht8, ← aOfBytes_append]
      exact ⟨rfl, endO rfl rfl rfl (all_scB _)⟩
theorem drawB_eq (what : UInt8) (id gen : Int) (d : List UInt8) : drawB what id gen d = ([what] ++ eI id ++ eI gen) ++ d := by simp [drawB]
theorem init5R (a b c d e : AV) (md : Md) : initSt [a, b, c, d, e] md = ⟨upd (upd (upd (upd (upd (fun _ => .k .any) 0 (.k a)) 1 (.k b)) 2 (.k c)) 3 (.k d)) 4 (.k e), fun _ => none, 0, md⟩ := by
  unfold initSt; congr 1; funext t
  match t with
  | 0 => rfl
  | 1 => rfl
  | 2 => rfl
  | 3 => rfl
  | 4 => rfl
  | t + 5 => simp [upd]
set_option maxHeartbeats 8000000 in
theorem rdrawn_spec (what : UInt8) (id gen : Int) (full : Bool) (d : List UInt8) (hd : d.length ≤ 90000) : Spec Try.prog 72 [sumsA, .int .u8 (what.toNat : Int), .int .i64 id, .int .i64 gen, .sl full d.length (aOfBytes d)] (.own 32 5 (aOfBytes (drawnB what id gen d))) := by
  have hda := aOfBytes_len d
  have s1 := rint_spec false [what] id (by simp)
  have s2 := rint_spec false ([what] ++ eI id) gen (by simp [eI_len])
  have s3 := rof_spec false (([what] ++ eI id ++ eI gen) ++ d) (by simp [eI_len]; omega)
  have hl1 : ([what] ++ eI id).length = 9 := by simp [eI_len]
  have hl2 : ([what] ++ eI id ++ eI gen).length = 17 := by simp [eI_len]
  have e1 : aOfBytes [what] = [.int .u8 (what.toNat : Int)] := rfl
  rw [e1, show ([what] : List UInt8).length = 1 from rfl] at s1
  rw [hl1] at s2
  rw [List.length_append, hl2, aOfBytes_append ([what] ++ eI id ++ eI gen)] at s3
  rw [← drawB_eq] at s3
  have ha1 := aOfBytes_len ([what] ++ eI id)
  have ha2 := aOfBytes_len ([what] ++ eI id ++ eI gen)
  generalize [what] ++ eI id ++ eI gen = P2 at *
  generalize [what] ++ eI id = P1 at *
  unfold drawnB
  have hS : sumsA = .agg [.sl false 64 (aOfW wordsK), .sl false 8 (aOfW startH)] := rfl
  rw [hS] at s3 ⊢
  generalize AV.sl false 64 (aOfW wordsK) = SA at *
  generalize AV.sl false 8 (aOfW startH) = SB at *
  clear hS e1
  generalize shaB (drawB what id gen d) = D at *
  refine spec_of_own (fun _ => false) (by kernel_rfl) Try.func72 rfl rfl (by simp [Try.ntmps72]) (by decide) ?_
  intro δ
  rw [init5R]
  repeat with_reducible (first | refine aWp_seq ?_ | refine seq_normal ?_ | refine seq_ret ?_ | refine seq_exit ?_ | refine blk_normal ?_ | refine blk_ret ?_ | refine blk_hit ?_ | refine blk_miss rfl ?_ | refine aWp_ret ?_ | refine aWp_skip ?_ | refine aWp_block ?_ | refine aWp_exit ?_ | refine end_ret ?_ | refine end_normal ?_)
  refine rgA ?_
  intro ν
  repeat with_reducible (first | refine aWp_seq ?_ | refine seq_normal ?_ | refine seq_ret ?_ | refine seq_exit ?_ | refine blk_normal ?_ | refine blk_ret ?_ | refine blk_hit ?_ | refine blk_miss rfl ?_ | refine aWp_ret ?_ | refine aWp_skip ?_ | refine aWp_block ?_ | refine aWp_exit ?_ | refine end_ret ?_ | refine end_normal ?_)
  refine rgx [(0,[5],[]),(4,[13],[15]),(6,[15],[17]),(8,[17,19],[17,19]),(9,[19],[20])] (by kernel_rfl) fun K hK => ?_
  refine stxA ?_
  ((first | ((with_reducible refine x0 ?_ ?_); exact rfl) | ((with_reducible refine x1 ?_ ?_ ?_); exact rfl; (with_reducible apply gt_); exact rfl; exact rfl; (first | rfl | assumption | (simp [*] <;> done)))); refine xcA (h2 := (s1)) (hk := ?_))
  refine stxA ?_
  ((first | ((with_reducible refine x0 ?_ ?_); exact rfl) | ((with_reducible refine x1 ?_ ?_ ?_); exact rfl; (with_reducible apply gt_); exact rfl; exact rfl; (first | rfl | assumption | (simp [*] <;> done)))); refine xcA (h2 := (s2)) (hk := ?_))
  refine stxA ?_
  ((first | ((with_reducible refine x0 ?_ ?_); exact rfl) | ((with_reducible refine x1 ?_ ?_ ?_); exact rfl; (with_reducible apply gt_); exact rfl; exact rfl; (first | rfl | assumption | (simp [*] <;> done)))); refine xcA (h2 := (s3)) (hk := ?_))
  refine stxA ?_
  with_reducible refine xz ?_
  refine hK _ _ _ ?_
  clear hK K; intro ν
  repeat (first | with_reducible (first | refine aWp_seq ?_ | refine seq_normal ?_ | refine seq_ret ?_ | refine seq_exit ?_ | refine blk_normal ?_ | refine blk_ret ?_ | refine blk_hit ?_ | refine blk_miss rfl ?_ | refine aWp_ret ?_ | refine aWp_skip ?_ | refine aWp_block ?_ | refine aWp_exit ?_ | refine end_ret ?_ | refine end_normal ?_) | ((refine rgA ?_); intro ν) | ((with_reducible apply cndT); exact rfl; (first | rfl | assumption)) | ((with_reducible apply cndF); exact rfl; (first | rfl | assumption)))
  exact ⟨rfl, endO rfl rfl rfl (all_scB _)⟩
set_option maxHeartbeats 8000000 in
theorem rkeys_spec (id gen : Int) (full : Bool) (d : List UInt8) (hd : d.length ≤ 90000) : Spec Try.prog 42 [sumsA, .int .i64 id, .int .i64 gen, .sl full d.length (aOfBytes d)] (.own 64 5 (aOfBytes (keysB id gen d))) := by
  have hda := aOfBytes_len d
  have s1 := rdrawn_spec 1 id gen full d hd
  have s2 := rdrawn_spec 2 id gen full d hd
  have h1 := aOfBytes_len (drawnB 1 id gen d)
  have h2 := aOfBytes_len (drawnB 2 id gen d)
  rw [drawnB_len] at h1 h2
  rw [keysB, aOfBytes_append]
  have hsc : (aOfBytes (drawnB 1 id gen d) ++ aOfBytes (drawnB 2 id gen d)).all AV.sc = true := by rw [← aOfBytes_append]; exact all_scB _
  generalize drawnB 1 id gen d = A at *
  generalize drawnB 2 id gen d = B at *
  have hS : sumsA = .agg [.sl false 64 (aOfW wordsK), .sl false 8 (aOfW startH)] := rfl
  rw [hS] at s1 s2 ⊢
  generalize AV.sl false 64 (aOfW wordsK) = SA at *
  generalize AV.sl false 8 (aOfW startH) = SB at *
  clear hS
  refine spec_of_own (fun _ => false) (by kernel_rfl) Try.func42 rfl rfl (by simp [Try.ntmps42]) (by decide) ?_
  intro δ
  rw [init4]
  repeat with_reducible (first | refine aWp_seq ?_ | refine seq_normal ?_ | refine seq_ret ?_ | refine seq_exit ?_ | refine blk_normal ?_ | refine blk_ret ?_ | refine blk_hit ?_ | refine blk_miss rfl ?_ | refine aWp_ret ?_ | refine aWp_skip ?_ | refine aWp_block ?_ | refine aWp_exit ?_ | refine end_ret ?_ | refine end_normal ?_)
  refine rgA ?_
  intro ν
  repeat with_reducible (first | refine aWp_seq ?_ | refine seq_normal ?_ | refine seq_ret ?_ | refine seq_exit ?_ | refine blk_normal ?_ | refine blk_ret ?_ | refine blk_hit ?_ | refine blk_miss rfl ?_ | refine aWp_ret ?_ | refine aWp_skip ?_ | refine aWp_block ?_ | refine aWp_exit ?_ | refine end_ret ?_ | refine end_normal ?_)
  refine rgx [(0,[4],[]),(5,[4],[]),(10,[13,18,19],[13,18,19])] (by kernel_rfl) fun K hK => ?_
  refine stxA ?_
  ((first | ((with_reducible refine x0 ?_ ?_); exact rfl) | ((with_reducible refine x1 ?_ ?_ ?_); exact rfl; (with_reducible apply gt_); exact rfl; exact rfl; (first | rfl | assumption | (simp [*] <;> done)))); refine xcA (h2 := (s1)) (hk := ?_))
  refine stxA ?_
  ((first | ((with_reducible refine x0 ?_ ?_); exact rfl) | ((with_reducible refine x1 ?_ ?_ ?_); exact rfl; (with_reducible apply gt_); exact rfl; exact rfl; (first | rfl | assumption | (simp [*] <;> done)))); refine xcA (h2 := (s2)) (hk := ?_))
  refine stxA ?_
  with_reducible refine xz ?_
  refine hK _ _ _ ?_
  clear hK K; intro ν
  repeat (first | with_reducible (first | refine aWp_seq ?_ | refine seq_normal ?_ | refine seq_ret ?_ | refine seq_exit ?_ | refine blk_normal ?_ | refine blk_ret ?_ | refine blk_hit ?_ | refine blk_miss rfl ?_ | refine aWp_ret ?_ | refine aWp_skip ?_ | refine aWp_block ?_ | refine aWp_exit ?_ | refine end_ret ?_ | refine end_normal ?_) | ((refine rgA ?_); intro ν) | ((with_reducible apply cndT); exact rfl; (first | rfl | assumption)) | ((with_reducible apply cndF); exact rfl; (first | rfl | assumption)))
  exact ⟨rfl, endO rfl rfl rfl hsc⟩
set_option maxHeartbeats 8000000 in
theorem riv_spec (id gen : Int) (full : Bool) (d : List UInt8) (hd : d.length ≤ 90000) : Spec Try.prog 43 [sumsA, .int .i64 id, .int .i64 gen, .sl full d.length (aOfBytes d)] (.k (.sl false 16 (aOfBytes (ivB id gen d)))) := by
  have hda := aOfBytes_len d
  have s1 := rdrawn_spec 3 id gen full d hd
  have h1 := aOfBytes_len (drawnB 3 id gen d)
  rw [drawnB_len] at h1
  rw [ivB, bytes_take]
  generalize drawnB 3 id gen d = A at *
  have hS : sumsA = .agg [.sl false 64 (aOfW wordsK), .sl false 8 (aOfW startH)] := rfl
  rw [hS] at s1 ⊢
  generalize AV.sl false 64 (aOfW wordsK) = SA at *
  generalize AV.sl false 8 (aOfW startH) = SB at *
  clear hS
  refine spec_of (fun _ => false) (by kernel_rfl) Try.func43 rfl rfl (by simp [Try.ntmps43]) (by decide) ?_
  intro δ
  rw [init4]
  repeat (first | with_reducible (first | refine aWp_seq ?_ | refine seq_normal ?_ | refine seq_ret ?_ | refine seq_exit ?_ | refine blk_normal ?_ | refine blk_ret ?_ | refine blk_hit ?_ | refine blk_miss rfl ?_ | refine aWp_ret ?_ | refine aWp_skip ?_ | refine aWp_block ?_ | refine aWp_exit ?_ | refine end_ret ?_ | refine end_normal ?_) | ((refine rgA ?_); intro ν) | ((with_reducible apply cndT); exact rfl; (first | rfl | assumption)) | ((with_reducible apply cndF); exact rfl; (first | rfl | assumption)))
  refine rg fun K hK => ?_
  refine stA ?_
  (first | with_reducible refine g0 ?_ | ((with_reducible refine g1 ?_ ?_); (with_reducible apply gt_); exact rfl; exact rfl; (first | rfl | assumption | (simp [*] <;> done)))); refine scA (h2 := (s1)) (hk := ?_)
  refine stA ?_
  with_reducible refine rz ?_
  refine hK _ _ _ ?_
  clear hK K; intro ν
  repeat (first | with_reducible (first | refine aWp_seq ?_ | refine seq_normal ?_ | refine seq_ret ?_ | refine seq_exit ?_ | refine blk_normal ?_ | refine blk_ret ?_ | refine blk_hit ?_ | refine blk_miss rfl ?_ | refine aWp_ret ?_ | refine aWp_skip ?_ | refine aWp_block ?_ | refine aWp_exit ?_ | refine end_ret ?_ | refine end_normal ?_) | ((refine rgA ?_); intro ν) | ((with_reducible apply cndT); exact rfl; (first | rfl | assumption)) | ((with_reducible apply cndF); exact rfl; (first | rfl | assumption)))
  (first | with_reducible refine end_r ?_ | with_reducible refine end_n ?_); refine en1 ?_
  rfl
theorem short09_spec (l : List UInt8) : Spec Try.prog 40 [.sl false l.length (aOfBytes l)] (.k (.sl false (l.take 200).length (aOfBytes (l.take 200)))) := by
  refine spec_of (fun _ => false) (by kernel_rfl) Try.func40 rfl rfl (by simp [Try.ntmps40]) (by decide) ?_
  intro δ
  rw [init1]
  have hl := aOfBytes_len l
  by_cases h : 200 < l.length
  · repeat (first | with_reducible (first | refine aWp_seq ?_ | refine seq_normal ?_ | refine seq_ret ?_ | refine seq_exit ?_ | refine blk_normal ?_ | refine blk_ret ?_ | refine blk_hit ?_ | refine blk_miss rfl ?_ | refine aWp_ret ?_ | refine aWp_skip ?_ | refine aWp_block ?_ | refine aWp_exit ?_ | refine end_ret ?_ | refine end_normal ?_) | ((refine rgA ?_); intro ν) | ((with_reducible apply cndT); exact rfl; (first | rfl | assumption)) | ((with_reducible apply cndF); exact rfl; (first | rfl | assumption)))
    (first | with_reducible refine end_r ?_ | with_reducible refine end_n ?_); refine en1 ?_
    simp [aOfBytes, List.map_take]; omega
  · repeat (first | with_reducible (first | refine aWp_seq ?_ | refine seq_normal ?_ | refine seq_ret ?_ | refine seq_exit ?_ | refine blk_normal ?_ | refine blk_ret ?_ | refine blk_hit ?_ | refine blk_miss rfl ?_ | refine aWp_ret ?_ | refine aWp_skip ?_ | refine aWp_block ?_ | refine aWp_exit ?_ | refine end_ret ?_ | refine end_normal ?_) | ((refine rgA ?_); intro ν) | ((with_reducible apply cndT); exact rfl; (first | rfl | assumption)) | ((with_reducible apply cndF); exact rfl; (first | rfl | assumption)))
    (first | with_reducible refine end_r ?_ | with_reducible refine end_n ?_); refine en1 ?_
    rw [List.take_of_length_le (by omega)]
set_option maxHeartbeats 16000000 in
theorem law_DrawKeys (id gen : Int) (x : List UInt8) : Spec Try.prog 14 [.int .i64 id, .int .i64 gen, .sl false x.length (aOfBytes x)] (.k (.bool true)) := by
  have s1 := sums_spec
  have s2 := short09_spec x
  have hd : (x.take 200).length ≤ 200 := by simp; omega
  generalize x.take 200 = d at *
  have hda := aOfBytes_len d
  have s3 := iv_spec id gen false d (by omega)
  have s4 := keys_spec id gen false d (by omega)
  have hkl := keysB_len id gen d
  have s5 := bytes_spec (keysB id gen d) hkl
  have s6 := rkeys_spec id gen false d (by omega)
  have s7 := riv_spec id gen false d (by omega)
  have hka := aOfBytes_len (keysB id gen d)
  have hil := ivB_len id gen d
  have hia := aOfBytes_len (ivB id gen d)
  generalize keysB id gen d = K at *
  generalize ivB id gen d = V at *
  have hAB : aBytes (List.take 16 (aOfBytes V)) = some V := by rw [List.take_of_length_le (by omega), aBytes_of']
  have lv := ld_arr (n := 16) (e := 5) (aOfBytes V) (sz := 16) (by omega)
  have hS : sumsA = .agg [.sl false 64 (aOfW wordsK), .sl false 8 (aOfW startH)] := rfl
  rw [hS] at s1 s6 s7
  generalize AV.sl false 64 (aOfW wordsK) = SA at *
  generalize AV.sl false 8 (aOfW startH) = SB at *
  clear hS
  refine spec_of (fun _ => false) (by kernel_rfl) Try.func14 rfl rfl (by simp [Try.ntmps14]) (by decide) ?_
  intro δ
  rw [init3]
  repeat with_reducible (first | refine aWp_seq ?_ | refine seq_normal ?_ | refine seq_ret ?_ | refine seq_exit ?_ | refine blk_normal ?_ | refine blk_ret ?_ | refine blk_hit ?_ | refine blk_miss rfl ?_ | refine aWp_ret ?_ | refine aWp_skip ?_ | refine aWp_block ?_ | refine aWp_exit ?_ | refine end_ret ?_ | refine end_normal ?_)
  refine rgA ?_
  intro ν
  repeat with_reducible (first | refine aWp_seq ?_ | refine seq_normal ?_ | refine seq_ret ?_ | refine seq_exit ?_ | refine blk_normal ?_ | refine blk_ret ?_ | refine blk_hit ?_ | refine blk_miss rfl ?_ | refine aWp_ret ?_ | refine aWp_skip ?_ | refine aWp_block ?_ | refine aWp_exit ?_ | refine end_ret ?_ | refine end_normal ?_)
  refine rg fun K hK => ?_
  refine stA ?_
  (first | with_reducible refine g0 ?_ | ((with_reducible refine g1 ?_ ?_); (with_reducible apply gt_); exact rfl; exact rfl; (first | rfl | assumption | (simp [*] <;> done)))); refine scA (h2 := (s1)) (hk := ?_)
  refine stA ?_
  refine rzp (t := 7) rfl rfl ?_
  refine hK _ _ _ ?_
  clear hK K; intro ν
  repeat with_reducible (first | refine aWp_seq ?_ | refine seq_normal ?_ | refine seq_ret ?_ | refine seq_exit ?_ | refine blk_normal ?_ | refine blk_ret ?_ | refine blk_hit ?_ | refine blk_miss rfl ?_ | refine aWp_ret ?_ | refine aWp_skip ?_ | refine aWp_block ?_ | refine aWp_exit ?_ | refine end_ret ?_ | refine end_normal ?_)
  refine rg fun K hK => ?_
  refine stA ?_
  (first | with_reducible refine g0 ?_ | ((with_reducible refine g1 ?_ ?_); (with_reducible apply gt_); exact rfl; exact rfl; (first | rfl | assumption | (simp [*] <;> done)))); refine scA (h2 := (s2)) (hk := ?_)
  refine stA ?_
  (first | with_reducible refine g0 ?_ | ((with_reducible refine g1 ?_ ?_); (with_reducible apply gt_); exact rfl; exact rfl; (first | rfl | assumption | (simp [*] <;> done)))); refine scA (h2 := (s3)) (hk := ?_)
  refine stA ?_
  refine rzp (t := 8) rfl rfl ?_
  refine hK _ _ _ ?_
  clear hK K; intro ν
  rw [drop_rep, List.append_nil]
  repeat with_reducible (first | refine aWp_seq ?_ | refine seq_normal ?_ | refine seq_ret ?_ | refine seq_exit ?_ | refine blk_normal ?_ | refine blk_ret ?_ | refine blk_hit ?_ | refine blk_miss rfl ?_ | refine aWp_ret ?_ | refine aWp_skip ?_ | refine aWp_block ?_ | refine aWp_exit ?_ | refine end_ret ?_ | refine end_normal ?_)
  refine rgx [(14,[],[29]),(15,[29],[29])] (by kernel_rfl) fun K hK => ?_
  refine stxA ?_
  ((first | ((with_reducible refine x0 ?_ ?_); exact rfl) | ((with_reducible refine x1 ?_ ?_ ?_); exact rfl; (with_reducible apply gt_); exact rfl; exact rfl; (first | rfl | assumption | (simp [*] <;> done)))); refine xcA (h2 := (awake09_spec)) (hk := ?_))
  refine stxA ?_
  ((first | ((with_reducible refine x0 ?_ ?_); exact rfl) | ((with_reducible refine x1 ?_ ?_ ?_); exact rfl; (with_reducible apply gt_); exact rfl; exact rfl; (first | rfl | assumption | (simp [*] <;> done)))); refine xcA (h2 := (s2)) (hk := ?_))
  refine stxA ?_
  ((first | ((with_reducible refine x0 ?_ ?_); exact rfl) | ((with_reducible refine x1 ?_ ?_ ?_); exact rfl; (with_reducible apply gt_); exact rfl; exact rfl; (first | rfl | assumption | (simp [*] <;> done)))); refine xcA (h2 := (s4)) (hk := ?_))
  refine stxA ?_
  ((first | ((with_reducible refine x0 ?_ ?_); exact rfl) | ((with_reducible refine x1 ?_ ?_ ?_); exact rfl; (with_reducible apply gt_); exact rfl; exact rfl; (first | rfl | assumption | (simp [*] <;> done)))); refine xcA (h2 := (s5)) (hk := ?_))
  refine stxA ?_
  ((first | ((with_reducible refine x0 ?_ ?_); exact rfl) | ((with_reducible refine x1 ?_ ?_ ?_); exact rfl; (with_reducible apply gt_); exact rfl; exact rfl; (first | rfl | assumption | (simp [*] <;> done)))); refine xcA (h2 := (s2)) (hk := ?_))
  refine stxA ?_
  ((first | ((with_reducible refine x0 ?_ ?_); exact rfl) | ((with_reducible refine x1 ?_ ?_ ?_); exact rfl; (with_reducible apply gt_); exact rfl; exact rfl; (first | rfl | assumption | (simp [*] <;> done)))); refine xcA (h2 := (s6)) (hk := ?_))
  refine stxA ?_
  ((first | ((with_reducible refine x0 ?_ ?_); exact rfl) | ((with_reducible refine x1 ?_ ?_ ?_); exact rfl; (with_reducible apply gt_); exact rfl; exact rfl; (first | rfl | assumption | (simp [*] <;> done)))); refine xcA (h2 := (s2)) (hk := ?_))
  refine stxA ?_
  ((first | ((with_reducible refine x0 ?_ ?_); exact rfl) | ((with_reducible refine x1 ?_ ?_ ?_); exact rfl; (with_reducible apply gt_); exact rfl; exact rfl; (first | rfl | assumption | (simp [*] <;> done)))); refine xcA (h2 := (s7)) (hk := ?_))
  refine stxA ?_
  with_reducible refine xz ?_
  refine hK _ _ _ ?_
  clear hK K; intro ν
  repeat (first | with_reducible (first | refine aWp_seq ?_ | refine seq_normal ?_ | refine seq_ret ?_ | refine seq_exit ?_ | refine blk_normal ?_ | refine blk_ret ?_ | refine blk_hit ?_ | refine blk_miss rfl ?_ | refine aWp_ret ?_ | refine aWp_skip ?_ | refine aWp_block ?_ | refine aWp_exit ?_ | refine end_ret ?_ | refine end_normal ?_) | ((refine rgA ?_); intro ν) | ((with_reducible apply cndT); exact rfl; (first | rfl | assumption)) | ((with_reducible apply cndF); exact rfl; (first | rfl | assumption)))
  (first | with_reducible refine end_r ?_ | with_reducible refine end_n ?_); refine en1 ?_
  rfl
end Go.Proofs.Ytikganlbnhapcaa
