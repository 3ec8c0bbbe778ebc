import Derived.Test.YtjfeggkjkdbkiaaParts
import Derived.Test.YtjfeggkjkdbkiaaMul64
import Derived.Test.YtjfeggkjkdbkiaaAvCut
import Derived.Test.YtjfeggkjkdbkiaaAesD
import Derived.Test.YtjfeggkjkdbkiaaAvBytes
namespace Go.Proofs.Ytjfeggkjkdbkiaa
open Go.RowKit
set_option linter.unusedVariables false
set_option linter.unusedSimpArgs false
set_option maxRecDepth 20000
/-! keys that are wrapped: the parts -/
theorem bmul_spec (x y : Nat) (hx : x < 18446744073709551616) (hy : y < 18446744073709551616) : Spec Try.prog 96 [.int .u64 x, .int .u64 y] (.k (.tup [.int .u64 ((x * y / 18446744073709551616 : Nat) : Int), .int .u64 ((x * y % 18446744073709551616 : Nat) : Int)])) := by
  have s1 := mul64_spec x y hx hy
  refine spec_of (fun _ => false) (by kernel_rfl) Try.func96 rfl rfl (by simp [Try.ntmps96]) (by decide) ?_
  intro δ
  rw [init2]
  repeat (first | with_reducible (first | refine aWp_seq ?_ | refine seq_normal ?_ | refine seq_ret ?_ | refine seq_exit ?_ | refine blk_normal ?_ | refine blk_ret ?_ | refine blk_hit ?_ | refine blk_miss rfl ?_ | refine aWp_ret ?_ | refine aWp_skip ?_ | refine aWp_block ?_ | refine aWp_exit ?_ | refine end_ret ?_ | refine end_normal ?_) | ((refine rgA ?_); intro ν) | ((with_reducible apply cndT); exact rfl; (first | rfl | assumption)) | ((with_reducible apply cndF); exact rfl; (first | rfl | assumption)))
  refine rg fun K hK => ?_
  refine stA ?_
  (first | with_reducible refine g0 ?_ | ((with_reducible refine g1 ?_ ?_); (with_reducible apply gt_); exact rfl; exact rfl; (first | rfl | assumption | (simp [*] <;> done)))); refine scA (h2 := (s1)) (hk := ?_)
  refine stA ?_
  with_reducible refine rz ?_
  refine hK _ _ _ ?_
  clear hK K; intro ν
  repeat (first | with_reducible (first | refine aWp_seq ?_ | refine seq_normal ?_ | refine seq_ret ?_ | refine seq_exit ?_ | refine blk_normal ?_ | refine blk_ret ?_ | refine blk_hit ?_ | refine blk_miss rfl ?_ | refine aWp_ret ?_ | refine aWp_skip ?_ | refine aWp_block ?_ | refine aWp_exit ?_ | refine end_ret ?_ | refine end_normal ?_) | ((refine rgA ?_); intro ν) | ((with_reducible apply cndT); exact rfl; (first | rfl | assumption)) | ((with_reducible apply cndF); exact rfl; (first | rfl | assumption)))
  (first | with_reducible refine end_r ?_ | with_reducible refine end_n ?_); refine en2 ?_
  rfl
def a6 : List UInt8 := List.replicate 8 166
def rpB (k : Nat) : List AV := List.replicate k (.int .u8 166) ++ List.replicate (8 - k) (.int .u8 0)
theorem rpB_1 : List.take 1 [AV.int .u8 166] ++ List.drop 1 (aZeros 8 1 [AV.int .u8 0]) = rpB 1 := rfl
set_option maxHeartbeats 8000000 in
theorem first_repeat (full : Bool) : Spec Try.prog 74 [.sl full 1 [.int .u8 166], .int .i64 8] (.k (.sl false 8 (aOfBytes a6))) := by
  have s1 := bmul_spec 1 8 (by omega) (by omega)
  rw [show ((1 * 8 / 18446744073709551616 : Nat) : Int) = 0 by decide, show ((1 * 8 % 18446744073709551616 : Nat) : Int) = 8 by decide] at s1
  refine spec_of (fun t => t == 30) (by kernel_rfl) Try.func74 rfl rfl (by simp [Try.ntmps74]) (by decide) ?_
  intro δ
  rw [init2]
  repeat (first | with_reducible (first | refine aWp_seq ?_ | refine seq_normal ?_ | refine seq_ret ?_ | refine seq_exit ?_ | refine blk_normal ?_ | refine blk_ret ?_ | refine blk_hit ?_ | refine blk_miss rfl ?_ | refine aWp_ret ?_ | refine aWp_skip ?_ | refine aWp_block ?_ | refine aWp_exit ?_ | refine end_ret ?_ | refine end_normal ?_) | ((refine rgA ?_); intro ν) | ((with_reducible apply cndT); exact rfl; (first | rfl | assumption)) | ((with_reducible apply cndF); exact rfl; (first | rfl | assumption)))
  refine rg fun K hK => ?_
  refine stA ?_
  (first | with_reducible refine g0 ?_ | ((with_reducible refine g1 ?_ ?_); (with_reducible apply gt_); exact rfl; exact rfl; (first | rfl | assumption | (simp [*] <;> done)))); refine scA (h2 := (s1)) (hk := ?_)
  refine stA ?_
  with_reducible refine rz ?_
  refine hK _ _ _ ?_
  clear hK K; intro ν
  repeat (first | with_reducible (first | refine aWp_seq ?_ | refine seq_normal ?_ | refine seq_ret ?_ | refine seq_exit ?_ | refine blk_normal ?_ | refine blk_ret ?_ | refine blk_hit ?_ | refine blk_miss rfl ?_ | refine aWp_ret ?_ | refine aWp_skip ?_ | refine aWp_block ?_ | refine aWp_exit ?_ | refine end_ret ?_ | refine end_normal ?_) | ((refine rgA ?_); intro ν) | ((with_reducible apply cndT); exact rfl; (first | rfl | assumption)) | ((with_reducible apply cndF); exact rfl; (first | rfl | assumption)))
  refine aWp_loop (fun m s => ∃ F T ν n g, m = 8 - n ∧ (n = 1 ∨ n = 2 ∨ n = 4 ∨ n = 8) ∧ s = ⟨F, T, ν, ⟨fun t => t == 30, δ, false⟩⟩ ∧ F 7 = .os 30 g 0 8 8 ∧ F 8 = .k (.int .i64 (n : Nat)) ∧ T 30 = some (g, .obj (rpB n))) 7 ⟨_, _, _, 1, _, rfl, .inl rfl, rfl, rfl, rfl, rfl⟩ ?_
  rintro m s ⟨F, T, ν, n, g, rfl, hn, rfl, f7, f8, t30⟩
  rw [has2 f7 f8, has1 t30]
  have hrl : (rpB n).length = 8 := by unfold rpB; simp; omega
  by_cases h8 : n = 8
  · subst h8
    repeat (first | with_reducible (first | refine aWp_seq ?_ | refine seq_normal ?_ | refine seq_ret ?_ | refine seq_exit ?_ | refine blk_normal ?_ | refine blk_ret ?_ | refine blk_hit ?_ | refine blk_miss rfl ?_ | refine aWp_ret ?_ | refine aWp_skip ?_ | refine aWp_block ?_ | refine aWp_exit ?_ | refine end_ret ?_ | refine end_normal ?_) | ((refine rgA ?_); intro ν) | ((with_reducible apply cndT); exact rfl; (first | rfl | assumption)) | ((with_reducible apply cndF); exact rfl; (first | rfl | assumption)))
    (first | with_reducible refine end_r ?_ | with_reducible refine end_n ?_); refine en1 ?_
    rfl
  · rcases hn with rfl | rfl | rfl | rfl
    · repeat (first | with_reducible (first | refine aWp_seq ?_ | refine seq_normal ?_ | refine seq_ret ?_ | refine seq_exit ?_ | refine blk_normal ?_ | refine blk_ret ?_ | refine blk_hit ?_ | refine blk_miss rfl ?_ | refine aWp_ret ?_ | refine aWp_skip ?_ | refine aWp_block ?_ | refine aWp_exit ?_ | refine end_ret ?_ | refine end_normal ?_) | ((refine rgA ?_); intro ν) | ((with_reducible apply cndT); exact rfl; (first | rfl | assumption)) | ((with_reducible apply cndF); exact rfl; (first | rfl | assumption)))
      refine rgxA [(7,[30],[30])] ?_
      intro ν
      repeat (first | with_reducible (first | refine aWp_seq ?_ | refine seq_normal ?_ | refine seq_ret ?_ | refine seq_exit ?_ | refine blk_normal ?_ | refine blk_ret ?_ | refine blk_hit ?_ | refine blk_miss rfl ?_ | refine aWp_ret ?_ | refine aWp_skip ?_ | refine aWp_block ?_ | refine aWp_exit ?_ | refine end_ret ?_ | refine end_normal ?_) | ((refine rgA ?_); intro ν) | ((with_reducible apply cndT); exact rfl; (first | rfl | assumption)) | ((with_reducible apply cndF); exact rfl; (first | rfl | assumption)))
      exact ⟨8 - 2, by omega, _, _, _, 2, _, rfl, by omega, rfl, rfl, rfl, rfl⟩
    · repeat (first | with_reducible (first | refine aWp_seq ?_ | refine seq_normal ?_ | refine seq_ret ?_ | refine seq_exit ?_ | refine blk_normal ?_ | refine blk_ret ?_ | refine blk_hit ?_ | refine blk_miss rfl ?_ | refine aWp_ret ?_ | refine aWp_skip ?_ | refine aWp_block ?_ | refine aWp_exit ?_ | refine end_ret ?_ | refine end_normal ?_) | ((refine rgA ?_); intro ν) | ((with_reducible apply cndT); exact rfl; (first | rfl | assumption)) | ((with_reducible apply cndF); exact rfl; (first | rfl | assumption)))
      refine rgxA [(7,[30],[30])] ?_
      intro ν
      repeat (first | with_reducible (first | refine aWp_seq ?_ | refine seq_normal ?_ | refine seq_ret ?_ | refine seq_exit ?_ | refine blk_normal ?_ | refine blk_ret ?_ | refine blk_hit ?_ | refine blk_miss rfl ?_ | refine aWp_ret ?_ | refine aWp_skip ?_ | refine aWp_block ?_ | refine aWp_exit ?_ | refine end_ret ?_ | refine end_normal ?_) | ((refine rgA ?_); intro ν) | ((with_reducible apply cndT); exact rfl; (first | rfl | assumption)) | ((with_reducible apply cndF); exact rfl; (first | rfl | assumption)))
      exact ⟨8 - 4, by omega, _, _, _, 4, _, rfl, by omega, rfl, rfl, rfl, rfl⟩
    · repeat (first | with_reducible (first | refine aWp_seq ?_ | refine seq_normal ?_ | refine seq_ret ?_ | refine seq_exit ?_ | refine blk_normal ?_ | refine blk_ret ?_ | refine blk_hit ?_ | refine blk_miss rfl ?_ | refine aWp_ret ?_ | refine aWp_skip ?_ | refine aWp_block ?_ | refine aWp_exit ?_ | refine end_ret ?_ | refine end_normal ?_) | ((refine rgA ?_); intro ν) | ((with_reducible apply cndT); exact rfl; (first | rfl | assumption)) | ((with_reducible apply cndF); exact rfl; (first | rfl | assumption)))
      refine rgxA [(7,[30],[30])] ?_
      intro ν
      repeat (first | with_reducible (first | refine aWp_seq ?_ | refine seq_normal ?_ | refine seq_ret ?_ | refine seq_exit ?_ | refine blk_normal ?_ | refine blk_ret ?_ | refine blk_hit ?_ | refine blk_miss rfl ?_ | refine aWp_ret ?_ | refine aWp_skip ?_ | refine aWp_block ?_ | refine aWp_exit ?_ | refine end_ret ?_ | refine end_normal ?_) | ((refine rgA ?_); intro ν) | ((with_reducible apply cndT); exact rfl; (first | rfl | assumption)) | ((with_reducible apply cndF); exact rfl; (first | rfl | assumption)))
      exact ⟨8 - 8, by omega, _, _, _, 8, _, rfl, by omega, rfl, rfl, rfl, rfl⟩
    · omega
theorem first_spec : Spec Try.prog 47 [] (.k (.sl false 8 (aOfBytes a6))) := by
  have s1 := first_repeat false
  refine spec_of (fun _ => false) (by kernel_rfl) Try.func47 rfl rfl (by simp [Try.ntmps47]) (by decide) ?_
  intro δ
  rw [init0]
  repeat (first | with_reducible (first | refine aWp_seq ?_ | refine seq_normal ?_ | refine seq_ret ?_ | refine seq_exit ?_ | refine blk_normal ?_ | refine blk_ret ?_ | refine blk_hit ?_ | refine blk_miss rfl ?_ | refine aWp_ret ?_ | refine aWp_skip ?_ | refine aWp_block ?_ | refine aWp_exit ?_ | refine end_ret ?_ | refine end_normal ?_) | ((refine rgA ?_); intro ν) | ((with_reducible apply cndT); exact rfl; (first | rfl | assumption)) | ((with_reducible apply cndF); exact rfl; (first | rfl | assumption)))
  refine rg fun K hK => ?_
  refine stA ?_
  (first | with_reducible refine g0 ?_ | ((with_reducible refine g1 ?_ ?_); (with_reducible apply gt_); exact rfl; exact rfl; (first | rfl | assumption | (simp [*] <;> done)))); refine scA (h2 := (s1)) (hk := ?_)
  refine stA ?_
  with_reducible refine rz ?_
  refine hK _ _ _ ?_
  clear hK K; intro ν
  repeat (first | with_reducible (first | refine aWp_seq ?_ | refine seq_normal ?_ | refine seq_ret ?_ | refine seq_exit ?_ | refine blk_normal ?_ | refine blk_ret ?_ | refine blk_hit ?_ | refine blk_miss rfl ?_ | refine aWp_ret ?_ | refine aWp_skip ?_ | refine aWp_block ?_ | refine aWp_exit ?_ | refine end_ret ?_ | refine end_normal ?_) | ((refine rgA ?_); intro ν) | ((with_reducible apply cndT); exact rfl; (first | rfl | assumption)) | ((with_reducible apply cndF); exact rfl; (first | rfl | assumption)))
  (first | with_reducible refine end_r ?_ | with_reducible refine end_n ?_); refine en1 ?_
  rfl
/-- how many parts -/
def partsN (l more : Nat) : Nat := if l % 8 = 0 ∧ 2 ≤ l / 8 - more ∧ l / 8 - more ≤ 32 then l / 8 - more else 0
theorem parts_spec (full : Bool) (l : List UInt8) (more : Nat) (hm : more ≤ 1) (hl : l.length ≤ 9223372036854775807) : Spec Try.prog 46 [.sl full l.length (aOfBytes l), .int .i64 (more : Nat)] (.k (.int .i64 (partsN l.length more : Nat))) := by
  have hla := aOfBytes_len l
  refine spec_of (fun _ => false) (by kernel_rfl) Try.func46 rfl rfl (by simp [Try.ntmps46]) (by decide) ?_
  intro δ
  rw [init2]
  by_cases h1 : l.length % 8 = 0
  · have h1' : (l.length : Int) % 8 = 0 := by omega
    by_cases h2 : (l.length : Int) / 8 - (more : Int) < 2
    · rw [partsN, if_neg (by omega)]
      repeat (first | with_reducible (first | refine aWp_seq ?_ | refine seq_normal ?_ | refine seq_ret ?_ | refine seq_exit ?_ | refine blk_normal ?_ | refine blk_ret ?_ | refine blk_hit ?_ | refine blk_miss rfl ?_ | refine aWp_ret ?_ | refine aWp_skip ?_ | refine aWp_block ?_ | refine aWp_exit ?_ | refine end_ret ?_ | refine end_normal ?_) | ((refine rgA ?_); intro ν) | ((with_reducible apply cndT); exact rfl; (first | rfl | assumption)) | ((with_reducible apply cndF); exact rfl; (first | rfl | assumption)))
      (first | with_reducible refine end_r ?_ | with_reducible refine end_n ?_); refine en1 ?_
      rfl
    · by_cases h3 : 32 < (l.length : Int) / 8 - (more : Int)
      · rw [partsN, if_neg (by omega)]
        repeat (first | with_reducible (first | refine aWp_seq ?_ | refine seq_normal ?_ | refine seq_ret ?_ | refine seq_exit ?_ | refine blk_normal ?_ | refine blk_ret ?_ | refine blk_hit ?_ | refine blk_miss rfl ?_ | refine aWp_ret ?_ | refine aWp_skip ?_ | refine aWp_block ?_ | refine aWp_exit ?_ | refine end_ret ?_ | refine end_normal ?_) | ((refine rgA ?_); intro ν) | ((with_reducible apply cndT); exact rfl; (first | rfl | assumption)) | ((with_reducible apply cndF); exact rfl; (first | rfl | assumption)))
        (first | with_reducible refine end_r ?_ | with_reducible refine end_n ?_); refine en1 ?_
        rfl
      · rw [partsN, if_pos ⟨h1, by omega, by omega⟩]
        repeat (first | with_reducible (first | refine aWp_seq ?_ | refine seq_normal ?_ | refine seq_ret ?_ | refine seq_exit ?_ | refine blk_normal ?_ | refine blk_ret ?_ | refine blk_hit ?_ | refine blk_miss rfl ?_ | refine aWp_ret ?_ | refine aWp_skip ?_ | refine aWp_block ?_ | refine aWp_exit ?_ | refine end_ret ?_ | refine end_normal ?_) | ((refine rgA ?_); intro ν) | ((with_reducible apply cndT); exact rfl; (first | rfl | assumption)) | ((with_reducible apply cndF); exact rfl; (first | rfl | assumption)))
        (first | with_reducible refine end_r ?_ | with_reducible refine end_n ?_); refine en1 ?_
        rw [show ((l.length / 8 - more : Nat) : Int) = (l.length : Int) / 8 - (more : Int) by omega]
  · have h1' : ¬ (l.length : Int) % 8 = 0 := by omega
    rw [partsN, if_neg (fun h => h1 h.1)]
    repeat (first | with_reducible (first | refine aWp_seq ?_ | refine seq_normal ?_ | refine seq_ret ?_ | refine seq_exit ?_ | refine blk_normal ?_ | refine blk_ret ?_ | refine blk_hit ?_ | refine blk_miss rfl ?_ | refine aWp_ret ?_ | refine aWp_skip ?_ | refine aWp_block ?_ | refine aWp_exit ?_ | refine end_ret ?_ | refine end_normal ?_) | ((refine rgA ?_); intro ν) | ((with_reducible apply cndT); exact rfl; (first | rfl | assumption)) | ((with_reducible apply cndF); exact rfl; (first | rfl | assumption)))
    (first | with_reducible refine end_r ?_ | with_reducible refine end_n ?_); refine en1 ?_
    rfl
theorem initMw2 (x y : MA) (k : Nat) (cs : List AV) (md : Md) : initM [x, y] k cs md = ⟨upd (upd (fun _ => .k .any) 0 (x.sv k)) 1 (y.sv k), upd (fun _ => none) k (some (0, .obj cs)), 1, md⟩ := by
  unfold initM; congr 1; funext t
  match t with
  | 0 => rfl
  | 1 => rfl
  | t + 2 => simp [upd]
/-- a step's number in the first bytes -/
def cntF (S : List UInt8) (m : Int) (i : Nat) : UInt8 := S.getD i 0 ^^^ (pI [] m).getD i 0
def cntB (S : List UInt8) (m : Int) : List UInt8 := setN (cntF S m) S 8
theorem cntB_len (S : List UInt8) (m : Int) : (cntB S m).length = S.length := setN_len _ _ _
set_option maxHeartbeats 8000000 in
theorem count_spec (S : List UInt8) (m : Int) (cap : Nat) (h8 : 8 ≤ S.length) (hc : 8 ≤ cap) : MSpec Try.prog 49 [.os 0 8 cap, .k (.int .i64 m)] (aOfBytes S) (some (aOfBytes (cntB S m))) (.tup []) := by
  have s1 := aInt_spec true [] m (by simp)
  have hpl : (pI [] m).length = 8 := by rw [pI, fb_len, List.length_append, encI_len]; rfl
  have hpa := aOfBytes_len (pI [] m)
  have hfk : ∀ i, S.getD i 0 ^^^ (pI [] m).getD i 0 = cntF S m i := fun i => rfl
  unfold cntB
  generalize cntF S m = fx at *
  generalize pI [] m = W at *
  have e0 : aOfBytes [] = [] := rfl
  rw [e0] at s1
  simp only [List.length_nil] at s1
  refine mspec_of 0 (fun _ => false) false (by kernel_rfl) Try.func49 rfl rfl (by simp [Try.ntmps49]) (by decide) rfl ?_
  intro δ
  rw [initMw2]
  simp only [MA.sv]
  repeat (first | with_reducible (first | refine aWp_seq ?_ | refine seq_normal ?_ | refine seq_ret ?_ | refine seq_exit ?_ | refine blk_normal ?_ | refine blk_ret ?_ | refine blk_hit ?_ | refine blk_miss rfl ?_ | refine aWp_ret ?_ | refine aWp_skip ?_ | refine aWp_block ?_ | refine aWp_exit ?_ | refine end_ret ?_ | refine end_normal ?_) | ((refine rgA ?_); intro ν) | ((with_reducible apply cndT); exact rfl; (first | rfl | assumption)) | ((with_reducible apply cndF); exact rfl; (first | rfl | assumption)))
  refine rg fun K hK => ?_
  refine stA ?_
  (first | with_reducible refine g0 ?_ | ((with_reducible refine g1 ?_ ?_); (with_reducible apply gt_); exact rfl; exact rfl; (first | rfl | assumption | (simp [*] <;> done)))); refine scA (h2 := (s1)) (hk := ?_)
  refine stA ?_
  with_reducible refine rz ?_
  refine hK _ _ _ ?_
  clear hK K; intro ν
  repeat (first | with_reducible (first | refine aWp_seq ?_ | refine seq_normal ?_ | refine seq_ret ?_ | refine seq_exit ?_ | refine blk_normal ?_ | refine blk_ret ?_ | refine blk_hit ?_ | refine blk_miss rfl ?_ | refine aWp_ret ?_ | refine aWp_skip ?_ | refine aWp_block ?_ | refine aWp_exit ?_ | refine end_ret ?_ | refine end_normal ?_) | ((refine rgA ?_); intro ν) | ((with_reducible apply cndT); exact rfl; (first | rfl | assumption)) | ((with_reducible apply cndF); exact rfl; (first | rfl | assumption)))
  refine aWp_loop (fun k s => ∃ F T ν i, k = 8 - i ∧ i ≤ 8 ∧ s = ⟨F, T, ν, ⟨fun _ => false, δ, false⟩⟩ ∧ F 0 = .os 0 0 0 8 cap ∧ F 7 = .k (.sl false W.length (aOfBytes W)) ∧ F 8 = .k (.int .i64 (W.length : Nat)) ∧ F 9 = .k (.int .i64 (i : Nat)) ∧ T 0 = some (0, .obj (aOfBytes (setN fx S i)))) 8 ⟨_, _, _, 0, rfl, Nat.zero_le _, rfl, rfl, rfl, rfl, rfl, rfl⟩ ?_
  rintro k s ⟨F, T, ν, i, rfl, hi, rfl, f0, f7, f8, f9, t0⟩
  rw [has4 f0 f7 f8 f9, has1 t0]
  have hsl := setN_len fx S i
  have hsa := aOfBytes_len (setN fx S i)
  by_cases hli : i < 8
  · have l1 := ld_b (setN fx S i) i (by omega)
    rw [setN_get fx S i i (Nat.le_refl _)] at l1
    have l2 := ld_b W i (by omega)
    have hst := set_b (setN fx S i) (fx i) i (by omega)
    rw [show aOfBytes ((setN fx S i).set i (fx i)) = aOfBytes (setN fx S (i + 1)) from rfl, ← hfk] at hst
    repeat (first | with_reducible (first | refine aWp_seq ?_ | refine seq_normal ?_ | refine seq_ret ?_ | refine seq_exit ?_ | refine blk_normal ?_ | refine blk_ret ?_ | refine blk_hit ?_ | refine blk_miss rfl ?_ | refine aWp_ret ?_ | refine aWp_skip ?_ | refine aWp_block ?_ | refine aWp_exit ?_ | refine end_ret ?_ | refine end_normal ?_) | ((refine rgA ?_); intro ν) | ((with_reducible apply cndT); exact rfl; (first | rfl | assumption)) | ((with_reducible apply cndF); exact rfl; (first | rfl | assumption)))
    refine ⟨8 - (i + 1), by omega, _, _, _, i + 1, rfl, by omega, rfl, rfl, rfl, rfl, ?_, ?_⟩
    · show (SV.k (.int .i64 ((i : Int) + 1)) : SV) = _
      rw [Int.natCast_succ]
    · rw [upd_same]
      exact congrArg (fun q => some (0, Ent.obj q)) hst
  · have hie : i = 8 := by omega
    subst hie
    repeat (first | with_reducible (first | refine aWp_seq ?_ | refine seq_normal ?_ | refine seq_ret ?_ | refine seq_exit ?_ | refine blk_normal ?_ | refine blk_ret ?_ | refine blk_hit ?_ | refine blk_miss rfl ?_ | refine aWp_ret ?_ | refine aWp_skip ?_ | refine aWp_block ?_ | refine aWp_exit ?_ | refine end_ret ?_ | refine end_normal ?_) | ((refine rgA ?_); intro ν) | ((with_reducible apply cndT); exact rfl; (first | rfl | assumption)) | ((with_reducible apply cndF); exact rfl; (first | rfl | assumption)))
    (first | with_reducible refine end_r ?_ | with_reducible refine end_n ?_)
    exact enM0 rfl rfl rfl
end Go.Proofs.Ytjfeggkjkdbkiaa
