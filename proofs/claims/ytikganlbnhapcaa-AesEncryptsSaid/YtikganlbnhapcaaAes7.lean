import Derived.Test.YtikganlbnhapcaaAesP
import Derived.Test.YtikganlbnhapcaaAvCut
namespace Go.Proofs.Ytikganlbnhapcaa
open Go.RowKit
set_option linter.unusedVariables false
set_option linter.unusedSimpArgs false
set_option maxRecDepth 20000
/-! law04: a key of a size that may be -/
def sizeN (n : UInt8) : Nat := 16 + 8 * (n.toNat % 3)
def sizedB (key : List UInt8) (n : UInt8) : List UInt8 := key.take (sizeN n) ++ List.replicate (sizeN n - key.length) 0
theorem sizedB_len (key : List UInt8) (n : UInt8) : (sizedB key n).length = sizeN n := by
  unfold sizedB; rw [List.length_append, List.length_take, List.length_replicate]; omega
theorem sizedB_ok (key : List UInt8) (n : UInt8) : aesOk (sizedB key n) := by
  unfold aesOk; rw [sizedB_len]; unfold sizeN; omega
theorem sizedB_aes (key : List UInt8) (n : UInt8) : newR (sizedB key n) = .tup [aesC (sizedB key n), .int .i64 0] := by rw [newR, if_pos (sizedB_ok key n)]
theorem rep_eq' (n : Nat) : List.replicate n (AV.int .u8 0) = aOfBytes (List.replicate n 0) := by simp [aOfBytes]
theorem aZ1 (n : Nat) (z : AV) : aZeros n 1 [z] = List.replicate n z := by
  unfold aZeros
  apply List.ext_getElem
  · simp
  · intro i h1 h2
    simp [Nat.mod_one]
set_option maxHeartbeats 4000000 in
theorem sized_spec (full : Bool) (key : List UInt8) (n : UInt8) : Spec Try.prog 19 [.sl full key.length (aOfBytes key), .int .u8 (n.toNat : Int)] (.k (.sl false (sizedB key n).length (aOfBytes (sizedB key n)))) := by
  refine spec_of (fun t => t == 11) (by kernel_rfl) Try.func19 rfl rfl (by simp [Try.ntmps19]) (by decide) ?_
  intro δ
  rw [init2]
  have hka := aOfBytes_len key
  have hn : 16 + 8 * ((n.toNat : Int) % 3) = ((sizeN n : Nat) : Int) := by unfold sizeN; omega
  have hm : sizeN n ≤ 32 := by unfold sizeN; omega
  have hz1 : key.length ≤ sizeN n → List.take (sizeN n) (List.take (sizeN n) (aOfBytes key) ++ List.drop key.length (List.replicate (sizeN n) (AV.int .u8 0))) = aOfBytes (sizedB key n) := fun h => by
    rw [sizedB, aOfBytes_append, bytes_take', List.drop_replicate, List.take_of_length_le (by rw [List.length_append, List.length_take, List.length_replicate]; omega), rep_eq']
  have hz2 : ¬ key.length ≤ sizeN n → List.take (sizeN n) (List.take (sizeN n) (aOfBytes key) ++ List.drop (sizeN n) (List.replicate (sizeN n) (AV.int .u8 0))) = aOfBytes (sizedB key n) := fun h => by
    rw [sizedB, aOfBytes_append, bytes_take', List.drop_replicate, List.take_of_length_le (by rw [List.length_append, List.length_take, List.length_replicate]; omega), ← rep_eq', show sizeN n - key.length = 0 by omega, Nat.sub_self]
  repeat with_reducible (first | refine aWp_seq ?_ | refine seq_normal ?_ | refine seq_ret ?_ | refine seq_exit ?_ | refine blk_normal ?_ | refine blk_ret ?_ | refine blk_hit ?_ | refine blk_miss rfl ?_ | refine aWp_ret ?_ | refine aWp_skip ?_ | refine aWp_block ?_ | refine aWp_exit ?_ | refine end_ret ?_ | refine end_normal ?_)
  refine rgA ?_
  intro ν
  repeat with_reducible (first | refine aWp_seq ?_ | refine seq_normal ?_ | refine seq_ret ?_ | refine seq_exit ?_ | refine blk_normal ?_ | refine blk_ret ?_ | refine blk_hit ?_ | refine blk_miss rfl ?_ | refine aWp_ret ?_ | refine aWp_skip ?_ | refine aWp_block ?_ | refine aWp_exit ?_ | refine end_ret ?_ | refine end_normal ?_)
  refine rgA ?_
  intro ν
  rw [hn]
  by_cases h : key.length ≤ sizeN n
  · repeat (first | with_reducible (first | refine aWp_seq ?_ | refine seq_normal ?_ | refine seq_ret ?_ | refine seq_exit ?_ | refine blk_normal ?_ | refine blk_ret ?_ | refine blk_hit ?_ | refine blk_miss rfl ?_ | refine aWp_ret ?_ | refine aWp_skip ?_ | refine aWp_block ?_ | refine aWp_exit ?_ | refine end_ret ?_ | refine end_normal ?_) | ((refine rgA ?_); intro ν) | ((with_reducible apply cndT); exact rfl; (first | rfl | assumption)) | ((with_reducible apply cndF); exact rfl; (first | rfl | assumption)))
    (first | with_reducible refine end_r ?_ | with_reducible refine end_n ?_); refine en1 ?_
    rw [sizedB_len, aZ1, Int.toNat_natCast, hz1 h]
  · repeat (first | with_reducible (first | refine aWp_seq ?_ | refine seq_normal ?_ | refine seq_ret ?_ | refine seq_exit ?_ | refine blk_normal ?_ | refine blk_ret ?_ | refine blk_hit ?_ | refine blk_miss rfl ?_ | refine aWp_ret ?_ | refine aWp_skip ?_ | refine aWp_block ?_ | refine aWp_exit ?_ | refine end_ret ?_ | refine end_normal ?_) | ((refine rgA ?_); intro ν) | ((with_reducible apply cndT); exact rfl; (first | rfl | assumption)) | ((with_reducible apply cndF); exact rfl; (first | rfl | assumption)))
    (first | with_reducible refine end_r ?_ | with_reducible refine end_n ?_); refine en1 ?_
    rw [sizedB_len, aZ1, Int.toNat_natCast, hz2 h]
/-! the document's example -/
def kA : List UInt8 := (List.range 16).map (fun j => UInt8.ofNat j)
def bA : List UInt8 := (List.range 16).map (fun j => UInt8.ofNat (17 * j))
def xA : List UInt8 := [0x69, 0xc4, 0xe0, 0xd8, 0x6a, 0x7b, 0x04, 0x30, 0xd8, 0xcd, 0xb7, 0x80, 0x70, 0xb4, 0xc5, 0x5a]
theorem encA : encB sL (aesK kA) bA 11 = xA := by decide +kernel
def fA (i : Nat) : List AV := (List.range i).map (fun (j : Nat) => AV.int .u8 (j : Int))
def fB (i : Nat) : List AV := (List.range i).map (fun (j : Nat) => AV.int .u8 (17 * (j : Int)))
theorem fA_next (i : Nat) : fA i ++ [.int .u8 (i : Int)] = fA (i + 1) := by simp [fA, List.range_succ]
theorem fB_next (i : Nat) : fB i ++ [.int .u8 (17 * (i : Int))] = fB (i + 1) := by simp [fB, List.range_succ]
theorem fA_len (i : Nat) : (fA i).length = i := by simp [fA]
theorem fB_len (i : Nat) : (fB i).length = i := by simp [fB]
theorem fA_all : fA 16 = aOfBytes kA := rfl
theorem fB_all : fB 16 = aOfBytes bA := rfl
theorem xA_0 : xA.getD 0 0 = 105 := rfl
set_option maxHeartbeats 8000000 in
theorem awake04_walk (k b x : List UInt8) (C : List AV) (hk : k.length = 16) (hb' : b.length = 16) (hx : x.length = 16) (fa : fA 16 = aOfBytes k) (fb : fB 16 = aOfBytes b)
    (l0 : ldAgg (.int .u8) 1 (List.drop 0 (aOfBytes x)) = some (.int .u8 105)) (l1 : ldAgg (.int .u8) 1 (List.drop 1 (aOfBytes x)) = some (.int .u8 196)) (l15 : ldAgg (.int .u8) 1 (List.drop 15 (aOfBytes x)) = some (.int .u8 90))
    (s1 : Spec Try.prog 18 [.sl false 16 (aOfBytes k)] (.k (.tup [.cp C, .int .i64 0])))
    (s2 : Spec Try.prog 21 [.cp C, .agg (aOfBytes b)] (.k (.agg (aOfBytes x))))
    (s3 : Spec Try.prog 22 [.cp C, .agg (aOfBytes x)] (.k (.agg (aOfBytes b))))
    (s4 : Spec Try.prog 18 [.sl false 15 (List.take 15 (aOfBytes k))] (.k (.tup [.raw (.pointer none), .int .i64 1]))) :
    Spec Try.prog 23 [] (.k (.bool true)) := by
  refine spec_of (fun t => t == 9) (by kernel_rfl) Try.func23 rfl rfl (by simp [Try.ntmps23]) (by decide) ?_
  intro δ
  rw [init0]
  repeat (first | with_reducible (first | refine aWp_seq ?_ | refine seq_normal ?_ | refine seq_ret ?_ | refine seq_exit ?_ | refine blk_normal ?_ | refine blk_ret ?_ | refine blk_hit ?_ | refine blk_miss rfl ?_ | refine aWp_ret ?_ | refine aWp_skip ?_ | refine aWp_block ?_ | refine aWp_exit ?_ | refine end_ret ?_ | refine end_normal ?_) | ((refine rgA ?_); intro ν) | ((with_reducible apply cndT); exact rfl; (first | rfl | assumption)) | ((with_reducible apply cndF); exact rfl; (first | rfl | assumption)))
  refine aWp_loop (fun m s => ∃ F Tb ν i g1 g2, m = 16 - i ∧ i ≤ 16 ∧ s = ⟨F, Tb, ν, ⟨fun t => t == 9, δ, false⟩⟩ ∧
    F 1 = .os 9 g1 0 16 16 ∧ F 2 = .ob 2 g2 0 ∧ F 3 = .k (.int .i64 (i : Nat)) ∧ Tb 9 = some (g1, .obj (fA i ++ List.replicate (16 - i) (.int .u8 0))) ∧ Tb 2 = some (g2, .obj (fB i ++ List.replicate (16 - i) (.int .u8 0)))) 16 ⟨_, _, _, 0, _, _, rfl, Nat.zero_le _, rfl, rfl, rfl, rfl, rfl, rfl⟩ ?_
  rintro m s ⟨F, Tb, ν, i, g1, g2, rfl, hi, rfl, f1, f2, f3, t1, t2⟩
  rw [has3 f1 f2 f3, has2 t1 t2]
  have ha := fA_len i
  have hb := fB_len i
  have hal : (fA i ++ List.replicate (16 - i) (AV.int .u8 0)).length = 16 := by rw [List.length_append, ha, List.length_replicate]; omega
  have hbl : (fB i ++ List.replicate (16 - i) (AV.int .u8 0)).length = 16 := by rw [List.length_append, hb, List.length_replicate]; omega
  by_cases hlt : i < 16
  · have hA := fill_next (xs := fA i) (z := AV.int .u8 0) (v := .int .u8 (i : Int)) (t := i) (n := 16) (by omega) hlt
    have hB := fill_next (xs := fB i) (z := AV.int .u8 0) (v := .int .u8 (17 * (i : Int))) (t := i) (n := 16) (by omega) hlt
    repeat (first | with_reducible (first | refine aWp_seq ?_ | refine seq_normal ?_ | refine seq_ret ?_ | refine seq_exit ?_ | refine blk_normal ?_ | refine blk_ret ?_ | refine blk_hit ?_ | refine blk_miss rfl ?_ | refine aWp_ret ?_ | refine aWp_skip ?_ | refine aWp_block ?_ | refine aWp_exit ?_ | refine end_ret ?_ | refine end_normal ?_) | ((refine rgA ?_); intro ν) | ((with_reducible apply cndT); exact rfl; (first | rfl | assumption)) | ((with_reducible apply cndF); exact rfl; (first | rfl | assumption)))
    refine ⟨16 - (i + 1), by omega, _, _, _, i + 1, g1, g2, rfl, by omega, rfl, rfl, rfl, ?_, ?_, ?_⟩
    · show (SV.k (.int .i64 ((i : Int) + 1)) : SV) = _
      rw [Int.natCast_succ]
    · exact congrArg (fun q => some (g1, Ent.obj q)) (hA.trans (by rw [fA_next]))
    · exact congrArg (fun q => some (g2, Ent.obj q)) (hB.trans (by rw [fB_next]))
  · have hie : i = 16 := by omega
    subst hie
    rw [Nat.sub_self, List.replicate_zero, List.append_nil, List.append_nil, fa, fb]
    have hka := aOfBytes_len k
    have hba := aOfBytes_len b
    have hxa := aOfBytes_len x
    have lb := ld_arr (n := 16) (e := 5) (aOfBytes b) (sz := 16) (by omega)
    have lx := ld_arr (n := 16) (e := 5) (aOfBytes x) (sz := 16) (by omega)
    repeat with_reducible (first | refine aWp_seq ?_ | refine seq_normal ?_ | refine seq_ret ?_ | refine seq_exit ?_ | refine blk_normal ?_ | refine blk_ret ?_ | refine blk_hit ?_ | refine blk_miss rfl ?_ | refine aWp_ret ?_ | refine aWp_skip ?_ | refine aWp_block ?_ | refine aWp_exit ?_ | refine end_ret ?_ | refine end_normal ?_)
    refine rg fun K hK => ?_
    refine stA ?_
    refine rzs (t := 1) rfl rfl ?_
    refine hK _ _ _ ?_
    clear hK K; intro ν
    repeat (first | with_reducible (first | refine aWp_seq ?_ | refine seq_normal ?_ | refine seq_ret ?_ | refine seq_exit ?_ | refine blk_normal ?_ | refine blk_ret ?_ | refine blk_hit ?_ | refine blk_miss rfl ?_ | refine aWp_ret ?_ | refine aWp_skip ?_ | refine aWp_block ?_ | refine aWp_exit ?_ | refine end_ret ?_ | refine end_normal ?_) | ((refine rgA ?_); intro ν) | ((with_reducible apply cndT); exact rfl; (first | rfl | assumption)) | ((with_reducible apply cndF); exact rfl; (first | rfl | assumption)))
    refine rg fun K hK => ?_
    refine stA ?_
    (first | with_reducible refine g0 ?_ | ((with_reducible refine g1 ?_ ?_); (with_reducible apply gt_); exact rfl; exact rfl; (first | rfl | assumption | (simp [*] <;> done)))); refine scA (h2 := (s1)) (hk := ?_)
    refine stA ?_
    with_reducible refine rz ?_
    refine hK _ _ _ ?_
    clear hK K; intro ν
    repeat (first | with_reducible (first | refine aWp_seq ?_ | refine seq_normal ?_ | refine seq_ret ?_ | refine seq_exit ?_ | refine blk_normal ?_ | refine blk_ret ?_ | refine blk_hit ?_ | refine blk_miss rfl ?_ | refine aWp_ret ?_ | refine aWp_skip ?_ | refine aWp_block ?_ | refine aWp_exit ?_ | refine end_ret ?_ | refine end_normal ?_) | ((refine rgA ?_); intro ν) | ((with_reducible apply cndT); exact rfl; (first | rfl | assumption)) | ((with_reducible apply cndF); exact rfl; (first | rfl | assumption)))
    refine rg fun K hK => ?_
    refine stA ?_
    (first | with_reducible refine g0 ?_ | ((with_reducible refine g1 ?_ ?_); (with_reducible apply gt_); exact rfl; exact rfl; (first | rfl | assumption | (simp [*] <;> done)))); refine scA (h2 := (s2)) (hk := ?_)
    refine stA ?_
    with_reducible refine rz ?_
    refine hK _ _ _ ?_
    clear hK K; intro ν
    rw [drop_rep, List.append_nil]
    repeat (first | with_reducible (first | refine aWp_seq ?_ | refine seq_normal ?_ | refine seq_ret ?_ | refine seq_exit ?_ | refine blk_normal ?_ | refine blk_ret ?_ | refine blk_hit ?_ | refine blk_miss rfl ?_ | refine aWp_ret ?_ | refine aWp_skip ?_ | refine aWp_block ?_ | refine aWp_exit ?_ | refine end_ret ?_ | refine end_normal ?_) | ((refine rgA ?_); intro ν) | ((with_reducible apply cndT); exact rfl; (first | rfl | assumption)) | ((with_reducible apply cndF); exact rfl; (first | rfl | assumption)))
    refine rg fun K hK => ?_
    refine stA ?_
    (first | with_reducible refine g0 ?_ | ((with_reducible refine g1 ?_ ?_); (with_reducible apply gt_); exact rfl; exact rfl; (first | rfl | assumption | (simp [*] <;> done)))); refine scA (h2 := (s4)) (hk := ?_)
    refine stA ?_
    with_reducible refine rz ?_
    refine hK _ _ _ ?_
    clear hK K; intro ν
    repeat (first | with_reducible (first | refine aWp_seq ?_ | refine seq_normal ?_ | refine seq_ret ?_ | refine seq_exit ?_ | refine blk_normal ?_ | refine blk_ret ?_ | refine blk_hit ?_ | refine blk_miss rfl ?_ | refine aWp_ret ?_ | refine aWp_skip ?_ | refine aWp_block ?_ | refine aWp_exit ?_ | refine end_ret ?_ | refine end_normal ?_) | ((refine rgA ?_); intro ν) | ((with_reducible apply cndT); exact rfl; (first | rfl | assumption)) | ((with_reducible apply cndF); exact rfl; (first | rfl | assumption)))
    refine rgx [(8,[6],[]),(13,[6],[]),(18,[6],[]),(23,[6],[]),(25,[2],[])] (by kernel_rfl) fun K hK => ?_
    refine stxA ?_
    ((first | ((with_reducible refine x0 ?_ ?_); exact rfl) | ((with_reducible refine x1 ?_ ?_ ?_); exact rfl; (with_reducible apply gt_); exact rfl; exact rfl; (first | rfl | assumption | (simp [*] <;> done)))); refine xcA (h2 := (s3)) (hk := ?_))
    refine stxA ?_
    with_reducible refine xz ?_
    refine hK _ _ _ ?_
    clear hK K; intro ν
    repeat (first | with_reducible (first | refine aWp_seq ?_ | refine seq_normal ?_ | refine seq_ret ?_ | refine seq_exit ?_ | refine blk_normal ?_ | refine blk_ret ?_ | refine blk_hit ?_ | refine blk_miss rfl ?_ | refine aWp_ret ?_ | refine aWp_skip ?_ | refine aWp_block ?_ | refine aWp_exit ?_ | refine end_ret ?_ | refine end_normal ?_) | ((refine rgA ?_); intro ν) | ((with_reducible apply cndT); exact rfl; (first | rfl | assumption)) | ((with_reducible apply cndF); exact rfl; (first | rfl | assumption)))
    (first | with_reducible refine end_r ?_ | with_reducible refine end_n ?_); refine en1 ?_
    rfl
theorem awake04_spec : Spec Try.prog 23 [] (.k (.bool true)) := by
  have s1 := new_spec false kA (by decide)
  have s4 := new_spec false (kA.take 15) (by decide)
  rw [newR, if_pos (by decide)] at s1
  rw [newR, if_neg (by decide)] at s4
  rw [bytes_take'] at s4
  have e15 : (kA.take 15).length = 15 := rfl
  rw [e15] at s4
  have e16 : kA.length = 16 := rfl
  have hKl := aesK_len (key := kA) (.inl e16)
  have hR : aesR kA = 11 := rfl
  unfold aesC at s1
  rw [hR] at s1 hKl
  rw [e16] at s1
  have s2 := encrypt_spec sL iL (aesK kA) bA 11 sL_len iL_len hKl (by decide) (by decide) rfl
  have s3 := decrypt_spec sL iL (aesK kA) (encB sL (aesK kA) bA 11) 11 sL_len iL_len hKl (by decide) (by decide) (encB_len _ _ _ _)
  rw [dec_enc (aesK kA) bA 11 rfl] at s3
  rw [encA] at s2 s3
  exact awake04_walk kA bA xA _ rfl rfl rfl fA_all fB_all rfl rfl rfl s1 s2 s3 s4
end Go.Proofs.Ytikganlbnhapcaa
