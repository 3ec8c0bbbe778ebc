import Derived.Test.YtjfeggkjkdbkiaaWrap4
namespace Go.Proofs.Ytjfeggkjkdbkiaa
open Go.RowKit
set_option linter.unusedVariables false
set_option linter.unusedSimpArgs false
set_option maxRecDepth 20000
def wE (k : List UInt8) (x : List UInt8) : List UInt8 := encB sL (aesK k) x (aesR k)
def wD (k : List UInt8) (x : List UInt8) : List UInt8 := decB iL (aesK k) x (aesR k)
theorem wE_len (k : List UInt8) (x : List UInt8) (h : x.length = 16) : (wE k x).length = 16 := encB_len _ _ _ _
theorem wD_len (k : List UInt8) (x : List UInt8) (h : x.length = 16) : (wD k x).length = 16 := decB_len _ _ _ _
theorem wDE (k : List UInt8) (x : List UInt8) (h : x.length = 16) : wD k (wE k x) = x := dec_enc _ _ _ h
theorem wED (k : List UInt8) (x : List UInt8) (h : x.length = 16) : wE k (wD k x) = x := enc_dec _ _ _ h
theorem wrap_ok (fk fb : Bool) (key b : List UInt8) (h : aesOk key) (hp : partsN b.length 0 ≠ 0) : Spec Try.prog 22 [.sl fk key.length (aOfBytes key), .sl fb b.length (aOfBytes b)] (.k (.tup [.sl true (wrapB (wE key) b).length (aOfBytes (wrapB (wE key) b)), .int .i64 0])) := by
  have s1 := new_spec fk key (by unfold aesOk at h; omega)
  rw [newR, if_pos h] at s1
  have hR : aesR key ≤ 1000 ∧ 0 < aesR key := by unfold aesOk at h; unfold aesR; omega
  exact wrap_walk fk fb key b _ (wE key) (wE_len key) hp s1 fun x hx => encrypt_spec sL iL (aesK key) x (aesR key) sL_len iL_len (aesK_len h) hR.1 hR.2 hx
theorem unwrap_ok (fk fb : Bool) (key b : List UInt8) (h : aesOk key) (hp : partsN b.length 1 ≠ 0) : Spec Try.prog 26 [.sl fk key.length (aOfBytes key), .sl fb b.length (aOfBytes b)] (.k (unR (unwrapB (wD key) b))) := by
  have s1 := new_spec fk key (by unfold aesOk at h; omega)
  rw [newR, if_pos h] at s1
  have hR : aesR key ≤ 1000 ∧ 0 < aesR key := by unfold aesOk at h; unfold aesR; omega
  exact unwrap_walk fk fb key b _ (wD key) (wD_len key) hp s1 fun x hx => decrypt_spec sL iL (aesK key) x (aesR key) sL_len iL_len (aesK_len h) hR.1 hR.2 hx
set_option maxHeartbeats 4000000 in
theorem wrap_bad (fk fb : Bool) (key b : List UInt8) (hk : key.length ≤ 9223372036854775807) (hb : b.length ≤ 9223372036854775807) (h : ¬ aesOk key ∨ partsN b.length 0 = 0) : Spec Try.prog 22 [.sl fk key.length (aOfBytes key), .sl fb b.length (aOfBytes b)] (.k (.tup [.sl true 0 [], .int .i64 1])) := by
  have s1 := new_spec fk key hk
  have s2 := parts_spec fb b 0 (by omega) hb
  generalize partsN b.length 0 = p at *
  refine spec_of (fun _ => false) (by kernel_rfl) Try.func22 rfl rfl (by simp [Try.ntmps22]) (by decide) ?_
  intro δ
  rw [init2]
  by_cases q : aesOk key
  · obtain rfl : p = 0 := by rcases h with h | h; exact absurd q h; exact h
    rw [newR, if_pos q, aesC] at s1
    generalize cph sL iL (aesK key) (aesR key) = C at *
    repeat (first | with_reducible (first | refine aWp_seq ?_ | refine seq_normal ?_ | refine seq_ret ?_ | refine seq_exit ?_ | refine blk_normal ?_ | refine blk_ret ?_ | refine blk_hit ?_ | refine blk_miss rfl ?_ | refine aWp_ret ?_ | refine aWp_skip ?_ | refine aWp_block ?_ | refine aWp_exit ?_ | refine end_ret ?_ | refine end_normal ?_) | ((refine rgA ?_); intro ν) | ((with_reducible apply cndT); exact rfl; (first | rfl | assumption)) | ((with_reducible apply cndF); exact rfl; (first | rfl | assumption)))
    refine rg fun K hK => ?_
    refine stA ?_
    (first | with_reducible refine g0 ?_ | ((with_reducible refine g1 ?_ ?_); (with_reducible apply gt_); exact rfl; exact rfl; (first | rfl | assumption | (simp [*] <;> done)))); refine scA (h2 := (s1)) (hk := ?_)
    refine stA ?_
    with_reducible refine rz ?_
    refine hK _ _ _ ?_
    clear hK K; intro ν
    repeat (first | with_reducible (first | refine aWp_seq ?_ | refine seq_normal ?_ | refine seq_ret ?_ | refine seq_exit ?_ | refine blk_normal ?_ | refine blk_ret ?_ | refine blk_hit ?_ | refine blk_miss rfl ?_ | refine aWp_ret ?_ | refine aWp_skip ?_ | refine aWp_block ?_ | refine aWp_exit ?_ | refine end_ret ?_ | refine end_normal ?_) | ((refine rgA ?_); intro ν) | ((with_reducible apply cndT); exact rfl; (first | rfl | assumption)) | ((with_reducible apply cndF); exact rfl; (first | rfl | assumption)))
    refine rg fun K hK => ?_
    refine stA ?_
    (first | with_reducible refine g0 ?_ | ((with_reducible refine g1 ?_ ?_); (with_reducible apply gt_); exact rfl; exact rfl; (first | rfl | assumption | (simp [*] <;> done)))); refine scA (h2 := (s2)) (hk := ?_)
    refine stA ?_
    with_reducible refine rz ?_
    refine hK _ _ _ ?_
    clear hK K; intro ν
    repeat (first | with_reducible (first | refine aWp_seq ?_ | refine seq_normal ?_ | refine seq_ret ?_ | refine seq_exit ?_ | refine blk_normal ?_ | refine blk_ret ?_ | refine blk_hit ?_ | refine blk_miss rfl ?_ | refine aWp_ret ?_ | refine aWp_skip ?_ | refine aWp_block ?_ | refine aWp_exit ?_ | refine end_ret ?_ | refine end_normal ?_) | ((refine rgA ?_); intro ν) | ((with_reducible apply cndT); exact rfl; (first | rfl | assumption)) | ((with_reducible apply cndF); exact rfl; (first | rfl | assumption)))
    (first | with_reducible refine end_r ?_ | with_reducible refine end_n ?_); refine en2 ?_
    rfl
  · rw [newR, if_neg q] at s1
    repeat (first | with_reducible (first | refine aWp_seq ?_ | refine seq_normal ?_ | refine seq_ret ?_ | refine seq_exit ?_ | refine blk_normal ?_ | refine blk_ret ?_ | refine blk_hit ?_ | refine blk_miss rfl ?_ | refine aWp_ret ?_ | refine aWp_skip ?_ | refine aWp_block ?_ | refine aWp_exit ?_ | refine end_ret ?_ | refine end_normal ?_) | ((refine rgA ?_); intro ν) | ((with_reducible apply cndT); exact rfl; (first | rfl | assumption)) | ((with_reducible apply cndF); exact rfl; (first | rfl | assumption)))
    refine rg fun K hK => ?_
    refine stA ?_
    (first | with_reducible refine g0 ?_ | ((with_reducible refine g1 ?_ ?_); (with_reducible apply gt_); exact rfl; exact rfl; (first | rfl | assumption | (simp [*] <;> done)))); refine scA (h2 := (s1)) (hk := ?_)
    refine stA ?_
    with_reducible refine rz ?_
    refine hK _ _ _ ?_
    clear hK K; intro ν
    repeat (first | with_reducible (first | refine aWp_seq ?_ | refine seq_normal ?_ | refine seq_ret ?_ | refine seq_exit ?_ | refine blk_normal ?_ | refine blk_ret ?_ | refine blk_hit ?_ | refine blk_miss rfl ?_ | refine aWp_ret ?_ | refine aWp_skip ?_ | refine aWp_block ?_ | refine aWp_exit ?_ | refine end_ret ?_ | refine end_normal ?_) | ((refine rgA ?_); intro ν) | ((with_reducible apply cndT); exact rfl; (first | rfl | assumption)) | ((with_reducible apply cndF); exact rfl; (first | rfl | assumption)))
    refine rg fun K hK => ?_
    refine stA ?_
    (first | with_reducible refine g0 ?_ | ((with_reducible refine g1 ?_ ?_); (with_reducible apply gt_); exact rfl; exact rfl; (first | rfl | assumption | (simp [*] <;> done)))); refine scA (h2 := (s2)) (hk := ?_)
    refine stA ?_
    with_reducible refine rz ?_
    refine hK _ _ _ ?_
    clear hK K; intro ν
    repeat (first | with_reducible (first | refine aWp_seq ?_ | refine seq_normal ?_ | refine seq_ret ?_ | refine seq_exit ?_ | refine blk_normal ?_ | refine blk_ret ?_ | refine blk_hit ?_ | refine blk_miss rfl ?_ | refine aWp_ret ?_ | refine aWp_skip ?_ | refine aWp_block ?_ | refine aWp_exit ?_ | refine end_ret ?_ | refine end_normal ?_) | ((refine rgA ?_); intro ν) | ((with_reducible apply cndT); exact rfl; (first | rfl | assumption)) | ((with_reducible apply cndF); exact rfl; (first | rfl | assumption)))
    (first | with_reducible refine end_r ?_ | with_reducible refine end_n ?_); refine en2 ?_
    rfl
set_option maxHeartbeats 4000000 in
theorem unwrap_bad (fk fb : Bool) (key b : List UInt8) (hk : key.length ≤ 9223372036854775807) (hb : b.length ≤ 9223372036854775807) (h : ¬ aesOk key ∨ partsN b.length 1 = 0) : Spec Try.prog 26 [.sl fk key.length (aOfBytes key), .sl fb b.length (aOfBytes b)] (.k (.tup [.sl true 0 [], .int .i64 1])) := by
  have s1 := new_spec fk key hk
  have s2 := parts_spec fb b 1 (by omega) hb
  generalize partsN b.length 1 = p at *
  refine spec_of (fun _ => false) (by kernel_rfl) Try.func26 rfl rfl (by simp [Try.ntmps26]) (by decide) ?_
  intro δ
  rw [init2]
  by_cases q : aesOk key
  · obtain rfl : p = 0 := by rcases h with h | h; exact absurd q h; exact h
    rw [newR, if_pos q, aesC] at s1
    generalize cph sL iL (aesK key) (aesR key) = C at *
    repeat (first | with_reducible (first | refine aWp_seq ?_ | refine seq_normal ?_ | refine seq_ret ?_ | refine seq_exit ?_ | refine blk_normal ?_ | refine blk_ret ?_ | refine blk_hit ?_ | refine blk_miss rfl ?_ | refine aWp_ret ?_ | refine aWp_skip ?_ | refine aWp_block ?_ | refine aWp_exit ?_ | refine end_ret ?_ | refine end_normal ?_) | ((refine rgA ?_); intro ν) | ((with_reducible apply cndT); exact rfl; (first | rfl | assumption)) | ((with_reducible apply cndF); exact rfl; (first | rfl | assumption)))
    refine rg fun K hK => ?_
    refine stA ?_
    (first | with_reducible refine g0 ?_ | ((with_reducible refine g1 ?_ ?_); (with_reducible apply gt_); exact rfl; exact rfl; (first | rfl | assumption | (simp [*] <;> done)))); refine scA (h2 := (s1)) (hk := ?_)
    refine stA ?_
    with_reducible refine rz ?_
    refine hK _ _ _ ?_
    clear hK K; intro ν
    repeat (first | with_reducible (first | refine aWp_seq ?_ | refine seq_normal ?_ | refine seq_ret ?_ | refine seq_exit ?_ | refine blk_normal ?_ | refine blk_ret ?_ | refine blk_hit ?_ | refine blk_miss rfl ?_ | refine aWp_ret ?_ | refine aWp_skip ?_ | refine aWp_block ?_ | refine aWp_exit ?_ | refine end_ret ?_ | refine end_normal ?_) | ((refine rgA ?_); intro ν) | ((with_reducible apply cndT); exact rfl; (first | rfl | assumption)) | ((with_reducible apply cndF); exact rfl; (first | rfl | assumption)))
    refine rg fun K hK => ?_
    refine stA ?_
    (first | with_reducible refine g0 ?_ | ((with_reducible refine g1 ?_ ?_); (with_reducible apply gt_); exact rfl; exact rfl; (first | rfl | assumption | (simp [*] <;> done)))); refine scA (h2 := (s2)) (hk := ?_)
    refine stA ?_
    with_reducible refine rz ?_
    refine hK _ _ _ ?_
    clear hK K; intro ν
    repeat (first | with_reducible (first | refine aWp_seq ?_ | refine seq_normal ?_ | refine seq_ret ?_ | refine seq_exit ?_ | refine blk_normal ?_ | refine blk_ret ?_ | refine blk_hit ?_ | refine blk_miss rfl ?_ | refine aWp_ret ?_ | refine aWp_skip ?_ | refine aWp_block ?_ | refine aWp_exit ?_ | refine end_ret ?_ | refine end_normal ?_) | ((refine rgA ?_); intro ν) | ((with_reducible apply cndT); exact rfl; (first | rfl | assumption)) | ((with_reducible apply cndF); exact rfl; (first | rfl | assumption)))
    (first | with_reducible refine end_r ?_ | with_reducible refine end_n ?_); refine en2 ?_
    rfl
  · rw [newR, if_neg q] at s1
    repeat (first | with_reducible (first | refine aWp_seq ?_ | refine seq_normal ?_ | refine seq_ret ?_ | refine seq_exit ?_ | refine blk_normal ?_ | refine blk_ret ?_ | refine blk_hit ?_ | refine blk_miss rfl ?_ | refine aWp_ret ?_ | refine aWp_skip ?_ | refine aWp_block ?_ | refine aWp_exit ?_ | refine end_ret ?_ | refine end_normal ?_) | ((refine rgA ?_); intro ν) | ((with_reducible apply cndT); exact rfl; (first | rfl | assumption)) | ((with_reducible apply cndF); exact rfl; (first | rfl | assumption)))
    refine rg fun K hK => ?_
    refine stA ?_
    (first | with_reducible refine g0 ?_ | ((with_reducible refine g1 ?_ ?_); (with_reducible apply gt_); exact rfl; exact rfl; (first | rfl | assumption | (simp [*] <;> done)))); refine scA (h2 := (s1)) (hk := ?_)
    refine stA ?_
    with_reducible refine rz ?_
    refine hK _ _ _ ?_
    clear hK K; intro ν
    repeat (first | with_reducible (first | refine aWp_seq ?_ | refine seq_normal ?_ | refine seq_ret ?_ | refine seq_exit ?_ | refine blk_normal ?_ | refine blk_ret ?_ | refine blk_hit ?_ | refine blk_miss rfl ?_ | refine aWp_ret ?_ | refine aWp_skip ?_ | refine aWp_block ?_ | refine aWp_exit ?_ | refine end_ret ?_ | refine end_normal ?_) | ((refine rgA ?_); intro ν) | ((with_reducible apply cndT); exact rfl; (first | rfl | assumption)) | ((with_reducible apply cndF); exact rfl; (first | rfl | assumption)))
    refine rg fun K hK => ?_
    refine stA ?_
    (first | with_reducible refine g0 ?_ | ((with_reducible refine g1 ?_ ?_); (with_reducible apply gt_); exact rfl; exact rfl; (first | rfl | assumption | (simp [*] <;> done)))); refine scA (h2 := (s2)) (hk := ?_)
    refine stA ?_
    with_reducible refine rz ?_
    refine hK _ _ _ ?_
    clear hK K; intro ν
    repeat (first | with_reducible (first | refine aWp_seq ?_ | refine seq_normal ?_ | refine seq_ret ?_ | refine seq_exit ?_ | refine blk_normal ?_ | refine blk_ret ?_ | refine blk_hit ?_ | refine blk_miss rfl ?_ | refine aWp_ret ?_ | refine aWp_skip ?_ | refine aWp_block ?_ | refine aWp_exit ?_ | refine end_ret ?_ | refine end_normal ?_) | ((refine rgA ?_); intro ν) | ((with_reducible apply cndT); exact rfl; (first | rfl | assumption)) | ((with_reducible apply cndF); exact rfl; (first | rfl | assumption)))
    (first | with_reducible refine end_r ?_ | with_reducible refine end_n ?_); refine en2 ?_
    rfl
theorem short08_spec (l : List UInt8) : Spec Try.prog 23 [.sl false l.length (aOfBytes l)] (.k (.sl false (l.take 300).length (aOfBytes (l.take 300)))) := by
  refine spec_of (fun _ => false) (by kernel_rfl) Try.func23 rfl rfl (by simp [Try.ntmps23]) (by decide) ?_
  intro δ
  rw [init1]
  have hl := aOfBytes_len l
  by_cases h : 300 < l.length
  · repeat (first | with_reducible (first | refine aWp_seq ?_ | refine seq_normal ?_ | refine seq_ret ?_ | refine seq_exit ?_ | refine blk_normal ?_ | refine blk_ret ?_ | refine blk_hit ?_ | refine blk_miss rfl ?_ | refine aWp_ret ?_ | refine aWp_skip ?_ | refine aWp_block ?_ | refine aWp_exit ?_ | refine end_ret ?_ | refine end_normal ?_) | ((refine rgA ?_); intro ν) | ((with_reducible apply cndT); exact rfl; (first | rfl | assumption)) | ((with_reducible apply cndF); exact rfl; (first | rfl | assumption)))
    (first | with_reducible refine end_r ?_ | with_reducible refine end_n ?_); refine en1 ?_
    simp [aOfBytes, List.map_take]; omega
  · repeat (first | with_reducible (first | refine aWp_seq ?_ | refine seq_normal ?_ | refine seq_ret ?_ | refine seq_exit ?_ | refine blk_normal ?_ | refine blk_ret ?_ | refine blk_hit ?_ | refine blk_miss rfl ?_ | refine aWp_ret ?_ | refine aWp_skip ?_ | refine aWp_block ?_ | refine aWp_exit ?_ | refine end_ret ?_ | refine end_normal ?_) | ((refine rgA ?_); intro ν) | ((with_reducible apply cndT); exact rfl; (first | rfl | assumption)) | ((with_reducible apply cndF); exact rfl; (first | rfl | assumption)))
    (first | with_reducible refine end_r ?_ | with_reducible refine end_n ?_); refine en1 ?_
    rw [List.take_of_length_le (by omega)]
/-! the document's example -/
def kW : List UInt8 := (List.range 16).map (fun j => UInt8.ofNat j)
def bW : List UInt8 := (List.range 16).map (fun j => UInt8.ofNat (17 * j))
theorem wW_0 : (wrapB (wE kW) bW).getD 0 0 = 31 := by decide +kernel
theorem wW_23 : (wrapB (wE kW) bW).getD 23 0 = 229 := by decide +kernel
def fwA (i : Nat) : List AV := (List.range i).map (fun (j : Nat) => AV.int .u8 (j : Int))
def fwB (i : Nat) : List AV := (List.range i).map (fun (j : Nat) => AV.int .u8 (17 * (j : Int)))
theorem fwA_next (i : Nat) : fwA i ++ [.int .u8 (i : Int)] = fwA (i + 1) := by simp [fwA, List.range_succ]
theorem fwB_next (i : Nat) : fwB i ++ [.int .u8 (17 * (i : Int))] = fwB (i + 1) := by simp [fwB, List.range_succ]
theorem fwA_len (i : Nat) : (fwA i).length = i := by simp [fwA]
theorem fwB_len (i : Nat) : (fwB i).length = i := by simp [fwB]
theorem fwA_all : fwA 16 = aOfBytes kW := rfl
theorem fwB_all : fwB 16 = aOfBytes bW := rfl
section
variable {P : Program} {F : Nat → SV} {T : Nat → Option (Nat × Ent)} {ν i : Nat} {md : Md} {K : St → Prop} {ops : List Oper}
theorem rzs2 {t d g n cap t2 d2 g2 n2 cap2 : Nat} {cs ds : List AV} (h1 : F t = .os d g 0 n cap) (h2 : T d = some (g, .obj cs)) (h3 : (upd F t (.k (.sl false n cs))) t2 = .os d2 g2 0 n2 cap2) (h4 : (upd T d none) d2 = some (g2, .obj ds))
    (h : K ⟨upd (upd F t (.k (.sl false n cs))) t2 (.k (.sl false n2 ds)), upd (upd T d none) d2 none, ν, md⟩) : aRun P ops i [] ⟨F, T, ν, md⟩ K := by
  have e1 : (cs.drop 0).take cs.length = cs := by simp
  have e2 : (ds.drop 0).take ds.length = ds := by simp
  refine ⟨_, .os ⟨F, T, ν, md⟩ _ t d g 0 n cap cs.length cs h1 h2 (by omega) ?_, h⟩
  rw [e1]
  have q := Ghs.os ⟨upd F t (.k (.sl false n cs)), upd T d none, ν, md⟩ ⟨upd (upd F t (.k (.sl false n cs))) t2 (.k (.sl false n2 ds)), upd (upd T d none) d2 none, ν, md⟩ t2 d2 g2 0 n2 cap2 ds.length ds h3 h4 (by omega) (by rw [e2]; exact .refl _)
  exact q
end
set_option maxHeartbeats 8000000 in
theorem awake08_walk (k b x : List UInt8) (hk : k.length = 16) (hb' : b.length = 16) (hx : x.length = 24) (fa : fwA 16 = aOfBytes k) (fb : fwB 16 = aOfBytes b)
    (l0 : ldAgg (.int .u8) 1 (List.drop 0 (aOfBytes x)) = some (.int .u8 31)) (l23 : ldAgg (.int .u8) 1 (List.drop 23 (aOfBytes x)) = some (.int .u8 229))
    (s1 : Spec Try.prog 22 [.sl false 16 (aOfBytes k), .sl false 16 (aOfBytes b)] (.k (.tup [.sl true 24 (aOfBytes x), .int .i64 0])))
    (s2 : Spec Try.prog 26 [.sl false 16 (aOfBytes k), .sl true 24 (aOfBytes x)] (.k (.tup [.sl false 16 (aOfBytes b), .int .i64 0])))
    (s3 : Spec Try.prog 22 [.sl false 16 (aOfBytes k), .sl false 8 (List.take 8 (aOfBytes b))] (.k (.tup [.sl true 0 [], .int .i64 1]))) :
    Spec Try.prog 25 [] (.k (.bool true)) := by
  refine spec_of (fun t => t == 10 || t == 11) (by kernel_rfl) Try.func25 rfl rfl (by simp [Try.ntmps25]) (by decide) ?_
  intro δ
  rw [init0]
  repeat (first | with_reducible (first | refine aWp_seq ?_ | refine seq_normal ?_ | refine seq_ret ?_ | refine seq_exit ?_ | refine blk_normal ?_ | refine blk_ret ?_ | refine blk_hit ?_ | refine blk_miss rfl ?_ | refine aWp_ret ?_ | refine aWp_skip ?_ | refine aWp_block ?_ | refine aWp_exit ?_ | refine end_ret ?_ | refine end_normal ?_) | ((refine rgA ?_); intro ν) | ((with_reducible apply cndT); exact rfl; (first | rfl | assumption)) | ((with_reducible apply cndF); exact rfl; (first | rfl | assumption)))
  refine rgxA [] ?_
  intro ν
  repeat (first | with_reducible (first | refine aWp_seq ?_ | refine seq_normal ?_ | refine seq_ret ?_ | refine seq_exit ?_ | refine blk_normal ?_ | refine blk_ret ?_ | refine blk_hit ?_ | refine blk_miss rfl ?_ | refine aWp_ret ?_ | refine aWp_skip ?_ | refine aWp_block ?_ | refine aWp_exit ?_ | refine end_ret ?_ | refine end_normal ?_) | ((refine rgA ?_); intro ν) | ((with_reducible apply cndT); exact rfl; (first | rfl | assumption)) | ((with_reducible apply cndF); exact rfl; (first | rfl | assumption)))
  refine aWp_loop (fun m s => ∃ F Tb ν i ga gb, m = 16 - i ∧ i ≤ 16 ∧ s = ⟨F, Tb, ν, ⟨fun t => t == 10 || t == 11, δ, false⟩⟩ ∧
    F 1 = .os 10 ga 0 16 16 ∧ F 2 = .os 11 gb 0 16 16 ∧ F 3 = .k (.int .i64 (i : Nat)) ∧ Tb 10 = some (ga, .obj (fwA i ++ List.replicate (16 - i) (.int .u8 0))) ∧ Tb 11 = some (gb, .obj (fwB i ++ List.replicate (16 - i) (.int .u8 0)))) 16 ⟨_, _, _, 0, _, _, rfl, Nat.zero_le _, rfl, rfl, rfl, rfl, rfl, rfl⟩ ?_
  rintro m s ⟨F, Tb, ν, i, ga, gb, rfl, hi, rfl, f1, f2, f3, t1, t2⟩
  rw [has3 f1 f2 f3, has2 t1 t2]
  have ha := fwA_len i
  have hb := fwB_len i
  have hal : (fwA i ++ List.replicate (16 - i) (AV.int .u8 0)).length = 16 := by rw [List.length_append, ha, List.length_replicate]; omega
  have hbl : (fwB i ++ List.replicate (16 - i) (AV.int .u8 0)).length = 16 := by rw [List.length_append, hb, List.length_replicate]; omega
  by_cases hlt : i < 16
  · have hA := fill_next (xs := fwA i) (z := AV.int .u8 0) (v := .int .u8 (i : Int)) (t := i) (n := 16) (by omega) hlt
    have hB := fill_next (xs := fwB i) (z := AV.int .u8 0) (v := .int .u8 (17 * (i : Int))) (t := i) (n := 16) (by omega) hlt
    repeat (first | with_reducible (first | refine aWp_seq ?_ | refine seq_normal ?_ | refine seq_ret ?_ | refine seq_exit ?_ | refine blk_normal ?_ | refine blk_ret ?_ | refine blk_hit ?_ | refine blk_miss rfl ?_ | refine aWp_ret ?_ | refine aWp_skip ?_ | refine aWp_block ?_ | refine aWp_exit ?_ | refine end_ret ?_ | refine end_normal ?_) | ((refine rgA ?_); intro ν) | ((with_reducible apply cndT); exact rfl; (first | rfl | assumption)) | ((with_reducible apply cndF); exact rfl; (first | rfl | assumption)))
    refine ⟨16 - (i + 1), by omega, _, _, _, i + 1, ga, gb, rfl, by omega, rfl, rfl, rfl, ?_, ?_, ?_⟩
    · show (SV.k (.int .i64 ((i : Int) + 1)) : SV) = _
      rw [Int.natCast_succ]
    · exact congrArg (fun q => some (ga, Ent.obj q)) (hA.trans (by rw [fwA_next]))
    · exact congrArg (fun q => some (gb, Ent.obj q)) (hB.trans (by rw [fwB_next]))
  · have hie : i = 16 := by omega
    subst hie
    rw [Nat.sub_self, List.replicate_zero, List.append_nil, List.append_nil, fa, fb]
    have hka := aOfBytes_len k
    have hba := aOfBytes_len b
    have hxa := aOfBytes_len x
    repeat with_reducible (first | refine aWp_seq ?_ | refine seq_normal ?_ | refine seq_ret ?_ | refine seq_exit ?_ | refine blk_normal ?_ | refine blk_ret ?_ | refine blk_hit ?_ | refine blk_miss rfl ?_ | refine aWp_ret ?_ | refine aWp_skip ?_ | refine aWp_block ?_ | refine aWp_exit ?_ | refine end_ret ?_ | refine end_normal ?_)
    refine rg fun K hK => ?_
    refine stA ?_
    refine rzs2 (t := 1) (t2 := 2) rfl rfl rfl rfl ?_
    refine hK _ _ _ ?_
    clear hK K; intro ν
    repeat (first | with_reducible (first | refine aWp_seq ?_ | refine seq_normal ?_ | refine seq_ret ?_ | refine seq_exit ?_ | refine blk_normal ?_ | refine blk_ret ?_ | refine blk_hit ?_ | refine blk_miss rfl ?_ | refine aWp_ret ?_ | refine aWp_skip ?_ | refine aWp_block ?_ | refine aWp_exit ?_ | refine end_ret ?_ | refine end_normal ?_) | ((refine rgA ?_); intro ν) | ((with_reducible apply cndT); exact rfl; (first | rfl | assumption)) | ((with_reducible apply cndF); exact rfl; (first | rfl | assumption)))
    refine rg fun K hK => ?_
    refine stA ?_
    (first | with_reducible refine g0 ?_ | ((with_reducible refine g1 ?_ ?_); (with_reducible apply gt_); exact rfl; exact rfl; (first | rfl | assumption | (simp [*] <;> done)))); refine scA (h2 := (s1)) (hk := ?_)
    refine stA ?_
    with_reducible refine rz ?_
    refine hK _ _ _ ?_
    clear hK K; intro ν
    repeat (first | with_reducible (first | refine aWp_seq ?_ | refine seq_normal ?_ | refine seq_ret ?_ | refine seq_exit ?_ | refine blk_normal ?_ | refine blk_ret ?_ | refine blk_hit ?_ | refine blk_miss rfl ?_ | refine aWp_ret ?_ | refine aWp_skip ?_ | refine aWp_block ?_ | refine aWp_exit ?_ | refine end_ret ?_ | refine end_normal ?_) | ((refine rgA ?_); intro ν) | ((with_reducible apply cndT); exact rfl; (first | rfl | assumption)) | ((with_reducible apply cndF); exact rfl; (first | rfl | assumption)))
    refine rg fun K hK => ?_
    refine stA ?_
    (first | with_reducible refine g0 ?_ | ((with_reducible refine g1 ?_ ?_); (with_reducible apply gt_); exact rfl; exact rfl; (first | rfl | assumption | (simp [*] <;> done)))); refine scA (h2 := (s2)) (hk := ?_)
    refine stA ?_
    with_reducible refine rz ?_
    refine hK _ _ _ ?_
    clear hK K; intro ν
    repeat (first | with_reducible (first | refine aWp_seq ?_ | refine seq_normal ?_ | refine seq_ret ?_ | refine seq_exit ?_ | refine blk_normal ?_ | refine blk_ret ?_ | refine blk_hit ?_ | refine blk_miss rfl ?_ | refine aWp_ret ?_ | refine aWp_skip ?_ | refine aWp_block ?_ | refine aWp_exit ?_ | refine end_ret ?_ | refine end_normal ?_) | ((refine rgA ?_); intro ν) | ((with_reducible apply cndT); exact rfl; (first | rfl | assumption)) | ((with_reducible apply cndF); exact rfl; (first | rfl | assumption)))
    refine rg fun K hK => ?_
    refine stA ?_
    (first | with_reducible refine g0 ?_ | ((with_reducible refine g1 ?_ ?_); (with_reducible apply gt_); exact rfl; exact rfl; (first | rfl | assumption | (simp [*] <;> done)))); refine scA (h2 := (s3)) (hk := ?_)
    refine stA ?_
    with_reducible refine rz ?_
    refine hK _ _ _ ?_
    clear hK K; intro ν
    repeat (first | with_reducible (first | refine aWp_seq ?_ | refine seq_normal ?_ | refine seq_ret ?_ | refine seq_exit ?_ | refine blk_normal ?_ | refine blk_ret ?_ | refine blk_hit ?_ | refine blk_miss rfl ?_ | refine aWp_ret ?_ | refine aWp_skip ?_ | refine aWp_block ?_ | refine aWp_exit ?_ | refine end_ret ?_ | refine end_normal ?_) | ((refine rgA ?_); intro ν) | ((with_reducible apply cndT); exact rfl; (first | rfl | assumption)) | ((with_reducible apply cndF); exact rfl; (first | rfl | assumption)))
    (first | with_reducible refine end_r ?_ | with_reducible refine end_n ?_); refine en1 ?_
    rfl
theorem awake08_spec : Spec Try.prog 25 [] (.k (.bool true)) := by
  have e16 : kW.length = 16 := rfl
  have b16 : bW.length = 16 := rfl
  have hok : aesOk kW := .inl e16
  obtain ⟨h1, h2⟩ := unwrap_wrap (wE_len kW) (wDE kW) bW (by rw [b16]) (by rw [b16]; omega)
  have hx : (wrapB (wE kW) bW).length = 24 := by rw [h2, b16]
  have s1 := wrap_ok false false kW bW hok (by rw [b16]; decide)
  have s2 := unwrap_ok false true kW (wrapB (wE kW) bW) hok (by rw [hx]; decide)
  have s3 := wrap_bad false false kW (bW.take 8) (by rw [e16]; omega) (by simp [b16]) (.inr (by decide))
  rw [h1, unR, e16, hx, b16] at s2
  rw [e16, b16, hx] at s1
  rw [e16, bytes_take'] at s3
  have l0 := ld_b (wrapB (wE kW) bW) 0 (by rw [hx]; omega)
  have l23 := ld_b (wrapB (wE kW) bW) 23 (by rw [hx]; omega)
  rw [wW_0] at l0
  rw [wW_23] at l23
  exact awake08_walk kW bW _ e16 b16 hx fwA_all fwB_all l0 l23 s1 s2 s3
end Go.Proofs.Ytjfeggkjkdbkiaa
