import Derived.Test.YtmbnclpgldglnaaSha3
import Derived.Test.YtmbnclpgldglnaaParts
import Derived.Test.YtmbnclpgldglnaaAvBytes
namespace Go.Proofs.Ytmbnclpgldglnaa
open Go.RowKit
set_option linter.unusedVariables false
set_option linter.unusedSimpArgs false
set_option maxRecDepth 20000
def wordsK : List (BitVec 32) := [0x428a2f98#32, 0x71374491#32, 0xb5c0fbcf#32, 0xe9b5dba5#32, 0x3956c25b#32, 0x59f111f1#32, 0x923f82a4#32, 0xab1c5ed5#32, 0xd807aa98#32, 0x12835b01#32, 0x243185be#32, 0x550c7dc3#32, 0x72be5d74#32, 0x80deb1fe#32, 0x9bdc06a7#32, 0xc19bf174#32, 0xe49b69c1#32, 0xefbe4786#32, 0x0fc19dc6#32, 0x240ca1cc#32, 0x2de92c6f#32, 0x4a7484aa#32, 0x5cb0a9dc#32, 0x76f988da#32, 0x983e5152#32, 0xa831c66d#32, 0xb00327c8#32, 0xbf597fc7#32, 0xc6e00bf3#32, 0xd5a79147#32, 0x06ca6351#32, 0x14292967#32, 0x27b70a85#32, 0x2e1b2138#32, 0x4d2c6dfc#32, 0x53380d13#32, 0x650a7354#32, 0x766a0abb#32, 0x81c2c92e#32, 0x92722c85#32, 0xa2bfe8a1#32, 0xa81a664b#32, 0xc24b8b70#32, 0xc76c51a3#32, 0xd192e819#32, 0xd6990624#32, 0xf40e3585#32, 0x106aa070#32, 0x19a4c116#32, 0x1e376c08#32, 0x2748774c#32, 0x34b0bcb5#32, 0x391c0cb3#32, 0x4ed8aa4a#32, 0x5b9cca4f#32, 0x682e6ff3#32, 0x748f82ee#32, 0x78a5636f#32, 0x84c87814#32, 0x8cc70208#32, 0x90befffa#32, 0xa4506ceb#32, 0xbef9a3f7#32, 0xc67178f2#32]
def startH : List (BitVec 32) := [0x6a09e667#32, 0xbb67ae85#32, 0x3c6ef372#32, 0xa54ff53a#32, 0x510e527f#32, 0x9b05688c#32, 0x1f83d9ab#32, 0x5be0cd19#32]
theorem start_spec : Spec Try.prog 91 [] (.k (.agg (aOfW startH))) := by
  refine spec_of (fun _ => false) (by kernel_rfl) Try.func91 rfl rfl (by simp [Try.ntmps91]) (by decide) ?_
  intro δ
  rw [init0]
  repeat (first | with_reducible (first | refine aWp_seq ?_ | refine seq_normal ?_ | refine seq_ret ?_ | refine seq_exit ?_ | refine blk_normal ?_ | refine blk_ret ?_ | refine blk_hit ?_ | refine blk_miss rfl ?_ | refine aWp_ret ?_ | refine aWp_skip ?_ | refine aWp_block ?_ | refine aWp_exit ?_ | refine end_ret ?_ | refine end_normal ?_) | ((refine rgA ?_); intro ν) | ((with_reducible apply cndT); exact rfl; (first | rfl | assumption)) | ((with_reducible apply cndF); exact rfl; (first | rfl | assumption)))
  (first | with_reducible refine end_r ?_ | with_reducible refine end_n ?_); refine en1c ?_
  rfl
set_option maxHeartbeats 8000000 in
theorem words_spec : Spec Try.prog 92 [] (.k (.agg (aOfW wordsK))) := by
  refine spec_of (fun _ => false) (by kernel_rfl) Try.func92 rfl rfl (by simp [Try.ntmps92]) (by decide) ?_
  intro δ
  rw [init0]
  repeat (first | with_reducible (first | refine aWp_seq ?_ | refine seq_normal ?_ | refine seq_ret ?_ | refine seq_exit ?_ | refine blk_normal ?_ | refine blk_ret ?_ | refine blk_hit ?_ | refine blk_miss rfl ?_ | refine aWp_ret ?_ | refine aWp_skip ?_ | refine aWp_block ?_ | refine aWp_exit ?_ | refine end_ret ?_ | refine end_normal ?_) | ((refine rgA ?_); intro ν) | ((with_reducible apply cndT); exact rfl; (first | rfl | assumption)) | ((with_reducible apply cndF); exact rfl; (first | rfl | assumption)))
  (first | with_reducible refine end_r ?_ | with_reducible refine end_n ?_); refine en1c ?_
  rfl
/-! the message -/
def padN (n : Nat) : Nat := (119 - n % 64) % 64
def msgB (l : List UInt8) : List UInt8 := pI (l ++ [128] ++ List.replicate (padN l.length) 0) (8 * (l.length : Int))
theorem padN_next {n j : Nat} (h : j ≤ padN n) : ((n + 1 + j) % 64 = 56 ↔ j = padN n) := by
  unfold padN at *; omega
theorem padN_lt (n : Nat) : padN n < 64 := Nat.mod_lt _ (by omega)
theorem pI_len (l : List UInt8) (n : Int) : (pI l n).length = l.length + 8 := by
  unfold pI; rw [fb_len, List.length_append, tb_len, encI_len]
def preB (l : List UInt8) (j : Nat) : List UInt8 := l ++ [128] ++ List.replicate j 0
theorem preB_len (l : List UInt8) (j : Nat) : (preB l j).length = l.length + 1 + j := by simp [preB]; omega
theorem preB_next (l : List UInt8) (j : Nat) : aOfBytes (preB l (j + 1)) = aOfBytes (preB l j) ++ [.int .u8 0] := by
  unfold preB
  rw [List.replicate_succ', ← List.append_assoc, aOfBytes_append (l ++ [128] ++ List.replicate j 0)]; rfl
theorem preB_0 (l : List UInt8) : aOfBytes (preB l 0) = aOfBytes l ++ [.int .u8 128] := by
  simp [preB, aOfBytes]
theorem msgB_len (l : List UInt8) : (msgB l).length = l.length + 9 + padN l.length := by
  unfold msgB; rw [pI_len]; simp; omega
theorem msgB_mod (l : List UInt8) : (msgB l).length % 64 = 0 := by
  rw [msgB_len]; unfold padN; omega
set_option maxHeartbeats 8000000 in
theorem message_some (full : Bool) (ps : List (Bool × List UInt8)) (h0 : 0 < (ps.flatMap (·.2)).length) (hb : (ps.flatMap (·.2)).length ≤ 900000) (hN : ps.length ≤ 1000000) :
    Spec Try.prog 93 [.sl full ps.length (pCells (ps.map pB))] (.k (.sl false (msgB (ps.flatMap (·.2))).length (aOfBytes (msgB (ps.flatMap (·.2)))))) := by
  have s1 := concatBO_spec full ps h0 (by omega) hN
  generalize ps.flatMap (·.2) = l at *
  have s2 := aInt_spec false (preB l (padN l.length)) (8 * (l.length : Int)) (by rw [preB_len]; have := padN_lt l.length; omega)
  have hp := padN_lt l.length
  refine spec_of (fun _ => false) (by kernel_rfl) Try.func93 rfl rfl (by simp [Try.ntmps93]) (by decide) ?_
  intro δ
  rw [init1]
  have hla := aOfBytes_len l
  repeat (first | with_reducible (first | refine aWp_seq ?_ | refine seq_normal ?_ | refine seq_ret ?_ | refine seq_exit ?_ | refine blk_normal ?_ | refine blk_ret ?_ | refine blk_hit ?_ | refine blk_miss rfl ?_ | refine aWp_ret ?_ | refine aWp_skip ?_ | refine aWp_block ?_ | refine aWp_exit ?_ | refine end_ret ?_ | refine end_normal ?_) | ((refine rgA ?_); intro ν) | ((with_reducible apply cndT); exact rfl; (first | rfl | assumption)) | ((with_reducible apply cndF); exact rfl; (first | rfl | assumption)))
  refine rg fun K hK => ?_
  refine stA ?_
  (first | with_reducible refine g0 ?_ | ((with_reducible refine g1 ?_ ?_); (with_reducible apply gt_); exact rfl; exact rfl; (first | rfl | assumption | (simp [*] <;> done)))); refine scA (h2 := (s1)) (hk := ?_)
  refine stA ?_
  with_reducible refine rz ?_
  refine hK _ _ _ ?_
  clear hK K; intro ν
  repeat (first | with_reducible (first | refine aWp_seq ?_ | refine seq_normal ?_ | refine seq_ret ?_ | refine seq_exit ?_ | refine blk_normal ?_ | refine blk_ret ?_ | refine blk_hit ?_ | refine blk_miss rfl ?_ | refine aWp_ret ?_ | refine aWp_skip ?_ | refine aWp_block ?_ | refine aWp_exit ?_ | refine end_ret ?_ | refine end_normal ?_) | ((refine rgA ?_); intro ν) | ((with_reducible apply cndT); exact rfl; (first | rfl | assumption)) | ((with_reducible apply cndF); exact rfl; (first | rfl | assumption)))
  refine aWp_loop (fun m s => ∃ F T ν j x, m = padN l.length - j ∧ j ≤ padN l.length ∧ s = ⟨F, T, ν, ⟨fun _ => false, δ, false⟩⟩ ∧
    F 3 = x ∧ F 4 = .k (.int .i64 (l.length : Int)) ∧ AccO 5 [11, 18] T x (preB l j).length (aOfBytes (preB l j))) (padN l.length) ⟨_, _, _, 0, _, rfl, Nat.zero_le _, rfl, rfl, rfl, .ow (by simp) rfl (by rw [preB_len]) (preB_0 l).symm⟩ ?_
  rintro m s ⟨F, T, ν, j, x, rfl, hj, rfl, f3, f4, hacc⟩
  obtain ⟨d, g, hd, rfl, hT⟩ := hacc
  have hpl := preB_len l j
  have hpa := aOfBytes_len (preB l j)
  have hnx := padN_next hj
  simp only [List.mem_cons, List.not_mem_nil, or_false] at hd
  rw [has2 f3 f4, upd_self hT]
  by_cases hlt : j = padN l.length
  · have hm := hnx.2 hlt
    subst hlt
    rcases hd with rfl | rfl
    iterate 2
      · repeat (first | with_reducible (first | refine aWp_seq ?_ | refine seq_normal ?_ | refine seq_ret ?_ | refine seq_exit ?_ | refine blk_normal ?_ | refine blk_ret ?_ | refine blk_hit ?_ | refine blk_miss rfl ?_ | refine aWp_ret ?_ | refine aWp_skip ?_ | refine aWp_block ?_ | refine aWp_exit ?_ | refine end_ret ?_ | refine end_normal ?_) | ((refine rgA ?_); intro ν) | ((with_reducible apply cndT); exact rfl; (first | rfl | assumption)) | ((with_reducible apply cndF); exact rfl; (first | rfl | assumption)))
        refine rg fun K hK => ?_
        refine stA ?_
        (first | with_reducible refine g0 ?_ | ((with_reducible refine g1 ?_ ?_); (with_reducible apply gt_); exact rfl; exact rfl; (first | rfl | assumption | (simp [*] <;> done)))); refine scA (h2 := (s2)) (hk := ?_)
        refine stA ?_
        with_reducible refine rz ?_
        refine hK _ _ _ ?_
        clear hK K; intro ν
        repeat (first | with_reducible (first | refine aWp_seq ?_ | refine seq_normal ?_ | refine seq_ret ?_ | refine seq_exit ?_ | refine blk_normal ?_ | refine blk_ret ?_ | refine blk_hit ?_ | refine blk_miss rfl ?_ | refine aWp_ret ?_ | refine aWp_skip ?_ | refine aWp_block ?_ | refine aWp_exit ?_ | refine end_ret ?_ | refine end_normal ?_) | ((refine rgA ?_); intro ν) | ((with_reducible apply cndT); exact rfl; (first | rfl | assumption)) | ((with_reducible apply cndF); exact rfl; (first | rfl | assumption)))
        (first | with_reducible refine end_r ?_ | with_reducible refine end_n ?_); refine en1 ?_
        rfl
  · have hm : ¬ (l.length + 1 + j) % 64 = 56 := fun h => hlt (hnx.1 h)
    rcases hd with rfl | rfl
    iterate 2
      · repeat (first | with_reducible (first | refine aWp_seq ?_ | refine seq_normal ?_ | refine seq_ret ?_ | refine seq_exit ?_ | refine blk_normal ?_ | refine blk_ret ?_ | refine blk_hit ?_ | refine blk_miss rfl ?_ | refine aWp_ret ?_ | refine aWp_skip ?_ | refine aWp_block ?_ | refine aWp_exit ?_ | refine end_ret ?_ | refine end_normal ?_) | ((refine rgA ?_); intro ν) | ((with_reducible apply cndT); exact rfl; (first | rfl | assumption)) | ((with_reducible apply cndF); exact rfl; (first | rfl | assumption)))
        refine ⟨padN l.length - (j + 1), by omega, _, _, _, j + 1, _, rfl, by omega, rfl, rfl, rfl, .ow (by simp) rfl ?_ (preB_next l j).symm⟩
        rw [preB_len, preB_len]; omega
theorem message_none (full : Bool) (ps : List (Bool × List UInt8)) (h0 : ps.flatMap (·.2) = []) (hN : ps.length ≤ 1000000) :
    Spec Try.prog 93 [.sl full ps.length (pCells (ps.map pB))] (.k (.sl false (msgB []).length (aOfBytes (msgB [])))) := by
  have s1 := concatBZ_spec full ps h0 hN
  have s2 := aInt_spec false (preB [] (padN 0)) 0 (by rw [preB_len]; have := padN_lt 0; simp; omega)
  have hp := padN_lt 0
  refine spec_of (fun _ => false) (by kernel_rfl) Try.func93 rfl rfl (by simp [Try.ntmps93]) (by decide) ?_
  intro δ
  rw [init1]
  repeat (first | with_reducible (first | refine aWp_seq ?_ | refine seq_normal ?_ | refine seq_ret ?_ | refine seq_exit ?_ | refine blk_normal ?_ | refine blk_ret ?_ | refine blk_hit ?_ | refine blk_miss rfl ?_ | refine aWp_ret ?_ | refine aWp_skip ?_ | refine aWp_block ?_ | refine aWp_exit ?_ | refine end_ret ?_ | refine end_normal ?_) | ((refine rgA ?_); intro ν) | ((with_reducible apply cndT); exact rfl; (first | rfl | assumption)) | ((with_reducible apply cndF); exact rfl; (first | rfl | assumption)))
  refine rg fun K hK => ?_
  refine stA ?_
  (first | with_reducible refine g0 ?_ | ((with_reducible refine g1 ?_ ?_); (with_reducible apply gt_); exact rfl; exact rfl; (first | rfl | assumption | (simp [*] <;> done)))); refine scA (h2 := (s1)) (hk := ?_)
  refine stA ?_
  with_reducible refine rz ?_
  refine hK _ _ _ ?_
  clear hK K; intro ν
  repeat (first | with_reducible (first | refine aWp_seq ?_ | refine seq_normal ?_ | refine seq_ret ?_ | refine seq_exit ?_ | refine blk_normal ?_ | refine blk_ret ?_ | refine blk_hit ?_ | refine blk_miss rfl ?_ | refine aWp_ret ?_ | refine aWp_skip ?_ | refine aWp_block ?_ | refine aWp_exit ?_ | refine end_ret ?_ | refine end_normal ?_) | ((refine rgA ?_); intro ν) | ((with_reducible apply cndT); exact rfl; (first | rfl | assumption)) | ((with_reducible apply cndF); exact rfl; (first | rfl | assumption)))
  refine aWp_loop (fun m s => ∃ F T ν j x, m = padN 0 - j ∧ j ≤ padN 0 ∧ s = ⟨F, T, ν, ⟨fun _ => false, δ, false⟩⟩ ∧
    F 3 = x ∧ F 4 = .k (.int .i64 0) ∧ AccO 5 [11, 18] T x (preB [] j).length (aOfBytes (preB [] j))) (padN 0) ⟨_, _, _, 0, _, rfl, Nat.zero_le _, rfl, rfl, rfl, .ow (by simp) rfl (by rw [preB_len]; rfl) (preB_0 []).symm⟩ ?_
  rintro m s ⟨F, T, ν, j, x, rfl, hj, rfl, f3, f4, hacc⟩
  obtain ⟨d, g, hd, rfl, hT⟩ := hacc
  have hpl := preB_len [] j
  simp only [List.length_nil, Nat.zero_add] at hpl
  have hpa := aOfBytes_len (preB [] j)
  have hnx := padN_next hj
  simp only [List.mem_cons, List.not_mem_nil, or_false] at hd
  rw [has2 f3 f4, upd_self hT]
  by_cases hlt : j = padN 0
  · have hm := hnx.2 hlt
    subst hlt
    rcases hd with rfl | rfl
    iterate 2
      · repeat (first | with_reducible (first | refine aWp_seq ?_ | refine seq_normal ?_ | refine seq_ret ?_ | refine seq_exit ?_ | refine blk_normal ?_ | refine blk_ret ?_ | refine blk_hit ?_ | refine blk_miss rfl ?_ | refine aWp_ret ?_ | refine aWp_skip ?_ | refine aWp_block ?_ | refine aWp_exit ?_ | refine end_ret ?_ | refine end_normal ?_) | ((refine rgA ?_); intro ν) | ((with_reducible apply cndT); exact rfl; (first | rfl | assumption)) | ((with_reducible apply cndF); exact rfl; (first | rfl | assumption)))
        refine rg fun K hK => ?_
        refine stA ?_
        (first | with_reducible refine g0 ?_ | ((with_reducible refine g1 ?_ ?_); (with_reducible apply gt_); exact rfl; exact rfl; (first | rfl | assumption | (simp [*] <;> done)))); refine scA (h2 := (s2)) (hk := ?_)
        refine stA ?_
        with_reducible refine rz ?_
        refine hK _ _ _ ?_
        clear hK K; intro ν
        repeat (first | with_reducible (first | refine aWp_seq ?_ | refine seq_normal ?_ | refine seq_ret ?_ | refine seq_exit ?_ | refine blk_normal ?_ | refine blk_ret ?_ | refine blk_hit ?_ | refine blk_miss rfl ?_ | refine aWp_ret ?_ | refine aWp_skip ?_ | refine aWp_block ?_ | refine aWp_exit ?_ | refine end_ret ?_ | refine end_normal ?_) | ((refine rgA ?_); intro ν) | ((with_reducible apply cndT); exact rfl; (first | rfl | assumption)) | ((with_reducible apply cndF); exact rfl; (first | rfl | assumption)))
        (first | with_reducible refine end_r ?_ | with_reducible refine end_n ?_); refine en1 ?_
        rfl
  · have hm : ¬ (0 + 1 + j) % 64 = 56 := fun h => hlt (hnx.1 h)
    rcases hd with rfl | rfl
    iterate 2
      · repeat (first | with_reducible (first | refine aWp_seq ?_ | refine seq_normal ?_ | refine seq_ret ?_ | refine seq_exit ?_ | refine blk_normal ?_ | refine blk_ret ?_ | refine blk_hit ?_ | refine blk_miss rfl ?_ | refine aWp_ret ?_ | refine aWp_skip ?_ | refine aWp_block ?_ | refine aWp_exit ?_ | refine end_ret ?_ | refine end_normal ?_) | ((refine rgA ?_); intro ν) | ((with_reducible apply cndT); exact rfl; (first | rfl | assumption)) | ((with_reducible apply cndF); exact rfl; (first | rfl | assumption)))
        refine ⟨padN 0 - (j + 1), by omega, _, _, _, j + 1, _, rfl, by omega, rfl, rfl, rfl, .ow (by simp) rfl ?_ (preB_next [] j).symm⟩
        rw [preB_len, preB_len]; omega
theorem message_spec (full : Bool) (ps : List (Bool × List UInt8)) (hb : (ps.flatMap (·.2)).length ≤ 900000) (hN : ps.length ≤ 1000000) :
    Spec Try.prog 93 [.sl full ps.length (pCells (ps.map pB))] (.k (.sl false (msgB (ps.flatMap (·.2))).length (aOfBytes (msgB (ps.flatMap (·.2)))))) := by
  by_cases h : ps.flatMap (·.2) = []
  · rw [h]; exact message_none full ps h hN
  · exact message_some full ps (List.length_pos_iff.2 h) hb hN
end Go.Proofs.Ytmbnclpgldglnaa
