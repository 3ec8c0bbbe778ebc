import Derived.Test.YtmbnclpgldglnaaRsha2
import Derived.Test.YtmbnclpgldglnaaMg1
namespace Go.Proofs.Ytmbnclpgldglnaa
open Go.RowKit
set_option linter.unusedVariables false
set_option linter.unusedSimpArgs false
set_option maxRecDepth 20000
/-! the document's message -/
def beB (N i : Nat) : UInt8 := UInt8.ofNat (N / 2 ^ (8 * (7 - i)))
def beN (N j : Nat) : List UInt8 := (List.range j).map (beB N)
theorem beN_len (N j : Nat) : (beN N j).length = j := by simp [beN]
theorem beN_next (N j : Nat) : aOfBytes (beN N (j + 1)) = aOfBytes (beN N j) ++ [.int .u8 ((beB N j).toNat : Int)] := by simp [beN, List.range_succ, aOfBytes]
theorem beN_enc (N : Nat) (h : N < 18446744073709551616) : fb (encI (N : Int)) = beN N 8 := by
  unfold fb encI ser beN
  rw [List.map_map]
  apply List.map_congr_left
  intro i hi
  have hi : i < 8 := by simpa using hi
  show UInt8.ofBitVec ((BitVec.ofInt 64 (N : Int) >>> (8 * (8 - 1 - i))).setWidth 8) = UInt8.ofNat (N / 2 ^ (8 * (7 - i)))
  apply UInt8.toNat.inj
  rw [UInt8.toNat_ofNat', show 8 - 1 - i = 7 - i by omega]
  simp [BitVec.toNat_ushiftRight, Nat.shiftRight_eq_div_pow, BitVec.ofInt_natCast, Nat.mod_eq_of_lt h]
theorem msgB_be (l : List UInt8) (hl : l.length ≤ 1000000) : msgB l = preB l (padN l.length) ++ beN (8 * l.length) 8 := by
  unfold msgB pI preB
  rw [fb_app, fb_tb, ← beN_enc _ (by omega)]
  push_cast; rfl
theorem wrap8 (q : Nat) : IntKind.u8.wrap (q : Int) = ((UInt8.ofNat q).toNat : Int) := by
  rw [UInt8.toNat_ofNat']
  simp [IntKind.wrap, IntKind.bits, IntKind.signed]
set_option maxHeartbeats 16000000 in
theorem rmessage_spec (full : Bool) (l : List UInt8) (hl : l.length ≤ 100000) : Spec Try.prog 89 [.sl full l.length (aOfBytes l)] (.k (.sl false (msgB l).length (aOfBytes (msgB l)))) := by
  have hla := aOfBytes_len l
  have hp := padN_lt l.length
  refine spec_of (fun t => t == 6) (by kernel_rfl) Try.func89 rfl rfl (by simp [Try.ntmps89]) (by decide) ?_
  intro δ
  rw [init1]
  repeat with_reducible (first | refine aWp_seq ?_ | refine seq_normal ?_ | refine seq_ret ?_ | refine seq_exit ?_ | refine blk_normal ?_ | refine blk_ret ?_ | refine blk_hit ?_ | refine blk_miss rfl ?_ | refine aWp_ret ?_ | refine aWp_skip ?_ | refine aWp_block ?_ | refine aWp_exit ?_ | refine end_ret ?_ | refine end_normal ?_)
  refine rgA ?_
  intro ν
  refine seq_normal ?_
  refine aWp_seq ?_
  refine aWp_cut (fun s => ∃ F T ν g, s = ⟨F, T, ν, ⟨fun t => t == 6, δ, false⟩⟩ ∧ F 0 = .k (.sl full l.length (aOfBytes l)) ∧ F 3 = .ow 10 g (l.length + 1) 5 (aOfBytes (preB l 0)) ∧ T 10 = some (g, .tag)) ?_ ?_
  · by_cases h0 : l.length = 0
    · have hl0 : l = [] := List.eq_nil_of_length_eq_zero h0
      rw [preB_0]
      repeat (first | with_reducible (first | refine aWp_seq ?_ | refine seq_normal ?_ | refine seq_ret ?_ | refine seq_exit ?_ | refine blk_normal ?_ | refine blk_ret ?_ | refine blk_hit ?_ | refine blk_miss rfl ?_ | refine aWp_ret ?_ | refine aWp_skip ?_ | refine aWp_block ?_ | refine aWp_exit ?_ | refine end_ret ?_ | refine end_normal ?_) | ((refine rgA ?_); intro ν) | ((with_reducible apply cndT); exact rfl; (first | rfl | assumption)) | ((with_reducible apply cndF); exact rfl; (first | rfl | assumption)))
      exact ⟨_, _, _, _, rfl, rfl, (by rw [hl0]; rfl), rfl⟩
    · rw [preB_0]
      repeat (first | with_reducible (first | refine aWp_seq ?_ | refine seq_normal ?_ | refine seq_ret ?_ | refine seq_exit ?_ | refine blk_normal ?_ | refine blk_ret ?_ | refine blk_hit ?_ | refine blk_miss rfl ?_ | refine aWp_ret ?_ | refine aWp_skip ?_ | refine aWp_block ?_ | refine aWp_exit ?_ | refine end_ret ?_ | refine end_normal ?_) | ((refine rgA ?_); intro ν) | ((with_reducible apply cndT); exact rfl; (first | rfl | assumption)) | ((with_reducible apply cndF); exact rfl; (first | rfl | assumption)))
      exact ⟨_, _, _, _, rfl, rfl, rfl, rfl⟩
  rintro s ⟨F, T, ν, g, rfl, f0, f3, t10⟩
  rw [has2 f0 f3, has1 t10]
  repeat (first | with_reducible (first | refine aWp_seq ?_ | refine seq_normal ?_ | refine seq_ret ?_ | refine seq_exit ?_ | refine blk_normal ?_ | refine blk_ret ?_ | refine blk_hit ?_ | refine blk_miss rfl ?_ | refine aWp_ret ?_ | refine aWp_skip ?_ | refine aWp_block ?_ | refine aWp_exit ?_ | refine end_ret ?_ | refine end_normal ?_) | ((refine rgA ?_); intro ν) | ((with_reducible apply cndT); exact rfl; (first | rfl | assumption)) | ((with_reducible apply cndF); exact rfl; (first | rfl | assumption)))
  refine aWp_loop (fun m s => ∃ F T ν j x, m = padN l.length - j ∧ j ≤ padN l.length ∧ s = ⟨F, T, ν, ⟨fun t => t == 6, δ, false⟩⟩ ∧
    F 0 = .k (.sl full l.length (aOfBytes l)) ∧ F 3 = x ∧ AccO 5 [10, 17] T x (l.length + 1 + j) (aOfBytes (preB l j))) (padN l.length) ⟨_, _, _, 0, _, rfl, Nat.zero_le _, rfl, rfl, rfl, .ow (by simp) rfl rfl rfl⟩ ?_
  rintro m s ⟨F, T, ν, j, x, rfl, hj, rfl, f0, f3, hacc⟩
  rw [has2 f0 f3]
  have hpj := preB_len l j
  have hpja := aOfBytes_len (preB l j)
  have hnx := padN_next hj
  by_cases hlt : j < padN l.length
  · have hc : ¬ (l.length + 1 + j) % 64 = 56 := fun h => by have := hnx.1 h; omega
    have hpn := preB_next l j
    obtain ⟨d, g, hd, rfl, hT⟩ := hacc
    simp only [List.mem_cons, List.not_mem_nil, or_false] at hd
    rw [upd_self hT]
    rcases hd with rfl | rfl
    iterate 2
      · repeat (first | with_reducible (first | refine aWp_seq ?_ | refine seq_normal ?_ | refine seq_ret ?_ | refine seq_exit ?_ | refine blk_normal ?_ | refine blk_ret ?_ | refine blk_hit ?_ | refine blk_miss rfl ?_ | refine aWp_ret ?_ | refine aWp_skip ?_ | refine aWp_block ?_ | refine aWp_exit ?_ | refine end_ret ?_ | refine end_normal ?_) | ((refine rgA ?_); intro ν) | ((with_reducible apply cndT); exact rfl; (first | rfl | assumption)) | ((with_reducible apply cndF); exact rfl; (first | rfl | assumption)))
        refine ⟨padN l.length - (j + 1), by omega, _, _, _, j + 1, _, rfl, by omega, rfl, rfl, rfl, .ow (by simp) rfl ?_ ?_⟩
        · omega
        · rw [hpn]
  · have hje : j = padN l.length := by omega
    subst hje
    have hc : (l.length + 1 + padN l.length) % 64 = 56 := hnx.2 rfl
    obtain ⟨N, hN⟩ : ∃ N, N = 8 * l.length := ⟨_, rfl⟩
    have hNI : (8 : Int) * (l.length : Int) = (N : Int) := by omega
    rw [msgB_be l (by omega), ← hN]
    obtain ⟨d, g, hd, rfl, hT⟩ := hacc
    simp only [List.mem_cons, List.not_mem_nil, or_false] at hd
    rw [upd_self hT]
    rcases hd with rfl | rfl
    iterate 2
      · repeat (first | with_reducible (first | refine aWp_seq ?_ | refine seq_normal ?_ | refine seq_ret ?_ | refine seq_exit ?_ | refine blk_normal ?_ | refine blk_ret ?_ | refine blk_hit ?_ | refine blk_miss rfl ?_ | refine aWp_ret ?_ | refine aWp_skip ?_ | refine aWp_block ?_ | refine aWp_exit ?_ | refine end_ret ?_ | refine end_normal ?_) | ((refine rgA ?_); intro ν) | ((with_reducible apply cndT); exact rfl; (first | rfl | assumption)) | ((with_reducible apply cndF); exact rfl; (first | rfl | assumption)))
        rw [hNI]
        generalize preB l (padN l.length) = X at *
        refine aWp_loop (fun m s => ∃ F T ν j x, m = 8 - j ∧ j ≤ 8 ∧ s = ⟨F, T, ν, ⟨fun t => t == 6, δ, false⟩⟩ ∧
          F 4 = .k (.int .u64 (N : Nat)) ∧ F 5 = .k (.int .i64 ((7 : Int) - (j : Int))) ∧ F 3 = x ∧ AccO 5 [10, 17, 34] T x (X.length + j) (aOfBytes (X ++ beN N j))) 8 ⟨_, _, _, 0, _, rfl, Nat.zero_le _, rfl, rfl, rfl, rfl, .ow (by simp) rfl (by omega) (by simp [beN])⟩ ?_
        rintro m s ⟨F, T, ν, j, x, rfl, hj, rfl, f4, f5, f3, hacc⟩
        rw [has3 f4 f5 f3]
        have hbl := beN_len N j
        have hxl : (aOfBytes (X ++ beN N j)).length = X.length + j := by rw [aOfBytes_len, List.length_append, hbl]
        by_cases hlt2 : j < 8
        · have hw8 : IntKind.u8.wrap ((N : Int) / 2 ^ (if ((8 : Int) * ((7 : Int) - (j : Int))).toNat ≤ 64 then ((8 : Int) * ((7 : Int) - (j : Int))).toNat else 64)) = ((beB N j).toNat : Int) := by
            have e : ((8 : Int) * ((7 : Int) - (j : Int))).toNat = 8 * (7 - j) := by omega
            rw [e, if_pos (by omega), show (2 : Int) ^ (8 * (7 - j)) = ((2 ^ (8 * (7 - j)) : Nat) : Int) by push_cast; rfl, ← Int.natCast_ediv, wrap8]
            rfl
          have hbn := beN_next N j
          generalize beB N j = by1 at *
          obtain ⟨d, g, hd, rfl, hT⟩ := hacc
          simp only [List.mem_cons, List.not_mem_nil, or_false] at hd
          rw [upd_self hT]
          have hjI : (7 : Int) - (j : Int) - 1 = 7 - ((j + 1 : Nat) : Int) := by omega
          rcases hd with rfl | rfl | rfl
          iterate 3
            · repeat with_reducible (first | refine aWp_seq ?_ | refine seq_normal ?_ | refine seq_ret ?_ | refine seq_exit ?_ | refine blk_normal ?_ | refine blk_ret ?_ | refine blk_hit ?_ | refine blk_miss rfl ?_ | refine aWp_ret ?_ | refine aWp_skip ?_ | refine aWp_block ?_ | refine aWp_exit ?_ | refine end_ret ?_ | refine end_normal ?_)
              refine rgA ?_
              intro ν
              repeat with_reducible (first | refine aWp_seq ?_ | refine seq_normal ?_ | refine seq_ret ?_ | refine seq_exit ?_ | refine blk_normal ?_ | refine blk_ret ?_ | refine blk_hit ?_ | refine blk_miss rfl ?_ | refine aWp_ret ?_ | refine aWp_skip ?_ | refine aWp_block ?_ | refine aWp_exit ?_ | refine end_ret ?_ | refine end_normal ?_)
              (with_reducible apply cndT); exact rfl; (first | rfl | assumption | (simp [*] <;> done))
              repeat with_reducible (first | refine aWp_seq ?_ | refine seq_normal ?_ | refine seq_ret ?_ | refine seq_exit ?_ | refine blk_normal ?_ | refine blk_ret ?_ | refine blk_hit ?_ | refine blk_miss rfl ?_ | refine aWp_ret ?_ | refine aWp_skip ?_ | refine aWp_block ?_ | refine aWp_exit ?_ | refine end_ret ?_ | refine end_normal ?_)
              refine rg fun K hK => ?_
              refine stA ?_
              with_reducible refine rz ?_
              refine hK _ _ _ ?_
              clear hK K; intro ν
              rw [hw8]
              repeat (first | with_reducible (first | refine aWp_seq ?_ | refine seq_normal ?_ | refine seq_ret ?_ | refine seq_exit ?_ | refine blk_normal ?_ | refine blk_ret ?_ | refine blk_hit ?_ | refine blk_miss rfl ?_ | refine aWp_ret ?_ | refine aWp_skip ?_ | refine aWp_block ?_ | refine aWp_exit ?_ | refine end_ret ?_ | refine end_normal ?_) | ((refine rgA ?_); intro ν) | ((with_reducible apply cndT); exact rfl; (first | rfl | assumption)) | ((with_reducible apply cndF); exact rfl; (first | rfl | assumption)))
              refine ⟨8 - (j + 1), by omega, _, _, _, j + 1, _, rfl, by omega, rfl, rfl, ?_, rfl, .ow (by simp) rfl ?_ ?_⟩
              · rw [← hjI]; rfl
              · omega
              · rw [aOfBytes_append, aOfBytes_append, hbn, List.append_assoc]
        · have hje : j = 8 := by omega
          subst hje
          obtain ⟨d, g, hd, rfl, hT⟩ := hacc
          simp only [List.mem_cons, List.not_mem_nil, or_false] at hd
          rw [upd_self hT]
          rcases hd with rfl | rfl | rfl
          iterate 3
            · repeat (first | with_reducible (first | refine aWp_seq ?_ | refine seq_normal ?_ | refine seq_ret ?_ | refine seq_exit ?_ | refine blk_normal ?_ | refine blk_ret ?_ | refine blk_hit ?_ | refine blk_miss rfl ?_ | refine aWp_ret ?_ | refine aWp_skip ?_ | refine aWp_block ?_ | refine aWp_exit ?_ | refine end_ret ?_ | refine end_normal ?_) | ((refine rgA ?_); intro ν) | ((with_reducible apply cndT); exact rfl; (first | rfl | assumption)) | ((with_reducible apply cndF); exact rfl; (first | rfl | assumption)))
              (first | with_reducible refine end_r ?_ | with_reducible refine end_n ?_); refine en1 ?_
              rw [List.length_append, hbl]
end Go.Proofs.Ytmbnclpgldglnaa
