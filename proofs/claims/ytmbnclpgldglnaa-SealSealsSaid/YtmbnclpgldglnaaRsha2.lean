import Derived.Test.YtmbnclpgldglnaaRsha1
import Derived.Test.YtmbnclpgldglnaaMg3
namespace Go.Proofs.Ytmbnclpgldglnaa
open Go.RowKit
set_option linter.unusedVariables false
set_option linter.unusedSimpArgs false
set_option maxRecDepth 20000
/-! the document's words -/
def prL : List Nat := [2, 3, 5, 7, 11, 13, 17, 19, 23, 29, 31, 37, 41, 43, 47, 53, 59, 61, 67, 71, 73, 79, 83, 89, 97, 101, 103, 107, 109, 113, 127, 131, 137, 139, 149, 151, 157, 163, 167, 173, 179, 181, 191, 193, 197, 199, 211, 223, 227, 229, 233, 239, 241, 251, 257, 263, 269, 271, 277, 281, 283, 293, 307, 311]
theorem prB_lit : prB 310 = prL := by decide +kernel
def rtW (third : Bool) (i : Nat) : List (BitVec 32) := (List.range i).map fun j => rootW third (prL.getD j 0)
theorem rtW_len (third : Bool) (i : Nat) : (rtW third i).length = i := by simp [rtW]
theorem rtW_next (third : Bool) (i : Nat) : aOfW (rtW third (i + 1)) = aOfW (rtW third i) ++ [.int .u32 (n32 (rootW third (prL.getD i 0)))] := by simp [rtW, List.range_succ, aOfW]
theorem rtW_K : rtW true 64 = wordsK := by decide +kernel
theorem rtW_H : rtW false 8 = startH := by decide +kernel
theorem prL_le (i : Nat) : prL.getD i 0 ≤ 311 := by
  by_cases h : i < 64
  · have : ∀ i : Fin 64, prL.getD i.val 0 ≤ 311 := by decide +kernel
    exact this ⟨i, h⟩
  · rw [List.getD_eq_getElem?_getD, List.getElem?_eq_none (by show 64 ≤ i; omega)]; decide
theorem wk_ow' {δ d g n : Nat} {e : TypeId} {cells : List AV} : Wk (.ow δ d g n e cells) (.sl false n cells) := fun K v h => by
  cases h with
  | ow δ d g n e cells r h he hn hl hx hk => exact hk
theorem wk_agg2 {a b c d : AV} (h1 : Wk a c) (h2 : Wk b d) : Wk (.agg [a, b]) (.agg [c, d]) := by
  intro K v hv
  cases hv with
  | agg cells vs hl h1c h =>
    refine .agg _ _ hl h1c fun i x u hx hu => ?_
    match i with
    | 0 => simp at hx; subst hx; exact h1 _ _ (h 0 _ _ rfl hu)
    | 1 => simp at hx; subst hx; exact h2 _ _ (h 1 _ _ rfl hu)
    | i + 2 => simp at hx
theorem end1cW {P : Program} {rs : List ResultVar} {tys : List TypeId} {p : Nat} {u w : TypeId} {v r : AV} {s : St} (h1 : rs = [.cell p u]) (h2 : tys = [w]) (h3 : aLoad P s u (s.fr p) = some (.k v)) (hw : Wk v r) : aEndK P rs tys s r := by
  subst h1; subst h2
  simp only [aEndK, aOuts, h3, oneOf]
  exact hw
def sumsA : AV := .agg [.sl false 64 (aOfW wordsK), .sl false 8 (aOfW startH)]
set_option maxHeartbeats 16000000 in
theorem sums_spec : Spec Try.prog 23 [] (.k sumsA) := by
  have s1 := primes_spec
  rw [prB_lit] at s1
  have hpl : prL.length = 64 := rfl
  have hpa := prA_len prL
  have sr := fun third i => root_spec third (prL.getD i 0) (Nat.le_trans (prL_le i) (by decide))
  have lp := fun i h => ld_p prL i h
  rw [sumsA, ← rtW_K, ← rtW_H]
  have hrl := rtW_len
  have hrn := rtW_next
  have hra := fun third i => aOfW_len (rtW third i)
  generalize prL = L at *
  refine spec_of' (fun _ => false) true (by kernel_rfl) Try.func23 rfl rfl (by simp [Try.ntmps23]) (by decide) ?_
  intro δ
  rw [init0]
  repeat (first | with_reducible (first | refine aWp_seq ?_ | refine seq_normal ?_ | refine seq_ret ?_ | refine seq_exit ?_ | refine blk_normal ?_ | refine blk_ret ?_ | refine blk_hit ?_ | refine blk_miss rfl ?_ | refine aWp_ret ?_ | refine aWp_skip ?_ | refine aWp_block ?_ | refine aWp_exit ?_ | refine end_ret ?_ | refine end_normal ?_) | ((refine rgA ?_); intro ν) | ((with_reducible apply cndT); exact rfl; (first | rfl | assumption)) | ((with_reducible apply cndF); exact rfl; (first | rfl | assumption)))
  refine rg fun K hK => ?_
  refine stA ?_
  (first | with_reducible refine g0 ?_ | ((with_reducible refine g1 ?_ ?_); (with_reducible apply gt_); exact rfl; exact rfl; (first | rfl | assumption | (simp [*] <;> done)))); refine scA (h2 := (s1)) (hk := ?_)
  refine stA ?_
  with_reducible refine rz ?_
  refine hK _ _ _ ?_
  clear hK K; intro ν
  repeat (first | with_reducible (first | refine aWp_seq ?_ | refine seq_normal ?_ | refine seq_ret ?_ | refine seq_exit ?_ | refine blk_normal ?_ | refine blk_ret ?_ | refine blk_hit ?_ | refine blk_miss rfl ?_ | refine aWp_ret ?_ | refine aWp_skip ?_ | refine aWp_block ?_ | refine aWp_exit ?_ | refine end_ret ?_ | refine end_normal ?_) | ((refine rgA ?_); intro ν) | ((with_reducible apply cndT); exact rfl; (first | rfl | assumption)) | ((with_reducible apply cndF); exact rfl; (first | rfl | assumption)))
  refine aWp_loop (fun m s => ∃ F T ν i ga gb x, m = 64 - i ∧ i ≤ 64 ∧ s = ⟨F, T, ν, ⟨fun _ => false, δ, true⟩⟩ ∧
    F 0 = .ob 0 ga 0 ∧ F 1 = .ob 1 gb 0 ∧ F 2 = .k (.sl false 64 (prA L)) ∧ F 3 = .k (.int .i64 (i : Nat)) ∧ T 0 = some (ga, .obj [.sl true 0 [], .sl true 0 []]) ∧ T 1 = some (gb, .obj [x, .sl true 0 []]) ∧
    ((i = 0 ∧ x = .sl true 0 []) ∨ ∃ g2, 0 < i ∧ x = .ow δ 19 g2 i 85 (aOfW (rtW true i)) ∧ T 19 = some (g2, .tag))) 64 ⟨_, _, _, 0, _, _, _, rfl, Nat.zero_le _, rfl, rfl, rfl, rfl, rfl, rfl, rfl, .inl ⟨rfl, rfl⟩⟩ ?_
  rintro m s ⟨F, T, ν, i, ga, gb, x, rfl, hi, rfl, f0, f1, f2, f3, t0, t1, hx⟩
  rw [has4 f0 f1 f2 f3, has2 t0 t1]
  by_cases hlt : i < 64
  · have l1 := lp i (by omega)
    have s2 := sr true i
    have hnx := hrn true i
    have hal := hra true i
    have hll := hrl true i
    generalize L.getD i 0 = p at *
    rcases hx with ⟨hi0, rfl⟩ | ⟨g2, hi0, rfl, tw⟩
    · subst hi0
      repeat (first | with_reducible (first | refine aWp_seq ?_ | refine seq_normal ?_ | refine seq_ret ?_ | refine seq_exit ?_ | refine blk_normal ?_ | refine blk_ret ?_ | refine blk_hit ?_ | refine blk_miss rfl ?_ | refine aWp_ret ?_ | refine aWp_skip ?_ | refine aWp_block ?_ | refine aWp_exit ?_ | refine end_ret ?_ | refine end_normal ?_) | ((refine rgA ?_); intro ν) | ((with_reducible apply cndT); exact rfl; (first | rfl | assumption)) | ((with_reducible apply cndF); exact rfl; (first | rfl | assumption)))
      refine rgx [(1,[1],[]),(8,[18,19],[18,19]),(10,[1,19],[1,19])] (by kernel_rfl) fun K hK => ?_
      refine stxA ?_
      ((first | ((with_reducible refine x0 ?_ ?_); exact rfl) | ((with_reducible refine x1 ?_ ?_ ?_); exact rfl; (with_reducible apply gt_); exact rfl; exact rfl; (first | rfl | assumption | (simp [*] <;> done)))); refine xcA (h2 := (s2)) (hk := ?_))
      refine stxA ?_
      with_reducible refine xz ?_
      refine hK _ _ _ ?_
      clear hK K; intro ν
      repeat (first | with_reducible (first | refine aWp_seq ?_ | refine seq_normal ?_ | refine seq_ret ?_ | refine seq_exit ?_ | refine blk_normal ?_ | refine blk_ret ?_ | refine blk_hit ?_ | refine blk_miss rfl ?_ | refine aWp_ret ?_ | refine aWp_skip ?_ | refine aWp_block ?_ | refine aWp_exit ?_ | refine end_ret ?_ | refine end_normal ?_) | ((refine rgA ?_); intro ν) | ((with_reducible apply cndT); exact rfl; (first | rfl | assumption)) | ((with_reducible apply cndF); exact rfl; (first | rfl | assumption)))
      refine ⟨64 - (0 + 1), by omega, _, _, _, 0 + 1, ga, gb, _, rfl, by omega, rfl, rfl, rfl, rfl, rfl, rfl, rfl, .inr ⟨_, by omega, ?_, rfl⟩⟩
      rw [hnx]; rfl
    · rw [upd_self tw]
      repeat (first | with_reducible (first | refine aWp_seq ?_ | refine seq_normal ?_ | refine seq_ret ?_ | refine seq_exit ?_ | refine blk_normal ?_ | refine blk_ret ?_ | refine blk_hit ?_ | refine blk_miss rfl ?_ | refine aWp_ret ?_ | refine aWp_skip ?_ | refine aWp_block ?_ | refine aWp_exit ?_ | refine end_ret ?_ | refine end_normal ?_) | ((refine rgA ?_); intro ν) | ((with_reducible apply cndT); exact rfl; (first | rfl | assumption)) | ((with_reducible apply cndF); exact rfl; (first | rfl | assumption)))
      refine rgx [(1,[1],[]),(8,[18,19],[18,19]),(10,[1,19],[1,19])] (by kernel_rfl) fun K hK => ?_
      refine stxA ?_
      ((first | ((with_reducible refine x0 ?_ ?_); exact rfl) | ((with_reducible refine x1 ?_ ?_ ?_); exact rfl; (with_reducible apply gt_); exact rfl; exact rfl; (first | rfl | assumption | (simp [*] <;> done)))); refine xcA (h2 := (s2)) (hk := ?_))
      refine stxA ?_
      with_reducible refine xz ?_
      refine hK _ _ _ ?_
      clear hK K; intro ν
      repeat (first | with_reducible (first | refine aWp_seq ?_ | refine seq_normal ?_ | refine seq_ret ?_ | refine seq_exit ?_ | refine blk_normal ?_ | refine blk_ret ?_ | refine blk_hit ?_ | refine blk_miss rfl ?_ | refine aWp_ret ?_ | refine aWp_skip ?_ | refine aWp_block ?_ | refine aWp_exit ?_ | refine end_ret ?_ | refine end_normal ?_) | ((refine rgA ?_); intro ν) | ((with_reducible apply cndT); exact rfl; (first | rfl | assumption)) | ((with_reducible apply cndF); exact rfl; (first | rfl | assumption)))
      refine ⟨64 - (i + 1), by omega, _, _, _, i + 1, ga, gb, _, rfl, by omega, rfl, rfl, rfl, rfl, ?_, rfl, rfl, .inr ⟨_, by omega, ?_, rfl⟩⟩
      · show (SV.k (.int .i64 ((i : Int) + 1)) : SV) = _
        rw [Int.natCast_succ]
      · rw [hnx]
  have hie : i = 64 := by omega
  subst hie
  obtain ⟨h, _⟩ | ⟨gK, _, rfl, t19⟩ := hx
  · omega
  rw [upd_self t19]
  have haK := hra true 64
  repeat (first | with_reducible (first | refine aWp_seq ?_ | refine seq_normal ?_ | refine seq_ret ?_ | refine seq_exit ?_ | refine blk_normal ?_ | refine blk_ret ?_ | refine blk_hit ?_ | refine blk_miss rfl ?_ | refine aWp_ret ?_ | refine aWp_skip ?_ | refine aWp_block ?_ | refine aWp_exit ?_ | refine end_ret ?_ | refine end_normal ?_) | ((refine rgA ?_); intro ν) | ((with_reducible apply cndT); exact rfl; (first | rfl | assumption)) | ((with_reducible apply cndF); exact rfl; (first | rfl | assumption)))
  refine aWp_loop (fun m s => ∃ F T ν i ga gb x gK, m = 8 - i ∧ i ≤ 8 ∧ s = ⟨F, T, ν, ⟨fun _ => false, δ, true⟩⟩ ∧
    F 0 = .ob 0 ga 0 ∧ F 1 = .ob 1 gb 0 ∧ F 2 = .k (.sl false 64 (prA L)) ∧ F 4 = .k (.int .i64 (i : Nat)) ∧ T 0 = some (ga, .obj [.sl true 0 [], .sl true 0 []]) ∧ T 1 = some (gb, .obj [.ow δ 19 gK 64 85 (aOfW (rtW true 64)), x]) ∧ T 19 = some (gK, .tag) ∧
    ((i = 0 ∧ x = .sl true 0 []) ∨ ∃ g2, 0 < i ∧ x = .ow δ 33 g2 i 85 (aOfW (rtW false i)) ∧ T 33 = some (g2, .tag))) 8 ⟨_, _, _, 0, _, _, _, _, rfl, Nat.zero_le _, rfl, rfl, rfl, rfl, rfl, rfl, rfl, rfl, .inl ⟨rfl, rfl⟩⟩ ?_
  rintro m s ⟨F, T, ν, i, ga, gb, x, gK, rfl, hi, rfl, f0, f1, f2, f4, t0, t1, t19, hx⟩
  rw [has4 f0 f1 f2 f4, has3 t0 t1 t19]
  by_cases hlt : i < 8
  · have l1 := lp i (by omega)
    have s2 := sr false i
    have hnx := hrn false i
    have hal := hra false i
    have hll := hrl false i
    generalize L.getD i 0 = p at *
    rcases hx with ⟨hi0, rfl⟩ | ⟨g2, hi0, rfl, tw⟩
    · subst hi0
      repeat (first | with_reducible (first | refine aWp_seq ?_ | refine seq_normal ?_ | refine seq_ret ?_ | refine seq_exit ?_ | refine blk_normal ?_ | refine blk_ret ?_ | refine blk_hit ?_ | refine blk_miss rfl ?_ | refine aWp_ret ?_ | refine aWp_skip ?_ | refine aWp_block ?_ | refine aWp_exit ?_ | refine end_ret ?_ | refine end_normal ?_) | ((refine rgA ?_); intro ν) | ((with_reducible apply cndT); exact rfl; (first | rfl | assumption)) | ((with_reducible apply cndF); exact rfl; (first | rfl | assumption)))
      refine rgx [(1,[1],[]),(8,[32,33],[32,33]),(10,[1,33],[1,33])] (by kernel_rfl) fun K hK => ?_
      refine stxA ?_
      ((first | ((with_reducible refine x0 ?_ ?_); exact rfl) | ((with_reducible refine x1 ?_ ?_ ?_); exact rfl; (with_reducible apply gt_); exact rfl; exact rfl; (first | rfl | assumption | (simp [*] <;> done)))); refine xcA (h2 := (s2)) (hk := ?_))
      refine stxA ?_
      with_reducible refine xz ?_
      refine hK _ _ _ ?_
      clear hK K; intro ν
      repeat (first | with_reducible (first | refine aWp_seq ?_ | refine seq_normal ?_ | refine seq_ret ?_ | refine seq_exit ?_ | refine blk_normal ?_ | refine blk_ret ?_ | refine blk_hit ?_ | refine blk_miss rfl ?_ | refine aWp_ret ?_ | refine aWp_skip ?_ | refine aWp_block ?_ | refine aWp_exit ?_ | refine end_ret ?_ | refine end_normal ?_) | ((refine rgA ?_); intro ν) | ((with_reducible apply cndT); exact rfl; (first | rfl | assumption)) | ((with_reducible apply cndF); exact rfl; (first | rfl | assumption)))
      refine ⟨8 - (0 + 1), by omega, _, _, _, 0 + 1, ga, gb, _, gK, rfl, by omega, rfl, rfl, rfl, rfl, rfl, rfl, rfl, rfl, .inr ⟨_, by omega, ?_, rfl⟩⟩
      rw [hnx]; rfl
    · rw [upd_self tw]
      repeat (first | with_reducible (first | refine aWp_seq ?_ | refine seq_normal ?_ | refine seq_ret ?_ | refine seq_exit ?_ | refine blk_normal ?_ | refine blk_ret ?_ | refine blk_hit ?_ | refine blk_miss rfl ?_ | refine aWp_ret ?_ | refine aWp_skip ?_ | refine aWp_block ?_ | refine aWp_exit ?_ | refine end_ret ?_ | refine end_normal ?_) | ((refine rgA ?_); intro ν) | ((with_reducible apply cndT); exact rfl; (first | rfl | assumption)) | ((with_reducible apply cndF); exact rfl; (first | rfl | assumption)))
      refine rgx [(1,[1],[]),(8,[32,33],[32,33]),(10,[1,33],[1,33])] (by kernel_rfl) fun K hK => ?_
      refine stxA ?_
      ((first | ((with_reducible refine x0 ?_ ?_); exact rfl) | ((with_reducible refine x1 ?_ ?_ ?_); exact rfl; (with_reducible apply gt_); exact rfl; exact rfl; (first | rfl | assumption | (simp [*] <;> done)))); refine xcA (h2 := (s2)) (hk := ?_))
      refine stxA ?_
      with_reducible refine xz ?_
      refine hK _ _ _ ?_
      clear hK K; intro ν
      repeat (first | with_reducible (first | refine aWp_seq ?_ | refine seq_normal ?_ | refine seq_ret ?_ | refine seq_exit ?_ | refine blk_normal ?_ | refine blk_ret ?_ | refine blk_hit ?_ | refine blk_miss rfl ?_ | refine aWp_ret ?_ | refine aWp_skip ?_ | refine aWp_block ?_ | refine aWp_exit ?_ | refine end_ret ?_ | refine end_normal ?_) | ((refine rgA ?_); intro ν) | ((with_reducible apply cndT); exact rfl; (first | rfl | assumption)) | ((with_reducible apply cndF); exact rfl; (first | rfl | assumption)))
      refine ⟨8 - (i + 1), by omega, _, _, _, i + 1, ga, gb, _, gK, rfl, by omega, rfl, rfl, rfl, rfl, ?_, rfl, rfl, rfl, .inr ⟨_, by omega, ?_, rfl⟩⟩
      · show (SV.k (.int .i64 ((i : Int) + 1)) : SV) = _
        rw [Int.natCast_succ]
      · rw [hnx]
  have hie : i = 8 := by omega
  subst hie
  obtain ⟨h, _⟩ | ⟨gH, _, rfl, t33⟩ := hx
  · omega
  rw [upd_self t33]
  have haH := hra false 8
  repeat (first | with_reducible (first | refine aWp_seq ?_ | refine seq_normal ?_ | refine seq_ret ?_ | refine seq_exit ?_ | refine blk_normal ?_ | refine blk_ret ?_ | refine blk_hit ?_ | refine blk_miss rfl ?_ | refine aWp_ret ?_ | refine aWp_skip ?_ | refine aWp_block ?_ | refine aWp_exit ?_ | refine end_ret ?_ | refine end_normal ?_) | ((refine rgA ?_); intro ν) | ((with_reducible apply cndT); exact rfl; (first | rfl | assumption)) | ((with_reducible apply cndF); exact rfl; (first | rfl | assumption)))
  refine ⟨rfl, ?_⟩
  exact end1cW rfl rfl (loadC rfl rfl (tiX rfl) rfl rfl) (wk_agg2 wk_ow' wk_ow')
end Go.Proofs.Ytmbnclpgldglnaa
