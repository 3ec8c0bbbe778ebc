import Derived.Test.YtmbnclpgldglnaaAvHand
import Derived.Test.YtmbnclpgldglnaaMg1
section
namespace Go.Proofs.Ytmbnclpgldglnaa
open Go.RowKit
set_option linter.unusedVariables false
set_option linter.unusedSimpArgs false
set_option maxRecDepth 20000
theorem rotl_spec (x : BitVec 32) (k : Int) (s : Nat) (hs : Go.bits .and .u64 (IntKind.u64.wrap k) 31 = (s : Int)) (h : s < 32) :
    Spec Try.prog 114 [.int .u32 (n32 x), .int .i64 k] (.k (.int .u32 (n32 (x <<< s ||| x >>> (32 - s))))) := by
  refine spec_of (fun _ => false) (by kernel_rfl) Try.func114 rfl rfl (by simp [Try.ntmps114]) (by decide) ?_
  intro δ
  rw [init2]
  repeat with_reducible (first | refine aWp_seq ?_ | refine seq_normal ?_ | refine seq_ret ?_ | refine seq_exit ?_ | refine blk_normal ?_ | refine blk_ret ?_ | refine blk_hit ?_ | refine blk_miss rfl ?_ | refine aWp_ret ?_ | refine aWp_skip ?_ | refine aWp_block ?_ | refine aWp_exit ?_ | refine end_ret ?_ | refine end_normal ?_)
  refine rgA ?_
  intro ν
  repeat with_reducible (first | refine aWp_seq ?_ | refine seq_normal ?_ | refine seq_ret ?_ | refine seq_exit ?_ | refine blk_normal ?_ | refine blk_ret ?_ | refine blk_hit ?_ | refine blk_miss rfl ?_ | refine aWp_ret ?_ | refine aWp_skip ?_ | refine aWp_block ?_ | refine aWp_exit ?_ | refine end_ret ?_ | refine end_normal ?_)
  refine rgA ?_
  intro ν
  rw [hs]
  have e : ((32 : Int) - (s : Int)).toNat = 32 - s := by omega
  repeat with_reducible (first | refine aWp_seq ?_ | refine seq_normal ?_ | refine seq_ret ?_ | refine seq_exit ?_ | refine blk_normal ?_ | refine blk_ret ?_ | refine blk_hit ?_ | refine blk_miss rfl ?_ | refine aWp_ret ?_ | refine aWp_skip ?_ | refine aWp_block ?_ | refine aWp_exit ?_ | refine end_ret ?_ | refine end_normal ?_)
  refine rgA ?_
  intro ν
  repeat with_reducible (first | refine aWp_seq ?_ | refine seq_normal ?_ | refine seq_ret ?_ | refine seq_exit ?_ | refine blk_normal ?_ | refine blk_ret ?_ | refine blk_hit ?_ | refine blk_miss rfl ?_ | refine aWp_ret ?_ | refine aWp_skip ?_ | refine aWp_block ?_ | refine aWp_exit ?_ | refine end_ret ?_ | refine end_normal ?_)
  (first | with_reducible refine end_r ?_ | with_reducible refine end_n ?_); refine en1 ?_
  rw [e]
theorem turn_spec (x : BitVec 32) (n : Nat) (hn : n < 32) (h0 : 0 < n) (hs : Go.bits .and .u64 (IntKind.u64.wrap (-(n : Int))) 31 = ((32 - n : Nat) : Int)) :
    Spec Try.prog 109 [.int .u32 (n32 x), .int .i64 n] (.k (.int .u32 (n32 (x.rotateRight n)))) := by
  have s1 := rotl_spec x (0 - (n : Int)) (32 - n) (by rw [Int.zero_sub]; exact hs) (by omega)
  have e : x <<< (32 - n) ||| x >>> (32 - (32 - n)) = x.rotateRight n := by
    rw [BitVec.rotateRight_def, Nat.mod_eq_of_lt hn, show 32 - (32 - n) = n by omega, BitVec.or_comm]
  rw [e] at s1
  refine spec_of (fun _ => false) (by kernel_rfl) Try.func109 rfl rfl (by simp [Try.ntmps109]) (by decide) ?_
  intro δ
  rw [init2]
  repeat with_reducible (first | refine aWp_seq ?_ | refine seq_normal ?_ | refine seq_ret ?_ | refine seq_exit ?_ | refine blk_normal ?_ | refine blk_ret ?_ | refine blk_hit ?_ | refine blk_miss rfl ?_ | refine aWp_ret ?_ | refine aWp_skip ?_ | refine aWp_block ?_ | refine aWp_exit ?_ | refine end_ret ?_ | refine end_normal ?_)
  refine rgA ?_
  intro ν
  repeat with_reducible (first | refine aWp_seq ?_ | refine seq_normal ?_ | refine seq_ret ?_ | refine seq_exit ?_ | refine blk_normal ?_ | refine blk_ret ?_ | refine blk_hit ?_ | refine blk_miss rfl ?_ | refine aWp_ret ?_ | refine aWp_skip ?_ | refine aWp_block ?_ | refine aWp_exit ?_ | refine end_ret ?_ | refine end_normal ?_)
  refine rg fun K hK => ?_
  refine stA ?_
  (first | with_reducible refine g0 ?_ | ((with_reducible refine g1 ?_ ?_); (with_reducible apply gt_); exact rfl; exact rfl; (first | rfl | assumption | (simp [*] <;> done)))); refine scA (h2 := (s1)) (hk := ?_)
  refine stA ?_
  with_reducible refine rz ?_
  refine hK _ _ _ ?_
  clear hK K; intro ν
  repeat (first | with_reducible (first | refine aWp_seq ?_ | refine seq_normal ?_ | refine seq_ret ?_ | refine seq_exit ?_ | refine blk_normal ?_ | refine blk_ret ?_ | refine blk_hit ?_ | refine blk_miss rfl ?_ | refine aWp_ret ?_ | refine aWp_skip ?_ | refine aWp_block ?_ | refine aWp_exit ?_ | refine end_ret ?_ | refine end_normal ?_) | ((refine rgA ?_); intro ν) | ((with_reducible apply cndT); exact rfl; (first | rfl | assumption)) | ((with_reducible apply cndF); exact rfl; (first | rfl | assumption)))
  (first | with_reducible refine end_r ?_ | with_reducible refine end_n ?_); refine en1 ?_
  rfl
end Go.Proofs.Ytmbnclpgldglnaa
end
section
namespace Go.Proofs.Ytmbnclpgldglnaa
open Go.RowKit
set_option linter.unusedVariables false
set_option linter.unusedSimpArgs false
set_option maxRecDepth 20000
set_option maxHeartbeats 8000000 in
theorem schedule_spec (full : Bool) (b : List UInt8) (hb : b.length = 64) : Spec Try.prog 108 [.sl full 64 (aOfBytes b)] (.k (.agg (aOfW (sched b 64)))) := by
  refine spec_of (fun _ => false) (by kernel_rfl) Try.func108 rfl rfl (by simp [Try.ntmps108]) (by decide) ?_
  intro δ
  rw [init1]
  have hba := aOfBytes_len b
  repeat (first | with_reducible (first | refine aWp_seq ?_ | refine seq_normal ?_ | refine seq_ret ?_ | refine seq_exit ?_ | refine blk_normal ?_ | refine blk_ret ?_ | refine blk_hit ?_ | refine blk_miss rfl ?_ | refine aWp_ret ?_ | refine aWp_skip ?_ | refine aWp_block ?_ | refine aWp_exit ?_ | refine end_ret ?_ | refine end_normal ?_) | ((refine rgA ?_); intro ν) | ((with_reducible apply cndT); exact rfl; (first | rfl | assumption)) | ((with_reducible apply cndF); exact rfl; (first | rfl | assumption)))
  refine aWp_loop (fun m s => ∃ F T ν t g g2, m = 64 - t ∧ t ≤ 64 ∧ s = ⟨F, T, ν, ⟨fun _ => false, δ, false⟩⟩ ∧
    F 0 = .k (.sl full 64 (aOfBytes b)) ∧ F 2 = .ob 2 g2 0 ∧ F 3 = .ob 3 g 0 ∧ F 7 = .k (.int .i64 (t : Nat)) ∧ T 2 = some (g2, .obj (List.replicate 64 (.int .u32 0))) ∧ T 3 = some (g, .obj (aOfW (sched b t) ++ List.replicate (64 - t) (.int .u32 0)))) 64 ⟨_, _, _, 0, _, _, rfl, Nat.zero_le _, rfl, rfl, rfl, rfl, rfl, rfl, rfl⟩ ?_
  rintro m s ⟨F, T, ν, t, g, g2, rfl, ht, rfl, f0, f2, f3, f7, t2, t3⟩
  rw [has4 f0 f2 f3 f7, has2 t2 t3]
  have hsl := sched_len b t
  have hlen : (aOfW (sched b t) ++ List.replicate (64 - t) (AV.int .u32 0)).length = 64 := by rw [List.length_append, aOfW_len, hsl, List.length_replicate]; omega
  repeat with_reducible (first | refine aWp_seq ?_ | refine seq_normal ?_ | refine seq_ret ?_ | refine seq_exit ?_ | refine blk_normal ?_ | refine blk_ret ?_ | refine blk_hit ?_ | refine blk_miss rfl ?_ | refine aWp_ret ?_ | refine aWp_skip ?_ | refine aWp_block ?_ | refine aWp_exit ?_ | refine end_ret ?_ | refine end_normal ?_)
  by_cases hlt : t < 64
  · have fin : ∀ v, v = schW b (sched b t) t → List.take t (aOfW (sched b t) ++ List.replicate (64 - t) (AV.int .u32 0)) ++ [AV.int .u32 (n32 v)] ++ List.drop (t + 1) (aOfW (sched b t) ++ List.replicate (64 - t) (AV.int .u32 0)) = aOfW (sched b (t + 1)) ++ List.replicate (64 - (t + 1)) (AV.int .u32 0) := by
      rintro v rfl
      rw [fill_next (by rw [aOfW_len, hsl]) hlt, sched, aOfW_append]; rfl
    by_cases h16 : t < 16
    · have l0 := ld_b b (4 * (t : Int)).toNat (by omega)
      have l1 := ld_b b (4 * (t : Int) + 1).toNat (by omega)
      have l2 := ld_b b (4 * (t : Int) + 2).toNat (by omega)
      have l3 := ld_b b (4 * (t : Int) + 3).toNat (by omega)
      repeat (first | with_reducible (first | refine aWp_seq ?_ | refine seq_normal ?_ | refine seq_ret ?_ | refine seq_exit ?_ | refine blk_normal ?_ | refine blk_ret ?_ | refine blk_hit ?_ | refine blk_miss rfl ?_ | refine aWp_ret ?_ | refine aWp_skip ?_ | refine aWp_block ?_ | refine aWp_exit ?_ | refine end_ret ?_ | refine end_normal ?_) | ((refine rgA ?_); intro ν) | ((with_reducible apply cndT); exact rfl; (first | rfl | assumption)) | ((with_reducible apply cndF); exact rfl; (first | rfl | assumption)))
      refine rgxA [(35,[3],[3])] ?_
      intro ν
      repeat (first | with_reducible (first | refine aWp_seq ?_ | refine seq_normal ?_ | refine seq_ret ?_ | refine seq_exit ?_ | refine blk_normal ?_ | refine blk_ret ?_ | refine blk_hit ?_ | refine blk_miss rfl ?_ | refine aWp_ret ?_ | refine aWp_skip ?_ | refine aWp_block ?_ | refine aWp_exit ?_ | refine end_ret ?_ | refine end_normal ?_) | ((refine rgA ?_); intro ν) | ((with_reducible apply cndT); exact rfl; (first | rfl | assumption)) | ((with_reducible apply cndF); exact rfl; (first | rfl | assumption)))
      refine ⟨64 - (t + 1), by omega, _, _, _, t + 1, g, g2, rfl, by omega, rfl, rfl, rfl, rfl, ?_, rfl, ?_⟩
      · show (SV.k (.int .i64 ((t : Int) + 1)) : SV) = _
        rw [Int.natCast_succ]
      · rw [upd_same, fin]
        rw [schW, if_pos h16, beW, show (4 * (t : Int)).toNat = 4 * t by omega, show (4 * (t : Int) + 1).toNat = 4 * t + 1 by omega, show (4 * (t : Int) + 2).toNat = 4 * t + 2 by omega, show (4 * (t : Int) + 3).toNat = 4 * t + 3 by omega]
    · have l2 := ld_w (sched b t) (List.replicate (64 - t) (AV.int .u32 0)) ((t : Int) - 2).toNat (by omega)
      have l15 := ld_w (sched b t) (List.replicate (64 - t) (AV.int .u32 0)) ((t : Int) - 15).toNat (by omega)
      have l7 := ld_w (sched b t) (List.replicate (64 - t) (AV.int .u32 0)) ((t : Int) - 7).toNat (by omega)
      have l16 := ld_w (sched b t) (List.replicate (64 - t) (AV.int .u32 0)) ((t : Int) - 16).toNat (by omega)
      repeat (first | with_reducible (first | refine aWp_seq ?_ | refine seq_normal ?_ | refine seq_ret ?_ | refine seq_exit ?_ | refine blk_normal ?_ | refine blk_ret ?_ | refine blk_hit ?_ | refine blk_miss rfl ?_ | refine aWp_ret ?_ | refine aWp_skip ?_ | refine aWp_block ?_ | refine aWp_exit ?_ | refine end_ret ?_ | refine end_normal ?_) | ((refine rgA ?_); intro ν) | ((with_reducible apply cndT); exact rfl; (first | rfl | assumption)) | ((with_reducible apply cndF); exact rfl; (first | rfl | assumption)))
      refine rgxA [(3,[3],[]),(7,[3],[])] ?_
      intro ν
      repeat with_reducible (first | refine aWp_seq ?_ | refine seq_normal ?_ | refine seq_ret ?_ | refine seq_exit ?_ | refine blk_normal ?_ | refine blk_ret ?_ | refine blk_hit ?_ | refine blk_miss rfl ?_ | refine aWp_ret ?_ | refine aWp_skip ?_ | refine aWp_block ?_ | refine aWp_exit ?_ | refine end_ret ?_ | refine end_normal ?_)
      refine rgx [(12,[3],[]),(26,[3],[]),(29,[3],[3])] (by kernel_rfl) fun K hK => ?_
      refine stxA ?_
      ((first | ((with_reducible refine x0 ?_ ?_); exact rfl) | ((with_reducible refine x1 ?_ ?_ ?_); exact rfl; (with_reducible apply gt_); exact rfl; exact rfl; (first | rfl | assumption | (simp [*] <;> done)))); refine xcA (h2 := (turn_spec _ 17 (by omega) (by omega) (by decide))) (hk := ?_))
      refine stxA ?_
      ((first | ((with_reducible refine x0 ?_ ?_); exact rfl) | ((with_reducible refine x1 ?_ ?_ ?_); exact rfl; (with_reducible apply gt_); exact rfl; exact rfl; (first | rfl | assumption | (simp [*] <;> done)))); refine xcA (h2 := (turn_spec _ 19 (by omega) (by omega) (by decide))) (hk := ?_))
      refine stxA ?_
      ((first | ((with_reducible refine x0 ?_ ?_); exact rfl) | ((with_reducible refine x1 ?_ ?_ ?_); exact rfl; (with_reducible apply gt_); exact rfl; exact rfl; (first | rfl | assumption | (simp [*] <;> done)))); refine xcA (h2 := (turn_spec _ 7 (by omega) (by omega) (by decide))) (hk := ?_))
      refine stxA ?_
      ((first | ((with_reducible refine x0 ?_ ?_); exact rfl) | ((with_reducible refine x1 ?_ ?_ ?_); exact rfl; (with_reducible apply gt_); exact rfl; exact rfl; (first | rfl | assumption | (simp [*] <;> done)))); refine xcA (h2 := (turn_spec _ 18 (by omega) (by omega) (by decide))) (hk := ?_))
      refine stxA ?_
      with_reducible refine xz ?_
      refine hK _ _ _ ?_
      clear hK K; intro ν
      repeat (first | with_reducible (first | refine aWp_seq ?_ | refine seq_normal ?_ | refine seq_ret ?_ | refine seq_exit ?_ | refine blk_normal ?_ | refine blk_ret ?_ | refine blk_hit ?_ | refine blk_miss rfl ?_ | refine aWp_ret ?_ | refine aWp_skip ?_ | refine aWp_block ?_ | refine aWp_exit ?_ | refine end_ret ?_ | refine end_normal ?_) | ((refine rgA ?_); intro ν) | ((with_reducible apply cndT); exact rfl; (first | rfl | assumption)) | ((with_reducible apply cndF); exact rfl; (first | rfl | assumption)))
      refine ⟨64 - (t + 1), by omega, _, _, _, t + 1, g, g2, rfl, by omega, rfl, rfl, rfl, rfl, ?_, rfl, ?_⟩
      · show (SV.k (.int .i64 ((t : Int) + 1)) : SV) = _
        rw [Int.natCast_succ]
      · rw [upd_same, fin]
        rw [schW, if_neg h16, show ((t : Int) - 2).toNat = t - 2 by omega, show ((t : Int) - 15).toNat = t - 15 by omega, show ((t : Int) - 7).toNat = t - 7 by omega, show ((t : Int) - 16).toNat = t - 16 by omega]; rfl
  · have he : t = 64 := by omega
    subst he
    rw [Nat.sub_self, List.replicate_zero, List.append_nil]
    rw [Nat.sub_self, List.replicate_zero, List.append_nil] at hlen
    clear t2 t3
    generalize sched b 64 = ws at *
    have h1 := ld_arr (n := 64) (e := 85) (aOfW ws) hlen
    repeat (first | with_reducible (first | refine aWp_seq ?_ | refine seq_normal ?_ | refine seq_ret ?_ | refine seq_exit ?_ | refine blk_normal ?_ | refine blk_ret ?_ | refine blk_hit ?_ | refine blk_miss rfl ?_ | refine aWp_ret ?_ | refine aWp_skip ?_ | refine aWp_block ?_ | refine aWp_exit ?_ | refine end_ret ?_ | refine end_normal ?_) | ((refine rgA ?_); intro ν) | ((with_reducible apply cndT); exact rfl; (first | rfl | assumption)) | ((with_reducible apply cndF); exact rfl; (first | rfl | assumption)))
    rw [drop_rep, List.append_nil]
    (first | with_reducible refine end_r ?_ | with_reducible refine end_n ?_); refine en1c ?_
    rfl
end Go.Proofs.Ytmbnclpgldglnaa
end
section
namespace Go.Proofs.Ytmbnclpgldglnaa
open Go.RowKit
set_option linter.unusedVariables false
set_option linter.unusedSimpArgs false
set_option maxRecDepth 20000
theorem set_w (l : List (BitVec 32)) (x : BitVec 32) (i : Nat) (h : i < l.length) : List.take i (aOfW l) ++ [.int .u32 (n32 x)] ++ List.drop (i + 1) (aOfW l) = aOfW (l.set i x) := by
  rw [set_cell _ _ _ (by rw [aOfW_len]; exact h)]
  simp [aOfW, List.map_set]
def mixAdd (h v : List (BitVec 32)) : Nat → List (BitVec 32)
  | 0 => h
  | i + 1 => (mixAdd h v i).set i (h.getD i 0 + v.getD i 0)
theorem mixAdd_len (h v : List (BitVec 32)) (i : Nat) : (mixAdd h v i).length = h.length := by
  induction i with
  | zero => rfl
  | succ i ih => rw [mixAdd, List.length_set, ih]
theorem mixAdd_get (h v : List (BitVec 32)) (j : Nat) : ∀ i, j ≤ i → (mixAdd h v j).getD i 0 = h.getD i 0 := by
  induction j with
  | zero => intro i _; rfl
  | succ j ih =>
    intro i hi
    rw [mixAdd, List.getD_eq_getElem?_getD, List.getElem?_set_ne (by omega), ← List.getD_eq_getElem?_getD]
    exact ih i (by omega)
theorem mixAdd_all (h v : List (BitVec 32)) (h1 : h.length = 8) (h2 : v.length = 8) : mixAdd h v 8 = List.zipWith (· + ·) h v := by
  obtain ⟨a, b, c, d, e, f, g, i, rfl⟩ := eight h1
  obtain ⟨a', b', c', d', e', f', g', i', rfl⟩ := eight h2
  rfl
set_option maxHeartbeats 16000000 in
theorem round_spec (full : Bool) (h ks : List (BitVec 32)) (b : List UInt8) (h8 : h.length = 8) (hk : ks.length = 64) (hb : b.length = 64) :
    Spec Try.prog 94 [.agg (aOfW h), .cp (aOfW ks), .sl full 64 (aOfBytes b)] (.k (.agg (aOfW (press ks h b)))) := by
  have s1 := schedule_spec full b hb
  rw [press]
  have hws := sched_len b 64
  generalize sched b 64 = ws at *
  have hha := aOfW_len h
  have hka := aOfW_len ks
  have hwa := aOfW_len ws
  refine spec_of (fun _ => false) (by kernel_rfl) Try.func94 rfl rfl (by simp [Try.ntmps94]) (by decide) ?_
  intro δ
  rw [init3]
  have e1 := ld_arr (n := 8) (e := 85) (aOfW h) (sz := 8) (by omega)
  repeat (first | with_reducible (first | refine aWp_seq ?_ | refine seq_normal ?_ | refine seq_ret ?_ | refine seq_exit ?_ | refine blk_normal ?_ | refine blk_ret ?_ | refine blk_hit ?_ | refine blk_miss rfl ?_ | refine aWp_ret ?_ | refine aWp_skip ?_ | refine aWp_block ?_ | refine aWp_exit ?_ | refine end_ret ?_ | refine end_normal ?_) | ((refine rgA ?_); intro ν) | ((with_reducible apply cndT); exact rfl; (first | rfl | assumption)) | ((with_reducible apply cndF); exact rfl; (first | rfl | assumption)))
  refine rg fun K hK => ?_
  refine stA ?_
  (first | with_reducible refine g0 ?_ | ((with_reducible refine g1 ?_ ?_); (with_reducible apply gt_); exact rfl; exact rfl; (first | rfl | assumption | (simp [*] <;> done)))); refine scA (h2 := (s1)) (hk := ?_)
  refine stA ?_
  with_reducible refine rz ?_
  refine hK _ _ _ ?_
  clear hK K; intro ν
  repeat (first | with_reducible (first | refine aWp_seq ?_ | refine seq_normal ?_ | refine seq_ret ?_ | refine seq_exit ?_ | refine blk_normal ?_ | refine blk_ret ?_ | refine blk_hit ?_ | refine blk_miss rfl ?_ | refine aWp_ret ?_ | refine aWp_skip ?_ | refine aWp_block ?_ | refine aWp_exit ?_ | refine end_ret ?_ | refine end_normal ?_) | ((refine rgA ?_); intro ν) | ((with_reducible apply cndT); exact rfl; (first | rfl | assumption)) | ((with_reducible apply cndF); exact rfl; (first | rfl | assumption)))
  refine aWp_loop (fun m s => ∃ F T ν t g3 g6 g7, m = 64 - t ∧ t ≤ 64 ∧ s = ⟨F, T, ν, ⟨fun _ => false, δ, false⟩⟩ ∧
    F 1 = .k (.cp (aOfW ks)) ∧ F 3 = .ob 3 g3 0 ∧ F 6 = .ob 6 g6 0 ∧ F 7 = .ob 7 g7 0 ∧ F 17 = .k (.agg (aOfW ws)) ∧ F 18 = .k (.int .i64 (t : Nat)) ∧ T 3 = some (g3, .obj (aOfW h)) ∧ T 6 = some (g6, .obj (List.replicate 8 (.int .u32 0))) ∧ T 7 = some (g7, .obj (aOfW (rnds ks ws h t)))) 64 ⟨_, _, _, 0, _, _, _, rfl, Nat.zero_le _, rfl, rfl, rfl, rfl, rfl, rfl, rfl, rfl, rfl, rfl⟩ ?_
  rintro m s ⟨F, T, ν, t, g3, g6, g7, rfl, ht, rfl, f1, f3, f6, f7, f17, f18, t3, t6, t7⟩
  rw [has6 f1 f3 f6 f7 f17 f18, has3 t3 t6 t7]
  repeat with_reducible (first | refine aWp_seq ?_ | refine seq_normal ?_ | refine seq_ret ?_ | refine seq_exit ?_ | refine blk_normal ?_ | refine blk_ret ?_ | refine blk_hit ?_ | refine blk_miss rfl ?_ | refine aWp_ret ?_ | refine aWp_skip ?_ | refine aWp_block ?_ | refine aWp_exit ?_ | refine end_ret ?_ | refine end_normal ?_)
  by_cases hlt : t < 64
  · have hx := rnds_len ks ws h t
    have lk := ld_w0 ks t (by omega)
    have lw : ldAgg (.int .u32) 1 (List.drop ((t : Int).toNat * 1) (aOfW ws)) = some (.int .u32 (n32 (ws.getD t 0))) := by
      rw [Int.toNat_natCast, Nat.mul_one]; exact ld_w0 ws t (by omega)
    have hn : rnds ks ws h (t + 1) = rnd (ks.getD t 0) (ws.getD t 0) (rnds ks ws h t) := rfl
    obtain ⟨a, b, c, d, e, f, g, i, he⟩ := eight (hx.trans h8)
    rw [he] at hn t7 ⊢
    simp only [aOfW_cons, aOfW_nil]
    repeat (first | with_reducible (first | refine aWp_seq ?_ | refine seq_normal ?_ | refine seq_ret ?_ | refine seq_exit ?_ | refine blk_normal ?_ | refine blk_ret ?_ | refine blk_hit ?_ | refine blk_miss rfl ?_ | refine aWp_ret ?_ | refine aWp_skip ?_ | refine aWp_block ?_ | refine aWp_exit ?_ | refine end_ret ?_ | refine end_normal ?_) | ((refine rgA ?_); intro ν) | ((with_reducible apply cndT); exact rfl; (first | rfl | assumption)) | ((with_reducible apply cndF); exact rfl; (first | rfl | assumption)))
    refine rgxA [(1,[7],[]),(3,[7],[])] ?_
    intro ν
    repeat with_reducible (first | refine aWp_seq ?_ | refine seq_normal ?_ | refine seq_ret ?_ | refine seq_exit ?_ | refine blk_normal ?_ | refine blk_ret ?_ | refine blk_hit ?_ | refine blk_miss rfl ?_ | refine aWp_ret ?_ | refine aWp_skip ?_ | refine aWp_block ?_ | refine aWp_exit ?_ | refine end_ret ?_ | refine end_normal ?_)
    refine rgx [(1,[7],[]),(13,[7],[]),(18,[7],[])] (by kernel_rfl) fun K hK => ?_
    refine stxA ?_
    ((first | ((with_reducible refine x0 ?_ ?_); exact rfl) | ((with_reducible refine x1 ?_ ?_ ?_); exact rfl; (with_reducible apply gt_); exact rfl; exact rfl; (first | rfl | assumption | (simp [*] <;> done)))); refine xcA (h2 := (turn_spec _ 6 (by omega) (by omega) (by decide))) (hk := ?_))
    refine stxA ?_
    ((first | ((with_reducible refine x0 ?_ ?_); exact rfl) | ((with_reducible refine x1 ?_ ?_ ?_); exact rfl; (with_reducible apply gt_); exact rfl; exact rfl; (first | rfl | assumption | (simp [*] <;> done)))); refine xcA (h2 := (turn_spec _ 11 (by omega) (by omega) (by decide))) (hk := ?_))
    refine stxA ?_
    ((first | ((with_reducible refine x0 ?_ ?_); exact rfl) | ((with_reducible refine x1 ?_ ?_ ?_); exact rfl; (with_reducible apply gt_); exact rfl; exact rfl; (first | rfl | assumption | (simp [*] <;> done)))); refine xcA (h2 := (turn_spec _ 25 (by omega) (by omega) (by decide))) (hk := ?_))
    refine stxA ?_
    with_reducible refine xz ?_
    refine hK _ _ _ ?_
    clear hK K; intro ν
    repeat with_reducible (first | refine aWp_seq ?_ | refine seq_normal ?_ | refine seq_ret ?_ | refine seq_exit ?_ | refine blk_normal ?_ | refine blk_ret ?_ | refine blk_hit ?_ | refine blk_miss rfl ?_ | refine aWp_ret ?_ | refine aWp_skip ?_ | refine aWp_block ?_ | refine aWp_exit ?_ | refine end_ret ?_ | refine end_normal ?_)
    refine rgx [(10,[7],[]),(14,[7],[]),(18,[7],[]),(20,[7],[])] (by kernel_rfl) fun K hK => ?_
    refine stxA ?_
    ((first | ((with_reducible refine x0 ?_ ?_); exact rfl) | ((with_reducible refine x1 ?_ ?_ ?_); exact rfl; (with_reducible apply gt_); exact rfl; exact rfl; (first | rfl | assumption | (simp [*] <;> done)))); refine xcA (h2 := (turn_spec _ 2 (by omega) (by omega) (by decide))) (hk := ?_))
    refine stxA ?_
    ((first | ((with_reducible refine x0 ?_ ?_); exact rfl) | ((with_reducible refine x1 ?_ ?_ ?_); exact rfl; (with_reducible apply gt_); exact rfl; exact rfl; (first | rfl | assumption | (simp [*] <;> done)))); refine xcA (h2 := (turn_spec _ 13 (by omega) (by omega) (by decide))) (hk := ?_))
    refine stxA ?_
    ((first | ((with_reducible refine x0 ?_ ?_); exact rfl) | ((with_reducible refine x1 ?_ ?_ ?_); exact rfl; (with_reducible apply gt_); exact rfl; exact rfl; (first | rfl | assumption | (simp [*] <;> done)))); refine xcA (h2 := (turn_spec _ 22 (by omega) (by omega) (by decide))) (hk := ?_))
    refine stxA ?_
    with_reducible refine xz ?_
    refine hK _ _ _ ?_
    clear hK K; intro ν
    repeat with_reducible (first | refine aWp_seq ?_ | refine seq_normal ?_ | refine seq_ret ?_ | refine seq_exit ?_ | refine blk_normal ?_ | refine blk_ret ?_ | refine blk_hit ?_ | refine blk_miss rfl ?_ | refine aWp_ret ?_ | refine aWp_skip ?_ | refine aWp_block ?_ | refine aWp_exit ?_ | refine end_ret ?_ | refine end_normal ?_)
    refine rgxA [(2,[7],[7])] ?_
    intro ν
    repeat (first | with_reducible (first | refine aWp_seq ?_ | refine seq_normal ?_ | refine seq_ret ?_ | refine seq_exit ?_ | refine blk_normal ?_ | refine blk_ret ?_ | refine blk_hit ?_ | refine blk_miss rfl ?_ | refine aWp_ret ?_ | refine aWp_skip ?_ | refine aWp_block ?_ | refine aWp_exit ?_ | refine end_ret ?_ | refine end_normal ?_) | ((refine rgA ?_); intro ν) | ((with_reducible apply cndT); exact rfl; (first | rfl | assumption)) | ((with_reducible apply cndF); exact rfl; (first | rfl | assumption)))
    refine ⟨64 - (t + 1), by omega, _, _, _, t + 1, g3, g6, g7, rfl, by omega, rfl, rfl, rfl, rfl, rfl, rfl, ?_, rfl, rfl, ?_⟩
    · show (SV.k (.int .i64 ((t : Int) + 1)) : SV) = _
      rw [Int.natCast_succ]
    · rw [upd_same, hn]; rfl
  · have hte : t = 64 := by omega
    subst hte
    have hx := (rnds_len ks ws h 64).trans h8
    clear t7
    generalize rnds ks ws h 64 = v at *
    have hva := aOfW_len v
    rw [← mixAdd_all h v h8 hx]
    repeat (first | with_reducible (first | refine aWp_seq ?_ | refine seq_normal ?_ | refine seq_ret ?_ | refine seq_exit ?_ | refine blk_normal ?_ | refine blk_ret ?_ | refine blk_hit ?_ | refine blk_miss rfl ?_ | refine aWp_ret ?_ | refine aWp_skip ?_ | refine aWp_block ?_ | refine aWp_exit ?_ | refine end_ret ?_ | refine end_normal ?_) | ((refine rgA ?_); intro ν) | ((with_reducible apply cndT); exact rfl; (first | rfl | assumption)) | ((with_reducible apply cndF); exact rfl; (first | rfl | assumption)))
    refine aWp_loop (fun m s => ∃ F T ν i g3 g6 g7, m = 8 - i ∧ i ≤ 8 ∧ s = ⟨F, T, ν, ⟨fun _ => false, δ, false⟩⟩ ∧
      F 3 = .ob 3 g3 0 ∧ F 6 = .ob 6 g6 0 ∧ F 7 = .ob 7 g7 0 ∧ F 93 = .k (.int .i64 (i : Nat)) ∧ T 3 = some (g3, .obj (aOfW (mixAdd h v i))) ∧ T 6 = some (g6, .obj (List.replicate 8 (.int .u32 0))) ∧ T 7 = some (g7, .obj (aOfW v))) 8 ⟨_, _, _, 0, _, _, _, rfl, Nat.zero_le _, rfl, rfl, rfl, rfl, rfl, rfl, rfl, rfl⟩ ?_
    rintro m s ⟨F, T, ν, i, g3, g6, g7, rfl, hi, rfl, f3, f6, f7, f93, t3, t6, t7⟩
    rw [has4 f3 f6 f7 f93, has3 t3 t6 t7]
    have hml := mixAdd_len h v i
    have hma := aOfW_len (mixAdd h v i)
    by_cases hlt : i < 8
    · have l1 := ld_w0 (mixAdd h v i) i (by omega)
      have l2 := ld_w0 v i (by omega)
      rw [mixAdd_get h v i i (Nat.le_refl _)] at l1
      have hst := set_w (mixAdd h v i) (h.getD i 0 + v.getD i 0) i (by omega)
      repeat (first | with_reducible (first | refine aWp_seq ?_ | refine seq_normal ?_ | refine seq_ret ?_ | refine seq_exit ?_ | refine blk_normal ?_ | refine blk_ret ?_ | refine blk_hit ?_ | refine blk_miss rfl ?_ | refine aWp_ret ?_ | refine aWp_skip ?_ | refine aWp_block ?_ | refine aWp_exit ?_ | refine end_ret ?_ | refine end_normal ?_) | ((refine rgA ?_); intro ν) | ((with_reducible apply cndT); exact rfl; (first | rfl | assumption)) | ((with_reducible apply cndF); exact rfl; (first | rfl | assumption)))
      refine rgxA [(2,[3],[]),(5,[7],[]),(8,[3],[3])] ?_
      intro ν
      repeat (first | with_reducible (first | refine aWp_seq ?_ | refine seq_normal ?_ | refine seq_ret ?_ | refine seq_exit ?_ | refine blk_normal ?_ | refine blk_ret ?_ | refine blk_hit ?_ | refine blk_miss rfl ?_ | refine aWp_ret ?_ | refine aWp_skip ?_ | refine aWp_block ?_ | refine aWp_exit ?_ | refine end_ret ?_ | refine end_normal ?_) | ((refine rgA ?_); intro ν) | ((with_reducible apply cndT); exact rfl; (first | rfl | assumption)) | ((with_reducible apply cndF); exact rfl; (first | rfl | assumption)))
      refine ⟨8 - (i + 1), by omega, _, _, _, i + 1, g3, g6, g7, rfl, by omega, rfl, rfl, rfl, rfl, ?_, ?_, rfl, rfl⟩
      · show (SV.k (.int .i64 ((i : Int) + 1)) : SV) = _
        rw [Int.natCast_succ]
      · rw [upd_same, hst]; rfl
    · have hie : i = 8 := by omega
      subst hie
      have e2 := ld_arr (n := 8) (e := 85) (aOfW (mixAdd h v 8)) (sz := 8) (by omega)
      repeat (first | with_reducible (first | refine aWp_seq ?_ | refine seq_normal ?_ | refine seq_ret ?_ | refine seq_exit ?_ | refine blk_normal ?_ | refine blk_ret ?_ | refine blk_hit ?_ | refine blk_miss rfl ?_ | refine aWp_ret ?_ | refine aWp_skip ?_ | refine aWp_block ?_ | refine aWp_exit ?_ | refine end_ret ?_ | refine end_normal ?_) | ((refine rgA ?_); intro ν) | ((with_reducible apply cndT); exact rfl; (first | rfl | assumption)) | ((with_reducible apply cndF); exact rfl; (first | rfl | assumption)))
      rw [drop_rep, List.append_nil]
      (first | with_reducible refine end_r ?_ | with_reducible refine end_n ?_); refine en1c ?_
      rfl
end Go.Proofs.Ytmbnclpgldglnaa
end
section
namespace Go.Proofs.Ytmbnclpgldglnaa
open Go.RowKit
set_option linter.unusedVariables false
set_option linter.unusedSimpArgs false
set_option maxRecDepth 20000
def wordsK : List (BitVec 32) := [0x428a2f98#32, 0x71374491#32, 0xb5c0fbcf#32, 0xe9b5dba5#32, 0x3956c25b#32, 0x59f111f1#32, 0x923f82a4#32, 0xab1c5ed5#32, 0xd807aa98#32, 0x12835b01#32, 0x243185be#32, 0x550c7dc3#32, 0x72be5d74#32, 0x80deb1fe#32, 0x9bdc06a7#32, 0xc19bf174#32, 0xe49b69c1#32, 0xefbe4786#32, 0x0fc19dc6#32, 0x240ca1cc#32, 0x2de92c6f#32, 0x4a7484aa#32, 0x5cb0a9dc#32, 0x76f988da#32, 0x983e5152#32, 0xa831c66d#32, 0xb00327c8#32, 0xbf597fc7#32, 0xc6e00bf3#32, 0xd5a79147#32, 0x06ca6351#32, 0x14292967#32, 0x27b70a85#32, 0x2e1b2138#32, 0x4d2c6dfc#32, 0x53380d13#32, 0x650a7354#32, 0x766a0abb#32, 0x81c2c92e#32, 0x92722c85#32, 0xa2bfe8a1#32, 0xa81a664b#32, 0xc24b8b70#32, 0xc76c51a3#32, 0xd192e819#32, 0xd6990624#32, 0xf40e3585#32, 0x106aa070#32, 0x19a4c116#32, 0x1e376c08#32, 0x2748774c#32, 0x34b0bcb5#32, 0x391c0cb3#32, 0x4ed8aa4a#32, 0x5b9cca4f#32, 0x682e6ff3#32, 0x748f82ee#32, 0x78a5636f#32, 0x84c87814#32, 0x8cc70208#32, 0x90befffa#32, 0xa4506ceb#32, 0xbef9a3f7#32, 0xc67178f2#32]
def startH : List (BitVec 32) := [0x6a09e667#32, 0xbb67ae85#32, 0x3c6ef372#32, 0xa54ff53a#32, 0x510e527f#32, 0x9b05688c#32, 0x1f83d9ab#32, 0x5be0cd19#32]
theorem start_spec : Spec Try.prog 91 [] (.k (.agg (aOfW startH))) := by
  refine spec_of (fun _ => false) (by kernel_rfl) Try.func91 rfl rfl (by simp [Try.ntmps91]) (by decide) ?_
  intro δ
  rw [init0]
  repeat (first | with_reducible (first | refine aWp_seq ?_ | refine seq_normal ?_ | refine seq_ret ?_ | refine seq_exit ?_ | refine blk_normal ?_ | refine blk_ret ?_ | refine blk_hit ?_ | refine blk_miss rfl ?_ | refine aWp_ret ?_ | refine aWp_skip ?_ | refine aWp_block ?_ | refine aWp_exit ?_ | refine end_ret ?_ | refine end_normal ?_) | ((refine rgA ?_); intro ν) | ((with_reducible apply cndT); exact rfl; (first | rfl | assumption)) | ((with_reducible apply cndF); exact rfl; (first | rfl | assumption)))
  (first | with_reducible refine end_r ?_ | with_reducible refine end_n ?_); refine en1c ?_
  rfl
set_option maxHeartbeats 8000000 in
theorem words_spec : Spec Try.prog 92 [] (.k (.agg (aOfW wordsK))) := by
  refine spec_of (fun _ => false) (by kernel_rfl) Try.func92 rfl rfl (by simp [Try.ntmps92]) (by decide) ?_
  intro δ
  rw [init0]
  repeat (first | with_reducible (first | refine aWp_seq ?_ | refine seq_normal ?_ | refine seq_ret ?_ | refine seq_exit ?_ | refine blk_normal ?_ | refine blk_ret ?_ | refine blk_hit ?_ | refine blk_miss rfl ?_ | refine aWp_ret ?_ | refine aWp_skip ?_ | refine aWp_block ?_ | refine aWp_exit ?_ | refine end_ret ?_ | refine end_normal ?_) | ((refine rgA ?_); intro ν) | ((with_reducible apply cndT); exact rfl; (first | rfl | assumption)) | ((with_reducible apply cndF); exact rfl; (first | rfl | assumption)))
  (first | with_reducible refine end_r ?_ | with_reducible refine end_n ?_); refine en1c ?_
  rfl
/-! the message -/
def padN (n : Nat) : Nat := (119 - n % 64) % 64
def msgB (l : List UInt8) : List UInt8 := pI (l ++ [128] ++ List.replicate (padN l.length) 0) (8 * (l.length : Int))
theorem padN_next {n j : Nat} (h : j ≤ padN n) : ((n + 1 + j) % 64 = 56 ↔ j = padN n) := by
  unfold padN at *; omega
theorem padN_lt (n : Nat) : padN n < 64 := Nat.mod_lt _ (by omega)
theorem pI_len (l : List UInt8) (n : Int) : (pI l n).length = l.length + 8 := by
  unfold pI; rw [fb_len, List.length_append, tb_len, encI_len]
def preB (l : List UInt8) (j : Nat) : List UInt8 := l ++ [128] ++ List.replicate j 0
theorem preB_len (l : List UInt8) (j : Nat) : (preB l j).length = l.length + 1 + j := by simp [preB]; omega
theorem preB_next (l : List UInt8) (j : Nat) : aOfBytes (preB l (j + 1)) = aOfBytes (preB l j) ++ [.int .u8 0] := by
  unfold preB
  rw [List.replicate_succ', ← List.append_assoc, aOfBytes_append (l ++ [128] ++ List.replicate j 0)]; rfl
theorem preB_0 (l : List UInt8) : aOfBytes (preB l 0) = aOfBytes l ++ [.int .u8 128] := by
  simp [preB, aOfBytes]
theorem msgB_len (l : List UInt8) : (msgB l).length = l.length + 9 + padN l.length := by
  unfold msgB; rw [pI_len]; simp; omega
theorem msgB_mod (l : List UInt8) : (msgB l).length % 64 = 0 := by
  rw [msgB_len]; unfold padN; omega
set_option maxHeartbeats 8000000 in
theorem message_some (full : Bool) (ps : List (Bool × List UInt8)) (h0 : 0 < (ps.flatMap (·.2)).length) (hb : (ps.flatMap (·.2)).length ≤ 900000) (hN : ps.length ≤ 1000000) :
    Spec Try.prog 93 [.sl full ps.length (pCells (ps.map pB))] (.k (.sl false (msgB (ps.flatMap (·.2))).length (aOfBytes (msgB (ps.flatMap (·.2)))))) := by
  have s1 := concatBO_spec full ps h0 (by omega) hN
  generalize ps.flatMap (·.2) = l at *
  have s2 := aInt_spec false (preB l (padN l.length)) (8 * (l.length : Int)) (by rw [preB_len]; have := padN_lt l.length; omega)
  have hp := padN_lt l.length
  refine spec_of (fun _ => false) (by kernel_rfl) Try.func93 rfl rfl (by simp [Try.ntmps93]) (by decide) ?_
  intro δ
  rw [init1]
  have hla := aOfBytes_len l
  repeat (first | with_reducible (first | refine aWp_seq ?_ | refine seq_normal ?_ | refine seq_ret ?_ | refine seq_exit ?_ | refine blk_normal ?_ | refine blk_ret ?_ | refine blk_hit ?_ | refine blk_miss rfl ?_ | refine aWp_ret ?_ | refine aWp_skip ?_ | refine aWp_block ?_ | refine aWp_exit ?_ | refine end_ret ?_ | refine end_normal ?_) | ((refine rgA ?_); intro ν) | ((with_reducible apply cndT); exact rfl; (first | rfl | assumption)) | ((with_reducible apply cndF); exact rfl; (first | rfl | assumption)))
  refine rg fun K hK => ?_
  refine stA ?_
  (first | with_reducible refine g0 ?_ | ((with_reducible refine g1 ?_ ?_); (with_reducible apply gt_); exact rfl; exact rfl; (first | rfl | assumption | (simp [*] <;> done)))); refine scA (h2 := (s1)) (hk := ?_)
  refine stA ?_
  with_reducible refine rz ?_
  refine hK _ _ _ ?_
  clear hK K; intro ν
  repeat (first | with_reducible (first | refine aWp_seq ?_ | refine seq_normal ?_ | refine seq_ret ?_ | refine seq_exit ?_ | refine blk_normal ?_ | refine blk_ret ?_ | refine blk_hit ?_ | refine blk_miss rfl ?_ | refine aWp_ret ?_ | refine aWp_skip ?_ | refine aWp_block ?_ | refine aWp_exit ?_ | refine end_ret ?_ | refine end_normal ?_) | ((refine rgA ?_); intro ν) | ((with_reducible apply cndT); exact rfl; (first | rfl | assumption)) | ((with_reducible apply cndF); exact rfl; (first | rfl | assumption)))
  refine aWp_loop (fun m s => ∃ F T ν j x, m = padN l.length - j ∧ j ≤ padN l.length ∧ s = ⟨F, T, ν, ⟨fun _ => false, δ, false⟩⟩ ∧
    F 3 = x ∧ F 4 = .k (.int .i64 (l.length : Int)) ∧ AccO 5 [11, 18] T x (preB l j).length (aOfBytes (preB l j))) (padN l.length) ⟨_, _, _, 0, _, rfl, Nat.zero_le _, rfl, rfl, rfl, .ow (by simp) rfl (by rw [preB_len]) (preB_0 l).symm⟩ ?_
  rintro m s ⟨F, T, ν, j, x, rfl, hj, rfl, f3, f4, hacc⟩
  obtain ⟨d, g, hd, rfl, hT⟩ := hacc
  have hpl := preB_len l j
  have hpa := aOfBytes_len (preB l j)
  have hnx := padN_next hj
  simp only [List.mem_cons, List.not_mem_nil, or_false] at hd
  rw [has2 f3 f4, upd_self hT]
  by_cases hlt : j = padN l.length
  · have hm := hnx.2 hlt
    subst hlt
    rcases hd with rfl | rfl
    iterate 2
      · repeat (first | with_reducible (first | refine aWp_seq ?_ | refine seq_normal ?_ | refine seq_ret ?_ | refine seq_exit ?_ | refine blk_normal ?_ | refine blk_ret ?_ | refine blk_hit ?_ | refine blk_miss rfl ?_ | refine aWp_ret ?_ | refine aWp_skip ?_ | refine aWp_block ?_ | refine aWp_exit ?_ | refine end_ret ?_ | refine end_normal ?_) | ((refine rgA ?_); intro ν) | ((with_reducible apply cndT); exact rfl; (first | rfl | assumption)) | ((with_reducible apply cndF); exact rfl; (first | rfl | assumption)))
        refine rg fun K hK => ?_
        refine stA ?_
        (first | with_reducible refine g0 ?_ | ((with_reducible refine g1 ?_ ?_); (with_reducible apply gt_); exact rfl; exact rfl; (first | rfl | assumption | (simp [*] <;> done)))); refine scA (h2 := (s2)) (hk := ?_)
        refine stA ?_
        with_reducible refine rz ?_
        refine hK _ _ _ ?_
        clear hK K; intro ν
        repeat (first | with_reducible (first | refine aWp_seq ?_ | refine seq_normal ?_ | refine seq_ret ?_ | refine seq_exit ?_ | refine blk_normal ?_ | refine blk_ret ?_ | refine blk_hit ?_ | refine blk_miss rfl ?_ | refine aWp_ret ?_ | refine aWp_skip ?_ | refine aWp_block ?_ | refine aWp_exit ?_ | refine end_ret ?_ | refine end_normal ?_) | ((refine rgA ?_); intro ν) | ((with_reducible apply cndT); exact rfl; (first | rfl | assumption)) | ((with_reducible apply cndF); exact rfl; (first | rfl | assumption)))
        (first | with_reducible refine end_r ?_ | with_reducible refine end_n ?_); refine en1 ?_
        rfl
  · have hm : ¬ (l.length + 1 + j) % 64 = 56 := fun h => hlt (hnx.1 h)
    rcases hd with rfl | rfl
    iterate 2
      · repeat (first | with_reducible (first | refine aWp_seq ?_ | refine seq_normal ?_ | refine seq_ret ?_ | refine seq_exit ?_ | refine blk_normal ?_ | refine blk_ret ?_ | refine blk_hit ?_ | refine blk_miss rfl ?_ | refine aWp_ret ?_ | refine aWp_skip ?_ | refine aWp_block ?_ | refine aWp_exit ?_ | refine end_ret ?_ | refine end_normal ?_) | ((refine rgA ?_); intro ν) | ((with_reducible apply cndT); exact rfl; (first | rfl | assumption)) | ((with_reducible apply cndF); exact rfl; (first | rfl | assumption)))
        refine ⟨padN l.length - (j + 1), by omega, _, _, _, j + 1, _, rfl, by omega, rfl, rfl, rfl, .ow (by simp) rfl ?_ (preB_next l j).symm⟩
        rw [preB_len, preB_len]; omega
theorem message_none (full : Bool) (ps : List (Bool × List UInt8)) (h0 : ps.flatMap (·.2) = []) (hN : ps.length ≤ 1000000) :
    Spec Try.prog 93 [.sl full ps.length (pCells (ps.map pB))] (.k (.sl false (msgB []).length (aOfBytes (msgB [])))) := by
  have s1 := concatBZ_spec full ps h0 hN
  have s2 := aInt_spec false (preB [] (padN 0)) 0 (by rw [preB_len]; have := padN_lt 0; simp; omega)
  have hp := padN_lt 0
  refine spec_of (fun _ => false) (by kernel_rfl) Try.func93 rfl rfl (by simp [Try.ntmps93]) (by decide) ?_
  intro δ
  rw [init1]
  repeat (first | with_reducible (first | refine aWp_seq ?_ | refine seq_normal ?_ | refine seq_ret ?_ | refine seq_exit ?_ | refine blk_normal ?_ | refine blk_ret ?_ | refine blk_hit ?_ | refine blk_miss rfl ?_ | refine aWp_ret ?_ | refine aWp_skip ?_ | refine aWp_block ?_ | refine aWp_exit ?_ | refine end_ret ?_ | refine end_normal ?_) | ((refine rgA ?_); intro ν) | ((with_reducible apply cndT); exact rfl; (first | rfl | assumption)) | ((with_reducible apply cndF); exact rfl; (first | rfl | assumption)))
  refine rg fun K hK => ?_
  refine stA ?_
  (first | with_reducible refine g0 ?_ | ((with_reducible refine g1 ?_ ?_); (with_reducible apply gt_); exact rfl; exact rfl; (first | rfl | assumption | (simp [*] <;> done)))); refine scA (h2 := (s1)) (hk := ?_)
  refine stA ?_
  with_reducible refine rz ?_
  refine hK _ _ _ ?_
  clear hK K; intro ν
  repeat (first | with_reducible (first | refine aWp_seq ?_ | refine seq_normal ?_ | refine seq_ret ?_ | refine seq_exit ?_ | refine blk_normal ?_ | refine blk_ret ?_ | refine blk_hit ?_ | refine blk_miss rfl ?_ | refine aWp_ret ?_ | refine aWp_skip ?_ | refine aWp_block ?_ | refine aWp_exit ?_ | refine end_ret ?_ | refine end_normal ?_) | ((refine rgA ?_); intro ν) | ((with_reducible apply cndT); exact rfl; (first | rfl | assumption)) | ((with_reducible apply cndF); exact rfl; (first | rfl | assumption)))
  refine aWp_loop (fun m s => ∃ F T ν j x, m = padN 0 - j ∧ j ≤ padN 0 ∧ s = ⟨F, T, ν, ⟨fun _ => false, δ, false⟩⟩ ∧
    F 3 = x ∧ F 4 = .k (.int .i64 0) ∧ AccO 5 [11, 18] T x (preB [] j).length (aOfBytes (preB [] j))) (padN 0) ⟨_, _, _, 0, _, rfl, Nat.zero_le _, rfl, rfl, rfl, .ow (by simp) rfl (by rw [preB_len]; rfl) (preB_0 []).symm⟩ ?_
  rintro m s ⟨F, T, ν, j, x, rfl, hj, rfl, f3, f4, hacc⟩
  obtain ⟨d, g, hd, rfl, hT⟩ := hacc
  have hpl := preB_len [] j
  simp only [List.length_nil, Nat.zero_add] at hpl
  have hpa := aOfBytes_len (preB [] j)
  have hnx := padN_next hj
  simp only [List.mem_cons, List.not_mem_nil, or_false] at hd
  rw [has2 f3 f4, upd_self hT]
  by_cases hlt : j = padN 0
  · have hm := hnx.2 hlt
    subst hlt
    rcases hd with rfl | rfl
    iterate 2
      · repeat (first | with_reducible (first | refine aWp_seq ?_ | refine seq_normal ?_ | refine seq_ret ?_ | refine seq_exit ?_ | refine blk_normal ?_ | refine blk_ret ?_ | refine blk_hit ?_ | refine blk_miss rfl ?_ | refine aWp_ret ?_ | refine aWp_skip ?_ | refine aWp_block ?_ | refine aWp_exit ?_ | refine end_ret ?_ | refine end_normal ?_) | ((refine rgA ?_); intro ν) | ((with_reducible apply cndT); exact rfl; (first | rfl | assumption)) | ((with_reducible apply cndF); exact rfl; (first | rfl | assumption)))
        refine rg fun K hK => ?_
        refine stA ?_
        (first | with_reducible refine g0 ?_ | ((with_reducible refine g1 ?_ ?_); (with_reducible apply gt_); exact rfl; exact rfl; (first | rfl | assumption | (simp [*] <;> done)))); refine scA (h2 := (s2)) (hk := ?_)
        refine stA ?_
        with_reducible refine rz ?_
        refine hK _ _ _ ?_
        clear hK K; intro ν
        repeat (first | with_reducible (first | refine aWp_seq ?_ | refine seq_normal ?_ | refine seq_ret ?_ | refine seq_exit ?_ | refine blk_normal ?_ | refine blk_ret ?_ | refine blk_hit ?_ | refine blk_miss rfl ?_ | refine aWp_ret ?_ | refine aWp_skip ?_ | refine aWp_block ?_ | refine aWp_exit ?_ | refine end_ret ?_ | refine end_normal ?_) | ((refine rgA ?_); intro ν) | ((with_reducible apply cndT); exact rfl; (first | rfl | assumption)) | ((with_reducible apply cndF); exact rfl; (first | rfl | assumption)))
        (first | with_reducible refine end_r ?_ | with_reducible refine end_n ?_); refine en1 ?_
        rfl
  · have hm : ¬ (0 + 1 + j) % 64 = 56 := fun h => hlt (hnx.1 h)
    rcases hd with rfl | rfl
    iterate 2
      · repeat (first | with_reducible (first | refine aWp_seq ?_ | refine seq_normal ?_ | refine seq_ret ?_ | refine seq_exit ?_ | refine blk_normal ?_ | refine blk_ret ?_ | refine blk_hit ?_ | refine blk_miss rfl ?_ | refine aWp_ret ?_ | refine aWp_skip ?_ | refine aWp_block ?_ | refine aWp_exit ?_ | refine end_ret ?_ | refine end_normal ?_) | ((refine rgA ?_); intro ν) | ((with_reducible apply cndT); exact rfl; (first | rfl | assumption)) | ((with_reducible apply cndF); exact rfl; (first | rfl | assumption)))
        refine ⟨padN 0 - (j + 1), by omega, _, _, _, j + 1, _, rfl, by omega, rfl, rfl, rfl, .ow (by simp) rfl ?_ (preB_next [] j).symm⟩
        rw [preB_len, preB_len]; omega
theorem message_spec (full : Bool) (ps : List (Bool × List UInt8)) (hb : (ps.flatMap (·.2)).length ≤ 900000) (hN : ps.length ≤ 1000000) :
    Spec Try.prog 93 [.sl full ps.length (pCells (ps.map pB))] (.k (.sl false (msgB (ps.flatMap (·.2))).length (aOfBytes (msgB (ps.flatMap (·.2)))))) := by
  by_cases h : ps.flatMap (·.2) = []
  · rw [h]; exact message_none full ps h hN
  · exact message_some full ps (List.length_pos_iff.2 h) hb hN
end Go.Proofs.Ytmbnclpgldglnaa
end
section
namespace Go.Proofs.Ytmbnclpgldglnaa
open Go.RowKit
set_option linter.unusedVariables false
set_option linter.unusedSimpArgs false
set_option maxRecDepth 20000
/-! the digest -/
def stepA (ks h : List (BitVec 32)) (x : List AV) : List (BitVec 32) :=
  match x with
  | [.sl _ _ cs] => press ks h ((aBytes cs).getD [])
  | _ => h
def blocksB (m : List UInt8) : List (List UInt8) := (List.range (chN m.length 64)).map fun j => (m.drop (j * 64)).take 64
def digW (l : List UInt8) : List (BitVec 32) := (blocksB (msgB l)).foldl (press wordsK) startH
def outF (h : List (BitVec 32)) (q : Nat) : UInt8 := UInt8.ofBitVec ((h.getD (q / 4) 0 >>> (24 - 8 * (q % 4))).setWidth 8)
def outN (h : List (BitVec 32)) (n : Nat) : List UInt8 := (List.range n).map (outF h)
def shaB (l : List UInt8) : List UInt8 := outN (digW l) 32
theorem outN_len (h : List (BitVec 32)) (n : Nat) : (outN h n).length = n := by simp [outN]
theorem shaB_len (l : List UInt8) : (shaB l).length = 32 := outN_len _ _
theorem outN_next (h : List (BitVec 32)) (n : Nat) : outN h (n + 1) = outN h n ++ [outF h n] := by simp [outN, List.range_succ]
theorem stepA_len (ks h : List (BitVec 32)) (x : List AV) : (stepA ks h x).length = h.length := by
  unfold stepA; split
  · exact press_len _ _ _
  · rfl
theorem foldA_len (ks : List (BitVec 32)) (pre : List (List AV)) : ∀ h : List (BitVec 32), (pre.foldl (stepA ks) h).length = h.length := by
  induction pre with
  | nil => intro h; rfl
  | cons x pre ih => intro h; rw [List.foldl_cons, ih, stepA_len]
theorem bytes_take (l : List UInt8) (n : Nat) : aOfBytes (l.take n) = (aOfBytes l).take n := by simp [aOfBytes]
theorem bytes_drop (l : List UInt8) (n : Nat) : aOfBytes (l.drop n) = (aOfBytes l).drop n := by simp [aOfBytes]
theorem stepA_eq (ks h : List (BitVec 32)) (f : Bool) (n : Nat) (b : List UInt8) : stepA ks h [.sl f n (aOfBytes b)] = press ks h b := by
  simp only [stepA, aBytes_of', Option.getD_some]
theorem foldA_eq (ks : List (BitVec 32)) (m : List UInt8) (h : List (BitVec 32)) : (chunkL 64 (aOfBytes m)).foldl (stepA ks) h = (blocksB m).foldl (press ks) h := by
  unfold chunkL blocksB
  rw [aOfBytes_len]
  generalize List.range (chN m.length 64) = l
  induction l generalizing h with
  | nil => rfl
  | cons j l ih => rw [List.map_cons, List.map_cons, List.foldl_cons, List.foldl_cons, ← bytes_drop, ← bytes_take, stepA_eq, ih]
theorem chunks_64 {m : List UInt8} {x : List AV} (hm : m.length % 64 = 0) (h : x ∈ chunkL 64 (aOfBytes m)) : ∃ b : List UInt8, b.length = 64 ∧ x = [.sl true 64 (aOfBytes b)] := by
  simp only [chunkL, List.mem_map, List.mem_range] at h
  obtain ⟨j, hj, rfl⟩ := h
  have hj := (chN_lt (by omega)).1 hj
  rw [aOfBytes_len] at hj
  refine ⟨(m.drop (j * 64)).take 64, by simp; omega, ?_⟩
  rw [bytes_take, bytes_drop, aOfBytes_len, show min 64 (m.length - j * 64) = 64 by omega]
set_option maxHeartbeats 16000000 in
theorem of_spec (full : Bool) (ps : List (Bool × List UInt8)) (hb : (ps.flatMap (·.2)).length ≤ 900000) (hN : ps.length ≤ 1000000) :
    Spec Try.prog 61 [.sl full ps.length (pCells (ps.map pB))] (.k (.agg (aOfBytes (shaB (ps.flatMap (·.2)))))) := by
  have s3 := message_spec full ps hb hN
  have s1 := start_spec
  have s2 := words_spec
  unfold shaB digW
  have hm := msgB_mod (ps.flatMap (·.2))
  have hml : 0 < (msgB (ps.flatMap (·.2))).length ∧ (msgB (ps.flatMap (·.2))).length ≤ 900100 := by
    rw [msgB_len]; have := padN_lt (ps.flatMap (·.2)).length; omega
  have h8 : startH.length = 8 := rfl
  have hk : wordsK.length = 64 := rfl
  generalize msgB (ps.flatMap (·.2)) = M at *
  generalize startH = h0 at *
  generalize wordsK = ks at *
  have s4 := chunk_spec false M.length (aOfBytes M) 64 (by omega)
  have hMa := aOfBytes_len M
  have hha := aOfW_len h0
  have hka := aOfW_len ks
  rw [← foldA_eq]
  refine spec_of (fun _ => false) (by kernel_rfl) Try.func61 rfl rfl (by simp [Try.ntmps61]) (by decide) ?_
  intro δ
  rw [init1]
  repeat (first | with_reducible (first | refine aWp_seq ?_ | refine seq_normal ?_ | refine seq_ret ?_ | refine seq_exit ?_ | refine blk_normal ?_ | refine blk_ret ?_ | refine blk_hit ?_ | refine blk_miss rfl ?_ | refine aWp_ret ?_ | refine aWp_skip ?_ | refine aWp_block ?_ | refine aWp_exit ?_ | refine end_ret ?_ | refine end_normal ?_) | ((refine rgA ?_); intro ν) | ((with_reducible apply cndT); exact rfl; (first | rfl | assumption)) | ((with_reducible apply cndF); exact rfl; (first | rfl | assumption)))
  refine rg fun K hK => ?_
  refine stA ?_
  (first | with_reducible refine g0 ?_ | ((with_reducible refine g1 ?_ ?_); (with_reducible apply gt_); exact rfl; exact rfl; (first | rfl | assumption | (simp [*] <;> done)))); refine scA (h2 := (s1)) (hk := ?_)
  refine stA ?_
  (first | with_reducible refine g0 ?_ | ((with_reducible refine g1 ?_ ?_); (with_reducible apply gt_); exact rfl; exact rfl; (first | rfl | assumption | (simp [*] <;> done)))); refine scA (h2 := (s2)) (hk := ?_)
  refine stA ?_
  with_reducible refine rz ?_
  refine hK _ _ _ ?_
  clear hK K; intro ν
  repeat (first | with_reducible (first | refine aWp_seq ?_ | refine seq_normal ?_ | refine seq_ret ?_ | refine seq_exit ?_ | refine blk_normal ?_ | refine blk_ret ?_ | refine blk_hit ?_ | refine blk_miss rfl ?_ | refine aWp_ret ?_ | refine aWp_skip ?_ | refine aWp_block ?_ | refine aWp_exit ?_ | refine end_ret ?_ | refine end_normal ?_) | ((refine rgA ?_); intro ν) | ((with_reducible apply cndT); exact rfl; (first | rfl | assumption)) | ((with_reducible apply cndF); exact rfl; (first | rfl | assumption)))
  refine rg fun K hK => ?_
  refine stA ?_
  (first | with_reducible refine g0 ?_ | ((with_reducible refine g1 ?_ ?_); (with_reducible apply gt_); exact rfl; exact rfl; (first | rfl | assumption | (simp [*] <;> done)))); refine scA (h2 := (s3)) (hk := ?_)
  refine stA ?_
  (first | with_reducible refine g0 ?_ | ((with_reducible refine g1 ?_ ?_); (with_reducible apply gt_); exact rfl; exact rfl; (first | rfl | assumption | (simp [*] <;> done)))); refine scA (h2 := (s4)) (hk := ?_)
  refine stA ?_
  with_reducible refine rz ?_
  refine hK _ _ _ ?_
  clear hK K; intro ν
  repeat (first | with_reducible (first | refine aWp_seq ?_ | refine seq_normal ?_ | refine seq_ret ?_ | refine seq_exit ?_ | refine blk_normal ?_ | refine blk_ret ?_ | refine blk_hit ?_ | refine blk_miss rfl ?_ | refine aWp_ret ?_ | refine aWp_skip ?_ | refine aWp_block ?_ | refine aWp_exit ?_ | refine end_ret ?_ | refine end_normal ?_) | ((refine rgA ?_); intro ν) | ((with_reducible apply cndT); exact rfl; (first | rfl | assumption)) | ((with_reducible apply cndF); exact rfl; (first | rfl | assumption)))
  have hit := chunk_iter false (aOfBytes M) 64 (by omega) (by omega) (by intro h; rw [h] at hMa; simp at hMa; omega) (by omega)
  rw [hMa] at hit
  refine aWp_range2 (k1 := 3) (k2 := 4) rfl hit (fun x hx => by obtain ⟨b, _, rfl⟩ := chunks_64 hm hx; rfl) rfl rfl rfl
    (fun g3 g4 pre T => T 3 = some (g3, .obj (aOfW (pre.foldl (stepA ks) h0))) ∧ T 4 = some (g4, .obj (aOfW ks)) ∧ T 2 = some (0 + 0, .obj (List.replicate 32 (.int .u8 0)))) ?_ ?_ ?_
  · refine ⟨?_, ?_, rfl⟩
    · first | rfl | (rw [upd_ne _ _ _ _ (by omega), upd_same])
    · dsimp only; rw [upd_same, drop_rep, List.append_nil]
  · rintro pre x T ν ⟨t3, t4, t2⟩ hlt hpre hx
    obtain ⟨b, hb64, rfl⟩ := chunks_64 hm hx
    dsimp only [putPs, runAs]
    rw [upd_same, List.foldl_append]
    have hf8 := (foldA_len ks pre h0).trans h8
    generalize pre.foldl (stepA ks) h0 = h at *
    have hfa := aOfW_len h
    rw [List.foldl_cons, List.foldl_nil, stepA_eq]
    have hp8 := (press_len ks h b).trans hf8
    have s5 := round_spec true h ks b hf8 hk hb64
    generalize press ks h b = h2 at *
    have hpa := aOfW_len h2
    have e1 := ld_arr (n := 8) (e := 85) (aOfW h) (sz := 8) (by omega)
    have e2 : List.drop 8 (aOfW h) = [] := List.drop_of_length_le (by omega)
    rw [has3 t3 t4 t2]
    repeat (first | with_reducible (first | refine aWp_seq ?_ | refine seq_normal ?_ | refine seq_ret ?_ | refine seq_exit ?_ | refine blk_normal ?_ | refine blk_ret ?_ | refine blk_hit ?_ | refine blk_miss rfl ?_ | refine aWp_ret ?_ | refine aWp_skip ?_ | refine aWp_block ?_ | refine aWp_exit ?_ | refine end_ret ?_ | refine end_normal ?_) | ((refine rgA ?_); intro ν) | ((with_reducible apply cndT); exact rfl; (first | rfl | assumption)) | ((with_reducible apply cndF); exact rfl; (first | rfl | assumption)))
    refine rg fun K hK => ?_
    refine stA ?_
    (first | with_reducible refine g0 ?_ | ((with_reducible refine g1 ?_ ?_); (with_reducible apply gt_); exact rfl; exact rfl; (first | rfl | assumption | (simp [*] <;> done)))); refine scA (h2 := (s5)) (hk := ?_)
    refine stA ?_
    with_reducible refine rz ?_
    refine hK _ _ _ ?_
    clear hK K; intro ν
    repeat (first | with_reducible (first | refine aWp_seq ?_ | refine seq_normal ?_ | refine seq_ret ?_ | refine seq_exit ?_ | refine blk_normal ?_ | refine blk_ret ?_ | refine blk_hit ?_ | refine blk_miss rfl ?_ | refine aWp_ret ?_ | refine aWp_skip ?_ | refine aWp_block ?_ | refine aWp_exit ?_ | refine end_ret ?_ | refine end_normal ?_) | ((refine rgA ?_); intro ν) | ((with_reducible apply cndT); exact rfl; (first | rfl | assumption)) | ((with_reducible apply cndF); exact rfl; (first | rfl | assumption)))
    refine ⟨rfl, ?_, rfl, rfl⟩
    dsimp only; rw [upd_same, e2, List.append_nil]
  · rintro T ν ⟨t3, t4, t2⟩
    have hf8 := (foldA_len ks (chunkL 64 (aOfBytes M)) h0).trans h8
    generalize (chunkL 64 (aOfBytes M)).foldl (stepA ks) h0 = h at *
    have hfa := aOfW_len h
    have e1 := ld_arr (n := 8) (e := 85) (aOfW h) (sz := 8) (by omega)
    rw [has3 t3 t4 t2]
    repeat (first | with_reducible (first | refine aWp_seq ?_ | refine seq_normal ?_ | refine seq_ret ?_ | refine seq_exit ?_ | refine blk_normal ?_ | refine blk_ret ?_ | refine blk_hit ?_ | refine blk_miss rfl ?_ | refine aWp_ret ?_ | refine aWp_skip ?_ | refine aWp_block ?_ | refine aWp_exit ?_ | refine end_ret ?_ | refine end_normal ?_) | ((refine rgA ?_); intro ν) | ((with_reducible apply cndT); exact rfl; (first | rfl | assumption)) | ((with_reducible apply cndF); exact rfl; (first | rfl | assumption)))
    refine aWp_loop (fun m s => ∃ F T ν i g2 g6, m = 8 - i ∧ i ≤ 8 ∧ s = ⟨F, T, ν, ⟨fun _ => false, δ, false⟩⟩ ∧
      F 2 = .ob 2 g2 0 ∧ F 6 = .ob 6 g6 0 ∧ F 19 = .k (.agg (aOfW h)) ∧ F 20 = .k (.int .i64 (i : Nat)) ∧ T 2 = some (g2, .obj (List.replicate 32 (.int .u8 0))) ∧ T 6 = some (g6, .obj (aOfBytes (outN h (4 * i)) ++ List.replicate (32 - 4 * i) (.int .u8 0)))) 8 ⟨_, _, _, 0, _, _, rfl, Nat.zero_le _, rfl, rfl, rfl, rfl, rfl, rfl, rfl⟩ ?_
    rintro m s ⟨F, T, ν, i, g2, g6, rfl, hi, rfl, f2, f6, f19, f20, t2, t6⟩
    rw [has4 f2 f6 f19 f20, has2 t2 t6]
    by_cases hlt : i < 8
    · have lw : ldAgg (.int .u32) 1 (List.drop ((i : Int).toNat * 1) (aOfW h)) = some (.int .u32 (n32 (h.getD i 0))) := by
        rw [Int.toNat_natCast, Nat.mul_one]; exact ld_w0 h i (by omega)
      repeat (first | with_reducible (first | refine aWp_seq ?_ | refine seq_normal ?_ | refine seq_ret ?_ | refine seq_exit ?_ | refine blk_normal ?_ | refine blk_ret ?_ | refine blk_hit ?_ | refine blk_miss rfl ?_ | refine aWp_ret ?_ | refine aWp_skip ?_ | refine aWp_block ?_ | refine aWp_exit ?_ | refine end_ret ?_ | refine end_normal ?_) | ((refine rgA ?_); intro ν) | ((with_reducible apply cndT); exact rfl; (first | rfl | assumption)) | ((with_reducible apply cndF); exact rfl; (first | rfl | assumption)))
      refine aWp_loop (fun m s => ∃ F T ν j g2 g6, m = 4 - j ∧ j ≤ 4 ∧ s = ⟨F, T, ν, ⟨fun _ => false, δ, false⟩⟩ ∧
        F 2 = .ob 2 g2 0 ∧ F 6 = .ob 6 g6 0 ∧ F 7 = .k (.int .i64 (i : Nat)) ∧ F 8 = .k (.int .u32 (n32 (h.getD i 0))) ∧ F 19 = .k (.agg (aOfW h)) ∧ F 20 = .k (.int .i64 (i : Nat)) ∧ F 24 = .k (.int .i64 (j : Nat)) ∧ T 2 = some (g2, .obj (List.replicate 32 (.int .u8 0))) ∧ T 6 = some (g6, .obj (aOfBytes (outN h (4 * i + j)) ++ List.replicate (32 - (4 * i + j)) (.int .u8 0)))) 4 ⟨_, _, _, 0, _, _, rfl, Nat.zero_le _, rfl, rfl, rfl, rfl, rfl, rfl, rfl, rfl, rfl, rfl⟩ ?_
      rintro m s ⟨F, T, ν, j, g2, g6, rfl, hj, rfl, f2, f6, f7, f8, f19, f20, f24, t2, t6⟩
      rw [has7 f2 f6 f7 f8 f19 f20 f24, has2 t2 t6]
      have hol := outN_len h (4 * i + j)
      have hoa := aOfBytes_len (outN h (4 * i + j))
      have hlen : (aOfBytes (outN h (4 * i + j)) ++ List.replicate (32 - (4 * i + j)) (AV.int .u8 0)).length = 32 := by rw [List.length_append, hoa, hol, List.length_replicate]; omega
      by_cases hlj : j < 4
      · have hst := fill_next (xs := aOfBytes (outN h (4 * i + j))) (z := AV.int .u8 0) (v := .int .u8 ((outF h (4 * i + j)).toNat : Int)) (t := 4 * i + j) (n := 32) (by omega) (by omega)
        have e5 : (4 * (i : Int) + (j : Int)).toNat = 4 * i + j := by omega
        have e6 : (24 - 8 * (j : Int)).toNat = 24 - 8 * j := by omega
        have e7 : (4 * i + j) / 4 = i := by omega
        have e8 : (4 * i + j) % 4 = j := by omega
        repeat (first | with_reducible (first | refine aWp_seq ?_ | refine seq_normal ?_ | refine seq_ret ?_ | refine seq_exit ?_ | refine blk_normal ?_ | refine blk_ret ?_ | refine blk_hit ?_ | refine blk_miss rfl ?_ | refine aWp_ret ?_ | refine aWp_skip ?_ | refine aWp_block ?_ | refine aWp_exit ?_ | refine end_ret ?_ | refine end_normal ?_) | ((refine rgA ?_); intro ν) | ((with_reducible apply cndT); exact rfl; (first | rfl | assumption)) | ((with_reducible apply cndF); exact rfl; (first | rfl | assumption)))
        refine ⟨4 - (j + 1), by omega, _, _, _, j + 1, g2, g6, rfl, by omega, rfl, rfl, rfl, rfl, rfl, rfl, rfl, ?_, rfl, ?_⟩
        · show (SV.k (.int .i64 ((j : Int) + 1)) : SV) = _
          rw [Int.natCast_succ]
        · rw [upd_same]
          rw [e5]
          rw [show 4 * i + (j + 1) = (4 * i + j) + 1 by omega, outN_next, aOfBytes_append]
          rw [show aOfBytes [outF h (4 * i + j)] = [.int .u8 ((outF h (4 * i + j)).toNat : Int)] from rfl, ← hst, outF, e7, e8, e6]
      · have hje : j = 4 := by omega
        subst hje
        repeat (first | with_reducible (first | refine aWp_seq ?_ | refine seq_normal ?_ | refine seq_ret ?_ | refine seq_exit ?_ | refine blk_normal ?_ | refine blk_ret ?_ | refine blk_hit ?_ | refine blk_miss rfl ?_ | refine aWp_ret ?_ | refine aWp_skip ?_ | refine aWp_block ?_ | refine aWp_exit ?_ | refine end_ret ?_ | refine end_normal ?_) | ((refine rgA ?_); intro ν) | ((with_reducible apply cndT); exact rfl; (first | rfl | assumption)) | ((with_reducible apply cndF); exact rfl; (first | rfl | assumption)))
        refine ⟨8 - (i + 1), by omega, _, _, _, i + 1, g2, g6, rfl, by omega, rfl, rfl, rfl, rfl, ?_, rfl, rfl⟩
        show (SV.k (.int .i64 ((i : Int) + 1)) : SV) = _
        rw [Int.natCast_succ]
    · have hie : i = 8 := by omega
      subst hie
      have hol := outN_len h 32
      have hoa := aOfBytes_len (outN h 32)
      rw [Nat.sub_self, List.replicate_zero, List.append_nil]
      clear t2 t6
      rw [show 4 * 8 = 32 from rfl]
      generalize outN h 32 = out at *
      have e2 := ld_arr (n := 32) (e := 5) (aOfBytes out) (sz := 32) (by omega)
      repeat (first | with_reducible (first | refine aWp_seq ?_ | refine seq_normal ?_ | refine seq_ret ?_ | refine seq_exit ?_ | refine blk_normal ?_ | refine blk_ret ?_ | refine blk_hit ?_ | refine blk_miss rfl ?_ | refine aWp_ret ?_ | refine aWp_skip ?_ | refine aWp_block ?_ | refine aWp_exit ?_ | refine end_ret ?_ | refine end_normal ?_) | ((refine rgA ?_); intro ν) | ((with_reducible apply cndT); exact rfl; (first | rfl | assumption)) | ((with_reducible apply cndF); exact rfl; (first | rfl | assumption)))
      rw [drop_rep, List.append_nil]
      (first | with_reducible refine end_r ?_ | with_reducible refine end_n ?_); refine en1c ?_
      rfl
end Go.Proofs.Ytmbnclpgldglnaa
end
section
namespace Go.Proofs.Ytmbnclpgldglnaa
open Go.RowKit
set_option linter.unusedVariables false
set_option linter.unusedSimpArgs false
set_option maxRecDepth 20000
/-! a key of 64 bytes, each turned -/
def cutK (k : List UInt8) : List UInt8 := if 64 < k.length then shaB k else k
def padK (k : List UInt8) : List UInt8 := cutK k ++ List.replicate (64 - (cutK k).length) 0
def mixKF (k : List UInt8) (x : UInt8) (i : Nat) : UInt8 := k.getD i 0 ^^^ x
def mixK (k : List UInt8) (x : UInt8) : List UInt8 := (List.range 64).map (mixKF (padK k) x)
theorem mixK_len (k : List UInt8) (x : UInt8) : (mixK k x).length = 64 := by simp [mixK]
theorem cutK_len (k : List UInt8) : (cutK k).length ≤ 64 := by
  unfold cutK; split
  · rw [shaB_len]; omega
  · omega
theorem padK_len (k : List UInt8) : (padK k).length = 64 := by
  have := cutK_len k
  simp [padK]; omega
theorem padK_av (k : List UInt8) : aOfBytes (padK k) = aOfBytes (cutK k) ++ List.replicate (64 - (cutK k).length) (AV.int .u8 0) := by
  simp [padK, aOfBytes]
set_option maxHeartbeats 8000000 in
set_option maxHeartbeats 8000000 in
theorem mixed_spec (full : Bool) (k : List UInt8) (hk : k.length ≤ 900000) (x : UInt8) : Spec Try.prog 64 [.sl full k.length (aOfBytes k), .int .u8 (x.toNat : Int)] (.k (.sl false 64 (aOfBytes (mixK k x)))) := by
  have hka := aOfBytes_len k
  have hP := padK_len k
  have hPv := padK_av k
  have hc := cutK_len k
  have hca := aOfBytes_len (cutK k)
  have s1 := of_spec false [(full, k)] (by simpa using hk) (by simp)
  simp only [List.map_cons, List.map_nil, pCells, pB, Part.av, List.flatMap_cons, List.flatMap_nil, List.append_nil, List.length_cons, List.length_nil, Nat.reduceAdd, hka] at s1
  refine spec_of (fun t => t == 15) (by kernel_rfl) Try.func64 rfl rfl (by simp [Try.ntmps64]) (by decide) ?_
  intro δ
  rw [init2]
  generalize hMb : mixK k x = M at *
  unfold mixK at hMb
  generalize padK k = PK at *
  have hPa := aOfBytes_len PK
  have hz : aZeros 64 1 [AV.int .u8 0] = List.replicate 64 (AV.int .u8 0) := rfl
  by_cases h : 64 < k.length
  · have ec : cutK k = shaB k := by unfold cutK; rw [if_pos h]
    rw [ec] at hPv hca hc
    have hl := shaB_len k
    have hla := aOfBytes_len (shaB k)
    generalize shaB k = D at *
    repeat (first | with_reducible (first | refine aWp_seq ?_ | refine seq_normal ?_ | refine seq_ret ?_ | refine seq_exit ?_ | refine blk_normal ?_ | refine blk_ret ?_ | refine blk_hit ?_ | refine blk_miss rfl ?_ | refine aWp_ret ?_ | refine aWp_skip ?_ | refine aWp_block ?_ | refine aWp_exit ?_ | refine end_ret ?_ | refine end_normal ?_) | ((refine rgA ?_); intro ν) | ((with_reducible apply cndT); exact rfl; (first | rfl | assumption)) | ((with_reducible apply cndF); exact rfl; (first | rfl | assumption)))
    refine rg fun K hK => ?_
    refine stA ?_
    (first | with_reducible refine g0 ?_ | ((with_reducible refine g1 ?_ ?_); (with_reducible apply gt_); exact rfl; exact rfl; (first | rfl | assumption | (simp [*] <;> done)))); refine scA (h2 := (s1)) (hk := ?_)
    refine stA ?_
    with_reducible refine rz ?_
    refine hK _ _ _ ?_
    clear hK K; intro ν
    rw [drop_rep, List.append_nil]
    repeat (first | with_reducible (first | refine aWp_seq ?_ | refine seq_normal ?_ | refine seq_ret ?_ | refine seq_exit ?_ | refine blk_normal ?_ | refine blk_ret ?_ | refine blk_hit ?_ | refine blk_miss rfl ?_ | refine aWp_ret ?_ | refine aWp_skip ?_ | refine aWp_block ?_ | refine aWp_exit ?_ | refine end_ret ?_ | refine end_normal ?_) | ((refine rgA ?_); intro ν) | ((with_reducible apply cndT); exact rfl; (first | rfl | assumption)) | ((with_reducible apply cndF); exact rfl; (first | rfl | assumption)))
    refine aWp_loop (fun m s => ∃ F T ν i g, m = 64 - i ∧ i ≤ 64 ∧ s = ⟨F, T, ν, ⟨fun t => t == 15, δ, false⟩⟩ ∧
      F 6 = .os 15 g 0 64 64 ∧ F 1 = .k (.int .u8 (x.toNat : Int)) ∧ F 20 = .k (.int .i64 64) ∧ F 21 = .k (.int .i64 (i : Nat)) ∧ T 15 = some (g, .obj (aOfBytes (setN (mixKF PK x) PK i)))) 64 ⟨_, _, _, 0, _, rfl, Nat.zero_le _, rfl, rfl, rfl, rfl, rfl, ?_⟩ ?_
    · rw [upd_same, setN, hPv, hz, List.drop_replicate, List.take_of_length_le (by rw [List.length_take]; omega), List.take_of_length_le (by omega)]
      (try rw [hl])
    rintro m s ⟨F, T, ν, i, g, rfl, hi, rfl, f6, f1, f20, f21, t15⟩
    rw [has4 f6 f1 f20 f21, has1 t15]
    have hsl := setN_len (mixKF PK x) PK i
    have hsa := aOfBytes_len (setN (mixKF PK x) PK i)
    by_cases hlt : i < 64
    · have l1 := ld_b (setN (mixKF PK x) PK i) i (by omega)
      rw [setN_get (mixKF PK x) PK i i (Nat.le_refl _)] at l1
      have hst := set_b (setN (mixKF PK x) PK i) (mixKF PK x i) i (by omega)
      repeat (first | with_reducible (first | refine aWp_seq ?_ | refine seq_normal ?_ | refine seq_ret ?_ | refine seq_exit ?_ | refine blk_normal ?_ | refine blk_ret ?_ | refine blk_hit ?_ | refine blk_miss rfl ?_ | refine aWp_ret ?_ | refine aWp_skip ?_ | refine aWp_block ?_ | refine aWp_exit ?_ | refine end_ret ?_ | refine end_normal ?_) | ((refine rgA ?_); intro ν) | ((with_reducible apply cndT); exact rfl; (first | rfl | assumption)) | ((with_reducible apply cndF); exact rfl; (first | rfl | assumption)))
      refine ⟨64 - (i + 1), by omega, _, _, _, i + 1, g, rfl, by omega, rfl, rfl, rfl, rfl, ?_, ?_⟩
      · show (SV.k (.int .i64 ((i : Int) + 1)) : SV) = _
        rw [Int.natCast_succ]
      · rw [upd_same]
        exact congrArg (fun q => some (g, Ent.obj q)) hst
    · have hie : i = 64 := by omega
      subst hie
      have he := setN_all (mixKF PK x) PK 64 hP
      rw [hMb] at he
      rw [he]
      rw [he] at hsa
      have hMl : M.length = 64 := by rw [← hMb, List.length_map, List.length_range]
      clear hMb he hsl hPv hz
      repeat (first | with_reducible (first | refine aWp_seq ?_ | refine seq_normal ?_ | refine seq_ret ?_ | refine seq_exit ?_ | refine blk_normal ?_ | refine blk_ret ?_ | refine blk_hit ?_ | refine blk_miss rfl ?_ | refine aWp_ret ?_ | refine aWp_skip ?_ | refine aWp_block ?_ | refine aWp_exit ?_ | refine end_ret ?_ | refine end_normal ?_) | ((refine rgA ?_); intro ν) | ((with_reducible apply cndT); exact rfl; (first | rfl | assumption)) | ((with_reducible apply cndF); exact rfl; (first | rfl | assumption)))
      clear t15
      (first | with_reducible refine end_r ?_ | with_reducible refine end_n ?_); refine en1 ?_
      have hfin : List.take 64 (aOfBytes M) = aOfBytes M := List.take_of_length_le (by rw [hsa, hMl]; exact Nat.le_refl 64)
      rw [hfin]
  · have ec : cutK k = k := by unfold cutK; rw [if_neg h]
    rw [ec] at hPv hca hc
    repeat (first | with_reducible (first | refine aWp_seq ?_ | refine seq_normal ?_ | refine seq_ret ?_ | refine seq_exit ?_ | refine blk_normal ?_ | refine blk_ret ?_ | refine blk_hit ?_ | refine blk_miss rfl ?_ | refine aWp_ret ?_ | refine aWp_skip ?_ | refine aWp_block ?_ | refine aWp_exit ?_ | refine end_ret ?_ | refine end_normal ?_) | ((refine rgA ?_); intro ν) | ((with_reducible apply cndT); exact rfl; (first | rfl | assumption)) | ((with_reducible apply cndF); exact rfl; (first | rfl | assumption)))
    refine aWp_loop (fun m s => ∃ F T ν i g, m = 64 - i ∧ i ≤ 64 ∧ s = ⟨F, T, ν, ⟨fun t => t == 15, δ, false⟩⟩ ∧
      F 6 = .os 15 g 0 64 64 ∧ F 1 = .k (.int .u8 (x.toNat : Int)) ∧ F 20 = .k (.int .i64 64) ∧ F 21 = .k (.int .i64 (i : Nat)) ∧ T 15 = some (g, .obj (aOfBytes (setN (mixKF PK x) PK i)))) 64 ⟨_, _, _, 0, _, rfl, Nat.zero_le _, rfl, rfl, rfl, rfl, rfl, ?_⟩ ?_
    · rw [upd_same, setN, hPv, hz, List.drop_replicate, List.take_of_length_le (by omega)]
    rintro m s ⟨F, T, ν, i, g, rfl, hi, rfl, f6, f1, f20, f21, t15⟩
    rw [has4 f6 f1 f20 f21, has1 t15]
    have hsl := setN_len (mixKF PK x) PK i
    have hsa := aOfBytes_len (setN (mixKF PK x) PK i)
    by_cases hlt : i < 64
    · have l1 := ld_b (setN (mixKF PK x) PK i) i (by omega)
      rw [setN_get (mixKF PK x) PK i i (Nat.le_refl _)] at l1
      have hst := set_b (setN (mixKF PK x) PK i) (mixKF PK x i) i (by omega)
      repeat (first | with_reducible (first | refine aWp_seq ?_ | refine seq_normal ?_ | refine seq_ret ?_ | refine seq_exit ?_ | refine blk_normal ?_ | refine blk_ret ?_ | refine blk_hit ?_ | refine blk_miss rfl ?_ | refine aWp_ret ?_ | refine aWp_skip ?_ | refine aWp_block ?_ | refine aWp_exit ?_ | refine end_ret ?_ | refine end_normal ?_) | ((refine rgA ?_); intro ν) | ((with_reducible apply cndT); exact rfl; (first | rfl | assumption)) | ((with_reducible apply cndF); exact rfl; (first | rfl | assumption)))
      refine ⟨64 - (i + 1), by omega, _, _, _, i + 1, g, rfl, by omega, rfl, rfl, rfl, rfl, ?_, ?_⟩
      · show (SV.k (.int .i64 ((i : Int) + 1)) : SV) = _
        rw [Int.natCast_succ]
      · rw [upd_same]
        exact congrArg (fun q => some (g, Ent.obj q)) hst
    · have hie : i = 64 := by omega
      subst hie
      have he := setN_all (mixKF PK x) PK 64 hP
      rw [hMb] at he
      rw [he]
      rw [he] at hsa
      have hMl : M.length = 64 := by rw [← hMb, List.length_map, List.length_range]
      clear hMb he hsl hPv hz
      repeat (first | with_reducible (first | refine aWp_seq ?_ | refine seq_normal ?_ | refine seq_ret ?_ | refine seq_exit ?_ | refine blk_normal ?_ | refine blk_ret ?_ | refine blk_hit ?_ | refine blk_miss rfl ?_ | refine aWp_ret ?_ | refine aWp_skip ?_ | refine aWp_block ?_ | refine aWp_exit ?_ | refine end_ret ?_ | refine end_normal ?_) | ((refine rgA ?_); intro ν) | ((with_reducible apply cndT); exact rfl; (first | rfl | assumption)) | ((with_reducible apply cndF); exact rfl; (first | rfl | assumption)))
      clear t15
      (first | with_reducible refine end_r ?_ | with_reducible refine end_n ?_); refine en1 ?_
      have hfin : List.take 64 (aOfBytes M) = aOfBytes M := List.take_of_length_le (by rw [hsa, hMl]; exact Nat.le_refl 64)
      rw [hfin]
end Go.Proofs.Ytmbnclpgldglnaa
end
section
namespace Go.Proofs.Ytmbnclpgldglnaa
open Go.RowKit
set_option linter.unusedVariables false
set_option linter.unusedSimpArgs false
set_option maxRecDepth 20000
attribute [local go_sem] Oper.semAt_some
/-! slices of parts: copied, one put before -/
theorem kvals {K : Kd} {w : World} (hk : KOk K w) {b o : Nat} {cs : List AV} (hin : K.In b o cs.length) (hx : ∀ (i : Nat) (x : AV), cs[i]? = some x → KRep K x (K.val b (o + i))) :
    ∃ vs : List Value, vs.length = cs.length ∧ (∀ (j : Nat) (u : Value), vs[j]? = some u → w.cell? ((⟨b, o, none⟩ : Addr).add j) = some u) ∧ (∀ q ∈ vs, q.oneCell' = true) ∧ ∀ (j : Nat) (x : AV) (u : Value), cs[j]? = some x → vs[j]? = some u → KRep K x u := by
  have hg : ∀ (j : Nat) (u : Value), ((List.range cs.length).map fun i => K.val b (o + i))[j]? = some u → j < cs.length ∧ u = K.val b (o + j) := fun j u hu => by
    have hj : j < cs.length := by have := getq_lt hu; simpa using this
    refine ⟨hj, ?_⟩
    simp [hj] at hu; exact hu.symm
  refine ⟨(List.range cs.length).map fun i => K.val b (o + i), by simp, fun j u hu => ?_, fun q hq => ?_, fun j x u h1 h2 => ?_⟩
  · obtain ⟨hj, rfl⟩ := hg j u hu
    rw [show (⟨b, o, none⟩ : Addr).add j = ⟨b, o + j, none⟩ by unfold Addr.add; split <;> simp_all]
    exact (hk.at_ hin hj).1
  · obtain ⟨j, hj⟩ := List.getElem?_of_mem hq
    obtain ⟨hj2, rfl⟩ := hg j q hj
    exact (hk.at_ hin hj2).2
  · obtain ⟨hj, rfl⟩ := hg j u h2
    exact hx j x h1
set_option maxHeartbeats 8000000 in
theorem clone_calls {K : Kd} {w : World} {full : Bool} {n : Nat} {cs : List AV} {v : Value} (hk : KOk K w) (hv : KRep K (.sl full n cs) v) (h0 : 0 < n) (hn : n ≤ 1000000) (hl : cs.length = n) : Calls Try.prog 63 #[v] w fun e w' =>
    ∃ (B cap : Nat) (arr : Array Value) (xs : List Value), e = .returned (.slice (some ⟨B, 0, none⟩) n cap) ∧ w.heap.size ≤ B ∧ w'.heap[B]? = some (.cells arr 22 (0, 0)) ∧ arr.size = cap ∧ n ≤ cap ∧ cap ≤ maxLen ∧ arr.toList.take n = xs ∧ xs.length = n ∧
      Below w.heap.size w w' ∧ (∀ x ∈ xs, x.oneCell' = true) ∧ ∀ (i : Nat) (x : AV) (u : Value), cs[i]? = some x → xs[i]? = some u → KRep K x u := by
  obtain ⟨a, c, rfl, hc1, hc2, _, hm⟩ := ksl_inv hv
  rcases hm with ⟨h, _⟩ | ⟨b, o, rfl, hin, hx⟩
  · omega
  obtain ⟨xs, k1, k2, k3, k4⟩ := kvals hk hin hx
  rw [hl] at k1
  obtain ⟨i, z, d, hi, hz, hzs, hz1, hsz, hbe, hzr, hd⟩ := ti_ok (P := Try.prog) (t := 22) (by kernel_rfl)
  have s1 : i.size = 1 := by rw [← hsz]; kernel_rfl
  have b1 : i.bytes = 24 := by rw [← hbe]; kernel_rfl
  clear hv hin hx
  obtain ⟨W, hW⟩ : ∃ W, W = w.alloc (.cells #[] 22) := ⟨_, rfl⟩
  have hlt : b < w.heap.size := cell_lt (k2 0 xs[0] (by simp [k1, h0]))
  have hWc : ∀ (j : Nat) (u : Value), xs[j]? = some u → W.cell? ((⟨b, o, none⟩ : Addr).add j) = some u := fun j u hu => by
    rw [hW]
    have e := k2 j u hu
    rw [show (⟨b, o, none⟩ : Addr).add j = ⟨b, o + j, none⟩ by unfold Addr.add; split <;> simp_all] at e ⊢
    rw [World.cell?_of_block (a := ⟨b, o + j, none⟩) (Below.heap_alloc w _ b hlt)]
    exact e
  have src := ASrc.ofSrc hi hz (Src.ofSlice W Try.underlying79 ⟨b, o, none⟩ n c xs (by rw [k1, s1]; omega) hWc k3)
  obtain ⟨cap, hge, hcm, hrun⟩ := run_app_full (P := Try.prog) (ty := 79) Try.underlying79 (some ⟨w.heap.size, 0, none⟩) 0 [] (by simp) (.inr ⟨_, rfl, fun j u hu => by simp at hu⟩) src h0 (by unfold maxLen; omega) (by rw [b1]; omega)
  obtain ⟨arr, harr⟩ : ∃ arr, arr = (([] : List Value).toArray ++ xs.toArray ++ Builtin.zeroCells z.cells (cap - (0 + n))) := ⟨_, rfl⟩
  rw [← harr, Nat.zero_add] at hrun
  rw [Nat.zero_add] at hge
  have hsz2 : arr.size = cap := by
    rw [harr]; simp only [Array.size_append, size_zeroCells, hzs, s1, List.size_toArray, List.length_nil, k1]; omega
  have htk : arr.toList.take n = xs := by
    rw [harr]; simp only [Array.toList_append, List.nil_append]; rw [← k1]; exact List.take_left
  have hnil := run_eql_slice_nil' (P := Try.prog) w 79 22 (some ⟨b, o, none⟩) n c 0 0 Try.underlying79
  have hWs : W.heap.size = w.heap.size + 1 := by rw [hW]; simp
  have hbel : Below w.heap.size w (W.drew.alloc (.cells arr 22)) := by
    rw [hW]; exact ((Below.refl _ _).alloc (Nat.le_refl _) _).drew.alloc (by simp) _
  have hnew : (W.drew.alloc (.cells arr 22)).heap[W.heap.size]? = some (.cells arr 22 (0, 0)) := heap_alloc_new W.drew _
  have HS := Lib.hid hWs
  have HR := Lib.hid hrun
  have HW := Lib.hid hW
  have HB := Lib.hid hbel
  have HN := Lib.hid hnew
  clear hWs hrun hW hbel hnew src harr hWc hzr hz1 hzs hz hsz hbe hi hd
  go_enter Try.func63, Try.ntmps63
  go_wp2_with (at_builtin; rw [← HW.out]; refine wpList_bi (o := ⟨some 7, _, _, _, _, _⟩) rfl _ _ 79 79 rfl rfl rfl HR.out ?_)
  go_ret
  have hWs := HS.out
  exact ⟨W.heap.size, cap, arr, xs, by rw [hWs]; rfl, by omega, HN.out, hsz2, hge, hcm, htk, k1, HB.out, k3, k4⟩
theorem insert_calls (b n c vb vc : Nat) (cur curv : Array Value) (cs : List Value) (v : Value) (w : World) (hn : 0 < n) (hn2 : n ≤ 1000000) (hnc : n ≤ c) (hc : c ≤ maxLen) (hvb : vb ≠ b)
    (hb : w.heap[b]? = some (.cells cur 22 (0, 0))) (hcur : cur.size = c) (htk : cur.toList.take n = cs) (hb2 : w.heap[vb]? = some (.cells curv 22 (0, 0))) (hv : curv[0]? = some v) (h1c : ∀ x ∈ cs, x.oneCell' = true) (h1v : v.oneCell' = true) :
    Calls Try.prog 62 #[.slice (some ⟨b, 0, none⟩) n c, .int .i64 0, .slice (some ⟨vb, 0, none⟩) 1 vc] w fun e w' =>
      ∃ (B cap : Nat) (r : List Value), e = .returned (.slice (some ⟨B, 0, none⟩) (n + 1) cap) ∧ n + 1 ≤ cap ∧ cap ≤ maxLen ∧ w'.heap[B]? = some (.cells (v :: cs ++ r).toArray 22 (0, 0)) ∧ (B = b ∨ w.heap.size ≤ B) ∧ (Base.but w b).Kp w' := by
  have hcl : cs.length = n := by
    rw [← htk, List.length_take, Array.length_toList]; omega
  have hm : maxLen ≤ 9223372036854775807 := by unfold maxLen; omega
  by_cases hroom : n + 1 ≤ c
  · refine (ins_room b n c vb vc cur curv cs v w hn hroom (by omega) hvb hb hcur htk hb2 hv h1c h1v).mono ?_
    rintro e w' ⟨rfl, r, rfl⟩
    refine ⟨b, c, r, rfl, hroom, hc, ?_, .inl rfl, ⟨rfl, rfl, rfl, ?_, fun k hk => ?_⟩⟩
    · exact setRow_heap _ b _ _ _ _ (setRow_heap w.drew b cur _ _ _ hb)
    · show w.heap.size ≤ _
      simp [World.setRow]
    · rw [setRow_other _ b k _ hk.2, setRow_other _ b k _ hk.2]; rfl
  · have hce : c = n := by omega
    subst hce
    refine (ins_new b c vb vc cur curv cs v w hn hn2 hvb hb htk hcl hb2 hv h1c h1v).mono ?_
    rintro e w' ⟨cap, A0, A1, r, rfl, h1, h2, h3, h4, rfl⟩
    have k0 : (w.drew.alloc (.cells A0 22)).heap[w.heap.size]? = some (.cells A0 22 (0, 0)) := heap_alloc_new w.drew _
    refine ⟨w.heap.size, cap, r, rfl, h1, h2, ?_, .inr (Nat.le_refl _), ⟨rfl, rfl, rfl, ?_, fun k hk => ?_⟩⟩
    · exact setRow_heap _ w.heap.size _ _ _ _ (setRow_heap _ w.heap.size A0 _ _ _ k0)
    · show w.heap.size ≤ _
      simp [World.setRow]
    · have hk1 : k < w.heap.size := hk.1
      rw [setRow_other _ _ k _ (by omega)]
      show ((w.drew.alloc (.cells A0 22)).setRow w.heap.size A1).heap[k]? = _
      rw [setRow_other _ _ k _ (by omega)]
      exact Below.heap_alloc w.drew _ k hk1
end Go.Proofs.Ytmbnclpgldglnaa
end
section
namespace Go.Proofs.Ytmbnclpgldglnaa
open Go.RowKit
set_option linter.unusedVariables false
set_option linter.unusedSimpArgs false
set_option maxRecDepth 20000
attribute [local go_sem] Oper.semAt_some
/-! the code of parts, under a key -/
def macI (k b : List UInt8) : List UInt8 := shaB (mixK k 0x36 ++ b)
def macB (k b : List UInt8) : List UInt8 := shaB (mixK k 0x5c ++ macI k b)
theorem macI_len (k b : List UInt8) : (macI k b).length = 32 := shaB_len _
theorem macB_len (k b : List UInt8) : (macB k b).length = 32 := shaB_len _
theorem args_1 {K : Kd} {x : AV} {v : Value} (h : KRep K x v) : ArgsR K [x] #[v] := ⟨rfl, fun i y u h1 h2 => by
  match i with
  | 0 => simp at h1 h2; subst h1 h2; exact h
  | i + 1 => simp at h1⟩
theorem args_2 {K : Kd} {x y : AV} {u v : Value} (h : KRep K x u) (k : KRep K y v) : ArgsR K [x, y] #[u, v] := ⟨rfl, fun i z q h1 h2 => by
  match i with
  | 0 => simp at h1 h2; subst h1 h2; exact h
  | 1 => simp at h1 h2; subst h1 h2; exact k
  | i + 2 => simp at h1⟩
theorem kagg_inv {K : Kd} {cs : List AV} {v : Value} (h : KRep K (.agg cs) v) : ∃ vs : Array Value, v = .agg vs ∧ vs.size = cs.length ∧ (∀ (i : Nat) (u : Value), vs[i]? = some u → u.oneCell' = true) ∧ ∀ (i : Nat) (x : AV) (u : Value), cs[i]? = some x → vs[i]? = some u → KRep K x u := by
  cases h with
  | agg cells vs hl h1 h => exact ⟨vs, rfl, hl, h1, h⟩
/-- what has been put down is known from now on -/
theorem ins_known {K : Kd} {w w11 : World} {V : Value} {b B : Nat} {cs : List AV} {xs r : List Value} {cap n : Nat} (hK : KOk K w) (hb : K.hw b = 0) (h1 : w11.heap[B]? = some (.cells (xs ++ r).toArray 22 (0, 0))) (hB : B = b ∨ w.heap.size + 1 ≤ B) (hkp : (Base.but (w.alloc (.cells #[V] 22)) b).Kp w11)
    (hV : V = V) (hl : cs.length = n + 1) (hx : xs.length = n + 1) (h1x : ∀ x ∈ xs, x.oneCell' = true) (hc1 : n + 1 ≤ cap) (hc2 : cap ≤ maxLen) (hrep : ∀ (i : Nat) (x : AV) (u : Value), cs[i]? = some x → xs[i]? = some u → KRep K x u) :
    ∃ K11, KOk K11 w11 ∧ K.le K11 ∧ (∀ x, x < w.heap.size → x ≠ b → K11.hw x = K.hw x) ∧ (∀ δ d g, K11.rw δ d g = K.rw δ d g) ∧ KRep K11 (.sl false (n + 1) cs) (.slice (some ⟨B, 0, none⟩) (n + 1) cap) := by
  have hB0 : K.hw B = 0 := by
    rcases hB with rfl | hB
    · exact hb
    · exact hK.hw0 (by omega)
  have hK2 : KOk K w11 := hK.below fun b2 h2 => by
    have hlt : b2 < w.heap.size := by
      by_cases q : b2 < w.heap.size
      · exact q
      · exact absurd (hK.hw0 (by omega)) h2
    exact (hkp.block b2 ⟨by show b2 < (w.alloc _).heap.size; simp; omega, fun e => h2 (by rw [e]; exact hb)⟩).trans (Below.heap_alloc w _ b2 hlt)
  have hle : K.le (K.ext B (n + 1) xs) := Kd.ext_le (by omega) fun i hi => by omega
  have hcell : ∀ i, i < n + 1 → w11.cell? ⟨B, i, none⟩ = some (xs.getD i undef) := fun i hi => by
    rw [cell_of_row w11 B i _ _ _ h1]
    simp [List.getElem?_append_left (show i < xs.length by omega), List.getD_eq_getElem?_getD, show i < xs.length by omega]
  refine ⟨K.ext B (n + 1) xs, hK2.ext (by omega) h1x hcell, hle, fun x h2 h3 => ?_, fun _ _ _ => rfl, .sl _ _ _ _ _ _ hc1 hc2 (fun q => by cases q) ⟨?_, fun i hi => ?_⟩ fun i x hxi => ?_⟩
  · show (if x = B then n + 1 else K.hw x) = K.hw x
    rw [if_neg (by rcases hB with rfl | hB <;> omega)]
  · show 0 + cs.length ≤ (if B = B then n + 1 else K.hw B)
    rw [if_pos rfl]; omega
  · show (if B = B then xs.getD (0 + i) undef else K.val B (0 + i)).oneCell' = true
    rw [if_pos rfl, Nat.zero_add]
    have hi' : i < xs.length := by omega
    rw [List.getD_eq_getElem?_getD, List.getElem?_eq_getElem hi', Option.getD_some]
    exact h1x _ (List.getElem_mem hi')
  · have hi' : i < xs.length := by have := getq_lt hxi; omega
    have e : (K.ext B (n + 1) xs).val B (0 + i) = xs[i] := by
      show (if B = B then xs.getD (0 + i) undef else K.val B (0 + i)) = xs[i]
      rw [if_pos rfl, Nat.zero_add, List.getD_eq_getElem?_getD, List.getElem?_eq_getElem hi', Option.getD_some]
    rw [e]
    exact (hrep i x _ hxi (List.getElem?_eq_getElem hi')).mono hle
theorem arr_known {K : Kd} {w w' : World} {b n : Nat} {t : TypeId} {cs : List AV} {vs : Array Value} (hK : KOk K w) (h1 : w'.heap[b]? = some (.cells vs t (0, 0))) (hb : w.heap.size ≤ b) (hs : vs.size = n) (one : ∀ (i : Nat) (u : Value), vs[i]? = some u → u.oneCell' = true) (hbel : Below w.heap.size w w') (hl : cs.length = n)
    (hrep : ∀ (i : Nat) (x : AV) (u : Value), cs[i]? = some x → vs[i]? = some u → KRep K x u) :
    ∃ K', KOk K' w' ∧ K.le K' ∧ (∀ x, x ≠ b → K'.hw x = K.hw x) ∧ (∀ δ d g, K'.rw δ d g = K.rw δ d g) ∧ KRep K' (.cp cs) (.pointer (some ⟨b, 0, none⟩)) := by
  have hB0 : K.hw b = 0 := hK.hw0 hb
  have hK2 : KOk K w' := hK.after hbel
  have hle : K.le (K.ext b n vs.toList) := Kd.ext_le (by omega) fun i hi => by omega
  have one' : ∀ x ∈ vs.toList, x.oneCell' = true := fun x hx => by
    obtain ⟨j, hj⟩ := List.getElem?_of_mem hx
    rw [Array.getElem?_toList] at hj
    exact one j x hj
  have hcell : ∀ i, i < n → w'.cell? ⟨b, i, none⟩ = some (vs.toList.getD i undef) := fun i hi => by
    rw [cell_of_row w' b i _ _ _ h1]
    simp [List.getD_eq_getElem?_getD, show i < vs.size by omega]
  have hval : ∀ i, (hi : i < vs.size) → (K.ext b n vs.toList).val b (0 + i) = vs[i] := fun i hi => by
    show (if b = b then vs.toList.getD (0 + i) undef else K.val b (0 + i)) = vs[i]
    rw [if_pos rfl, Nat.zero_add, List.getD_eq_getElem?_getD]
    simp [hi]
  refine ⟨K.ext b n vs.toList, hK2.ext (by simp; omega) one' hcell, hle, fun x h3 => ?_, fun _ _ _ => rfl, .cp _ _ _ ⟨?_, fun i hi => ?_⟩ fun i x hxi => ?_⟩
  · show (if x = b then n else K.hw x) = K.hw x
    rw [if_neg h3]
  · show 0 + cs.length ≤ (if b = b then n else K.hw b)
    rw [if_pos rfl]; omega
  · have hi' : i < vs.size := by omega
    rw [hval i hi']
    exact one i _ (Array.getElem?_eq_getElem hi')
  · have hi' : i < vs.size := by have := getq_lt hxi; omega
    rw [hval i hi']
    exact (hrep i x _ hxi (Array.getElem?_eq_getElem hi')).mono hle
theorem initM_18 {k : Nat} {cs : List AV} {md : Md} {x y : AV} : initM [.k x, .k .any, .k .any, .k .any, .ob 0, .k y, .k .any, .k .any, .k .any, .k .any, .k .any, .k .any, .k .any, .k .any, .k .any, .k .any, .k .any, .k .any] k cs md = ⟨upd (upd (upd (fun _ => .k .any) 0 (.k x)) 4 (.ob k 0 0)) 5 (.k y), upd (fun _ => none) k (some (0, .obj cs)), 1, md⟩ := by
  show (⟨_, _, _, _⟩ : St) = _
  congr 1
  funext t
  match t with
  | 0 | 1 | 2 | 3 | 4 | 5 | 6 | 7 | 8 | 9 | 10 | 11 | 12 | 13 | 14 | 15 | 16 | 17 => rfl
  | t + 18 => rfl
set_option maxHeartbeats 16000000 in
theorem macOf_spec (fk fp : Bool) (k : List UInt8) (hk : k.length ≤ 100000) (ps : List (Bool × List UInt8)) (h0 : 0 < ps.length) (hN : ps.length ≤ 1000) (hb : (ps.flatMap (·.2)).length ≤ 100000) :
    Spec Try.prog 30 [.sl fk k.length (aOfBytes k), .sl fp ps.length (pCells (ps.map pB))] (.k (.agg (aOfBytes (macB k (ps.flatMap (·.2)))))) := by
  have smix := fun full x => mixed_spec full k (by omega) x
  have sof := of_spec false ((false, mixK k 0x36) :: ps) (by rw [List.flatMap_cons, List.length_append, mixK_len]; omega) (by simp; omega)
  have hml := mixK_len k 0x36
  have hma := aOfBytes_len (mixK k 0x36)
  simp only [List.map_cons, pCells, pB, Part.av, List.flatMap_cons, List.length_cons, hma, hml] at sof
  have ecs : List.map Part.av (List.map pB ps) = pCells (ps.map pB) := rfl
  have hcl : (pCells (ps.map pB)).length = ps.length := by simp [pCells]
  generalize hcs : pCells (ps.map pB) = cs at *
  refine ⟨⟨_, Try.func30, rfl, rfl⟩, fun K w vs hK ha => ?_⟩
  obtain ⟨u, v, rfl, g0, g1⟩ := args2 ha
  obtain ⟨R, hR⟩ : ∃ R : Ending → World → Prop, R = (fun x w' => ∃ v K', x = .returned v ∧ Below w.heap.size w w' ∧ K.le K' ∧ KOk K' w' ∧ (∀ b, b < w.heap.size → K'.hw b = K.hw b) ∧ (∀ δ, δ < K.dp → ∀ d g, K'.rw δ d g = K.rw δ d g) ∧ RRep Try.prog K' w.heap.size w' (.k (.agg (aOfBytes (macB k (ps.flatMap (·.2)))))) v) := ⟨_, rfl⟩
  have HRR := Lib.hid hR
  suffices main : Calls Try.prog 30 #[u, v] w R by rw [hR] at main; exact main
  clear hR
  refine callsIn_wide.1 (callsIn_of_wp_marks (n := 5) Try.func30 rfl trivial (wpIn_wide.2 ?_))
  simp only [Try.ntmps30, List.size_toArray, List.length_cons, List.length_nil, Nat.reduceAdd, Nat.reduceSub, Array.replicate_succ, Array.replicate_zero, List.push_toArray, List.append_toArray, List.nil_append, List.cons_append]
  rw [ecs] at sof
  go_upto_region 1 with fail
  obtain ⟨arr4, harr4⟩ : ∃ a : Array Value, a = (List.replicate 32 (Value.int .u8 0)).toArray := ⟨_, rfl⟩
  obtain ⟨w1, hw1⟩ : ∃ w1, w1 = w.alloc (.cells arr4 37) := ⟨_, rfl⟩
  have hbel1 : Below w.heap.size w w1 := by rw [hw1]; exact (Below.refl _ _).alloc (Nat.le_refl _) _
  have hs1 : w1.heap.size = w.heap.size + 1 := by rw [hw1]; simp
  have hg1 : w1.heap[w.heap.size]? = some (.cells arr4 37 (0, 0)) := by rw [hw1]; exact heap_alloc_new w _
  have hK1 : KOk K w1 := hK.after hbel1
  rw [show (#[Value.int .u8 0, Value.int .u8 0, Value.int .u8 0, Value.int .u8 0, Value.int .u8 0, Value.int .u8 0, Value.int .u8 0, Value.int .u8 0, Value.int .u8 0, Value.int .u8 0, Value.int .u8 0, Value.int .u8 0, Value.int .u8 0, Value.int .u8 0, Value.int .u8 0, Value.int .u8 0, Value.int .u8 0, Value.int .u8 0, Value.int .u8 0, Value.int .u8 0, Value.int .u8 0, Value.int .u8 0, Value.int .u8 0, Value.int .u8 0, Value.int .u8 0, Value.int .u8 0, Value.int .u8 0, Value.int .u8 0, Value.int .u8 0, Value.int .u8 0, Value.int .u8 0, Value.int .u8 0] : Array Value) = arr4 by rw [harr4]; rfl, ← hw1]
  have HE := Lib.hid harr4
  have HW1 := Lib.hid hw1
  have hcl' := Lib.hid hcl
  clear harr4 hw1 ecs hcs hml hma hcl
  go_upto_region 2 with (first
    | (go_at_call 63; refine (clone_calls hK1 g1 h0 (by omega) hcl'.out).mono ?_; rintro e w7 ⟨B7, cap7, arr7, xs7, rfl, q1, q2, q3, q4, q5, q6, q7, bel7, q8, q9⟩; have hK7 := hK1.after bel7)
    | (go_at_call 64; refine ((smix fk 0x36).2 K _ _ hK7 (args_2 g0 (.int _ _))).mono ?_; rintro e w9 ⟨v9, K9, rfl, bel9, le9, hK9, hw9, rw9, r9⟩; obtain ⟨a9, c9, rfl, c91, c92, _, c93⟩ := ksl_inv r9)
    | (go_at_call 62
       have l7 : B7 < w7.heap.size := (Array.getElem?_eq_some_iff.1 q2).1
       refine (insert_calls B7 ps.length cap7 w9.heap.size 1 arr7 #[.slice a9 64 c9] xs7 (.slice a9 64 c9) _ h0 (by omega) q4 q5 (by have := bel9.size; omega) ((Below.heap_alloc w9 _ B7 (Nat.lt_of_lt_of_le l7 bel9.size)).trans ((bel9.block B7 l7).trans q2)) q3 q6 (heap_alloc_new w9 _) rfl q8 rfl).mono ?_
       rintro e w11 ⟨B11, cap11, r11, rfl, p1, p2, p3, p4, p5⟩
       obtain ⟨K11, hK11, le11, hw11, rw11, rk11⟩ := ins_known hK9 (cs := .sl false 64 (aOfBytes (mixK k 0x36)) :: cs) (xs := .slice a9 64 c9 :: xs7) (b := B7) (by rw [hw9 B7 l7, hK.hw0 (by omega)]) p3 (by simpa using p4) p5 rfl (by simp [hcl'.out, q7]) (by simp [q7]) (by simpa using ⟨rfl, q8⟩) p1 p2 (fun i x u h1 h2 => by
         cases i with
         | zero => simp at h1 h2; subst h1 h2; exact r9
         | succ i => simp at h1 h2; exact (q9 i x u h1 h2).mono le9))
    | (go_at_call 61; refine (sof.2 K11 _ _ hK11 (args_1 rk11)).mono ?_; rintro e w12 ⟨v12, K12, rfl, bel12, le12, hK12, hw12, rw12, r12⟩; obtain ⟨vs12, rfl, s12, one12, rep12⟩ := kagg_inv r12; rw [aOfBytes_len, shaB_len] at s12)
    | (refine wpList_store_agg (o := ⟨none, .store 37 (.tmp 5) (.tmp 12), _, _, _, _⟩) rfl _ _ _ rfl w12.heap.size vs12 rfl rfl _ _ (heap_alloc_new w12 _) (by rw [s12]; kernel_rfl) (by rw [s12]; rfl) (by rw [Array.all_eq_true]; intro i hi; exact one12 i _ (Array.getElem?_eq_getElem hi)) ?_; rintro w13 h13 o13 b13))
  have hrg := aOfBytes_len (macI k (ps.flatMap (·.2)))
  have hil := macI_len k (ps.flatMap (·.2))
  have smo := smix fk 0x5c
  have sof2 := of_spec false [(false, mixK k 0x5c), (true, macI k (ps.flatMap (·.2)))] (by simp [mixK_len, macI_len]) (by simp)
  have hm2 := mixK_len k 0x5c
  have hm2a := aOfBytes_len (mixK k 0x5c)
  simp only [List.map_cons, List.map_nil, pCells, pB, Part.av, List.flatMap_cons, List.flatMap_nil, List.append_nil, List.length_cons, List.length_nil, Nat.reduceAdd, hm2a, hm2, hrg, hil] at sof2
  have e12 : K12.dp = K12.dp := rfl
  have l7 : B7 < w7.heap.size := (Array.getElem?_eq_some_iff.1 q2).1
  have b7s := bel7.size
  have b9s := bel9.size
  have p5s : w9.heap.size + 1 ≤ w11.heap.size := by have := p5.size; simpa [Base.but] using this
  have b12s := bel12.size
  have hBig : Below w1.heap.size w1 w13 := by
    refine b13 _ _ ?_ (by omega)
    have k1 : Below w1.heap.size w1 (w9.alloc (.cells #[.slice a9 64 c9] 22)) := (bel7.trans (bel9.mono (by omega))).alloc (by omega) _
    have k2 : Below w1.heap.size (w9.alloc (.cells #[.slice a9 64 c9] 22)) w11 := ⟨p5.os, p5.tape, p5.output, p5.size, fun b hb => p5.block b ⟨by show b < (w9.alloc _).heap.size; simp; omega, by omega⟩⟩
    exact ((k1.trans k2).trans (bel12.mono (by omega))).alloc (by omega) _
  have hSmall : Below w.heap.size w w13 := hbel1.trans (hBig.mono (by omega))
  have k0 : K12.hw w.heap.size = 0 := by
    rw [hw12 _ (by omega), hw11 _ (by omega) (by omega), hw9 _ (by omega)]
    exact hK.hw0 (Nat.le_refl _)
  have kold : ∀ b, b < w.heap.size → K12.hw b = K.hw b := fun b hb => by
    rw [hw12 _ (by omega), hw11 _ (by omega) (by omega), hw9 _ (by omega)]
  have kdp9 := le9.dp
  have kdp11 := le11.dp
  have krw : ∀ δ, δ < K.dp → ∀ d g, K12.rw δ d g = K.rw δ d g := fun δ hδ d g => by
    rw [rw12 δ (by omega), rw11, rw9 δ hδ]
  have le12' : K.le K12 := (le9.trans le11).trans le12
  obtain ⟨K13, hK13, le13, hw13, rw13, rk13⟩ := arr_known hK12 (b := w12.heap.size) (w' := w13) (vs := vs12) (n := 32) h13 (Nat.le_refl _) s12 one12 (b13 _ _ ((Below.refl w12.heap.size w12).alloc (Nat.le_refl _) _) (Nat.le_refl _)) (by rw [aOfBytes_len, shaB_len]) rep12
  have hok : OkB K13 w13 w.heap.size (List.replicate 32 (.int .u8 0)) := by
    refine ⟨arr4, _, (hBig.block _ (by omega)).trans hg1, ?_, ?_, fun i v hi hv => ?_, fun i x v hx hv => ?_⟩
    · rw [hw13 _ (by omega)]; exact k0
    · rw [HE.out]; simp
    · rw [HE.out, List.getElem?_toArray, List.getElem?_replicate] at hv
      split at hv
      · injection hv with hv; subst hv; rfl
      · cases hv
    · rw [HE.out, List.getElem?_toArray, List.getElem?_replicate] at hv
      rw [List.getElem?_replicate] at hx
      split at hv
      · rename_i q; rw [if_pos q] at hx; injection hv with hv; injection hx with hx; subst hv hx; exact .int _ _
      · cases hv
  have hma : MArgs Try.prog w13 K13 w.heap.size [.k (.sl fk k.length (aOfBytes k)), .k .any, .k .any, .k .any, .ob 0, .k (.cp (aOfBytes (macI k (ps.flatMap (·.2))))), .k .any, .k .any, .k .any, .k .any, .k .any, .k .any, .k .any, .k .any, .k .any, .k .any, .k .any, .k .any] #[u, v, undef, undef, .pointer (some ⟨w.heap.size, 0, none⟩), .pointer (some ⟨w12.heap.size, 0, none⟩), v, .slice (some ⟨B7, 0, none⟩) ps.length cap7, u, .slice a9 64 c9, .slice (some ⟨w9.heap.size, 0, none⟩) 1 1, .slice (some ⟨B11, 0, none⟩) (ps.length + 1) cap11, .agg vs12, undef, undef, undef, undef, undef] := by
    refine ⟨rfl, fun i x v h1 h2 => ?_⟩
    match i with
    | 0 => simp at h1 h2; subst h1 h2; exact .k _ _ (g0.mono (le12'.trans le13))
    | 4 => simp at h1 h2; subst h1 h2; exact .ob 0
    | 5 => simp at h1 h2; subst h1 h2; exact .k _ _ rk13
    | 1 | 2 | 3 | 6 | 7 | 8 | 9 | 10 | 11 | 12 | 13 | 14 | 15 | 16 | 17 => simp at h1 h2; subst h1; exact .k _ _ (.any _)
    | i + 18 => simp at h1
  refine av_tailQ (fn := Try.f30) (k := 4) (os := fun _ => false) (R := R) (by kernel_rfl) (by show codeOk 18 true _ = true; kernel_rfl) hK13 hok hma (r := .agg (aOfBytes (macB k (ps.flatMap (·.2))))) ?_ ?_ ?_
  · rw [initM_18]
    have e12 := ld_arr (n := 32) (e := 5) (aOfBytes (shaB (mixK k 0x5c ++ macI k (ps.flatMap (·.2))))) (sz := 32) (by rw [aOfBytes_len, shaB_len])
    refine rgx [(4,[16],[17]),(5,[4],[4])] (by kernel_rfl) fun K hK => ?_
    refine stxA ?_
    ((first | ((with_reducible refine x0 ?_ ?_); exact rfl) | ((with_reducible refine x1 ?_ ?_ ?_); exact rfl; (with_reducible apply gt_); exact rfl; exact rfl; (first | rfl | assumption | (simp [*] <;> done)))); refine xcA (h2 := (smo)) (hk := ?_))
    refine stxA ?_
    ((first | ((with_reducible refine x0 ?_ ?_); exact rfl) | ((with_reducible refine x1 ?_ ?_ ?_); exact rfl; (with_reducible apply gt_); exact rfl; exact rfl; (first | rfl | assumption | (simp [*] <;> done)))); refine xcA (h2 := (sof2)) (hk := ?_))
    refine stxA ?_
    with_reducible refine xz ?_
    refine hK _ _ _ ?_
    clear hK K; intro ν
    rw [drop_rep, List.append_nil]
    refine ⟨rfl, ?_⟩
    refine en1c ?_
    rfl
  · rintro v w' K' h1 h2 h3 h4 h5 h6
    have s13 := hBig.size
    have d13 := le13.dp
    have d12 := le12'.dp
    rw [HRR.out]
    exact ⟨v, K', rfl, hSmall.trans ⟨h1.os, h1.tape, h1.output, h1.size, fun b hb => h1.block b ⟨by show b < w13.heap.size; omega, by omega⟩⟩, (le12'.trans le13).trans h2, h3, fun b hb => by rw [h4 b (by omega) (by omega), hw13 b (by omega), kold b hb], fun δ hδ d g => by rw [h5 δ (by omega), rw13, krw δ hδ], h6⟩
  · intro a' w' hl
    simp only [Exit.then]
    go_wp2_with fail
    exact hl
end Go.Proofs.Ytmbnclpgldglnaa
end
