import Derived.Test.YtmbnclpgldglnaaSha2
namespace Go.Proofs.Ytmbnclpgldglnaa
open Go.RowKit
set_option linter.unusedVariables false
set_option linter.unusedSimpArgs false
set_option maxRecDepth 20000
theorem set_w (l : List (BitVec 32)) (x : BitVec 32) (i : Nat) (h : i < l.length) : List.take i (aOfW l) ++ [.int .u32 (n32 x)] ++ List.drop (i + 1) (aOfW l) = aOfW (l.set i x) := by
  rw [set_cell _ _ _ (by rw [aOfW_len]; exact h)]
  simp [aOfW, List.map_set]
def mixAdd (h v : List (BitVec 32)) : Nat → List (BitVec 32)
  | 0 => h
  | i + 1 => (mixAdd h v i).set i (h.getD i 0 + v.getD i 0)
theorem mixAdd_len (h v : List (BitVec 32)) (i : Nat) : (mixAdd h v i).length = h.length := by
  induction i with
  | zero => rfl
  | succ i ih => rw [mixAdd, List.length_set, ih]
theorem mixAdd_get (h v : List (BitVec 32)) (j : Nat) : ∀ i, j ≤ i → (mixAdd h v j).getD i 0 = h.getD i 0 := by
  induction j with
  | zero => intro i _; rfl
  | succ j ih =>
    intro i hi
    rw [mixAdd, List.getD_eq_getElem?_getD, List.getElem?_set_ne (by omega), ← List.getD_eq_getElem?_getD]
    exact ih i (by omega)
theorem mixAdd_all (h v : List (BitVec 32)) (h1 : h.length = 8) (h2 : v.length = 8) : mixAdd h v 8 = List.zipWith (· + ·) h v := by
  obtain ⟨a, b, c, d, e, f, g, i, rfl⟩ := eight h1
  obtain ⟨a', b', c', d', e', f', g', i', rfl⟩ := eight h2
  rfl
set_option maxHeartbeats 16000000 in
theorem round_spec (full : Bool) (h ks : List (BitVec 32)) (b : List UInt8) (h8 : h.length = 8) (hk : ks.length = 64) (hb : b.length = 64) :
    Spec Try.prog 94 [.agg (aOfW h), .cp (aOfW ks), .sl full 64 (aOfBytes b)] (.k (.agg (aOfW (press ks h b)))) := by
  have s1 := schedule_spec full b hb
  rw [press]
  have hws := sched_len b 64
  generalize sched b 64 = ws at *
  have hha := aOfW_len h
  have hka := aOfW_len ks
  have hwa := aOfW_len ws
  refine spec_of (fun _ => false) (by kernel_rfl) Try.func94 rfl rfl (by simp [Try.ntmps94]) (by decide) ?_
  intro δ
  rw [init3]
  have e1 := ld_arr (n := 8) (e := 85) (aOfW h) (sz := 8) (by omega)
  repeat (first | with_reducible (first | refine aWp_seq ?_ | refine seq_normal ?_ | refine seq_ret ?_ | refine seq_exit ?_ | refine blk_normal ?_ | refine blk_ret ?_ | refine blk_hit ?_ | refine blk_miss rfl ?_ | refine aWp_ret ?_ | refine aWp_skip ?_ | refine aWp_block ?_ | refine aWp_exit ?_ | refine end_ret ?_ | refine end_normal ?_) | ((refine rgA ?_); intro ν) | ((with_reducible apply cndT); exact rfl; (first | rfl | assumption)) | ((with_reducible apply cndF); exact rfl; (first | rfl | assumption)))
  refine rg fun K hK => ?_
  refine stA ?_
  (first | with_reducible refine g0 ?_ | ((with_reducible refine g1 ?_ ?_); (with_reducible apply gt_); exact rfl; exact rfl; (first | rfl | assumption | (simp [*] <;> done)))); refine scA (h2 := (s1)) (hk := ?_)
  refine stA ?_
  with_reducible refine rz ?_
  refine hK _ _ _ ?_
  clear hK K; intro ν
  repeat (first | with_reducible (first | refine aWp_seq ?_ | refine seq_normal ?_ | refine seq_ret ?_ | refine seq_exit ?_ | refine blk_normal ?_ | refine blk_ret ?_ | refine blk_hit ?_ | refine blk_miss rfl ?_ | refine aWp_ret ?_ | refine aWp_skip ?_ | refine aWp_block ?_ | refine aWp_exit ?_ | refine end_ret ?_ | refine end_normal ?_) | ((refine rgA ?_); intro ν) | ((with_reducible apply cndT); exact rfl; (first | rfl | assumption)) | ((with_reducible apply cndF); exact rfl; (first | rfl | assumption)))
  refine aWp_loop (fun m s => ∃ F T ν t g3 g6 g7, m = 64 - t ∧ t ≤ 64 ∧ s = ⟨F, T, ν, ⟨fun _ => false, δ, false⟩⟩ ∧
    F 1 = .k (.cp (aOfW ks)) ∧ F 3 = .ob 3 g3 0 ∧ F 6 = .ob 6 g6 0 ∧ F 7 = .ob 7 g7 0 ∧ F 17 = .k (.agg (aOfW ws)) ∧ F 18 = .k (.int .i64 (t : Nat)) ∧ T 3 = some (g3, .obj (aOfW h)) ∧ T 6 = some (g6, .obj (List.replicate 8 (.int .u32 0))) ∧ T 7 = some (g7, .obj (aOfW (rnds ks ws h t)))) 64 ⟨_, _, _, 0, _, _, _, rfl, Nat.zero_le _, rfl, rfl, rfl, rfl, rfl, rfl, rfl, rfl, rfl, rfl⟩ ?_
  rintro m s ⟨F, T, ν, t, g3, g6, g7, rfl, ht, rfl, f1, f3, f6, f7, f17, f18, t3, t6, t7⟩
  rw [has6 f1 f3 f6 f7 f17 f18, has3 t3 t6 t7]
  repeat with_reducible (first | refine aWp_seq ?_ | refine seq_normal ?_ | refine seq_ret ?_ | refine seq_exit ?_ | refine blk_normal ?_ | refine blk_ret ?_ | refine blk_hit ?_ | refine blk_miss rfl ?_ | refine aWp_ret ?_ | refine aWp_skip ?_ | refine aWp_block ?_ | refine aWp_exit ?_ | refine end_ret ?_ | refine end_normal ?_)
  by_cases hlt : t < 64
  · have hx := rnds_len ks ws h t
    have lk := ld_w0 ks t (by omega)
    have lw : ldAgg (.int .u32) 1 (List.drop ((t : Int).toNat * 1) (aOfW ws)) = some (.int .u32 (n32 (ws.getD t 0))) := by
      rw [Int.toNat_natCast, Nat.mul_one]; exact ld_w0 ws t (by omega)
    have hn : rnds ks ws h (t + 1) = rnd (ks.getD t 0) (ws.getD t 0) (rnds ks ws h t) := rfl
    obtain ⟨a, b, c, d, e, f, g, i, he⟩ := eight (hx.trans h8)
    rw [he] at hn t7 ⊢
    simp only [aOfW_cons, aOfW_nil]
    repeat (first | with_reducible (first | refine aWp_seq ?_ | refine seq_normal ?_ | refine seq_ret ?_ | refine seq_exit ?_ | refine blk_normal ?_ | refine blk_ret ?_ | refine blk_hit ?_ | refine blk_miss rfl ?_ | refine aWp_ret ?_ | refine aWp_skip ?_ | refine aWp_block ?_ | refine aWp_exit ?_ | refine end_ret ?_ | refine end_normal ?_) | ((refine rgA ?_); intro ν) | ((with_reducible apply cndT); exact rfl; (first | rfl | assumption)) | ((with_reducible apply cndF); exact rfl; (first | rfl | assumption)))
    refine rgxA [(1,[7],[]),(3,[7],[])] ?_
    intro ν
    repeat with_reducible (first | refine aWp_seq ?_ | refine seq_normal ?_ | refine seq_ret ?_ | refine seq_exit ?_ | refine blk_normal ?_ | refine blk_ret ?_ | refine blk_hit ?_ | refine blk_miss rfl ?_ | refine aWp_ret ?_ | refine aWp_skip ?_ | refine aWp_block ?_ | refine aWp_exit ?_ | refine end_ret ?_ | refine end_normal ?_)
    refine rgx [(1,[7],[]),(13,[7],[]),(18,[7],[])] (by kernel_rfl) fun K hK => ?_
    refine stxA ?_
    ((first | ((with_reducible refine x0 ?_ ?_); exact rfl) | ((with_reducible refine x1 ?_ ?_ ?_); exact rfl; (with_reducible apply gt_); exact rfl; exact rfl; (first | rfl | assumption | (simp [*] <;> done)))); refine xcA (h2 := (turn_spec _ 6 (by omega) (by omega) (by decide))) (hk := ?_))
    refine stxA ?_
    ((first | ((with_reducible refine x0 ?_ ?_); exact rfl) | ((with_reducible refine x1 ?_ ?_ ?_); exact rfl; (with_reducible apply gt_); exact rfl; exact rfl; (first | rfl | assumption | (simp [*] <;> done)))); refine xcA (h2 := (turn_spec _ 11 (by omega) (by omega) (by decide))) (hk := ?_))
    refine stxA ?_
    ((first | ((with_reducible refine x0 ?_ ?_); exact rfl) | ((with_reducible refine x1 ?_ ?_ ?_); exact rfl; (with_reducible apply gt_); exact rfl; exact rfl; (first | rfl | assumption | (simp [*] <;> done)))); refine xcA (h2 := (turn_spec _ 25 (by omega) (by omega) (by decide))) (hk := ?_))
    refine stxA ?_
    with_reducible refine xz ?_
    refine hK _ _ _ ?_
    clear hK K; intro ν
    repeat with_reducible (first | refine aWp_seq ?_ | refine seq_normal ?_ | refine seq_ret ?_ | refine seq_exit ?_ | refine blk_normal ?_ | refine blk_ret ?_ | refine blk_hit ?_ | refine blk_miss rfl ?_ | refine aWp_ret ?_ | refine aWp_skip ?_ | refine aWp_block ?_ | refine aWp_exit ?_ | refine end_ret ?_ | refine end_normal ?_)
    refine rgx [(10,[7],[]),(14,[7],[]),(18,[7],[]),(20,[7],[])] (by kernel_rfl) fun K hK => ?_
    refine stxA ?_
    ((first | ((with_reducible refine x0 ?_ ?_); exact rfl) | ((with_reducible refine x1 ?_ ?_ ?_); exact rfl; (with_reducible apply gt_); exact rfl; exact rfl; (first | rfl | assumption | (simp [*] <;> done)))); refine xcA (h2 := (turn_spec _ 2 (by omega) (by omega) (by decide))) (hk := ?_))
    refine stxA ?_
    ((first | ((with_reducible refine x0 ?_ ?_); exact rfl) | ((with_reducible refine x1 ?_ ?_ ?_); exact rfl; (with_reducible apply gt_); exact rfl; exact rfl; (first | rfl | assumption | (simp [*] <;> done)))); refine xcA (h2 := (turn_spec _ 13 (by omega) (by omega) (by decide))) (hk := ?_))
    refine stxA ?_
    ((first | ((with_reducible refine x0 ?_ ?_); exact rfl) | ((with_reducible refine x1 ?_ ?_ ?_); exact rfl; (with_reducible apply gt_); exact rfl; exact rfl; (first | rfl | assumption | (simp [*] <;> done)))); refine xcA (h2 := (turn_spec _ 22 (by omega) (by omega) (by decide))) (hk := ?_))
    refine stxA ?_
    with_reducible refine xz ?_
    refine hK _ _ _ ?_
    clear hK K; intro ν
    repeat with_reducible (first | refine aWp_seq ?_ | refine seq_normal ?_ | refine seq_ret ?_ | refine seq_exit ?_ | refine blk_normal ?_ | refine blk_ret ?_ | refine blk_hit ?_ | refine blk_miss rfl ?_ | refine aWp_ret ?_ | refine aWp_skip ?_ | refine aWp_block ?_ | refine aWp_exit ?_ | refine end_ret ?_ | refine end_normal ?_)
    refine rgxA [(2,[7],[7])] ?_
    intro ν
    repeat (first | with_reducible (first | refine aWp_seq ?_ | refine seq_normal ?_ | refine seq_ret ?_ | refine seq_exit ?_ | refine blk_normal ?_ | refine blk_ret ?_ | refine blk_hit ?_ | refine blk_miss rfl ?_ | refine aWp_ret ?_ | refine aWp_skip ?_ | refine aWp_block ?_ | refine aWp_exit ?_ | refine end_ret ?_ | refine end_normal ?_) | ((refine rgA ?_); intro ν) | ((with_reducible apply cndT); exact rfl; (first | rfl | assumption)) | ((with_reducible apply cndF); exact rfl; (first | rfl | assumption)))
    refine ⟨64 - (t + 1), by omega, _, _, _, t + 1, g3, g6, g7, rfl, by omega, rfl, rfl, rfl, rfl, rfl, rfl, ?_, rfl, rfl, ?_⟩
    · show (SV.k (.int .i64 ((t : Int) + 1)) : SV) = _
      rw [Int.natCast_succ]
    · rw [upd_same, hn]; rfl
  · have hte : t = 64 := by omega
    subst hte
    have hx := (rnds_len ks ws h 64).trans h8
    clear t7
    generalize rnds ks ws h 64 = v at *
    have hva := aOfW_len v
    rw [← mixAdd_all h v h8 hx]
    repeat (first | with_reducible (first | refine aWp_seq ?_ | refine seq_normal ?_ | refine seq_ret ?_ | refine seq_exit ?_ | refine blk_normal ?_ | refine blk_ret ?_ | refine blk_hit ?_ | refine blk_miss rfl ?_ | refine aWp_ret ?_ | refine aWp_skip ?_ | refine aWp_block ?_ | refine aWp_exit ?_ | refine end_ret ?_ | refine end_normal ?_) | ((refine rgA ?_); intro ν) | ((with_reducible apply cndT); exact rfl; (first | rfl | assumption)) | ((with_reducible apply cndF); exact rfl; (first | rfl | assumption)))
    refine aWp_loop (fun m s => ∃ F T ν i g3 g6 g7, m = 8 - i ∧ i ≤ 8 ∧ s = ⟨F, T, ν, ⟨fun _ => false, δ, false⟩⟩ ∧
      F 3 = .ob 3 g3 0 ∧ F 6 = .ob 6 g6 0 ∧ F 7 = .ob 7 g7 0 ∧ F 93 = .k (.int .i64 (i : Nat)) ∧ T 3 = some (g3, .obj (aOfW (mixAdd h v i))) ∧ T 6 = some (g6, .obj (List.replicate 8 (.int .u32 0))) ∧ T 7 = some (g7, .obj (aOfW v))) 8 ⟨_, _, _, 0, _, _, _, rfl, Nat.zero_le _, rfl, rfl, rfl, rfl, rfl, rfl, rfl, rfl⟩ ?_
    rintro m s ⟨F, T, ν, i, g3, g6, g7, rfl, hi, rfl, f3, f6, f7, f93, t3, t6, t7⟩
    rw [has4 f3 f6 f7 f93, has3 t3 t6 t7]
    have hml := mixAdd_len h v i
    have hma := aOfW_len (mixAdd h v i)
    by_cases hlt : i < 8
    · have l1 := ld_w0 (mixAdd h v i) i (by omega)
      have l2 := ld_w0 v i (by omega)
      rw [mixAdd_get h v i i (Nat.le_refl _)] at l1
      have hst := set_w (mixAdd h v i) (h.getD i 0 + v.getD i 0) i (by omega)
      repeat (first | with_reducible (first | refine aWp_seq ?_ | refine seq_normal ?_ | refine seq_ret ?_ | refine seq_exit ?_ | refine blk_normal ?_ | refine blk_ret ?_ | refine blk_hit ?_ | refine blk_miss rfl ?_ | refine aWp_ret ?_ | refine aWp_skip ?_ | refine aWp_block ?_ | refine aWp_exit ?_ | refine end_ret ?_ | refine end_normal ?_) | ((refine rgA ?_); intro ν) | ((with_reducible apply cndT); exact rfl; (first | rfl | assumption)) | ((with_reducible apply cndF); exact rfl; (first | rfl | assumption)))
      refine rgxA [(2,[3],[]),(5,[7],[]),(8,[3],[3])] ?_
      intro ν
      repeat (first | with_reducible (first | refine aWp_seq ?_ | refine seq_normal ?_ | refine seq_ret ?_ | refine seq_exit ?_ | refine blk_normal ?_ | refine blk_ret ?_ | refine blk_hit ?_ | refine blk_miss rfl ?_ | refine aWp_ret ?_ | refine aWp_skip ?_ | refine aWp_block ?_ | refine aWp_exit ?_ | refine end_ret ?_ | refine end_normal ?_) | ((refine rgA ?_); intro ν) | ((with_reducible apply cndT); exact rfl; (first | rfl | assumption)) | ((with_reducible apply cndF); exact rfl; (first | rfl | assumption)))
      refine ⟨8 - (i + 1), by omega, _, _, _, i + 1, g3, g6, g7, rfl, by omega, rfl, rfl, rfl, rfl, ?_, ?_, rfl, rfl⟩
      · show (SV.k (.int .i64 ((i : Int) + 1)) : SV) = _
        rw [Int.natCast_succ]
      · rw [upd_same, hst]; rfl
    · have hie : i = 8 := by omega
      subst hie
      have e2 := ld_arr (n := 8) (e := 85) (aOfW (mixAdd h v 8)) (sz := 8) (by omega)
      repeat (first | with_reducible (first | refine aWp_seq ?_ | refine seq_normal ?_ | refine seq_ret ?_ | refine seq_exit ?_ | refine blk_normal ?_ | refine blk_ret ?_ | refine blk_hit ?_ | refine blk_miss rfl ?_ | refine aWp_ret ?_ | refine aWp_skip ?_ | refine aWp_block ?_ | refine aWp_exit ?_ | refine end_ret ?_ | refine end_normal ?_) | ((refine rgA ?_); intro ν) | ((with_reducible apply cndT); exact rfl; (first | rfl | assumption)) | ((with_reducible apply cndF); exact rfl; (first | rfl | assumption)))
      rw [drop_rep, List.append_nil]
      (first | with_reducible refine end_r ?_ | with_reducible refine end_n ?_); refine en1c ?_
      rfl
end Go.Proofs.Ytmbnclpgldglnaa
