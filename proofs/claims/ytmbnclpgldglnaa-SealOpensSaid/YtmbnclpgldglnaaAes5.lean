import Derived.Test.YtmbnclpgldglnaaMg2
namespace Go.Proofs.Ytmbnclpgldglnaa
open Go.RowKit
set_option linter.unusedVariables false
set_option linter.unusedSimpArgs false
set_option maxRecDepth 20000
set_option maxHeartbeats 32000000 in
theorem expand_spec (T B key : List UInt8) (full : Bool) (n : Nat) (h1 : T.length = 256) (h2 : B.length = 256) (hk : key.length = 4 * n) (h4 : 4 ≤ n) (h8 : n ≤ 8) :
    MSpec Try.prog 75 [.ob 0, .k (.sl full key.length (aOfBytes key)), .k (.int .i64 (n : Nat))] (aOfBytes T ++ (aOfBytes B ++ [.sl true 0 []])) (some (cph T B (exW key T n (4 * (n + 7))) (n + 7))) (.tup []) := by
  refine mspec_of 0 (fun t => t == 21) true (by kernel_rfl) Try.func75 rfl rfl (by simp [Try.ntmps75]) (by decide) rfl ?_
  intro δ
  rw [initM3]
  simp only [MA.sv]
  have hka := aOfBytes_len key
  have hN : 4 * ((n : Int) + 6 + 1) = ((4 * (n + 7) : Nat) : Int) := by omega
  have hN' : (4 * ((n : Int) + 6 + 1)).toNat = 4 * (n + 7) := by omega
  obtain ⟨N, hNN⟩ : ∃ N, N = 4 * (n + 7) := ⟨_, rfl⟩
  rw [← hNN] at hN hN' ⊢
  obtain ⟨C0, hC0⟩ : ∃ C0, C0 = aOfBytes T ++ aOfBytes B := ⟨_, rfl⟩
  have hCl : C0.length = 512 := by rw [hC0, List.length_append, aOfBytes_len, aOfBytes_len]; omega
  rw [← List.append_assoc, ← hC0]
  repeat with_reducible (first | refine aWp_seq ?_ | refine seq_normal ?_ | refine seq_ret ?_ | refine seq_exit ?_ | refine blk_normal ?_ | refine blk_ret ?_ | refine blk_hit ?_ | refine blk_miss rfl ?_ | refine aWp_ret ?_ | refine aWp_skip ?_ | refine aWp_block ?_ | refine aWp_exit ?_ | refine end_ret ?_ | refine end_normal ?_)
  refine rgA ?_
  intro ν
  repeat with_reducible (first | refine aWp_seq ?_ | refine seq_normal ?_ | refine seq_ret ?_ | refine seq_exit ?_ | refine blk_normal ?_ | refine blk_ret ?_ | refine blk_hit ?_ | refine blk_miss rfl ?_ | refine aWp_ret ?_ | refine aWp_skip ?_ | refine aWp_block ?_ | refine aWp_exit ?_ | refine end_ret ?_ | refine end_normal ?_)
  refine rgA ?_
  intro ν
  rw [hN', aZeros4, hN]
  repeat (first | with_reducible (first | refine aWp_seq ?_ | refine seq_normal ?_ | refine seq_ret ?_ | refine seq_exit ?_ | refine blk_normal ?_ | refine blk_ret ?_ | refine blk_hit ?_ | refine blk_miss rfl ?_ | refine aWp_ret ?_ | refine aWp_skip ?_ | refine aWp_block ?_ | refine aWp_exit ?_ | refine end_ret ?_ | refine end_normal ?_) | ((refine rgA ?_); intro ν) | ((with_reducible apply cndT); exact rfl; (first | rfl | assumption)) | ((with_reducible apply cndF); exact rfl; (first | rfl | assumption)))
  obtain ⟨M, hM⟩ : ∃ M, M = N * 4 := ⟨_, rfl⟩
  rw [← hM]
  refine aWp_loop (fun m s => ∃ F Tb ν i g, m = N - i ∧ i ≤ N ∧ s = ⟨F, Tb, ν, ⟨fun t => t == 21, δ, true⟩⟩ ∧
    F 0 = .ob 0 0 0 ∧ F 1 = .k (.sl full key.length (aOfBytes key)) ∧ F 2 = .k (.int .i64 (n : Nat)) ∧ F 7 = .os 21 g 0 N N ∧ F 8 = .k (.int .u8 ((exP n i).toNat : Int)) ∧ F 23 = .k (.int .i64 (N : Nat)) ∧ F 24 = .k (.int .i64 (i : Nat)) ∧
    Tb 0 = some (0, .obj (C0 ++ [.sl true 0 []])) ∧ Tb 21 = some (g, .obj (aOfBytes (exW key T n i) ++ List.replicate (M - i * 4) (.int .u8 0)))) N ⟨_, _, _, 0, _, rfl, Nat.zero_le _, rfl, rfl, rfl, rfl, rfl, rfl, rfl, rfl, rfl, by rw [Nat.zero_mul, Nat.sub_zero]; rfl⟩ ?_
  rintro m s ⟨F, Tb, ν, i, g, rfl, hi, rfl, f0, f1, f2, f7, f8, f23, f24, t0, t21⟩
  rw [has7 f0 f1 f2 f7 f8 f23 f24, has2 t0 t21]
  have hwl := exW_len (T := T) hk i
  have hwa := aOfBytes_len (exW key T n i)
  have hOl : (aOfBytes (exW key T n i) ++ List.replicate (M - i * 4) (AV.int .u8 0)).length = M := by rw [List.length_append, hwa, hwl, List.length_replicate]; omega
  by_cases hlt : i < N
  · by_cases hin : i < n
    · have hblk : ((key.drop (4 * i)).take 4).length = 4 := by rw [List.length_take, List.length_drop]; omega
      have hfm := fill_more (xs := aOfBytes (exW key T n i)) (ys := aOfBytes ((key.drop (4 * i)).take 4)) (z := AV.int .u8 0) (t := i * 4) (k := 4) (n := M) (by omega) (by rw [aOfBytes_len]; exact hblk) (by omega)
      have hnx : exW key T n (i + 1) = exW key T n i ++ (key.drop (4 * i)).take 4 := by rw [exW, if_pos hin]
      have hpx : exP n (i + 1) = exP n i := by rw [exP, if_neg (by omega)]
      rw [← aOfBytes_append, ← hnx, show i * 4 + 4 = (i + 1) * 4 by omega] at hfm
      have e1 : (4 * (i : Int)).toNat = 4 * i := by omega
      have e2 : List.take 4 (List.drop (4 * i) (List.take key.length (aOfBytes key))) = aOfBytes ((key.drop (4 * i)).take 4) := by
        have e3 : List.take key.length (aOfBytes key) = aOfBytes key := List.take_of_length_le (by omega)
        rw [e3, bytes_take', bytes_drop']
      repeat (first | with_reducible (first | refine aWp_seq ?_ | refine seq_normal ?_ | refine seq_ret ?_ | refine seq_exit ?_ | refine blk_normal ?_ | refine blk_ret ?_ | refine blk_hit ?_ | refine blk_miss rfl ?_ | refine aWp_ret ?_ | refine aWp_skip ?_ | refine aWp_block ?_ | refine aWp_exit ?_ | refine end_ret ?_ | refine end_normal ?_) | ((refine rgA ?_); intro ν) | ((with_reducible apply cndT); exact rfl; (first | rfl | assumption)) | ((with_reducible apply cndF); exact rfl; (first | rfl | assumption)))
      refine rgxA [(8,[21],[21])] ?_
      intro ν
      repeat (first | with_reducible (first | refine aWp_seq ?_ | refine seq_normal ?_ | refine seq_ret ?_ | refine seq_exit ?_ | refine blk_normal ?_ | refine blk_ret ?_ | refine blk_hit ?_ | refine blk_miss rfl ?_ | refine aWp_ret ?_ | refine aWp_skip ?_ | refine aWp_block ?_ | refine aWp_exit ?_ | refine end_ret ?_ | refine end_normal ?_) | ((refine rgA ?_); intro ν) | ((with_reducible apply cndT); exact rfl; (first | rfl | assumption)) | ((with_reducible apply cndF); exact rfl; (first | rfl | assumption)))
      refine ⟨N - (i + 1), by omega, _, _, _, i + 1, g, rfl, by omega, rfl, rfl, rfl, rfl, rfl, ?_, rfl, ?_, rfl, ?_⟩
      · rw [hpx]; rfl
      · show (SV.k (.int .i64 ((i : Int) + 1)) : SV) = _
        rw [Int.natCast_succ]
      · rw [upd_same, e1, e2]
        rw [show i * 4 + 4 = (i + 1) * 4 by omega]
        exact congrArg (fun q => some (g, Ent.obj q)) hfm
    · have hi0 : 0 < i := by omega
      have hll := exL_len hwl hi0
      have hnx : exW key T n (i + 1) = exW key T n i ++ (List.range 4).map (exF (exW key T n i) (exT T n i (exP n i) (exL (exW key T n i) i)) n i) := by rw [exW, if_neg hin]
      have hld : ldAgg (.arr 4 5) 4 (List.drop (((i : Int) - 1).toNat * 4) (aOfBytes (exW key T n i) ++ List.replicate (M - i * 4) (.int .u8 0))) = some (.agg (aOfBytes (exL (exW key T n i) i))) := by
        rw [show ((i : Int) - 1).toNat = i - 1 by omega, List.drop_append_of_le_length (by omega)]
        simp only [ldAgg]
        rw [if_pos (by simp; omega), List.take_append_of_le_length (by simp; omega), exL, bytes_take', bytes_drop']
      have htl := exT_len (T := T) (n := n) (i := i) (p := exP n i) hll
      have hlla := aOfBytes_len (exL (exW key T n i) i)
      generalize hws : exW key T n i = ws at *
      generalize hO : aOfBytes ws ++ List.replicate (M - i * 4) (AV.int .u8 0) = O at *
      repeat (first | with_reducible (first | refine aWp_seq ?_ | refine seq_normal ?_ | refine seq_ret ?_ | refine seq_exit ?_ | refine blk_normal ?_ | refine blk_ret ?_ | refine blk_hit ?_ | refine blk_miss rfl ?_ | refine aWp_ret ?_ | refine aWp_skip ?_ | refine aWp_block (id := 0) ?_ | refine aWp_block (id := 1) ?_ | refine aWp_block (id := 3) ?_ | refine aWp_block (id := 4) ?_ | refine aWp_block (id := 5) ?_ | refine aWp_block (id := 6) ?_ | refine aWp_block (id := 7) ?_ | refine aWp_block (id := 8) ?_ | refine aWp_block (id := 9) ?_ | refine aWp_block (id := 10) ?_ | refine aWp_block (id := 11) ?_ | refine aWp_block (id := 12) ?_ | refine aWp_block (id := 13) ?_ | refine aWp_block (id := 14) ?_ | refine aWp_block (id := 15) ?_ | refine aWp_block (id := 16) ?_ | refine aWp_block (id := 17) ?_ | refine aWp_block (id := 18) ?_ | refine aWp_block (id := 19) ?_ | refine aWp_block (id := 20) ?_ | refine aWp_block (id := 21) ?_ | refine aWp_block (id := 22) ?_ | refine aWp_block (id := 23) ?_ | refine aWp_exit ?_ | refine end_ret ?_ | refine end_normal ?_) | ((refine rgA ?_); intro ν) | ((with_reducible apply cndT); exact rfl; (first | rfl | assumption)) | ((with_reducible apply cndF); exact rfl; (first | rfl | assumption)))
      refine aWp_cut (fun s => ∃ F Tb ν g10, s = ⟨F, Tb, ν, ⟨fun t => t == 21, δ, true⟩⟩ ∧
        F 0 = .ob 0 0 0 ∧ F 1 = .k (.sl full key.length (aOfBytes key)) ∧ F 2 = .k (.int .i64 (n : Nat)) ∧ F 7 = .os 21 g 0 N N ∧ F 8 = .k (.int .u8 ((exP n (i + 1)).toNat : Int)) ∧ F 9 = .k (.int .i64 (i : Nat)) ∧ F 10 = .ob 10 g10 0 ∧ F 23 = .k (.int .i64 (N : Nat)) ∧ F 24 = .k (.int .i64 (i : Nat)) ∧
        Tb 0 = some (0, .obj (C0 ++ [.sl true 0 []])) ∧ Tb 21 = some (g, .obj O) ∧ Tb 10 = some (g10, .obj (aOfBytes (exT T n i (exP n i) (exL ws i))))) ?_ ?_
      · obtain ⟨y0, y1, y2, y3, hx⟩ := four hll
        have hTl : ∀ j, j < 256 → ldAgg (.int .u8) 1 (List.drop j (C0 ++ [AV.sl true 0 []])) = some (.int .u8 ((T.getD j 0).toNat : Int)) := fun j hj => by
          rw [hC0, List.append_assoc]; exact ld_pre T _ j (by omega)
        have hCl2 : (C0 ++ [AV.sl true 0 []]).length = 513 := by simp [hCl]
        rw [hx]
        have b0 := y0.toNat_lt
        have b1 := y1.toNat_lt
        have b2 := y2.toNat_lt
        have b3 := y3.toNat_lt
        have q0 := hTl y0.toNat (by omega)
        have q1 := hTl y1.toNat (by omega)
        have q2 := hTl y2.toNat (by omega)
        have q3 := hTl y3.toNat (by omega)
        generalize C0 ++ [AV.sl true 0 []] = C1 at *
        have s1 := mulB_spec (exP n i) 2
        by_cases hm : i % n = 0
        · have hmI : (i : Int) % (n : Int) = 0 := by omega
          have hpx : exP n (i + 1) = mulB (exP n i) 2 := by rw [exP, if_pos ⟨by omega, hm⟩]
          have htx : exT T n i (exP n i) [y0, y1, y2, y3] = [T.getD y1.toNat 0 ^^^ exP n i, T.getD y2.toNat 0, T.getD y3.toNat 0, T.getD y0.toNat 0] := by rw [exT, if_pos hm]; rfl
          rw [hpx, htx]
          simp only [aOfBytes_cons, bytes_nil]
          repeat (first | with_reducible (first | refine aWp_seq ?_ | refine seq_normal ?_ | refine seq_ret ?_ | refine seq_exit ?_ | refine blk_normal ?_ | refine blk_ret ?_ | refine blk_hit ?_ | refine blk_miss rfl ?_ | refine aWp_ret ?_ | refine aWp_skip ?_ | refine aWp_block ?_ | refine aWp_exit ?_ | refine end_ret ?_ | refine end_normal ?_) | ((refine rgA ?_); intro ν) | ((with_reducible apply cndT); exact rfl; (first | rfl | assumption)) | ((with_reducible apply cndF); exact rfl; (first | rfl | assumption)))
          refine rgxA [(2,[10],[]),(6,[0],[]),(11,[10],[]),(15,[0],[]),(18,[10],[]),(22,[0],[]),(25,[10],[]),(29,[0],[]),(31,[10],[10])] ?_
          intro ν
          repeat (first | with_reducible (first | refine aWp_seq ?_ | refine seq_normal ?_ | refine seq_ret ?_ | refine seq_exit ?_ | refine blk_normal ?_ | refine blk_ret ?_ | refine blk_hit ?_ | refine blk_miss rfl ?_ | refine aWp_ret ?_ | refine aWp_skip ?_ | refine aWp_block ?_ | refine aWp_exit ?_ | refine end_ret ?_ | refine end_normal ?_) | ((refine rgA ?_); intro ν) | ((with_reducible apply cndT); exact rfl; (first | rfl | assumption)) | ((with_reducible apply cndF); exact rfl; (first | rfl | assumption)))
          refine rg fun K hK => ?_
          refine stA ?_
          (first | with_reducible refine g0 ?_ | ((with_reducible refine g1 ?_ ?_); (with_reducible apply gt_); exact rfl; exact rfl; (first | rfl | assumption | (simp [*] <;> done)))); refine scA (h2 := (s1)) (hk := ?_)
          refine stA ?_
          with_reducible refine rz ?_
          refine hK _ _ _ ?_
          clear hK K; intro ν
          repeat (first | with_reducible (first | refine aWp_seq ?_ | refine seq_normal ?_ | refine seq_ret ?_ | refine seq_exit ?_ | refine blk_normal ?_ | refine blk_ret ?_ | refine blk_hit ?_ | refine blk_miss rfl ?_ | refine aWp_ret ?_ | refine aWp_skip ?_ | refine aWp_block ?_ | refine aWp_exit ?_ | refine end_ret ?_ | refine end_normal ?_) | ((refine rgA ?_); intro ν) | ((with_reducible apply cndT); exact rfl; (first | rfl | assumption)) | ((with_reducible apply cndF); exact rfl; (first | rfl | assumption)))
          exact ⟨_, _, _, _, rfl, rfl, rfl, rfl, rfl, rfl, rfl, rfl, rfl, rfl, rfl, rfl, rfl⟩
        · have hmI : ¬ (i : Int) % (n : Int) = 0 := by omega
          have hpx : exP n (i + 1) = exP n i := by rw [exP, if_neg (fun c => hm c.2)]
          rw [hpx]
          by_cases hm4 : 6 < n ∧ i % n = 4
          · obtain ⟨hn6, hm4⟩ := hm4
            have hm4I : (i : Int) % (n : Int) = 4 := by omega
            have htx : exT T n i (exP n i) [y0, y1, y2, y3] = (List.range 4).map (fun k => T.getD ([y0, y1, y2, y3].getD k 0).toNat 0) := by rw [exT, if_neg hm, if_pos ⟨hn6, hm4⟩]
            rw [htx]
            have hsa := setN_all (fun k => T.getD ([y0, y1, y2, y3].getD k 0).toNat 0) [y0, y1, y2, y3] 4 rfl
            have hgl : ∀ k, k < 4 → ([y0, y1, y2, y3].getD k 0).toNat < 256 := fun k _ => UInt8.toNat_lt _
            rw [← hsa]
            generalize hfu : (fun k => T.getD ([y0, y1, y2, y3].getD k 0).toNat 0) = fu at *
            have hfk : ∀ k, T.getD ([y0, y1, y2, y3].getD k 0).toNat 0 = fu k := fun k => by rw [← hfu]
            have hyl : [y0, y1, y2, y3].length = 4 := rfl
            generalize [y0, y1, y2, y3] = ys at *
            repeat (first | with_reducible (first | refine aWp_seq ?_ | refine seq_normal ?_ | refine seq_ret ?_ | refine seq_exit ?_ | refine blk_normal ?_ | refine blk_ret ?_ | refine blk_hit ?_ | refine blk_miss rfl ?_ | refine aWp_ret ?_ | refine aWp_skip ?_ | refine aWp_block ?_ | refine aWp_exit ?_ | refine end_ret ?_ | refine end_normal ?_) | ((refine rgA ?_); intro ν) | ((with_reducible apply cndT); exact rfl; (first | rfl | assumption)) | ((with_reducible apply cndF); exact rfl; (first | rfl | assumption)))
            refine aWp_loop (fun m s => ∃ F Tb ν k g10, m = 4 - k ∧ k ≤ 4 ∧ s = ⟨F, Tb, ν, ⟨fun t => t == 21, δ, true⟩⟩ ∧
              F 0 = .ob 0 0 0 ∧ F 1 = .k (.sl full key.length (aOfBytes key)) ∧ F 2 = .k (.int .i64 (n : Nat)) ∧ F 7 = .os 21 g 0 N N ∧ F 8 = .k (.int .u8 ((exP n i).toNat : Int)) ∧ F 9 = .k (.int .i64 (i : Nat)) ∧ F 10 = .ob 10 g10 0 ∧ F 23 = .k (.int .i64 (N : Nat)) ∧ F 24 = .k (.int .i64 (i : Nat)) ∧ F 91 = .k (.int .i64 (k : Nat)) ∧
              Tb 0 = some (0, .obj C1) ∧ Tb 21 = some (g, .obj O) ∧ Tb 10 = some (g10, .obj (aOfBytes (setN fu ys k)))) 4 ⟨_, _, _, 0, _, rfl, Nat.zero_le _, rfl, rfl, rfl, rfl, rfl, rfl, rfl, rfl, rfl, rfl, rfl, rfl, rfl, rfl⟩ ?_
            rintro m s ⟨F, Tb, ν, k, g10, rfl, hk4, rfl, f0, f1, f2, f7, f8, f9, f10, f23, f24, f91, t0, t21, t10⟩
            rw [has10 f0 f1 f2 f7 f8 f9 f10 f23 f24 f91, has3 t0 t21 t10]
            have hsl := setN_len fu ys k
            have hsla := aOfBytes_len (setN fu ys k)
            by_cases hlk : k < 4
            · have l1 := ld_b (setN fu ys k) k (by omega)
              rw [setN_get fu ys k k (Nat.le_refl _)] at l1
              have l2 := hTl (ys.getD k 0).toNat (hgl k hlk)
              have hb2 := hgl k hlk
              rw [hfk] at l2
              have hst := set_b (setN fu ys k) (fu k) k (by omega)
              repeat (first | with_reducible (first | refine aWp_seq ?_ | refine seq_normal ?_ | refine seq_ret ?_ | refine seq_exit ?_ | refine blk_normal ?_ | refine blk_ret ?_ | refine blk_hit ?_ | refine blk_miss rfl ?_ | refine aWp_ret ?_ | refine aWp_skip ?_ | refine aWp_block ?_ | refine aWp_exit ?_ | refine end_ret ?_ | refine end_normal ?_) | ((refine rgA ?_); intro ν) | ((with_reducible apply cndT); exact rfl; (first | rfl | assumption)) | ((with_reducible apply cndF); exact rfl; (first | rfl | assumption)))
              refine rgxA [(4,[10],[]),(8,[0],[]),(10,[10],[10])] ?_
              intro ν
              repeat (first | with_reducible (first | refine aWp_seq ?_ | refine seq_normal ?_ | refine seq_ret ?_ | refine seq_exit ?_ | refine blk_normal ?_ | refine blk_ret ?_ | refine blk_hit ?_ | refine blk_miss rfl ?_ | refine aWp_ret ?_ | refine aWp_skip ?_ | refine aWp_block ?_ | refine aWp_exit ?_ | refine end_ret ?_ | refine end_normal ?_) | ((refine rgA ?_); intro ν) | ((with_reducible apply cndT); exact rfl; (first | rfl | assumption)) | ((with_reducible apply cndF); exact rfl; (first | rfl | assumption)))
              refine ⟨4 - (k + 1), by omega, _, _, _, k + 1, _, rfl, by omega, rfl, rfl, rfl, rfl, rfl, rfl, rfl, rfl, rfl, rfl, ?_, rfl, rfl, ?_⟩
              · show (SV.k (.int .i64 ((k : Int) + 1)) : SV) = _
                rw [Int.natCast_succ]
              · rw [upd_same]
                exact congrArg (fun q => some (g10, Ent.obj q)) hst
            · have hke : k = 4 := by omega
              subst hke
              repeat (first | with_reducible (first | refine aWp_seq ?_ | refine seq_normal ?_ | refine seq_ret ?_ | refine seq_exit ?_ | refine blk_normal ?_ | refine blk_ret ?_ | refine blk_hit ?_ | refine blk_miss rfl ?_ | refine aWp_ret ?_ | refine aWp_skip ?_ | refine aWp_block ?_ | refine aWp_exit ?_ | refine end_ret ?_ | refine end_normal ?_) | ((refine rgA ?_); intro ν) | ((with_reducible apply cndT); exact rfl; (first | rfl | assumption)) | ((with_reducible apply cndF); exact rfl; (first | rfl | assumption)))
              exact ⟨_, _, _, _, rfl, rfl, rfl, rfl, rfl, rfl, rfl, rfl, rfl, rfl, rfl, rfl, rfl⟩
          · have htx : exT T n i (exP n i) [y0, y1, y2, y3] = [y0, y1, y2, y3] := by rw [exT, if_neg hm, if_neg hm4]
            rw [htx]
            by_cases hn6 : 6 < n
            · have hm4I : ¬ (i : Int) % (n : Int) = 4 := by omega
              repeat (first | with_reducible (first | refine aWp_seq ?_ | refine seq_normal ?_ | refine seq_ret ?_ | refine seq_exit ?_ | refine blk_normal ?_ | refine blk_ret ?_ | refine blk_hit ?_ | refine blk_miss rfl ?_ | refine aWp_ret ?_ | refine aWp_skip ?_ | refine aWp_block ?_ | refine aWp_exit ?_ | refine end_ret ?_ | refine end_normal ?_) | ((refine rgA ?_); intro ν) | ((with_reducible apply cndT); exact rfl; (first | rfl | assumption)) | ((with_reducible apply cndF); exact rfl; (first | rfl | assumption)))
              exact ⟨_, _, _, _, rfl, rfl, rfl, rfl, rfl, rfl, rfl, rfl, rfl, rfl, rfl, rfl, rfl⟩
            · repeat (first | with_reducible (first | refine aWp_seq ?_ | refine seq_normal ?_ | refine seq_ret ?_ | refine seq_exit ?_ | refine blk_normal ?_ | refine blk_ret ?_ | refine blk_hit ?_ | refine blk_miss rfl ?_ | refine aWp_ret ?_ | refine aWp_skip ?_ | refine aWp_block ?_ | refine aWp_exit ?_ | refine end_ret ?_ | refine end_normal ?_) | ((refine rgA ?_); intro ν) | ((with_reducible apply cndT); exact rfl; (first | rfl | assumption)) | ((with_reducible apply cndF); exact rfl; (first | rfl | assumption)))
              exact ⟨_, _, _, _, rfl, rfl, rfl, rfl, rfl, rfl, rfl, rfl, rfl, rfl, rfl, rfl, rfl⟩
      · rintro s ⟨F, Tb, ν, g10, rfl, f0, f1, f2, f7, f8, f9, f10, f23, f24, t0, t21, t10⟩
        rw [has9 f0 f1 f2 f7 f8 f9 f10 f23 f24, has3 t0 t21 t10]
        generalize exT T n i (exP n i) (exL ws i) = tt at *
        have htla := aOfBytes_len tt
        have hz0 : O = aOfBytes (ws ++ (List.range 0).map (exF ws tt n i)) ++ List.replicate (M - (i * 4 + 0)) (AV.int .u8 0) := by rw [← hO]; simp
        repeat (first | with_reducible (first | refine aWp_seq ?_ | refine seq_normal ?_ | refine seq_ret ?_ | refine seq_exit ?_ | refine blk_normal ?_ | refine blk_ret ?_ | refine blk_hit ?_ | refine blk_miss rfl ?_ | refine aWp_ret ?_ | refine aWp_skip ?_ | refine aWp_block ?_ | refine aWp_exit ?_ | refine end_ret ?_ | refine end_normal ?_) | ((refine rgA ?_); intro ν) | ((with_reducible apply cndT); exact rfl; (first | rfl | assumption)) | ((with_reducible apply cndF); exact rfl; (first | rfl | assumption)))
        refine aWp_loop (fun m s => ∃ F Tb ν k g10, m = 4 - k ∧ k ≤ 4 ∧ s = ⟨F, Tb, ν, ⟨fun t => t == 21, δ, true⟩⟩ ∧
          F 0 = .ob 0 0 0 ∧ F 1 = .k (.sl full key.length (aOfBytes key)) ∧ F 2 = .k (.int .i64 (n : Nat)) ∧ F 7 = .os 21 g 0 N N ∧ F 8 = .k (.int .u8 ((exP n (i + 1)).toNat : Int)) ∧ F 9 = .k (.int .i64 (i : Nat)) ∧ F 10 = .ob 10 g10 0 ∧ F 23 = .k (.int .i64 (N : Nat)) ∧ F 24 = .k (.int .i64 (i : Nat)) ∧ F 105 = .k (.int .i64 (k : Nat)) ∧
          Tb 0 = some (0, .obj (C0 ++ [.sl true 0 []])) ∧ Tb 21 = some (g, .obj (aOfBytes (ws ++ (List.range k).map (exF ws tt n i)) ++ List.replicate (M - (i * 4 + k)) (.int .u8 0))) ∧ Tb 10 = some (g10, .obj (aOfBytes tt))) 4 ⟨_, _, _, 0, _, rfl, Nat.zero_le _, rfl, rfl, rfl, rfl, rfl, rfl, rfl, rfl, rfl, rfl, rfl, rfl, by rw [← hz0]; rfl, rfl⟩ ?_
        rintro m s ⟨F, Tb, ν, k, g10, rfl, hk4, rfl, f0, f1, f2, f7, f8, f9, f10, f23, f24, f105, t0, t21, t10⟩
        rw [has10 f0 f1 f2 f7 f8 f9 f10 f23 f24 f105, has3 t0 t21 t10]
        have hwk : (ws ++ (List.range k).map (exF ws tt n i)).length = i * 4 + k := by simp; omega
        have hwka := aOfBytes_len (ws ++ (List.range k).map (exF ws tt n i))
        have hOk : (aOfBytes (ws ++ (List.range k).map (exF ws tt n i)) ++ List.replicate (M - (i * 4 + k)) (AV.int .u8 0)).length = M := by rw [List.length_append, hwka, hwk, List.length_replicate]; omega
        by_cases hlk : k < 4
        · have l1 := ld_pre (ws ++ (List.range k).map (exF ws tt n i)) (List.replicate (M - (i * 4 + k)) (AV.int .u8 0)) ((i - n) * 4 + k) (by omega)
          rw [getD_app _ _ _ (by omega)] at l1
          have l2 := ld_b tt k (by omega)
          have hst := fill_next (xs := aOfBytes (ws ++ (List.range k).map (exF ws tt n i))) (z := AV.int .u8 0) (v := .int .u8 ((exF ws tt n i k).toNat : Int)) (t := i * 4 + k) (n := M) (by omega) (by omega)
          have e1 : ((i : Int) - (n : Int)).toNat = i - n := by omega
          rw [← e1] at l1
          have e2 : ws.getD (((i : Int) - (n : Int)).toNat * 4 + k) 0 ^^^ tt.getD k 0 = exF ws tt n i k := by rw [e1]; rfl
          rw [← e2] at hst
          have hnx2 : aOfBytes (ws ++ (List.range (k + 1)).map (exF ws tt n i)) = aOfBytes (ws ++ (List.range k).map (exF ws tt n i)) ++ [.int .u8 ((ws.getD (((i : Int) - (n : Int)).toNat * 4 + k) 0 ^^^ tt.getD k 0).toNat : Int)] := by
            rw [rng_next, ← List.append_assoc, aOfBytes_append (ws ++ List.map (exF ws tt n i) (List.range k)), e2]; rfl
          generalize aOfBytes (ws ++ (List.range k).map (exF ws tt n i)) ++ List.replicate (M - (i * 4 + k)) (AV.int .u8 0) = O2 at *
          repeat (first | with_reducible (first | refine aWp_seq ?_ | refine seq_normal ?_ | refine seq_ret ?_ | refine seq_exit ?_ | refine blk_normal ?_ | refine blk_ret ?_ | refine blk_hit ?_ | refine blk_miss rfl ?_ | refine aWp_ret ?_ | refine aWp_skip ?_ | refine aWp_block ?_ | refine aWp_exit ?_ | refine end_ret ?_ | refine end_normal ?_) | ((refine rgA ?_); intro ν) | ((with_reducible apply cndT); exact rfl; (first | rfl | assumption)) | ((with_reducible apply cndF); exact rfl; (first | rfl | assumption)))
          refine rgxA [(10,[21],[]),(13,[10],[]),(17,[21],[21])] ?_
          intro ν
          repeat (first | with_reducible (first | refine aWp_seq ?_ | refine seq_normal ?_ | refine seq_ret ?_ | refine seq_exit ?_ | refine blk_normal ?_ | refine blk_ret ?_ | refine blk_hit ?_ | refine blk_miss rfl ?_ | refine aWp_ret ?_ | refine aWp_skip ?_ | refine aWp_block ?_ | refine aWp_exit ?_ | refine end_ret ?_ | refine end_normal ?_) | ((refine rgA ?_); intro ν) | ((with_reducible apply cndT); exact rfl; (first | rfl | assumption)) | ((with_reducible apply cndF); exact rfl; (first | rfl | assumption)))
          refine ⟨4 - (k + 1), by omega, _, _, _, k + 1, _, rfl, by omega, rfl, rfl, rfl, rfl, rfl, rfl, rfl, rfl, rfl, rfl, ?_, rfl, ?_, rfl⟩
          · show (SV.k (.int .i64 ((k : Int) + 1)) : SV) = _
            rw [Int.natCast_succ]
          · rw [upd_same]
            exact congrArg (fun q => some (g, Ent.obj q)) (hst.trans (by rw [hnx2]; rfl))
        · have hke : k = 4 := by omega
          subst hke
          repeat (first | with_reducible (first | refine aWp_seq ?_ | refine seq_normal ?_ | refine seq_ret ?_ | refine seq_exit ?_ | refine blk_normal ?_ | refine blk_ret ?_ | refine blk_hit ?_ | refine blk_miss rfl ?_ | refine aWp_ret ?_ | refine aWp_skip ?_ | refine aWp_block ?_ | refine aWp_exit ?_ | refine end_ret ?_ | refine end_normal ?_) | ((refine rgA ?_); intro ν) | ((with_reducible apply cndT); exact rfl; (first | rfl | assumption)) | ((with_reducible apply cndF); exact rfl; (first | rfl | assumption)))
          refine ⟨N - (i + 1), by omega, _, _, _, i + 1, g, rfl, by omega, rfl, rfl, rfl, rfl, rfl, rfl, rfl, ?_, rfl, ?_⟩
          · show (SV.k (.int .i64 ((i : Int) + 1)) : SV) = _
            rw [Int.natCast_succ]
          · rw [hnx, show (i + 1) * 4 = i * 4 + 4 by omega]; rfl
  · have hie : i = N := by omega
    subst hie
    have e0 : M - i * 4 = 0 := by omega
    rw [e0, List.replicate_zero, List.append_nil] at hOl ⊢
    clear t21 t0
    have hWl : (exW key T n i).length = M := by omega
    rw [show cph T B (exW key T n i) (n + 7) = C0 ++ [.sl false (n + 7) (aOfBytes (exW key T n i))] by rw [hC0]; unfold cph; rw [List.append_assoc]]
    generalize exW key T n i = W at *
    obtain ⟨R, hR⟩ : ∃ R, R = n + 7 := ⟨_, rfl⟩
    rw [← hR] at hNN ⊢
    repeat (first | with_reducible (first | refine aWp_seq ?_ | refine seq_normal ?_ | refine seq_ret ?_ | refine seq_exit ?_ | refine blk_normal ?_ | refine blk_ret ?_ | refine blk_hit ?_ | refine blk_miss rfl ?_ | refine aWp_ret ?_ | refine aWp_skip ?_ | refine aWp_block ?_ | refine aWp_exit ?_ | refine end_ret ?_ | refine end_normal ?_) | ((refine rgA ?_); intro ν) | ((with_reducible apply cndT); exact rfl; (first | rfl | assumption)) | ((with_reducible apply cndF); exact rfl; (first | rfl | assumption)))
    refine aWp_loop (fun m s => ∃ F Tb ν r x, m = R - r ∧ r ≤ R ∧ s = ⟨F, Tb, ν, ⟨fun t => t == 21, δ, true⟩⟩ ∧
      F 0 = .ob 0 0 0 ∧ F 7 = .os 21 g 0 i i ∧ F 13 = .k (.int .i64 ((4 * r : Nat) : Int)) ∧
      Tb 0 = some (0, .obj (C0 ++ [x])) ∧ Tb 21 = some (g, .obj (aOfBytes W)) ∧ ((r = 0 ∧ x = .sl true 0 []) ∨ ∃ g2, x = .ow δ 154 g2 r 23 (aOfBytes (W.take (r * 16))) ∧ Tb 154 = some (g2, .tag))) R ⟨_, _, _, 0, _, rfl, Nat.zero_le _, rfl, rfl, rfl, rfl, rfl, rfl, .inl ⟨rfl, rfl⟩⟩ ?_
    rintro m s ⟨F, Tb, ν, r, x, rfl, hr, rfl, f0, f7, f13, t0, t21, hx⟩
    rw [has3 f0 f7 f13, has2 t0 t21]
    by_cases hlr : r < R
    · have h4r : 4 * r < i := by omega
      repeat (first | with_reducible (first | refine aWp_seq ?_ | refine seq_normal ?_ | refine seq_ret ?_ | refine seq_exit ?_ | refine blk_normal ?_ | refine blk_ret ?_ | refine blk_hit ?_ | refine blk_miss rfl ?_ | refine aWp_ret ?_ | refine aWp_skip ?_ | refine aWp_block ?_ | refine aWp_exit ?_ | refine end_ret ?_ | refine end_normal ?_) | ((refine rgA ?_); intro ν) | ((with_reducible apply cndT); exact rfl; (first | rfl | assumption)) | ((with_reducible apply cndF); exact rfl; (first | rfl | assumption)))
      refine aWp_loop (fun m s => ∃ F Tb ν j g14, m = 4 - j ∧ j ≤ 4 ∧ s = ⟨F, Tb, ν, ⟨fun t => t == 21, δ, true⟩⟩ ∧
        F 0 = .ob 0 0 0 ∧ F 7 = .os 21 g 0 i i ∧ F 13 = .k (.int .i64 ((4 * r : Nat) : Int)) ∧ F 14 = .ob 14 g14 0 ∧ F 133 = .k (.int .i64 (j : Nat)) ∧
        Tb 0 = some (0, .obj (C0 ++ [x])) ∧ Tb 21 = some (g, .obj (aOfBytes W)) ∧ Tb 14 = some (g14, .obj (aOfBytes ((W.drop (r * 16)).take (j * 4)) ++ List.replicate (16 - j * 4) (.int .u8 0))) ∧
        ((r = 0 ∧ x = .sl true 0 []) ∨ ∃ g2, x = .ow δ 154 g2 r 23 (aOfBytes (W.take (r * 16))) ∧ Tb 154 = some (g2, .tag))) 4 ⟨_, _, _, 0, _, rfl, Nat.zero_le _, rfl, rfl, rfl, rfl, rfl, rfl, rfl, rfl, by rw [Nat.zero_mul, List.take_zero]; rfl, ?_⟩ ?_
      · rcases hx with hx | ⟨g2, hx, h154⟩
        · exact .inl hx
        · exact .inr ⟨g2, hx, h154⟩
      rintro m s ⟨F, Tb, ν, j, g14, rfl, hj, rfl, f0, f7, f13, f14, f133, t0, t21, t14, hx⟩
      rw [has5 f0 f7 f13 f14 f133, has3 t0 t21 t14]
      have hal : ((W.drop (r * 16)).take (j * 4)).length = j * 4 := by rw [List.length_take, List.length_drop]; omega
      have haa := aOfBytes_len ((W.drop (r * 16)).take (j * 4))
      have hA : (aOfBytes ((W.drop (r * 16)).take (j * 4)) ++ List.replicate (16 - j * 4) (AV.int .u8 0)).length = 16 := by rw [List.length_append, haa, hal, List.length_replicate]; omega
      by_cases hlj : j < 4
      · have hbl : (((W.drop (r * 16)).drop (j * 4)).take 4).length = 4 := by rw [List.length_take, List.length_drop, List.length_drop]; omega
        have hfm := fill_more (xs := aOfBytes ((W.drop (r * 16)).take (j * 4))) (ys := aOfBytes (((W.drop (r * 16)).drop (j * 4)).take 4)) (z := AV.int .u8 0) (t := j * 4) (k := 4) (n := 16) (by omega) (by rw [aOfBytes_len]; exact hbl) (by omega)
        rw [← aOfBytes_append, show (W.drop (r * 16)).take (j * 4) ++ ((W.drop (r * 16)).drop (j * 4)).take 4 = (W.drop (r * 16)).take ((j + 1) * 4) by rw [show (j + 1) * 4 = j * 4 + 4 by omega, List.take_add]] at hfm
        generalize hAg : aOfBytes ((W.drop (r * 16)).take (j * 4)) ++ List.replicate (16 - j * 4) (AV.int .u8 0) = A at *
        have e1 : (4 * (j : Int)).toNat = j * 4 := by omega
        have e2 : (((4 * r : Nat) : Int) + (j : Int)).toNat * 4 = r * 16 + j * 4 := by omega
        have e3 : ∀ X : List AV, List.take (16 - j * 4) (List.take 4 X) = List.take 4 X := fun X => by rw [List.take_take]; congr 1; omega
        repeat (first | with_reducible (first | refine aWp_seq ?_ | refine seq_normal ?_ | refine seq_ret ?_ | refine seq_exit ?_ | refine blk_normal ?_ | refine blk_ret ?_ | refine blk_hit ?_ | refine blk_miss rfl ?_ | refine aWp_ret ?_ | refine aWp_skip ?_ | refine aWp_block ?_ | refine aWp_exit ?_ | refine end_ret ?_ | refine end_normal ?_) | ((refine rgA ?_); intro ν) | ((with_reducible apply cndT); exact rfl; (first | rfl | assumption)) | ((with_reducible apply cndF); exact rfl; (first | rfl | assumption)))
        refine rgxA [(9,[14,21],[14,21])] ?_
        intro ν
        rw [e1, e2, e3]
        rw [← List.drop_drop, ← bytes_drop', ← bytes_drop', ← bytes_take', hfm]
        repeat (first | with_reducible (first | refine aWp_seq ?_ | refine seq_normal ?_ | refine seq_ret ?_ | refine seq_exit ?_ | refine blk_normal ?_ | refine blk_ret ?_ | refine blk_hit ?_ | refine blk_miss rfl ?_ | refine aWp_ret ?_ | refine aWp_skip ?_ | refine aWp_block ?_ | refine aWp_exit ?_ | refine end_ret ?_ | refine end_normal ?_) | ((refine rgA ?_); intro ν) | ((with_reducible apply cndT); exact rfl; (first | rfl | assumption)) | ((with_reducible apply cndF); exact rfl; (first | rfl | assumption)))
        refine ⟨4 - (j + 1), by omega, _, _, _, j + 1, _, rfl, by omega, rfl, rfl, rfl, rfl, rfl, ?_, rfl, rfl, ?_, ?_⟩
        · show (SV.k (.int .i64 ((j : Int) + 1)) : SV) = _
          rw [Int.natCast_succ]
        · rw [show (j + 1) * 4 = j * 4 + 4 by omega]; rfl
        · rcases hx with hx | ⟨g2, hx, h154⟩
          · exact .inl hx
          · exact .inr ⟨g2, hx, h154⟩
      · have hje : j = 4 := by omega
        subst hje
        have hkl : ((W.drop (r * 16)).take (4 * 4)).length = 16 := by omega
        have hnx : W.take ((r + 1) * 16) = W.take (r * 16) ++ (W.drop (r * 16)).take (4 * 4) := by rw [show (r + 1) * 16 = r * 16 + 4 * 4 by omega, List.take_add]
        rw [show 16 - 4 * 4 = 0 from rfl, List.replicate_zero, List.append_nil]
        have hWr : (W.take (r * 16)).length = r * 16 := by rw [List.length_take]; omega
        have hWra := aOfBytes_len (W.take (r * 16))
        generalize (W.drop (r * 16)).take (4 * 4) = Z at *
        have hZa := aOfBytes_len Z
        have la := ld_arr (n := 16) (e := 5) (aOfBytes Z) (sz := 16) (by omega)
        have hCx : (C0 ++ [x]).length = 513 := by simp [hCl]
        have hCd : List.drop 512 (C0 ++ [x]) = [x] := List.drop_left' hCl
        have hCt : List.take 512 (C0 ++ [x]) = C0 := List.take_left' hCl
        have hCe : List.drop 513 (C0 ++ [x]) = [] := List.drop_of_length_le (by omega)
        have lx : ldAgg (.sl 23) 1 (List.drop 512 (C0 ++ [x])) = some x := by rw [hCd]; rfl
        have hfl : aFill (fun j => some (j * 16, 16)) (aZeros 1 16 (List.replicate 16 (AV.int .u8 0))) [(0, .agg (aOfBytes Z))] = some (aOfBytes Z) := by
          have hz : (aZeros 1 16 (List.replicate 16 (AV.int .u8 0))).length = 16 := by rw [aZeros_len]
          generalize aZeros 1 16 (List.replicate 16 (AV.int .u8 0)) = zs at *
          simp only [aFill, AV.flat, AV.cells, true_and]
          rw [if_pos ⟨by omega, by omega⟩, List.drop_of_length_le (by omega)]
          simp
        rcases hx with ⟨rfl, rfl⟩ | ⟨g2, rfl, h154⟩
        · rw [Nat.zero_mul] at hnx
          repeat (first | with_reducible (first | refine aWp_seq ?_ | refine seq_normal ?_ | refine seq_ret ?_ | refine seq_exit ?_ | refine blk_normal ?_ | refine blk_ret ?_ | refine blk_hit ?_ | refine blk_miss rfl ?_ | refine aWp_ret ?_ | refine aWp_skip ?_ | refine aWp_block ?_ | refine aWp_exit ?_ | refine end_ret ?_ | refine end_normal ?_) | ((refine rgA ?_); intro ν) | ((with_reducible apply cndT); exact rfl; (first | rfl | assumption)) | ((with_reducible apply cndF); exact rfl; (first | rfl | assumption)))
          refine rgxA [(4,[0],[]),(5,[14],[]),(7,[153,154],[153,154]),(10,[0,154],[0,154])] ?_
          intro ν
          rw [hCt, hCe, List.append_nil]
          repeat (first | with_reducible (first | refine aWp_seq ?_ | refine seq_normal ?_ | refine seq_ret ?_ | refine seq_exit ?_ | refine blk_normal ?_ | refine blk_ret ?_ | refine blk_hit ?_ | refine blk_miss rfl ?_ | refine aWp_ret ?_ | refine aWp_skip ?_ | refine aWp_block ?_ | refine aWp_exit ?_ | refine end_ret ?_ | refine end_normal ?_) | ((refine rgA ?_); intro ν) | ((with_reducible apply cndT); exact rfl; (first | rfl | assumption)) | ((with_reducible apply cndF); exact rfl; (first | rfl | assumption)))
          refine ⟨R - 1, by omega, _, _, _, 1, _, rfl, by omega, rfl, rfl, rfl, rfl, rfl, rfl, .inr ⟨_, ?_, rfl⟩⟩
          · rw [hnx, List.take_zero]; rfl
        · rw [upd_self h154]
          repeat (first | with_reducible (first | refine aWp_seq ?_ | refine seq_normal ?_ | refine seq_ret ?_ | refine seq_exit ?_ | refine blk_normal ?_ | refine blk_ret ?_ | refine blk_hit ?_ | refine blk_miss rfl ?_ | refine aWp_ret ?_ | refine aWp_skip ?_ | refine aWp_block ?_ | refine aWp_exit ?_ | refine end_ret ?_ | refine end_normal ?_) | ((refine rgA ?_); intro ν) | ((with_reducible apply cndT); exact rfl; (first | rfl | assumption)) | ((with_reducible apply cndF); exact rfl; (first | rfl | assumption)))
          refine rgxA [(4,[0],[]),(5,[14],[]),(7,[153,154],[153,154]),(10,[0,154],[0,154])] ?_
          intro ν
          rw [hCt, hCe, List.append_nil]
          repeat (first | with_reducible (first | refine aWp_seq ?_ | refine seq_normal ?_ | refine seq_ret ?_ | refine seq_exit ?_ | refine blk_normal ?_ | refine blk_ret ?_ | refine blk_hit ?_ | refine blk_miss rfl ?_ | refine aWp_ret ?_ | refine aWp_skip ?_ | refine aWp_block ?_ | refine aWp_exit ?_ | refine end_ret ?_ | refine end_normal ?_) | ((refine rgA ?_); intro ν) | ((with_reducible apply cndT); exact rfl; (first | rfl | assumption)) | ((with_reducible apply cndF); exact rfl; (first | rfl | assumption)))
          refine ⟨R - (r + 1), by omega, _, _, _, r + 1, _, rfl, by omega, rfl, rfl, rfl, ?_, rfl, rfl, .inr ⟨_, ?_, rfl⟩⟩
          · show (SV.k (.int .i64 (((4 * r : Nat) : Int) + 4)) : SV) = _
            rw [show ((4 * r : Nat) : Int) + 4 = ((4 * (r + 1) : Nat) : Int) by omega]
          · rw [hnx, aOfBytes_append]
    · have hre : r = R := by omega
      subst hre
      rcases hx with ⟨q, _⟩ | ⟨g2, rfl, h154⟩
      · omega
      rw [List.take_of_length_le (by omega)]
      repeat (first | with_reducible (first | refine aWp_seq ?_ | refine seq_normal ?_ | refine seq_ret ?_ | refine seq_exit ?_ | refine blk_normal ?_ | refine blk_ret ?_ | refine blk_hit ?_ | refine blk_miss rfl ?_ | refine aWp_ret ?_ | refine aWp_skip ?_ | refine aWp_block ?_ | refine aWp_exit ?_ | refine end_ret ?_ | refine end_normal ?_) | ((refine rgA ?_); intro ν) | ((with_reducible apply cndT); exact rfl; (first | rfl | assumption)) | ((with_reducible apply cndF); exact rfl; (first | rfl | assumption)))
      (first | with_reducible refine end_r ?_ | with_reducible refine end_n ?_)
      exact ⟨Wk.of_eq rfl, _, rfl, wkL_last wk_ow⟩
end Go.Proofs.Ytmbnclpgldglnaa
