import Derived.Test.YtjfeggkjkdbkiaaRwrap0
namespace Go.Proofs.Ytjfeggkjkdbkiaa
open Go.RowKit
set_option linter.unusedVariables false
set_option linter.unusedSimpArgs false
set_option maxRecDepth 20000
set_option maxHeartbeats 16000000 in
theorem rwrap_walk (fk fb : Bool) (key b : List UInt8) (C : List AV) (E : List UInt8 → List UInt8) (hE : ∀ x, x.length = 16 → (E x).length = 16) (hp : partsN b.length 0 ≠ 0)
    (s1 : Spec Try.prog 50 [.sl fk key.length (aOfBytes key)] (.k (.tup [.cp C, .bool true])))
    (s2 : ∀ f x, x.length = 16 → Spec Try.prog 51 [.cp C, .sl f 16 (aOfBytes x)] (.news 16 (aOfBytes (E x)))) :
    Spec Try.prog 24 [.sl fk key.length (aOfBytes key), .sl fb b.length (aOfBytes b)] (.k (.tup [.sl false (wrapB E b).length (aOfBytes (wrapB E b)), .int .i64 0])) := by
  obtain ⟨n, hn⟩ : ∃ n, n = b.length / 8 := ⟨_, rfl⟩
  have hb8 : b.length = 8 * n ∧ 2 ≤ n ∧ n ≤ 32 := by
    unfold partsN at hp
    split at hp
    · omega
    · omega
  obtain ⟨hbl, hn2, hn32⟩ := hb8
  have hnI : (b.length : Int) / 8 = (n : Int) := by omega
  have hba := aOfBytes_len b
  have hal : a6.length = 8 := rfl
  have h08 : (a6, b).1.length = 8 ∧ (a6, b).2.length = 8 * n := ⟨hal, hbl⟩
  have hwl := rwN_len hE (n := n) (by omega) h08
  have hww := rwN_wr hE (n := n) (by omega) h08 (6 * n) (by omega)
  have hfin : wrapB E b = wrN E n (a6 ++ b) (6 * n) := by rw [wrapB, ← hn]
  rw [hfin, ← hww]
  have hnx : ∀ t, rwN E n (a6, b) (t + 1) = rwS E n (rwN E n (a6, b) t) t := fun t => rfl
  have h0 : rwN E n (a6, b) 0 = (a6, b) := rfl
  clear hww hfin
  generalize rwN E n (a6, b) = wn at *
  have h6 : aOfBytes (wn 0).1 = aOfBytes a6 := by rw [h0]
  have h7 : aOfBytes (wn 0).2 = aOfBytes b := by rw [h0]
  refine spec_of (fun t => t == 41 || t == 42 || t == 44 || t == 66) (by kernel_rfl) Try.func24 rfl rfl (by simp [Try.ntmps24]) (by decide) ?_
  intro δ
  rw [init2]
  repeat (first | with_reducible (first | refine aWp_seq ?_ | refine seq_normal ?_ | refine seq_ret ?_ | refine seq_exit ?_ | refine blk_normal ?_ | refine blk_ret ?_ | refine blk_hit ?_ | refine blk_miss rfl ?_ | refine aWp_ret ?_ | refine aWp_skip ?_ | refine aWp_block ?_ | refine aWp_exit ?_ | refine end_ret ?_ | refine end_normal ?_) | ((refine rgA ?_); intro ν) | ((with_reducible apply cndT); exact rfl; (first | rfl | assumption)) | ((with_reducible apply cndF); exact rfl; (first | rfl | assumption)))
  refine rg fun K hK => ?_
  refine stA ?_
  (first | with_reducible refine g0 ?_ | ((with_reducible refine g1 ?_ ?_); (with_reducible apply gt_); exact rfl; exact rfl; (first | rfl | assumption | (simp [*] <;> done)))); refine scA (h2 := (s1)) (hk := ?_)
  refine stA ?_
  with_reducible refine rz ?_
  refine hK _ _ _ ?_
  clear hK K; intro ν
  repeat with_reducible (first | refine aWp_seq ?_ | refine seq_normal ?_ | refine seq_ret ?_ | refine seq_exit ?_ | refine blk_normal ?_ | refine blk_ret ?_ | refine blk_hit ?_ | refine blk_miss rfl ?_ | refine aWp_ret ?_ | refine aWp_skip ?_ | refine aWp_block ?_ | refine aWp_exit ?_ | refine end_ret ?_ | refine end_normal ?_)
  refine rgA ?_
  intro ν
  rw [hnI]
  repeat with_reducible (first | refine aWp_seq ?_ | refine seq_normal ?_ | refine seq_ret ?_ | refine seq_exit ?_ | refine blk_normal ?_ | refine blk_ret ?_ | refine blk_hit ?_ | refine blk_miss rfl ?_ | refine aWp_ret ?_ | refine aWp_skip ?_ | refine aWp_block ?_ | refine aWp_exit ?_ | refine end_ret ?_ | refine end_normal ?_)
  refine rgA ?_
  intro ν
  repeat with_reducible (first | refine aWp_seq ?_ | refine seq_normal ?_ | refine seq_ret ?_ | refine seq_exit ?_ | refine blk_normal ?_ | refine blk_ret ?_ | refine blk_hit ?_ | refine blk_miss rfl ?_ | refine aWp_ret ?_ | refine aWp_skip ?_ | refine aWp_block ?_ | refine aWp_exit ?_ | refine end_ret ?_ | refine end_normal ?_)
  (with_reducible apply cndF); exact rfl; (first | rfl | assumption | (simp [*] <;> done))
  repeat with_reducible (first | refine aWp_seq ?_ | refine seq_normal ?_ | refine seq_ret ?_ | refine seq_exit ?_ | refine blk_normal ?_ | refine blk_ret ?_ | refine blk_hit ?_ | refine blk_miss rfl ?_ | refine aWp_ret ?_ | refine aWp_skip ?_ | refine aWp_block ?_ | refine aWp_exit ?_ | refine end_ret ?_ | refine end_normal ?_)
  refine rg fun K hK => ?_
  refine stA ?_
  refine rzs (t := 9) rfl rfl ?_
  refine hK _ _ _ ?_
  clear hK K; intro ν
  repeat (first | with_reducible (first | refine aWp_seq ?_ | refine seq_normal ?_ | refine seq_ret ?_ | refine seq_exit ?_ | refine blk_normal ?_ | refine blk_ret ?_ | refine blk_hit ?_ | refine blk_miss rfl ?_ | refine aWp_ret ?_ | refine aWp_skip ?_ | refine aWp_block ?_ | refine aWp_exit ?_ | refine end_ret ?_ | refine end_normal ?_) | ((refine rgA ?_); intro ν) | ((with_reducible apply cndT); exact rfl; (first | rfl | assumption)) | ((with_reducible apply cndF); exact rfl; (first | rfl | assumption)))
  refine aWp_loop (fun m s => ∃ F T ν j g fl, m = 6 - j ∧ j ≤ 6 ∧ s = ⟨F, T, ν, ⟨fun t => t == 41 || t == 42 || t == 44 || t == 66, δ, false⟩⟩ ∧ F 6 = .k (.cp C) ∧ F 8 = .k (.int .i64 (n : Nat)) ∧ F 9 = .k (.sl fl 8 (aOfBytes (wn (n * j)).1)) ∧ F 10 = .os 44 g 0 b.length b.length ∧ F 11 = .k (.int .i64 (j : Nat)) ∧ T 44 = some (g, .obj (aOfBytes (wn (n * j)).2))) 6 ⟨_, _, _, 0, _, false, rfl, Nat.zero_le _, rfl, rfl, rfl, ?_, rfl, rfl, ?_⟩ ?_
  · rw [Nat.mul_zero, h6]; rfl
  · rw [Nat.mul_zero, h7]; rfl
  clear h6 h7 h0
  rintro m s ⟨F, T, ν, j, g, fl, rfl, hj, rfl, f6, f8, f9, f10, f11, t44⟩
  rw [has5 f6 f8 f9 f10 f11, has1 t44]
  by_cases hlj : j < 6
  · repeat (first | with_reducible (first | refine aWp_seq ?_ | refine seq_normal ?_ | refine seq_ret ?_ | refine seq_exit ?_ | refine blk_normal ?_ | refine blk_ret ?_ | refine blk_hit ?_ | refine blk_miss rfl ?_ | refine aWp_ret ?_ | refine aWp_skip ?_ | refine aWp_block ?_ | refine aWp_exit ?_ | refine end_ret ?_ | refine end_normal ?_) | ((refine rgA ?_); intro ν) | ((with_reducible apply cndT); exact rfl; (first | rfl | assumption)) | ((with_reducible apply cndF); exact rfl; (first | rfl | assumption)))
    refine aWp_loop (fun m s => ∃ F T ν i g fl, m = n - i ∧ i ≤ n ∧ s = ⟨F, T, ν, ⟨fun t => t == 41 || t == 42 || t == 44 || t == 66, δ, false⟩⟩ ∧ F 6 = .k (.cp C) ∧ F 8 = .k (.int .i64 (n : Nat)) ∧ F 9 = .k (.sl fl 8 (aOfBytes (wn (n * j + i)).1)) ∧ F 10 = .os 44 g 0 b.length b.length ∧ F 11 = .k (.int .i64 (j : Nat)) ∧ F 12 = .k (.int .i64 (i : Nat)) ∧ T 44 = some (g, .obj (aOfBytes (wn (n * j + i)).2))) n ⟨_, _, _, 0, _, _, rfl, Nat.zero_le _, rfl, rfl, rfl, rfl, rfl, rfl, rfl, rfl⟩ ?_
    clear f6 f8 f9 f10 f11 t44
    rintro m s ⟨F, T, ν, i, g, fl, rfl, hi, rfl, f6, f8, f9, f10, f11, f12, t44⟩
    rw [has6 f6 f8 f9 f10 f11 f12, has1 t44]
    by_cases hli : i < n
    · have h5 : n * j ≤ n * 5 := Nat.mul_le_mul_left n (by omega)
      have hmod : (n * j + i) % n = i := by rw [Nat.mul_add_mod, Nat.mod_eq_of_lt hli]
      have htI : ((n : Int) * (j : Int) + (i : Int) + 1) = ((n * j + i + 1 : Nat) : Int) := by push_cast; rfl
      obtain ⟨hl1, hl2⟩ := hwl (n * j + i)
      have hnx1 := hnx (n * j + i)
      obtain ⟨hm1, hm2⟩ := hwl (n * j + i + 1)
      rw [rwS, rwY, hmod] at hnx1
      have hnj : n * j + i + 1 < 256 := by omega
      generalize hS' : wn (n * j + i + 1) = S' at *
      generalize wn (n * j + i) = S at *
      obtain ⟨a, r⟩ := S
      dsimp only at hnx1 hl1 hl2 f9 t44 ⊢
      have haa := aOfBytes_len a
      have hra := aOfBytes_len r
      have hXl : (a ++ (r.drop (8 * i)).take 8).length = 16 := by rw [List.length_append, List.length_take, List.length_drop]; omega
      have hXb : aOfBytes a ++ ((aOfBytes r).drop (8 * i)).take 8 = aOfBytes (a ++ (r.drop (8 * i)).take 8) := by rw [aOfBytes_append, bytes_take', bytes_drop']
      generalize a ++ (r.drop (8 * i)).take 8 = X at *
      have hXa := aOfBytes_len X
      have hEl := hE _ hXl
      have s3 := s2 false X hXl
      generalize E X = Z at *
      have hZa := aOfBytes_len Z
      have e2 : (8 * (i : Int) + 8).toNat - (8 * (i : Int)).toNat = 8 := by omega
      have e1 : (8 * (i : Int)).toNat = 8 * i := by omega
      repeat with_reducible (first | refine aWp_seq ?_ | refine seq_normal ?_ | refine seq_ret ?_ | refine seq_exit ?_ | refine blk_normal ?_ | refine blk_ret ?_ | refine blk_hit ?_ | refine blk_miss rfl ?_ | refine aWp_ret ?_ | refine aWp_skip ?_ | refine aWp_block ?_ | refine aWp_exit ?_ | refine end_ret ?_ | refine end_normal ?_)
      refine rgA ?_
      intro ν
      repeat with_reducible (first | refine aWp_seq ?_ | refine seq_normal ?_ | refine seq_ret ?_ | refine seq_exit ?_ | refine blk_normal ?_ | refine blk_ret ?_ | refine blk_hit ?_ | refine blk_miss rfl ?_ | refine aWp_ret ?_ | refine aWp_skip ?_ | refine aWp_block ?_ | refine aWp_exit ?_ | refine end_ret ?_ | refine end_normal ?_)
      (with_reducible apply cndT); exact rfl; (first | rfl | assumption | (simp [*] <;> done))
      repeat with_reducible (first | refine aWp_seq ?_ | refine seq_normal ?_ | refine seq_ret ?_ | refine seq_exit ?_ | refine blk_normal ?_ | refine blk_ret ?_ | refine blk_hit ?_ | refine blk_miss rfl ?_ | refine aWp_ret ?_ | refine aWp_skip ?_ | refine aWp_block ?_ | refine aWp_exit ?_ | refine end_ret ?_ | refine end_normal ?_)
      refine rgx [(1,[],[55]),(3,[55,57],[55,57]),(11,[57,65,44],[57,65,44]),(12,[65],[66])] (by kernel_rfl) fun K hK => ?_
      refine stxA ?_
      rw [e2, e1]
      refine stxA ?_
      rw [hXb]
      ((first | ((with_reducible refine x0 ?_ ?_); exact rfl) | ((with_reducible refine x1 ?_ ?_ ?_); exact rfl; (with_reducible apply gt_); exact rfl; exact rfl; (first | rfl | assumption | (simp [*] <;> done)))); refine xcA (h2 := (s3)) (hk := ?_))
      refine stxA ?_
      with_reducible refine xz ?_
      refine hK _ _ _ ?_
      clear hK K; intro ν
      repeat with_reducible (first | refine aWp_seq ?_ | refine seq_normal ?_ | refine seq_ret ?_ | refine seq_exit ?_ | refine blk_normal ?_ | refine blk_ret ?_ | refine blk_hit ?_ | refine blk_miss rfl ?_ | refine aWp_ret ?_ | refine aWp_skip ?_ | refine aWp_block ?_ | refine aWp_exit ?_ | refine end_ret ?_ | refine end_normal ?_)
      refine rgA ?_
      intro ν
      rw [htI]
      have l1 := ld_b Z 7 (by omega)
      obtain ⟨N, hN⟩ : ∃ N, N = n * j + i + 1 := ⟨_, rfl⟩
      rw [← hN] at hnx1 hnj ⊢
      have hNu : ((N : Nat) : Int) = ((UInt8.ofNat N).toNat : Int) := by rw [UInt8.toNat_ofNat', Nat.mod_eq_of_lt hnj]
      have hst := set_b Z (Z.getD 7 0 ^^^ UInt8.ofNat N) 7 (by omega)
      rw [show Z.set 7 (Z.getD 7 0 ^^^ UInt8.ofNat N) = cnt7 Z N from rfl] at hst
      have hYl := cnt7_len Z N
      rw [hEl] at hYl
      generalize cnt7 Z N = Y at *
      have hYa := aOfBytes_len Y
      rw [hNu]
      repeat with_reducible (first | refine aWp_seq ?_ | refine seq_normal ?_ | refine seq_ret ?_ | refine seq_exit ?_ | refine blk_normal ?_ | refine blk_ret ?_ | refine blk_hit ?_ | refine blk_miss rfl ?_ | refine aWp_ret ?_ | refine aWp_skip ?_ | refine aWp_block ?_ | refine aWp_exit ?_ | refine end_ret ?_ | refine end_normal ?_)
      refine rg fun K hK => ?_
      refine stA ?_
      rw [hst]
      refine rzs (t := 13) rfl rfl ?_
      refine hK _ _ _ ?_
      clear hK K; intro ν
      repeat (first | with_reducible (first | refine aWp_seq ?_ | refine seq_normal ?_ | refine seq_ret ?_ | refine seq_exit ?_ | refine blk_normal ?_ | refine blk_ret ?_ | refine blk_hit ?_ | refine blk_miss rfl ?_ | refine aWp_ret ?_ | refine aWp_skip ?_ | refine aWp_block ?_ | refine aWp_exit ?_ | refine end_ret ?_ | refine end_normal ?_) | ((refine rgA ?_); intro ν) | ((with_reducible apply cndT); exact rfl; (first | rfl | assumption)) | ((with_reducible apply cndF); exact rfl; (first | rfl | assumption)))
      refine aWp_loop (fun m s => ∃ F T ν k g fl, m = 8 - k ∧ k ≤ 8 ∧ s = ⟨F, T, ν, ⟨fun t => t == 41 || t == 42 || t == 44 || t == 66, δ, false⟩⟩ ∧ F 6 = .k (.cp C) ∧ F 8 = .k (.int .i64 (n : Nat)) ∧ F 9 = .k (.sl fl 8 (List.take 8 (aOfBytes Y))) ∧ F 10 = .os 44 g 0 b.length b.length ∧ F 11 = .k (.int .i64 (j : Nat)) ∧ F 12 = .k (.int .i64 (i : Nat)) ∧ F 13 = .k (.sl false 16 (aOfBytes Y)) ∧ F 15 = .k (.int .i64 (k : Nat)) ∧ T 44 = some (g, .obj (aOfBytes (putW r ((Y.drop 8).take k) (8 * i))))) 8 ⟨_, _, _, 0, _, _, rfl, Nat.zero_le _, rfl, rfl, rfl, rfl, rfl, rfl, rfl, rfl, rfl, ?_⟩ ?_
      · rw [List.take_zero, putW_nil]; rfl
      clear f6 f8 f9 f10 f11 f12 t44
      rintro m s ⟨F, T, ν, k, g, fl, rfl, hk, rfl, f6, f8, f9, f10, f11, f12, f13, f15, t44⟩
      rw [has8 f6 f8 f9 f10 f11 f12 f13 f15, has1 t44]
      have hRl : (putW r ((Y.drop 8).take k) (8 * i)).length = r.length := putW_len _ _ _ (by rw [List.length_take, List.length_drop]; omega)
      have hRa := aOfBytes_len (putW r ((Y.drop 8).take k) (8 * i))
      by_cases hlk : k < 8
      · have l2 := ld_b Y (8 + k) (by omega)
        have e4 : (8 + (k : Int)).toNat = 8 + k := by omega
        have e5 : (8 * (i : Int) + (k : Int)).toNat = 8 * i + k := by omega
        have hst2 := set_b (putW r ((Y.drop 8).take k) (8 * i)) (Y.getD (8 + k) 0) (8 * i + k) (by omega)
        have hpn := putW_next r (Y.drop 8) (8 * i) k (by rw [List.length_drop]; omega) (by rw [List.length_drop]; omega)
        rw [drop_get] at hpn
        rw [hpn] at hst2
        generalize putW r ((Y.drop 8).take k) (8 * i) = Rk at *
        rw [← e4] at l2
        repeat (first | with_reducible (first | refine aWp_seq ?_ | refine seq_normal ?_ | refine seq_ret ?_ | refine seq_exit ?_ | refine blk_normal ?_ | refine blk_ret ?_ | refine blk_hit ?_ | refine blk_miss rfl ?_ | refine aWp_ret ?_ | refine aWp_skip ?_ | refine aWp_block ?_ | refine aWp_exit ?_ | refine end_ret ?_ | refine end_normal ?_) | ((refine rgA ?_); intro ν) | ((with_reducible apply cndT); exact rfl; (first | rfl | assumption)) | ((with_reducible apply cndF); exact rfl; (first | rfl | assumption)))
        refine ⟨8 - (k + 1), by omega, _, _, _, k + 1, _, _, rfl, by omega, rfl, rfl, rfl, rfl, rfl, rfl, rfl, rfl, ?_, ?_⟩
        · show (SV.k (.int .i64 ((k : Int) + 1)) : SV) = _
          rw [Int.natCast_succ]
        · rw [upd_same, e5, e4]
          exact congrArg (fun q => some (g, Ent.obj q)) hst2
      · have hke : k = 8 := by omega
        subst hke
        have ht8 : (Y.drop 8).take 8 = Y.drop 8 := List.take_of_length_le (by rw [List.length_drop]; omega)
        rw [ht8] at t44 hRl hRa ⊢
        repeat (first | with_reducible (first | refine aWp_seq ?_ | refine seq_normal ?_ | refine seq_ret ?_ | refine seq_exit ?_ | refine blk_normal ?_ | refine blk_ret ?_ | refine blk_hit ?_ | refine blk_miss rfl ?_ | refine aWp_ret ?_ | refine aWp_skip ?_ | refine aWp_block ?_ | refine aWp_exit ?_ | refine end_ret ?_ | refine end_normal ?_) | ((refine rgA ?_); intro ν) | ((with_reducible apply cndT); exact rfl; (first | rfl | assumption)) | ((with_reducible apply cndF); exact rfl; (first | rfl | assumption)))
        refine ⟨n - (i + 1), by omega, _, _, _, i + 1, _, fl, rfl, by omega, rfl, rfl, rfl, ?_, rfl, rfl, ?_, ?_⟩
        · show SV.k (.sl fl 8 (List.take 8 (aOfBytes Y))) = SV.k (.sl fl 8 (aOfBytes (wn (n * j + i + 1)).1))
          rw [hS', hnx1, bytes_take']
        · show (SV.k (.int .i64 ((i : Int) + 1)) : SV) = _
          rw [Int.natCast_succ]
        · show _ = some (_, Ent.obj (aOfBytes (wn (n * j + i + 1)).2))
          rw [hS', hnx1]
          rfl
    · have hie : i = n := by omega
      subst hie
      rw [← Nat.mul_succ] at f9 t44 ⊢
      repeat (first | with_reducible (first | refine aWp_seq ?_ | refine seq_normal ?_ | refine seq_ret ?_ | refine seq_exit ?_ | refine blk_normal ?_ | refine blk_ret ?_ | refine blk_hit ?_ | refine blk_miss rfl ?_ | refine aWp_ret ?_ | refine aWp_skip ?_ | refine aWp_block ?_ | refine aWp_exit ?_ | refine end_ret ?_ | refine end_normal ?_) | ((refine rgA ?_); intro ν) | ((with_reducible apply cndT); exact rfl; (first | rfl | assumption)) | ((with_reducible apply cndF); exact rfl; (first | rfl | assumption)))
      refine ⟨6 - (j + 1), by omega, _, _, _, j + 1, _, fl, rfl, by omega, rfl, rfl, rfl, rfl, rfl, ?_, rfl⟩
      show (SV.k (.int .i64 ((j : Int) + 1)) : SV) = _
      rw [Int.natCast_succ]
  · have hje : j = 6 := by omega
    subst hje
    rw [Nat.mul_comm n 6] at f9 t44 ⊢
    obtain ⟨hl1, hl2⟩ := hwl (6 * n)
    have hl := aOfBytes_len (wn (6 * n)).1
    have hr := aOfBytes_len (wn (6 * n)).2
    have ht : List.take b.length (aOfBytes (wn (6 * n)).2) = aOfBytes (wn (6 * n)).2 := List.take_of_length_le (by rw [hr]; omega)
    repeat (first | with_reducible (first | refine aWp_seq ?_ | refine seq_normal ?_ | refine seq_ret ?_ | refine seq_exit ?_ | refine blk_normal ?_ | refine blk_ret ?_ | refine blk_hit ?_ | refine blk_miss rfl ?_ | refine aWp_ret ?_ | refine aWp_skip ?_ | refine aWp_block ?_ | refine aWp_exit ?_ | refine end_ret ?_ | refine end_normal ?_) | ((refine rgA ?_); intro ν) | ((with_reducible apply cndT); exact rfl; (first | rfl | assumption)) | ((with_reducible apply cndF); exact rfl; (first | rfl | assumption)))
    (first | with_reducible refine end_r ?_ | with_reducible refine end_n ?_); refine en2 ?_
    rw [ht, aOfBytes_append, List.length_append, hl1, hl2, ← hbl]
end Go.Proofs.Ytjfeggkjkdbkiaa
