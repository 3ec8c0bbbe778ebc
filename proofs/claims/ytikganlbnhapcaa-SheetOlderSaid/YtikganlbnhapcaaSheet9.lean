import Derived.Test.YtikganlbnhapcaaSheet8
namespace Go.Proofs.Ytikganlbnhapcaa
open Go.RowKit
set_option linter.unusedVariables false
set_option linter.unusedSimpArgs false
set_option maxRecDepth 20000
set_option maxHeartbeats 32000000 in
theorem older_b (e q e2 q2 : Nat) (b w : List UInt8) (wh : Nat) (ct : UInt8) (he : e < 2 ^ 32) (hq : q < 2 ^ 32) (he2 : e2 < 2 ^ 32) (hq2 : q2 < 2 ^ 32) (hwh : wh < 2 ^ 64) (c1 : e = e2) (c2 : q ≠ q2) :
    Spec Try.prog 13 [.int .u32 (e : Nat), .int .u32 (q : Nat), .int .u32 (e2 : Nat), .int .u32 (q2 : Nat), .sl false b.length (aOfBytes b), .sl false w.length (aOfBytes w), .int .u64 (wh : Nat), .int .u8 (ct.toNat : Int)] (.k (.bool true)) := by
  have hB : (b.take 300).length ≤ 300 := by simp; omega
  have hW : (w.take 300).length ≤ 300 := by simp; omega
  have s1 := short15_spec b
  have s3 := short15_spec w
  generalize b.take 300 = B at *
  generalize w.take 300 = W at *
  have s2 := lay_spec false (e : Int) (q : Int) B (by omega) (by omega) (by omega)
  have s4 := lay_spec false (e2 : Int) (q2 : Int) W (by omega) (by omega) (by omega)
  have hL := layB_len e q B
  have hO := layB_len e2 q2 W
  have hN : 0 < chN (B.length + 6) 24 := chN_pos _ _ (by omega) (by omega)
  have hN2 : 0 < chN (W.length + 6) 24 := chN_pos _ _ (by omega) (by omega)
  have hNb := chN_bound (B.length + 6)
  have hNb2 := chN_bound (W.length + 6)
  obtain ⟨w1, w2, w3, w4, w5⟩ := lift_of e q B [] he hq (by omega)
  rw [List.append_nil] at w1 w2 w3 w4 w5
  have hct := ct.toNat_lt
  have older' := fun c hc hne hb hz hok => older e q e2 q2 he hq he2 hq2 B W (by omega) (by omega) c hc (bitB wh) hne hb hz hok
  have hLa := aOfBytes_len (layB e q B)
  have hOa := aOfBytes_len (layB e2 q2 W)
  generalize chN (B.length + 6) 24 = N at *
  generalize chN (W.length + 6) 24 = N2 at *
  generalize layB e q B = L at *
  generalize layB e2 q2 W = O at *
  obtain ⟨c, hc⟩ : ∃ c, c = ct.toNat % 25 := ⟨_, rfl⟩
  have hcI : (ct.toNat : Int) % 25 = (c : Int) := by omega
  refine spec_of (fun t => t == 67 || t == 69) (by kernel_rfl) Try.func13 rfl rfl (by simp [Try.ntmps13]) (by decide) ?_
  intro δ
  rw [init8]
  repeat (first | with_reducible (first | refine aWp_seq ?_ | refine seq_normal ?_ | refine seq_ret ?_ | refine seq_exit ?_ | refine blk_normal ?_ | refine blk_ret ?_ | refine blk_hit ?_ | refine blk_miss rfl ?_ | refine aWp_ret ?_ | refine aWp_skip ?_ | refine aWp_block ?_ | refine aWp_exit ?_ | refine end_ret ?_ | refine end_normal ?_) | ((refine rgA ?_); intro ν) | ((with_reducible apply cndT); exact rfl; (first | rfl | assumption)) | ((with_reducible apply cndF); exact rfl; (first | rfl | assumption)))
  refine rg fun K hK => ?_
  refine stA ?_
  (first | with_reducible refine g0 ?_ | ((with_reducible refine g1 ?_ ?_); (with_reducible apply gt_); exact rfl; exact rfl; (first | rfl | assumption | (simp [*] <;> done)))); refine scA (h2 := (s1)) (hk := ?_)
  refine stA ?_
  (first | with_reducible refine g0 ?_ | ((with_reducible refine g1 ?_ ?_); (with_reducible apply gt_); exact rfl; exact rfl; (first | rfl | assumption | (simp [*] <;> done)))); refine scA (h2 := (s2)) (hk := ?_)
  refine stA ?_
  with_reducible refine rz ?_
  refine hK _ _ _ ?_
  clear hK K; intro ν
  repeat (first | with_reducible (first | refine aWp_seq ?_ | refine seq_normal ?_ | refine seq_ret ?_ | refine seq_exit ?_ | refine blk_normal ?_ | refine blk_ret ?_ | refine blk_hit ?_ | refine blk_miss rfl ?_ | refine aWp_ret ?_ | refine aWp_skip ?_ | refine aWp_block ?_ | refine aWp_exit ?_ | refine end_ret ?_ | refine end_normal ?_) | ((refine rgA ?_); intro ν) | ((with_reducible apply cndT); exact rfl; (first | rfl | assumption)) | ((with_reducible apply cndF); exact rfl; (first | rfl | assumption)))
  refine rg fun K hK => ?_
  refine stA ?_
  (first | with_reducible refine g0 ?_ | ((with_reducible refine g1 ?_ ?_); (with_reducible apply gt_); exact rfl; exact rfl; (first | rfl | assumption | (simp [*] <;> done)))); refine scA (h2 := (s3)) (hk := ?_)
  refine stA ?_
  (first | with_reducible refine g0 ?_ | ((with_reducible refine g1 ?_ ?_); (with_reducible apply gt_); exact rfl; exact rfl; (first | rfl | assumption | (simp [*] <;> done)))); refine scA (h2 := (s4)) (hk := ?_)
  refine stA ?_
  with_reducible refine rz ?_
  refine hK _ _ _ ?_
  clear hK K; intro ν
  have hne : ¬ (e = e2 ∧ q = q2) := by omega
  repeat (first | with_reducible (first | refine aWp_seq ?_ | refine seq_normal ?_ | refine seq_ret ?_ | refine seq_exit ?_ | refine blk_normal ?_ | refine blk_ret ?_ | refine blk_hit ?_ | refine blk_miss rfl ?_ | refine aWp_ret ?_ | refine aWp_skip ?_ | refine aWp_block ?_ | refine aWp_exit ?_ | refine end_ret ?_ | refine end_normal ?_) | ((refine rgA ?_); intro ν) | ((with_reducible apply cndT); exact rfl; (first | rfl | assumption)) | ((with_reducible apply cndF); exact rfl; (first | rfl | assumption)))
  refine aWp_loopQ (fun m s => ∃ F T ν i any g, m = N - i ∧ i ≤ N ∧ s = ⟨F, T, ν, ⟨fun t => t == 67 || t == 69, δ, false⟩⟩ ∧ F 0 = .k (.int .u32 (e : Nat)) ∧ F 1 = .k (.int .u32 (q : Nat)) ∧ F 6 = .k (.int .u64 (wh : Nat)) ∧ F 7 = .k (.int .u8 (ct.toNat : Int)) ∧
    F 19 = .k (.sl true O.length (aOfBytes O)) ∧ F 21 = .os 69 g 0 L.length L.length ∧ F 22 = .k (.bool any) ∧ F 23 = .k (.int .i64 (i : Nat)) ∧ T 69 = some (g, .obj (aOfBytes (mixB L O c (bitB wh) i c))) ∧
    (any = true → ∃ j, j < i ∧ bitB wh j = true) ∧ (any = false → ∀ j, j < i → bitB wh j = false) ∧ ∀ j, j < i → bitB wh j = true → 32 * j + 32 ≤ O.length ∨ ¬ (e = 0 ∧ q = 0)) N
    ⟨_, _, _, 0, false, _, rfl, Nat.zero_le _, rfl, rfl, rfl, rfl, rfl, rfl, rfl, rfl, rfl, (by rw [mix0]; rfl), (fun h => by cases h), (fun _ j hj => by omega), (fun j hj => by omega)⟩ ?_
  intro Q1 hQ1
  rintro m s ⟨F, T, ν, i, any, g, rfl, hi, rfl, f0, f1, f6, f7, f19, f21, f22, f23, h69, a1, a2, a3⟩
  rw [has8 f0 f1 f6 f7 f19 f21 f22 f23, upd_self h69]
  repeat with_reducible (first | refine aWp_seq ?_ | refine seq_normal ?_ | refine seq_ret ?_ | refine seq_exit ?_ | refine blk_normal ?_ | refine blk_ret ?_ | refine blk_hit ?_ | refine blk_miss rfl ?_ | refine aWp_ret ?_ | refine aWp_skip ?_ | refine aWp_block ?_ | refine aWp_exit ?_ | refine end_ret ?_ | refine end_normal ?_)
  by_cases hlt : i < N
  · by_cases hb : Go.bits .and .u64 ((wh : Int) / 2 ^ (if ((i : Int) % 64).toNat ≤ 64 then ((i : Int) % 64).toNat else 64)) 1 = 0
    · have hbit : bitB wh i = false := by unfold bitB bitI; rw [decide_eq_true hb]; rfl
      repeat (first | with_reducible (first | refine aWp_seq ?_ | refine seq_normal ?_ | refine seq_ret ?_ | refine seq_exit ?_ | refine blk_normal ?_ | refine blk_ret ?_ | refine blk_hit ?_ | refine blk_miss rfl ?_ | refine aWp_ret ?_ | refine aWp_skip ?_ | refine aWp_block ?_ | refine aWp_exit ?_ | refine end_ret ?_ | refine end_normal ?_) | ((refine rgA ?_); intro ν) | ((with_reducible apply cndT); exact rfl; (first | rfl | assumption)) | ((with_reducible apply cndF); exact rfl; (first | rfl | assumption)))
      refine ⟨N - (i + 1), by omega, _, _, _, i + 1, any, g, rfl, by omega, rfl, rfl, rfl, rfl, rfl, rfl, rfl, rfl, rfl, (by rw [← mix_f hbit]; rfl), (fun h => ?_), (fun h j hj => ?_), (fun j hj hb' => ?_)⟩
      · obtain ⟨j, h1, h2⟩ := a1 h
        exact ⟨j, by omega, h2⟩
      · by_cases hji : j = i
        · rw [hji]; exact hbit
        · exact a2 h j (by omega)
      · by_cases hji : j = i
        · rw [hji, hbit] at hb'; cases hb'
        · exact a3 j (by omega) hb'
    · have hbit : bitB wh i = true := by unfold bitB bitI; rw [decide_eq_false hb]; rfl
      repeat (first | with_reducible (first | refine aWp_seq ?_ | refine seq_normal ?_ | refine seq_ret ?_ | refine seq_exit ?_ | refine blk_normal ?_ | refine blk_ret ?_ | refine blk_hit ?_ | refine blk_miss rfl ?_ | refine aWp_ret ?_ | refine aWp_skip ?_ | refine aWp_block ?_ | refine aWp_exit ?_ | refine end_ret ?_ | refine end_normal ?_) | ((refine rgA ?_); intro ν) | ((with_reducible apply cndT); exact rfl; (first | rfl | assumption)) | ((with_reducible apply cndF); exact rfl; (first | rfl | assumption)))
      have nx : ∀ (C : Nat → SV) (T' : Nat → Option (Nat × Ent)) (ν' : Nat), C 0 = .k (.int .u32 (e : Nat)) → C 1 = .k (.int .u32 (q : Nat)) → C 6 = .k (.int .u64 (wh : Nat)) → C 7 = .k (.int .u8 (ct.toNat : Int)) → C 19 = .k (.sl true O.length (aOfBytes O)) → C 21 = .os 69 g 0 L.length L.length → C 22 = .k (.bool true) → C 23 = .k (.int .i64 ((i : Int) + 1)) → T' 69 = some (g, .obj (aOfBytes (mixB L O c (bitB wh) i 32))) → (32 * i + 32 ≤ O.length ∨ ¬ (e = 0 ∧ q = 0)) →
          ∃ m, m < N - i ∧ ∃ F T ν i any g, m = N - i ∧ i ≤ N ∧ (⟨C, T', ν', ⟨fun t => t == 67 || t == 69, δ, false⟩⟩ : St) = ⟨F, T, ν, ⟨fun t => t == 67 || t == 69, δ, false⟩⟩ ∧ F 0 = .k (.int .u32 (e : Nat)) ∧ F 1 = .k (.int .u32 (q : Nat)) ∧ F 6 = .k (.int .u64 (wh : Nat)) ∧ F 7 = .k (.int .u8 (ct.toNat : Int)) ∧
            F 19 = .k (.sl true O.length (aOfBytes O)) ∧ F 21 = .os 69 g 0 L.length L.length ∧ F 22 = .k (.bool any) ∧ F 23 = .k (.int .i64 (i : Nat)) ∧ T 69 = some (g, .obj (aOfBytes (mixB L O c (bitB wh) i c))) ∧
            (any = true → ∃ j, j < i ∧ bitB wh j = true) ∧ (any = false → ∀ j, j < i → bitB wh j = false) ∧ ∀ j, j < i → bitB wh j = true → 32 * j + 32 ≤ O.length ∨ ¬ (e = 0 ∧ q = 0) := by
        intro C T' ν' d0 d1 d6 d7 d19 d21 d22 d23 dT hz
        refine ⟨N - (i + 1), by omega, C, T', ν', i + 1, true, g, rfl, by omega, rfl, d0, d1, d6, d7, d19, d21, d22, d23, (by rw [← mix_t hbit]; exact dT), (fun _ => ⟨i, by omega, hbit⟩), (fun h => by cases h), (fun j hj hb' => ?_)⟩
        by_cases hji : j = i
        · rw [hji]; exact hz
        · exact a3 j (by omega) hb'
      repeat (first | with_reducible (first | refine aWp_seq ?_ | refine seq_normal ?_ | refine seq_ret ?_ | refine seq_exit ?_ | refine blk_normal ?_ | refine blk_ret ?_ | refine blk_hit ?_ | refine blk_miss rfl ?_ | refine aWp_ret ?_ | refine aWp_skip ?_ | refine aWp_block ?_ | refine aWp_exit ?_ | refine end_ret ?_ | refine end_normal ?_) | ((refine rgA ?_); intro ν) | ((with_reducible apply cndT); exact rfl; (first | rfl | assumption)) | ((with_reducible apply cndF); exact rfl; (first | rfl | assumption)))
      refine aWp_loopQ (fun m s => ∃ F T ν k, m = 32 - k ∧ c ≤ k ∧ k ≤ 32 ∧ s = ⟨F, T, ν, ⟨fun t => t == 67 || t == 69, δ, false⟩⟩ ∧ F 0 = .k (.int .u32 (e : Nat)) ∧ F 1 = .k (.int .u32 (q : Nat)) ∧ F 6 = .k (.int .u64 (wh : Nat)) ∧ F 7 = .k (.int .u8 (ct.toNat : Int)) ∧
        F 19 = .k (.sl true O.length (aOfBytes O)) ∧ F 21 = .os 69 g 0 L.length L.length ∧ F 22 = .k (.bool true) ∧ F 23 = .k (.int .i64 (i : Nat)) ∧ F 24 = .k (.int .i64 (k : Nat)) ∧ T 69 = some (g, .obj (aOfBytes (mixB L O c (bitB wh) i k)))) (32 - c)
        ⟨_, _, _, c, rfl, Nat.le_refl _, by omega, rfl, rfl, rfl, rfl, rfl, rfl, rfl, rfl, rfl, (by show SV.k (.int .i64 ((ct.toNat : Int) % 25)) = _; rw [hcI]), rfl⟩ ?_
      clear f0 f1 f6 f7 f19 f21 f22 f23 h69
      intro Q2 hQ2
      rintro m s ⟨F, T, ν, k, rfl, hck, hk32, rfl, f0, f1, f6, f7, f19, f21, f22, f23, f24, h69⟩
      rw [has9 f0 f1 f6 f7 f19 f21 f22 f23 f24, upd_self h69]
      repeat with_reducible (first | refine aWp_seq ?_ | refine seq_normal ?_ | refine seq_ret ?_ | refine seq_exit ?_ | refine blk_normal ?_ | refine blk_ret ?_ | refine blk_hit ?_ | refine blk_miss rfl ?_ | refine aWp_ret ?_ | refine aWp_skip ?_ | refine aWp_block ?_ | refine aWp_exit ?_ | refine end_ret ?_ | refine end_normal ?_)
      by_cases hk : k < 32
      · have hp : 32 * i + k < L.length := by omega
        have hix : ((32 : Int) * (i : Int) + (k : Int)).toNat = 32 * i + k := by omega
        have hml := mix_len L O c (bitB wh) i k
        have hma := aOfBytes_len (mixB L O c (bitB wh) i k)
        have hms := mix_set (o := O) (bit := bitB wh) hck hk hp
        by_cases hO2 : 32 * i + k < O.length
        · have hld : ldAgg (.int .u8) 1 (List.drop ((32 : Int) * (i : Int) + (k : Int)).toNat (aOfBytes O)) = some (.int .u8 ((O.getD (32 * i + k) 0).toNat : Int)) := by
            rw [hix, List.drop_eq_getElem_cons (by omega), getD_at _ _ hO2]
            simp [ldAgg, aOfBytes]
          repeat (first | with_reducible (first | refine aWp_seq ?_ | refine seq_normal ?_ | refine seq_ret ?_ | refine seq_exit ?_ | refine blk_normal ?_ | refine blk_ret ?_ | refine blk_hit ?_ | refine blk_miss rfl ?_ | refine aWp_ret ?_ | refine aWp_skip ?_ | refine aWp_block ?_ | refine aWp_exit ?_ | refine end_ret ?_ | refine end_normal ?_) | ((refine rgA ?_); intro ν) | ((with_reducible apply cndT); exact rfl; (first | rfl | assumption)) | ((with_reducible apply cndF); exact rfl; (first | rfl | assumption)))
          refine ⟨32 - (k + 1), by omega, _, _, _, k + 1, rfl, by omega, by omega, rfl, rfl, rfl, rfl, rfl, rfl, rfl, rfl, rfl, rfl, ?_⟩
          rw [upd_same, hix, store_set0 _ _ (by omega), store_set _ _ _ (by rw [List.length_set]; omega), List.set_set, hms]
        · repeat (first | with_reducible (first | refine aWp_seq ?_ | refine seq_normal ?_ | refine seq_ret ?_ | refine seq_exit ?_ | refine blk_normal ?_ | refine blk_ret ?_ | refine blk_hit ?_ | refine blk_miss rfl ?_ | refine aWp_ret ?_ | refine aWp_skip ?_ | refine aWp_block ?_ | refine aWp_exit ?_ | refine end_ret ?_ | refine end_normal ?_) | ((refine rgA ?_); intro ν) | ((with_reducible apply cndT); exact rfl; (first | rfl | assumption)) | ((with_reducible apply cndF); exact rfl; (first | rfl | assumption)))
          refine ⟨32 - (k + 1), by omega, _, _, _, k + 1, rfl, by omega, by omega, rfl, rfl, rfl, rfl, rfl, rfl, rfl, rfl, rfl, rfl, ?_⟩
          have h0 : O.getD (32 * i + k) 0 = 0 := by rw [List.getD_eq_getElem?_getD, List.getElem?_eq_none (by omega)]; rfl
          rw [h0] at hms
          rw [upd_same, hix, store_set0 _ _ (by omega), hms]
      · have hk' : k = 32 := by omega
        subst hk'
        subst hQ2
        by_cases hO3 : O.length < 32 * i + 32
        · by_cases he0 : e = 0
          · by_cases hq0 : q = 0
            · subst hQ1
              repeat (first | with_reducible (first | refine aWp_seq ?_ | refine seq_normal ?_ | refine seq_ret ?_ | refine seq_exit ?_ | refine blk_normal ?_ | refine blk_ret ?_ | refine blk_hit ?_ | refine blk_miss rfl ?_ | refine aWp_ret ?_ | refine aWp_skip ?_ | refine aWp_block ?_ | refine aWp_exit ?_ | refine end_ret ?_ | refine end_normal ?_) | ((refine rgA ?_); intro ν) | ((with_reducible apply cndT); exact rfl; (first | rfl | assumption)) | ((with_reducible apply cndF); exact rfl; (first | rfl | assumption)))
              refine rg fun K hK => ?_
              refine stA ?_
              (first | with_reducible refine g0 ?_ | ((with_reducible refine g1 ?_ ?_); (with_reducible apply gt_); exact rfl; exact rfl; (first | rfl | assumption | (simp [*] <;> done)))); refine scA (h2 := (awake15_spec)) (hk := ?_)
              refine stA ?_
              with_reducible refine rz ?_
              refine hK _ _ _ ?_
              clear hK K; intro ν
              repeat (first | with_reducible (first | refine aWp_seq ?_ | refine seq_normal ?_ | refine seq_ret ?_ | refine seq_exit ?_ | refine blk_normal ?_ | refine blk_ret ?_ | refine blk_hit ?_ | refine blk_miss rfl ?_ | refine aWp_ret ?_ | refine aWp_skip ?_ | refine aWp_block ?_ | refine aWp_exit ?_ | refine end_ret ?_ | refine end_normal ?_) | ((refine rgA ?_); intro ν) | ((with_reducible apply cndT); exact rfl; (first | rfl | assumption)) | ((with_reducible apply cndF); exact rfl; (first | rfl | assumption)))
              (first | with_reducible refine end_r ?_ | with_reducible refine end_n ?_); refine en1 ?_
              rfl
            · repeat (first | with_reducible (first | refine aWp_seq ?_ | refine seq_normal ?_ | refine seq_ret ?_ | refine seq_exit ?_ | refine blk_normal ?_ | refine blk_ret ?_ | refine blk_hit ?_ | refine blk_miss rfl ?_ | refine aWp_ret ?_ | refine aWp_skip ?_ | refine aWp_block ?_ | refine aWp_exit ?_ | refine end_ret ?_ | refine end_normal ?_) | ((refine rgA ?_); intro ν) | ((with_reducible apply cndT); exact rfl; (first | rfl | assumption)) | ((with_reducible apply cndF); exact rfl; (first | rfl | assumption)))
              exact nx _ _ _ rfl rfl rfl rfl rfl rfl rfl rfl rfl (.inr (fun h => hq0 h.2))
          · repeat (first | with_reducible (first | refine aWp_seq ?_ | refine seq_normal ?_ | refine seq_ret ?_ | refine seq_exit ?_ | refine blk_normal ?_ | refine blk_ret ?_ | refine blk_hit ?_ | refine blk_miss rfl ?_ | refine aWp_ret ?_ | refine aWp_skip ?_ | refine aWp_block ?_ | refine aWp_exit ?_ | refine end_ret ?_ | refine end_normal ?_) | ((refine rgA ?_); intro ν) | ((with_reducible apply cndT); exact rfl; (first | rfl | assumption)) | ((with_reducible apply cndF); exact rfl; (first | rfl | assumption)))
            exact nx _ _ _ rfl rfl rfl rfl rfl rfl rfl rfl rfl (.inr (fun h => he0 h.1))
        · repeat (first | with_reducible (first | refine aWp_seq ?_ | refine seq_normal ?_ | refine seq_ret ?_ | refine seq_exit ?_ | refine blk_normal ?_ | refine blk_ret ?_ | refine blk_hit ?_ | refine blk_miss rfl ?_ | refine aWp_ret ?_ | refine aWp_skip ?_ | refine aWp_block ?_ | refine aWp_exit ?_ | refine end_ret ?_ | refine end_normal ?_) | ((refine rgA ?_); intro ν) | ((with_reducible apply cndT); exact rfl; (first | rfl | assumption)) | ((with_reducible apply cndF); exact rfl; (first | rfl | assumption)))
          exact nx _ _ _ rfl rfl rfl rfl rfl rfl rfl rfl rfl (.inl (by omega))
  · have hie : i = N := by omega
    subst hie
    subst hQ1
    have hml := mix_len L O c (bitB wh) i c
    have hma := aOfBytes_len (mixB L O c (bitB wh) i c)
    have s5 := lift_spec false (mixB L O c (bitB wh) i c) (by omega)
    rw [hml] at s5 hma
    rw [← List.take_of_length_le (i := L.length) (l := aOfBytes (mixB L O c (bitB wh) i c)) (by omega)] at s5
    cases any with
    | false =>
      have hXL : mixB L O c (bitB wh) i c = L := ext_getD hml fun p hp => by
        rw [hml] at hp
        rw [mix_get _ _ _ _ _ _ _ hp, if_neg]
        rintro (⟨h1, h2, _⟩ | ⟨h1, _⟩)
        · rw [a2 rfl _ h1] at h2; cases h2
        · omega
      rw [hXL] at s5 ⊢
      rw [liftR, if_pos w5] at s5
      replace s5 := s5.weak wk_lift
      repeat (first | with_reducible (first | refine aWp_seq ?_ | refine seq_normal ?_ | refine seq_ret ?_ | refine seq_exit ?_ | refine blk_normal ?_ | refine blk_ret ?_ | refine blk_hit ?_ | refine blk_miss rfl ?_ | refine aWp_ret ?_ | refine aWp_skip ?_ | refine aWp_block ?_ | refine aWp_exit ?_ | refine end_ret ?_ | refine end_normal ?_) | ((refine rgA ?_); intro ν) | ((with_reducible apply cndT); exact rfl; (first | rfl | assumption)) | ((with_reducible apply cndF); exact rfl; (first | rfl | assumption)))
      refine rg fun K hK => ?_
      refine stA ?_
      (first | with_reducible refine g0 ?_ | ((with_reducible refine g1 ?_ ?_); (with_reducible apply gt_); exact rfl; exact rfl; (first | rfl | assumption | (simp [*] <;> done)))); refine scA (h2 := (s5)) (hk := ?_)
      refine stA ?_
      with_reducible refine rz ?_
      refine hK _ _ _ ?_
      clear hK K; intro ν
      repeat (first | with_reducible (first | refine aWp_seq ?_ | refine seq_normal ?_ | refine seq_ret ?_ | refine seq_exit ?_ | refine blk_normal ?_ | refine blk_ret ?_ | refine blk_hit ?_ | refine blk_miss rfl ?_ | refine aWp_ret ?_ | refine aWp_skip ?_ | refine aWp_block ?_ | refine aWp_exit ?_ | refine end_ret ?_ | refine end_normal ?_) | ((refine rgA ?_); intro ν) | ((with_reducible apply cndT); exact rfl; (first | rfl | assumption)) | ((with_reducible apply cndF); exact rfl; (first | rfl | assumption)))
      refine rg fun K hK => ?_
      refine stA ?_
      (first | with_reducible refine g0 ?_ | ((with_reducible refine g1 ?_ ?_); (with_reducible apply gt_); exact rfl; exact rfl; (first | rfl | assumption | (simp [*] <;> done)))); refine scA (h2 := (awake15_spec)) (hk := ?_)
      refine stA ?_
      with_reducible refine rz ?_
      refine hK _ _ _ ?_
      clear hK K; intro ν
      repeat (first | with_reducible (first | refine aWp_seq ?_ | refine seq_normal ?_ | refine seq_ret ?_ | refine seq_exit ?_ | refine blk_normal ?_ | refine blk_ret ?_ | refine blk_hit ?_ | refine blk_miss rfl ?_ | refine aWp_ret ?_ | refine aWp_skip ?_ | refine aWp_block ?_ | refine aWp_exit ?_ | refine end_ret ?_ | refine end_normal ?_) | ((refine rgA ?_); intro ν) | ((with_reducible apply cndT); exact rfl; (first | rfl | assumption)) | ((with_reducible apply cndF); exact rfl; (first | rfl | assumption)))
      (first | with_reducible refine end_r ?_ | with_reducible refine end_n ?_); refine en1 ?_
      rfl
    | true =>
      have hold := older' c (by omega) hne (a1 rfl) a3
      generalize mixB L O c (bitB wh) i c = X at *
      by_cases hok : liftOk X = true
      · have hEQ := hold hok
        rw [liftR, if_pos hok] at s5
        replace s5 := s5.weak wk_lift
        by_cases hE : liftE X = (e : Int)
        · have hQ : ¬ liftQ X = (q : Int) := fun h => hEQ ⟨hE, h⟩
          repeat (first | with_reducible (first | refine aWp_seq ?_ | refine seq_normal ?_ | refine seq_ret ?_ | refine seq_exit ?_ | refine blk_normal ?_ | refine blk_ret ?_ | refine blk_hit ?_ | refine blk_miss rfl ?_ | refine aWp_ret ?_ | refine aWp_skip ?_ | refine aWp_block ?_ | refine aWp_exit ?_ | refine end_ret ?_ | refine end_normal ?_) | ((refine rgA ?_); intro ν) | ((with_reducible apply cndT); exact rfl; (first | rfl | assumption)) | ((with_reducible apply cndF); exact rfl; (first | rfl | assumption)))
          refine rg fun K hK => ?_
          refine stA ?_
          (first | with_reducible refine g0 ?_ | ((with_reducible refine g1 ?_ ?_); (with_reducible apply gt_); exact rfl; exact rfl; (first | rfl | assumption | (simp [*] <;> done)))); refine scA (h2 := (s5)) (hk := ?_)
          refine stA ?_
          with_reducible refine rz ?_
          refine hK _ _ _ ?_
          clear hK K; intro ν
          repeat (first | with_reducible (first | refine aWp_seq ?_ | refine seq_normal ?_ | refine seq_ret ?_ | refine seq_exit ?_ | refine blk_normal ?_ | refine blk_ret ?_ | refine blk_hit ?_ | refine blk_miss rfl ?_ | refine aWp_ret ?_ | refine aWp_skip ?_ | refine aWp_block ?_ | refine aWp_exit ?_ | refine end_ret ?_ | refine end_normal ?_) | ((refine rgA ?_); intro ν) | ((with_reducible apply cndT); exact rfl; (first | rfl | assumption)) | ((with_reducible apply cndF); exact rfl; (first | rfl | assumption)))
          refine rg fun K hK => ?_
          refine stA ?_
          (first | with_reducible refine g0 ?_ | ((with_reducible refine g1 ?_ ?_); (with_reducible apply gt_); exact rfl; exact rfl; (first | rfl | assumption | (simp [*] <;> done)))); refine scA (h2 := (awake15_spec)) (hk := ?_)
          refine stA ?_
          with_reducible refine rz ?_
          refine hK _ _ _ ?_
          clear hK K; intro ν
          repeat (first | with_reducible (first | refine aWp_seq ?_ | refine seq_normal ?_ | refine seq_ret ?_ | refine seq_exit ?_ | refine blk_normal ?_ | refine blk_ret ?_ | refine blk_hit ?_ | refine blk_miss rfl ?_ | refine aWp_ret ?_ | refine aWp_skip ?_ | refine aWp_block ?_ | refine aWp_exit ?_ | refine end_ret ?_ | refine end_normal ?_) | ((refine rgA ?_); intro ν) | ((with_reducible apply cndT); exact rfl; (first | rfl | assumption)) | ((with_reducible apply cndF); exact rfl; (first | rfl | assumption)))
          (first | with_reducible refine end_r ?_ | with_reducible refine end_n ?_); refine en1 ?_
          rfl
        · repeat (first | with_reducible (first | refine aWp_seq ?_ | refine seq_normal ?_ | refine seq_ret ?_ | refine seq_exit ?_ | refine blk_normal ?_ | refine blk_ret ?_ | refine blk_hit ?_ | refine blk_miss rfl ?_ | refine aWp_ret ?_ | refine aWp_skip ?_ | refine aWp_block ?_ | refine aWp_exit ?_ | refine end_ret ?_ | refine end_normal ?_) | ((refine rgA ?_); intro ν) | ((with_reducible apply cndT); exact rfl; (first | rfl | assumption)) | ((with_reducible apply cndF); exact rfl; (first | rfl | assumption)))
          refine rg fun K hK => ?_
          refine stA ?_
          (first | with_reducible refine g0 ?_ | ((with_reducible refine g1 ?_ ?_); (with_reducible apply gt_); exact rfl; exact rfl; (first | rfl | assumption | (simp [*] <;> done)))); refine scA (h2 := (s5)) (hk := ?_)
          refine stA ?_
          with_reducible refine rz ?_
          refine hK _ _ _ ?_
          clear hK K; intro ν
          repeat (first | with_reducible (first | refine aWp_seq ?_ | refine seq_normal ?_ | refine seq_ret ?_ | refine seq_exit ?_ | refine blk_normal ?_ | refine blk_ret ?_ | refine blk_hit ?_ | refine blk_miss rfl ?_ | refine aWp_ret ?_ | refine aWp_skip ?_ | refine aWp_block ?_ | refine aWp_exit ?_ | refine end_ret ?_ | refine end_normal ?_) | ((refine rgA ?_); intro ν) | ((with_reducible apply cndT); exact rfl; (first | rfl | assumption)) | ((with_reducible apply cndF); exact rfl; (first | rfl | assumption)))
          refine rg fun K hK => ?_
          refine stA ?_
          (first | with_reducible refine g0 ?_ | ((with_reducible refine g1 ?_ ?_); (with_reducible apply gt_); exact rfl; exact rfl; (first | rfl | assumption | (simp [*] <;> done)))); refine scA (h2 := (awake15_spec)) (hk := ?_)
          refine stA ?_
          with_reducible refine rz ?_
          refine hK _ _ _ ?_
          clear hK K; intro ν
          repeat (first | with_reducible (first | refine aWp_seq ?_ | refine seq_normal ?_ | refine seq_ret ?_ | refine seq_exit ?_ | refine blk_normal ?_ | refine blk_ret ?_ | refine blk_hit ?_ | refine blk_miss rfl ?_ | refine aWp_ret ?_ | refine aWp_skip ?_ | refine aWp_block ?_ | refine aWp_exit ?_ | refine end_ret ?_ | refine end_normal ?_) | ((refine rgA ?_); intro ν) | ((with_reducible apply cndT); exact rfl; (first | rfl | assumption)) | ((with_reducible apply cndF); exact rfl; (first | rfl | assumption)))
          (first | with_reducible refine end_r ?_ | with_reducible refine end_n ?_); refine en1 ?_
          rfl
      · rw [liftR, if_neg hok, liftBad] at s5
        replace s5 := s5.weak wk_lift
        repeat (first | with_reducible (first | refine aWp_seq ?_ | refine seq_normal ?_ | refine seq_ret ?_ | refine seq_exit ?_ | refine blk_normal ?_ | refine blk_ret ?_ | refine blk_hit ?_ | refine blk_miss rfl ?_ | refine aWp_ret ?_ | refine aWp_skip ?_ | refine aWp_block ?_ | refine aWp_exit ?_ | refine end_ret ?_ | refine end_normal ?_) | ((refine rgA ?_); intro ν) | ((with_reducible apply cndT); exact rfl; (first | rfl | assumption)) | ((with_reducible apply cndF); exact rfl; (first | rfl | assumption)))
        refine rg fun K hK => ?_
        refine stA ?_
        (first | with_reducible refine g0 ?_ | ((with_reducible refine g1 ?_ ?_); (with_reducible apply gt_); exact rfl; exact rfl; (first | rfl | assumption | (simp [*] <;> done)))); refine scA (h2 := (s5)) (hk := ?_)
        refine stA ?_
        with_reducible refine rz ?_
        refine hK _ _ _ ?_
        clear hK K; intro ν
        repeat (first | with_reducible (first | refine aWp_seq ?_ | refine seq_normal ?_ | refine seq_ret ?_ | refine seq_exit ?_ | refine blk_normal ?_ | refine blk_ret ?_ | refine blk_hit ?_ | refine blk_miss rfl ?_ | refine aWp_ret ?_ | refine aWp_skip ?_ | refine aWp_block ?_ | refine aWp_exit ?_ | refine end_ret ?_ | refine end_normal ?_) | ((refine rgA ?_); intro ν) | ((with_reducible apply cndT); exact rfl; (first | rfl | assumption)) | ((with_reducible apply cndF); exact rfl; (first | rfl | assumption)))
        refine rg fun K hK => ?_
        refine stA ?_
        (first | with_reducible refine g0 ?_ | ((with_reducible refine g1 ?_ ?_); (with_reducible apply gt_); exact rfl; exact rfl; (first | rfl | assumption | (simp [*] <;> done)))); refine scA (h2 := (awake15_spec)) (hk := ?_)
        refine stA ?_
        with_reducible refine rz ?_
        refine hK _ _ _ ?_
        clear hK K; intro ν
        repeat (first | with_reducible (first | refine aWp_seq ?_ | refine seq_normal ?_ | refine seq_ret ?_ | refine seq_exit ?_ | refine blk_normal ?_ | refine blk_ret ?_ | refine blk_hit ?_ | refine blk_miss rfl ?_ | refine aWp_ret ?_ | refine aWp_skip ?_ | refine aWp_block ?_ | refine aWp_exit ?_ | refine end_ret ?_ | refine end_normal ?_) | ((refine rgA ?_); intro ν) | ((with_reducible apply cndT); exact rfl; (first | rfl | assumption)) | ((with_reducible apply cndF); exact rfl; (first | rfl | assumption)))
        (first | with_reducible refine end_r ?_ | with_reducible refine end_n ?_); refine en1 ?_
        rfl
end Go.Proofs.Ytikganlbnhapcaa
