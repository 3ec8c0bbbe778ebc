import Derived.Test.YtmbnclpgldglnaaRefA5
namespace Go.Proofs.Ytmbnclpgldglnaa
open Go.RowKit
set_option linter.unusedVariables false
set_option linter.unusedSimpArgs false
set_option maxRecDepth 20000
set_option maxHeartbeats 16000000 in
theorem rdec_news {K : List UInt8} {N : Nat} {ws : List AV} {wf : Nat → List UInt8} (h : RC K N ws wf) (T B b : List UInt8) (full : Bool) (L : Nat) (hb : b.length = 16) (hN : N = 4 * L + 4) (hL : L ≤ 100) (hB : B.length = 256) :
    Spec Try.prog 49 [.cp (rcC T B N ws), .sl full 16 (aOfBytes b)] (.news 16 (aOfBytes (decB B K b (L + 1)))) := by
  have s2 := fun (x : List UInt8) (hx : x.length = 16) (r : Nat) (hr : r ≤ L) => radd_spec h T B x false r hx (by omega) (by omega)
  have hba := aOfBytes_len b
  have hBa := aOfBytes_len B
  have hq : (N : Int) / 4 - 1 = ((L : Nat) : Int) := by omega
  have hwl := h.wl
  unfold rcC at *
  have s2n := fun (x : List UInt8) (hx : x.length = 16) (r : Nat) (hr : r ≤ L) => radd_news h T B x false r hx (by omega) (by omega)
  refine spec_of_news (fun t => t == 25 || t == 1000025 || t == 23 || t == 44 || t == 91) (by kernel_rfl) Try.func49 rfl rfl (by simp [Try.ntmps49]) (by decide) ?_
  intro δ
  rw [init2]
  repeat with_reducible (first | refine aWp_seq ?_ | refine seq_normal ?_ | refine seq_ret ?_ | refine seq_exit ?_ | refine blk_normal ?_ | refine blk_ret ?_ | refine blk_hit ?_ | refine blk_miss rfl ?_ | refine aWp_ret ?_ | refine aWp_skip ?_ | refine aWp_block ?_ | refine aWp_exit ?_ | refine end_ret ?_ | refine end_normal ?_)
  refine rgA ?_
  intro ν
  repeat with_reducible (first | refine aWp_seq ?_ | refine seq_normal ?_ | refine seq_ret ?_ | refine seq_exit ?_ | refine blk_normal ?_ | refine blk_ret ?_ | refine blk_hit ?_ | refine blk_miss rfl ?_ | refine aWp_ret ?_ | refine aWp_skip ?_ | refine aWp_block ?_ | refine aWp_exit ?_ | refine end_ret ?_ | refine end_normal ?_)
  refine rgA ?_
  intro ν
  rw [hq]
  repeat (first | with_reducible (first | refine aWp_seq ?_ | refine seq_normal ?_ | refine seq_ret ?_ | refine seq_exit ?_ | refine blk_normal ?_ | refine blk_ret ?_ | refine blk_hit ?_ | refine blk_miss rfl ?_ | refine aWp_ret ?_ | refine aWp_skip ?_ | refine aWp_block ?_ | refine aWp_exit ?_ | refine end_ret ?_ | refine end_normal ?_) | ((refine rgA ?_); intro ν) | ((with_reducible apply cndT); exact rfl; (first | rfl | assumption)) | ((with_reducible apply cndF); exact rfl; (first | rfl | assumption)))
  refine aWp_loop (fun m s => ∃ F T' ν i s0, m = L - i ∧ i ≤ L ∧ s = ⟨F, T', ν, ⟨fun t => t == 25 || t == 1000025 || t == 23 || t == 44 || t == 91, δ, false⟩⟩ ∧ F 0 = .k (.cp [.sl false 256 (aOfBytes T), .sl false 256 (aOfBytes B), .sl false N ws]) ∧ F 5 = .k (.int .i64 (L : Nat)) ∧ F 6 = .k (.sl false 16 (aOfBytes (s0))) ∧ F 7 = .k (.int .i64 ((L - i : Nat) : Int)) ∧ s0 = decN B K b (L + 1) i) L ⟨_, _, _, 0, _, rfl, Nat.zero_le _, rfl, rfl, rfl, rfl, rfl, rfl⟩ ?_
  rintro m s ⟨F, T', ν, i, s0, rfl, hi, rfl, f0, f5, f6, f7, hs0⟩
  rw [has4 f0 f5 f6 f7]
  have hsl : s0.length = 16 := by rw [hs0]; exact decN_len _ _ _ _ _ hb
  have hsa := aOfBytes_len s0
  by_cases hli : i < L
  · have hnx : decN B K b (L + 1) (i + 1) = decS B K s0 (L + 1) (L - i) := by rw [hs0]; rfl
    have s3 := s2 s0 hsl (L - i) (by omega)
    have hnI : ((L - i : Nat) : Int) = (L : Int) - (i : Int) := by omega
    obtain ⟨A, hA⟩ : ∃ A, A = addK K s0 (L - i) := ⟨_, rfl⟩
    have hAl : A.length = 16 := by rw [hA]; exact addK_len _ _ _
    obtain ⟨M, hM⟩ : ∃ M, M = if L - i < L then 3 else 0 := ⟨_, rfl⟩
    have hdS : decS B K s0 (L + 1) (L - i) = shiftB B (mixI A M) (-1) := by
      rw [decS, ← hA, hM]
      by_cases q : L - i < L
      · rw [if_pos (by omega), if_pos q, mixI_three A hAl]
      · rw [if_neg (by omega), if_neg q]; rfl
    rw [hdS] at hnx
    rw [← hA] at s3
    have Hnx := Lib.hid hnx
    have hM3 : M ≤ 3 := by rw [hM]; split <;> omega
    have hMi : (M = 3 ∧ L - i < L) ∨ (M = 0 ∧ ¬ L - i < L) := by
      rw [hM]; split
      · exact .inl ⟨rfl, by omega⟩
      · exact .inr ⟨rfl, by omega⟩
    clear hnx hs0 hdS hA hM
    repeat with_reducible (first | refine aWp_seq ?_ | refine seq_normal ?_ | refine seq_ret ?_ | refine seq_exit ?_ | refine blk_normal ?_ | refine blk_ret ?_ | refine blk_hit ?_ | refine blk_miss rfl ?_ | refine aWp_ret ?_ | refine aWp_skip ?_ | refine aWp_block ?_ | refine aWp_exit ?_ | refine end_ret ?_ | refine end_normal ?_)
    refine rgA ?_
    intro ν
    repeat with_reducible (first | refine aWp_seq ?_ | refine seq_normal ?_ | refine seq_ret ?_ | refine seq_exit ?_ | refine blk_normal ?_ | refine blk_ret ?_ | refine blk_hit ?_ | refine blk_miss rfl ?_ | refine aWp_ret ?_ | refine aWp_skip ?_ | refine aWp_block ?_ | refine aWp_exit ?_ | refine end_ret ?_ | refine end_normal ?_)
    (with_reducible apply cndT); exact rfl; (first | rfl | assumption | (simp [*] <;> done))
    repeat with_reducible (first | refine aWp_seq ?_ | refine seq_normal ?_ | refine seq_ret ?_ | refine seq_exit ?_ | refine blk_normal ?_ | refine blk_ret ?_ | refine blk_hit ?_ | refine blk_miss rfl ?_ | refine aWp_ret ?_ | refine aWp_skip ?_ | refine aWp_block ?_ | refine aWp_exit ?_ | refine end_ret ?_ | refine end_normal ?_)
    refine rg fun K hK => ?_
    refine stA ?_
    (first | with_reducible refine g0 ?_ | ((with_reducible refine g1 ?_ ?_); (with_reducible apply gt_); exact rfl; exact rfl; (first | rfl | assumption | (simp [*] <;> done)))); refine scA (h2 := (s3)) (hk := ?_)
    refine stA ?_
    with_reducible refine rz ?_
    refine hK _ _ _ ?_
    clear hK K; intro ν
    repeat (first | with_reducible (first | refine aWp_seq ?_ | refine seq_normal ?_ | refine seq_ret ?_ | refine seq_exit ?_ | refine blk_normal ?_ | refine blk_ret ?_ | refine blk_hit ?_ | refine blk_miss rfl ?_ | refine aWp_ret ?_ | refine aWp_skip ?_ | refine aWp_block ?_ | refine aWp_exit ?_ | refine end_ret ?_ | refine end_normal ?_) | ((refine rgA ?_); intro ν) | ((with_reducible apply cndT); exact rfl; (first | rfl | assumption)) | ((with_reducible apply cndF); exact rfl; (first | rfl | assumption)))
    refine aWp_loop (fun m s => ∃ F T' ν k, m = M - k ∧ k ≤ M ∧ s = ⟨F, T', ν, ⟨fun t => t == 25 || t == 1000025 || t == 23 || t == 44 || t == 91, δ, false⟩⟩ ∧ F 0 = .k (.cp [.sl false 256 (aOfBytes T), .sl false 256 (aOfBytes B), .sl false N ws]) ∧ F 5 = .k (.int .i64 (L : Nat)) ∧ F 6 = .k (.sl false 16 (aOfBytes (mixI A k))) ∧ F 7 = .k (.int .i64 ((L - i : Nat) : Int)) ∧ F 8 = .k (.int .i64 (k : Nat))) M ⟨_, _, _, 0, rfl, Nat.zero_le _, rfl, rfl, rfl, rfl, rfl, rfl⟩ ?_
    rintro m s ⟨F, T', ν, k, rfl, hk, rfl, f0, f5, f6, f7, f8⟩
    rw [has5 f0 f5 f6 f7 f8]
    have hil := mixI_len A hAl k
    have hia := aOfBytes_len (mixI A k)
    by_cases hlk : k < M
    · as_aux_lemma =>
        have hk3 : k < 3 := by omega
        have hnl : L - i < L := by omega
        have hin : mixI A (k + 1) = (List.range 16).map (mixF (mixI A k) [2, 3, 1, 1]) := rfl
        rw [← setN_all _ zl16 16 rfl] at hin
        have Hin := Lib.hid hin
        clear hin
        generalize mixI A k = S at *
        repeat (first | with_reducible (first | refine aWp_seq ?_ | refine seq_normal ?_ | refine seq_ret ?_ | refine seq_exit ?_ | refine blk_normal ?_ | refine blk_ret ?_ | refine blk_hit ?_ | refine blk_miss rfl ?_ | refine aWp_ret ?_ | refine aWp_skip ?_ | refine aWp_block ?_ | refine aWp_exit ?_ | refine end_ret ?_ | refine end_normal ?_) | ((refine rgA ?_); intro ν) | ((with_reducible apply cndT); exact rfl; (first | rfl | assumption)) | ((with_reducible apply cndF); exact rfl; (first | rfl | assumption)))
        refine aWp_loop (fun m s => ∃ F T' ν j g, m = 16 - j ∧ j ≤ 16 ∧ s = ⟨F, T', ν, ⟨fun t => t == 25 || t == 1000025 || t == 23 || t == 44 || t == 91, δ, false⟩⟩ ∧ F 0 = .k (.cp [.sl false 256 (aOfBytes T), .sl false 256 (aOfBytes B), .sl false N ws]) ∧ F 5 = .k (.int .i64 (L : Nat)) ∧ F 6 = .k (.sl false 16 (aOfBytes (S))) ∧ F 7 = .k (.int .i64 ((L - i : Nat) : Int)) ∧ F 8 = .k (.int .i64 (k : Nat)) ∧ F 9 = .os 44 g 0 16 16 ∧ F 10 = .k (.int .i64 (j : Nat)) ∧ T' 44 = some (g, .obj (aOfBytes (setN (mixF S [2, 3, 1, 1]) zl16 j)))) 16 ⟨_, _, _, 0, _, rfl, Nat.zero_le _, rfl, rfl, rfl, rfl, rfl, rfl, rfl, rfl, by rw [zl16_av]; rfl⟩ ?_
        rintro m s ⟨F, T', ν, j, g, rfl, hj, rfl, f0, f5, f6, f7, f8, f9, f10, t44⟩
        rw [has7 f0 f5 f6 f7 f8 f9 f10, has1 t44]
        have hzl := setN_len (mixF S [2, 3, 1, 1]) zl16 j
        have hz16 : zl16.length = 16 := rfl
        have hza := aOfBytes_len (setN (mixF S [2, 3, 1, 1]) zl16 j)
        by_cases hlj : j < 16
        · as_aux_lemma =>
            have hst := set_b (setN (mixF S [2, 3, 1, 1]) zl16 j) (mixF S [2, 3, 1, 1] j) j (by omega)
            change _ = aOfBytes (setN (mixF S [2, 3, 1, 1]) zl16 (j + 1)) at hst
            rw [mixF_any, UInt8.zero_xor] at hst
            have l0 := ld_b S j (by omega)
            have l1 := ld_b S (j / 4 * 4 + (j % 4 + 1) % 4) (by omega)
            have l2 := ld_b S (j / 4 * 4 + (j % 4 + 2) % 4) (by omega)
            have l3 := ld_b S (j / 4 * 4 + (j % 4 + 3) % 4) (by omega)
            generalize S.getD j 0 = a at *
            generalize S.getD (j / 4 * 4 + (j % 4 + 1) % 4) 0 = bb at *
            generalize S.getD (j / 4 * 4 + (j % 4 + 2) % 4) 0 = cc at *
            generalize S.getD (j / 4 * 4 + (j % 4 + 3) % 4) 0 = dd at *
            have e1 : ((j : Int) / 4 * 4 + ((j : Int) % 4 + 1) % 4).toNat = j / 4 * 4 + (j % 4 + 1) % 4 := by omega
            have e2 : ((j : Int) / 4 * 4 + ((j : Int) % 4 + 2) % 4).toNat = j / 4 * 4 + (j % 4 + 2) % 4 := by omega
            have e3 : ((j : Int) / 4 * 4 + ((j : Int) % 4 + 3) % 4).toNat = j / 4 * 4 + (j % 4 + 3) % 4 := by omega
            rw [← e1] at l1
            rw [← e2] at l2
            rw [← e3] at l3
            clear e1 e2 e3
            have M2 : ∀ x : UInt8, Spec Try.prog 51 [.int .u8 2, .int .u8 (x.toNat : Int)] (.k (.int .u8 ((mulB x 2).toNat : Int))) := fun x => by rw [mulB_comm]; exact rmul_spec 2 x
            have M3 : ∀ x : UInt8, Spec Try.prog 51 [.int .u8 3, .int .u8 (x.toNat : Int)] (.k (.int .u8 ((mulB x 3).toNat : Int))) := fun x => by rw [mulB_comm]; exact rmul_spec 3 x
            repeat (first | with_reducible (first | refine aWp_seq ?_ | refine seq_normal ?_ | refine seq_ret ?_ | refine seq_exit ?_ | refine blk_normal ?_ | refine blk_ret ?_ | refine blk_hit ?_ | refine blk_miss rfl ?_ | refine aWp_ret ?_ | refine aWp_skip ?_ | refine aWp_block ?_ | refine aWp_exit ?_ | refine end_ret ?_ | refine end_normal ?_) | ((refine rgA ?_); intro ν) | ((with_reducible apply cndT); exact rfl; (first | rfl | assumption)) | ((with_reducible apply cndF); exact rfl; (first | rfl | assumption)))
            refine rgx [(36,[44],[44])] (by kernel_rfl) fun K hK => ?_
            refine stxA ?_
            ((first | ((with_reducible refine x0 ?_ ?_); exact rfl) | ((with_reducible refine x1 ?_ ?_ ?_); exact rfl; (with_reducible apply gt_); exact rfl; exact rfl; (first | rfl | assumption | (simp [*] <;> done)))); refine xcA (h2 := (M2 a)) (hk := ?_))
            refine stxA ?_
            ((first | ((with_reducible refine x0 ?_ ?_); exact rfl) | ((with_reducible refine x1 ?_ ?_ ?_); exact rfl; (with_reducible apply gt_); exact rfl; exact rfl; (first | rfl | assumption | (simp [*] <;> done)))); refine xcA (h2 := (M3 bb)) (hk := ?_))
            refine stxA ?_
            with_reducible refine xz ?_
            refine hK _ _ _ ?_
            clear hK K; intro ν
            repeat (first | with_reducible (first | refine aWp_seq ?_ | refine seq_normal ?_ | refine seq_ret ?_ | refine seq_exit ?_ | refine blk_normal ?_ | refine blk_ret ?_ | refine blk_hit ?_ | refine blk_miss rfl ?_ | refine aWp_ret ?_ | refine aWp_skip ?_ | refine aWp_block ?_ | refine aWp_exit ?_ | refine end_ret ?_ | refine end_normal ?_) | ((refine rgA ?_); intro ν) | ((with_reducible apply cndT); exact rfl; (first | rfl | assumption)) | ((with_reducible apply cndF); exact rfl; (first | rfl | assumption)))
            refine ⟨16 - (j + 1), by omega, _, _, _, j + 1, _, rfl, by omega, rfl, rfl, rfl, rfl, rfl, rfl, rfl, ?_, ?_⟩
            · show (SV.k (.int .i64 ((j : Int) + 1)) : SV) = _
              rw [Int.natCast_succ]
            · rw [upd_same]
              exact congrArg (fun q => some (g, Ent.obj q)) hst
        · have hje : j = 16 := by omega
          subst hje
          rw [← Hin.out] at hza ⊢
          have hil2 := mixI_len A hAl (k + 1)
          clear t44 hzl Hin
          generalize hS2 : mixI A (k + 1) = S2 at *
          repeat with_reducible (first | refine aWp_seq ?_ | refine seq_normal ?_ | refine seq_ret ?_ | refine seq_exit ?_ | refine blk_normal ?_ | refine blk_ret ?_ | refine blk_hit ?_ | refine blk_miss rfl ?_ | refine aWp_ret ?_ | refine aWp_skip ?_ | refine aWp_block ?_ | refine aWp_exit ?_ | refine end_ret ?_ | refine end_normal ?_)
          refine rgA ?_
          intro ν
          repeat with_reducible (first | refine aWp_seq ?_ | refine seq_normal ?_ | refine seq_ret ?_ | refine seq_exit ?_ | refine blk_normal ?_ | refine blk_ret ?_ | refine blk_hit ?_ | refine blk_miss rfl ?_ | refine aWp_ret ?_ | refine aWp_skip ?_ | refine aWp_block ?_ | refine aWp_exit ?_ | refine end_ret ?_ | refine end_normal ?_)
          (with_reducible apply cndF); exact rfl; (first | rfl | assumption | (simp [*] <;> done))
          repeat with_reducible (first | refine aWp_seq ?_ | refine seq_normal ?_ | refine seq_ret ?_ | refine seq_exit ?_ | refine blk_normal ?_ | refine blk_ret ?_ | refine blk_hit ?_ | refine blk_miss rfl ?_ | refine aWp_ret ?_ | refine aWp_skip ?_ | refine aWp_block ?_ | refine aWp_exit ?_ | refine end_ret ?_ | refine end_normal ?_)
          refine rg fun K hK => ?_
          refine stA ?_
          refine rzs (t := 6) rfl rfl ?_
          refine hK _ _ _ ?_
          clear hK K; intro ν
          repeat (first | with_reducible (first | refine aWp_seq ?_ | refine seq_normal ?_ | refine seq_ret ?_ | refine seq_exit ?_ | refine blk_normal ?_ | refine blk_ret ?_ | refine blk_hit ?_ | refine blk_miss rfl ?_ | refine aWp_ret ?_ | refine aWp_skip ?_ | refine aWp_block ?_ | refine aWp_exit ?_ | refine end_ret ?_ | refine end_normal ?_) | ((refine rgA ?_); intro ν) | ((with_reducible apply cndT); exact rfl; (first | rfl | assumption)) | ((with_reducible apply cndF); exact rfl; (first | rfl | assumption)))
          refine ⟨M - (k + 1), by omega, _, _, _, k + 1, rfl, by omega, rfl, rfl, rfl, by rw [hS2]; rfl, rfl, ?_⟩
          show (SV.k (.int .i64 ((k : Int) + 1)) : SV) = _
          rw [Int.natCast_succ]
    · have hke : k = M := by omega
      subst hke
      obtain ⟨S, hS⟩ : ∃ S, S = mixI A k := ⟨_, rfl⟩
      have hpa := pmN_all B S (by rw [hS]; exact hil)
      rw [← hS] at Hnx f6 hil hia ⊢
      have hnc : ¬ (k < 3 ∧ L - i < L) := by omega
      clear hS
      rcases hMi with ⟨rfl, hm⟩ | ⟨rfl, hm⟩
      · skip
        as_aux_lemma =>
          repeat (first | with_reducible (first | refine aWp_seq ?_ | refine seq_normal ?_ | refine seq_ret ?_ | refine seq_exit ?_ | refine blk_normal ?_ | refine blk_ret ?_ | refine blk_hit ?_ | refine blk_miss rfl ?_ | refine aWp_ret ?_ | refine aWp_skip ?_ | refine aWp_block ?_ | refine aWp_exit ?_ | refine end_ret ?_ | refine end_normal ?_) | ((refine rgA ?_); intro ν) | ((with_reducible apply cndT); exact rfl; (first | rfl | assumption)) | ((with_reducible apply cndF); exact rfl; (first | rfl | assumption)))
          refine aWp_loop (fun m s => ∃ F T' ν c g, m = 4 - c ∧ c ≤ 4 ∧ s = ⟨F, T', ν, ⟨fun t => t == 25 || t == 1000025 || t == 23 || t == 44 || t == 91, δ, false⟩⟩ ∧ F 0 = .k (.cp [.sl false 256 (aOfBytes T), .sl false 256 (aOfBytes B), .sl false N ws]) ∧ F 5 = .k (.int .i64 (L : Nat)) ∧ F 6 = .k (.sl false 16 (aOfBytes (S))) ∧ F 7 = .k (.int .i64 ((L - i : Nat) : Int)) ∧ F 13 = .os 91 g 0 16 16 ∧ F 14 = .k (.int .i64 (c : Nat)) ∧ T' 91 = some (g, .obj (aOfBytes (pmN B S (4 * c))))) 4 ⟨_, _, _, 0, _, rfl, Nat.zero_le _, rfl, rfl, rfl, rfl, rfl, rfl, rfl, by rw [zl16_av]; rfl⟩ ?_
          rintro m s ⟨F, T', ν, c, g, rfl, hc, rfl, f0, f5, f6, f7, f13, f14, t91⟩
          rw [has6 f0 f5 f6 f7 f13 f14, has1 t91]
          by_cases hlc : c < 4
          · repeat (first | with_reducible (first | refine aWp_seq ?_ | refine seq_normal ?_ | refine seq_ret ?_ | refine seq_exit ?_ | refine blk_normal ?_ | refine blk_ret ?_ | refine blk_hit ?_ | refine blk_miss rfl ?_ | refine aWp_ret ?_ | refine aWp_skip ?_ | refine aWp_block ?_ | refine aWp_exit ?_ | refine end_ret ?_ | refine end_normal ?_) | ((refine rgA ?_); intro ν) | ((with_reducible apply cndT); exact rfl; (first | rfl | assumption)) | ((with_reducible apply cndF); exact rfl; (first | rfl | assumption)))
            refine aWp_loop (fun m s => ∃ F T' ν r g, m = 4 - r ∧ r ≤ 4 ∧ s = ⟨F, T', ν, ⟨fun t => t == 25 || t == 1000025 || t == 23 || t == 44 || t == 91, δ, false⟩⟩ ∧ F 0 = .k (.cp [.sl false 256 (aOfBytes T), .sl false 256 (aOfBytes B), .sl false N ws]) ∧ F 5 = .k (.int .i64 (L : Nat)) ∧ F 6 = .k (.sl false 16 (aOfBytes (S))) ∧ F 7 = .k (.int .i64 ((L - i : Nat) : Int)) ∧ F 13 = .os 91 g 0 16 16 ∧ F 14 = .k (.int .i64 (c : Nat)) ∧ F 15 = .k (.int .i64 (r : Nat)) ∧ T' 91 = some (g, .obj (aOfBytes (pmN B S (4 * c + r))))) 4 ⟨_, _, _, 0, _, rfl, Nat.zero_le _, rfl, rfl, rfl, rfl, rfl, rfl, rfl, rfl, rfl⟩ ?_
            rintro m s ⟨F, T', ν, r, g, rfl, hr, rfl, f0, f5, f6, f7, f13, f14, f15, t91⟩
            rw [has7 f0 f5 f6 f7 f13 f14 f15, has1 t91]
            have hzl := pmN_len B S (4 * c + r)
            have hza := aOfBytes_len (pmN B S (4 * c + r))
            by_cases hlr : r < 4
            · have e1 : (4 * (((c : Int) + (r : Int)) % 4) + (r : Int)).toNat = pmP (4 * c + r) := by
                have q1 : (4 * c + r) / 4 = c := by omega
                have q2 : (4 * c + r) % 4 = r := by omega
                unfold pmP; rw [q1, q2, show ((c : Int) + (r : Int)) % 4 = (((c + r) % 4 : Nat) : Int) by omega]; omega
              have hpp : pmP (4 * c + r) < 16 := by unfold pmP; omega
              have l1 := ld_b S (4 * c + r) (by omega)
              have hst := set_b (pmN B S (4 * c + r)) (pmF B S (4 * c + r)) (pmP (4 * c + r)) (by omega)
              change _ = aOfBytes (pmN B S (4 * c + (r + 1))) at hst
              rw [pmF] at hst
              generalize S.getD (4 * c + r) 0 = y at *
              have hy := y.toNat_lt
              have l2 := ld_b B y.toNat (by omega)
              have e2 : (4 * (c : Int) + (r : Int)).toNat = 4 * c + r := by omega
              rw [← e2] at l1
              rw [← e1] at hst
              clear e2
              repeat (first | with_reducible (first | refine aWp_seq ?_ | refine seq_normal ?_ | refine seq_ret ?_ | refine seq_exit ?_ | refine blk_normal ?_ | refine blk_ret ?_ | refine blk_hit ?_ | refine blk_miss rfl ?_ | refine aWp_ret ?_ | refine aWp_skip ?_ | refine aWp_block ?_ | refine aWp_exit ?_ | refine end_ret ?_ | refine end_normal ?_) | ((refine rgA ?_); intro ν) | ((with_reducible apply cndT); exact rfl; (first | rfl | assumption)) | ((with_reducible apply cndF); exact rfl; (first | rfl | assumption)))
              refine rgxA [(23,[91],[91])] ?_
              intro ν
              repeat (first | with_reducible (first | refine aWp_seq ?_ | refine seq_normal ?_ | refine seq_ret ?_ | refine seq_exit ?_ | refine blk_normal ?_ | refine blk_ret ?_ | refine blk_hit ?_ | refine blk_miss rfl ?_ | refine aWp_ret ?_ | refine aWp_skip ?_ | refine aWp_block ?_ | refine aWp_exit ?_ | refine end_ret ?_ | refine end_normal ?_) | ((refine rgA ?_); intro ν) | ((with_reducible apply cndT); exact rfl; (first | rfl | assumption)) | ((with_reducible apply cndF); exact rfl; (first | rfl | assumption)))
              refine ⟨4 - (r + 1), by omega, _, _, _, r + 1, _, rfl, by omega, rfl, rfl, rfl, rfl, rfl, rfl, rfl, ?_, ?_⟩
              · show (SV.k (.int .i64 ((r : Int) + 1)) : SV) = _
                rw [Int.natCast_succ]
              · rw [upd_same]
                exact congrArg (fun q => some (g, Ent.obj q)) hst
            · have hre : r = 4 := by omega
              subst hre
              repeat (first | with_reducible (first | refine aWp_seq ?_ | refine seq_normal ?_ | refine seq_ret ?_ | refine seq_exit ?_ | refine blk_normal ?_ | refine blk_ret ?_ | refine blk_hit ?_ | refine blk_miss rfl ?_ | refine aWp_ret ?_ | refine aWp_skip ?_ | refine aWp_block ?_ | refine aWp_exit ?_ | refine end_ret ?_ | refine end_normal ?_) | ((refine rgA ?_); intro ν) | ((with_reducible apply cndT); exact rfl; (first | rfl | assumption)) | ((with_reducible apply cndF); exact rfl; (first | rfl | assumption)))
              refine ⟨4 - (c + 1), by omega, _, _, _, c + 1, _, rfl, by omega, rfl, rfl, rfl, rfl, rfl, rfl, ?_, rfl⟩
              show (SV.k (.int .i64 ((c : Int) + 1)) : SV) = _
              rw [Int.natCast_succ]
          · have hce : c = 4 := by omega
            subst hce
            have hzl := pmN_len B S (4 * 4)
            have hza := aOfBytes_len (pmN B S (4 * 4))
            change pmN B S (4 * 4) = _ at hpa
            rw [hpa] at hzl hza ⊢
            rw [← Hnx.out] at hzl hza ⊢
            clear t91 hpa Hnx
            generalize hX : decN B K b (L + 1) (i + 1) = X at *
            repeat with_reducible (first | refine aWp_seq ?_ | refine seq_normal ?_ | refine seq_ret ?_ | refine seq_exit ?_ | refine blk_normal ?_ | refine blk_ret ?_ | refine blk_hit ?_ | refine blk_miss rfl ?_ | refine aWp_ret ?_ | refine aWp_skip ?_ | refine aWp_block ?_ | refine aWp_exit ?_ | refine end_ret ?_ | refine end_normal ?_)
            refine rgA ?_
            intro ν
            repeat with_reducible (first | refine aWp_seq ?_ | refine seq_normal ?_ | refine seq_ret ?_ | refine seq_exit ?_ | refine blk_normal ?_ | refine blk_ret ?_ | refine blk_hit ?_ | refine blk_miss rfl ?_ | refine aWp_ret ?_ | refine aWp_skip ?_ | refine aWp_block ?_ | refine aWp_exit ?_ | refine end_ret ?_ | refine end_normal ?_)
            (with_reducible apply cndF); exact rfl; (first | rfl | assumption | (simp [*] <;> done))
            repeat with_reducible (first | refine aWp_seq ?_ | refine seq_normal ?_ | refine seq_ret ?_ | refine seq_exit ?_ | refine blk_normal ?_ | refine blk_ret ?_ | refine blk_hit ?_ | refine blk_miss rfl ?_ | refine aWp_ret ?_ | refine aWp_skip ?_ | refine aWp_block ?_ | refine aWp_exit ?_ | refine end_ret ?_ | refine end_normal ?_)
            refine rg fun K hK => ?_
            refine stA ?_
            refine rzs (t := 6) rfl rfl ?_
            refine hK _ _ _ ?_
            clear hK K; intro ν
            repeat (first | with_reducible (first | refine aWp_seq ?_ | refine seq_normal ?_ | refine seq_ret ?_ | refine seq_exit ?_ | refine blk_normal ?_ | refine blk_ret ?_ | refine blk_hit ?_ | refine blk_miss rfl ?_ | refine aWp_ret ?_ | refine aWp_skip ?_ | refine aWp_block ?_ | refine aWp_exit ?_ | refine end_ret ?_ | refine end_normal ?_) | ((refine rgA ?_); intro ν) | ((with_reducible apply cndT); exact rfl; (first | rfl | assumption)) | ((with_reducible apply cndF); exact rfl; (first | rfl | assumption)))
            refine ⟨L - (i + 1), by omega, _, _, _, i + 1, _, rfl, by omega, rfl, rfl, rfl, rfl, ?_, hX.symm⟩
            show (SV.k (.int .i64 (((L - i : Nat) : Int) - 1)) : SV) = _
            rw [show ((L - i : Nat) : Int) - 1 = ((L - (i + 1) : Nat) : Int) by omega]
      · skip
        as_aux_lemma =>
          repeat (first | with_reducible (first | refine aWp_seq ?_ | refine seq_normal ?_ | refine seq_ret ?_ | refine seq_exit ?_ | refine blk_normal ?_ | refine blk_ret ?_ | refine blk_hit ?_ | refine blk_miss rfl ?_ | refine aWp_ret ?_ | refine aWp_skip ?_ | refine aWp_block ?_ | refine aWp_exit ?_ | refine end_ret ?_ | refine end_normal ?_) | ((refine rgA ?_); intro ν) | ((with_reducible apply cndT); exact rfl; (first | rfl | assumption)) | ((with_reducible apply cndF); exact rfl; (first | rfl | assumption)))
          refine aWp_loop (fun m s => ∃ F T' ν c g, m = 4 - c ∧ c ≤ 4 ∧ s = ⟨F, T', ν, ⟨fun t => t == 25 || t == 1000025 || t == 23 || t == 44 || t == 91, δ, false⟩⟩ ∧ F 0 = .k (.cp [.sl false 256 (aOfBytes T), .sl false 256 (aOfBytes B), .sl false N ws]) ∧ F 5 = .k (.int .i64 (L : Nat)) ∧ F 6 = .k (.sl false 16 (aOfBytes (S))) ∧ F 7 = .k (.int .i64 ((L - i : Nat) : Int)) ∧ F 13 = .os 91 g 0 16 16 ∧ F 14 = .k (.int .i64 (c : Nat)) ∧ T' 91 = some (g, .obj (aOfBytes (pmN B S (4 * c))))) 4 ⟨_, _, _, 0, _, rfl, Nat.zero_le _, rfl, rfl, rfl, rfl, rfl, rfl, rfl, by rw [zl16_av]; rfl⟩ ?_
          rintro m s ⟨F, T', ν, c, g, rfl, hc, rfl, f0, f5, f6, f7, f13, f14, t91⟩
          rw [has6 f0 f5 f6 f7 f13 f14, has1 t91]
          by_cases hlc : c < 4
          · repeat (first | with_reducible (first | refine aWp_seq ?_ | refine seq_normal ?_ | refine seq_ret ?_ | refine seq_exit ?_ | refine blk_normal ?_ | refine blk_ret ?_ | refine blk_hit ?_ | refine blk_miss rfl ?_ | refine aWp_ret ?_ | refine aWp_skip ?_ | refine aWp_block ?_ | refine aWp_exit ?_ | refine end_ret ?_ | refine end_normal ?_) | ((refine rgA ?_); intro ν) | ((with_reducible apply cndT); exact rfl; (first | rfl | assumption)) | ((with_reducible apply cndF); exact rfl; (first | rfl | assumption)))
            refine aWp_loop (fun m s => ∃ F T' ν r g, m = 4 - r ∧ r ≤ 4 ∧ s = ⟨F, T', ν, ⟨fun t => t == 25 || t == 1000025 || t == 23 || t == 44 || t == 91, δ, false⟩⟩ ∧ F 0 = .k (.cp [.sl false 256 (aOfBytes T), .sl false 256 (aOfBytes B), .sl false N ws]) ∧ F 5 = .k (.int .i64 (L : Nat)) ∧ F 6 = .k (.sl false 16 (aOfBytes (S))) ∧ F 7 = .k (.int .i64 ((L - i : Nat) : Int)) ∧ F 13 = .os 91 g 0 16 16 ∧ F 14 = .k (.int .i64 (c : Nat)) ∧ F 15 = .k (.int .i64 (r : Nat)) ∧ T' 91 = some (g, .obj (aOfBytes (pmN B S (4 * c + r))))) 4 ⟨_, _, _, 0, _, rfl, Nat.zero_le _, rfl, rfl, rfl, rfl, rfl, rfl, rfl, rfl, rfl⟩ ?_
            rintro m s ⟨F, T', ν, r, g, rfl, hr, rfl, f0, f5, f6, f7, f13, f14, f15, t91⟩
            rw [has7 f0 f5 f6 f7 f13 f14 f15, has1 t91]
            have hzl := pmN_len B S (4 * c + r)
            have hza := aOfBytes_len (pmN B S (4 * c + r))
            by_cases hlr : r < 4
            · have e1 : (4 * (((c : Int) + (r : Int)) % 4) + (r : Int)).toNat = pmP (4 * c + r) := by
                have q1 : (4 * c + r) / 4 = c := by omega
                have q2 : (4 * c + r) % 4 = r := by omega
                unfold pmP; rw [q1, q2, show ((c : Int) + (r : Int)) % 4 = (((c + r) % 4 : Nat) : Int) by omega]; omega
              have hpp : pmP (4 * c + r) < 16 := by unfold pmP; omega
              have l1 := ld_b S (4 * c + r) (by omega)
              have hst := set_b (pmN B S (4 * c + r)) (pmF B S (4 * c + r)) (pmP (4 * c + r)) (by omega)
              change _ = aOfBytes (pmN B S (4 * c + (r + 1))) at hst
              rw [pmF] at hst
              generalize S.getD (4 * c + r) 0 = y at *
              have hy := y.toNat_lt
              have l2 := ld_b B y.toNat (by omega)
              have e2 : (4 * (c : Int) + (r : Int)).toNat = 4 * c + r := by omega
              rw [← e2] at l1
              rw [← e1] at hst
              clear e2
              repeat (first | with_reducible (first | refine aWp_seq ?_ | refine seq_normal ?_ | refine seq_ret ?_ | refine seq_exit ?_ | refine blk_normal ?_ | refine blk_ret ?_ | refine blk_hit ?_ | refine blk_miss rfl ?_ | refine aWp_ret ?_ | refine aWp_skip ?_ | refine aWp_block ?_ | refine aWp_exit ?_ | refine end_ret ?_ | refine end_normal ?_) | ((refine rgA ?_); intro ν) | ((with_reducible apply cndT); exact rfl; (first | rfl | assumption)) | ((with_reducible apply cndF); exact rfl; (first | rfl | assumption)))
              refine rgxA [(23,[91],[91])] ?_
              intro ν
              repeat (first | with_reducible (first | refine aWp_seq ?_ | refine seq_normal ?_ | refine seq_ret ?_ | refine seq_exit ?_ | refine blk_normal ?_ | refine blk_ret ?_ | refine blk_hit ?_ | refine blk_miss rfl ?_ | refine aWp_ret ?_ | refine aWp_skip ?_ | refine aWp_block ?_ | refine aWp_exit ?_ | refine end_ret ?_ | refine end_normal ?_) | ((refine rgA ?_); intro ν) | ((with_reducible apply cndT); exact rfl; (first | rfl | assumption)) | ((with_reducible apply cndF); exact rfl; (first | rfl | assumption)))
              refine ⟨4 - (r + 1), by omega, _, _, _, r + 1, _, rfl, by omega, rfl, rfl, rfl, rfl, rfl, rfl, rfl, ?_, ?_⟩
              · show (SV.k (.int .i64 ((r : Int) + 1)) : SV) = _
                rw [Int.natCast_succ]
              · rw [upd_same]
                exact congrArg (fun q => some (g, Ent.obj q)) hst
            · have hre : r = 4 := by omega
              subst hre
              repeat (first | with_reducible (first | refine aWp_seq ?_ | refine seq_normal ?_ | refine seq_ret ?_ | refine seq_exit ?_ | refine blk_normal ?_ | refine blk_ret ?_ | refine blk_hit ?_ | refine blk_miss rfl ?_ | refine aWp_ret ?_ | refine aWp_skip ?_ | refine aWp_block ?_ | refine aWp_exit ?_ | refine end_ret ?_ | refine end_normal ?_) | ((refine rgA ?_); intro ν) | ((with_reducible apply cndT); exact rfl; (first | rfl | assumption)) | ((with_reducible apply cndF); exact rfl; (first | rfl | assumption)))
              refine ⟨4 - (c + 1), by omega, _, _, _, c + 1, _, rfl, by omega, rfl, rfl, rfl, rfl, rfl, rfl, ?_, rfl⟩
              show (SV.k (.int .i64 ((c : Int) + 1)) : SV) = _
              rw [Int.natCast_succ]
          · have hce : c = 4 := by omega
            subst hce
            have hzl := pmN_len B S (4 * 4)
            have hza := aOfBytes_len (pmN B S (4 * 4))
            change pmN B S (4 * 4) = _ at hpa
            rw [hpa] at hzl hza ⊢
            rw [← Hnx.out] at hzl hza ⊢
            clear t91 hpa Hnx
            generalize hX : decN B K b (L + 1) (i + 1) = X at *
            repeat with_reducible (first | refine aWp_seq ?_ | refine seq_normal ?_ | refine seq_ret ?_ | refine seq_exit ?_ | refine blk_normal ?_ | refine blk_ret ?_ | refine blk_hit ?_ | refine blk_miss rfl ?_ | refine aWp_ret ?_ | refine aWp_skip ?_ | refine aWp_block ?_ | refine aWp_exit ?_ | refine end_ret ?_ | refine end_normal ?_)
            refine rgA ?_
            intro ν
            repeat with_reducible (first | refine aWp_seq ?_ | refine seq_normal ?_ | refine seq_ret ?_ | refine seq_exit ?_ | refine blk_normal ?_ | refine blk_ret ?_ | refine blk_hit ?_ | refine blk_miss rfl ?_ | refine aWp_ret ?_ | refine aWp_skip ?_ | refine aWp_block ?_ | refine aWp_exit ?_ | refine end_ret ?_ | refine end_normal ?_)
            (with_reducible apply cndF); exact rfl; (first | rfl | assumption | (simp [*] <;> done))
            repeat with_reducible (first | refine aWp_seq ?_ | refine seq_normal ?_ | refine seq_ret ?_ | refine seq_exit ?_ | refine blk_normal ?_ | refine blk_ret ?_ | refine blk_hit ?_ | refine blk_miss rfl ?_ | refine aWp_ret ?_ | refine aWp_skip ?_ | refine aWp_block ?_ | refine aWp_exit ?_ | refine end_ret ?_ | refine end_normal ?_)
            refine rg fun K hK => ?_
            refine stA ?_
            refine rzs (t := 6) rfl rfl ?_
            refine hK _ _ _ ?_
            clear hK K; intro ν
            repeat (first | with_reducible (first | refine aWp_seq ?_ | refine seq_normal ?_ | refine seq_ret ?_ | refine seq_exit ?_ | refine blk_normal ?_ | refine blk_ret ?_ | refine blk_hit ?_ | refine blk_miss rfl ?_ | refine aWp_ret ?_ | refine aWp_skip ?_ | refine aWp_block ?_ | refine aWp_exit ?_ | refine end_ret ?_ | refine end_normal ?_) | ((refine rgA ?_); intro ν) | ((with_reducible apply cndT); exact rfl; (first | rfl | assumption)) | ((with_reducible apply cndF); exact rfl; (first | rfl | assumption)))
            refine ⟨L - (i + 1), by omega, _, _, _, i + 1, _, rfl, by omega, rfl, rfl, rfl, rfl, ?_, hX.symm⟩
            show (SV.k (.int .i64 (((L - i : Nat) : Int) - 1)) : SV) = _
            rw [show ((L - i : Nat) : Int) - 1 = ((L - (i + 1) : Nat) : Int) by omega]
  · have hie : i = L := by omega
    subst hie
    have s3 := s2n s0 hsl 0 (by omega)
    have e : decB B K b (i + 1) = addK K s0 0 := by rw [decB, hs0]; rfl
    rw [e]
    repeat (first | with_reducible (first | refine aWp_seq ?_ | refine seq_normal ?_ | refine seq_ret ?_ | refine seq_exit ?_ | refine blk_normal ?_ | refine blk_ret ?_ | refine blk_hit ?_ | refine blk_miss rfl ?_ | refine aWp_ret ?_ | refine aWp_skip ?_ | refine aWp_block ?_ | refine aWp_exit ?_ | refine end_ret ?_ | refine end_normal ?_) | ((refine rgA ?_); intro ν) | ((with_reducible apply cndT); exact rfl; (first | rfl | assumption)) | ((with_reducible apply cndF); exact rfl; (first | rfl | assumption)))
    refine rg fun K hK => ?_
    refine stA ?_
    (first | with_reducible refine g0 ?_ | ((with_reducible refine g1 ?_ ?_); (with_reducible apply gt_); exact rfl; exact rfl; (first | rfl | assumption | (simp [*] <;> done)))); refine scA (h2 := (s3)) (hk := ?_)
    refine stA ?_
    with_reducible refine rz ?_
    refine hK _ _ _ ?_
    clear hK K; intro ν
    repeat (first | with_reducible (first | refine aWp_seq ?_ | refine seq_normal ?_ | refine seq_ret ?_ | refine seq_exit ?_ | refine blk_normal ?_ | refine blk_ret ?_ | refine blk_hit ?_ | refine blk_miss rfl ?_ | refine aWp_ret ?_ | refine aWp_skip ?_ | refine aWp_block ?_ | refine aWp_exit ?_ | refine end_ret ?_ | refine end_normal ?_) | ((refine rgA ?_); intro ν) | ((with_reducible apply cndT); exact rfl; (first | rfl | assumption)) | ((with_reducible apply cndF); exact rfl; (first | rfl | assumption)))
    (first | with_reducible refine end_r ?_ | with_reducible refine end_n ?_)
    exact ⟨_, _, _, _, rfl, rfl, rfl⟩
end Go.Proofs.Ytmbnclpgldglnaa
