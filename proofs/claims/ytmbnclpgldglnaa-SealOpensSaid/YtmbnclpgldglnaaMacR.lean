import Derived.Test.YtmbnclpgldglnaaMg3
import Derived.Test.YtmbnclpgldglnaaRsha4
namespace Go.Proofs.Ytmbnclpgldglnaa
open Go.RowKit
set_option linter.unusedVariables false
set_option linter.unusedSimpArgs false
set_option maxRecDepth 20000
/-! the document's code of a text -/
def cutZ (k : List UInt8) (j : Nat) : List UInt8 := cutK k ++ List.replicate j 0
theorem cutZ_len (k : List UInt8) (j : Nat) : (cutZ k j).length = (cutK k).length + j := by simp [cutZ]
theorem cutZ_next (k : List UInt8) (j : Nat) : aOfBytes (cutZ k (j + 1)) = aOfBytes (cutZ k j) ++ [.int .u8 0] := by
  unfold cutZ; rw [List.replicate_succ', ← List.append_assoc, aOfBytes_append]; rfl
theorem cutZ_0 (k : List UInt8) : cutZ k 0 = cutK k := by simp [cutZ]
def mixN (P : List UInt8) (x : UInt8) (i : Nat) : List UInt8 := (List.range i).map (mixKF P x)
theorem mixN_len (P : List UInt8) (x : UInt8) (i : Nat) : (mixN P x i).length = i := by simp [mixN]
theorem mixN_next (P : List UInt8) (x : UInt8) (i : Nat) : aOfBytes (mixN P x (i + 1)) = aOfBytes (mixN P x i) ++ [.int .u8 ((P.getD i 0 ^^^ x).toNat : Int)] := by simp [mixN, List.range_succ, aOfBytes, mixKF]
theorem aWp_assoc {P : Program} {a b c : Code} {Q : AEx → St → Prop} {s : St} (h : aWp P (.seq (.seq a b) c) Q s) : aWp P (.seq a (.seq b c)) Q s :=
  aWp_mono a (fun e s he => by
    cases e with
    | normal => exact he
    | exit id => exact he
    | ret => exact he) h
set_option maxHeartbeats 32000000 in
theorem rmac_spec (fk fb : Bool) (k b : List UInt8) (hk : k.length ≤ 90000) (hb : b.length ≤ 90000) : Spec Try.prog 29 [sumsA, .sl fk k.length (aOfBytes k), .sl fb b.length (aOfBytes b)] (.own 32 5 (aOfBytes (macB k b))) := by
  have hka := aOfBytes_len k
  have hba := aOfBytes_len b
  have hcl := cutK_len k
  have s1 := rof_spec false k (by omega)
  have s2 := rof_spec false (mixN (padK k) 54 64 ++ b) (by rw [List.length_append, mixN_len]; omega)
  have s3 := rof_spec false (mixN (padK k) 92 64 ++ macI k b) (by rw [List.length_append, mixN_len, macI_len]; omega)
  have hI : shaB (mixN (padK k) 54 64 ++ b) = macI k b := rfl
  have hB : shaB (mixN (padK k) 92 64 ++ macI k b) = macB k b := rfl
  rw [hI] at s2
  rw [hB] at s3
  have hIl := macI_len k b
  have hBl := macB_len k b
  have hIa := aOfBytes_len (macI k b)
  have hpk : cutZ k (64 - (cutK k).length) = padK k := rfl
  clear hI hB
  generalize macI k b = MI at *
  generalize macB k b = MB at *
  rw [List.length_append, mixN_len] at s2 s3
  rw [aOfBytes_append] at s2 s3
  rw [hIl, show 64 + 32 = 96 from rfl] at s3
  have hS : sumsA = .agg [.sl false 64 (aOfW wordsK), .sl false 8 (aOfW startH)] := rfl
  rw [hS] at s1 s2 s3 ⊢
  generalize AV.sl false 64 (aOfW wordsK) = SA at *
  generalize AV.sl false 8 (aOfW startH) = SB at *
  clear hS
  refine spec_of_own (fun t => t == 11 || t == 26 || t == 27) (by kernel_rfl) Try.func29 rfl rfl (by simp [Try.ntmps29]) (by decide) ?_
  intro δ
  rw [init3]
  repeat with_reducible (first | refine aWp_seq ?_ | refine seq_normal ?_ | refine seq_ret ?_ | refine seq_exit ?_ | refine blk_normal ?_ | refine blk_ret ?_ | refine blk_hit ?_ | refine blk_miss rfl ?_ | refine aWp_ret ?_ | refine aWp_skip ?_ | refine aWp_block ?_ | refine aWp_exit ?_ | refine end_ret ?_ | refine end_normal ?_)
  refine rgA ?_
  intro ν
  refine seq_normal ?_
  refine aWp_assoc (aWp_seq ?_)
  refine aWp_cut (fun s => ∃ F T ν g3 x, s = ⟨F, T, ν, ⟨fun t => t == 11 || t == 26 || t == 27, δ, false⟩⟩ ∧ F 2 = .k (.sl fb b.length (aOfBytes b)) ∧ F 3 = .ob 3 g3 0 ∧ F 7 = x ∧ T 3 = some (g3, .obj [SA, SB]) ∧ Acc 5 [13, 19] T x (cutK k).length (aOfBytes (cutK k))) ?_ ?_
  · by_cases h64 : 64 < k.length
    · have ec : cutK k = shaB k := by unfold cutK; rw [if_pos h64]
      have hl := shaB_len k
      rw [ec, hl]
      repeat (first | with_reducible (first | refine aWp_seq ?_ | refine seq_normal ?_ | refine seq_ret ?_ | refine seq_exit ?_ | refine blk_normal ?_ | refine blk_ret ?_ | refine blk_hit ?_ | refine blk_miss rfl ?_ | refine aWp_ret ?_ | refine aWp_skip ?_ | refine aWp_block ?_ | refine aWp_exit ?_ | refine end_ret ?_ | refine end_normal ?_) | ((refine rgA ?_); intro ν) | ((with_reducible apply cndT); exact rfl; (first | rfl | assumption)) | ((with_reducible apply cndF); exact rfl; (first | rfl | assumption)))
      refine rg fun K hK => ?_
      refine stA ?_
      (first | with_reducible refine g0 ?_ | ((with_reducible refine g1 ?_ ?_); (with_reducible apply gt_); exact rfl; exact rfl; (first | rfl | assumption | (simp [*] <;> done)))); refine scA (h2 := (s1)) (hk := ?_)
      refine stA ?_
      with_reducible refine rz ?_
      refine hK _ _ _ ?_
      clear hK K; intro ν
      repeat (first | with_reducible (first | refine aWp_seq ?_ | refine seq_normal ?_ | refine seq_ret ?_ | refine seq_exit ?_ | refine blk_normal ?_ | refine blk_ret ?_ | refine blk_hit ?_ | refine blk_miss rfl ?_ | refine aWp_ret ?_ | refine aWp_skip ?_ | refine aWp_block ?_ | refine aWp_exit ?_ | refine end_ret ?_ | refine end_normal ?_) | ((refine rgA ?_); intro ν) | ((with_reducible apply cndT); exact rfl; (first | rfl | assumption)) | ((with_reducible apply cndF); exact rfl; (first | rfl | assumption)))
      exact ⟨_, _, _, _, _, rfl, rfl, rfl, rfl, rfl, .ow (by simp) rfl rfl rfl⟩
    · have ec : cutK k = k := by unfold cutK; rw [if_neg h64]
      rw [ec]
      by_cases h0 : k.length = 0
      · have hk0 : k = [] := List.eq_nil_of_length_eq_zero h0
        repeat (first | with_reducible (first | refine aWp_seq ?_ | refine seq_normal ?_ | refine seq_ret ?_ | refine seq_exit ?_ | refine blk_normal ?_ | refine blk_ret ?_ | refine blk_hit ?_ | refine blk_miss rfl ?_ | refine aWp_ret ?_ | refine aWp_skip ?_ | refine aWp_block ?_ | refine aWp_exit ?_ | refine end_ret ?_ | refine end_normal ?_) | ((refine rgA ?_); intro ν) | ((with_reducible apply cndT); exact rfl; (first | rfl | assumption)) | ((with_reducible apply cndF); exact rfl; (first | rfl | assumption)))
        exact ⟨_, _, _, _, _, rfl, rfl, rfl, rfl, rfl, .inl ⟨rfl, h0, by rw [hk0]; rfl⟩⟩
      · repeat (first | with_reducible (first | refine aWp_seq ?_ | refine seq_normal ?_ | refine seq_ret ?_ | refine seq_exit ?_ | refine blk_normal ?_ | refine blk_ret ?_ | refine blk_hit ?_ | refine blk_miss rfl ?_ | refine aWp_ret ?_ | refine aWp_skip ?_ | refine aWp_block ?_ | refine aWp_exit ?_ | refine end_ret ?_ | refine end_normal ?_) | ((refine rgA ?_); intro ν) | ((with_reducible apply cndT); exact rfl; (first | rfl | assumption)) | ((with_reducible apply cndF); exact rfl; (first | rfl | assumption)))
        exact ⟨_, _, _, _, _, rfl, rfl, rfl, rfl, rfl, .ow (by simp) rfl rfl rfl⟩
  rintro s ⟨F, T, ν, g3, x, rfl, f2, f3, f7, t3, hacc⟩
  rw [has3 f2 f3 f7, has1 t3]
  obtain ⟨n, hn⟩ : ∃ n, n = 64 - (cutK k).length := ⟨_, rfl⟩
  rw [← hn] at hpk
  repeat with_reducible (first | refine aWp_seq ?_ | refine seq_normal ?_ | refine seq_ret ?_ | refine seq_exit ?_ | refine blk_normal ?_ | refine blk_ret ?_ | refine blk_hit ?_ | refine blk_miss rfl ?_ | refine aWp_ret ?_ | refine aWp_skip ?_ | refine aWp_block ?_ | refine aWp_exit ?_ | refine end_ret ?_ | refine end_normal ?_)
  refine aWp_loop (fun m s => ∃ F T ν g3 x j, m = n - j ∧ j ≤ n ∧ s = ⟨F, T, ν, ⟨fun t => t == 11 || t == 26 || t == 27, δ, false⟩⟩ ∧ F 2 = .k (.sl fb b.length (aOfBytes b)) ∧ F 3 = .ob 3 g3 0 ∧ F 7 = x ∧ T 3 = some (g3, .obj [SA, SB]) ∧ Acc 5 [13, 19, 25] T x ((cutK k).length + j) (aOfBytes (cutZ k j))) n ⟨_, _, _, g3, x, 0, rfl, Nat.zero_le _, rfl, rfl, rfl, rfl, rfl, ?_⟩ ?_
  · rw [cutZ_0]
    obtain h | ⟨d, g, hd, hx, hT⟩ := hacc
    · exact .inl h
    · refine .inr ⟨d, g, ?_, hx, ?_⟩
      · simp only [List.mem_cons, List.not_mem_nil, or_false] at hd ⊢
        rcases hd with h | h
        · exact .inl h
        · exact .inr (.inl h)
      · have hd3 : d ≠ 3 := by
          simp only [List.mem_cons, List.not_mem_nil, or_false] at hd
          omega
        rw [upd_ne _ _ _ _ hd3]; exact hT
  rintro m s ⟨F, T, ν, g3, x, j, rfl, hj, rfl, f2, f3, f7, t3, hacc⟩
  rw [has3 f2 f3 f7, has1 t3]
  have hzl := cutZ_len k j
  have hza := aOfBytes_len (cutZ k j)
  by_cases hlt : j < n
  · have hzn := cutZ_next k j
    obtain ⟨rfl, h0, h00⟩ | ⟨d, g, hd, rfl, hT⟩ := hacc
    · repeat (first | with_reducible (first | refine aWp_seq ?_ | refine seq_normal ?_ | refine seq_ret ?_ | refine seq_exit ?_ | refine blk_normal ?_ | refine blk_ret ?_ | refine blk_hit ?_ | refine blk_miss rfl ?_ | refine aWp_ret ?_ | refine aWp_skip ?_ | refine aWp_block ?_ | refine aWp_exit ?_ | refine end_ret ?_ | refine end_normal ?_) | ((refine rgA ?_); intro ν) | ((with_reducible apply cndT); exact rfl; (first | rfl | assumption)) | ((with_reducible apply cndF); exact rfl; (first | rfl | assumption)))
      refine ⟨n - (j + 1), by omega, _, _, _, g3, _, j + 1, rfl, by omega, rfl, rfl, rfl, rfl, rfl, .ow (by simp) rfl ?_ ?_⟩
      · omega
      · rw [hzn, h00]; rfl
    · simp only [List.mem_cons, List.not_mem_nil, or_false] at hd
      rw [upd_self hT]
      rcases hd with rfl | rfl | rfl
      iterate 3
        · repeat (first | with_reducible (first | refine aWp_seq ?_ | refine seq_normal ?_ | refine seq_ret ?_ | refine seq_exit ?_ | refine blk_normal ?_ | refine blk_ret ?_ | refine blk_hit ?_ | refine blk_miss rfl ?_ | refine aWp_ret ?_ | refine aWp_skip ?_ | refine aWp_block ?_ | refine aWp_exit ?_ | refine end_ret ?_ | refine end_normal ?_) | ((refine rgA ?_); intro ν) | ((with_reducible apply cndT); exact rfl; (first | rfl | assumption)) | ((with_reducible apply cndF); exact rfl; (first | rfl | assumption)))
          refine ⟨n - (j + 1), by omega, _, _, _, g3, _, j + 1, rfl, by omega, rfl, rfl, rfl, rfl, rfl, .ow (by simp) rfl ?_ ?_⟩
          · omega
          · rw [hzn]
  · have hje : j = n := by omega
    subst hje
    rw [hpk] at hacc hza
    clear hzl
    have hPl := padK_len k
    generalize padK k = PK at *
    obtain ⟨_, h0, _⟩ | ⟨d, g, hd, rfl, _⟩ := hacc
    · omega
    have hlen : (cutK k).length + j = 64 := by omega
    rw [hlen]
    clear hd
    repeat (first | with_reducible (first | refine aWp_seq ?_ | refine seq_normal ?_ | refine seq_ret ?_ | refine seq_exit ?_ | refine blk_normal ?_ | refine blk_ret ?_ | refine blk_hit ?_ | refine blk_miss rfl ?_ | refine aWp_ret ?_ | refine aWp_skip ?_ | refine aWp_block ?_ | refine aWp_exit ?_ | refine end_ret ?_ | refine end_normal ?_) | ((refine rgA ?_); intro ν) | ((with_reducible apply cndT); exact rfl; (first | rfl | assumption)) | ((with_reducible apply cndF); exact rfl; (first | rfl | assumption)))
    refine aWp_loop (fun m s => ∃ F T ν g3 i x y, m = 64 - i ∧ i ≤ 64 ∧ s = ⟨F, T, ν, ⟨fun t => t == 11 || t == 26 || t == 27, δ, false⟩⟩ ∧ F 2 = .k (.sl fb b.length (aOfBytes b)) ∧ F 3 = .ob 3 g3 0 ∧ F 7 = .ow d g 64 5 (aOfBytes PK) ∧ F 8 = x ∧ F 9 = y ∧ F 10 = .k (.int .i64 (i : Nat)) ∧ T 3 = some (g3, .obj [SA, SB]) ∧
      ((i = 0 ∧ x = .k (.sl true 0 []) ∧ y = .k (.sl true 0 [])) ∨ ∃ ga gb, 0 < i ∧ x = .ow 39 ga i 5 (aOfBytes (mixN PK 54 i)) ∧ y = .ow 47 gb i 5 (aOfBytes (mixN PK 92 i)) ∧ T 39 = some (ga, .tag) ∧ T 47 = some (gb, .tag))) 64 ⟨_, _, _, g3, 0, _, _, rfl, Nat.zero_le _, rfl, rfl, rfl, rfl, rfl, rfl, rfl, rfl, .inl ⟨rfl, rfl, rfl⟩⟩ ?_
    rintro m s ⟨F, T, ν, g3, i, x, y, rfl, hi, rfl, f2, f3, f7, f8, f9, f10, t3, hxy⟩
    rw [has6 f2 f3 f7 f8 f9 f10, has1 t3]
    have hm1 := mixN_len PK 54 i
    have hm1a := aOfBytes_len (mixN PK 54 i)
    have hm2 := mixN_len PK 92 i
    have hm2a := aOfBytes_len (mixN PK 92 i)
    by_cases hlt2 : i < 64
    · have l1 := ld_b PK i (by omega)
      have hn1 := mixN_next PK 54 i
      have hn2 := mixN_next PK 92 i
      have hb1 : Go.bits .xor .u8 ((PK.getD i 0).toNat : Int) 54 = ((PK.getD i 0 ^^^ 54).toNat : Int) := bx8 (PK.getD i 0) 54
      have hb2 : Go.bits .xor .u8 ((PK.getD i 0).toNat : Int) 92 = ((PK.getD i 0 ^^^ 92).toNat : Int) := bx8 (PK.getD i 0) 92
      rw [← hb1] at hn1
      rw [← hb2] at hn2
      rcases hxy with ⟨hi0, rfl, rfl⟩ | ⟨ga, gb, hi0, rfl, rfl, ta, tb⟩
      · repeat (first | with_reducible (first | refine aWp_seq ?_ | refine seq_normal ?_ | refine seq_ret ?_ | refine seq_exit ?_ | refine blk_normal ?_ | refine blk_ret ?_ | refine blk_hit ?_ | refine blk_miss rfl ?_ | refine aWp_ret ?_ | refine aWp_skip ?_ | refine aWp_block ?_ | refine aWp_exit ?_ | refine end_ret ?_ | refine end_normal ?_) | ((refine rgA ?_); intro ν) | ((with_reducible apply cndT); exact rfl; (first | rfl | assumption)) | ((with_reducible apply cndF); exact rfl; (first | rfl | assumption)))
        refine rgxA [(7,[38,39],[38,39]),(15,[46,47],[46,47])] ?_
        intro ν
        repeat (first | with_reducible (first | refine aWp_seq ?_ | refine seq_normal ?_ | refine seq_ret ?_ | refine seq_exit ?_ | refine blk_normal ?_ | refine blk_ret ?_ | refine blk_hit ?_ | refine blk_miss rfl ?_ | refine aWp_ret ?_ | refine aWp_skip ?_ | refine aWp_block ?_ | refine aWp_exit ?_ | refine end_ret ?_ | refine end_normal ?_) | ((refine rgA ?_); intro ν) | ((with_reducible apply cndT); exact rfl; (first | rfl | assumption)) | ((with_reducible apply cndF); exact rfl; (first | rfl | assumption)))
        refine ⟨64 - (i + 1), by omega, _, _, _, g3, i + 1, _, _, rfl, by omega, rfl, rfl, rfl, rfl, rfl, rfl, ?_, rfl, .inr ⟨_, _, by omega, ?_, ?_, rfl, rfl⟩⟩
        · show (SV.k (.int .i64 ((i : Int) + 1)) : SV) = _
          rw [Int.natCast_succ]
        · rw [hn1]; subst hi0; rfl
        · rw [hn2]; subst hi0; rfl
      · rw [upd_self ta, upd_self tb]
        repeat (first | with_reducible (first | refine aWp_seq ?_ | refine seq_normal ?_ | refine seq_ret ?_ | refine seq_exit ?_ | refine blk_normal ?_ | refine blk_ret ?_ | refine blk_hit ?_ | refine blk_miss rfl ?_ | refine aWp_ret ?_ | refine aWp_skip ?_ | refine aWp_block ?_ | refine aWp_exit ?_ | refine end_ret ?_ | refine end_normal ?_) | ((refine rgA ?_); intro ν) | ((with_reducible apply cndT); exact rfl; (first | rfl | assumption)) | ((with_reducible apply cndF); exact rfl; (first | rfl | assumption)))
        refine rgxA [(7,[38,39],[38,39]),(15,[46,47],[46,47])] ?_
        intro ν
        repeat (first | with_reducible (first | refine aWp_seq ?_ | refine seq_normal ?_ | refine seq_ret ?_ | refine seq_exit ?_ | refine blk_normal ?_ | refine blk_ret ?_ | refine blk_hit ?_ | refine blk_miss rfl ?_ | refine aWp_ret ?_ | refine aWp_skip ?_ | refine aWp_block ?_ | refine aWp_exit ?_ | refine end_ret ?_ | refine end_normal ?_) | ((refine rgA ?_); intro ν) | ((with_reducible apply cndT); exact rfl; (first | rfl | assumption)) | ((with_reducible apply cndF); exact rfl; (first | rfl | assumption)))
        refine ⟨64 - (i + 1), by omega, _, _, _, g3, i + 1, _, _, rfl, by omega, rfl, rfl, rfl, rfl, rfl, rfl, ?_, rfl, .inr ⟨_, _, by omega, ?_, ?_, rfl, rfl⟩⟩
        · show (SV.k (.int .i64 ((i : Int) + 1)) : SV) = _
          rw [Int.natCast_succ]
        · rw [hn1]; try rfl
        · rw [hn2]; try rfl
    · have hie : i = 64 := by omega
      subst hie
      obtain ⟨h, _⟩ | ⟨ga, gb, _, rfl, rfl, ta, tb⟩ := hxy
      · omega
      rw [upd_self ta, upd_self tb]
      generalize mixN PK 54 64 = X1 at *
      generalize mixN PK 92 64 = X2 at *
      repeat (first | with_reducible (first | refine aWp_seq ?_ | refine seq_normal ?_ | refine seq_ret ?_ | refine seq_exit ?_ | refine blk_normal ?_ | refine blk_ret ?_ | refine blk_hit ?_ | refine blk_miss rfl ?_ | refine aWp_ret ?_ | refine aWp_skip ?_ | refine aWp_block ?_ | refine aWp_exit ?_ | refine end_ret ?_ | refine end_normal ?_) | ((refine rgA ?_); intro ν) | ((with_reducible apply cndT); exact rfl; (first | rfl | assumption)) | ((with_reducible apply cndF); exact rfl; (first | rfl | assumption)))
      by_cases hb0 : b.length = 0
      · have hbn : b = [] := List.eq_nil_of_length_eq_zero hb0
        refine rgx [(0,[3],[]),(2,[3],[]),(5,[39,53],[39,53]),(6,[53],[54]),(7,[47,54,55],[47,54,55]),(8,[55],[56])] (by kernel_rfl) fun K hK => ?_
        refine stxA ?_
        ((first | ((with_reducible refine x0 ?_ ?_); exact rfl) | ((with_reducible refine x1 ?_ ?_ ?_); exact rfl; (with_reducible apply gt_); exact rfl; exact rfl; (first | rfl | assumption | (simp [*] <;> done)))); refine xcA (h2 := (s2)) (hk := ?_))
        refine stxA ?_
        ((first | ((with_reducible refine x0 ?_ ?_); exact rfl) | ((with_reducible refine x1 ?_ ?_ ?_); exact rfl; (with_reducible apply gt_); exact rfl; exact rfl; (first | rfl | assumption | (simp [*] <;> done)))); refine xcA (h2 := (s3)) (hk := ?_))
        refine stxA ?_
        with_reducible refine xz ?_
        refine hK _ _ _ ?_
        clear hK K; intro ν
        repeat (first | with_reducible (first | refine aWp_seq ?_ | refine seq_normal ?_ | refine seq_ret ?_ | refine seq_exit ?_ | refine blk_normal ?_ | refine blk_ret ?_ | refine blk_hit ?_ | refine blk_miss rfl ?_ | refine aWp_ret ?_ | refine aWp_skip ?_ | refine aWp_block ?_ | refine aWp_exit ?_ | refine end_ret ?_ | refine end_normal ?_) | ((refine rgA ?_); intro ν) | ((with_reducible apply cndT); exact rfl; (first | rfl | assumption)) | ((with_reducible apply cndF); exact rfl; (first | rfl | assumption)))
        exact ⟨rfl, endO rfl rfl rfl (all_scB _)⟩
      · refine rgx [(0,[3],[]),(2,[3],[]),(5,[39,53],[39,53]),(6,[53],[54]),(7,[47,54,55],[47,54,55]),(8,[55],[56])] (by kernel_rfl) fun K hK => ?_
        refine stxA ?_
        ((first | ((with_reducible refine x0 ?_ ?_); exact rfl) | ((with_reducible refine x1 ?_ ?_ ?_); exact rfl; (with_reducible apply gt_); exact rfl; exact rfl; (first | rfl | assumption | (simp [*] <;> done)))); refine xcA (h2 := (s2)) (hk := ?_))
        refine stxA ?_
        ((first | ((with_reducible refine x0 ?_ ?_); exact rfl) | ((with_reducible refine x1 ?_ ?_ ?_); exact rfl; (with_reducible apply gt_); exact rfl; exact rfl; (first | rfl | assumption | (simp [*] <;> done)))); refine xcA (h2 := (s3)) (hk := ?_))
        refine stxA ?_
        with_reducible refine xz ?_
        refine hK _ _ _ ?_
        clear hK K; intro ν
        repeat (first | with_reducible (first | refine aWp_seq ?_ | refine seq_normal ?_ | refine seq_ret ?_ | refine seq_exit ?_ | refine blk_normal ?_ | refine blk_ret ?_ | refine blk_hit ?_ | refine blk_miss rfl ?_ | refine aWp_ret ?_ | refine aWp_skip ?_ | refine aWp_block ?_ | refine aWp_exit ?_ | refine end_ret ?_ | refine end_normal ?_) | ((refine rgA ?_); intro ν) | ((with_reducible apply cndT); exact rfl; (first | rfl | assumption)) | ((with_reducible apply cndF); exact rfl; (first | rfl | assumption)))
        exact ⟨rfl, endO rfl rfl rfl (all_scB _)⟩
end Go.Proofs.Ytmbnclpgldglnaa
