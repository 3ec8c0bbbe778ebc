import Derived.Test.YtmbnclpgldglnaaMg2
namespace Go.Proofs.Ytmbnclpgldglnaa
open Go.RowKit
set_option linter.unusedVariables false
set_option linter.unusedSimpArgs false
set_option maxRecDepth 20000
set_option maxHeartbeats 32000000 in
theorem rnew_spec (key : List UInt8) (full : Bool) (n : Nat) (hk : key.length = 4 * n) (h4 : n = 4 ∨ n = 6 ∨ n = 8) :
    Spec Try.prog 18 [.sl full key.length (aOfBytes key)] (.k (.tup [.cp (rcp key sL iL n (4 * n + 28)), .bool true])) := by
  have s1 := rtables_spec
  have hTl := sL_len
  have hBl := iL_len
  generalize sL = T at *
  generalize iL = B at *
  have hka := aOfBytes_len key
  have hTa := aOfBytes_len T
  have hBa := aOfBytes_len B
  refine spec_of' (fun t => t == 74 || t == 91 || t == 60 || t == 52 || t == 65 || t == 1000060) true (by kernel_rfl) Try.func18 rfl rfl (by simp [Try.ntmps18]) (by decide) ?_
  intro δ
  rw [init1]
  have hq : (key.length : Int) / 4 = ((n : Nat) : Int) := by omega
  have k1 : ¬ key.length = 16 ∨ key.length = 16 := by omega
  obtain ⟨N, hN⟩ : ∃ N, N = 4 * n + 28 := ⟨_, rfl⟩
  have hNi : 4 * (n : Int) + 28 = ((N : Nat) : Int) := by omega
  rw [← hN]
  repeat with_reducible (first | refine aWp_seq ?_ | refine seq_normal ?_ | refine seq_ret ?_ | refine seq_exit ?_ | refine blk_normal ?_ | refine blk_ret ?_ | refine blk_hit ?_ | refine blk_miss rfl ?_ | refine aWp_ret ?_ | refine aWp_skip ?_ | refine aWp_block ?_ | refine aWp_exit ?_ | refine end_ret ?_ | refine end_normal ?_)
  refine rgA ?_
  intro ν
  repeat with_reducible (first | refine aWp_seq ?_ | refine seq_normal ?_ | refine seq_ret ?_ | refine seq_exit ?_ | refine blk_normal ?_ | refine blk_ret ?_ | refine blk_hit ?_ | refine blk_miss rfl ?_ | refine aWp_ret ?_ | refine aWp_skip ?_ | refine aWp_block ?_ | refine aWp_exit ?_ | refine end_ret ?_ | refine end_normal ?_)
  refine rgA ?_
  intro ν
  rw [hq]
  refine seq_normal ?_
  refine aWp_seq ?_
  refine aWp_cut (fun s => ∃ F ν, s = ⟨F, fun _ => none, ν, ⟨fun t => t == 74 || t == 91 || t == 60 || t == 52 || t == 65 || t == 1000060, δ, true⟩⟩ ∧ F 0 = .k (.sl full key.length (aOfBytes key)) ∧ F 4 = .k (.int .i64 (n : Nat))) ?_ ?_
  · rcases h4 with rfl | rfl | rfl
    iterate 3
      · repeat (first | with_reducible (first | refine aWp_seq ?_ | refine seq_normal ?_ | refine seq_ret ?_ | refine seq_exit ?_ | refine blk_normal ?_ | refine blk_ret ?_ | refine blk_hit ?_ | refine blk_miss rfl ?_ | refine aWp_ret ?_ | refine aWp_skip ?_ | refine aWp_block ?_ | refine aWp_exit ?_ | refine end_ret ?_ | refine end_normal ?_) | ((refine rgA ?_); intro ν) | ((with_reducible apply cndT); exact rfl; (first | rfl | assumption)) | ((with_reducible apply cndF); exact rfl; (first | rfl | assumption)))
        exact ⟨_, _, rfl, rfl, rfl⟩
  rintro s ⟨F, ν, rfl, f0, f4⟩
  rw [has2 f0 f4]
  repeat with_reducible (first | refine aWp_seq ?_ | refine seq_normal ?_ | refine seq_ret ?_ | refine seq_exit ?_ | refine blk_normal ?_ | refine blk_ret ?_ | refine blk_hit ?_ | refine blk_miss rfl ?_ | refine aWp_ret ?_ | refine aWp_skip ?_ | refine aWp_block ?_ | refine aWp_exit ?_ | refine end_ret ?_ | refine end_normal ?_)
  refine rg fun K hK => ?_
  refine stA ?_
  (first | with_reducible refine g0 ?_ | ((with_reducible refine g1 ?_ ?_); (with_reducible apply gt_); exact rfl; exact rfl; (first | rfl | assumption | (simp [*] <;> done)))); refine scA (h2 := (s1)) (hk := ?_)
  refine stA ?_
  with_reducible refine rz ?_
  refine hK _ _ _ ?_
  clear hK K; intro ν
  repeat (first | with_reducible (first | refine aWp_seq ?_ | refine seq_normal ?_ | refine seq_ret ?_ | refine seq_exit ?_ | refine blk_normal ?_ | refine blk_ret ?_ | refine blk_hit ?_ | refine blk_miss rfl ?_ | refine aWp_ret ?_ | refine aWp_skip ?_ | refine aWp_block ?_ | refine aWp_exit ?_ | refine end_ret ?_ | refine end_normal ?_) | ((refine rgA ?_); intro ν) | ((with_reducible apply cndT); exact rfl; (first | rfl | assumption)) | ((with_reducible apply cndF); exact rfl; (first | rfl | assumption)))
  refine aWp_loop (fun m s => ∃ F Tb ν i g x, m = N - i ∧ i ≤ N ∧ s = ⟨F, Tb, ν, ⟨fun t => t == 74 || t == 91 || t == 60 || t == 52 || t == 65 || t == 1000060, δ, true⟩⟩ ∧ F 0 = .k (.sl full key.length (aOfBytes key)) ∧ F 4 = .k (.int .i64 (n : Nat)) ∧ F 5 = .k (.sl false 256 (aOfBytes T)) ∧ F 7 = .ob 36 g 0 ∧ F 8 = .k (.int .u8 ((exP n i).toNat : Int)) ∧ F 9 = .k (.int .i64 (i : Nat)) ∧
      Tb 36 = some (g, .obj [.sl false 256 (aOfBytes T), .sl false 256 (aOfBytes B), x]) ∧
      ((i = 0 ∧ x = .sl true 0 []) ∨ ∃ e g2, ((e = 62 ∧ i ≤ n) ∨ (e = 164 ∧ n < i)) ∧ 0 < i ∧ x = .ow δ e g2 i 22 (wcs key T n i) ∧ Tb e = some (g2, .tag))) N ⟨_, _, _, 0, _, _, rfl, Nat.zero_le _, rfl, rfl, rfl, rfl, rfl, rfl, rfl, rfl, .inl ⟨rfl, rfl⟩⟩ ?_
  rintro m s ⟨F, Tb, ν, i, g, x, rfl, hi, rfl, f0, f4, f5, f7, f8, f9, t36, hx⟩
  rw [has6 f0 f4 f5 f7 f8 f9, upd_self t36]
  have hwl := wcs_len key T n i
  have hnx := wcs_next key T n i
  have hwd := wd_len (T := T) hk i
  by_cases hlt : i < N
  · by_cases hin : i < n
    · as_aux_lemma =>
        have hpx : exP n (i + 1) = exP n i := by rw [exP, if_neg (by omega)]
        have e1 : List.drop (4 * (i : Int)).toNat (List.take (4 * (i : Int) + 4).toNat (aOfBytes key)) = aOfBytes (wd key T n i) := by
          rw [wd, if_pos hin, show (4 * (i : Int)).toNat = 4 * i by omega, show (4 * (i : Int) + 4).toNat = 4 * i + 4 by omega, bytes_take', bytes_drop', List.take_drop]
        have e4 : (4 * (i : Int) + 4).toNat - (4 * (i : Int)).toNat = 4 := by omega
        rcases hx with ⟨rfl, rfl⟩ | ⟨e, g2, he, hi0, rfl, he2⟩
        · as_aux_lemma =>
            repeat (first | with_reducible (first | refine aWp_seq ?_ | refine seq_normal ?_ | refine seq_ret ?_ | refine seq_exit ?_ | refine blk_normal ?_ | refine blk_ret ?_ | refine blk_hit ?_ | refine blk_miss rfl ?_ | refine aWp_ret ?_ | refine aWp_skip ?_ | refine aWp_block ?_ | refine aWp_exit ?_ | refine end_ret ?_ | refine end_normal ?_) | ((refine rgA ?_); intro ν) | ((with_reducible apply cndT); exact rfl; (first | rfl | assumption)) | ((with_reducible apply cndF); exact rfl; (first | rfl | assumption)))
            refine rgxA [(4,[36],[]),(13,[60],[60]),(15,[61,62],[61,62]),(18,[36,62],[36,62])] ?_
            intro ν
            repeat (first | with_reducible (first | refine aWp_seq ?_ | refine seq_normal ?_ | refine seq_ret ?_ | refine seq_exit ?_ | refine blk_normal ?_ | refine blk_ret ?_ | refine blk_hit ?_ | refine blk_miss rfl ?_ | refine aWp_ret ?_ | refine aWp_skip ?_ | refine aWp_block ?_ | refine aWp_exit ?_ | refine end_ret ?_ | refine end_normal ?_) | ((refine rgA ?_); intro ν) | ((with_reducible apply cndT); exact rfl; (first | rfl | assumption)) | ((with_reducible apply cndF); exact rfl; (first | rfl | assumption)))
            refine ⟨N - (0 + 1), by omega, _, _, _, 0 + 1, g, _, rfl, by omega, rfl, rfl, rfl, rfl, rfl, ?_, rfl, rfl, .inr ⟨62, _, .inl ⟨rfl, by omega⟩, by omega, ?_, rfl⟩⟩
            · rw [hpx]; rfl
            · rw [hnx, e1, e4]; rfl
        · as_aux_lemma =>
            obtain ⟨rfl, hin'⟩ : e = 62 ∧ i ≤ n := by rcases he with h | h <;> omega
            rw [upd_self he2]
            repeat (first | with_reducible (first | refine aWp_seq ?_ | refine seq_normal ?_ | refine seq_ret ?_ | refine seq_exit ?_ | refine blk_normal ?_ | refine blk_ret ?_ | refine blk_hit ?_ | refine blk_miss rfl ?_ | refine aWp_ret ?_ | refine aWp_skip ?_ | refine aWp_block ?_ | refine aWp_exit ?_ | refine end_ret ?_ | refine end_normal ?_) | ((refine rgA ?_); intro ν) | ((with_reducible apply cndT); exact rfl; (first | rfl | assumption)) | ((with_reducible apply cndF); exact rfl; (first | rfl | assumption)))
            refine rgxA [(4,[36],[]),(13,[60],[60]),(15,[61,62],[61,62]),(18,[36,62],[36,62])] ?_
            intro ν
            repeat (first | with_reducible (first | refine aWp_seq ?_ | refine seq_normal ?_ | refine seq_ret ?_ | refine seq_exit ?_ | refine blk_normal ?_ | refine blk_ret ?_ | refine blk_hit ?_ | refine blk_miss rfl ?_ | refine aWp_ret ?_ | refine aWp_skip ?_ | refine aWp_block ?_ | refine aWp_exit ?_ | refine end_ret ?_ | refine end_normal ?_) | ((refine rgA ?_); intro ν) | ((with_reducible apply cndT); exact rfl; (first | rfl | assumption)) | ((with_reducible apply cndF); exact rfl; (first | rfl | assumption)))
            refine ⟨N - (i + 1), by omega, _, _, _, i + 1, g, _, rfl, by omega, rfl, rfl, rfl, rfl, rfl, ?_, ?_, rfl, .inr ⟨62, _, .inl ⟨rfl, by omega⟩, by omega, ?_, rfl⟩⟩
            · rw [hpx]; rfl
            · show (SV.k (.int .i64 ((i : Int) + 1)) : SV) = _
              rw [Int.natCast_succ]
            · rw [hnx, e1, e4]
    have hi0 : 0 < i := by omega
    obtain ⟨e, g2, he, _, rfl, he2⟩ : ∃ e g2, ((e = 62 ∧ i ≤ n) ∨ (e = 164 ∧ n < i)) ∧ 0 < i ∧ x = .ow δ e g2 i 22 (wcs key T n i) ∧ Tb e = some (g2, .tag) := by
      rcases hx with h | h
      · omega
      · exact h
    have l0 : ldAgg (.sl 5) 1 (List.drop ((i : Int) - 1).toNat (wcs key T n i)) = some (.sl false 4 (aOfBytes (wd key T n (i - 1)))) := by
      rw [show ((i : Int) - 1).toNat = i - 1 by omega]; exact wcs_get _ (by omega)
    have l9 : ldAgg (.sl 5) 1 (List.drop ((i : Int) - (n : Int)).toNat (wcs key T n i)) = some (.sl false 4 (aOfBytes (wd key T n (i - n)))) := by
      rw [show ((i : Int) - (n : Int)).toNat = i - n by omega]; exact wcs_get _ (by omega)
    have hwp := wd_len (T := T) hk (i - 1)
    have hwp9 := wd_len (T := T) hk (i - n)
    obtain ⟨pw0, hpw⟩ : ∃ p, p = wd key T n (i - 1) := ⟨_, rfl⟩
    obtain ⟨pw9, hpw9⟩ : ∃ p, p = wd key T n (i - n) := ⟨_, rfl⟩
    rw [← hpw] at l0 hwp
    rw [← hpw9] at l9 hwp9
    obtain ⟨t1, ht1⟩ : ∃ t1, t1 = if i % n = 0 then [pw0.getD 1 0, pw0.getD 2 0, pw0.getD 3 0, pw0.getD 0 0] else pw0 := ⟨_, rfl⟩
    obtain ⟨fu, hfu⟩ : ∃ fu, fu = fun k => T.getD (t1.getD k 0).toNat 0 := ⟨_, rfl⟩
    obtain ⟨t2, ht2⟩ : ∃ t2, t2 = if (i % n = 0 ∨ (n = 8 ∧ i % 8 = 4)) then setN fu t1 4 else t1 := ⟨_, rfl⟩
    obtain ⟨t3, ht3⟩ : ∃ t3, t3 = if i % n = 0 then t2.set 0 (t2.getD 0 0 ^^^ exP n i) else t2 := ⟨_, rfl⟩
    obtain ⟨fx, hfx⟩ : ∃ fx, fx = fun k => t3.getD k 0 ^^^ pw9.getD k 0 := ⟨_, rfl⟩
    have hW := Lib.hid (word_step hk h4 hin hi0 hpw hpw9 ht1 hfu ht2 ht3 hfx)
    have hwpa := aOfBytes_len pw0
    have hwpa9 := aOfBytes_len pw9
    have ht1l : t1.length = 4 := by rw [ht1]; split <;> first | rfl | exact hwp
    have ht2l : t2.length = 4 := by rw [ht2]; split <;> first | (rw [setN_len]; exact ht1l) | exact ht1l
    have ht3l : t3.length = 4 := by rw [ht3]; split <;> first | (rw [List.length_set]; exact ht2l) | exact ht2l
    have hfk : ∀ k, T.getD (t1.getD k 0).toNat 0 = fu k := fun k => by rw [hfu]
    have hfk9 : ∀ k, t3.getD k 0 ^^^ pw9.getD k 0 = fx k := fun k => by rw [hfx]
    have Ht1 := Lib.hid ht1
    have Ht2 := Lib.hid ht2
    have Ht3 := Lib.hid ht3
    have hn1 : 4 ≤ n := by omega
    have hn2 : n ≤ 8 := by omega
    clear ht1 ht2 ht3 hfu hfx hpw hpw9 h4 hk k1 hq
    have hne : Hid (e ≠ 36 ∧ e ≠ 74 ∧ e ≠ 91) := Lib.hid (by rcases he with ⟨h, _⟩ | ⟨h, _⟩ <;> rw [h] <;> decide)
    have he' : Hid ((e = 62 ∧ i ≤ n) ∨ (e = 164 ∧ n < i)) := Lib.hid he
    clear he hx
    repeat (first | with_reducible (first | refine aWp_seq ?_ | refine seq_normal ?_ | refine seq_ret ?_ | refine seq_exit ?_ | refine blk_normal ?_ | refine blk_ret ?_ | refine blk_hit ?_ | refine blk_miss rfl ?_ | refine aWp_ret ?_ | refine aWp_skip ?_ | refine aWp_block (id := 0) ?_ | refine aWp_block (id := 2) ?_ | refine aWp_block (id := 3) ?_ | refine aWp_block (id := 4) ?_ | refine aWp_block (id := 5) ?_ | refine aWp_block (id := 6) ?_ | refine aWp_block (id := 7) ?_ | refine aWp_block (id := 8) ?_ | refine aWp_block (id := 9) ?_ | refine aWp_block (id := 10) ?_ | refine aWp_block (id := 11) ?_ | refine aWp_block (id := 12) ?_ | refine aWp_block (id := 13) ?_ | refine aWp_block (id := 14) ?_ | refine aWp_block (id := 15) ?_ | refine aWp_block (id := 16) ?_ | refine aWp_block (id := 17) ?_ | refine aWp_block (id := 18) ?_ | refine aWp_block (id := 19) ?_ | refine aWp_block (id := 20) ?_ | refine aWp_block (id := 21) ?_ | refine aWp_block (id := 22) ?_ | refine aWp_block (id := 23) ?_ | refine aWp_exit ?_ | refine end_ret ?_ | refine end_normal ?_) | ((refine rgA ?_); intro ν) | ((with_reducible apply cndT); exact rfl; (first | rfl | assumption)) | ((with_reducible apply cndF); exact rfl; (first | rfl | assumption)))
    refine aWp_block ?_
    refine aWp_seq ?_
    refine aWp_cut (fun s => ∃ F Tb ν, s = ⟨F, Tb, ν, ⟨fun t => t == 74 || t == 91 || t == 60 || t == 52 || t == 65 || t == 1000060, δ, true⟩⟩ ∧ F 0 = .k (.sl full key.length (aOfBytes key)) ∧ F 4 = .k (.int .i64 (n : Nat)) ∧ F 5 = .k (.sl false 256 (aOfBytes T)) ∧ F 7 = .ob 36 g 0 ∧ F 8 = .k (.int .u8 ((exP n i).toNat : Int)) ∧ F 9 = .k (.int .i64 (i : Nat)) ∧ Tb 36 = some (g, .obj [.sl false 256 (aOfBytes T), .sl false 256 (aOfBytes B), .ow δ e g2 i 22 (wcs key T n i)]) ∧ Tb e = some (g2, .tag)) ?_ ?_
    · as_aux_lemma =>
        repeat (first | with_reducible (first | refine aWp_seq ?_ | refine seq_normal ?_ | refine seq_ret ?_ | refine seq_exit ?_ | refine blk_normal ?_ | refine blk_ret ?_ | refine blk_hit ?_ | refine blk_miss rfl ?_ | refine aWp_ret ?_ | refine aWp_skip ?_ | refine aWp_block ?_ | refine aWp_exit ?_ | refine end_ret ?_ | refine end_normal ?_) | ((refine rgA ?_); intro ν) | ((with_reducible apply cndT); exact rfl; (first | rfl | assumption)) | ((with_reducible apply cndF); exact rfl; (first | rfl | assumption)))
        exact ⟨_, _, _, rfl, rfl, rfl, rfl, rfl, rfl, rfl, rfl, (by first | exact he2 | (simp only [upd, hne.out.1, hne.out.2.1, hne.out.2.2, if_false]; exact he2))⟩
    rintro s ⟨F, Tb, ν, rfl, f0, f4, f5, f7, f8, f9, t36, he2⟩
    rw [has6 f0 f4 f5 f7 f8 f9, upd_self t36]
    refine aWp_seq ?_
    refine aWp_cut (fun s => ∃ F Tb ν g10, s = ⟨F, Tb, ν, ⟨fun t => t == 74 || t == 91 || t == 60 || t == 52 || t == 65 || t == 1000060, δ, true⟩⟩ ∧ F 0 = .k (.sl full key.length (aOfBytes key)) ∧ F 4 = .k (.int .i64 (n : Nat)) ∧ F 5 = .k (.sl false 256 (aOfBytes T)) ∧ F 7 = .ob 36 g 0 ∧ F 8 = .k (.int .u8 ((exP n i).toNat : Int)) ∧ F 9 = .k (.int .i64 (i : Nat)) ∧ F 10 = .os 74 g10 0 4 4 ∧ Tb 36 = some (g, .obj [.sl false 256 (aOfBytes T), .sl false 256 (aOfBytes B), .ow δ e g2 i 22 (wcs key T n i)]) ∧ Tb e = some (g2, .tag) ∧ Tb 74 = some (g10, .obj (aOfBytes pw0))) ?_ ?_
    · as_aux_lemma =>
        repeat (first | with_reducible (first | refine aWp_seq ?_ | refine seq_normal ?_ | refine seq_ret ?_ | refine seq_exit ?_ | refine blk_normal ?_ | refine blk_ret ?_ | refine blk_hit ?_ | refine blk_miss rfl ?_ | refine aWp_ret ?_ | refine aWp_skip ?_ | refine aWp_block ?_ | refine aWp_exit ?_ | refine end_ret ?_ | refine end_normal ?_) | ((refine rgA ?_); intro ν) | ((with_reducible apply cndT); exact rfl; (first | rfl | assumption)) | ((with_reducible apply cndF); exact rfl; (first | rfl | assumption)))
        exact ⟨_, _, _, _, rfl, rfl, rfl, rfl, rfl, rfl, rfl, rfl, rfl, (by first | exact he2 | (simp only [upd, hne.out.1, hne.out.2.1, hne.out.2.2, if_false]; exact he2)), rfl⟩
    rintro s ⟨F, Tb, ν, g10, rfl, f0, f4, f5, f7, f8, f9, f10, t36, he2, t10⟩
    rw [has7 f0 f4 f5 f7 f8 f9 f10, has2 t36 t10]
    refine aWp_seq ?_
    refine aWp_cut (fun s => ∃ F Tb ν g10 d10, s = ⟨F, Tb, ν, ⟨fun t => t == 74 || t == 91 || t == 60 || t == 52 || t == 65 || t == 1000060, δ, true⟩⟩ ∧ F 0 = .k (.sl full key.length (aOfBytes key)) ∧ F 4 = .k (.int .i64 (n : Nat)) ∧ F 5 = .k (.sl false 256 (aOfBytes T)) ∧ F 7 = .ob 36 g 0 ∧ F 8 = .k (.int .u8 ((exP n i).toNat : Int)) ∧ F 9 = .k (.int .i64 (i : Nat)) ∧ F 10 = .os d10 g10 0 4 4 ∧ Tb 36 = some (g, .obj [.sl false 256 (aOfBytes T), .sl false 256 (aOfBytes B), .ow δ e g2 i 22 (wcs key T n i)]) ∧ Tb e = some (g2, .tag) ∧ Tb d10 = some (g10, .obj (aOfBytes (t1))) ∧ ((d10 = 91 ∧ i % n = 0) ∨ (d10 = 74 ∧ ¬ i % n = 0))) ?_ ?_
    · as_aux_lemma =>
        have ht1 := Ht1.out
        by_cases hm : i % n = 0
        · have hmI : (i : Int) % (n : Int) = 0 := by omega
          rw [if_pos hm] at ht1
          have q0 := ld_b pw0 0 (by omega)
          have q1 := ld_b pw0 1 (by omega)
          have q2 := ld_b pw0 2 (by omega)
          have q3 := ld_b pw0 3 (by omega)
          repeat (first | with_reducible (first | refine aWp_seq ?_ | refine seq_normal ?_ | refine seq_ret ?_ | refine seq_exit ?_ | refine blk_normal ?_ | refine blk_ret ?_ | refine blk_hit ?_ | refine blk_miss rfl ?_ | refine aWp_ret ?_ | refine aWp_skip ?_ | refine aWp_block ?_ | refine aWp_exit ?_ | refine end_ret ?_ | refine end_normal ?_) | ((refine rgA ?_); intro ν) | ((with_reducible apply cndT); exact rfl; (first | rfl | assumption)) | ((with_reducible apply cndF); exact rfl; (first | rfl | assumption)))
          refine rgxA [(2,[74],[]),(5,[74],[]),(8,[74],[]),(11,[74],[])] ?_
          intro ν
          repeat (first | with_reducible (first | refine aWp_seq ?_ | refine seq_normal ?_ | refine seq_ret ?_ | refine seq_exit ?_ | refine blk_normal ?_ | refine blk_ret ?_ | refine blk_hit ?_ | refine blk_miss rfl ?_ | refine aWp_ret ?_ | refine aWp_skip ?_ | refine aWp_block ?_ | refine aWp_exit ?_ | refine end_ret ?_ | refine end_normal ?_) | ((refine rgA ?_); intro ν) | ((with_reducible apply cndT); exact rfl; (first | rfl | assumption)) | ((with_reducible apply cndF); exact rfl; (first | rfl | assumption)))
          exact ⟨_, _, _, _, 91, rfl, rfl, rfl, rfl, rfl, rfl, rfl, rfl, rfl, (by first | exact he2 | (simp only [upd, hne.out.1, hne.out.2.1, hne.out.2.2, if_false]; exact he2)), (by rw [ht1]; rfl), .inl ⟨rfl, hm⟩⟩
        · have hmI : ¬ (i : Int) % (n : Int) = 0 := by omega
          rw [if_neg hm] at ht1
          repeat (first | with_reducible (first | refine aWp_seq ?_ | refine seq_normal ?_ | refine seq_ret ?_ | refine seq_exit ?_ | refine blk_normal ?_ | refine blk_ret ?_ | refine blk_hit ?_ | refine blk_miss rfl ?_ | refine aWp_ret ?_ | refine aWp_skip ?_ | refine aWp_block ?_ | refine aWp_exit ?_ | refine end_ret ?_ | refine end_normal ?_) | ((refine rgA ?_); intro ν) | ((with_reducible apply cndT); exact rfl; (first | rfl | assumption)) | ((with_reducible apply cndF); exact rfl; (first | rfl | assumption)))
          exact ⟨_, _, _, _, 74, rfl, rfl, rfl, rfl, rfl, rfl, rfl, rfl, rfl, (by first | exact he2 | (simp only [upd, hne.out.1, hne.out.2.1, hne.out.2.2, if_false]; exact he2)), (by rw [ht1]; rfl), .inr ⟨rfl, hm⟩⟩
    rintro s ⟨F, Tb, ν, g10', d10, rfl, f0, f4, f5, f7, f8, f9, f10, t36, he2, t10, hd⟩
    rw [has7 f0 f4 f5 f7 f8 f9 f10, has1 t36]
    refine aWp_seq ?_
    refine aWp_cut (fun s => ∃ F Tb ν g10 d10, s = ⟨F, Tb, ν, ⟨fun t => t == 74 || t == 91 || t == 60 || t == 52 || t == 65 || t == 1000060, δ, true⟩⟩ ∧ F 0 = .k (.sl full key.length (aOfBytes key)) ∧ F 4 = .k (.int .i64 (n : Nat)) ∧ F 5 = .k (.sl false 256 (aOfBytes T)) ∧ F 7 = .ob 36 g 0 ∧ F 8 = .k (.int .u8 ((exP n i).toNat : Int)) ∧ F 9 = .k (.int .i64 (i : Nat)) ∧ F 10 = .os d10 g10 0 4 4 ∧ Tb 36 = some (g, .obj [.sl false 256 (aOfBytes T), .sl false 256 (aOfBytes B), .ow δ e g2 i 22 (wcs key T n i)]) ∧ Tb e = some (g2, .tag) ∧ Tb d10 = some (g10, .obj (aOfBytes (t2))) ∧ ((d10 = 91 ∧ i % n = 0) ∨ (d10 = 74 ∧ ¬ i % n = 0))) ?_ ?_
    · as_aux_lemma =>
        have ht2 := Ht2.out
        have hgl : ∀ k, (t1.getD k 0).toNat < 256 := fun k => UInt8.toNat_lt _
        have hTl2 : ∀ j, j < 256 → ldAgg (.int .u8) 1 (List.drop j (aOfBytes T)) = some (.int .u8 ((T.getD j 0).toNat : Int)) := fun j hj => ld_b T j (by omega)
        rcases hd with ⟨rfl, hm⟩ | ⟨rfl, hm⟩
        · as_aux_lemma =>
            have hmI : (i : Int) % (n : Int) = 0 := by omega
            rw [if_pos (.inl hm)] at ht2
            rw [upd_self t10]
            repeat (first | with_reducible (first | refine aWp_seq ?_ | refine seq_normal ?_ | refine seq_ret ?_ | refine seq_exit ?_ | refine blk_normal ?_ | refine blk_ret ?_ | refine blk_hit ?_ | refine blk_miss rfl ?_ | refine aWp_ret ?_ | refine aWp_skip ?_ | refine aWp_block ?_ | refine aWp_exit ?_ | refine end_ret ?_ | refine end_normal ?_) | ((refine rgA ?_); intro ν) | ((with_reducible apply cndT); exact rfl; (first | rfl | assumption)) | ((with_reducible apply cndF); exact rfl; (first | rfl | assumption)))
            refine aWp_loop (fun m s => ∃ F Tb ν k g10, m = 4 - k ∧ k ≤ 4 ∧ s = ⟨F, Tb, ν, ⟨fun t => t == 74 || t == 91 || t == 60 || t == 52 || t == 65 || t == 1000060, δ, true⟩⟩ ∧ F 0 = .k (.sl full key.length (aOfBytes key)) ∧ F 4 = .k (.int .i64 (n : Nat)) ∧ F 5 = .k (.sl false 256 (aOfBytes T)) ∧ F 7 = .ob 36 g 0 ∧ F 8 = .k (.int .u8 ((exP n i).toNat : Int)) ∧ F 9 = .k (.int .i64 (i : Nat)) ∧ F 10 = .os 91 g10 0 4 4 ∧ F 11 = .k (.int .i64 (k : Nat)) ∧ Tb 36 = some (g, .obj [.sl false 256 (aOfBytes T), .sl false 256 (aOfBytes B), .ow δ e g2 i 22 (wcs key T n i)]) ∧ Tb e = some (g2, .tag) ∧ Tb 91 = some (g10, .obj (aOfBytes (setN fu t1 k)))) 4 ⟨_, _, _, 0, _, rfl, Nat.zero_le _, rfl, rfl, rfl, rfl, rfl, rfl, rfl, rfl, rfl, rfl, ?_, rfl⟩ ?_
            · exact (by first | exact he2 | (simp only [upd, hne.out.1, hne.out.2.1, hne.out.2.2, if_false]; exact he2))
            rintro m s ⟨F, Tb, ν, k, g10, rfl, hk4, rfl, f0, f4, f5, f7, f8, f9, f10, f11, t36, he2, t10⟩
            rw [has8 f0 f4 f5 f7 f8 f9 f10 f11, has2 t36 t10]
            have hsl := setN_len fu t1 k
            have hsla := aOfBytes_len (setN fu t1 k)
            by_cases hlk : k < 4
            · have l1 := ld_b (setN fu t1 k) k (by omega)
              rw [setN_get fu t1 k k (Nat.le_refl _)] at l1
              have l2 := hTl2 (t1.getD k 0).toNat (hgl k)
              have hb2 := hgl k
              rw [hfk] at l2
              have hst := set_b (setN fu t1 k) (fu k) k (by omega)
              repeat (first | with_reducible (first | refine aWp_seq ?_ | refine seq_normal ?_ | refine seq_ret ?_ | refine seq_exit ?_ | refine blk_normal ?_ | refine blk_ret ?_ | refine blk_hit ?_ | refine blk_miss rfl ?_ | refine aWp_ret ?_ | refine aWp_skip ?_ | refine aWp_block ?_ | refine aWp_exit ?_ | refine end_ret ?_ | refine end_normal ?_) | ((refine rgA ?_); intro ν) | ((with_reducible apply cndT); exact rfl; (first | rfl | assumption)) | ((with_reducible apply cndF); exact rfl; (first | rfl | assumption)))
              refine ⟨4 - (k + 1), by omega, _, _, _, k + 1, _, rfl, by omega, rfl, rfl, rfl, rfl, rfl, rfl, rfl, rfl, ?_, rfl, (by first | exact he2 | (simp only [upd, hne.out.1, hne.out.2.1, hne.out.2.2, if_false]; exact he2)), ?_⟩
              · show (SV.k (.int .i64 ((k : Int) + 1)) : SV) = _
                rw [Int.natCast_succ]
              · rw [upd_same]
                exact congrArg (fun q => some (g10, Ent.obj q)) hst
            · have hke : k = 4 := by omega
              subst hke
              rw [← ht2]
              clear ht2
              repeat (first | with_reducible (first | refine aWp_seq ?_ | refine seq_normal ?_ | refine seq_ret ?_ | refine seq_exit ?_ | refine blk_normal ?_ | refine blk_ret ?_ | refine blk_hit ?_ | refine blk_miss rfl ?_ | refine aWp_ret ?_ | refine aWp_skip ?_ | refine aWp_block ?_ | refine aWp_exit ?_ | refine end_ret ?_ | refine end_normal ?_) | ((refine rgA ?_); intro ν) | ((with_reducible apply cndT); exact rfl; (first | rfl | assumption)) | ((with_reducible apply cndF); exact rfl; (first | rfl | assumption)))
              exact ⟨_, _, _, _, 91, rfl, rfl, rfl, rfl, rfl, rfl, rfl, rfl, rfl, (by first | exact he2 | (simp only [upd, hne.out.1, hne.out.2.1, hne.out.2.2, if_false]; exact he2)), rfl, .inl ⟨rfl, hm⟩⟩
        · have hmI : ¬ (i : Int) % (n : Int) = 0 := by omega
          by_cases hm4 : n = 8 ∧ i % 8 = 4
          · as_aux_lemma =>
              obtain ⟨hn8, hm4⟩ := hm4
              have hm4I : (i : Int) % 8 = 4 := by omega
              rw [if_pos (.inr ⟨hn8, hm4⟩)] at ht2
              rw [upd_self t10]
              repeat (first | with_reducible (first | refine aWp_seq ?_ | refine seq_normal ?_ | refine seq_ret ?_ | refine seq_exit ?_ | refine blk_normal ?_ | refine blk_ret ?_ | refine blk_hit ?_ | refine blk_miss rfl ?_ | refine aWp_ret ?_ | refine aWp_skip ?_ | refine aWp_block ?_ | refine aWp_exit ?_ | refine end_ret ?_ | refine end_normal ?_) | ((refine rgA ?_); intro ν) | ((with_reducible apply cndT); exact rfl; (first | rfl | assumption)) | ((with_reducible apply cndF); exact rfl; (first | rfl | assumption)))
              refine aWp_loop (fun m s => ∃ F Tb ν k g10, m = 4 - k ∧ k ≤ 4 ∧ s = ⟨F, Tb, ν, ⟨fun t => t == 74 || t == 91 || t == 60 || t == 52 || t == 65 || t == 1000060, δ, true⟩⟩ ∧ F 0 = .k (.sl full key.length (aOfBytes key)) ∧ F 4 = .k (.int .i64 (n : Nat)) ∧ F 5 = .k (.sl false 256 (aOfBytes T)) ∧ F 7 = .ob 36 g 0 ∧ F 8 = .k (.int .u8 ((exP n i).toNat : Int)) ∧ F 9 = .k (.int .i64 (i : Nat)) ∧ F 10 = .os 74 g10 0 4 4 ∧ F 11 = .k (.int .i64 (k : Nat)) ∧ Tb 36 = some (g, .obj [.sl false 256 (aOfBytes T), .sl false 256 (aOfBytes B), .ow δ e g2 i 22 (wcs key T n i)]) ∧ Tb e = some (g2, .tag) ∧ Tb 74 = some (g10, .obj (aOfBytes (setN fu t1 k)))) 4 ⟨_, _, _, 0, _, rfl, Nat.zero_le _, rfl, rfl, rfl, rfl, rfl, rfl, rfl, rfl, rfl, rfl, ?_, rfl⟩ ?_
              · exact (by first | exact he2 | (simp only [upd, hne.out.1, hne.out.2.1, hne.out.2.2, if_false]; exact he2))
              rintro m s ⟨F, Tb, ν, k, g10, rfl, hk4, rfl, f0, f4, f5, f7, f8, f9, f10, f11, t36, he2, t10⟩
              rw [has8 f0 f4 f5 f7 f8 f9 f10 f11, has2 t36 t10]
              have hsl := setN_len fu t1 k
              have hsla := aOfBytes_len (setN fu t1 k)
              by_cases hlk : k < 4
              · have l1 := ld_b (setN fu t1 k) k (by omega)
                rw [setN_get fu t1 k k (Nat.le_refl _)] at l1
                have l2 := hTl2 (t1.getD k 0).toNat (hgl k)
                have hb2 := hgl k
                rw [hfk] at l2
                have hst := set_b (setN fu t1 k) (fu k) k (by omega)
                repeat (first | with_reducible (first | refine aWp_seq ?_ | refine seq_normal ?_ | refine seq_ret ?_ | refine seq_exit ?_ | refine blk_normal ?_ | refine blk_ret ?_ | refine blk_hit ?_ | refine blk_miss rfl ?_ | refine aWp_ret ?_ | refine aWp_skip ?_ | refine aWp_block ?_ | refine aWp_exit ?_ | refine end_ret ?_ | refine end_normal ?_) | ((refine rgA ?_); intro ν) | ((with_reducible apply cndT); exact rfl; (first | rfl | assumption)) | ((with_reducible apply cndF); exact rfl; (first | rfl | assumption)))
                refine ⟨4 - (k + 1), by omega, _, _, _, k + 1, _, rfl, by omega, rfl, rfl, rfl, rfl, rfl, rfl, rfl, rfl, ?_, rfl, (by first | exact he2 | (simp only [upd, hne.out.1, hne.out.2.1, hne.out.2.2, if_false]; exact he2)), ?_⟩
                · show (SV.k (.int .i64 ((k : Int) + 1)) : SV) = _
                  rw [Int.natCast_succ]
                · rw [upd_same]
                  exact congrArg (fun q => some (g10, Ent.obj q)) hst
              · have hke : k = 4 := by omega
                subst hke
                rw [← ht2]
                clear ht2
                repeat (first | with_reducible (first | refine aWp_seq ?_ | refine seq_normal ?_ | refine seq_ret ?_ | refine seq_exit ?_ | refine blk_normal ?_ | refine blk_ret ?_ | refine blk_hit ?_ | refine blk_miss rfl ?_ | refine aWp_ret ?_ | refine aWp_skip ?_ | refine aWp_block ?_ | refine aWp_exit ?_ | refine end_ret ?_ | refine end_normal ?_) | ((refine rgA ?_); intro ν) | ((with_reducible apply cndT); exact rfl; (first | rfl | assumption)) | ((with_reducible apply cndF); exact rfl; (first | rfl | assumption)))
                exact ⟨_, _, _, _, 74, rfl, rfl, rfl, rfl, rfl, rfl, rfl, rfl, rfl, (by first | exact he2 | (simp only [upd, hne.out.1, hne.out.2.1, hne.out.2.2, if_false]; exact he2)), rfl, .inr ⟨rfl, hm⟩⟩
          · rw [if_neg (fun c => by rcases c with c | c; exact hm c; exact hm4 c)] at ht2
            by_cases hn8 : n = 8
            · as_aux_lemma =>
                have hm4I : ¬ (i : Int) % 8 = 4 := by omega
                rw [upd_self t10]
                repeat (first | with_reducible (first | refine aWp_seq ?_ | refine seq_normal ?_ | refine seq_ret ?_ | refine seq_exit ?_ | refine blk_normal ?_ | refine blk_ret ?_ | refine blk_hit ?_ | refine blk_miss rfl ?_ | refine aWp_ret ?_ | refine aWp_skip ?_ | refine aWp_block ?_ | refine aWp_exit ?_ | refine end_ret ?_ | refine end_normal ?_) | ((refine rgA ?_); intro ν) | ((with_reducible apply cndT); exact rfl; (first | rfl | assumption)) | ((with_reducible apply cndF); exact rfl; (first | rfl | assumption)))
                exact ⟨_, _, _, _, 74, rfl, rfl, rfl, rfl, rfl, rfl, rfl, rfl, rfl, (by first | exact he2 | (simp only [upd, hne.out.1, hne.out.2.1, hne.out.2.2, if_false]; exact he2)), (by rw [ht2]; rfl), .inr ⟨rfl, hm⟩⟩
            · as_aux_lemma =>
                rw [upd_self t10]
                repeat (first | with_reducible (first | refine aWp_seq ?_ | refine seq_normal ?_ | refine seq_ret ?_ | refine seq_exit ?_ | refine blk_normal ?_ | refine blk_ret ?_ | refine blk_hit ?_ | refine blk_miss rfl ?_ | refine aWp_ret ?_ | refine aWp_skip ?_ | refine aWp_block ?_ | refine aWp_exit ?_ | refine end_ret ?_ | refine end_normal ?_) | ((refine rgA ?_); intro ν) | ((with_reducible apply cndT); exact rfl; (first | rfl | assumption)) | ((with_reducible apply cndF); exact rfl; (first | rfl | assumption)))
                exact ⟨_, _, _, _, 74, rfl, rfl, rfl, rfl, rfl, rfl, rfl, rfl, rfl, (by first | exact he2 | (simp only [upd, hne.out.1, hne.out.2.1, hne.out.2.2, if_false]; exact he2)), (by rw [ht2]; rfl), .inr ⟨rfl, hm⟩⟩
    rintro s ⟨F, Tb, ν, g11, d11, rfl, f0, f4, f5, f7, f8, f9, f10, t36, he2, t10, hd⟩
    rw [has7 f0 f4 f5 f7 f8 f9 f10, has1 t36]
    refine aWp_seq ?_
    refine aWp_cut (fun s => ∃ F Tb ν g10 d10, s = ⟨F, Tb, ν, ⟨fun t => t == 74 || t == 91 || t == 60 || t == 52 || t == 65 || t == 1000060, δ, true⟩⟩ ∧ F 0 = .k (.sl full key.length (aOfBytes key)) ∧ F 4 = .k (.int .i64 (n : Nat)) ∧ F 5 = .k (.sl false 256 (aOfBytes T)) ∧ F 7 = .ob 36 g 0 ∧ F 8 = .k (.int .u8 ((exP n (i + 1)).toNat : Int)) ∧ F 9 = .k (.int .i64 (i : Nat)) ∧ F 10 = .os d10 g10 0 4 4 ∧ Tb 36 = some (g, .obj [.sl false 256 (aOfBytes T), .sl false 256 (aOfBytes B), .ow δ e g2 i 22 (wcs key T n i)]) ∧ Tb e = some (g2, .tag) ∧ Tb d10 = some (g10, .obj (aOfBytes (t3))) ∧ ((d10 = 91 ∧ i % n = 0) ∨ (d10 = 74 ∧ ¬ i % n = 0))) ?_ ?_
    · as_aux_lemma =>
        have ht3 := Ht3.out
        rcases hd with ⟨rfl, hm⟩ | ⟨rfl, hm⟩
        · have hmI : (i : Int) % (n : Int) = 0 := by omega
          rw [if_pos hm] at ht3
          have hpx : exP n (i + 1) = mulB (exP n i) 2 := by rw [exP, if_pos ⟨by omega, hm⟩]
          have s5 := rmul2 (exP n i)
          rw [← hpx] at s5
          have l1 := ld_b t2 0 (by omega)
          rw [List.drop_zero] at l1
          have hst := set_b t2 (t2.getD 0 0 ^^^ exP n i) 0 (by omega)
          rw [← ht3] at hst
          have hsla := aOfBytes_len t2
          rw [upd_self t10]
          clear ht3
          repeat (first | with_reducible (first | refine aWp_seq ?_ | refine seq_normal ?_ | refine seq_ret ?_ | refine seq_exit ?_ | refine blk_normal ?_ | refine blk_ret ?_ | refine blk_hit ?_ | refine blk_miss rfl ?_ | refine aWp_ret ?_ | refine aWp_skip ?_ | refine aWp_block ?_ | refine aWp_exit ?_ | refine end_ret ?_ | refine end_normal ?_) | ((refine rgA ?_); intro ν) | ((with_reducible apply cndT); exact rfl; (first | rfl | assumption)) | ((with_reducible apply cndF); exact rfl; (first | rfl | assumption)))
          refine rg fun K hK => ?_
          refine stA ?_
          (first | with_reducible refine g0 ?_ | ((with_reducible refine g1 ?_ ?_); (with_reducible apply gt_); exact rfl; exact rfl; (first | rfl | assumption | (simp [*] <;> done)))); refine scA (h2 := (s5)) (hk := ?_)
          refine stA ?_
          with_reducible refine rz ?_
          refine hK _ _ _ ?_
          clear hK K; intro ν
          repeat (first | with_reducible (first | refine aWp_seq ?_ | refine seq_normal ?_ | refine seq_ret ?_ | refine seq_exit ?_ | refine blk_normal ?_ | refine blk_ret ?_ | refine blk_hit ?_ | refine blk_miss rfl ?_ | refine aWp_ret ?_ | refine aWp_skip ?_ | refine aWp_block ?_ | refine aWp_exit ?_ | refine end_ret ?_ | refine end_normal ?_) | ((refine rgA ?_); intro ν) | ((with_reducible apply cndT); exact rfl; (first | rfl | assumption)) | ((with_reducible apply cndF); exact rfl; (first | rfl | assumption)))
          exact ⟨_, _, _, _, 91, rfl, rfl, rfl, rfl, rfl, rfl, rfl, rfl, rfl, (by first | exact he2 | (simp only [upd, hne.out.1, hne.out.2.1, hne.out.2.2, if_false]; exact he2)), congrArg (fun q => some (g11, Ent.obj q)) hst, .inl ⟨rfl, hm⟩⟩
        · have hmI : ¬ (i : Int) % (n : Int) = 0 := by omega
          have hpx : exP n (i + 1) = exP n i := by rw [exP, if_neg (fun c => hm c.2)]
          rw [if_neg hm] at ht3
          rw [hpx, upd_self t10]
          repeat (first | with_reducible (first | refine aWp_seq ?_ | refine seq_normal ?_ | refine seq_ret ?_ | refine seq_exit ?_ | refine blk_normal ?_ | refine blk_ret ?_ | refine blk_hit ?_ | refine blk_miss rfl ?_ | refine aWp_ret ?_ | refine aWp_skip ?_ | refine aWp_block ?_ | refine aWp_exit ?_ | refine end_ret ?_ | refine end_normal ?_) | ((refine rgA ?_); intro ν) | ((with_reducible apply cndT); exact rfl; (first | rfl | assumption)) | ((with_reducible apply cndF); exact rfl; (first | rfl | assumption)))
          exact ⟨_, _, _, _, 74, rfl, rfl, rfl, rfl, rfl, rfl, rfl, rfl, rfl, (by first | exact he2 | (simp only [upd, hne.out.1, hne.out.2.1, hne.out.2.2, if_false]; exact he2)), (by rw [ht3]; rfl), .inr ⟨rfl, hm⟩⟩
    rintro s ⟨F, Tb, ν, g12, d12, rfl, f0, f4, f5, f7, f8, f9, f10, t36, he2, t10, hd⟩
    rw [has7 f0 f4 f5 f7 f8 f9 f10, has1 t36]
    refine aWp_seq ?_
    refine aWp_cut (fun s => ∃ F Tb ν, s = ⟨F, Tb, ν, ⟨fun t => t == 74 || t == 91 || t == 60 || t == 52 || t == 65 || t == 1000060, δ, true⟩⟩ ∧ F 0 = .k (.sl full key.length (aOfBytes key)) ∧ F 4 = .k (.int .i64 (n : Nat)) ∧ F 5 = .k (.sl false 256 (aOfBytes T)) ∧ F 7 = .ob 36 g 0 ∧ F 8 = .k (.int .u8 ((exP n (i + 1)).toNat : Int)) ∧ F 9 = .k (.int .i64 (i : Nat)) ∧ F 10 = .k (.sl false 4 (aOfBytes (wd key T n i))) ∧ Tb 36 = some (g, .obj [.sl false 256 (aOfBytes T), .sl false 256 (aOfBytes B), .ow δ e g2 i 22 (wcs key T n i)]) ∧ Tb e = some (g2, .tag)) ?_ ?_
    · as_aux_lemma =>
        clear hfk Ht1 Ht2 Ht3 ht1l ht2l l0 hwp hwpa
        rcases hd with ⟨rfl, hm⟩ | ⟨rfl, hm⟩
        · as_aux_lemma =>
            rw [upd_self t10]
            repeat (first | with_reducible (first | refine aWp_seq ?_ | refine seq_normal ?_ | refine seq_ret ?_ | refine seq_exit ?_ | refine blk_normal ?_ | refine blk_ret ?_ | refine blk_hit ?_ | refine blk_miss rfl ?_ | refine aWp_ret ?_ | refine aWp_skip ?_ | refine aWp_block ?_ | refine aWp_exit ?_ | refine end_ret ?_ | refine end_normal ?_) | ((refine rgA ?_); intro ν) | ((with_reducible apply cndT); exact rfl; (first | rfl | assumption)) | ((with_reducible apply cndF); exact rfl; (first | rfl | assumption)))
            refine aWp_loop (fun m s => ∃ F Tb ν k g10, m = 4 - k ∧ k ≤ 4 ∧ s = ⟨F, Tb, ν, ⟨fun t => t == 74 || t == 91 || t == 60 || t == 52 || t == 65 || t == 1000060, δ, true⟩⟩ ∧ F 0 = .k (.sl full key.length (aOfBytes key)) ∧ F 4 = .k (.int .i64 (n : Nat)) ∧ F 5 = .k (.sl false 256 (aOfBytes T)) ∧ F 7 = .ob 36 g 0 ∧ F 8 = .k (.int .u8 ((exP n (i + 1)).toNat : Int)) ∧ F 9 = .k (.int .i64 (i : Nat)) ∧ F 10 = .os 91 g10 0 4 4 ∧ F 12 = .k (.int .i64 (k : Nat)) ∧ Tb 36 = some (g, .obj [.sl false 256 (aOfBytes T), .sl false 256 (aOfBytes B), .ow δ e g2 i 22 (wcs key T n i)]) ∧ Tb e = some (g2, .tag) ∧ Tb 91 = some (g10, .obj (aOfBytes (setN fx t3 k)))) 4 ⟨_, _, _, 0, _, rfl, Nat.zero_le _, rfl, rfl, rfl, rfl, rfl, rfl, rfl, rfl, rfl, rfl, ?_, rfl⟩ ?_
            · exact (by first | exact he2 | (simp only [upd, hne.out.1, hne.out.2.1, hne.out.2.2, if_false]; exact he2))
            rintro m s ⟨F, Tb, ν, k, g10, rfl, hk4, rfl, f0, f4, f5, f7, f8, f9, f10, f12, t36, he2, t10⟩
            rw [has8 f0 f4 f5 f7 f8 f9 f10 f12, has2 t36 t10]
            have hsl := setN_len fx t3 k
            have hsla := aOfBytes_len (setN fx t3 k)
            by_cases hlk : k < 4
            · have l1 := ld_b (setN fx t3 k) k (by omega)
              rw [setN_get fx t3 k k (Nat.le_refl _)] at l1
              have l2 := ld_b pw9 k (by omega)
              have hst := set_b (setN fx t3 k) (fx k) k (by omega)
              rw [show aOfBytes ((setN fx t3 k).set k (fx k)) = aOfBytes (setN fx t3 (k + 1)) from rfl, ← hfk9] at hst
              repeat (first | with_reducible (first | refine aWp_seq ?_ | refine seq_normal ?_ | refine seq_ret ?_ | refine seq_exit ?_ | refine blk_normal ?_ | refine blk_ret ?_ | refine blk_hit ?_ | refine blk_miss rfl ?_ | refine aWp_ret ?_ | refine aWp_skip ?_ | refine aWp_block ?_ | refine aWp_exit ?_ | refine end_ret ?_ | refine end_normal ?_) | ((refine rgA ?_); intro ν) | ((with_reducible apply cndT); exact rfl; (first | rfl | assumption)) | ((with_reducible apply cndF); exact rfl; (first | rfl | assumption)))
  
              refine rgxA [(5,[91],[]),(9,[36],[]),(20,[91],[91])] ?_
              intro ν
              repeat (first | with_reducible (first | refine aWp_seq ?_ | refine seq_normal ?_ | refine seq_ret ?_ | refine seq_exit ?_ | refine blk_normal ?_ | refine blk_ret ?_ | refine blk_hit ?_ | refine blk_miss rfl ?_ | refine aWp_ret ?_ | refine aWp_skip ?_ | refine aWp_block ?_ | refine aWp_exit ?_ | refine end_ret ?_ | refine end_normal ?_) | ((refine rgA ?_); intro ν) | ((with_reducible apply cndT); exact rfl; (first | rfl | assumption)) | ((with_reducible apply cndF); exact rfl; (first | rfl | assumption)))
              refine ⟨4 - (k + 1), by omega, _, _, _, k + 1, _, rfl, by omega, rfl, rfl, rfl, rfl, rfl, rfl, rfl, rfl, ?_, rfl, (by first | exact he2 | (simp only [upd, hne.out.1, hne.out.2.1, hne.out.2.2, if_false]; exact he2)), ?_⟩
              · show (SV.k (.int .i64 ((k : Int) + 1)) : SV) = _
                rw [Int.natCast_succ]
              · rw [upd_same]
                exact congrArg (fun q => some (g10, Ent.obj q)) hst
            · have hke : k = 4 := by omega
              subst hke
              rw [hW.out]
              have hsl4 := hsla
              rw [hW.out] at hsl4
              clear hsl hsla hW
              repeat with_reducible (first | refine aWp_seq ?_ | refine seq_normal ?_ | refine seq_ret ?_ | refine seq_exit ?_ | refine blk_normal ?_ | refine blk_ret ?_ | refine blk_hit ?_ | refine blk_miss rfl ?_ | refine aWp_ret ?_ | refine aWp_skip ?_ | refine aWp_block ?_ | refine aWp_exit ?_ | refine end_ret ?_ | refine end_normal ?_)
              refine rg fun K hK => ?_
              refine stA ?_
              refine rzs (t := 10) rfl rfl ?_
              refine hK _ _ _ ?_
              clear hK K; intro ν
              repeat (first | with_reducible (first | refine aWp_seq ?_ | refine seq_normal ?_ | refine seq_ret ?_ | refine seq_exit ?_ | refine blk_normal ?_ | refine blk_ret ?_ | refine blk_hit ?_ | refine blk_miss rfl ?_ | refine aWp_ret ?_ | refine aWp_skip ?_ | refine aWp_block ?_ | refine aWp_exit ?_ | refine end_ret ?_ | refine end_normal ?_) | ((refine rgA ?_); intro ν) | ((with_reducible apply cndT); exact rfl; (first | rfl | assumption)) | ((with_reducible apply cndF); exact rfl; (first | rfl | assumption)))
              exact ⟨_, _, _, rfl, rfl, rfl, rfl, rfl, rfl, rfl, rfl, rfl, (by first | exact he2 | (simp only [upd, hne.out.1, hne.out.2.1, hne.out.2.2, if_false]; exact he2))⟩
        · as_aux_lemma =>
            rw [upd_self t10]
            repeat (first | with_reducible (first | refine aWp_seq ?_ | refine seq_normal ?_ | refine seq_ret ?_ | refine seq_exit ?_ | refine blk_normal ?_ | refine blk_ret ?_ | refine blk_hit ?_ | refine blk_miss rfl ?_ | refine aWp_ret ?_ | refine aWp_skip ?_ | refine aWp_block ?_ | refine aWp_exit ?_ | refine end_ret ?_ | refine end_normal ?_) | ((refine rgA ?_); intro ν) | ((with_reducible apply cndT); exact rfl; (first | rfl | assumption)) | ((with_reducible apply cndF); exact rfl; (first | rfl | assumption)))
            refine aWp_loop (fun m s => ∃ F Tb ν k g10, m = 4 - k ∧ k ≤ 4 ∧ s = ⟨F, Tb, ν, ⟨fun t => t == 74 || t == 91 || t == 60 || t == 52 || t == 65 || t == 1000060, δ, true⟩⟩ ∧ F 0 = .k (.sl full key.length (aOfBytes key)) ∧ F 4 = .k (.int .i64 (n : Nat)) ∧ F 5 = .k (.sl false 256 (aOfBytes T)) ∧ F 7 = .ob 36 g 0 ∧ F 8 = .k (.int .u8 ((exP n (i + 1)).toNat : Int)) ∧ F 9 = .k (.int .i64 (i : Nat)) ∧ F 10 = .os 74 g10 0 4 4 ∧ F 12 = .k (.int .i64 (k : Nat)) ∧ Tb 36 = some (g, .obj [.sl false 256 (aOfBytes T), .sl false 256 (aOfBytes B), .ow δ e g2 i 22 (wcs key T n i)]) ∧ Tb e = some (g2, .tag) ∧ Tb 74 = some (g10, .obj (aOfBytes (setN fx t3 k)))) 4 ⟨_, _, _, 0, _, rfl, Nat.zero_le _, rfl, rfl, rfl, rfl, rfl, rfl, rfl, rfl, rfl, rfl, ?_, rfl⟩ ?_
            · exact (by first | exact he2 | (simp only [upd, hne.out.1, hne.out.2.1, hne.out.2.2, if_false]; exact he2))
            rintro m s ⟨F, Tb, ν, k, g10, rfl, hk4, rfl, f0, f4, f5, f7, f8, f9, f10, f12, t36, he2, t10⟩
            rw [has8 f0 f4 f5 f7 f8 f9 f10 f12, has2 t36 t10]
            have hsl := setN_len fx t3 k
            have hsla := aOfBytes_len (setN fx t3 k)
            by_cases hlk : k < 4
            · have l1 := ld_b (setN fx t3 k) k (by omega)
              rw [setN_get fx t3 k k (Nat.le_refl _)] at l1
              have l2 := ld_b pw9 k (by omega)
              have hst := set_b (setN fx t3 k) (fx k) k (by omega)
              rw [show aOfBytes ((setN fx t3 k).set k (fx k)) = aOfBytes (setN fx t3 (k + 1)) from rfl, ← hfk9] at hst
              repeat (first | with_reducible (first | refine aWp_seq ?_ | refine seq_normal ?_ | refine seq_ret ?_ | refine seq_exit ?_ | refine blk_normal ?_ | refine blk_ret ?_ | refine blk_hit ?_ | refine blk_miss rfl ?_ | refine aWp_ret ?_ | refine aWp_skip ?_ | refine aWp_block ?_ | refine aWp_exit ?_ | refine end_ret ?_ | refine end_normal ?_) | ((refine rgA ?_); intro ν) | ((with_reducible apply cndT); exact rfl; (first | rfl | assumption)) | ((with_reducible apply cndF); exact rfl; (first | rfl | assumption)))
  
              refine rgxA [(5,[74],[]),(9,[36],[]),(20,[74],[74])] ?_
              intro ν
              repeat (first | with_reducible (first | refine aWp_seq ?_ | refine seq_normal ?_ | refine seq_ret ?_ | refine seq_exit ?_ | refine blk_normal ?_ | refine blk_ret ?_ | refine blk_hit ?_ | refine blk_miss rfl ?_ | refine aWp_ret ?_ | refine aWp_skip ?_ | refine aWp_block ?_ | refine aWp_exit ?_ | refine end_ret ?_ | refine end_normal ?_) | ((refine rgA ?_); intro ν) | ((with_reducible apply cndT); exact rfl; (first | rfl | assumption)) | ((with_reducible apply cndF); exact rfl; (first | rfl | assumption)))
              refine ⟨4 - (k + 1), by omega, _, _, _, k + 1, _, rfl, by omega, rfl, rfl, rfl, rfl, rfl, rfl, rfl, rfl, ?_, rfl, (by first | exact he2 | (simp only [upd, hne.out.1, hne.out.2.1, hne.out.2.2, if_false]; exact he2)), ?_⟩
              · show (SV.k (.int .i64 ((k : Int) + 1)) : SV) = _
                rw [Int.natCast_succ]
              · rw [upd_same]
                exact congrArg (fun q => some (g10, Ent.obj q)) hst
            · have hke : k = 4 := by omega
              subst hke
              rw [hW.out]
              have hsl4 := hsla
              rw [hW.out] at hsl4
              clear hsl hsla hW
              repeat with_reducible (first | refine aWp_seq ?_ | refine seq_normal ?_ | refine seq_ret ?_ | refine seq_exit ?_ | refine blk_normal ?_ | refine blk_ret ?_ | refine blk_hit ?_ | refine blk_miss rfl ?_ | refine aWp_ret ?_ | refine aWp_skip ?_ | refine aWp_block ?_ | refine aWp_exit ?_ | refine end_ret ?_ | refine end_normal ?_)
              refine rg fun K hK => ?_
              refine stA ?_
              refine rzs (t := 10) rfl rfl ?_
              refine hK _ _ _ ?_
              clear hK K; intro ν
              repeat (first | with_reducible (first | refine aWp_seq ?_ | refine seq_normal ?_ | refine seq_ret ?_ | refine seq_exit ?_ | refine blk_normal ?_ | refine blk_ret ?_ | refine blk_hit ?_ | refine blk_miss rfl ?_ | refine aWp_ret ?_ | refine aWp_skip ?_ | refine aWp_block ?_ | refine aWp_exit ?_ | refine end_ret ?_ | refine end_normal ?_) | ((refine rgA ?_); intro ν) | ((with_reducible apply cndT); exact rfl; (first | rfl | assumption)) | ((with_reducible apply cndF); exact rfl; (first | rfl | assumption)))
              exact ⟨_, _, _, rfl, rfl, rfl, rfl, rfl, rfl, rfl, rfl, rfl, (by first | exact he2 | (simp only [upd, hne.out.1, hne.out.2.1, hne.out.2.2, if_false]; exact he2))⟩
    rintro s ⟨F, Tb, ν, rfl, f0, f4, f5, f7, f8, f9, f10, t36, he2⟩
    rw [has7 f0 f4 f5 f7 f8 f9 f10, has1 t36]
    clear hfk hfk9 Ht1 Ht2 Ht3 ht1l ht2l ht3l hW
    rcases he'.out with ⟨rfl, hin'⟩ | ⟨rfl, hin'⟩
    · as_aux_lemma =>
        rw [upd_self he2]
        repeat (first | with_reducible (first | refine aWp_seq ?_ | refine seq_normal ?_ | refine seq_ret ?_ | refine seq_exit ?_ | refine blk_normal ?_ | refine blk_ret ?_ | refine blk_hit ?_ | refine blk_miss rfl ?_ | refine aWp_ret ?_ | refine aWp_skip ?_ | refine aWp_block ?_ | refine aWp_exit ?_ | refine end_ret ?_ | refine end_normal ?_) | ((refine rgA ?_); intro ν) | ((with_reducible apply cndT); exact rfl; (first | rfl | assumption)) | ((with_reducible apply cndF); exact rfl; (first | rfl | assumption)))
        refine ⟨N - (i + 1), by omega, _, _, _, i + 1, g, _, rfl, by omega, rfl, rfl, rfl, rfl, rfl, rfl, ?_, rfl, .inr ⟨164, _, .inr ⟨rfl, by omega⟩, by omega, ?_, rfl⟩⟩
        · show (SV.k (.int .i64 ((i : Int) + 1)) : SV) = _
          rw [Int.natCast_succ]
        · rw [hnx]
    · as_aux_lemma =>
        rw [upd_self he2]
        repeat (first | with_reducible (first | refine aWp_seq ?_ | refine seq_normal ?_ | refine seq_ret ?_ | refine seq_exit ?_ | refine blk_normal ?_ | refine blk_ret ?_ | refine blk_hit ?_ | refine blk_miss rfl ?_ | refine aWp_ret ?_ | refine aWp_skip ?_ | refine aWp_block ?_ | refine aWp_exit ?_ | refine end_ret ?_ | refine end_normal ?_) | ((refine rgA ?_); intro ν) | ((with_reducible apply cndT); exact rfl; (first | rfl | assumption)) | ((with_reducible apply cndF); exact rfl; (first | rfl | assumption)))
        refine ⟨N - (i + 1), by omega, _, _, _, i + 1, g, _, rfl, by omega, rfl, rfl, rfl, rfl, rfl, rfl, ?_, rfl, .inr ⟨164, _, .inr ⟨rfl, by omega⟩, by omega, ?_, rfl⟩⟩
        · show (SV.k (.int .i64 ((i : Int) + 1)) : SV) = _
          rw [Int.natCast_succ]
        · rw [hnx]
  · as_aux_lemma =>
      have hiN : i = N := by omega
      rcases hx with ⟨h, _⟩ | ⟨e, g2, he, hi0, rfl, he2⟩
      · omega
      obtain ⟨rfl, _⟩ : e = 164 ∧ n < i := by rcases he with h | h <;> omega
      subst hiN
      rw [upd_self he2]
      repeat with_reducible (first | refine aWp_seq ?_ | refine seq_normal ?_ | refine seq_ret ?_ | refine seq_exit ?_ | refine blk_normal ?_ | refine blk_ret ?_ | refine blk_hit ?_ | refine blk_miss rfl ?_ | refine aWp_ret ?_ | refine aWp_skip ?_ | refine aWp_block ?_ | refine aWp_exit ?_ | refine end_ret ?_ | refine end_normal ?_)
      refine rgA ?_
      intro ν
      repeat with_reducible (first | refine aWp_seq ?_ | refine seq_normal ?_ | refine seq_ret ?_ | refine seq_exit ?_ | refine blk_normal ?_ | refine blk_ret ?_ | refine blk_hit ?_ | refine blk_miss rfl ?_ | refine aWp_ret ?_ | refine aWp_skip ?_ | refine aWp_block ?_ | refine aWp_exit ?_ | refine end_ret ?_ | refine end_normal ?_)
      (with_reducible apply cndF); exact rfl; (first | rfl | assumption | (simp [*] <;> done))
      repeat with_reducible (first | refine aWp_seq ?_ | refine seq_normal ?_ | refine seq_ret ?_ | refine seq_exit ?_ | refine blk_normal ?_ | refine blk_ret ?_ | refine blk_hit ?_ | refine blk_miss rfl ?_ | refine aWp_ret ?_ | refine aWp_skip ?_ | refine aWp_block ?_ | refine aWp_exit ?_ | refine end_ret ?_ | refine end_normal ?_)
      refine rg fun K hK => ?_
      refine stA ?_
      refine rzp (t := 2) rfl rfl ?_
      refine hK _ _ _ ?_
      clear hK K; intro ν
      repeat with_reducible (first | refine aWp_seq ?_ | refine seq_normal ?_ | refine seq_ret ?_ | refine seq_exit ?_ | refine blk_normal ?_ | refine blk_ret ?_ | refine blk_hit ?_ | refine blk_miss rfl ?_ | refine aWp_ret ?_ | refine aWp_skip ?_ | refine aWp_block ?_ | refine aWp_exit ?_ | refine end_ret ?_ | refine end_normal ?_)
      (first | with_reducible refine end_r ?_ | with_reducible refine end_n ?_)
      exact end2W rfl rfl arg_ arg_ (wk_tup2 (wk_cp (wkL_last (cs := [.sl false 256 (aOfBytes T), .sl false 256 (aOfBytes B)]) wk_ow)) (Wk.of_eq rfl))
end Go.Proofs.Ytmbnclpgldglnaa
