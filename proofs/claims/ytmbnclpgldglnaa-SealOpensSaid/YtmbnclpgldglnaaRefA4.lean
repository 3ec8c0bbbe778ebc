import Derived.Test.YtmbnclpgldglnaaMg2
namespace Go.Proofs.Ytmbnclpgldglnaa
open Go.RowKit
set_option linter.unusedVariables false
set_option linter.unusedSimpArgs false
set_option maxRecDepth 20000
def zl16 : List UInt8 := List.replicate 16 0
theorem zl16_av : aZeros 16 1 [AV.int .u8 0] = aOfBytes zl16 := rfl
theorem mulB_comm (a b : UInt8) : mulB a b = mulB b a := by unfold mulB; rw [gmul_comm]
theorem mulB_one (a : UInt8) : mulB a 1 = a := by
  have h : ∀ v : BitVec 8, mulB (UInt8.ofBitVec v) 1 = UInt8.ofBitVec v := by decide +kernel
  exact h a.toBitVec
theorem mixF_at (t : List UInt8) (c j : Nat) (hj : j < 4) : mixF t [2, 3, 1, 1] (4 * c + j) = 0 ^^^ mulB (t.getD (4 * c + j) 0) 2 ^^^ mulB (t.getD (4 * c + (j + 1) % 4) 0) 3 ^^^ t.getD (4 * c + (j + 2) % 4) 0 ^^^ t.getD (4 * c + (j + 3) % 4) 0 := by
  have e : ∀ k, (4 * c + j) / 4 * 4 + (4 * c + j + k) % 4 = 4 * c + (j + k) % 4 := fun k => by omega
  have e0 : (j + 0) % 4 = j := by omega
  show (((0 ^^^ mulB (t.getD _ 0) 2) ^^^ mulB (t.getD _ 0) 3) ^^^ mulB (t.getD _ 0) 1) ^^^ mulB (t.getD _ 0) 1 = _
  rw [e, e, e, e, e0, mulB_one, mulB_one]
set_option maxHeartbeats 16000000 in
theorem renc_news {K : List UInt8} {N : Nat} {ws : List AV} {wf : Nat → List UInt8} (h : RC K N ws wf) (T B b : List UInt8) (full : Bool) (L : Nat) (hb : b.length = 16) (hN : N = 4 * L + 4) (hL : L ≤ 100) (hL0 : 0 < L) (hT : T.length = 256) :
    Spec Try.prog 19 [.cp (rcC T B N ws), .sl full 16 (aOfBytes b)] (.news 16 (aOfBytes (encN T K b (L + 1) L))) := by
  have s1 := radd_spec h T B b full 0 hb (by omega) (by omega)
  have s2 := fun (x : List UInt8) (hx : x.length = 16) (r : Nat) (hr : r ≤ L) => radd_spec h T B x false r hx (by omega) (by omega)
  have hba := aOfBytes_len b
  have hTa := aOfBytes_len T
  have hq : (N : Int) / 4 - 1 = ((L : Nat) : Int) := by omega
  have hwl := h.wl
  unfold rcC at *
  have s2n := fun (x : List UInt8) (hx : x.length = 16) (r : Nat) (hr : r ≤ L) => radd_news h T B x false r hx (by omega) (by omega)
  refine spec_of_news (fun t => t == 31) (by kernel_rfl) Try.func19 rfl rfl (by simp [Try.ntmps19]) (by decide) ?_
  intro δ
  rw [init2]
  repeat with_reducible (first | refine aWp_seq ?_ | refine seq_normal ?_ | refine seq_ret ?_ | refine seq_exit ?_ | refine blk_normal ?_ | refine blk_ret ?_ | refine blk_hit ?_ | refine blk_miss rfl ?_ | refine aWp_ret ?_ | refine aWp_skip ?_ | refine aWp_block ?_ | refine aWp_exit ?_ | refine end_ret ?_ | refine end_normal ?_)
  refine rgA ?_
  intro ν
  repeat with_reducible (first | refine aWp_seq ?_ | refine seq_normal ?_ | refine seq_ret ?_ | refine seq_exit ?_ | refine blk_normal ?_ | refine blk_ret ?_ | refine blk_hit ?_ | refine blk_miss rfl ?_ | refine aWp_ret ?_ | refine aWp_skip ?_ | refine aWp_block ?_ | refine aWp_exit ?_ | refine end_ret ?_ | refine end_normal ?_)
  refine rgA ?_
  intro ν
  rw [hq]
  repeat with_reducible (first | refine aWp_seq ?_ | refine seq_normal ?_ | refine seq_ret ?_ | refine seq_exit ?_ | refine blk_normal ?_ | refine blk_ret ?_ | refine blk_hit ?_ | refine blk_miss rfl ?_ | refine aWp_ret ?_ | refine aWp_skip ?_ | refine aWp_block ?_ | refine aWp_exit ?_ | refine end_ret ?_ | refine end_normal ?_)
  refine rg fun K hK => ?_
  refine stA ?_
  (first | with_reducible refine g0 ?_ | ((with_reducible refine g1 ?_ ?_); (with_reducible apply gt_); exact rfl; exact rfl; (first | rfl | assumption | (simp [*] <;> done)))); refine scA (h2 := (s1)) (hk := ?_)
  refine stA ?_
  with_reducible refine rz ?_
  refine hK _ _ _ ?_
  clear hK K; intro ν
  repeat (first | with_reducible (first | refine aWp_seq ?_ | refine seq_normal ?_ | refine seq_ret ?_ | refine seq_exit ?_ | refine blk_normal ?_ | refine blk_ret ?_ | refine blk_hit ?_ | refine blk_miss rfl ?_ | refine aWp_ret ?_ | refine aWp_skip ?_ | refine aWp_block ?_ | refine aWp_exit ?_ | refine end_ret ?_ | refine end_normal ?_) | ((refine rgA ?_); intro ν) | ((with_reducible apply cndT); exact rfl; (first | rfl | assumption)) | ((with_reducible apply cndF); exact rfl; (first | rfl | assumption)))
  refine aWp_loop (fun m s => ∃ F T' ν i s0, m = L - i ∧ i ≤ L ∧ s = ⟨F, T', ν, ⟨fun t => t == 31, δ, false⟩⟩ ∧ F 0 = .k (.cp [.sl false 256 (aOfBytes T), .sl false 256 (aOfBytes B), .sl false N ws]) ∧ F 5 = .k (.int .i64 (L : Nat)) ∧ F 7 = .k (.int .i64 ((i + 1 : Nat) : Int)) ∧ s0 = encN T K b (L + 1) i ∧ ((i < L ∧ F 6 = .k (.sl false 16 (aOfBytes s0))) ∨ (i = L ∧ ∃ g, F 6 = .os 151 g 0 16 16 ∧ T' 151 = some (g, .obj (aOfBytes s0))))) L ⟨_, _, _, 0, _, rfl, Nat.zero_le _, rfl, rfl, rfl, rfl, rfl, .inl ⟨hL0, rfl⟩⟩ ?_
  rintro m s ⟨F, T', ν, i, s0, rfl, hi, rfl, f0, f5, f7, hs0, hx⟩
  have hsl : s0.length = 16 := by rw [hs0]; exact encN_len _ _ _ _ _
  have hsa := aOfBytes_len s0
  by_cases hli : i < L
  · obtain ⟨_, f6⟩ : i < L ∧ F 6 = .k (.sl false 16 (aOfBytes s0)) := by
      rcases hx with h | ⟨h, _⟩
      · exact h
      · omega
    rw [has4 f0 f5 f6 f7]
    clear hx
    have hnx : encN T K b (L + 1) (i + 1) = encS T K s0 (L + 1) (i + 1) := by rw [hs0]; rfl
    have Hnx := Lib.hid hnx
    clear hnx hs0
    repeat (first | with_reducible (first | refine aWp_seq ?_ | refine seq_normal ?_ | refine seq_ret ?_ | refine seq_exit ?_ | refine blk_normal ?_ | refine blk_ret ?_ | refine blk_hit ?_ | refine blk_miss rfl ?_ | refine aWp_ret ?_ | refine aWp_skip ?_ | refine aWp_block ?_ | refine aWp_exit ?_ | refine end_ret ?_ | refine end_normal ?_) | ((refine rgA ?_); intro ν) | ((with_reducible apply cndT); exact rfl; (first | rfl | assumption)) | ((with_reducible apply cndF); exact rfl; (first | rfl | assumption)))
    refine aWp_loop (fun m s => ∃ F T' ν c g, m = 4 - c ∧ c ≤ 4 ∧ s = ⟨F, T', ν, ⟨fun t => t == 31, δ, false⟩⟩ ∧ F 0 = .k (.cp [.sl false 256 (aOfBytes T), .sl false 256 (aOfBytes B), .sl false N ws]) ∧ F 5 = .k (.int .i64 (L : Nat)) ∧ F 6 = .k (.sl false 16 (aOfBytes s0)) ∧ F 7 = .k (.int .i64 ((i + 1 : Nat) : Int)) ∧ F 8 = .os 31 g 0 16 16 ∧ F 9 = .k (.int .i64 (c : Nat)) ∧ T' 31 = some (g, .obj (aOfBytes (setN (shiftF T s0 1) zl16 (4 * c))))) 4 ⟨_, _, _, 0, _, rfl, Nat.zero_le _, rfl, rfl, rfl, rfl, rfl, rfl, rfl, by rw [zl16_av]; rfl⟩ ?_
    rintro m s ⟨F, T', ν, c, g, rfl, hc, rfl, f0, f5, f6, f7, f8, f9, t31⟩
    rw [has6 f0 f5 f6 f7 f8 f9, has1 t31]
    by_cases hlc : c < 4
    · as_aux_lemma =>
        repeat (first | with_reducible (first | refine aWp_seq ?_ | refine seq_normal ?_ | refine seq_ret ?_ | refine seq_exit ?_ | refine blk_normal ?_ | refine blk_ret ?_ | refine blk_hit ?_ | refine blk_miss rfl ?_ | refine aWp_ret ?_ | refine aWp_skip ?_ | refine aWp_block ?_ | refine aWp_exit ?_ | refine end_ret ?_ | refine end_normal ?_) | ((refine rgA ?_); intro ν) | ((with_reducible apply cndT); exact rfl; (first | rfl | assumption)) | ((with_reducible apply cndF); exact rfl; (first | rfl | assumption)))
        refine aWp_loop (fun m s => ∃ F T' ν r g, m = 4 - r ∧ r ≤ 4 ∧ s = ⟨F, T', ν, ⟨fun t => t == 31, δ, false⟩⟩ ∧ F 0 = .k (.cp [.sl false 256 (aOfBytes T), .sl false 256 (aOfBytes B), .sl false N ws]) ∧ F 5 = .k (.int .i64 (L : Nat)) ∧ F 6 = .k (.sl false 16 (aOfBytes s0)) ∧ F 7 = .k (.int .i64 ((i + 1 : Nat) : Int)) ∧ F 8 = .os 31 g 0 16 16 ∧ F 9 = .k (.int .i64 (c : Nat)) ∧ F 10 = .k (.int .i64 (r : Nat)) ∧ T' 31 = some (g, .obj (aOfBytes (setN (shiftF T s0 1) zl16 (4 * c + r))))) 4 ⟨_, _, _, 0, _, rfl, Nat.zero_le _, rfl, rfl, rfl, rfl, rfl, rfl, rfl, rfl, rfl⟩ ?_
        rintro m s ⟨F, T', ν, r, g, rfl, hr, rfl, f0, f5, f6, f7, f8, f9, f10, t31⟩
        rw [has7 f0 f5 f6 f7 f8 f9 f10, has1 t31]
        have hzl := setN_len (shiftF T s0 1) zl16 (4 * c + r)
        have hzl16 : zl16.length = 16 := rfl
        have hza := aOfBytes_len (setN (shiftF T s0 1) zl16 (4 * c + r))
        by_cases hlr : r < 4
        · have e1 : (4 * (((c : Int) + (r : Int)) % 4) + (r : Int)).toNat = shIdx 1 (4 * c + r) := by
            have q1 : (((4 * c + r : Nat) : Int)) / 4 = (c : Int) := by omega
            have q2 : (((4 * c + r : Nat) : Int)) % 4 = (r : Int) := by omega
            have q3 : ((c : Int) + 1 * (r : Int) + 16) % 4 = ((c : Int) + (r : Int)) % 4 := by omega
            unfold shIdx; rw [q1, q2, q3]; omega
          have hsi : shIdx 1 (4 * c + r) < 16 := by unfold shIdx; omega
          have l1 := ld_b s0 (shIdx 1 (4 * c + r)) (by omega)
          have hv : shiftF T s0 1 (4 * c + r) = T.getD (s0.getD (shIdx 1 (4 * c + r)) 0).toNat 0 := rfl
          have hst := set_b (setN (shiftF T s0 1) zl16 (4 * c + r)) (shiftF T s0 1 (4 * c + r)) (4 * c + r) (by omega)
          rw [show aOfBytes ((setN (shiftF T s0 1) zl16 (4 * c + r)).set (4 * c + r) (shiftF T s0 1 (4 * c + r))) = aOfBytes (setN (shiftF T s0 1) zl16 (4 * c + (r + 1))) from rfl, hv] at hst
          generalize s0.getD (shIdx 1 (4 * c + r)) 0 = y at *
          rw [← e1] at l1
          have hy := y.toNat_lt
          have l2 := ld_b T y.toNat (by omega)
          have e2 : (4 * (c : Int) + (r : Int)).toNat = 4 * c + r := by omega
          rw [← e2] at hst
          clear hv e1 hsi
          repeat (first | with_reducible (first | refine aWp_seq ?_ | refine seq_normal ?_ | refine seq_ret ?_ | refine seq_exit ?_ | refine blk_normal ?_ | refine blk_ret ?_ | refine blk_hit ?_ | refine blk_miss rfl ?_ | refine aWp_ret ?_ | refine aWp_skip ?_ | refine aWp_block ?_ | refine aWp_exit ?_ | refine end_ret ?_ | refine end_normal ?_) | ((refine rgA ?_); intro ν) | ((with_reducible apply cndT); exact rfl; (first | rfl | assumption)) | ((with_reducible apply cndF); exact rfl; (first | rfl | assumption)))
          refine rgxA [(23,[31],[31])] ?_
          intro ν
          repeat (first | with_reducible (first | refine aWp_seq ?_ | refine seq_normal ?_ | refine seq_ret ?_ | refine seq_exit ?_ | refine blk_normal ?_ | refine blk_ret ?_ | refine blk_hit ?_ | refine blk_miss rfl ?_ | refine aWp_ret ?_ | refine aWp_skip ?_ | refine aWp_block ?_ | refine aWp_exit ?_ | refine end_ret ?_ | refine end_normal ?_) | ((refine rgA ?_); intro ν) | ((with_reducible apply cndT); exact rfl; (first | rfl | assumption)) | ((with_reducible apply cndF); exact rfl; (first | rfl | assumption)))
          refine ⟨4 - (r + 1), by omega, _, _, _, r + 1, _, rfl, by omega, rfl, rfl, rfl, rfl, rfl, rfl, rfl, ?_, ?_⟩
          · show (SV.k (.int .i64 ((r : Int) + 1)) : SV) = _
            rw [Int.natCast_succ]
          · rw [upd_same]
            exact congrArg (fun q => some (g, Ent.obj q)) hst
        · have hre : r = 4 := by omega
          subst hre
          repeat (first | with_reducible (first | refine aWp_seq ?_ | refine seq_normal ?_ | refine seq_ret ?_ | refine seq_exit ?_ | refine blk_normal ?_ | refine blk_ret ?_ | refine blk_hit ?_ | refine blk_miss rfl ?_ | refine aWp_ret ?_ | refine aWp_skip ?_ | refine aWp_block ?_ | refine aWp_exit ?_ | refine end_ret ?_ | refine end_normal ?_) | ((refine rgA ?_); intro ν) | ((with_reducible apply cndT); exact rfl; (first | rfl | assumption)) | ((with_reducible apply cndF); exact rfl; (first | rfl | assumption)))
          refine ⟨4 - (c + 1), by omega, _, _, _, c + 1, _, rfl, by omega, rfl, rfl, rfl, rfl, rfl, rfl, ?_, rfl⟩
          show (SV.k (.int .i64 ((c : Int) + 1)) : SV) = _
          rw [Int.natCast_succ]
    · have hce : c = 4 := by omega
      subst hce
      have hzl : zl16.length = 16 := rfl
      rw [show setN (shiftF T s0 1) zl16 (4 * 4) = shiftB T s0 1 from setN_all _ _ _ hzl]
      obtain ⟨t0, ht0⟩ : ∃ t0, t0 = shiftB T s0 1 := ⟨_, rfl⟩
      have ht0l : t0.length = 16 := by rw [ht0]; exact shiftB_len _ _ _
      rw [← ht0]
      have Ht0 := Lib.hid ht0
      clear f8 f9 t31 ht0
      have hta := aOfBytes_len t0
      by_cases hm : i + 1 < L
      · have hX : encN T K b (L + 1) (i + 1) = addK K (mixB t0 [2, 3, 1, 1]) (i + 1) := by rw [Hnx.out, encS, if_pos (by omega), ← Ht0.out]
        have HX := Lib.hid hX
        clear hX Hnx Ht0
        repeat (first | with_reducible (first | refine aWp_seq ?_ | refine seq_normal ?_ | refine seq_ret ?_ | refine seq_exit ?_ | refine blk_normal ?_ | refine blk_ret ?_ | refine blk_hit ?_ | refine blk_miss rfl ?_ | refine aWp_ret ?_ | refine aWp_skip ?_ | refine aWp_block ?_ | refine aWp_exit ?_ | refine end_ret ?_ | refine end_normal ?_) | ((refine rgA ?_); intro ν) | ((with_reducible apply cndT); exact rfl; (first | rfl | assumption)) | ((with_reducible apply cndF); exact rfl; (first | rfl | assumption)))
        refine aWp_loop (fun m s => ∃ F T' ν c g, m = 4 - c ∧ c ≤ 4 ∧ s = ⟨F, T', ν, ⟨fun t => t == 31, δ, false⟩⟩ ∧ F 0 = .k (.cp [.sl false 256 (aOfBytes T), .sl false 256 (aOfBytes B), .sl false N ws]) ∧ F 5 = .k (.int .i64 (L : Nat)) ∧ F 6 = .k (.sl false 16 (aOfBytes s0)) ∧ F 7 = .k (.int .i64 ((i + 1 : Nat) : Int)) ∧ F 8 = .os 31 g 0 16 16 ∧ F 11 = .k (.int .i64 (c : Nat)) ∧ T' 31 = some (g, .obj (aOfBytes (setN (mixF t0 [2, 3, 1, 1]) t0 (4 * c))))) 4 ⟨_, _, _, 0, _, rfl, Nat.zero_le _, rfl, rfl, rfl, rfl, rfl, rfl, rfl, rfl⟩ ?_
        rintro m s ⟨F, T', ν, c, g, rfl, hc, rfl, f0, f5, f6, f7, f8, f11, t31⟩
        rw [has6 f0 f5 f6 f7 f8 f11, has1 t31]
        by_cases hlc : c < 4
        · as_aux_lemma =>
            have k0 := mixF_at t0 c 0 (by omega)
            have k1 := mixF_at t0 c 1 (by omega)
            have k2 := mixF_at t0 c 2 (by omega)
            have k3 := mixF_at t0 c 3 (by omega)
            simp only [Nat.reduceAdd, Nat.reduceMod, Nat.add_zero, UInt8.zero_xor] at k0 k1 k2 k3
            have n1 : ∀ j, j ≤ 4 → (setN (mixF t0 [2, 3, 1, 1]) t0 (4 * c + j)).length = 16 := fun j _ => by rw [setN_len]; exact ht0l
            have l0 := ld_b (setN (mixF t0 [2, 3, 1, 1]) t0 (4 * c)) (4 * c) (by rw [setN_len]; omega)
            have l1 := ld_b (setN (mixF t0 [2, 3, 1, 1]) t0 (4 * c)) (4 * c + 1) (by rw [setN_len]; omega)
            have l2 := ld_b (setN (mixF t0 [2, 3, 1, 1]) t0 (4 * c)) (4 * c + 2) (by rw [setN_len]; omega)
            have l3 := ld_b (setN (mixF t0 [2, 3, 1, 1]) t0 (4 * c)) (4 * c + 3) (by rw [setN_len]; omega)
            rw [setN_get _ _ _ _ (by omega)] at l0 l1 l2 l3
            have q0 := set_b (setN (mixF t0 [2, 3, 1, 1]) t0 (4 * c)) (mixF t0 [2, 3, 1, 1] (4 * c)) (4 * c) (by rw [setN_len]; omega)
            have q1 := set_b (setN (mixF t0 [2, 3, 1, 1]) t0 (4 * c + 1)) (mixF t0 [2, 3, 1, 1] (4 * c + 1)) (4 * c + 1) (by rw [setN_len]; omega)
            have q2 := set_b (setN (mixF t0 [2, 3, 1, 1]) t0 (4 * c + 2)) (mixF t0 [2, 3, 1, 1] (4 * c + 2)) (4 * c + 2) (by rw [setN_len]; omega)
            have q3 := set_b (setN (mixF t0 [2, 3, 1, 1]) t0 (4 * c + 3)) (mixF t0 [2, 3, 1, 1] (4 * c + 3)) (4 * c + 3) (by rw [setN_len]; omega)
            change _ = aOfBytes (setN (mixF t0 [2, 3, 1, 1]) t0 (4 * c + 1)) at q0
            change _ = aOfBytes (setN (mixF t0 [2, 3, 1, 1]) t0 (4 * c + 2)) at q1
            change _ = aOfBytes (setN (mixF t0 [2, 3, 1, 1]) t0 (4 * c + 3)) at q2
            change _ = aOfBytes (setN (mixF t0 [2, 3, 1, 1]) t0 (4 * (c + 1))) at q3
            rw [k0] at q0
            rw [k1] at q1
            rw [k2] at q2
            rw [k3] at q3
            have w0 := setN_len (mixF t0 [2, 3, 1, 1]) t0 (4 * c)
            have w1 := setN_len (mixF t0 [2, 3, 1, 1]) t0 (4 * c + 1)
            have w2 := setN_len (mixF t0 [2, 3, 1, 1]) t0 (4 * c + 2)
            have w3 := setN_len (mixF t0 [2, 3, 1, 1]) t0 (4 * c + 3)
            generalize setN (mixF t0 [2, 3, 1, 1]) t0 (4 * c + 3) = W3 at *
            generalize setN (mixF t0 [2, 3, 1, 1]) t0 (4 * c + 2) = W2 at *
            generalize setN (mixF t0 [2, 3, 1, 1]) t0 (4 * c + 1) = W1 at *
            generalize setN (mixF t0 [2, 3, 1, 1]) t0 (4 * c) = W0 at *
            generalize t0.getD (4 * c) 0 = a at *
            generalize t0.getD (4 * c + 1) 0 = bb at *
            generalize t0.getD (4 * c + 2) 0 = cc at *
            generalize t0.getD (4 * c + 3) 0 = dd at *
            have v1 : a ^^^ mulB bb 2 ^^^ mulB cc 3 ^^^ dd = mulB bb 2 ^^^ mulB cc 3 ^^^ dd ^^^ a := by ac_rfl
            have v2 : a ^^^ bb ^^^ mulB cc 2 ^^^ mulB dd 3 = mulB cc 2 ^^^ mulB dd 3 ^^^ a ^^^ bb := by ac_rfl
            have v3 : mulB a 3 ^^^ bb ^^^ cc ^^^ mulB dd 2 = mulB dd 2 ^^^ mulB a 3 ^^^ bb ^^^ cc := by ac_rfl
            rw [← v1] at q1
            rw [← v2] at q2
            rw [← v3] at q3
            clear v1 v2 v3 k0 k1 k2 k3 n1
            have e0 : (4 * (c : Int)).toNat = 4 * c := by omega
            have e1 : (4 * (c : Int) + 1).toNat = 4 * c + 1 := by omega
            have e2 : (4 * (c : Int) + 2).toNat = 4 * c + 2 := by omega
            have e3 : (4 * (c : Int) + 3).toNat = 4 * c + 3 := by omega
            rw [← e0] at l0
            rw [← e1] at l1
            rw [← e2] at l2
            rw [← e3] at l3
            have wa0 := aOfBytes_len W0
            have wa1 := aOfBytes_len W1
            have wa2 := aOfBytes_len W2
            have wa3 := aOfBytes_len W3
            have M2 : ∀ x : UInt8, Spec Try.prog 51 [.int .u8 2, .int .u8 (x.toNat : Int)] (.k (.int .u8 ((mulB x 2).toNat : Int))) := fun x => by rw [mulB_comm]; exact rmul_spec 2 x
            have M3 : ∀ x : UInt8, Spec Try.prog 51 [.int .u8 3, .int .u8 (x.toNat : Int)] (.k (.int .u8 ((mulB x 3).toNat : Int))) := fun x => by rw [mulB_comm]; exact rmul_spec 3 x
            repeat (first | with_reducible (first | refine aWp_seq ?_ | refine seq_normal ?_ | refine seq_ret ?_ | refine seq_exit ?_ | refine blk_normal ?_ | refine blk_ret ?_ | refine blk_hit ?_ | refine blk_miss rfl ?_ | refine aWp_ret ?_ | refine aWp_skip ?_ | refine aWp_block ?_ | refine aWp_exit ?_ | refine end_ret ?_ | refine end_normal ?_) | ((refine rgA ?_); intro ν) | ((with_reducible apply cndT); exact rfl; (first | rfl | assumption)) | ((with_reducible apply cndF); exact rfl; (first | rfl | assumption)))
            refine rgxA [(4,[31],[]),(10,[31],[]),(16,[31],[]),(22,[31],[])] ?_
            intro ν
            repeat with_reducible (first | refine aWp_seq ?_ | refine seq_normal ?_ | refine seq_ret ?_ | refine seq_exit ?_ | refine blk_normal ?_ | refine blk_ret ?_ | refine blk_hit ?_ | refine blk_miss rfl ?_ | refine aWp_ret ?_ | refine aWp_skip ?_ | refine aWp_block ?_ | refine aWp_exit ?_ | refine end_ret ?_ | refine end_normal ?_)
            refine rg fun K hK => ?_
            refine stA ?_
            (first | with_reducible refine g0 ?_ | ((with_reducible refine g1 ?_ ?_); (with_reducible apply gt_); exact rfl; exact rfl; (first | rfl | assumption | (simp [*] <;> done)))); refine scA (h2 := (M2 a)) (hk := ?_)
            refine stA ?_
            (first | with_reducible refine g0 ?_ | ((with_reducible refine g1 ?_ ?_); (with_reducible apply gt_); exact rfl; exact rfl; (first | rfl | assumption | (simp [*] <;> done)))); refine scA (h2 := (M3 bb)) (hk := ?_)
            refine stA ?_
            with_reducible refine rz ?_
            refine hK _ _ _ ?_
            clear hK K; intro ν
            rw [e0, q0]
            repeat with_reducible (first | refine aWp_seq ?_ | refine seq_normal ?_ | refine seq_ret ?_ | refine seq_exit ?_ | refine blk_normal ?_ | refine blk_ret ?_ | refine blk_hit ?_ | refine blk_miss rfl ?_ | refine aWp_ret ?_ | refine aWp_skip ?_ | refine aWp_block ?_ | refine aWp_exit ?_ | refine end_ret ?_ | refine end_normal ?_)
            refine rg fun K hK => ?_
            refine stA ?_
            (first | with_reducible refine g0 ?_ | ((with_reducible refine g1 ?_ ?_); (with_reducible apply gt_); exact rfl; exact rfl; (first | rfl | assumption | (simp [*] <;> done)))); refine scA (h2 := (M2 bb)) (hk := ?_)
            refine stA ?_
            (first | with_reducible refine g0 ?_ | ((with_reducible refine g1 ?_ ?_); (with_reducible apply gt_); exact rfl; exact rfl; (first | rfl | assumption | (simp [*] <;> done)))); refine scA (h2 := (M3 cc)) (hk := ?_)
            refine stA ?_
            with_reducible refine rz ?_
            refine hK _ _ _ ?_
            clear hK K; intro ν
            rw [e1, q1]
            repeat with_reducible (first | refine aWp_seq ?_ | refine seq_normal ?_ | refine seq_ret ?_ | refine seq_exit ?_ | refine blk_normal ?_ | refine blk_ret ?_ | refine blk_hit ?_ | refine blk_miss rfl ?_ | refine aWp_ret ?_ | refine aWp_skip ?_ | refine aWp_block ?_ | refine aWp_exit ?_ | refine end_ret ?_ | refine end_normal ?_)
            refine rg fun K hK => ?_
            refine stA ?_
            (first | with_reducible refine g0 ?_ | ((with_reducible refine g1 ?_ ?_); (with_reducible apply gt_); exact rfl; exact rfl; (first | rfl | assumption | (simp [*] <;> done)))); refine scA (h2 := (M2 cc)) (hk := ?_)
            refine stA ?_
            (first | with_reducible refine g0 ?_ | ((with_reducible refine g1 ?_ ?_); (with_reducible apply gt_); exact rfl; exact rfl; (first | rfl | assumption | (simp [*] <;> done)))); refine scA (h2 := (M3 dd)) (hk := ?_)
            refine stA ?_
            with_reducible refine rz ?_
            refine hK _ _ _ ?_
            clear hK K; intro ν
            rw [e2, q2]
            repeat with_reducible (first | refine aWp_seq ?_ | refine seq_normal ?_ | refine seq_ret ?_ | refine seq_exit ?_ | refine blk_normal ?_ | refine blk_ret ?_ | refine blk_hit ?_ | refine blk_miss rfl ?_ | refine aWp_ret ?_ | refine aWp_skip ?_ | refine aWp_block ?_ | refine aWp_exit ?_ | refine end_ret ?_ | refine end_normal ?_)
            refine rg fun K hK => ?_
            refine stA ?_
            (first | with_reducible refine g0 ?_ | ((with_reducible refine g1 ?_ ?_); (with_reducible apply gt_); exact rfl; exact rfl; (first | rfl | assumption | (simp [*] <;> done)))); refine scA (h2 := (M3 a)) (hk := ?_)
            refine stA ?_
            (first | with_reducible refine g0 ?_ | ((with_reducible refine g1 ?_ ?_); (with_reducible apply gt_); exact rfl; exact rfl; (first | rfl | assumption | (simp [*] <;> done)))); refine scA (h2 := (M2 dd)) (hk := ?_)
            refine stA ?_
            with_reducible refine rz ?_
            refine hK _ _ _ ?_
            clear hK K; intro ν
            rw [e3, q3]
            repeat (first | with_reducible (first | refine aWp_seq ?_ | refine seq_normal ?_ | refine seq_ret ?_ | refine seq_exit ?_ | refine blk_normal ?_ | refine blk_ret ?_ | refine blk_hit ?_ | refine blk_miss rfl ?_ | refine aWp_ret ?_ | refine aWp_skip ?_ | refine aWp_block ?_ | refine aWp_exit ?_ | refine end_ret ?_ | refine end_normal ?_) | ((refine rgA ?_); intro ν) | ((with_reducible apply cndT); exact rfl; (first | rfl | assumption)) | ((with_reducible apply cndF); exact rfl; (first | rfl | assumption)))
            refine ⟨4 - (c + 1), by omega, _, _, _, c + 1, _, rfl, by omega, rfl, rfl, rfl, rfl, rfl, rfl, ?_, rfl⟩
            show (SV.k (.int .i64 ((c : Int) + 1)) : SV) = _
            rw [Int.natCast_succ]
        · have hce : c = 4 := by omega
          subst hce
          rw [show setN (mixF t0 [2, 3, 1, 1]) t0 (4 * 4) = mixB t0 [2, 3, 1, 1] from setN_all _ _ _ ht0l]
          have s3 := s2 (mixB t0 [2, 3, 1, 1]) (mixB_len _ _) (i + 1) (by omega)
          rw [← HX.out] at s3
          have hXl := mixB_len t0 [2, 3, 1, 1]
          clear t31 HX
          generalize mixB t0 [2, 3, 1, 1] = X at *
          have hXa := aOfBytes_len X
          repeat with_reducible (first | refine aWp_seq ?_ | refine seq_normal ?_ | refine seq_ret ?_ | refine seq_exit ?_ | refine blk_normal ?_ | refine blk_ret ?_ | refine blk_hit ?_ | refine blk_miss rfl ?_ | refine aWp_ret ?_ | refine aWp_skip ?_ | refine aWp_block ?_ | refine aWp_exit ?_ | refine end_ret ?_ | refine end_normal ?_)
          refine rg fun K hK => ?_
          refine stA ?_
          refine rzs (t := 8) rfl rfl ?_
          refine hK _ _ _ ?_
          clear hK K; intro ν
          repeat (first | with_reducible (first | refine aWp_seq ?_ | refine seq_normal ?_ | refine seq_ret ?_ | refine seq_exit ?_ | refine blk_normal ?_ | refine blk_ret ?_ | refine blk_hit ?_ | refine blk_miss rfl ?_ | refine aWp_ret ?_ | refine aWp_skip ?_ | refine aWp_block ?_ | refine aWp_exit ?_ | refine end_ret ?_ | refine end_normal ?_) | ((refine rgA ?_); intro ν) | ((with_reducible apply cndT); exact rfl; (first | rfl | assumption)) | ((with_reducible apply cndF); exact rfl; (first | rfl | assumption)))
          refine rg fun K hK => ?_
          refine stA ?_
          (first | with_reducible refine g0 ?_ | ((with_reducible refine g1 ?_ ?_); (with_reducible apply gt_); exact rfl; exact rfl; (first | rfl | assumption | (simp [*] <;> done)))); refine scA (h2 := (s3)) (hk := ?_)
          refine stA ?_
          with_reducible refine rz ?_
          refine hK _ _ _ ?_
          clear hK K; intro ν
          repeat (first | with_reducible (first | refine aWp_seq ?_ | refine seq_normal ?_ | refine seq_ret ?_ | refine seq_exit ?_ | refine blk_normal ?_ | refine blk_ret ?_ | refine blk_hit ?_ | refine blk_miss rfl ?_ | refine aWp_ret ?_ | refine aWp_skip ?_ | refine aWp_block ?_ | refine aWp_exit ?_ | refine end_ret ?_ | refine end_normal ?_) | ((refine rgA ?_); intro ν) | ((with_reducible apply cndT); exact rfl; (first | rfl | assumption)) | ((with_reducible apply cndF); exact rfl; (first | rfl | assumption)))
          refine ⟨L - (i + 1), by omega, _, _, _, i + 1, _, rfl, by omega, rfl, rfl, rfl, ?_, rfl, .inl ⟨hm, rfl⟩⟩
          show (SV.k (.int .i64 (((i + 1 : Nat) : Int) + 1)) : SV) = _
          rw [Int.natCast_succ (i + 1)]
      · have hX : encN T K b (L + 1) (i + 1) = addK K t0 (i + 1) := by rw [Hnx.out, encS, if_neg (by omega), ← Ht0.out]
        have s3 := s2n t0 ht0l (i + 1) (by omega)
        rw [← hX] at s3
        clear hX Hnx Ht0
        repeat with_reducible (first | refine aWp_seq ?_ | refine seq_normal ?_ | refine seq_ret ?_ | refine seq_exit ?_ | refine blk_normal ?_ | refine blk_ret ?_ | refine blk_hit ?_ | refine blk_miss rfl ?_ | refine aWp_ret ?_ | refine aWp_skip ?_ | refine aWp_block ?_ | refine aWp_exit ?_ | refine end_ret ?_ | refine end_normal ?_)
        refine rgA ?_
        intro ν
        repeat with_reducible (first | refine aWp_seq ?_ | refine seq_normal ?_ | refine seq_ret ?_ | refine seq_exit ?_ | refine blk_normal ?_ | refine blk_ret ?_ | refine blk_hit ?_ | refine blk_miss rfl ?_ | refine aWp_ret ?_ | refine aWp_skip ?_ | refine aWp_block ?_ | refine aWp_exit ?_ | refine end_ret ?_ | refine end_normal ?_)
        (with_reducible apply cndF); exact rfl; (first | rfl | assumption | (simp [*] <;> done))
        repeat with_reducible (first | refine aWp_seq ?_ | refine seq_normal ?_ | refine seq_ret ?_ | refine seq_exit ?_ | refine blk_normal ?_ | refine blk_ret ?_ | refine blk_hit ?_ | refine blk_miss rfl ?_ | refine aWp_ret ?_ | refine aWp_skip ?_ | refine aWp_block ?_ | refine aWp_exit ?_ | refine end_ret ?_ | refine end_normal ?_)
        refine rg fun K hK => ?_
        refine stA ?_
        refine rzs (t := 8) rfl rfl ?_
        refine hK _ _ _ ?_
        clear hK K; intro ν
        repeat (first | with_reducible (first | refine aWp_seq ?_ | refine seq_normal ?_ | refine seq_ret ?_ | refine seq_exit ?_ | refine blk_normal ?_ | refine blk_ret ?_ | refine blk_hit ?_ | refine blk_miss rfl ?_ | refine aWp_ret ?_ | refine aWp_skip ?_ | refine aWp_block ?_ | refine aWp_exit ?_ | refine end_ret ?_ | refine end_normal ?_) | ((refine rgA ?_); intro ν) | ((with_reducible apply cndT); exact rfl; (first | rfl | assumption)) | ((with_reducible apply cndF); exact rfl; (first | rfl | assumption)))
        refine rg fun K hK => ?_
        refine stA ?_
        (first | with_reducible refine g0 ?_ | ((with_reducible refine g1 ?_ ?_); (with_reducible apply gt_); exact rfl; exact rfl; (first | rfl | assumption | (simp [*] <;> done)))); refine scA (h2 := (s3)) (hk := ?_)
        refine stA ?_
        with_reducible refine rz ?_
        refine hK _ _ _ ?_
        clear hK K; intro ν
        repeat (first | with_reducible (first | refine aWp_seq ?_ | refine seq_normal ?_ | refine seq_ret ?_ | refine seq_exit ?_ | refine blk_normal ?_ | refine blk_ret ?_ | refine blk_hit ?_ | refine blk_miss rfl ?_ | refine aWp_ret ?_ | refine aWp_skip ?_ | refine aWp_block ?_ | refine aWp_exit ?_ | refine end_ret ?_ | refine end_normal ?_) | ((refine rgA ?_); intro ν) | ((with_reducible apply cndT); exact rfl; (first | rfl | assumption)) | ((with_reducible apply cndF); exact rfl; (first | rfl | assumption)))
        refine ⟨L - (i + 1), by omega, _, _, _, i + 1, _, rfl, by omega, rfl, rfl, rfl, ?_, rfl, .inr ⟨by omega, _, rfl, rfl⟩⟩
        show (SV.k (.int .i64 (((i + 1 : Nat) : Int) + 1)) : SV) = _
        rw [Int.natCast_succ (i + 1)]
  · have hie : i = L := by omega
    subst hie
    obtain ⟨g, f6, t151⟩ : ∃ g, F 6 = .os 151 g 0 16 16 ∧ T' 151 = some (g, .obj (aOfBytes s0)) := by
      rcases hx with ⟨h, _⟩ | ⟨_, h⟩
      · omega
      · exact h
    rw [has4 f0 f5 f6 f7, has1 t151, ← hs0]
    repeat (first | with_reducible (first | refine aWp_seq ?_ | refine seq_normal ?_ | refine seq_ret ?_ | refine seq_exit ?_ | refine blk_normal ?_ | refine blk_ret ?_ | refine blk_hit ?_ | refine blk_miss rfl ?_ | refine aWp_ret ?_ | refine aWp_skip ?_ | refine aWp_block ?_ | refine aWp_exit ?_ | refine end_ret ?_ | refine end_normal ?_) | ((refine rgA ?_); intro ν) | ((with_reducible apply cndT); exact rfl; (first | rfl | assumption)) | ((with_reducible apply cndF); exact rfl; (first | rfl | assumption)))
    (first | with_reducible refine end_r ?_ | with_reducible refine end_n ?_)
    exact ⟨_, _, _, _, rfl, rfl, rfl⟩
theorem renc_spec {K : List UInt8} {N : Nat} {ws : List AV} {wf : Nat → List UInt8} (h : RC K N ws wf) (T B b : List UInt8) (full : Bool) (L : Nat) (hb : b.length = 16) (hN : N = 4 * L + 4) (hL : L ≤ 100) (hL0 : 0 < L) (hT : T.length = 256) :
    Spec Try.prog 19 [.cp (rcC T B N ws), .sl full 16 (aOfBytes b)] (.k (.sl false 16 (aOfBytes (encN T K b (L + 1) L)))) :=
  Spec.news_k (bcells_len _ _ (encN_len _ _ _ _ _)) (renc_news h T B b full L hb hN hL hL0 hT)
end Go.Proofs.Ytmbnclpgldglnaa
