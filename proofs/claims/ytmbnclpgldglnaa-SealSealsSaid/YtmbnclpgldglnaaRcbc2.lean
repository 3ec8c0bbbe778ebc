import Derived.Test.YtmbnclpgldglnaaRcbc1
import Derived.Test.YtmbnclpgldglnaaCbc3
namespace Go.Proofs.Ytmbnclpgldglnaa
open Go.RowKit
set_option linter.unusedVariables false
set_option linter.unusedSimpArgs false
set_option maxRecDepth 20000
def roS (D : List UInt8 → List UInt8) (iv M : List UInt8) : Nat → List UInt8 × List UInt8
  | 0 => (iv, [])
  | q + 1 => openS D (roS D iv M q) ((M.drop (q * 16)).take 16)
theorem ro_fold (D : List UInt8 → List UInt8) (iv M : List UInt8) (q : Nat) : roS D iv M q = ((List.range q).map fun j => (M.drop (j * 16)).take 16).foldl (openS D) (iv, []) := by
  induction q with
  | zero => rfl
  | succ q ih => rw [roS, ih, List.range_succ, List.map_append, List.foldl_append]; rfl
theorem ro_len (D : List UInt8 → List UInt8) {iv : List UInt8} (hiv : iv.length = 16) (M : List UInt8) (q : Nat) (h : 16 * q ≤ M.length) : (roS D iv M q).1.length = 16 ∧ (roS D iv M q).2.length = 16 * q := by
  induction q with
  | zero => exact ⟨hiv, rfl⟩
  | succ q ih =>
    obtain ⟨h1, h2⟩ := ih (by omega)
    refine ⟨?_, ?_⟩
    · show ((M.drop (q * 16)).take 16).length = 16
      simp; omega
    · show ((roS D iv M q).2 ++ xorB _ _).length = _
      rw [List.length_append, h2, xorB_len]; omega
theorem ro_open (D : List UInt8 → List UInt8) (iv b : List UInt8) (nb : Nat) (h : b.length = 16 * nb) : (roS D iv b nb).2 = openF D iv b := by
  rw [ro_fold, openF, blocks16, h, show chN (16 * nb) 16 = nb by unfold chN; omega]
theorem drop_same (S : List UInt8) (f : UInt8) (n : Nat) (hn : n ≤ S.length) (h : ∀ j, j < n → S.getD (S.length - (j + 1)) 0 = f) : S.drop (S.length - n) = List.replicate n f := by
  refine List.eq_replicate_iff.2 ⟨by simp; omega, fun x hx => ?_⟩
  obtain ⟨i, hi, rfl⟩ := List.mem_iff_getElem.1 hx
  have hi' : i < n := by simp at hi; omega
  have := h (n - 1 - i) (by omega)
  rw [List.getElem_drop]
  have e : S.length - (n - 1 - i + 1) = S.length - n + i := by omega
  rw [e, List.getD_eq_getElem?_getD, List.getElem?_eq_getElem (by omega), Option.getD_some] at this
  exact this
theorem drop_other (S : List UInt8) (f : UInt8) (n j : Nat) (hn : n ≤ S.length) (hj : j < n) (h : S.getD (S.length - (j + 1)) 0 ≠ f) : S.drop (S.length - n) ≠ List.replicate n f := fun e => by
  apply h
  have e2 : (S.drop (S.length - n)).getD (n - 1 - j) 0 = f := by
    rw [e, List.getD_eq_getElem?_getD, List.getElem?_replicate, if_pos (by omega)]; rfl
  rw [List.getD_eq_getElem?_getD, List.getElem?_drop, show S.length - n + (n - 1 - j) = S.length - (j + 1) by omega] at e2
  rw [List.getD_eq_getElem?_getD]; exact e2
def ropenR : Option (List UInt8) → AV
  | some x => .tup [.sl false x.length (aOfBytes x), .int .i64 0]
  | none => .tup [.sl true 0 [], .int .i64 12]
set_option maxHeartbeats 16000000 in
theorem ropen_walk (fk fi fb : Bool) (key iv b : List UInt8) (C : List AV) (D : List UInt8 → List UInt8) (hD : ∀ x, x.length = 16 → (D x).length = 16) (hiv : iv.length = 16) (hb : b.length ≤ 100000)
    (s1 : Spec Try.prog 18 [.sl fk key.length (aOfBytes key)] (.k (.tup [.cp C, .bool true])))
    (s2 : ∀ f x, x.length = 16 → Spec Try.prog 49 [.cp C, .sl f 16 (aOfBytes x)] (.news 16 (aOfBytes (D x)))) :
    Spec Try.prog 17 [.sl fk key.length (aOfBytes key), .sl fi 16 (aOfBytes iv), .sl fb b.length (aOfBytes b)] (.k (ropenR (openB D iv b))) := by
  have hba := aOfBytes_len b
  have hia := aOfBytes_len iv
  by_cases hbad : b.length = 0 ∨ b.length % 16 ≠ 0
  · rw [openB, if_pos hbad, ropenR]
    refine spec_of (fun t => t == 33) (by kernel_rfl) Try.func17 rfl rfl (by simp [Try.ntmps17]) (by decide) ?_
    intro δ
    rw [init3]
    by_cases h16 : b.length < 16
    · repeat (first | with_reducible (first | refine aWp_seq ?_ | refine seq_normal ?_ | refine seq_ret ?_ | refine seq_exit ?_ | refine blk_normal ?_ | refine blk_ret ?_ | refine blk_hit ?_ | refine blk_miss rfl ?_ | refine aWp_ret ?_ | refine aWp_skip ?_ | refine aWp_block ?_ | refine aWp_exit ?_ | refine end_ret ?_ | refine end_normal ?_) | ((refine rgA ?_); intro ν) | ((with_reducible apply cndT); exact rfl; (first | rfl | assumption)) | ((with_reducible apply cndF); exact rfl; (first | rfl | assumption)))
      refine rg fun K hK => ?_
      refine stA ?_
      (first | with_reducible refine g0 ?_ | ((with_reducible refine g1 ?_ ?_); (with_reducible apply gt_); exact rfl; exact rfl; (first | rfl | assumption | (simp [*] <;> done)))); refine scA (h2 := (s1)) (hk := ?_)
      refine stA ?_
      with_reducible refine rz ?_
      refine hK _ _ _ ?_
      clear hK K; intro ν
      repeat (first | with_reducible (first | refine aWp_seq ?_ | refine seq_normal ?_ | refine seq_ret ?_ | refine seq_exit ?_ | refine blk_normal ?_ | refine blk_ret ?_ | refine blk_hit ?_ | refine blk_miss rfl ?_ | refine aWp_ret ?_ | refine aWp_skip ?_ | refine aWp_block ?_ | refine aWp_exit ?_ | refine end_ret ?_ | refine end_normal ?_) | ((refine rgA ?_); intro ν) | ((with_reducible apply cndT); exact rfl; (first | rfl | assumption)) | ((with_reducible apply cndF); exact rfl; (first | rfl | assumption)))
      (first | with_reducible refine end_r ?_ | with_reducible refine end_n ?_); refine en2 ?_
      rfl
    · have hm : ¬ (b.length : Int) % 16 = 0 := by omega
      repeat (first | with_reducible (first | refine aWp_seq ?_ | refine seq_normal ?_ | refine seq_ret ?_ | refine seq_exit ?_ | refine blk_normal ?_ | refine blk_ret ?_ | refine blk_hit ?_ | refine blk_miss rfl ?_ | refine aWp_ret ?_ | refine aWp_skip ?_ | refine aWp_block ?_ | refine aWp_exit ?_ | refine end_ret ?_ | refine end_normal ?_) | ((refine rgA ?_); intro ν) | ((with_reducible apply cndT); exact rfl; (first | rfl | assumption)) | ((with_reducible apply cndF); exact rfl; (first | rfl | assumption)))
      refine rg fun K hK => ?_
      refine stA ?_
      (first | with_reducible refine g0 ?_ | ((with_reducible refine g1 ?_ ?_); (with_reducible apply gt_); exact rfl; exact rfl; (first | rfl | assumption | (simp [*] <;> done)))); refine scA (h2 := (s1)) (hk := ?_)
      refine stA ?_
      with_reducible refine rz ?_
      refine hK _ _ _ ?_
      clear hK K; intro ν
      repeat (first | with_reducible (first | refine aWp_seq ?_ | refine seq_normal ?_ | refine seq_ret ?_ | refine seq_exit ?_ | refine blk_normal ?_ | refine blk_ret ?_ | refine blk_hit ?_ | refine blk_miss rfl ?_ | refine aWp_ret ?_ | refine aWp_skip ?_ | refine aWp_block ?_ | refine aWp_exit ?_ | refine end_ret ?_ | refine end_normal ?_) | ((refine rgA ?_); intro ν) | ((with_reducible apply cndT); exact rfl; (first | rfl | assumption)) | ((with_reducible apply cndF); exact rfl; (first | rfl | assumption)))
      (first | with_reducible refine end_r ?_ | with_reducible refine end_n ?_); refine en2 ?_
      rfl
  · rw [openB, if_neg hbad]
    obtain ⟨nb, hNb⟩ : ∃ nb, b.length = 16 * nb := ⟨b.length / 16, by omega⟩
    have hnb : 0 < nb := by omega
    have hfin := ro_open D iv b nb hNb
    have hm : (b.length : Int) % 16 = 0 := by omega
    refine spec_of (fun t => t == 33) (by kernel_rfl) Try.func17 rfl rfl (by simp [Try.ntmps17]) (by decide) ?_
    intro δ
    rw [init3]
    repeat (first | with_reducible (first | refine aWp_seq ?_ | refine seq_normal ?_ | refine seq_ret ?_ | refine seq_exit ?_ | refine blk_normal ?_ | refine blk_ret ?_ | refine blk_hit ?_ | refine blk_miss rfl ?_ | refine aWp_ret ?_ | refine aWp_skip ?_ | refine aWp_block ?_ | refine aWp_exit ?_ | refine end_ret ?_ | refine end_normal ?_) | ((refine rgA ?_); intro ν) | ((with_reducible apply cndT); exact rfl; (first | rfl | assumption)) | ((with_reducible apply cndF); exact rfl; (first | rfl | assumption)))
    refine rg fun K hK => ?_
    refine stA ?_
    (first | with_reducible refine g0 ?_ | ((with_reducible refine g1 ?_ ?_); (with_reducible apply gt_); exact rfl; exact rfl; (first | rfl | assumption | (simp [*] <;> done)))); refine scA (h2 := (s1)) (hk := ?_)
    refine stA ?_
    with_reducible refine rz ?_
    refine hK _ _ _ ?_
    clear hK K; intro ν
    repeat (first | with_reducible (first | refine aWp_seq ?_ | refine seq_normal ?_ | refine seq_ret ?_ | refine seq_exit ?_ | refine blk_normal ?_ | refine blk_ret ?_ | refine blk_hit ?_ | refine blk_miss rfl ?_ | refine aWp_ret ?_ | refine aWp_skip ?_ | refine aWp_block ?_ | refine aWp_exit ?_ | refine end_ret ?_ | refine end_normal ?_) | ((refine rgA ?_); intro ν) | ((with_reducible apply cndT); exact rfl; (first | rfl | assumption)) | ((with_reducible apply cndF); exact rfl; (first | rfl | assumption)))
    refine aWp_loop (fun m s => ∃ F T ν y f q, m = nb - q ∧ q ≤ nb ∧ s = ⟨F, T, ν, ⟨fun t => t == 33, δ, false⟩⟩ ∧ F 2 = .k (.sl fb b.length (aOfBytes b)) ∧ F 8 = .k (.cp C) ∧ F 10 = y ∧ F 11 = .k (.sl f 16 (aOfBytes (roS D iv b q).1)) ∧ F 12 = .k (.int .i64 ((16 * q : Nat) : Int)) ∧ ((q = 0 ∧ y = .k (.sl true 0 [])) ∨ ∃ g2, y = .ow 66 g2 (16 * q) 5 (aOfBytes (roS D iv b q).2) ∧ T 66 = some (g2, .tag))) nb ⟨_, _, _, _, _, 0, rfl, Nat.zero_le _, rfl, rfl, rfl, rfl, rfl, rfl, .inl ⟨rfl, rfl⟩⟩ ?_
    rintro m s ⟨F, T, ν, y, f, q, rfl, hq, rfl, f2, f8, f10, f11, f12, hy⟩
    rw [has5 f2 f8 f10 f11 f12]
    obtain ⟨hv, ho⟩ := ro_len D hiv b q (by omega)
    by_cases hlq : q < nb
    · as_aux_lemma =>
        obtain ⟨c, hc⟩ : ∃ c, c = (b.drop (q * 16)).take 16 := ⟨_, rfl⟩
        have hcl : c.length = 16 := by rw [hc]; simp; omega
        have hnext : roS D iv b (q + 1) = openS D (roS D iv b q) c := by rw [hc]; rfl
        have e2 : (((16 * q : Nat) : Int) + 16).toNat - 16 * q = 16 := by omega
        have e1 : List.drop (16 * q) (List.take (((16 * q : Nat) : Int) + 16).toNat (aOfBytes b)) = aOfBytes c := by
          rw [show (((16 * q : Nat) : Int) + 16).toNat = 16 * q + 16 by omega, List.drop_take, hc, cut_take, cut_drop, show 16 * q + 16 - 16 * q = 16 by omega, Nat.mul_comm q 16]
        generalize roS D iv b q = s0 at *
        obtain ⟨v, out⟩ := s0
        dsimp only [openS] at hv ho hnext f11 hy ⊢
        have hva := aOfBytes_len v
        have hoa := aOfBytes_len out
        have hca := aOfBytes_len c
        have hdl := hD c hcl
        have s3 := fun f => s2 f c hcl
        have hxs := xor_setN (D c) v hdl
        have hXl := xorB_len (D c) v
        generalize D c = dc at *
        obtain ⟨fx, hfx⟩ : ∃ fx, fx = fun k => dc.getD k 0 ^^^ v.getD k 0 := ⟨_, rfl⟩
        rw [← hfx] at hxs
        have hfk : ∀ k, dc.getD k 0 ^^^ v.getD k 0 = fx k := fun k => by rw [hfx]
        clear hfx hc
        repeat with_reducible (first | refine aWp_seq ?_ | refine seq_normal ?_ | refine seq_ret ?_ | refine seq_exit ?_ | refine blk_normal ?_ | refine blk_ret ?_ | refine blk_hit ?_ | refine blk_miss rfl ?_ | refine aWp_ret ?_ | refine aWp_skip ?_ | refine aWp_block ?_ | refine aWp_exit ?_ | refine end_ret ?_ | refine end_normal ?_)
        refine rgA ?_
        intro ν
        repeat with_reducible (first | refine aWp_seq ?_ | refine seq_normal ?_ | refine seq_ret ?_ | refine seq_exit ?_ | refine blk_normal ?_ | refine blk_ret ?_ | refine blk_hit ?_ | refine blk_miss rfl ?_ | refine aWp_ret ?_ | refine aWp_skip ?_ | refine aWp_block ?_ | refine aWp_exit ?_ | refine end_ret ?_ | refine end_normal ?_)
        (with_reducible apply cndT); exact rfl; (first | rfl | assumption | (simp [*] <;> done))
        repeat with_reducible (first | refine aWp_seq ?_ | refine seq_normal ?_ | refine seq_ret ?_ | refine seq_exit ?_ | refine blk_normal ?_ | refine blk_ret ?_ | refine blk_hit ?_ | refine blk_miss rfl ?_ | refine aWp_ret ?_ | refine aWp_skip ?_ | refine aWp_block ?_ | refine aWp_exit ?_ | refine end_ret ?_ | refine end_normal ?_)
        refine rg fun K hK => ?_
        refine stA ?_
        rw [e1, e2]
        (first | with_reducible refine g0 ?_ | ((with_reducible refine g1 ?_ ?_); (with_reducible apply gt_); exact rfl; exact rfl; (first | rfl | assumption | (simp [*] <;> done)))); refine scA (h2 := (s3 _)) (hk := ?_)
        refine stA ?_
        with_reducible refine rz ?_
        refine hK _ _ _ ?_
        clear hK K; intro ν
        repeat (first | with_reducible (first | refine aWp_seq ?_ | refine seq_normal ?_ | refine seq_ret ?_ | refine seq_exit ?_ | refine blk_normal ?_ | refine blk_ret ?_ | refine blk_hit ?_ | refine blk_miss rfl ?_ | refine aWp_ret ?_ | refine aWp_skip ?_ | refine aWp_block ?_ | refine aWp_exit ?_ | refine end_ret ?_ | refine end_normal ?_) | ((refine rgA ?_); intro ν) | ((with_reducible apply cndT); exact rfl; (first | rfl | assumption)) | ((with_reducible apply cndF); exact rfl; (first | rfl | assumption)))
        refine aWp_loop (fun m s => ∃ F T ν k g3, m = 16 - k ∧ k ≤ 16 ∧ s = ⟨F, T, ν, ⟨fun t => t == 33, δ, false⟩⟩ ∧ F 2 = .k (.sl fb b.length (aOfBytes b)) ∧ F 8 = .k (.cp C) ∧ F 10 = y ∧ F 11 = .k (.sl f 16 (aOfBytes v)) ∧ F 12 = .k (.int .i64 ((16 * q : Nat) : Int)) ∧ F 13 = .os 47 g3 0 16 16 ∧ F 14 = .k (.int .i64 (k : Nat)) ∧ T 47 = some (g3, .obj (aOfBytes (setN fx dc k))) ∧ ((q = 0 ∧ y = .k (.sl true 0 [])) ∨ ∃ g2, y = .ow 66 g2 (16 * q) 5 (aOfBytes out) ∧ T 66 = some (g2, .tag))) 16 ⟨_, _, _, 0, _, rfl, Nat.zero_le _, rfl, rfl, rfl, rfl, rfl, rfl, rfl, rfl, rfl, ?_⟩ ?_
        · exact hy
        clear hy f2 f8 f10 f11 f12
        rintro m s ⟨F, T, ν, k, g3, rfl, hk, rfl, f2, f8, f10, f11, f12, f13, f14, t47, hy⟩
        rw [has7 f2 f8 f10 f11 f12 f13 f14, has1 t47]
        have hsl := setN_len fx dc k
        have hsa := aOfBytes_len (setN fx dc k)
        by_cases hlk : k < 16
        · have l1 := ld_b (setN fx dc k) k (by omega)
          rw [setN_get fx dc k k (Nat.le_refl _)] at l1
          have l2 := ld_b v k (by omega)
          have hst := set_b (setN fx dc k) (fx k) k (by omega)
          rw [show aOfBytes ((setN fx dc k).set k (fx k)) = aOfBytes (setN fx dc (k + 1)) from rfl, ← hfk] at hst
          repeat (first | with_reducible (first | refine aWp_seq ?_ | refine seq_normal ?_ | refine seq_ret ?_ | refine seq_exit ?_ | refine blk_normal ?_ | refine blk_ret ?_ | refine blk_hit ?_ | refine blk_miss rfl ?_ | refine aWp_ret ?_ | refine aWp_skip ?_ | refine aWp_block ?_ | refine aWp_exit ?_ | refine end_ret ?_ | refine end_normal ?_) | ((refine rgA ?_); intro ν) | ((with_reducible apply cndT); exact rfl; (first | rfl | assumption)) | ((with_reducible apply cndF); exact rfl; (first | rfl | assumption)))
          refine rgxA [(5,[47],[]),(12,[47],[47])] ?_
          intro ν
          repeat (first | with_reducible (first | refine aWp_seq ?_ | refine seq_normal ?_ | refine seq_ret ?_ | refine seq_exit ?_ | refine blk_normal ?_ | refine blk_ret ?_ | refine blk_hit ?_ | refine blk_miss rfl ?_ | refine aWp_ret ?_ | refine aWp_skip ?_ | refine aWp_block ?_ | refine aWp_exit ?_ | refine end_ret ?_ | refine end_normal ?_) | ((refine rgA ?_); intro ν) | ((with_reducible apply cndT); exact rfl; (first | rfl | assumption)) | ((with_reducible apply cndF); exact rfl; (first | rfl | assumption)))
          refine ⟨16 - (k + 1), by omega, _, _, _, k + 1, _, rfl, by omega, rfl, rfl, rfl, rfl, rfl, rfl, rfl, ?_, ?_, ?_⟩
          · show (SV.k (.int .i64 ((k : Int) + 1)) : SV) = _
            rw [Int.natCast_succ]
          · rw [upd_same]
            exact congrArg (fun q => some (g3, Ent.obj q)) hst
          · exact hy
        · have hke : k = 16 := by omega
          subst hke
          rw [hxs] at hsa ⊢
          clear t47 hsl hxs hfk
          generalize xorB dc v = X at *
          rcases hy with ⟨hq0, rfl⟩ | ⟨g2, rfl, t66⟩
          · obtain rfl : out = [] := List.eq_nil_of_length_eq_zero (by omega)
            repeat with_reducible (first | refine aWp_seq ?_ | refine seq_normal ?_ | refine seq_ret ?_ | refine seq_exit ?_ | refine blk_normal ?_ | refine blk_ret ?_ | refine blk_hit ?_ | refine blk_miss rfl ?_ | refine aWp_ret ?_ | refine aWp_skip ?_ | refine aWp_block ?_ | refine aWp_exit ?_ | refine end_ret ?_ | refine end_normal ?_)
            refine rg fun K hK => ?_
            refine stA ?_
            refine rzs (t := 13) rfl rfl ?_
            refine hK _ _ _ ?_
            clear hK K; intro ν
            repeat (first | with_reducible (first | refine aWp_seq ?_ | refine seq_normal ?_ | refine seq_ret ?_ | refine seq_exit ?_ | refine blk_normal ?_ | refine blk_ret ?_ | refine blk_hit ?_ | refine blk_miss rfl ?_ | refine aWp_ret ?_ | refine aWp_skip ?_ | refine aWp_block ?_ | refine aWp_exit ?_ | refine end_ret ?_ | refine end_normal ?_) | ((refine rgA ?_); intro ν) | ((with_reducible apply cndT); exact rfl; (first | rfl | assumption)) | ((with_reducible apply cndF); exact rfl; (first | rfl | assumption)))
            rw [e1, e2]
            refine ⟨nb - (q + 1), by omega, _, _, _, _, (fb && decide (((16 * q : Nat) : Int) + 16 = (b.length : Int))), q + 1, rfl, by omega, rfl, rfl, rfl, rfl, ?_, ?_, .inr ⟨_, ?_, rfl⟩⟩
            · rw [hnext]; rfl
            · show (SV.k (.int .i64 (((16 * q : Nat) : Int) + 16)) : SV) = _
              rw [show ((16 * q : Nat) : Int) + 16 = ((16 * (q + 1) : Nat) : Int) by omega]
            · rw [hnext, hq0]; rfl
          · rw [upd_self t66]
            repeat with_reducible (first | refine aWp_seq ?_ | refine seq_normal ?_ | refine seq_ret ?_ | refine seq_exit ?_ | refine blk_normal ?_ | refine blk_ret ?_ | refine blk_hit ?_ | refine blk_miss rfl ?_ | refine aWp_ret ?_ | refine aWp_skip ?_ | refine aWp_block ?_ | refine aWp_exit ?_ | refine end_ret ?_ | refine end_normal ?_)
            refine rg fun K hK => ?_
            refine stA ?_
            refine rzs (t := 13) rfl rfl ?_
            refine hK _ _ _ ?_
            clear hK K; intro ν
            repeat (first | with_reducible (first | refine aWp_seq ?_ | refine seq_normal ?_ | refine seq_ret ?_ | refine seq_exit ?_ | refine blk_normal ?_ | refine blk_ret ?_ | refine blk_hit ?_ | refine blk_miss rfl ?_ | refine aWp_ret ?_ | refine aWp_skip ?_ | refine aWp_block ?_ | refine aWp_exit ?_ | refine end_ret ?_ | refine end_normal ?_) | ((refine rgA ?_); intro ν) | ((with_reducible apply cndT); exact rfl; (first | rfl | assumption)) | ((with_reducible apply cndF); exact rfl; (first | rfl | assumption)))
            rw [e1, e2]
            refine ⟨nb - (q + 1), by omega, _, _, _, _, (fb && decide (((16 * q : Nat) : Int) + 16 = (b.length : Int))), q + 1, rfl, by omega, rfl, rfl, rfl, rfl, ?_, ?_, .inr ⟨_, ?_, rfl⟩⟩
            · rw [hnext]; rfl
            · show (SV.k (.int .i64 (((16 * q : Nat) : Int) + 16)) : SV) = _
              rw [show ((16 * q : Nat) : Int) + 16 = ((16 * (q + 1) : Nat) : Int) by omega]
            · rw [hnext]
              show SV.ow 66 _ (16 * q + 16) _ _ = SV.ow 66 _ (16 * (q + 1)) _ (aOfBytes (out ++ X))
              rw [aOfBytes_append]; rfl
    · have hqe : q = nb := by omega
      subst hqe
      rw [hfin] at hy ho
      obtain ⟨g2, rfl⟩ : ∃ g2, y = .ow 66 g2 (16 * q) 5 (aOfBytes (openF D iv b)) := by
        rcases hy with ⟨h, _⟩ | ⟨g2, h, _⟩
        · omega
        · exact ⟨g2, h⟩
      rw [← ho]
      clear hy f2 f8 f10 f11 f12 hv
      generalize openF D iv b = S at *
      have hSa := aOfBytes_len S
      have eL : ((S.length : Int) - 1).toNat = S.length - 1 := by omega
      have l0 := ld_b S (S.length - 1) (by omega)
      rw [openT]
      generalize hF : S.getD (S.length - 1) 0 = w at *
      rw [← eL] at l0
      have hwlt := w.toNat_lt
      by_cases hw1 : 1 ≤ w.toNat
      · by_cases hw2 : w.toNat ≤ 16
        · repeat (first | with_reducible (first | refine aWp_seq ?_ | refine seq_normal ?_ | refine seq_ret ?_ | refine seq_exit ?_ | refine blk_normal ?_ | refine blk_ret ?_ | refine blk_hit ?_ | refine blk_miss rfl ?_ | refine aWp_ret ?_ | refine aWp_skip ?_ | refine aWp_block ?_ | refine aWp_exit ?_ | refine end_ret ?_ | refine end_normal ?_) | ((refine rgA ?_); intro ν) | ((with_reducible apply cndT); exact rfl; (first | rfl | assumption)) | ((with_reducible apply cndF); exact rfl; (first | rfl | assumption)))
          refine aWp_loop (fun m s => ∃ F T' ν i, m = w.toNat - i ∧ i ≤ w.toNat ∧ s = ⟨F, T', ν, ⟨fun t => t == 33, δ, false⟩⟩ ∧ F 10 = .ow 66 g2 S.length 5 (aOfBytes S) ∧ F 15 = .k (.int .i64 (w.toNat : Nat)) ∧ F 16 = .k (.int .i64 ((i + 1 : Nat) : Int)) ∧ ∀ j, j < i → S.getD (S.length - (j + 1)) 0 = w) w.toNat ⟨_, _, _, 0, rfl, Nat.zero_le _, rfl, rfl, rfl, rfl, fun j hj => absurd hj (Nat.not_lt_zero j)⟩ ?_
          rintro m s ⟨F, T', ν, i, rfl, hi, rfl, f10, f15, f16, hall⟩
          rw [has3 f10 f15 f16]
          by_cases hli : i < w.toNat
          · have eI : ((S.length : Int) - ((i + 1 : Nat) : Int)).toNat = S.length - (i + 1) := by omega
            have l1 := ld_b S (S.length - (i + 1)) (by omega)
            by_cases hz : S.getD (S.length - (i + 1)) 0 = w
            · have hall2 : ∀ j, j < i + 1 → S.getD (S.length - (j + 1)) 0 = w := fun j hj => by
                by_cases q : j < i
                · exact hall j q
                · have : j = i := by omega
                  subst this; exact hz
              rw [hz, ← eI] at l1
              clear hall hz
              repeat (first | with_reducible (first | refine aWp_seq ?_ | refine seq_normal ?_ | refine seq_ret ?_ | refine seq_exit ?_ | refine blk_normal ?_ | refine blk_ret ?_ | refine blk_hit ?_ | refine blk_miss rfl ?_ | refine aWp_ret ?_ | refine aWp_skip ?_ | refine aWp_block ?_ | refine aWp_exit ?_ | refine end_ret ?_ | refine end_normal ?_) | ((refine rgA ?_); intro ν) | ((with_reducible apply cndT); exact rfl; (first | rfl | assumption)) | ((with_reducible apply cndF); exact rfl; (first | rfl | assumption)))
              refine ⟨w.toNat - (i + 1), by omega, _, _, _, i + 1, rfl, by omega, rfl, rfl, rfl, ?_, hall2⟩
              show (SV.k (.int .i64 (((i + 1 : Nat) : Int) + 1)) : SV) = _
              rw [Int.natCast_succ (i + 1)]
            · rw [if_neg (fun h => drop_other S w w.toNat i (by omega) hli hz h.2.2), ropenR]
              have hzn : ¬ (S.getD (S.length - (i + 1)) 0).toNat = w.toNat := fun e => hz (UInt8.toNat_inj.1 e)
              generalize S.getD (S.length - (i + 1)) 0 = z at *
              have hzlt := z.toNat_lt
              rw [← eI] at l1
              clear hall hz
              repeat (first | with_reducible (first | refine aWp_seq ?_ | refine seq_normal ?_ | refine seq_ret ?_ | refine seq_exit ?_ | refine blk_normal ?_ | refine blk_ret ?_ | refine blk_hit ?_ | refine blk_miss rfl ?_ | refine aWp_ret ?_ | refine aWp_skip ?_ | refine aWp_block ?_ | refine aWp_exit ?_ | refine end_ret ?_ | refine end_normal ?_) | ((refine rgA ?_); intro ν) | ((with_reducible apply cndT); exact rfl; (first | rfl | assumption)) | ((with_reducible apply cndF); exact rfl; (first | rfl | assumption)))
              (first | with_reducible refine end_r ?_ | with_reducible refine end_n ?_); refine en2 ?_
              rfl
          · have hie : i = w.toNat := by omega
            rw [if_pos ⟨hw1, hw2, drop_same S w w.toNat (by omega) (by rw [← hie]; exact hall)⟩, ropenR]
            subst hie
            have eN : ((S.length : Int) - (w.toNat : Int)).toNat = S.length - w.toNat := by omega
            clear hall
            repeat (first | with_reducible (first | refine aWp_seq ?_ | refine seq_normal ?_ | refine seq_ret ?_ | refine seq_exit ?_ | refine blk_normal ?_ | refine blk_ret ?_ | refine blk_hit ?_ | refine blk_miss rfl ?_ | refine aWp_ret ?_ | refine aWp_skip ?_ | refine aWp_block ?_ | refine aWp_exit ?_ | refine end_ret ?_ | refine end_normal ?_) | ((refine rgA ?_); intro ν) | ((with_reducible apply cndT); exact rfl; (first | rfl | assumption)) | ((with_reducible apply cndF); exact rfl; (first | rfl | assumption)))
            (first | with_reducible refine end_r ?_ | with_reducible refine end_n ?_); refine en2 ?_
            rw [eN, cut_take, List.length_take, Nat.min_eq_left (by omega)]
        · rw [if_neg (fun h => hw2 h.2.1), ropenR]
          repeat (first | with_reducible (first | refine aWp_seq ?_ | refine seq_normal ?_ | refine seq_ret ?_ | refine seq_exit ?_ | refine blk_normal ?_ | refine blk_ret ?_ | refine blk_hit ?_ | refine blk_miss rfl ?_ | refine aWp_ret ?_ | refine aWp_skip ?_ | refine aWp_block ?_ | refine aWp_exit ?_ | refine end_ret ?_ | refine end_normal ?_) | ((refine rgA ?_); intro ν) | ((with_reducible apply cndT); exact rfl; (first | rfl | assumption)) | ((with_reducible apply cndF); exact rfl; (first | rfl | assumption)))
          (first | with_reducible refine end_r ?_ | with_reducible refine end_n ?_); refine en2 ?_
          rfl
      · rw [if_neg (fun h => hw1 h.1), ropenR]
        repeat (first | with_reducible (first | refine aWp_seq ?_ | refine seq_normal ?_ | refine seq_ret ?_ | refine seq_exit ?_ | refine blk_normal ?_ | refine blk_ret ?_ | refine blk_hit ?_ | refine blk_miss rfl ?_ | refine aWp_ret ?_ | refine aWp_skip ?_ | refine aWp_block ?_ | refine aWp_exit ?_ | refine end_ret ?_ | refine end_normal ?_) | ((refine rgA ?_); intro ν) | ((with_reducible apply cndT); exact rfl; (first | rfl | assumption)) | ((with_reducible apply cndF); exact rfl; (first | rfl | assumption)))
        (first | with_reducible refine end_r ?_ | with_reducible refine end_n ?_); refine en2 ?_
        rfl
end Go.Proofs.Ytmbnclpgldglnaa
