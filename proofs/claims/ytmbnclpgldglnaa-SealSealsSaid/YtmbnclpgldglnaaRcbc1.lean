import Derived.Test.YtmbnclpgldglnaaMg2
import Derived.Test.YtmbnclpgldglnaaCbc2
import Derived.Test.YtmbnclpgldglnaaCbc1
namespace Go.Proofs.Ytmbnclpgldglnaa
open Go.RowKit
set_option linter.unusedVariables false
set_option linter.unusedSimpArgs false
set_option maxRecDepth 20000
/-! the document's chain -/
def rsS (E : List UInt8 → List UInt8) (iv M : List UInt8) : Nat → List UInt8 × List UInt8
  | 0 => (iv, [])
  | q + 1 => sealS E (rsS E iv M q) ((M.drop (q * 16)).take 16)
theorem rs_fold (E : List UInt8 → List UInt8) (iv M : List UInt8) (q : Nat) : rsS E iv M q = ((List.range q).map fun j => (M.drop (j * 16)).take 16).foldl (sealS E) (iv, []) := by
  induction q with
  | zero => rfl
  | succ q ih => rw [rsS, ih, List.range_succ, List.map_append, List.foldl_append]; rfl
theorem rs_len {E : List UInt8 → List UInt8} (hE : ∀ x, x.length = 16 → (E x).length = 16) {iv : List UInt8} (hiv : iv.length = 16) (M : List UInt8) (q : Nat) : (rsS E iv M q).1.length = 16 ∧ (rsS E iv M q).2.length = 16 * q := by
  induction q with
  | zero => exact ⟨hiv, rfl⟩
  | succ q ih =>
    have hx := hE _ (xorB_len ((M.drop (q * 16)).take 16) (rsS E iv M q).1)
    refine ⟨hx, ?_⟩
    show ((rsS E iv M q).2 ++ _).length = _
    rw [List.length_append, ih.2, hx]; omega
theorem rs_seal (E : List UInt8 → List UInt8) (iv b : List UInt8) (nb : Nat) (h : (padM b).length = 16 * nb) : (rsS E iv (padM b) nb).2 = sealB E iv b := by
  rw [rs_fold, sealB, blocks16, h, show chN (16 * nb) 16 = nb by unfold chN; omega]
theorem xor_setN (c v : List UInt8) (hc : c.length = 16) : setN (fun k => c.getD k 0 ^^^ v.getD k 0) c 16 = xorB c v := setN_all _ _ _ hc
set_option maxHeartbeats 16000000 in
theorem rseal_walk (fk fi fb : Bool) (key iv b : List UInt8) (C : List AV) (E : List UInt8 → List UInt8) (hE : ∀ x, x.length = 16 → (E x).length = 16) (hiv : iv.length = 16) (hb : b.length ≤ 100000)
    (s1 : Spec Try.prog 18 [.sl fk key.length (aOfBytes key)] (.k (.tup [.cp C, .bool true])))
    (s2 : ∀ f x, x.length = 16 → Spec Try.prog 19 [.cp C, .sl f 16 (aOfBytes x)] (.k (.sl false 16 (aOfBytes (E x))))) :
    Spec Try.prog 14 [.sl fk key.length (aOfBytes key), .sl fi 16 (aOfBytes iv), .sl fb b.length (aOfBytes b)] (.k (.tup [.sl false (sealB E iv b).length (aOfBytes (sealB E iv b)), .int .i64 0])) := by
  have hba := aOfBytes_len b
  have hia := aOfBytes_len iv
  obtain ⟨n, hn⟩ : ∃ n, n = padN16 b := ⟨_, rfl⟩
  have hnb : 1 ≤ n ∧ n ≤ 16 := by rw [hn]; unfold padN16; omega
  have hnI : (16 : Int) - (b.length : Int) % 16 = (n : Int) := by rw [hn]; unfold padN16; omega
  have hMl := padM_len b
  have hMm := padM_mod b
  obtain ⟨nb, hNb⟩ : ∃ nb, (padM b).length = 16 * nb := ⟨(padM b).length / 16, by omega⟩
  have hfin := rs_seal E iv b nb hNb
  rw [← hn] at hMl
  have hMd : padM b = b ++ List.replicate n (UInt8.ofNat n) := by rw [padM, hn]
  have hnx : ∀ j, aOfBytes (b ++ List.replicate j (UInt8.ofNat n)) ++ [.int .u8 (n : Int)] = aOfBytes (b ++ List.replicate (j + 1) (UInt8.ofNat n)) := fun j => by
    rw [List.replicate_succ', ← List.append_assoc, aOfBytes_append (b ++ _)]
    have : ((UInt8.ofNat n).toNat : Int) = (n : Int) := by rw [UInt8.toNat_ofNat']; omega
    show _ = _ ++ [AV.int .u8 ((UInt8.ofNat n).toNat : Int)]
    rw [this]
  refine spec_of (fun t => t == 27 || t == 46 || t == 54 || t == 60) (by kernel_rfl) Try.func14 rfl rfl (by simp [Try.ntmps14]) (by decide) ?_
  intro δ
  rw [init3]
  repeat (first | with_reducible (first | refine aWp_seq ?_ | refine seq_normal ?_ | refine seq_ret ?_ | refine seq_exit ?_ | refine blk_normal ?_ | refine blk_ret ?_ | refine blk_hit ?_ | refine blk_miss rfl ?_ | refine aWp_ret ?_ | refine aWp_skip ?_ | refine aWp_block ?_ | refine aWp_exit ?_ | refine end_ret ?_ | refine end_normal ?_) | ((refine rgA ?_); intro ν) | ((with_reducible apply cndT); exact rfl; (first | rfl | assumption)) | ((with_reducible apply cndF); exact rfl; (first | rfl | assumption)))
  refine rg fun K hK => ?_
  refine stA ?_
  (first | with_reducible refine g0 ?_ | ((with_reducible refine g1 ?_ ?_); (with_reducible apply gt_); exact rfl; exact rfl; (first | rfl | assumption | (simp [*] <;> done)))); refine scA (h2 := (s1)) (hk := ?_)
  refine stA ?_
  with_reducible refine rz ?_
  refine hK _ _ _ ?_
  clear hK K; intro ν
  repeat (first | with_reducible (first | refine aWp_seq ?_ | refine seq_normal ?_ | refine seq_ret ?_ | refine seq_exit ?_ | refine blk_normal ?_ | refine blk_ret ?_ | refine blk_hit ?_ | refine blk_miss rfl ?_ | refine aWp_ret ?_ | refine aWp_skip ?_ | refine aWp_block (id := 0) ?_ | refine aWp_block (id := 1) ?_ | refine aWp_block (id := 2) ?_ | refine aWp_block (id := 3) ?_ | refine aWp_block (id := 4) ?_ | refine aWp_block (id := 5) ?_ | refine aWp_block (id := 6) ?_ | refine aWp_block (id := 7) ?_ | refine aWp_block (id := 8) ?_ | refine aWp_block (id := 9) ?_ | refine aWp_block (id := 10) ?_ | refine aWp_block (id := 11) ?_ | refine aWp_block (id := 12) ?_ | refine aWp_block (id := 13) ?_ | refine aWp_block (id := 14) ?_ | refine aWp_block (id := 15) ?_ | refine aWp_block (id := 16) ?_ | refine aWp_block (id := 17) ?_ | refine aWp_block (id := 18) ?_ | refine aWp_block (id := 19) ?_ | refine aWp_block (id := 20) ?_ | refine aWp_block (id := 21) ?_ | refine aWp_block (id := 22) ?_ | refine aWp_block (id := 23) ?_ | refine aWp_exit ?_ | refine end_ret ?_ | refine end_normal ?_) | ((refine rgA ?_); intro ν) | ((with_reducible apply cndT); exact rfl; (first | rfl | assumption)) | ((with_reducible apply cndF); exact rfl; (first | rfl | assumption)))
  refine aWp_cut (fun s => ∃ F T ν x, s = ⟨F, T, ν, ⟨fun t => t == 27 || t == 46 || t == 54 || t == 60, δ, false⟩⟩ ∧ F 1 = .k (.sl fi 16 (aOfBytes iv)) ∧ F 2 = .k (.sl fb b.length (aOfBytes b)) ∧ F 8 = .k (.cp C) ∧ F 10 = x ∧ ((b.length = 0 ∧ x = .k (.sl true 0 [])) ∨ ∃ g, x = .ow 29 g b.length 5 (aOfBytes b) ∧ T 29 = some (g, .tag))) ?_ ?_
  · by_cases h : b.length = 0
    · repeat (first | with_reducible (first | refine aWp_seq ?_ | refine seq_normal ?_ | refine seq_ret ?_ | refine seq_exit ?_ | refine blk_normal ?_ | refine blk_ret ?_ | refine blk_hit ?_ | refine blk_miss rfl ?_ | refine aWp_ret ?_ | refine aWp_skip ?_ | refine aWp_block ?_ | refine aWp_exit ?_ | refine end_ret ?_ | refine end_normal ?_) | ((refine rgA ?_); intro ν) | ((with_reducible apply cndT); exact rfl; (first | rfl | assumption)) | ((with_reducible apply cndF); exact rfl; (first | rfl | assumption)))
      exact ⟨_, _, _, _, rfl, rfl, rfl, rfl, rfl, .inl ⟨h, rfl⟩⟩
    · repeat (first | with_reducible (first | refine aWp_seq ?_ | refine seq_normal ?_ | refine seq_ret ?_ | refine seq_exit ?_ | refine blk_normal ?_ | refine blk_ret ?_ | refine blk_hit ?_ | refine blk_miss rfl ?_ | refine aWp_ret ?_ | refine aWp_skip ?_ | refine aWp_block ?_ | refine aWp_exit ?_ | refine end_ret ?_ | refine end_normal ?_) | ((refine rgA ?_); intro ν) | ((with_reducible apply cndT); exact rfl; (first | rfl | assumption)) | ((with_reducible apply cndF); exact rfl; (first | rfl | assumption)))
      exact ⟨_, _, _, _, rfl, rfl, rfl, rfl, rfl, .inr ⟨_, rfl, rfl⟩⟩
  rintro s ⟨F, T, ν, x, rfl, f1, f2, f8, f10, hx⟩
  rw [has4 f1 f2 f8 f10]
  repeat with_reducible (first | refine aWp_seq ?_ | refine seq_normal ?_ | refine seq_ret ?_ | refine seq_exit ?_ | refine blk_normal ?_ | refine blk_ret ?_ | refine blk_hit ?_ | refine blk_miss rfl ?_ | refine aWp_ret ?_ | refine aWp_skip ?_ | refine aWp_block ?_ | refine aWp_exit ?_ | refine end_ret ?_ | refine end_normal ?_)
  refine rgA ?_
  intro ν
  rw [hnI]
  repeat (first | with_reducible (first | refine aWp_seq ?_ | refine seq_normal ?_ | refine seq_ret ?_ | refine seq_exit ?_ | refine blk_normal ?_ | refine blk_ret ?_ | refine blk_hit ?_ | refine blk_miss rfl ?_ | refine aWp_ret ?_ | refine aWp_skip ?_ | refine aWp_block ?_ | refine aWp_exit ?_ | refine end_ret ?_ | refine end_normal ?_) | ((refine rgA ?_); intro ν) | ((with_reducible apply cndT); exact rfl; (first | rfl | assumption)) | ((with_reducible apply cndF); exact rfl; (first | rfl | assumption)))
  refine aWp_loop (fun m s => ∃ F T ν x j, m = n - j ∧ j ≤ n ∧ s = ⟨F, T, ν, ⟨fun t => t == 27 || t == 46 || t == 54 || t == 60, δ, false⟩⟩ ∧ F 1 = .k (.sl fi 16 (aOfBytes iv)) ∧ F 2 = .k (.sl fb b.length (aOfBytes b)) ∧ F 8 = .k (.cp C) ∧ F 10 = x ∧ F 11 = .k (.int .i64 (n : Nat)) ∧ ((b.length + j = 0 ∧ x = .k (.sl true 0 [])) ∨ ∃ d g, (d = 29 ∨ d = 45) ∧ x = .ow d g (b.length + j) 5 (aOfBytes (b ++ List.replicate j (UInt8.ofNat n))) ∧ T d = some (g, .tag))) n ⟨_, _, _, _, 0, rfl, Nat.zero_le _, rfl, rfl, rfl, rfl, rfl, rfl, ?_⟩ ?_
  · rcases hx with ⟨h, rfl⟩ | ⟨g, rfl, t29⟩
    · exact .inl ⟨by omega, rfl⟩
    · refine .inr ⟨29, g, .inl rfl, ?_, t29⟩
      rw [List.replicate_zero, List.append_nil]; rfl
  clear hx f1 f2 f8 f10
  rintro m s ⟨F, T, ν, x, j, rfl, hj, rfl, f1, f2, f8, f10, f11, hx⟩
  rw [has5 f1 f2 f8 f10 f11]
  have hla := aOfBytes_len (b ++ List.replicate j (UInt8.ofNat n))
  rw [List.length_append, List.length_replicate] at hla
  by_cases hlj : j < n
  · rcases hx with ⟨h0, rfl⟩ | ⟨d, g, hd, rfl, td⟩
    · obtain rfl : b = [] := List.eq_nil_of_length_eq_zero (by omega)
      have hj0 : j = 0 := by omega
      simp only [List.length_nil] at *
      repeat (first | with_reducible (first | refine aWp_seq ?_ | refine seq_normal ?_ | refine seq_ret ?_ | refine seq_exit ?_ | refine blk_normal ?_ | refine blk_ret ?_ | refine blk_hit ?_ | refine blk_miss rfl ?_ | refine aWp_ret ?_ | refine aWp_skip ?_ | refine aWp_block ?_ | refine aWp_exit ?_ | refine end_ret ?_ | refine end_normal ?_) | ((refine rgA ?_); intro ν) | ((with_reducible apply cndT); exact rfl; (first | rfl | assumption)) | ((with_reducible apply cndF); exact rfl; (first | rfl | assumption)))
      refine ⟨n - (j + 1), by omega, _, _, _, _, j + 1, rfl, by omega, rfl, rfl, rfl, rfl, rfl, rfl, .inr ⟨45, _, .inr rfl, ?_, rfl⟩⟩
      rw [← hnx j, hj0]
      rfl
    · rcases hd with rfl | rfl
      · rw [upd_self td]
        repeat (first | with_reducible (first | refine aWp_seq ?_ | refine seq_normal ?_ | refine seq_ret ?_ | refine seq_exit ?_ | refine blk_normal ?_ | refine blk_ret ?_ | refine blk_hit ?_ | refine blk_miss rfl ?_ | refine aWp_ret ?_ | refine aWp_skip ?_ | refine aWp_block ?_ | refine aWp_exit ?_ | refine end_ret ?_ | refine end_normal ?_) | ((refine rgA ?_); intro ν) | ((with_reducible apply cndT); exact rfl; (first | rfl | assumption)) | ((with_reducible apply cndF); exact rfl; (first | rfl | assumption)))
        refine ⟨n - (j + 1), by omega, _, _, _, _, j + 1, rfl, by omega, rfl, rfl, rfl, rfl, rfl, rfl, .inr ⟨45, _, .inr rfl, ?_, rfl⟩⟩
        rw [← hnx j]
        rfl
      · rw [upd_self td]
        repeat (first | with_reducible (first | refine aWp_seq ?_ | refine seq_normal ?_ | refine seq_ret ?_ | refine seq_exit ?_ | refine blk_normal ?_ | refine blk_ret ?_ | refine blk_hit ?_ | refine blk_miss rfl ?_ | refine aWp_ret ?_ | refine aWp_skip ?_ | refine aWp_block ?_ | refine aWp_exit ?_ | refine end_ret ?_ | refine end_normal ?_) | ((refine rgA ?_); intro ν) | ((with_reducible apply cndT); exact rfl; (first | rfl | assumption)) | ((with_reducible apply cndF); exact rfl; (first | rfl | assumption)))
        refine ⟨n - (j + 1), by omega, _, _, _, _, j + 1, rfl, by omega, rfl, rfl, rfl, rfl, rfl, rfl, .inr ⟨45, _, .inr rfl, ?_, rfl⟩⟩
        rw [← hnx j]
        rfl
  · have hje : j = n := by omega
    subst hje
    obtain ⟨d, g, rfl⟩ : ∃ d g, x = .ow d g (b.length + j) 5 (aOfBytes (b ++ List.replicate j (UInt8.ofNat j))) := by
      rcases hx with ⟨h, _⟩ | ⟨d, g, _, h, _⟩
      · omega
      · exact ⟨d, g, h⟩
    rw [← hMd, ← hMl]
    clear hx hnx hla f10 hMm hMd
    generalize padM b = M at *
    have hMa := aOfBytes_len M
    repeat (first | with_reducible (first | refine aWp_seq ?_ | refine seq_normal ?_ | refine seq_ret ?_ | refine seq_exit ?_ | refine blk_normal ?_ | refine blk_ret ?_ | refine blk_hit ?_ | refine blk_miss rfl ?_ | refine aWp_ret ?_ | refine aWp_skip ?_ | refine aWp_block ?_ | refine aWp_exit ?_ | refine end_ret ?_ | refine end_normal ?_) | ((refine rgA ?_); intro ν) | ((with_reducible apply cndT); exact rfl; (first | rfl | assumption)) | ((with_reducible apply cndF); exact rfl; (first | rfl | assumption)))
    refine aWp_loop (fun m s => ∃ F T ν y f q, m = nb - q ∧ q ≤ nb ∧ s = ⟨F, T, ν, ⟨fun t => t == 27 || t == 46 || t == 54 || t == 60, δ, false⟩⟩ ∧ F 8 = .k (.cp C) ∧ F 10 = .ow d g M.length 5 (aOfBytes M) ∧ F 12 = y ∧ F 13 = .k (.sl f 16 (aOfBytes (rsS E iv M q).1)) ∧ F 14 = .k (.int .i64 ((16 * q : Nat) : Int)) ∧ ((q = 0 ∧ y = .k (.sl true 0 [])) ∨ ∃ g2, y = .ow 82 g2 (16 * q) 5 (aOfBytes (rsS E iv M q).2) ∧ T 82 = some (g2, .tag))) nb ⟨_, _, _, _, _, 0, rfl, Nat.zero_le _, rfl, rfl, rfl, rfl, rfl, rfl, .inl ⟨rfl, rfl⟩⟩ ?_
    clear f1 f2 f8 f11
    rintro m s ⟨F, T, ν, y, f, q, rfl, hq, rfl, f8, f10, f12, f13, f14, hy⟩
    rw [has5 f8 f10 f12 f13 f14]
    obtain ⟨hv, ho⟩ := rs_len hE hiv M q
    by_cases hlq : q < nb
    · obtain ⟨c, hc⟩ : ∃ c, c = (M.drop (q * 16)).take 16 := ⟨_, rfl⟩
      have hcl : c.length = 16 := by rw [hc]; simp; omega
      have hnext : rsS E iv M (q + 1) = sealS E (rsS E iv M q) c := by rw [hc]; rfl
      have e2 : (((16 * q : Nat) : Int) + 16).toNat - 16 * q = 16 := by omega
      have e1 : List.drop (16 * q) (List.take (((16 * q : Nat) : Int) + 16).toNat (aOfBytes M)) = aOfBytes c := by
        rw [show (((16 * q : Nat) : Int) + 16).toNat = 16 * q + 16 by omega, List.drop_take, hc, cut_take, cut_drop, show 16 * q + 16 - 16 * q = 16 by omega, Nat.mul_comm q 16]
      generalize rsS E iv M q = s0 at *
      obtain ⟨v, out⟩ := s0
      dsimp only [sealS] at hv ho hnext f13 hy ⊢
      have hva := aOfBytes_len v
      have hoa := aOfBytes_len out
      have hca := aOfBytes_len c
      have hxs := xor_setN c v hcl
      have hXl := xorB_len c v
      obtain ⟨fx, hfx⟩ : ∃ fx, fx = fun k => c.getD k 0 ^^^ v.getD k 0 := ⟨_, rfl⟩
      rw [← hfx] at hxs
      have hfk : ∀ k, c.getD k 0 ^^^ v.getD k 0 = fx k := fun k => by rw [hfx]
      clear hfx hc
      repeat (first | with_reducible (first | refine aWp_seq ?_ | refine seq_normal ?_ | refine seq_ret ?_ | refine seq_exit ?_ | refine blk_normal ?_ | refine blk_ret ?_ | refine blk_hit ?_ | refine blk_miss rfl ?_ | refine aWp_ret ?_ | refine aWp_skip ?_ | refine aWp_block ?_ | refine aWp_exit ?_ | refine end_ret ?_ | refine end_normal ?_) | ((refine rgA ?_); intro ν) | ((with_reducible apply cndT); exact rfl; (first | rfl | assumption)) | ((with_reducible apply cndF); exact rfl; (first | rfl | assumption)))
      rw [e1, e2]
      refine aWp_loop (fun m s => ∃ F T ν k g3, m = 16 - k ∧ k ≤ 16 ∧ s = ⟨F, T, ν, ⟨fun t => t == 27 || t == 46 || t == 54 || t == 60, δ, false⟩⟩ ∧ F 8 = .k (.cp C) ∧ F 10 = .ow d g M.length 5 (aOfBytes M) ∧ F 12 = y ∧ F 13 = .k (.sl f 16 (aOfBytes v)) ∧ F 14 = .k (.int .i64 ((16 * q : Nat) : Int)) ∧ F 15 = .os 60 g3 0 16 16 ∧ F 16 = .k (.int .i64 (k : Nat)) ∧ T 60 = some (g3, .obj (aOfBytes (setN fx c k))) ∧ ((q = 0 ∧ y = .k (.sl true 0 [])) ∨ ∃ g2, y = .ow 82 g2 (16 * q) 5 (aOfBytes out) ∧ T 82 = some (g2, .tag))) 16 ⟨_, _, _, 0, _, rfl, Nat.zero_le _, rfl, rfl, rfl, rfl, rfl, rfl, rfl, rfl, rfl, ?_⟩ ?_
      · exact hy
      clear hy f8 f10 f12 f13 f14
      rintro m s ⟨F, T, ν, k, g3, rfl, hk, rfl, f8, f10, f12, f13, f14, f15, f16, t60, hy⟩
      rw [has7 f8 f10 f12 f13 f14 f15 f16, has1 t60]
      have hsl := setN_len fx c k
      have hsa := aOfBytes_len (setN fx c k)
      by_cases hlk : k < 16
      · have l1 := ld_b (setN fx c k) k (by omega)
        rw [setN_get fx c k k (Nat.le_refl _)] at l1
        have l2 := ld_b v k (by omega)
        have hst := set_b (setN fx c k) (fx k) k (by omega)
        rw [show aOfBytes ((setN fx c k).set k (fx k)) = aOfBytes (setN fx c (k + 1)) from rfl, ← hfk] at hst
        repeat (first | with_reducible (first | refine aWp_seq ?_ | refine seq_normal ?_ | refine seq_ret ?_ | refine seq_exit ?_ | refine blk_normal ?_ | refine blk_ret ?_ | refine blk_hit ?_ | refine blk_miss rfl ?_ | refine aWp_ret ?_ | refine aWp_skip ?_ | refine aWp_block ?_ | refine aWp_exit ?_ | refine end_ret ?_ | refine end_normal ?_) | ((refine rgA ?_); intro ν) | ((with_reducible apply cndT); exact rfl; (first | rfl | assumption)) | ((with_reducible apply cndF); exact rfl; (first | rfl | assumption)))
        refine rgxA [(5,[60],[]),(12,[60],[60])] ?_
        intro ν
        repeat (first | with_reducible (first | refine aWp_seq ?_ | refine seq_normal ?_ | refine seq_ret ?_ | refine seq_exit ?_ | refine blk_normal ?_ | refine blk_ret ?_ | refine blk_hit ?_ | refine blk_miss rfl ?_ | refine aWp_ret ?_ | refine aWp_skip ?_ | refine aWp_block ?_ | refine aWp_exit ?_ | refine end_ret ?_ | refine end_normal ?_) | ((refine rgA ?_); intro ν) | ((with_reducible apply cndT); exact rfl; (first | rfl | assumption)) | ((with_reducible apply cndF); exact rfl; (first | rfl | assumption)))
        refine ⟨16 - (k + 1), by omega, _, _, _, k + 1, _, rfl, by omega, rfl, rfl, rfl, rfl, rfl, rfl, rfl, ?_, ?_, ?_⟩
        · show (SV.k (.int .i64 ((k : Int) + 1)) : SV) = _
          rw [Int.natCast_succ]
        · rw [upd_same]
          exact congrArg (fun q => some (g3, Ent.obj q)) hst
        · exact hy
      · have hke : k = 16 := by omega
        subst hke
        rw [hxs] at hsa ⊢
        have hZl := hE _ hXl
        clear t60 hsl hxs hfk
        generalize xorB c v = X at *
        have hZa := aOfBytes_len (E X)
        rcases hy with ⟨hq0, rfl⟩ | ⟨g2, rfl, t82⟩
        · obtain rfl : out = [] := List.eq_nil_of_length_eq_zero (by omega)
          repeat with_reducible (first | refine aWp_seq ?_ | refine seq_normal ?_ | refine seq_ret ?_ | refine seq_exit ?_ | refine blk_normal ?_ | refine blk_ret ?_ | refine blk_hit ?_ | refine blk_miss rfl ?_ | refine aWp_ret ?_ | refine aWp_skip ?_ | refine aWp_block ?_ | refine aWp_exit ?_ | refine end_ret ?_ | refine end_normal ?_)
          refine rg fun K hK => ?_
          refine stA ?_
          refine rzs (t := 15) rfl rfl ?_
          refine hK _ _ _ ?_
          clear hK K; intro ν
          repeat (first | with_reducible (first | refine aWp_seq ?_ | refine seq_normal ?_ | refine seq_ret ?_ | refine seq_exit ?_ | refine blk_normal ?_ | refine blk_ret ?_ | refine blk_hit ?_ | refine blk_miss rfl ?_ | refine aWp_ret ?_ | refine aWp_skip ?_ | refine aWp_block ?_ | refine aWp_exit ?_ | refine end_ret ?_ | refine end_normal ?_) | ((refine rgA ?_); intro ν) | ((with_reducible apply cndT); exact rfl; (first | rfl | assumption)) | ((with_reducible apply cndF); exact rfl; (first | rfl | assumption)))
          refine rg fun K hK => ?_
          refine stA ?_
          (first | with_reducible refine g0 ?_ | ((with_reducible refine g1 ?_ ?_); (with_reducible apply gt_); exact rfl; exact rfl; (first | rfl | assumption | (simp [*] <;> done)))); refine scA (h2 := (s2 false X hXl)) (hk := ?_)
          refine stA ?_
          with_reducible refine rz ?_
          refine hK _ _ _ ?_
          clear hK K; intro ν
          repeat (first | with_reducible (first | refine aWp_seq ?_ | refine seq_normal ?_ | refine seq_ret ?_ | refine seq_exit ?_ | refine blk_normal ?_ | refine blk_ret ?_ | refine blk_hit ?_ | refine blk_miss rfl ?_ | refine aWp_ret ?_ | refine aWp_skip ?_ | refine aWp_block ?_ | refine aWp_exit ?_ | refine end_ret ?_ | refine end_normal ?_) | ((refine rgA ?_); intro ν) | ((with_reducible apply cndT); exact rfl; (first | rfl | assumption)) | ((with_reducible apply cndF); exact rfl; (first | rfl | assumption)))
          refine ⟨nb - (q + 1), by omega, _, _, _, _, false, q + 1, rfl, by omega, rfl, rfl, rfl, rfl, ?_, ?_, .inr ⟨_, ?_, rfl⟩⟩
          · rw [hnext]; rfl
          · show (SV.k (.int .i64 (((16 * q : Nat) : Int) + 16)) : SV) = _
            rw [show ((16 * q : Nat) : Int) + 16 = ((16 * (q + 1) : Nat) : Int) by omega]
          · rw [hnext, hq0]; rfl
        · rw [upd_self t82]
          repeat with_reducible (first | refine aWp_seq ?_ | refine seq_normal ?_ | refine seq_ret ?_ | refine seq_exit ?_ | refine blk_normal ?_ | refine blk_ret ?_ | refine blk_hit ?_ | refine blk_miss rfl ?_ | refine aWp_ret ?_ | refine aWp_skip ?_ | refine aWp_block ?_ | refine aWp_exit ?_ | refine end_ret ?_ | refine end_normal ?_)
          refine rg fun K hK => ?_
          refine stA ?_
          refine rzs (t := 15) rfl rfl ?_
          refine hK _ _ _ ?_
          clear hK K; intro ν
          repeat (first | with_reducible (first | refine aWp_seq ?_ | refine seq_normal ?_ | refine seq_ret ?_ | refine seq_exit ?_ | refine blk_normal ?_ | refine blk_ret ?_ | refine blk_hit ?_ | refine blk_miss rfl ?_ | refine aWp_ret ?_ | refine aWp_skip ?_ | refine aWp_block ?_ | refine aWp_exit ?_ | refine end_ret ?_ | refine end_normal ?_) | ((refine rgA ?_); intro ν) | ((with_reducible apply cndT); exact rfl; (first | rfl | assumption)) | ((with_reducible apply cndF); exact rfl; (first | rfl | assumption)))
          refine rg fun K hK => ?_
          refine stA ?_
          (first | with_reducible refine g0 ?_ | ((with_reducible refine g1 ?_ ?_); (with_reducible apply gt_); exact rfl; exact rfl; (first | rfl | assumption | (simp [*] <;> done)))); refine scA (h2 := (s2 false X hXl)) (hk := ?_)
          refine stA ?_
          with_reducible refine rz ?_
          refine hK _ _ _ ?_
          clear hK K; intro ν
          repeat (first | with_reducible (first | refine aWp_seq ?_ | refine seq_normal ?_ | refine seq_ret ?_ | refine seq_exit ?_ | refine blk_normal ?_ | refine blk_ret ?_ | refine blk_hit ?_ | refine blk_miss rfl ?_ | refine aWp_ret ?_ | refine aWp_skip ?_ | refine aWp_block ?_ | refine aWp_exit ?_ | refine end_ret ?_ | refine end_normal ?_) | ((refine rgA ?_); intro ν) | ((with_reducible apply cndT); exact rfl; (first | rfl | assumption)) | ((with_reducible apply cndF); exact rfl; (first | rfl | assumption)))
          refine ⟨nb - (q + 1), by omega, _, _, _, _, false, q + 1, rfl, by omega, rfl, rfl, rfl, rfl, ?_, ?_, .inr ⟨_, ?_, rfl⟩⟩
          · rw [hnext]; rfl
          · show (SV.k (.int .i64 (((16 * q : Nat) : Int) + 16)) : SV) = _
            rw [show ((16 * q : Nat) : Int) + 16 = ((16 * (q + 1) : Nat) : Int) by omega]
          · rw [hnext]
            show SV.ow 82 _ (16 * q + 16) _ _ = SV.ow 82 _ (16 * (q + 1)) _ (aOfBytes (out ++ E X))
            rw [aOfBytes_append]; rfl
    · have hqe : q = nb := by omega
      subst hqe
      rw [hfin] at hy ho
      obtain ⟨g2, rfl, _⟩ : ∃ g2, y = .ow 82 g2 (16 * q) 5 (aOfBytes (sealB E iv b)) ∧ T 82 = some (g2, .tag) := by
        rcases hy with ⟨h, _⟩ | h
        · omega
        · exact h
      rw [← ho]
      repeat (first | with_reducible (first | refine aWp_seq ?_ | refine seq_normal ?_ | refine seq_ret ?_ | refine seq_exit ?_ | refine blk_normal ?_ | refine blk_ret ?_ | refine blk_hit ?_ | refine blk_miss rfl ?_ | refine aWp_ret ?_ | refine aWp_skip ?_ | refine aWp_block ?_ | refine aWp_exit ?_ | refine end_ret ?_ | refine end_normal ?_) | ((refine rgA ?_); intro ν) | ((with_reducible apply cndT); exact rfl; (first | rfl | assumption)) | ((with_reducible apply cndF); exact rfl; (first | rfl | assumption)))
      (first | with_reducible refine end_r ?_ | with_reducible refine end_n ?_); refine en2 ?_
      rfl
end Go.Proofs.Ytmbnclpgldglnaa
