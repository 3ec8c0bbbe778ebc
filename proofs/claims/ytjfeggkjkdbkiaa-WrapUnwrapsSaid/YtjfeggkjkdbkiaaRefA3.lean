import Derived.Test.YtjfeggkjkdbkiaaRefA0
import Derived.Test.YtjfeggkjkdbkiaaNews
import Derived.Test.YtjfeggkjkdbkiaaAes4
namespace Go.Proofs.Ytjfeggkjkdbkiaa
open Go.RowKit
set_option linter.unusedVariables false
set_option linter.unusedSimpArgs false
set_option maxRecDepth 20000
/-! the document's cipher: its rounds -/
structure RC (K : List UInt8) (N : Nat) (ws : List AV) (wf : Nat → List UInt8) : Prop where
  wl : ws.length = N
  ld : ∀ m, m < N → ldAgg (.sl 5) 1 (List.drop m ws) = some (.sl false 4 (aOfBytes (wf m)))
  fl : ∀ m, m < N → (wf m).length = 4
  get : ∀ m j, m < N → j < 4 → (wf m).getD j 0 = K.getD (m * 4 + j) 0
def rcC (T B : List UInt8) (N : Nat) (ws : List AV) : List AV := [.sl false 256 (aOfBytes T), .sl false 256 (aOfBytes B), .sl false N ws]
set_option maxHeartbeats 8000000 in
theorem radd_news {K : List UInt8} {N : Nat} {ws : List AV} {wf : Nat → List UInt8} (h : RC K N ws wf) (T B b : List UInt8) (full : Bool) (r : Nat) (hb : b.length = 16) (hr : 4 * r + 4 ≤ N) (hN : N ≤ 1000) :
    Spec Try.prog 81 [.cp (rcC T B N ws), .sl full 16 (aOfBytes b), .int .i64 (r : Nat)] (.news 16 (aOfBytes (addK K b r))) := by
  have hba := aOfBytes_len b
  have hwl := h.wl
  unfold rcC
  refine spec_of_news (fun t => t == 11 || t == 9) (by kernel_rfl) Try.func81 rfl rfl (by simp [Try.ntmps81]) (by decide) ?_
  intro δ
  rw [init3]
  repeat (first | with_reducible (first | refine aWp_seq ?_ | refine seq_normal ?_ | refine seq_ret ?_ | refine seq_exit ?_ | refine blk_normal ?_ | refine blk_ret ?_ | refine blk_hit ?_ | refine blk_miss rfl ?_ | refine aWp_ret ?_ | refine aWp_skip ?_ | refine aWp_block ?_ | refine aWp_exit ?_ | refine end_ret ?_ | refine end_normal ?_) | ((refine rgA ?_); intro ν) | ((with_reducible apply cndT); exact rfl; (first | rfl | assumption)) | ((with_reducible apply cndF); exact rfl; (first | rfl | assumption)))
  refine aWp_loop (fun m s => ∃ F T' ν k g, m = 16 - k ∧ k ≤ 16 ∧ s = ⟨F, T', ν, ⟨fun t => t == 11 || t == 9, δ, false⟩⟩ ∧ F 0 = .k (.cp [.sl false 256 (aOfBytes T), .sl false 256 (aOfBytes B), .sl false N ws]) ∧ F 2 = .k (.int .i64 (r : Nat)) ∧ F 7 = .os 11 g 0 16 16 ∧ F 8 = .k (.int .i64 (k : Nat)) ∧ T' 11 = some (g, .obj (aOfBytes (setN (addF K b r) b k)))) 16 ⟨_, _, _, 0, _, rfl, Nat.zero_le _, rfl, rfl, rfl, rfl, rfl, rfl⟩ ?_
  rintro m s ⟨F, T', ν, k, g, rfl, hk, rfl, f0, f2, f7, f8, t11⟩
  rw [has4 f0 f2 f7 f8, has1 t11]
  have hsl := setN_len (addF K b r) b k
  have hsa := aOfBytes_len (setN (addF K b r) b k)
  by_cases hlk : k < 16
  · obtain ⟨m, hm⟩ : ∃ m, m = 4 * r + k / 4 := ⟨_, rfl⟩
    have hmN : m < N := by omega
    have l1 := ld_b (setN (addF K b r) b k) k (by omega)
    rw [setN_get (addF K b r) b k k (Nat.le_refl _)] at l1
    have lw := h.ld m hmN
    have e1 : (4 * (r : Int) + (k : Int) / 4).toNat = m := by omega
    have hfl := h.fl m hmN
    have hfa := aOfBytes_len (wf m)
    have e2 : ((k : Int) % 4).toNat = k % 4 := by omega
    have l2 := ld_b (wf m) (k % 4) (by omega)
    have hg := h.get m (k % 4) hmN (by omega)
    have hst := set_b (setN (addF K b r) b k) (addF K b r k) k (by omega)
    have hkm : m * 4 + k % 4 = r * 16 + k := by omega
    have hv : b.getD k 0 ^^^ (wf m).getD (k % 4) 0 = addF K b r k := by rw [hg, hkm, addF]
    rw [show aOfBytes ((setN (addF K b r) b k).set k (addF K b r k)) = aOfBytes (setN (addF K b r) b (k + 1)) from rfl, ← hv] at hst
    rw [← e2] at l2 hst
    clear hg hv hkm
    generalize wf m = W at *
    rw [← e1] at lw
    repeat (first | with_reducible (first | refine aWp_seq ?_ | refine seq_normal ?_ | refine seq_ret ?_ | refine seq_exit ?_ | refine blk_normal ?_ | refine blk_ret ?_ | refine blk_hit ?_ | refine blk_miss rfl ?_ | refine aWp_ret ?_ | refine aWp_skip ?_ | refine aWp_block ?_ | refine aWp_exit ?_ | refine end_ret ?_ | refine end_normal ?_) | ((refine rgA ?_); intro ν) | ((with_reducible apply cndT); exact rfl; (first | rfl | assumption)) | ((with_reducible apply cndF); exact rfl; (first | rfl | assumption)))
    refine rgxA [(5,[11],[]),(23,[11],[11])] ?_
    intro ν
    repeat (first | with_reducible (first | refine aWp_seq ?_ | refine seq_normal ?_ | refine seq_ret ?_ | refine seq_exit ?_ | refine blk_normal ?_ | refine blk_ret ?_ | refine blk_hit ?_ | refine blk_miss rfl ?_ | refine aWp_ret ?_ | refine aWp_skip ?_ | refine aWp_block ?_ | refine aWp_exit ?_ | refine end_ret ?_ | refine end_normal ?_) | ((refine rgA ?_); intro ν) | ((with_reducible apply cndT); exact rfl; (first | rfl | assumption)) | ((with_reducible apply cndF); exact rfl; (first | rfl | assumption)))
    refine ⟨16 - (k + 1), by omega, _, _, _, k + 1, _, rfl, by omega, rfl, rfl, rfl, rfl, ?_, ?_⟩
    · show (SV.k (.int .i64 ((k : Int) + 1)) : SV) = _
      rw [Int.natCast_succ]
    · rw [upd_same]
      exact congrArg (fun q => some (g, Ent.obj q)) hst
  · have hke : k = 16 := by omega
    subst hke
    have he := setN_all (addF K b r) b 16 hb
    rw [he] at hsa ⊢
    change (aOfBytes (addK K b r)).length = _ at hsa
    rw [show (List.range 16).map (addF K b r) = addK K b r from rfl]
    have hal := addK_len K b r
    have haa := aOfBytes_len (addK K b r)
    clear he hsa hsl
    generalize addK K b r = A at *
    repeat (first | with_reducible (first | refine aWp_seq ?_ | refine seq_normal ?_ | refine seq_ret ?_ | refine seq_exit ?_ | refine blk_normal ?_ | refine blk_ret ?_ | refine blk_hit ?_ | refine blk_miss rfl ?_ | refine aWp_ret ?_ | refine aWp_skip ?_ | refine aWp_block ?_ | refine aWp_exit ?_ | refine end_ret ?_ | refine end_normal ?_) | ((refine rgA ?_); intro ν) | ((with_reducible apply cndT); exact rfl; (first | rfl | assumption)) | ((with_reducible apply cndF); exact rfl; (first | rfl | assumption)))
    (first | with_reducible refine end_r ?_ | with_reducible refine end_n ?_)
    exact ⟨_, _, _, _, rfl, rfl, rfl⟩
theorem radd_spec {K : List UInt8} {N : Nat} {ws : List AV} {wf : Nat → List UInt8} (h : RC K N ws wf) (T B b : List UInt8) (full : Bool) (r : Nat) (hb : b.length = 16) (hr : 4 * r + 4 ≤ N) (hN : N ≤ 1000) :
    Spec Try.prog 81 [.cp (rcC T B N ws), .sl full 16 (aOfBytes b), .int .i64 (r : Nat)] (.k (.sl false 16 (aOfBytes (addK K b r)))) :=
  Spec.news_k (bcells_len _ _ (addK_len K b r)) (radd_news h T B b full r hb hr hN)
end Go.Proofs.Ytjfeggkjkdbkiaa
