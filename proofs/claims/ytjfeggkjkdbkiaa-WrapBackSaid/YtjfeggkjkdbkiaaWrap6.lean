import Derived.Test.YtjfeggkjkdbkiaaWrap5
namespace Go.Proofs.Ytjfeggkjkdbkiaa
open Go.RowKit
set_option linter.unusedVariables false
set_option linter.unusedSimpArgs false
set_option maxRecDepth 20000
def wszN (n : UInt8) : Nat := 16 + 8 * (n.toNat % 3)
def wszB (key : List UInt8) (n : Nat) : List UInt8 := key.take n ++ List.replicate (n - key.length) 0
theorem wszB_len (key : List UInt8) (n : Nat) : (wszB key n).length = n := by
  unfold wszB; rw [List.length_append, List.length_take, List.length_replicate]; omega
theorem rep_eqW (n : Nat) : List.replicate n (AV.int .u8 0) = aOfBytes (List.replicate n 0) := by simp [aOfBytes]
theorem aZW (n : Nat) (z : AV) : aZeros n 1 [z] = List.replicate n z := by
  unfold aZeros
  apply List.ext_getElem
  · simp
  · intro i h1 h2
    simp [Nat.mod_one]
theorem cut_rc {P : Program} {a b : Code} {Q : AEx → St → Prop} {Kn : St → Prop} {s : St} (M : St → Prop) (h1 : aWp P a (AEx.seq (aWp P b (AEx.seq M Q)) (AEx.seq M Q)) s) (h2 : ∀ s, M s → Kn s) : aWp P a (AEx.seq (aWp P b (AEx.seq Kn Q)) (AEx.seq Kn Q)) s :=
  aWp_cut (c := .seq a b) M h1 h2
theorem owE {y : SV} {g n n' t} {cs cs' : List AV} (h : y = .ow 43 g n t cs) (hn : n = n') (hc : cs = cs') : ∃ g, y = .ow 43 g n' t cs' := ⟨g, by subst hn hc; exact h⟩
set_option maxHeartbeats 32000000 in
theorem law_WrapBack (key b w : List UInt8) (n : UInt8) : Spec Try.prog 10 [.sl false key.length (aOfBytes key), .int .u8 (n.toNat : Int), .sl false b.length (aOfBytes b), .sl false w.length (aOfBytes w)] (.k (.bool true)) := by
  have s1 := short08_spec b
  have s1w := short08_spec w
  have hb : (b.take 300).length ≤ 300 := by simp; omega
  have hw : (w.take 300).length ≤ 300 := by simp; omega
  generalize b.take 300 = bb at *
  generalize w.take 300 = w1 at *
  have hka := aOfBytes_len key
  have hxa := aOfBytes_len bb
  have hwa := aOfBytes_len w1
  obtain ⟨N, hN⟩ : ∃ N, N = wszN n := ⟨_, rfl⟩
  have hn : (16 : Int) + 8 * ((n.toNat : Int) % 3) = ((N : Nat) : Int) := by rw [hN]; unfold wszN; omega
  have hm : N ≤ 32 := by rw [hN]; unfold wszN; omega
  have hok : aesOk (wszB key N) := by unfold aesOk; rw [wszB_len, hN]; unfold wszN; omega
  have hkl := wszB_len key N
  have hz1 : key.length ≤ N → List.take N (aOfBytes key) ++ List.drop key.length (List.replicate N (AV.int .u8 0)) = aOfBytes (wszB key N) := fun h => by
    rw [wszB, aOfBytes_append, bytes_take', List.drop_replicate, rep_eqW]
  have hz2 : ¬ key.length ≤ N → List.take N (aOfBytes key) ++ List.drop N (List.replicate N (AV.int .u8 0)) = aOfBytes (wszB key N) := fun h => by
    rw [wszB, aOfBytes_append, bytes_take', List.drop_replicate, ← rep_eqW, show N - key.length = 0 by omega, Nat.sub_self]
  generalize wszB key N = k at *
  have hkka := aOfBytes_len k
  have hU : Spec Try.prog 26 [.sl false N (aOfBytes k), .sl false w1.length (aOfBytes w1)] (.k (.tup [.sl true 0 [], .int .i64 1])) ∨ (partsN w1.length 1 ≠ 0 ∧ Spec Try.prog 26 [.sl false N (aOfBytes k), .sl false w1.length (aOfBytes w1)] (.k (unR (unwrapB (wD k) w1)))) := by
    by_cases hp : partsN w1.length 1 = 0
    · have h := unwrap_bad false false k w1 (by omega) (by omega) (.inr hp)
      rw [hkl] at h
      exact .inl h
    · have h := unwrap_ok false false k w1 hok hp
      rw [hkl] at h
      exact .inr ⟨hp, h⟩
  obtain ⟨Ns, hNs⟩ : ∃ Ns, Ns = if bb.length ≤ 16 then 16 else 8 * ((bb.length + 7) / 8) := ⟨_, rfl⟩
  have hNs : (bb.length ≤ 16 ∧ Ns = 16) ∨ (16 < bb.length ∧ Ns = 8 * ((bb.length + 7) / 8)) := by
    rw [hNs]; split
    · exact .inl ⟨by omega, rfl⟩
    · exact .inr ⟨by omega, rfl⟩
  refine spec_of (fun t => t == 24 || t == 39) (by kernel_rfl) Try.func10 rfl rfl (by simp [Try.ntmps10]) (by decide) ?_
  intro δ
  rw [init4]
  repeat with_reducible (first | refine aWp_seq ?_ | refine seq_normal ?_ | refine seq_ret ?_ | refine seq_exit ?_ | refine blk_normal ?_ | refine blk_ret ?_ | refine blk_hit ?_ | refine blk_miss rfl ?_ | refine aWp_ret ?_ | refine aWp_skip ?_ | refine aWp_block ?_ | refine aWp_exit ?_ | refine end_ret ?_ | refine end_normal ?_)
  refine rgA ?_
  intro ν
  repeat with_reducible (first | refine aWp_seq ?_ | refine seq_normal ?_ | refine seq_ret ?_ | refine seq_exit ?_ | refine blk_normal ?_ | refine blk_ret ?_ | refine blk_hit ?_ | refine blk_miss rfl ?_ | refine aWp_ret ?_ | refine aWp_skip ?_ | refine aWp_block ?_ | refine aWp_exit ?_ | refine end_ret ?_ | refine end_normal ?_)
  refine rgA ?_
  intro ν
  rw [hn]
  repeat with_reducible (first | refine aWp_seq ?_ | refine seq_normal ?_ | refine seq_ret ?_ | refine seq_exit ?_ | refine blk_normal ?_ | refine blk_ret ?_ | refine blk_hit ?_ | refine blk_miss rfl ?_ | refine aWp_ret ?_ | refine aWp_skip ?_ | refine aWp_block ?_ | refine aWp_exit ?_ | refine end_ret ?_ | refine end_normal ?_)
  refine aWp_cut (fun s => ∃ F T ν, s = ⟨F, T, ν, ⟨fun t => t == 24 || t == 39, δ, false⟩⟩ ∧ F 3 = .k (.sl false w.length (aOfBytes w)) ∧ F 9 = .k (.sl false N (aOfBytes k)) ∧ F 2 = .k (.sl false b.length (aOfBytes b))) ?_ ?_
  · by_cases h : key.length ≤ N
    · repeat with_reducible (first | refine aWp_seq ?_ | refine seq_normal ?_ | refine seq_ret ?_ | refine seq_exit ?_ | refine blk_normal ?_ | refine blk_ret ?_ | refine blk_hit ?_ | refine blk_miss rfl ?_ | refine aWp_ret ?_ | refine aWp_skip ?_ | refine aWp_block ?_ | refine aWp_exit ?_ | refine end_ret ?_ | refine end_normal ?_)
      refine rg fun K hK => ?_
      refine stA ?_
      refine rzs (t := 9) rfl rfl ?_
      refine hK _ _ _ ?_
      clear hK K; intro ν
      rw [aZW, Int.toNat_natCast, hz1 h]
      repeat (first | with_reducible (first | refine aWp_seq ?_ | refine seq_normal ?_ | refine seq_ret ?_ | refine seq_exit ?_ | refine blk_normal ?_ | refine blk_ret ?_ | refine blk_hit ?_ | refine blk_miss rfl ?_ | refine aWp_ret ?_ | refine aWp_skip ?_ | refine aWp_block ?_ | refine aWp_exit ?_ | refine end_ret ?_ | refine end_normal ?_) | ((refine rgA ?_); intro ν) | ((with_reducible apply cndT); exact rfl; (first | rfl | assumption)) | ((with_reducible apply cndF); exact rfl; (first | rfl | assumption)))
      exact ⟨_, _, _, rfl, rfl, rfl, rfl⟩
    · repeat with_reducible (first | refine aWp_seq ?_ | refine seq_normal ?_ | refine seq_ret ?_ | refine seq_exit ?_ | refine blk_normal ?_ | refine blk_ret ?_ | refine blk_hit ?_ | refine blk_miss rfl ?_ | refine aWp_ret ?_ | refine aWp_skip ?_ | refine aWp_block ?_ | refine aWp_exit ?_ | refine end_ret ?_ | refine end_normal ?_)
      refine rg fun K hK => ?_
      refine stA ?_
      refine rzs (t := 9) rfl rfl ?_
      refine hK _ _ _ ?_
      clear hK K; intro ν
      rw [aZW, Int.toNat_natCast, hz2 h]
      repeat (first | with_reducible (first | refine aWp_seq ?_ | refine seq_normal ?_ | refine seq_ret ?_ | refine seq_exit ?_ | refine blk_normal ?_ | refine blk_ret ?_ | refine blk_hit ?_ | refine blk_miss rfl ?_ | refine aWp_ret ?_ | refine aWp_skip ?_ | refine aWp_block ?_ | refine aWp_exit ?_ | refine end_ret ?_ | refine end_normal ?_) | ((refine rgA ?_); intro ν) | ((with_reducible apply cndT); exact rfl; (first | rfl | assumption)) | ((with_reducible apply cndF); exact rfl; (first | rfl | assumption)))
      exact ⟨_, _, _, rfl, rfl, rfl, rfl⟩
  clear hz1 hz2
  rintro s ⟨F, T, ν, rfl, f3, f9, f2⟩
  rw [has3 f3 f9 f2]
  repeat with_reducible (first | refine aWp_seq ?_ | refine seq_normal ?_ | refine seq_ret ?_ | refine seq_exit ?_ | refine blk_normal ?_ | refine blk_ret ?_ | refine blk_hit ?_ | refine blk_miss rfl ?_ | refine aWp_ret ?_ | refine aWp_skip ?_ | refine aWp_block ?_ | refine aWp_exit ?_ | refine end_ret ?_ | refine end_normal ?_)
  refine rg fun K hK => ?_
  refine stA ?_
  (first | with_reducible refine g0 ?_ | ((with_reducible refine g1 ?_ ?_); (with_reducible apply gt_); exact rfl; exact rfl; (first | rfl | assumption | (simp [*] <;> done)))); refine scA (h2 := (s1)) (hk := ?_)
  refine stA ?_
  with_reducible refine rz ?_
  refine hK _ _ _ ?_
  clear hK K; intro ν
  repeat (first | with_reducible (first | refine aWp_seq ?_ | refine seq_normal ?_ | refine seq_ret ?_ | refine seq_exit ?_ | refine blk_normal ?_ | refine blk_ret ?_ | refine blk_hit ?_ | refine blk_miss rfl ?_ | refine aWp_ret ?_ | refine aWp_skip ?_ | refine aWp_block ?_ | refine aWp_exit ?_ | refine end_ret ?_ | refine end_normal ?_) | ((refine rgA ?_); intro ν) | ((with_reducible apply cndT); exact rfl; (first | rfl | assumption)) | ((with_reducible apply cndF); exact rfl; (first | rfl | assumption)))
  refine aWp_loop (fun m s => ∃ F T ν y L, m = Ns - List.length L ∧ bb.length ≤ L.length ∧ L.length ≤ Ns ∧ s = ⟨F, T, ν, ⟨fun t => t == 24 || t == 39, δ, false⟩⟩ ∧ F 3 = .k (.sl false w.length (aOfBytes w)) ∧ F 9 = .k (.sl false N (aOfBytes k)) ∧ F 10 = y ∧ (y = .k (.sl false L.length (aOfBytes L)) ∨ ∃ g, y = .ow 43 g L.length 5 (aOfBytes L))) (Ns - bb.length) ⟨_, _, _, _, bb, rfl, Nat.le_refl _, by omega, rfl, rfl, rfl, rfl, .inl rfl⟩ ?_
  clear f2 f3 f9
  rintro m s ⟨F, T, ν, y, L, rfl, hL1, hL2, rfl, f3, f9, f10, hy⟩
  rw [has3 f3 f9 f10]
  have hLa := aOfBytes_len L
  by_cases hlt : L.length < Ns
  · have hcond : (L.length : Int) % 8 ≠ 0 ∨ (L.length : Int) < 16 := by omega
    by_cases hq : (L.length : Int) % 8 = 0
    · have hq2 : L.length < 16 := by omega
      by_cases hL0 : L.length = 0
      · have hLn : L = [] := List.eq_nil_of_length_eq_zero hL0
        rcases hy with rfl | ⟨g, rfl⟩
        · as_aux_lemma =>
            repeat (first | with_reducible (first | refine aWp_seq ?_ | refine seq_normal ?_ | refine seq_ret ?_ | refine seq_exit ?_ | refine blk_normal ?_ | refine blk_ret ?_ | refine blk_hit ?_ | refine blk_miss rfl ?_ | refine aWp_ret ?_ | refine aWp_skip ?_ | refine aWp_block ?_ | refine aWp_exit ?_ | refine end_ret ?_ | refine end_normal ?_) | ((refine rgA ?_); intro ν) | ((with_reducible apply cndT); exact rfl; (first | rfl | assumption)) | ((with_reducible apply cndF); exact rfl; (first | rfl | assumption)))
            refine ⟨Ns - (L ++ [7]).length, by rw [List.length_append]; show Ns - (L.length + 1) < Ns - L.length; omega, _, _, _, _, L ++ [7], rfl, by rw [List.length_append]; omega, by rw [List.length_append]; show L.length + 1 ≤ Ns; omega, rfl, rfl, rfl, rfl, .inr (owE rfl (by rw [hLn]; rfl) (by rw [hLn]; rfl))⟩
        · as_aux_lemma =>
            repeat (first | with_reducible (first | refine aWp_seq ?_ | refine seq_normal ?_ | refine seq_ret ?_ | refine seq_exit ?_ | refine blk_normal ?_ | refine blk_ret ?_ | refine blk_hit ?_ | refine blk_miss rfl ?_ | refine aWp_ret ?_ | refine aWp_skip ?_ | refine aWp_block ?_ | refine aWp_exit ?_ | refine end_ret ?_ | refine end_normal ?_) | ((refine rgA ?_); intro ν) | ((with_reducible apply cndT); exact rfl; (first | rfl | assumption)) | ((with_reducible apply cndF); exact rfl; (first | rfl | assumption)))
            refine ⟨Ns - (L ++ [7]).length, by rw [List.length_append]; show Ns - (L.length + 1) < Ns - L.length; omega, _, _, _, _, L ++ [7], rfl, by rw [List.length_append]; omega, by rw [List.length_append]; show L.length + 1 ≤ Ns; omega, rfl, rfl, rfl, rfl, .inr (owE rfl (by rw [hLn]; rfl) (by rw [hLn]; rfl))⟩
      · rcases hy with rfl | ⟨g, rfl⟩
        · as_aux_lemma =>
            repeat (first | with_reducible (first | refine aWp_seq ?_ | refine seq_normal ?_ | refine seq_ret ?_ | refine seq_exit ?_ | refine blk_normal ?_ | refine blk_ret ?_ | refine blk_hit ?_ | refine blk_miss rfl ?_ | refine aWp_ret ?_ | refine aWp_skip ?_ | refine aWp_block ?_ | refine aWp_exit ?_ | refine end_ret ?_ | refine end_normal ?_) | ((refine rgA ?_); intro ν) | ((with_reducible apply cndT); exact rfl; (first | rfl | assumption)) | ((with_reducible apply cndF); exact rfl; (first | rfl | assumption)))
            refine ⟨Ns - (L ++ [7]).length, by rw [List.length_append]; show Ns - (L.length + 1) < Ns - L.length; omega, _, _, _, _, L ++ [7], rfl, by rw [List.length_append]; omega, by rw [List.length_append]; show L.length + 1 ≤ Ns; omega, rfl, rfl, rfl, rfl, .inr (owE rfl (by rw [List.length_append]; rfl) (by rw [aOfBytes_append]; rfl))⟩
        · as_aux_lemma =>
            repeat (first | with_reducible (first | refine aWp_seq ?_ | refine seq_normal ?_ | refine seq_ret ?_ | refine seq_exit ?_ | refine blk_normal ?_ | refine blk_ret ?_ | refine blk_hit ?_ | refine blk_miss rfl ?_ | refine aWp_ret ?_ | refine aWp_skip ?_ | refine aWp_block ?_ | refine aWp_exit ?_ | refine end_ret ?_ | refine end_normal ?_) | ((refine rgA ?_); intro ν) | ((with_reducible apply cndT); exact rfl; (first | rfl | assumption)) | ((with_reducible apply cndF); exact rfl; (first | rfl | assumption)))
            refine ⟨Ns - (L ++ [7]).length, by rw [List.length_append]; show Ns - (L.length + 1) < Ns - L.length; omega, _, _, _, _, L ++ [7], rfl, by rw [List.length_append]; omega, by rw [List.length_append]; show L.length + 1 ≤ Ns; omega, rfl, rfl, rfl, rfl, .inr (owE rfl (by rw [List.length_append]; rfl) (by rw [aOfBytes_append]; rfl))⟩
    · have hL0 : ¬ L.length = 0 := by omega
      rcases hy with rfl | ⟨g, rfl⟩
      · as_aux_lemma =>
          repeat (first | with_reducible (first | refine aWp_seq ?_ | refine seq_normal ?_ | refine seq_ret ?_ | refine seq_exit ?_ | refine blk_normal ?_ | refine blk_ret ?_ | refine blk_hit ?_ | refine blk_miss rfl ?_ | refine aWp_ret ?_ | refine aWp_skip ?_ | refine aWp_block ?_ | refine aWp_exit ?_ | refine end_ret ?_ | refine end_normal ?_) | ((refine rgA ?_); intro ν) | ((with_reducible apply cndT); exact rfl; (first | rfl | assumption)) | ((with_reducible apply cndF); exact rfl; (first | rfl | assumption)))
          refine ⟨Ns - (L ++ [7]).length, by rw [List.length_append]; show Ns - (L.length + 1) < Ns - L.length; omega, _, _, _, _, L ++ [7], rfl, by rw [List.length_append]; omega, by rw [List.length_append]; show L.length + 1 ≤ Ns; omega, rfl, rfl, rfl, rfl, .inr (owE rfl (by rw [List.length_append]; rfl) (by rw [aOfBytes_append]; rfl))⟩
      · as_aux_lemma =>
          repeat (first | with_reducible (first | refine aWp_seq ?_ | refine seq_normal ?_ | refine seq_ret ?_ | refine seq_exit ?_ | refine blk_normal ?_ | refine blk_ret ?_ | refine blk_hit ?_ | refine blk_miss rfl ?_ | refine aWp_ret ?_ | refine aWp_skip ?_ | refine aWp_block ?_ | refine aWp_exit ?_ | refine end_ret ?_ | refine end_normal ?_) | ((refine rgA ?_); intro ν) | ((with_reducible apply cndT); exact rfl; (first | rfl | assumption)) | ((with_reducible apply cndF); exact rfl; (first | rfl | assumption)))
          refine ⟨Ns - (L ++ [7]).length, by rw [List.length_append]; show Ns - (L.length + 1) < Ns - L.length; omega, _, _, _, _, L ++ [7], rfl, by rw [List.length_append]; omega, by rw [List.length_append]; show L.length + 1 ≤ Ns; omega, rfl, rfl, rfl, rfl, .inr (owE rfl (by rw [List.length_append]; rfl) (by rw [aOfBytes_append]; rfl))⟩
  · have hLe : L.length = Ns := by omega
    have hq : (L.length : Int) % 8 = 0 := by omega
    have hq2 : ¬ (L.length : Int) < 16 := by omega
    have hX : ∃ X : List UInt8, X.length % 8 = 0 ∧ 16 ≤ X.length ∧ X.length ≤ 256 ∧ ((256 < L.length ∧ X = L.take 256) ∨ (L.length ≤ 256 ∧ X = L)) := by
      by_cases h : 256 < L.length
      · exact ⟨L.take 256, by simp; omega, by simp; omega, by simp; omega, .inl ⟨h, rfl⟩⟩
      · exact ⟨L, by omega, by omega, by omega, .inr ⟨by omega, rfl⟩⟩
    obtain ⟨X, hX8, hX16, hX256, hXL⟩ := hX
    have hXa := aOfBytes_len X
    have hXp : partsN X.length 0 ≠ 0 := by unfold partsN; rw [if_pos (by omega)]; omega
    obtain ⟨hUW, hWl⟩ := unwrap_wrap (wE_len k) (wDE k) X hX8 (by omega)
    have hWp : partsN (wrapB (wE k) X).length 1 ≠ 0 := by rw [hWl]; unfold partsN; rw [if_pos (by omega)]; omega
    repeat with_reducible (first | refine aWp_seq ?_ | refine seq_normal ?_ | refine seq_ret ?_ | refine seq_exit ?_ | refine blk_normal ?_ | refine blk_ret ?_ | refine blk_hit ?_ | refine blk_miss rfl ?_ | refine aWp_ret ?_ | refine aWp_skip ?_ | refine aWp_block ?_ | refine aWp_exit ?_ | refine end_ret ?_ | refine end_normal ?_)
    refine aWp_cut (fun s => ∃ F T ν, s = ⟨F, T, ν, ⟨fun t => t == 24 || t == 39, δ, false⟩⟩ ∧ F 3 = .k (.sl false w.length (aOfBytes w)) ∧ F 9 = .k (.sl false N (aOfBytes k)) ∧ F 10 = y ∧ F 38 = .k (.bool false)) ?_ ?_
    · rcases hy with rfl | ⟨g, rfl⟩
      · repeat (first | with_reducible (first | refine aWp_seq ?_ | refine seq_normal ?_ | refine seq_ret ?_ | refine seq_exit ?_ | refine blk_normal ?_ | refine blk_ret ?_ | refine blk_hit ?_ | refine blk_miss rfl ?_ | refine aWp_ret ?_ | refine aWp_skip ?_ | refine aWp_block ?_ | refine aWp_exit ?_ | refine end_ret ?_ | refine end_normal ?_) | ((refine rgA ?_); intro ν) | ((with_reducible apply cndT); exact rfl; (first | rfl | assumption)) | ((with_reducible apply cndF); exact rfl; (first | rfl | assumption)))
        exact ⟨_, _, _, rfl, rfl, rfl, rfl, rfl⟩
      · repeat (first | with_reducible (first | refine aWp_seq ?_ | refine seq_normal ?_ | refine seq_ret ?_ | refine seq_exit ?_ | refine blk_normal ?_ | refine blk_ret ?_ | refine blk_hit ?_ | refine blk_miss rfl ?_ | refine aWp_ret ?_ | refine aWp_skip ?_ | refine aWp_block ?_ | refine aWp_exit ?_ | refine end_ret ?_ | refine end_normal ?_) | ((refine rgA ?_); intro ν) | ((with_reducible apply cndT); exact rfl; (first | rfl | assumption)) | ((with_reducible apply cndF); exact rfl; (first | rfl | assumption)))
        exact ⟨_, _, _, rfl, rfl, rfl, rfl, rfl⟩
    clear f3 f9 f10
    rintro s ⟨F, T, ν, rfl, f3, f9, f10, f38⟩
    rw [has4 f3 f9 f10 f38]
    (with_reducible apply cndF); exact rfl; (first | rfl | assumption | (simp [*] <;> done))
    repeat with_reducible (first | refine aWp_seq ?_ | refine seq_normal ?_ | refine seq_ret ?_ | refine seq_exit ?_ | refine blk_normal ?_ | refine blk_ret ?_ | refine blk_hit ?_ | refine blk_miss rfl ?_ | refine aWp_ret ?_ | refine aWp_skip ?_ | refine aWp_block ?_ | refine aWp_exit ?_ | refine end_ret ?_ | refine end_normal ?_)
    refine cut_rc (fun s => ∃ F T ν x fl, s = ⟨F, T, ν, ⟨fun t => t == 24 || t == 39, δ, false⟩⟩ ∧ F 3 = .k (.sl false w.length (aOfBytes w)) ∧ F 9 = .k (.sl false N (aOfBytes k)) ∧ F 10 = x ∧ (x = .k (.sl fl X.length (aOfBytes X)) ∨ ∃ g, x = .ow 43 g X.length 5 (aOfBytes X))) ?_ ?_
    · rcases hXL with ⟨h256, hX⟩ | ⟨h256, hX⟩
      · have hc : decide (256 < (L.length : Int)) = true := decide_eq_true (by omega)
        have hxl : X.length = 256 := by rw [hX, List.length_take]; omega
        rcases hy with rfl | ⟨g, rfl⟩
        · repeat (first | with_reducible (first | refine aWp_seq ?_ | refine seq_normal ?_ | refine seq_ret ?_ | refine seq_exit ?_ | refine blk_normal ?_ | refine blk_ret ?_ | refine blk_hit ?_ | refine blk_miss rfl ?_ | refine aWp_ret ?_ | refine aWp_skip ?_ | refine aWp_block ?_ | refine aWp_exit ?_ | refine end_ret ?_ | refine end_normal ?_) | ((refine rgA ?_); intro ν) | ((with_reducible apply cndT); exact rfl; (first | rfl | assumption)) | ((with_reducible apply cndF); exact rfl; (first | rfl | assumption)))
          exact ⟨_, _, _, _, _, rfl, rfl, rfl, rfl, .inl (by rw [hxl, hX, bytes_take']; rfl)⟩
        · repeat (first | with_reducible (first | refine aWp_seq ?_ | refine seq_normal ?_ | refine seq_ret ?_ | refine seq_exit ?_ | refine blk_normal ?_ | refine blk_ret ?_ | refine blk_hit ?_ | refine blk_miss rfl ?_ | refine aWp_ret ?_ | refine aWp_skip ?_ | refine aWp_block ?_ | refine aWp_exit ?_ | refine end_ret ?_ | refine end_normal ?_) | ((refine rgA ?_); intro ν) | ((with_reducible apply cndT); exact rfl; (first | rfl | assumption)) | ((with_reducible apply cndF); exact rfl; (first | rfl | assumption)))
          exact ⟨_, _, _, _, _, rfl, rfl, rfl, rfl, .inl (by rw [hxl, hX, bytes_take']; rfl)⟩
      · rw [hX]
        rcases hy with rfl | ⟨g, rfl⟩
        · repeat (first | with_reducible (first | refine aWp_seq ?_ | refine seq_normal ?_ | refine seq_ret ?_ | refine seq_exit ?_ | refine blk_normal ?_ | refine blk_ret ?_ | refine blk_hit ?_ | refine blk_miss rfl ?_ | refine aWp_ret ?_ | refine aWp_skip ?_ | refine aWp_block ?_ | refine aWp_exit ?_ | refine end_ret ?_ | refine end_normal ?_) | ((refine rgA ?_); intro ν) | ((with_reducible apply cndT); exact rfl; (first | rfl | assumption)) | ((with_reducible apply cndF); exact rfl; (first | rfl | assumption)))
          exact ⟨_, _, _, _, _, rfl, rfl, rfl, rfl, .inl rfl⟩
        · repeat (first | with_reducible (first | refine aWp_seq ?_ | refine seq_normal ?_ | refine seq_ret ?_ | refine seq_exit ?_ | refine blk_normal ?_ | refine blk_ret ?_ | refine blk_hit ?_ | refine blk_miss rfl ?_ | refine aWp_ret ?_ | refine aWp_skip ?_ | refine aWp_block ?_ | refine aWp_exit ?_ | refine end_ret ?_ | refine end_normal ?_) | ((refine rgA ?_); intro ν) | ((with_reducible apply cndT); exact rfl; (first | rfl | assumption)) | ((with_reducible apply cndF); exact rfl; (first | rfl | assumption)))
          exact ⟨_, _, _, _, false, rfl, rfl, rfl, rfl, .inr ⟨_, rfl⟩⟩
    clear f3 f9 f10 f38 hXL hy hq hq2 hLe hL1 hL2 hlt hLa
    rintro s ⟨F, T, ν, x, fl, rfl, f3, f9, f10, hx⟩
    rw [has3 f3 f9 f10]
    rcases hx with rfl | ⟨g, rfl⟩
    · have s4 := wrap_ok false fl k X hok hXp
      have s5 := unwrap_ok false true k (wrapB (wE k) X) hok hWp
      rw [hUW, unR] at s5
      rw [hkl] at s4 s5
      generalize wrapB (wE k) X = W at *
      have hWa := aOfBytes_len W
      repeat (first | with_reducible (first | refine aWp_seq ?_ | refine seq_normal ?_ | refine seq_ret ?_ | refine seq_exit ?_ | refine blk_normal ?_ | refine blk_ret ?_ | refine blk_hit ?_ | refine blk_miss rfl ?_ | refine aWp_ret ?_ | refine aWp_skip ?_ | refine aWp_block ?_ | refine aWp_exit ?_ | refine end_ret ?_ | refine end_normal ?_) | ((refine rgA ?_); intro ν) | ((with_reducible apply cndT); exact rfl; (first | rfl | assumption)) | ((with_reducible apply cndF); exact rfl; (first | rfl | assumption)))
      refine rg fun K hK => ?_
      refine stA ?_
      (first | with_reducible refine g0 ?_ | ((with_reducible refine g1 ?_ ?_); (with_reducible apply gt_); exact rfl; exact rfl; (first | rfl | assumption | (simp [*] <;> done)))); refine scA (h2 := (s4)) (hk := ?_)
      refine stA ?_
      with_reducible refine rz ?_
      refine hK _ _ _ ?_
      clear hK K; intro ν
      repeat (first | with_reducible (first | refine aWp_seq ?_ | refine seq_normal ?_ | refine seq_ret ?_ | refine seq_exit ?_ | refine blk_normal ?_ | refine blk_ret ?_ | refine blk_hit ?_ | refine blk_miss rfl ?_ | refine aWp_ret ?_ | refine aWp_skip ?_ | refine aWp_block ?_ | refine aWp_exit ?_ | refine end_ret ?_ | refine end_normal ?_) | ((refine rgA ?_); intro ν) | ((with_reducible apply cndT); exact rfl; (first | rfl | assumption)) | ((with_reducible apply cndF); exact rfl; (first | rfl | assumption)))
      refine rg fun K hK => ?_
      refine stA ?_
      (first | with_reducible refine g0 ?_ | ((with_reducible refine g1 ?_ ?_); (with_reducible apply gt_); exact rfl; exact rfl; (first | rfl | assumption | (simp [*] <;> done)))); refine scA (h2 := (s5)) (hk := ?_)
      refine stA ?_
      with_reducible refine rz ?_
      refine hK _ _ _ ?_
      clear hK K; intro ν
      repeat (first | with_reducible (first | refine aWp_seq ?_ | refine seq_normal ?_ | refine seq_ret ?_ | refine seq_exit ?_ | refine blk_normal ?_ | refine blk_ret ?_ | refine blk_hit ?_ | refine blk_miss rfl ?_ | refine aWp_ret ?_ | refine aWp_skip ?_ | refine aWp_block ?_ | refine aWp_exit ?_ | refine end_ret ?_ | refine end_normal ?_) | ((refine rgA ?_); intro ν) | ((with_reducible apply cndT); exact rfl; (first | rfl | assumption)) | ((with_reducible apply cndF); exact rfl; (first | rfl | assumption)))
      rcases hU with s6 | ⟨hpw, s6⟩
      · refine rg fun K hK => ?_
        refine stA ?_
        (first | with_reducible refine g0 ?_ | ((with_reducible refine g1 ?_ ?_); (with_reducible apply gt_); exact rfl; exact rfl; (first | rfl | assumption | (simp [*] <;> done)))); refine scA (h2 := (s1w)) (hk := ?_)
        refine stA ?_
        (first | with_reducible refine g0 ?_ | ((with_reducible refine g1 ?_ ?_); (with_reducible apply gt_); exact rfl; exact rfl; (first | rfl | assumption | (simp [*] <;> done)))); refine scA (h2 := (s6)) (hk := ?_)
        refine stA ?_
        with_reducible refine rz ?_
        refine hK _ _ _ ?_
        clear hK K; intro ν
        repeat (first | with_reducible (first | refine aWp_seq ?_ | refine seq_normal ?_ | refine seq_ret ?_ | refine seq_exit ?_ | refine blk_normal ?_ | refine blk_ret ?_ | refine blk_hit ?_ | refine blk_miss rfl ?_ | refine aWp_ret ?_ | refine aWp_skip ?_ | refine aWp_block ?_ | refine aWp_exit ?_ | refine end_ret ?_ | refine end_normal ?_) | ((refine rgA ?_); intro ν) | ((with_reducible apply cndT); exact rfl; (first | rfl | assumption)) | ((with_reducible apply cndF); exact rfl; (first | rfl | assumption)))
        refine rg fun K hK => ?_
        refine stA ?_
        (first | with_reducible refine g0 ?_ | ((with_reducible refine g1 ?_ ?_); (with_reducible apply gt_); exact rfl; exact rfl; (first | rfl | assumption | (simp [*] <;> done)))); refine scA (h2 := (awake08_spec)) (hk := ?_)
        refine stA ?_
        with_reducible refine rz ?_
        refine hK _ _ _ ?_
        clear hK K; intro ν
        repeat (first | with_reducible (first | refine aWp_seq ?_ | refine seq_normal ?_ | refine seq_ret ?_ | refine seq_exit ?_ | refine blk_normal ?_ | refine blk_ret ?_ | refine blk_hit ?_ | refine blk_miss rfl ?_ | refine aWp_ret ?_ | refine aWp_skip ?_ | refine aWp_block ?_ | refine aWp_exit ?_ | refine end_ret ?_ | refine end_normal ?_) | ((refine rgA ?_); intro ν) | ((with_reducible apply cndT); exact rfl; (first | rfl | assumption)) | ((with_reducible apply cndF); exact rfl; (first | rfl | assumption)))
        (first | with_reducible refine end_r ?_ | with_reducible refine end_n ?_); refine en1 ?_
        rfl
      · cases hu : unwrapB (wD k) w1 with
        | none =>
          rw [hu, unR] at s6
          refine rg fun K hK => ?_
          refine stA ?_
          (first | with_reducible refine g0 ?_ | ((with_reducible refine g1 ?_ ?_); (with_reducible apply gt_); exact rfl; exact rfl; (first | rfl | assumption | (simp [*] <;> done)))); refine scA (h2 := (s1w)) (hk := ?_)
          refine stA ?_
          (first | with_reducible refine g0 ?_ | ((with_reducible refine g1 ?_ ?_); (with_reducible apply gt_); exact rfl; exact rfl; (first | rfl | assumption | (simp [*] <;> done)))); refine scA (h2 := (s6)) (hk := ?_)
          refine stA ?_
          with_reducible refine rz ?_
          refine hK _ _ _ ?_
          clear hK K; intro ν
          repeat (first | with_reducible (first | refine aWp_seq ?_ | refine seq_normal ?_ | refine seq_ret ?_ | refine seq_exit ?_ | refine blk_normal ?_ | refine blk_ret ?_ | refine blk_hit ?_ | refine blk_miss rfl ?_ | refine aWp_ret ?_ | refine aWp_skip ?_ | refine aWp_block ?_ | refine aWp_exit ?_ | refine end_ret ?_ | refine end_normal ?_) | ((refine rgA ?_); intro ν) | ((with_reducible apply cndT); exact rfl; (first | rfl | assumption)) | ((with_reducible apply cndF); exact rfl; (first | rfl | assumption)))
          refine rg fun K hK => ?_
          refine stA ?_
          (first | with_reducible refine g0 ?_ | ((with_reducible refine g1 ?_ ?_); (with_reducible apply gt_); exact rfl; exact rfl; (first | rfl | assumption | (simp [*] <;> done)))); refine scA (h2 := (awake08_spec)) (hk := ?_)
          refine stA ?_
          with_reducible refine rz ?_
          refine hK _ _ _ ?_
          clear hK K; intro ν
          repeat (first | with_reducible (first | refine aWp_seq ?_ | refine seq_normal ?_ | refine seq_ret ?_ | refine seq_exit ?_ | refine blk_normal ?_ | refine blk_ret ?_ | refine blk_hit ?_ | refine blk_miss rfl ?_ | refine aWp_ret ?_ | refine aWp_skip ?_ | refine aWp_block ?_ | refine aWp_exit ?_ | refine end_ret ?_ | refine end_normal ?_) | ((refine rgA ?_); intro ν) | ((with_reducible apply cndT); exact rfl; (first | rfl | assumption)) | ((with_reducible apply cndF); exact rfl; (first | rfl | assumption)))
          (first | with_reducible refine end_r ?_ | with_reducible refine end_n ?_); refine en1 ?_
          rfl
        | some u =>
          rw [hu, unR] at s6
          obtain ⟨hwu, hul⟩ := wrap_unwrap (wD_len k) (wED k) w1 u (by unfold partsN at hpw; split at hpw <;> omega) (by unfold partsN at hpw; split at hpw <;> omega) hu
          have s7 := wrap_ok false false k u hok (by
            unfold partsN at hpw ⊢
            split at hpw
            · rw [if_pos (by omega)]; omega
            · omega)
          rw [hwu, hkl] at s7
          have hua := aOfBytes_len u
          refine rg fun K hK => ?_
          refine stA ?_
          (first | with_reducible refine g0 ?_ | ((with_reducible refine g1 ?_ ?_); (with_reducible apply gt_); exact rfl; exact rfl; (first | rfl | assumption | (simp [*] <;> done)))); refine scA (h2 := (s1w)) (hk := ?_)
          refine stA ?_
          (first | with_reducible refine g0 ?_ | ((with_reducible refine g1 ?_ ?_); (with_reducible apply gt_); exact rfl; exact rfl; (first | rfl | assumption | (simp [*] <;> done)))); refine scA (h2 := (s6)) (hk := ?_)
          refine stA ?_
          with_reducible refine rz ?_
          refine hK _ _ _ ?_
          clear hK K; intro ν
          repeat (first | with_reducible (first | refine aWp_seq ?_ | refine seq_normal ?_ | refine seq_ret ?_ | refine seq_exit ?_ | refine blk_normal ?_ | refine blk_ret ?_ | refine blk_hit ?_ | refine blk_miss rfl ?_ | refine aWp_ret ?_ | refine aWp_skip ?_ | refine aWp_block ?_ | refine aWp_exit ?_ | refine end_ret ?_ | refine end_normal ?_) | ((refine rgA ?_); intro ν) | ((with_reducible apply cndT); exact rfl; (first | rfl | assumption)) | ((with_reducible apply cndF); exact rfl; (first | rfl | assumption)))
          refine rg fun K hK => ?_
          refine stA ?_
          (first | with_reducible refine g0 ?_ | ((with_reducible refine g1 ?_ ?_); (with_reducible apply gt_); exact rfl; exact rfl; (first | rfl | assumption | (simp [*] <;> done)))); refine scA (h2 := (s7)) (hk := ?_)
          refine stA ?_
          with_reducible refine rz ?_
          refine hK _ _ _ ?_
          clear hK K; intro ν
          repeat (first | with_reducible (first | refine aWp_seq ?_ | refine seq_normal ?_ | refine seq_ret ?_ | refine seq_exit ?_ | refine blk_normal ?_ | refine blk_ret ?_ | refine blk_hit ?_ | refine blk_miss rfl ?_ | refine aWp_ret ?_ | refine aWp_skip ?_ | refine aWp_block ?_ | refine aWp_exit ?_ | refine end_ret ?_ | refine end_normal ?_) | ((refine rgA ?_); intro ν) | ((with_reducible apply cndT); exact rfl; (first | rfl | assumption)) | ((with_reducible apply cndF); exact rfl; (first | rfl | assumption)))
          refine rgx [] (by kernel_rfl) fun K hK => ?_
          refine stxA ?_
          ((first | ((with_reducible refine x0 ?_ ?_); exact rfl) | ((with_reducible refine x1 ?_ ?_ ?_); exact rfl; (with_reducible apply gt_); exact rfl; exact rfl; (first | rfl | assumption | (simp [*] <;> done)))); refine xcA (h2 := (awake08_spec)) (hk := ?_))
          refine stxA ?_
          ((first | ((with_reducible refine x0 ?_ ?_); exact rfl) | ((with_reducible refine x1 ?_ ?_ ?_); exact rfl; (with_reducible apply gt_); exact rfl; exact rfl; (first | rfl | assumption | (simp [*] <;> done)))); refine xcA (h2 := (s1w)) (hk := ?_))
          refine stxA ?_
          with_reducible refine xz ?_
          refine hK _ _ _ ?_
          clear hK K; intro ν
          repeat (first | with_reducible (first | refine aWp_seq ?_ | refine seq_normal ?_ | refine seq_ret ?_ | refine seq_exit ?_ | refine blk_normal ?_ | refine blk_ret ?_ | refine blk_hit ?_ | refine blk_miss rfl ?_ | refine aWp_ret ?_ | refine aWp_skip ?_ | refine aWp_block ?_ | refine aWp_exit ?_ | refine end_ret ?_ | refine end_normal ?_) | ((refine rgA ?_); intro ν) | ((with_reducible apply cndT); exact rfl; (first | rfl | assumption)) | ((with_reducible apply cndF); exact rfl; (first | rfl | assumption)))
          (first | with_reducible refine end_r ?_ | with_reducible refine end_n ?_); refine en1 ?_
          rfl
    · have s4 := wrap_ok false false k X hok hXp
      have s5 := unwrap_ok false true k (wrapB (wE k) X) hok hWp
      rw [hUW, unR] at s5
      rw [hkl] at s4 s5
      generalize wrapB (wE k) X = W at *
      have hWa := aOfBytes_len W
      repeat (first | with_reducible (first | refine aWp_seq ?_ | refine seq_normal ?_ | refine seq_ret ?_ | refine seq_exit ?_ | refine blk_normal ?_ | refine blk_ret ?_ | refine blk_hit ?_ | refine blk_miss rfl ?_ | refine aWp_ret ?_ | refine aWp_skip ?_ | refine aWp_block ?_ | refine aWp_exit ?_ | refine end_ret ?_ | refine end_normal ?_) | ((refine rgA ?_); intro ν) | ((with_reducible apply cndT); exact rfl; (first | rfl | assumption)) | ((with_reducible apply cndF); exact rfl; (first | rfl | assumption)))
      refine rg fun K hK => ?_
      refine stA ?_
      (first | with_reducible refine g0 ?_ | ((with_reducible refine g1 ?_ ?_); (with_reducible apply gt_); exact rfl; exact rfl; (first | rfl | assumption | (simp [*] <;> done)))); refine scA (h2 := (s4)) (hk := ?_)
      refine stA ?_
      with_reducible refine rz ?_
      refine hK _ _ _ ?_
      clear hK K; intro ν
      repeat (first | with_reducible (first | refine aWp_seq ?_ | refine seq_normal ?_ | refine seq_ret ?_ | refine seq_exit ?_ | refine blk_normal ?_ | refine blk_ret ?_ | refine blk_hit ?_ | refine blk_miss rfl ?_ | refine aWp_ret ?_ | refine aWp_skip ?_ | refine aWp_block ?_ | refine aWp_exit ?_ | refine end_ret ?_ | refine end_normal ?_) | ((refine rgA ?_); intro ν) | ((with_reducible apply cndT); exact rfl; (first | rfl | assumption)) | ((with_reducible apply cndF); exact rfl; (first | rfl | assumption)))
      refine rg fun K hK => ?_
      refine stA ?_
      (first | with_reducible refine g0 ?_ | ((with_reducible refine g1 ?_ ?_); (with_reducible apply gt_); exact rfl; exact rfl; (first | rfl | assumption | (simp [*] <;> done)))); refine scA (h2 := (s5)) (hk := ?_)
      refine stA ?_
      with_reducible refine rz ?_
      refine hK _ _ _ ?_
      clear hK K; intro ν
      repeat (first | with_reducible (first | refine aWp_seq ?_ | refine seq_normal ?_ | refine seq_ret ?_ | refine seq_exit ?_ | refine blk_normal ?_ | refine blk_ret ?_ | refine blk_hit ?_ | refine blk_miss rfl ?_ | refine aWp_ret ?_ | refine aWp_skip ?_ | refine aWp_block ?_ | refine aWp_exit ?_ | refine end_ret ?_ | refine end_normal ?_) | ((refine rgA ?_); intro ν) | ((with_reducible apply cndT); exact rfl; (first | rfl | assumption)) | ((with_reducible apply cndF); exact rfl; (first | rfl | assumption)))
      rcases hU with s6 | ⟨hpw, s6⟩
      · refine rg fun K hK => ?_
        refine stA ?_
        (first | with_reducible refine g0 ?_ | ((with_reducible refine g1 ?_ ?_); (with_reducible apply gt_); exact rfl; exact rfl; (first | rfl | assumption | (simp [*] <;> done)))); refine scA (h2 := (s1w)) (hk := ?_)
        refine stA ?_
        (first | with_reducible refine g0 ?_ | ((with_reducible refine g1 ?_ ?_); (with_reducible apply gt_); exact rfl; exact rfl; (first | rfl | assumption | (simp [*] <;> done)))); refine scA (h2 := (s6)) (hk := ?_)
        refine stA ?_
        with_reducible refine rz ?_
        refine hK _ _ _ ?_
        clear hK K; intro ν
        repeat (first | with_reducible (first | refine aWp_seq ?_ | refine seq_normal ?_ | refine seq_ret ?_ | refine seq_exit ?_ | refine blk_normal ?_ | refine blk_ret ?_ | refine blk_hit ?_ | refine blk_miss rfl ?_ | refine aWp_ret ?_ | refine aWp_skip ?_ | refine aWp_block ?_ | refine aWp_exit ?_ | refine end_ret ?_ | refine end_normal ?_) | ((refine rgA ?_); intro ν) | ((with_reducible apply cndT); exact rfl; (first | rfl | assumption)) | ((with_reducible apply cndF); exact rfl; (first | rfl | assumption)))
        refine rg fun K hK => ?_
        refine stA ?_
        (first | with_reducible refine g0 ?_ | ((with_reducible refine g1 ?_ ?_); (with_reducible apply gt_); exact rfl; exact rfl; (first | rfl | assumption | (simp [*] <;> done)))); refine scA (h2 := (awake08_spec)) (hk := ?_)
        refine stA ?_
        with_reducible refine rz ?_
        refine hK _ _ _ ?_
        clear hK K; intro ν
        repeat (first | with_reducible (first | refine aWp_seq ?_ | refine seq_normal ?_ | refine seq_ret ?_ | refine seq_exit ?_ | refine blk_normal ?_ | refine blk_ret ?_ | refine blk_hit ?_ | refine blk_miss rfl ?_ | refine aWp_ret ?_ | refine aWp_skip ?_ | refine aWp_block ?_ | refine aWp_exit ?_ | refine end_ret ?_ | refine end_normal ?_) | ((refine rgA ?_); intro ν) | ((with_reducible apply cndT); exact rfl; (first | rfl | assumption)) | ((with_reducible apply cndF); exact rfl; (first | rfl | assumption)))
        (first | with_reducible refine end_r ?_ | with_reducible refine end_n ?_); refine en1 ?_
        rfl
      · cases hu : unwrapB (wD k) w1 with
        | none =>
          rw [hu, unR] at s6
          refine rg fun K hK => ?_
          refine stA ?_
          (first | with_reducible refine g0 ?_ | ((with_reducible refine g1 ?_ ?_); (with_reducible apply gt_); exact rfl; exact rfl; (first | rfl | assumption | (simp [*] <;> done)))); refine scA (h2 := (s1w)) (hk := ?_)
          refine stA ?_
          (first | with_reducible refine g0 ?_ | ((with_reducible refine g1 ?_ ?_); (with_reducible apply gt_); exact rfl; exact rfl; (first | rfl | assumption | (simp [*] <;> done)))); refine scA (h2 := (s6)) (hk := ?_)
          refine stA ?_
          with_reducible refine rz ?_
          refine hK _ _ _ ?_
          clear hK K; intro ν
          repeat (first | with_reducible (first | refine aWp_seq ?_ | refine seq_normal ?_ | refine seq_ret ?_ | refine seq_exit ?_ | refine blk_normal ?_ | refine blk_ret ?_ | refine blk_hit ?_ | refine blk_miss rfl ?_ | refine aWp_ret ?_ | refine aWp_skip ?_ | refine aWp_block ?_ | refine aWp_exit ?_ | refine end_ret ?_ | refine end_normal ?_) | ((refine rgA ?_); intro ν) | ((with_reducible apply cndT); exact rfl; (first | rfl | assumption)) | ((with_reducible apply cndF); exact rfl; (first | rfl | assumption)))
          refine rg fun K hK => ?_
          refine stA ?_
          (first | with_reducible refine g0 ?_ | ((with_reducible refine g1 ?_ ?_); (with_reducible apply gt_); exact rfl; exact rfl; (first | rfl | assumption | (simp [*] <;> done)))); refine scA (h2 := (awake08_spec)) (hk := ?_)
          refine stA ?_
          with_reducible refine rz ?_
          refine hK _ _ _ ?_
          clear hK K; intro ν
          repeat (first | with_reducible (first | refine aWp_seq ?_ | refine seq_normal ?_ | refine seq_ret ?_ | refine seq_exit ?_ | refine blk_normal ?_ | refine blk_ret ?_ | refine blk_hit ?_ | refine blk_miss rfl ?_ | refine aWp_ret ?_ | refine aWp_skip ?_ | refine aWp_block ?_ | refine aWp_exit ?_ | refine end_ret ?_ | refine end_normal ?_) | ((refine rgA ?_); intro ν) | ((with_reducible apply cndT); exact rfl; (first | rfl | assumption)) | ((with_reducible apply cndF); exact rfl; (first | rfl | assumption)))
          (first | with_reducible refine end_r ?_ | with_reducible refine end_n ?_); refine en1 ?_
          rfl
        | some u =>
          rw [hu, unR] at s6
          obtain ⟨hwu, hul⟩ := wrap_unwrap (wD_len k) (wED k) w1 u (by unfold partsN at hpw; split at hpw <;> omega) (by unfold partsN at hpw; split at hpw <;> omega) hu
          have s7 := wrap_ok false false k u hok (by
            unfold partsN at hpw ⊢
            split at hpw
            · rw [if_pos (by omega)]; omega
            · omega)
          rw [hwu, hkl] at s7
          have hua := aOfBytes_len u
          refine rg fun K hK => ?_
          refine stA ?_
          (first | with_reducible refine g0 ?_ | ((with_reducible refine g1 ?_ ?_); (with_reducible apply gt_); exact rfl; exact rfl; (first | rfl | assumption | (simp [*] <;> done)))); refine scA (h2 := (s1w)) (hk := ?_)
          refine stA ?_
          (first | with_reducible refine g0 ?_ | ((with_reducible refine g1 ?_ ?_); (with_reducible apply gt_); exact rfl; exact rfl; (first | rfl | assumption | (simp [*] <;> done)))); refine scA (h2 := (s6)) (hk := ?_)
          refine stA ?_
          with_reducible refine rz ?_
          refine hK _ _ _ ?_
          clear hK K; intro ν
          repeat (first | with_reducible (first | refine aWp_seq ?_ | refine seq_normal ?_ | refine seq_ret ?_ | refine seq_exit ?_ | refine blk_normal ?_ | refine blk_ret ?_ | refine blk_hit ?_ | refine blk_miss rfl ?_ | refine aWp_ret ?_ | refine aWp_skip ?_ | refine aWp_block ?_ | refine aWp_exit ?_ | refine end_ret ?_ | refine end_normal ?_) | ((refine rgA ?_); intro ν) | ((with_reducible apply cndT); exact rfl; (first | rfl | assumption)) | ((with_reducible apply cndF); exact rfl; (first | rfl | assumption)))
          refine rg fun K hK => ?_
          refine stA ?_
          (first | with_reducible refine g0 ?_ | ((with_reducible refine g1 ?_ ?_); (with_reducible apply gt_); exact rfl; exact rfl; (first | rfl | assumption | (simp [*] <;> done)))); refine scA (h2 := (s7)) (hk := ?_)
          refine stA ?_
          with_reducible refine rz ?_
          refine hK _ _ _ ?_
          clear hK K; intro ν
          repeat (first | with_reducible (first | refine aWp_seq ?_ | refine seq_normal ?_ | refine seq_ret ?_ | refine seq_exit ?_ | refine blk_normal ?_ | refine blk_ret ?_ | refine blk_hit ?_ | refine blk_miss rfl ?_ | refine aWp_ret ?_ | refine aWp_skip ?_ | refine aWp_block ?_ | refine aWp_exit ?_ | refine end_ret ?_ | refine end_normal ?_) | ((refine rgA ?_); intro ν) | ((with_reducible apply cndT); exact rfl; (first | rfl | assumption)) | ((with_reducible apply cndF); exact rfl; (first | rfl | assumption)))
          refine rgx [] (by kernel_rfl) fun K hK => ?_
          refine stxA ?_
          ((first | ((with_reducible refine x0 ?_ ?_); exact rfl) | ((with_reducible refine x1 ?_ ?_ ?_); exact rfl; (with_reducible apply gt_); exact rfl; exact rfl; (first | rfl | assumption | (simp [*] <;> done)))); refine xcA (h2 := (awake08_spec)) (hk := ?_))
          refine stxA ?_
          ((first | ((with_reducible refine x0 ?_ ?_); exact rfl) | ((with_reducible refine x1 ?_ ?_ ?_); exact rfl; (with_reducible apply gt_); exact rfl; exact rfl; (first | rfl | assumption | (simp [*] <;> done)))); refine xcA (h2 := (s1w)) (hk := ?_))
          refine stxA ?_
          with_reducible refine xz ?_
          refine hK _ _ _ ?_
          clear hK K; intro ν
          repeat (first | with_reducible (first | refine aWp_seq ?_ | refine seq_normal ?_ | refine seq_ret ?_ | refine seq_exit ?_ | refine blk_normal ?_ | refine blk_ret ?_ | refine blk_hit ?_ | refine blk_miss rfl ?_ | refine aWp_ret ?_ | refine aWp_skip ?_ | refine aWp_block ?_ | refine aWp_exit ?_ | refine end_ret ?_ | refine end_normal ?_) | ((refine rgA ?_); intro ν) | ((with_reducible apply cndT); exact rfl; (first | rfl | assumption)) | ((with_reducible apply cndF); exact rfl; (first | rfl | assumption)))
          (first | with_reducible refine end_r ?_ | with_reducible refine end_n ?_); refine en1 ?_
          rfl
end Go.Proofs.Ytjfeggkjkdbkiaa
