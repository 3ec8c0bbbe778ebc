import Derived.Test.YtjfeggkjkdbkiaaConcat
namespace Go.Proofs.Ytjfeggkjkdbkiaa
open Go.RowKit
set_option linter.unusedVariables false
set_option linter.unusedSimpArgs false
set_option maxRecDepth 20000
attribute [local go_sem] Oper.semAt_some
/-! parts of bytes, put together: the result is nobody else's -/
def pB (p : Bool × List UInt8) : Part := (p.1, aOfBytes p.2)
theorem pB_all (ps : List (Bool × List UInt8)) : pAll (ps.map pB) = aOfBytes (ps.flatMap (·.2)) := by
  induction ps with
  | nil => rfl
  | cons p ps ih => simp only [pAll, List.map_cons, List.flatMap_cons, aOfBytes_append] at ih ⊢; rw [ih]; rfl
set_option maxHeartbeats 8000000 in
theorem concatO_spec (full : Bool) (ps : List Part) (hsc : (pAll ps).all AV.sc = true) (h0 : 0 < (pAll ps).length) (hb : (pAll ps).length ≤ 100000000) (hN : ps.length ≤ 1000000) : Spec Try.prog 32 [.sl full ps.length (pCells ps)] (.own (pAll ps).length 5 (pAll ps)) := by
  refine spec_of_own (fun _ => false) (by kernel_rfl) Try.func32 rfl rfl (by simp [Try.ntmps32]) (by decide) ?_
  intro δ
  rw [init1]
  have hlen := pCells_len ps
  repeat (first | with_reducible (first | refine aWp_seq ?_ | refine seq_normal ?_ | refine seq_ret ?_ | refine seq_exit ?_ | refine blk_normal ?_ | refine blk_ret ?_ | refine blk_hit ?_ | refine blk_miss rfl ?_ | refine aWp_ret ?_ | refine aWp_skip ?_ | refine aWp_block ?_ | refine aWp_exit ?_ | refine end_ret ?_ | refine end_normal ?_) | ((refine rgA ?_); intro ν) | ((with_reducible apply cndT); exact rfl; (first | rfl | assumption)) | ((with_reducible apply cndF); exact rfl; (first | rfl | assumption)))
  refine aWp_loop (fun m s => ∃ F T ν i, m = ps.length - i ∧ i ≤ ps.length ∧ s = ⟨F, T, ν, ⟨fun _ => false, δ, false⟩⟩ ∧
    F 0 = .k (.sl full ps.length (pCells ps)) ∧ F 9 = .k (.sl full ps.length (pCells ps)) ∧ F 10 = .k (.int .i64 (ps.length : Nat)) ∧ F 11 = .k (.int .i64 (i : Nat)) ∧ F 3 = .k (.int .i64 ((pAll (ps.take i)).length : Nat))) ps.length ⟨_, _, _, 0, rfl, Nat.zero_le _, rfl, rfl, rfl, rfl, rfl, rfl⟩ ?_
  rintro m s ⟨F, T, ν, i, rfl, hi, rfl, f0, f9, f10, f11, f3⟩
  rw [has5 f0 f9 f10 f11 f3]
  repeat with_reducible (first | refine aWp_seq ?_ | refine seq_normal ?_ | refine seq_ret ?_ | refine seq_exit ?_ | refine blk_normal ?_ | refine blk_ret ?_ | refine blk_hit ?_ | refine blk_miss rfl ?_ | refine aWp_ret ?_ | refine aWp_skip ?_ | refine aWp_block ?_ | refine aWp_exit ?_ | refine end_ret ?_ | refine end_normal ?_)
  by_cases hlt : i < ps.length
  · obtain ⟨p, hp⟩ : ∃ p, ps[i]? = some p := ⟨ps[i], by simp [hlt]⟩
    have hld : ldAgg (.sl 5) 1 (List.drop i (pCells ps)) = some p.av := by
      have : (pCells ps)[i]? = some p.av := by simp [pCells, hp]
      have hl : i < (pCells ps).length := by omega
      rw [List.drop_eq_getElem_cons hl]
      rw [List.getElem?_eq_getElem hl] at this
      injection this with this
      rw [this]; rfl
    have hpt := pAll_take hp
    have hle := pAll_le ps (i + 1)
    rw [hpt, List.length_append] at hle
    repeat (first | with_reducible (first | refine aWp_seq ?_ | refine seq_normal ?_ | refine seq_ret ?_ | refine seq_exit ?_ | refine blk_normal ?_ | refine blk_ret ?_ | refine blk_hit ?_ | refine blk_miss rfl ?_ | refine aWp_ret ?_ | refine aWp_skip ?_ | refine aWp_block ?_ | refine aWp_exit ?_ | refine end_ret ?_ | refine end_normal ?_) | ((refine rgA ?_); intro ν) | ((with_reducible apply cndT); exact rfl; (first | rfl | assumption)) | ((with_reducible apply cndF); exact rfl; (first | rfl | assumption)))
    refine ⟨ps.length - (i + 1), by omega, _, _, _, i + 1, rfl, by omega, rfl, rfl, rfl, rfl, rfl, ?_⟩
    show (SV.k (.int .i64 (((pAll (ps.take i)).length : Int) + (p.2.length : Int))) : SV) = _
    rw [hpt, List.length_append]; push_cast; rfl
  · have hie : i = ps.length := by omega
    subst hie
    rw [List.take_length]
    have hg := grow_spec (pAll ps).length h0 (by omega)
    repeat (first | with_reducible (first | refine aWp_seq ?_ | refine seq_normal ?_ | refine seq_ret ?_ | refine seq_exit ?_ | refine blk_normal ?_ | refine blk_ret ?_ | refine blk_hit ?_ | refine blk_miss rfl ?_ | refine aWp_ret ?_ | refine aWp_skip ?_ | refine aWp_block ?_ | refine aWp_exit ?_ | refine end_ret ?_ | refine end_normal ?_) | ((refine rgA ?_); intro ν) | ((with_reducible apply cndT); exact rfl; (first | rfl | assumption)) | ((with_reducible apply cndF); exact rfl; (first | rfl | assumption)))
    refine rg fun K hK => ?_
    refine stA ?_
    (first | with_reducible refine g0 ?_ | ((with_reducible refine g1 ?_ ?_); (with_reducible apply gt_); exact rfl; exact rfl; (first | rfl | assumption | (simp [*] <;> done)))); refine scA (h2 := (hg)) (hk := ?_)
    refine stA ?_
    with_reducible refine rz ?_
    refine hK _ _ _ ?_
    clear hK K; intro ν
    repeat (first | with_reducible (first | refine aWp_seq ?_ | refine seq_normal ?_ | refine seq_ret ?_ | refine seq_exit ?_ | refine blk_normal ?_ | refine blk_ret ?_ | refine blk_hit ?_ | refine blk_miss rfl ?_ | refine aWp_ret ?_ | refine aWp_skip ?_ | refine aWp_block ?_ | refine aWp_exit ?_ | refine end_ret ?_ | refine end_normal ?_) | ((refine rgA ?_); intro ν) | ((with_reducible apply cndT); exact rfl; (first | rfl | assumption)) | ((with_reducible apply cndF); exact rfl; (first | rfl | assumption)))
    refine aWp_loop (fun m s => ∃ F T ν i x, m = ps.length - i ∧ i ≤ ps.length ∧ s = ⟨F, T, ν, ⟨fun _ => false, δ, false⟩⟩ ∧
      F 25 = .k (.sl full ps.length (pCells ps)) ∧ F 26 = .k (.int .i64 (ps.length : Nat)) ∧ F 27 = .k (.int .i64 (i : Nat)) ∧ F 6 = x ∧ AccO 5 [24, 33] T x (pAll (ps.take i)).length (pAll (ps.take i))) ps.length ⟨_, _, _, 0, _, rfl, Nat.zero_le _, rfl, rfl, rfl, rfl, rfl, .ow (by simp) rfl rfl rfl⟩ ?_
    rintro m s ⟨F, T, ν, i, x, rfl, hi, rfl, f25, f26, f27, f6, hacc⟩
    rw [has4 f25 f26 f27 f6]
    repeat with_reducible (first | refine aWp_seq ?_ | refine seq_normal ?_ | refine seq_ret ?_ | refine seq_exit ?_ | refine blk_normal ?_ | refine blk_ret ?_ | refine blk_hit ?_ | refine blk_miss rfl ?_ | refine aWp_ret ?_ | refine aWp_skip ?_ | refine aWp_block ?_ | refine aWp_exit ?_ | refine end_ret ?_ | refine end_normal ?_)
    by_cases hlt : i < ps.length
    · obtain ⟨p, hp⟩ : ∃ p, ps[i]? = some p := ⟨ps[i], by simp [hlt]⟩
      have hld : ldAgg (.sl 5) 1 (List.drop i (pCells ps)) = some p.av := by
        have : (pCells ps)[i]? = some p.av := by simp [pCells, hp]
        have hl : i < (pCells ps).length := by omega
        rw [List.drop_eq_getElem_cons hl]
        rw [List.getElem?_eq_getElem hl] at this
        injection this with this
        rw [this]; rfl
      have hpt := pAll_take hp
      have hle := pAll_le ps (i + 1)
      rw [hpt, List.length_append] at hle
      obtain ⟨d, g, hd, rfl, hT⟩ := hacc
      simp only [List.mem_cons, List.not_mem_nil, or_false] at hd
      rw [upd_self hT]
      rcases hd with rfl | rfl
      iterate 2
        · repeat (first | with_reducible (first | refine aWp_seq ?_ | refine seq_normal ?_ | refine seq_ret ?_ | refine seq_exit ?_ | refine blk_normal ?_ | refine blk_ret ?_ | refine blk_hit ?_ | refine blk_miss rfl ?_ | refine aWp_ret ?_ | refine aWp_skip ?_ | refine aWp_block ?_ | refine aWp_exit ?_ | refine end_ret ?_ | refine end_normal ?_) | ((refine rgA ?_); intro ν) | ((with_reducible apply cndT); exact rfl; (first | rfl | assumption)) | ((with_reducible apply cndF); exact rfl; (first | rfl | assumption)))
          refine ⟨ps.length - (i + 1), by omega, _, _, _, i + 1, _, rfl, by omega, rfl, rfl, rfl, rfl, rfl, .ow (by simp) rfl ?_ ?_⟩
          · rw [hpt, List.length_append]
          · rw [hpt]
    · have hie : i = ps.length := by omega
      subst hie
      rw [List.take_length] at hacc
      obtain ⟨d, g, hd, rfl, hT⟩ := hacc
      simp only [List.mem_cons, List.not_mem_nil, or_false] at hd
      rw [upd_self hT]
      rcases hd with rfl | rfl
      iterate 2
        · repeat (first | with_reducible (first | refine aWp_seq ?_ | refine seq_normal ?_ | refine seq_ret ?_ | refine seq_exit ?_ | refine blk_normal ?_ | refine blk_ret ?_ | refine blk_hit ?_ | refine blk_miss rfl ?_ | refine aWp_ret ?_ | refine aWp_skip ?_ | refine aWp_block ?_ | refine aWp_exit ?_ | refine end_ret ?_ | refine end_normal ?_) | ((refine rgA ?_); intro ν) | ((with_reducible apply cndT); exact rfl; (first | rfl | assumption)) | ((with_reducible apply cndF); exact rfl; (first | rfl | assumption)))
          (first | with_reducible refine end_r ?_ | with_reducible refine end_n ?_)
          exact endO rfl rfl (by first | rfl | exact hT) hsc
theorem sc_bytes (l : List UInt8) : (aOfBytes l).all AV.sc = true := by
  simp [aOfBytes, AV.sc]
theorem concatBO_spec (full : Bool) (ps : List (Bool × List UInt8)) (h0 : 0 < (ps.flatMap (·.2)).length) (hb : (ps.flatMap (·.2)).length ≤ 100000000) (hN : ps.length ≤ 1000000) : Spec Try.prog 32 [.sl full ps.length (pCells (ps.map pB))] (.own (ps.flatMap (·.2)).length 5 (aOfBytes (ps.flatMap (·.2)))) := by
  have h := concatO_spec full (ps.map pB) (by rw [pB_all]; exact sc_bytes _) (by rw [pB_all, aOfBytes_len]; exact h0) (by rw [pB_all, aOfBytes_len]; exact hb) (by simpa using hN)
  rwa [pB_all, aOfBytes_len, List.length_map] at h
theorem concatB_spec (full : Bool) (ps : List (Bool × List UInt8)) (h0 : 0 < (ps.flatMap (·.2)).length) (hb : (ps.flatMap (·.2)).length ≤ 100000000) (hN : ps.length ≤ 1000000) : Spec Try.prog 32 [.sl full ps.length (pCells (ps.map pB))] (.k (.sl false (ps.flatMap (·.2)).length (aOfBytes (ps.flatMap (·.2))))) := by
  have h := concat_spec full (ps.map pB) (by rw [pB_all, aOfBytes_len]; exact h0) (by rw [pB_all, aOfBytes_len]; exact hb) (by simpa using hN)
  rwa [pB_all, aOfBytes_len, List.length_map] at h
theorem grow0_run (a : Option Addr) (w : World) : Calls Try.prog 61 #[.slice a 0 0, .int .i64 0] w fun e w' => e = .returned (.slice a 0 0) ∧ w' = w := by
  go_enter Try.func61, Try.ntmps61
  go_wp2_with fail
  go_ret
  exact ⟨rfl, rfl⟩
theorem grow0_spec : Spec Try.prog 61 [.sl true 0 [], .int .i64 0] (.k (.sl true 0 [])) := by
  refine spec_calls ⟨_, Try.func61, rfl, rfl⟩ fun K w vs hk ha => ?_
  obtain ⟨u, v, rfl, g0, g1⟩ := args2 ha
  rw [kint_inv g1]
  obtain ⟨a, c, rfl, _, _, hc, _⟩ := ksl_inv g0
  rw [hc rfl]
  refine (grow0_run a w).mono ?_
  rintro e w' ⟨rfl, rfl⟩
  exact ⟨_, rfl, Below.refl _ _, .sl0 _ _ _ (Nat.zero_le _) (fun _ => rfl)⟩
theorem pAll_nil {ps : List Part} (h : pAll ps = []) {i : Nat} {p : Part} (hp : ps[i]? = some p) : p.2 = [] := by
  have h1 := List.flatMap_eq_nil_iff.1 h
  exact h1 p (List.mem_of_getElem? hp)
set_option maxHeartbeats 8000000 in
theorem concatZ_spec (full : Bool) (ps : List Part) (h0 : pAll ps = []) (hN : ps.length ≤ 1000000) : Spec Try.prog 32 [.sl full ps.length (pCells ps)] (.k (.sl true 0 [])) := by
  refine spec_of (fun _ => false) (by kernel_rfl) Try.func32 rfl rfl (by simp [Try.ntmps32]) (by decide) ?_
  intro δ
  rw [init1]
  have hlen := pCells_len ps
  have hel : ∀ (i : Nat) (p : Part), ps[i]? = some p → p.2.length = 0 := fun i p hp => by rw [pAll_nil h0 hp]; rfl
  repeat (first | with_reducible (first | refine aWp_seq ?_ | refine seq_normal ?_ | refine seq_ret ?_ | refine seq_exit ?_ | refine blk_normal ?_ | refine blk_ret ?_ | refine blk_hit ?_ | refine blk_miss rfl ?_ | refine aWp_ret ?_ | refine aWp_skip ?_ | refine aWp_block ?_ | refine aWp_exit ?_ | refine end_ret ?_ | refine end_normal ?_) | ((refine rgA ?_); intro ν) | ((with_reducible apply cndT); exact rfl; (first | rfl | assumption)) | ((with_reducible apply cndF); exact rfl; (first | rfl | assumption)))
  refine aWp_loop (fun m s => ∃ F T ν i, m = ps.length - i ∧ i ≤ ps.length ∧ s = ⟨F, T, ν, ⟨fun _ => false, δ, false⟩⟩ ∧
    F 0 = .k (.sl full ps.length (pCells ps)) ∧ F 9 = .k (.sl full ps.length (pCells ps)) ∧ F 10 = .k (.int .i64 (ps.length : Nat)) ∧ F 11 = .k (.int .i64 (i : Nat)) ∧ F 3 = .k (.int .i64 0)) ps.length ⟨_, _, _, 0, rfl, Nat.zero_le _, rfl, rfl, rfl, rfl, rfl, rfl⟩ ?_
  rintro m s ⟨F, T, ν, i, rfl, hi, rfl, f0, f9, f10, f11, f3⟩
  rw [has5 f0 f9 f10 f11 f3]
  repeat with_reducible (first | refine aWp_seq ?_ | refine seq_normal ?_ | refine seq_ret ?_ | refine seq_exit ?_ | refine blk_normal ?_ | refine blk_ret ?_ | refine blk_hit ?_ | refine blk_miss rfl ?_ | refine aWp_ret ?_ | refine aWp_skip ?_ | refine aWp_block ?_ | refine aWp_exit ?_ | refine end_ret ?_ | refine end_normal ?_)
  by_cases hlt : i < ps.length
  · obtain ⟨p, hp⟩ : ∃ p, ps[i]? = some p := ⟨ps[i], by simp [hlt]⟩
    have hld : ldAgg (.sl 5) 1 (List.drop i (pCells ps)) = some p.av := by
      have : (pCells ps)[i]? = some p.av := by simp [pCells, hp]
      have hl : i < (pCells ps).length := by omega
      rw [List.drop_eq_getElem_cons hl]
      rw [List.getElem?_eq_getElem hl] at this
      injection this with this
      rw [this]; rfl
    have hp0 := hel i p hp
    repeat (first | with_reducible (first | refine aWp_seq ?_ | refine seq_normal ?_ | refine seq_ret ?_ | refine seq_exit ?_ | refine blk_normal ?_ | refine blk_ret ?_ | refine blk_hit ?_ | refine blk_miss rfl ?_ | refine aWp_ret ?_ | refine aWp_skip ?_ | refine aWp_block ?_ | refine aWp_exit ?_ | refine end_ret ?_ | refine end_normal ?_) | ((refine rgA ?_); intro ν) | ((with_reducible apply cndT); exact rfl; (first | rfl | assumption)) | ((with_reducible apply cndF); exact rfl; (first | rfl | assumption)))
    refine ⟨ps.length - (i + 1), by omega, _, _, _, i + 1, rfl, by omega, rfl, rfl, rfl, rfl, rfl, ?_⟩
    show (SV.k (.int .i64 ((0 : Int) + (p.2.length : Int))) : SV) = _
    rw [hp0]; rfl
  · have hie : i = ps.length := by omega
    subst hie
    repeat (first | with_reducible (first | refine aWp_seq ?_ | refine seq_normal ?_ | refine seq_ret ?_ | refine seq_exit ?_ | refine blk_normal ?_ | refine blk_ret ?_ | refine blk_hit ?_ | refine blk_miss rfl ?_ | refine aWp_ret ?_ | refine aWp_skip ?_ | refine aWp_block ?_ | refine aWp_exit ?_ | refine end_ret ?_ | refine end_normal ?_) | ((refine rgA ?_); intro ν) | ((with_reducible apply cndT); exact rfl; (first | rfl | assumption)) | ((with_reducible apply cndF); exact rfl; (first | rfl | assumption)))
    refine rg fun K hK => ?_
    refine stA ?_
    (first | with_reducible refine g0 ?_ | ((with_reducible refine g1 ?_ ?_); (with_reducible apply gt_); exact rfl; exact rfl; (first | rfl | assumption | (simp [*] <;> done)))); refine scA (h2 := (grow0_spec)) (hk := ?_)
    refine stA ?_
    with_reducible refine rz ?_
    refine hK _ _ _ ?_
    clear hK K; intro ν
    repeat (first | with_reducible (first | refine aWp_seq ?_ | refine seq_normal ?_ | refine seq_ret ?_ | refine seq_exit ?_ | refine blk_normal ?_ | refine blk_ret ?_ | refine blk_hit ?_ | refine blk_miss rfl ?_ | refine aWp_ret ?_ | refine aWp_skip ?_ | refine aWp_block ?_ | refine aWp_exit ?_ | refine end_ret ?_ | refine end_normal ?_) | ((refine rgA ?_); intro ν) | ((with_reducible apply cndT); exact rfl; (first | rfl | assumption)) | ((with_reducible apply cndF); exact rfl; (first | rfl | assumption)))
    refine aWp_loop (fun m s => ∃ F T ν i, m = ps.length - i ∧ i ≤ ps.length ∧ s = ⟨F, T, ν, ⟨fun _ => false, δ, false⟩⟩ ∧
      F 25 = .k (.sl full ps.length (pCells ps)) ∧ F 26 = .k (.int .i64 (ps.length : Nat)) ∧ F 27 = .k (.int .i64 (i : Nat)) ∧ F 6 = .k (.sl true 0 [])) ps.length ⟨_, _, _, 0, rfl, Nat.zero_le _, rfl, rfl, rfl, rfl, rfl⟩ ?_
    rintro m s ⟨F, T, ν, i, rfl, hi, rfl, f25, f26, f27, f6⟩
    rw [has4 f25 f26 f27 f6]
    repeat with_reducible (first | refine aWp_seq ?_ | refine seq_normal ?_ | refine seq_ret ?_ | refine seq_exit ?_ | refine blk_normal ?_ | refine blk_ret ?_ | refine blk_hit ?_ | refine blk_miss rfl ?_ | refine aWp_ret ?_ | refine aWp_skip ?_ | refine aWp_block ?_ | refine aWp_exit ?_ | refine end_ret ?_ | refine end_normal ?_)
    by_cases hlt : i < ps.length
    · obtain ⟨p, hp⟩ : ∃ p, ps[i]? = some p := ⟨ps[i], by simp [hlt]⟩
      have hld : ldAgg (.sl 5) 1 (List.drop i (pCells ps)) = some p.av := by
        have : (pCells ps)[i]? = some p.av := by simp [pCells, hp]
        have hl : i < (pCells ps).length := by omega
        rw [List.drop_eq_getElem_cons hl]
        rw [List.getElem?_eq_getElem hl] at this
        injection this with this
        rw [this]; rfl
      have hp0 := hel i p hp
      repeat (first | with_reducible (first | refine aWp_seq ?_ | refine seq_normal ?_ | refine seq_ret ?_ | refine seq_exit ?_ | refine blk_normal ?_ | refine blk_ret ?_ | refine blk_hit ?_ | refine blk_miss rfl ?_ | refine aWp_ret ?_ | refine aWp_skip ?_ | refine aWp_block ?_ | refine aWp_exit ?_ | refine end_ret ?_ | refine end_normal ?_) | ((refine rgA ?_); intro ν) | ((with_reducible apply cndT); exact rfl; (first | rfl | assumption)) | ((with_reducible apply cndF); exact rfl; (first | rfl | assumption)))
      refine ⟨ps.length - (i + 1), by omega, _, _, _, i + 1, rfl, by omega, rfl, rfl, rfl, rfl, rfl⟩
    · have hie : i = ps.length := by omega
      subst hie
      repeat (first | with_reducible (first | refine aWp_seq ?_ | refine seq_normal ?_ | refine seq_ret ?_ | refine seq_exit ?_ | refine blk_normal ?_ | refine blk_ret ?_ | refine blk_hit ?_ | refine blk_miss rfl ?_ | refine aWp_ret ?_ | refine aWp_skip ?_ | refine aWp_block ?_ | refine aWp_exit ?_ | refine end_ret ?_ | refine end_normal ?_) | ((refine rgA ?_); intro ν) | ((with_reducible apply cndT); exact rfl; (first | rfl | assumption)) | ((with_reducible apply cndF); exact rfl; (first | rfl | assumption)))
      (first | with_reducible refine end_r ?_ | with_reducible refine end_n ?_); refine en1 ?_
      rfl
theorem concatBZ_spec (full : Bool) (ps : List (Bool × List UInt8)) (h0 : ps.flatMap (·.2) = []) (hN : ps.length ≤ 1000000) : Spec Try.prog 32 [.sl full ps.length (pCells (ps.map pB))] (.k (.sl true 0 [])) := by
  have h := concatZ_spec full (ps.map pB) (by rw [pB_all, h0]; rfl) (by simpa using hN)
  rwa [List.length_map] at h
end Go.Proofs.Ytjfeggkjkdbkiaa
