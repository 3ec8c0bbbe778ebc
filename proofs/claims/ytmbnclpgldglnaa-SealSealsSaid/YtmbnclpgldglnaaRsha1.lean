import Derived.Test.YtmbnclpgldglnaaMg1
namespace Go.Proofs.Ytmbnclpgldglnaa
open Go.RowKit
set_option linter.unusedVariables false
set_option linter.unusedSimpArgs false
set_option maxRecDepth 20000
/-! the document's digest: primes and roots -/
def prS (out : List Nat) (n : Nat) : List Nat := if (out.all fun p => n % p != 0) = true then out ++ [n] else out
def prB : Nat → List Nat
  | 0 => []
  | k + 1 => prS (prB k) (k + 2)
def prA (l : List Nat) : List AV := l.map fun (p : Nat) => AV.int .i64 (p : Int)
theorem prA_len (l : List Nat) : (prA l).length = l.length := by simp [prA]
theorem prA_app (a b : List Nat) : prA (a ++ b) = prA a ++ prA b := by simp [prA]
theorem ld_p (l : List Nat) (i : Nat) (h : i < l.length) : ldAgg (.int .i64) 1 (List.drop i (prA l)) = some (.int .i64 ((l.getD i 0 : Nat) : Int)) := by
  have hl : i < (prA l).length := by rw [prA_len]; exact h
  have e : (prA l)[i] = .int .i64 ((l.getD i 0 : Nat) : Int) := by simp [prA, h]
  rw [List.drop_eq_getElem_cons hl, e]; rfl
theorem prS_len (out : List Nat) (n : Nat) : out.length ≤ (prS out n).length := by
  unfold prS; split
  · simp
  · exact Nat.le_refl _
theorem prB_mono (k j : Nat) : (prB k).length ≤ (prB (k + j)).length := by
  induction j with
  | zero => exact Nat.le_refl _
  | succ j ih => exact Nat.le_trans ih (prS_len _ _)
theorem prB_309 : (prB 309).length = 63 := by decide +kernel
theorem prB_310 : (prB 310).length = 64 := by decide +kernel
theorem prB_lt {k : Nat} (h : k < 310) : (prB k).length < 64 := by
  have := prB_mono k (309 - k)
  rw [show k + (309 - k) = 309 by omega, prB_309] at this; omega
theorem prB_pos : ∀ (k : Nat) (p : Nat), p ∈ prB k → 2 ≤ p ∧ p ≤ k + 1
  | 0, p, h => by cases h
  | k + 1, p, h => by
    rw [prB, prS] at h
    split at h
    · rcases List.mem_append.1 h with h | h
      · have := prB_pos k p h; omega
      · have := List.mem_singleton.1 h; omega
    · have := prB_pos k p h; omega
def allP (l : List Nat) (n i : Nat) : Bool := (l.take i).all fun p => n % p != 0
theorem allP_next {l : List Nat} {n i : Nat} (h : i < l.length) : allP l n (i + 1) = (allP l n i && (n % l.getD i 0 != 0)) := by
  unfold allP
  rw [List.take_succ_eq_append_getElem h, List.all_append]
  simp [h]
set_option maxHeartbeats 8000000 in
theorem primes_spec : Spec Try.prog 55 [.int .i64 64] (.k (.sl false 64 (prA (prB 310)))) := by
  refine spec_of (fun t => t == 7) (by kernel_rfl) Try.func55 rfl rfl (by simp [Try.ntmps55]) (by decide) ?_
  intro δ
  rw [init1]
  repeat (first | with_reducible (first | refine aWp_seq ?_ | refine seq_normal ?_ | refine seq_ret ?_ | refine seq_exit ?_ | refine blk_normal ?_ | refine blk_ret ?_ | refine blk_hit ?_ | refine blk_miss rfl ?_ | refine aWp_ret ?_ | refine aWp_skip ?_ | refine aWp_block ?_ | refine aWp_exit ?_ | refine end_ret ?_ | refine end_normal ?_) | ((refine rgA ?_); intro ν) | ((with_reducible apply cndT); exact rfl; (first | rfl | assumption)) | ((with_reducible apply cndF); exact rfl; (first | rfl | assumption)))
  refine aWp_loop (fun m s => ∃ F T ν k x, m = 310 - k ∧ k ≤ 310 ∧ s = ⟨F, T, ν, ⟨fun t => t == 7, δ, false⟩⟩ ∧
    F 0 = .k (.int .i64 64) ∧ F 4 = .k (.int .i64 ((k + 2 : Nat) : Int)) ∧ F 3 = x ∧ Acc 3 [34] T x (prB k).length (prA (prB k))) 310 ⟨_, _, _, 0, _, rfl, Nat.zero_le _, rfl, rfl, rfl, rfl, .nil⟩ ?_
  rintro m s ⟨F, T, ν, k, x, rfl, hk, rfl, f0, f4, f3, hacc⟩
  rw [has3 f0 f4 f3]
  have hpl := prA_len (prB k)
  have hpos := prB_pos k
  by_cases hlt : k < 310
  · have hl64 := prB_lt hlt
    have hnext : prB (k + 1) = prS (prB k) (k + 2) := rfl
    generalize prB k = out at *
    obtain ⟨rfl, h0, _⟩ | ⟨d, g, hd, rfl, hT⟩ := hacc
    · have hout : out = [] := List.eq_nil_of_length_eq_zero h0
      have ho0 : (out.length : Int) = 0 := by omega
      repeat (first | with_reducible (first | refine aWp_seq ?_ | refine seq_normal ?_ | refine seq_ret ?_ | refine seq_exit ?_ | refine blk_normal ?_ | refine blk_ret ?_ | refine blk_hit ?_ | refine blk_miss rfl ?_ | refine aWp_ret ?_ | refine aWp_skip ?_ | refine aWp_block ?_ | refine aWp_exit ?_ | refine end_ret ?_ | refine end_normal ?_) | ((refine rgA ?_); intro ν) | ((with_reducible apply cndT); exact rfl; (first | rfl | assumption)) | ((with_reducible apply cndF); exact rfl; (first | rfl | assumption)))
      refine aWp_loop (fun m s => ∃ F T ν i, m = out.length - i ∧ i ≤ out.length ∧ s = ⟨F, T, ν, ⟨fun t => t == 7, δ, false⟩⟩ ∧
        F 0 = .k (.int .i64 64) ∧ F 4 = .k (.int .i64 ((k + 2 : Nat) : Int)) ∧ F 3 = .k (.sl true 0 []) ∧ F 5 = .k (.bool (allP out (k + 2) i)) ∧ F 6 = .k (.int .i64 (i : Nat))) out.length ⟨_, _, _, 0, rfl, Nat.zero_le _, rfl, rfl, rfl, rfl, rfl, rfl⟩ ?_
      rintro m s ⟨F, T, ν, i, rfl, hi, rfl, f0, f4, f3, f5, f6⟩
      rw [has5 f0 f4 f3 f5 f6]
      skip
      by_cases hlt2 : i < out.length
      · exact absurd hlt2 (by omega)
      · have hie : i = out.length := by omega
        subst hie
        cases hB : allP out (k + 2) out.length with
        | true =>
          have hap : prB (k + 1) = out ++ [k + 2] := by rw [hnext, prS, if_pos (by simpa [allP] using hB)]
          repeat (first | with_reducible (first | refine aWp_seq ?_ | refine seq_normal ?_ | refine seq_ret ?_ | refine seq_exit ?_ | refine blk_normal ?_ | refine blk_ret ?_ | refine blk_hit ?_ | refine blk_miss rfl ?_ | refine aWp_ret ?_ | refine aWp_skip ?_ | refine aWp_block ?_ | refine aWp_exit ?_ | refine end_ret ?_ | refine end_normal ?_) | ((refine rgA ?_); intro ν) | ((with_reducible apply cndT); exact rfl; (first | rfl | assumption)) | ((with_reducible apply cndF); exact rfl; (first | rfl | assumption)))
          refine ⟨310 - (k + 1), by omega, _, _, _, k + 1, _, rfl, by omega, rfl, rfl, ?_, rfl, .ow (by simp) rfl ?_ ?_⟩
          · show (SV.k (.int .i64 (((k + 2 : Nat) : Int) + 1)) : SV) = _
            rw [← Int.natCast_succ]
          · rw [hap, hout]; rfl
          · rw [hap, prA_app]
            rw [hout]; rfl
        | false =>
          have hap : prB (k + 1) = out := by rw [hnext, prS, if_neg (by simpa [allP] using hB)]
          repeat (first | with_reducible (first | refine aWp_seq ?_ | refine seq_normal ?_ | refine seq_ret ?_ | refine seq_exit ?_ | refine blk_normal ?_ | refine blk_ret ?_ | refine blk_hit ?_ | refine blk_miss rfl ?_ | refine aWp_ret ?_ | refine aWp_skip ?_ | refine aWp_block ?_ | refine aWp_exit ?_ | refine end_ret ?_ | refine end_normal ?_) | ((refine rgA ?_); intro ν) | ((with_reducible apply cndT); exact rfl; (first | rfl | assumption)) | ((with_reducible apply cndF); exact rfl; (first | rfl | assumption)))
          refine ⟨310 - (k + 1), by omega, _, _, _, k + 1, _, rfl, by omega, rfl, rfl, ?_, rfl, ?_⟩
          · show (SV.k (.int .i64 (((k + 2 : Nat) : Int) + 1)) : SV) = _
            rw [← Int.natCast_succ]
          · rw [hap]; exact .inl ⟨rfl, h0, by rw [hout]; rfl⟩
    · simp only [List.mem_cons, List.not_mem_nil, or_false] at hd
      subst hd
      rw [upd_self hT]
      repeat (first | with_reducible (first | refine aWp_seq ?_ | refine seq_normal ?_ | refine seq_ret ?_ | refine seq_exit ?_ | refine blk_normal ?_ | refine blk_ret ?_ | refine blk_hit ?_ | refine blk_miss rfl ?_ | refine aWp_ret ?_ | refine aWp_skip ?_ | refine aWp_block ?_ | refine aWp_exit ?_ | refine end_ret ?_ | refine end_normal ?_) | ((refine rgA ?_); intro ν) | ((with_reducible apply cndT); exact rfl; (first | rfl | assumption)) | ((with_reducible apply cndF); exact rfl; (first | rfl | assumption)))
      refine aWp_loop (fun m s => ∃ F T ν i, m = out.length - i ∧ i ≤ out.length ∧ s = ⟨F, T, ν, ⟨fun t => t == 7, δ, false⟩⟩ ∧
        F 0 = .k (.int .i64 64) ∧ F 4 = .k (.int .i64 ((k + 2 : Nat) : Int)) ∧ F 3 = .ow 34 g out.length 3 (prA out) ∧ F 5 = .k (.bool (allP out (k + 2) i)) ∧ F 6 = .k (.int .i64 (i : Nat)) ∧ T 34 = some (g, .tag)) out.length ⟨_, _, _, 0, rfl, Nat.zero_le _, rfl, rfl, rfl, rfl, rfl, rfl, rfl⟩ ?_
      rintro m s ⟨F, T, ν, i, rfl, hi, rfl, f0, f4, f3, f5, f6, hT⟩
      rw [has5 f0 f4 f3 f5 f6]
      rw [upd_self hT]
      by_cases hlt2 : i < out.length
      · have hgp := hpos (out.getD i 0) (by rw [List.getD_eq_getElem?_getD, List.getElem?_eq_getElem hlt2]; exact List.getElem_mem hlt2)
        have l1 := ld_p out i hlt2
        have hnx := allP_next (n := k + 2) hlt2
        have hmI : ((k + 2 : Nat) : Int) % ((out.getD i 0 : Nat) : Int) = (((k + 2) % out.getD i 0 : Nat) : Int) := rfl
        generalize out.getD i 0 = pp at *
        cases hB : allP out (k + 2) i with
        | false =>
          rw [hB, Bool.false_and] at hnx
          repeat (first | with_reducible (first | refine aWp_seq ?_ | refine seq_normal ?_ | refine seq_ret ?_ | refine seq_exit ?_ | refine blk_normal ?_ | refine blk_ret ?_ | refine blk_hit ?_ | refine blk_miss rfl ?_ | refine aWp_ret ?_ | refine aWp_skip ?_ | refine aWp_block ?_ | refine aWp_exit ?_ | refine end_ret ?_ | refine end_normal ?_) | ((refine rgA ?_); intro ν) | ((with_reducible apply cndT); exact rfl; (first | rfl | assumption)) | ((with_reducible apply cndF); exact rfl; (first | rfl | assumption)))
          refine ⟨out.length - (i + 1), by omega, _, _, _, i + 1, rfl, by omega, rfl, rfl, rfl, rfl, ?_, ?_, rfl⟩
          · rw [hnx]; rfl
          · show (SV.k (.int .i64 ((i : Int) + 1)) : SV) = _
            rw [Int.natCast_succ]
        | true =>
          rw [hB, Bool.true_and] at hnx
          obtain ⟨q, hq⟩ : ∃ q, q = (k + 2) % pp := ⟨_, rfl⟩
          rw [← hq] at hmI hnx
          by_cases q0 : q = 0
          · subst q0
            repeat (first | with_reducible (first | refine aWp_seq ?_ | refine seq_normal ?_ | refine seq_ret ?_ | refine seq_exit ?_ | refine blk_normal ?_ | refine blk_ret ?_ | refine blk_hit ?_ | refine blk_miss rfl ?_ | refine aWp_ret ?_ | refine aWp_skip ?_ | refine aWp_block ?_ | refine aWp_exit ?_ | refine end_ret ?_ | refine end_normal ?_) | ((refine rgA ?_); intro ν) | ((with_reducible apply cndT); exact rfl; (first | rfl | assumption)) | ((with_reducible apply cndF); exact rfl; (first | rfl | assumption)))
            refine ⟨out.length - (i + 1), by omega, _, _, _, i + 1, rfl, by omega, rfl, rfl, rfl, rfl, ?_, ?_, rfl⟩
            · rw [hnx]; rfl
            · show (SV.k (.int .i64 ((i : Int) + 1)) : SV) = _
              rw [Int.natCast_succ]
          · have hq0 : (q != 0) = true := by simpa using q0
            repeat (first | with_reducible (first | refine aWp_seq ?_ | refine seq_normal ?_ | refine seq_ret ?_ | refine seq_exit ?_ | refine blk_normal ?_ | refine blk_ret ?_ | refine blk_hit ?_ | refine blk_miss rfl ?_ | refine aWp_ret ?_ | refine aWp_skip ?_ | refine aWp_block ?_ | refine aWp_exit ?_ | refine end_ret ?_ | refine end_normal ?_) | ((refine rgA ?_); intro ν) | ((with_reducible apply cndT); exact rfl; (first | rfl | assumption)) | ((with_reducible apply cndF); exact rfl; (first | rfl | assumption)))
            refine ⟨out.length - (i + 1), by omega, _, _, _, i + 1, rfl, by omega, rfl, rfl, rfl, rfl, ?_, ?_, rfl⟩
            · rw [hnx, hq0]; rfl
            · show (SV.k (.int .i64 ((i : Int) + 1)) : SV) = _
              rw [Int.natCast_succ]
      · have hie : i = out.length := by omega
        subst hie
        cases hB : allP out (k + 2) out.length with
        | true =>
          have hap : prB (k + 1) = out ++ [k + 2] := by rw [hnext, prS, if_pos (by simpa [allP] using hB)]
          repeat (first | with_reducible (first | refine aWp_seq ?_ | refine seq_normal ?_ | refine seq_ret ?_ | refine seq_exit ?_ | refine blk_normal ?_ | refine blk_ret ?_ | refine blk_hit ?_ | refine blk_miss rfl ?_ | refine aWp_ret ?_ | refine aWp_skip ?_ | refine aWp_block ?_ | refine aWp_exit ?_ | refine end_ret ?_ | refine end_normal ?_) | ((refine rgA ?_); intro ν) | ((with_reducible apply cndT); exact rfl; (first | rfl | assumption)) | ((with_reducible apply cndF); exact rfl; (first | rfl | assumption)))
          refine ⟨310 - (k + 1), by omega, _, _, _, k + 1, _, rfl, by omega, rfl, rfl, ?_, rfl, .ow (by simp) rfl ?_ ?_⟩
          · show (SV.k (.int .i64 (((k + 2 : Nat) : Int) + 1)) : SV) = _
            rw [← Int.natCast_succ]
          · rw [hap]; simp
          · rw [hap, prA_app]; rfl
        | false =>
          have hap : prB (k + 1) = out := by rw [hnext, prS, if_neg (by simpa [allP] using hB)]
          repeat (first | with_reducible (first | refine aWp_seq ?_ | refine seq_normal ?_ | refine seq_ret ?_ | refine seq_exit ?_ | refine blk_normal ?_ | refine blk_ret ?_ | refine blk_hit ?_ | refine blk_miss rfl ?_ | refine aWp_ret ?_ | refine aWp_skip ?_ | refine aWp_block ?_ | refine aWp_exit ?_ | refine end_ret ?_ | refine end_normal ?_) | ((refine rgA ?_); intro ν) | ((with_reducible apply cndT); exact rfl; (first | rfl | assumption)) | ((with_reducible apply cndF); exact rfl; (first | rfl | assumption)))
          refine ⟨310 - (k + 1), by omega, _, _, _, k + 1, _, rfl, by omega, rfl, rfl, ?_, rfl, ?_⟩
          · show (SV.k (.int .i64 (((k + 2 : Nat) : Int) + 1)) : SV) = _
            rw [← Int.natCast_succ]
          · rw [hap]; exact .ow (by simp) rfl rfl rfl
  · have hke : k = 310 := by omega
    subst hke
    have h64 := prB_310
    generalize prB 310 = out at *
    obtain ⟨_, h0, _⟩ | ⟨d, g, hd, rfl, hT⟩ := hacc
    · omega
    · simp only [List.mem_cons, List.not_mem_nil, or_false] at hd
      subst hd
      rw [upd_self hT]
      repeat (first | with_reducible (first | refine aWp_seq ?_ | refine seq_normal ?_ | refine seq_ret ?_ | refine seq_exit ?_ | refine blk_normal ?_ | refine blk_ret ?_ | refine blk_hit ?_ | refine blk_miss rfl ?_ | refine aWp_ret ?_ | refine aWp_skip ?_ | refine aWp_block ?_ | refine aWp_exit ?_ | refine end_ret ?_ | refine end_normal ?_) | ((refine rgA ?_); intro ν) | ((with_reducible apply cndT); exact rfl; (first | rfl | assumption)) | ((with_reducible apply cndF); exact rfl; (first | rfl | assumption)))
      (first | with_reducible refine end_r ?_ | with_reducible refine end_n ?_); refine en1 ?_
      rw [h64]
def cubeB (m p : Nat) : Bool :=
  decide (m * m / 18446744073709551616 * m + m * m % 18446744073709551616 * m / 18446744073709551616 < p * 4294967296) ||
    (decide (m * m / 18446744073709551616 * m + m * m % 18446744073709551616 * m / 18446744073709551616 = p * 4294967296) && decide (m * m % 18446744073709551616 * m % 18446744073709551616 = 0))
def squareB (m p : Nat) : Bool := decide (m * m / 18446744073709551616 < p) || (decide (m * m / 18446744073709551616 = p) && decide (m * m % 18446744073709551616 = 0))
theorem sq_bound {m : Nat} (hm : m ≤ 68719476736) : m * m / 18446744073709551616 ≤ 256 := by
  have : m * m ≤ 68719476736 * 68719476736 := Nat.mul_le_mul hm hm
  omega
set_option maxHeartbeats 4000000 in
theorem square_spec (m p : Nat) (hm : m ≤ 68719476736) (hp : p ≤ 100000) : Spec Try.prog 86 [.int .u64 (m : Nat), .int .i64 (p : Nat)] (.k (.bool (squareB m p))) := by
  have s1 := mul64_spec m m (by omega) (by omega)
  have hb := sq_bound hm
  unfold squareB
  generalize m * m / 18446744073709551616 = h at *
  generalize m * m % 18446744073709551616 = l at *
  refine spec_of (fun _ => false) (by kernel_rfl) Try.func86 rfl rfl (by simp [Try.ntmps86]) (by decide) ?_
  intro δ
  rw [init2]
  repeat (first | with_reducible (first | refine aWp_seq ?_ | refine seq_normal ?_ | refine seq_ret ?_ | refine seq_exit ?_ | refine blk_normal ?_ | refine blk_ret ?_ | refine blk_hit ?_ | refine blk_miss rfl ?_ | refine aWp_ret ?_ | refine aWp_skip ?_ | refine aWp_block ?_ | refine aWp_exit ?_ | refine end_ret ?_ | refine end_normal ?_) | ((refine rgA ?_); intro ν) | ((with_reducible apply cndT); exact rfl; (first | rfl | assumption)) | ((with_reducible apply cndF); exact rfl; (first | rfl | assumption)))
  refine rg fun K hK => ?_
  refine stA ?_
  (first | with_reducible refine g0 ?_ | ((with_reducible refine g1 ?_ ?_); (with_reducible apply gt_); exact rfl; exact rfl; (first | rfl | assumption | (simp [*] <;> done)))); refine scA (h2 := (s1)) (hk := ?_)
  refine stA ?_
  with_reducible refine rz ?_
  refine hK _ _ _ ?_
  clear hK K; intro ν
  by_cases c1 : h < p
  · rw [decide_eq_true c1, Bool.true_or]
    repeat (first | with_reducible (first | refine aWp_seq ?_ | refine seq_normal ?_ | refine seq_ret ?_ | refine seq_exit ?_ | refine blk_normal ?_ | refine blk_ret ?_ | refine blk_hit ?_ | refine blk_miss rfl ?_ | refine aWp_ret ?_ | refine aWp_skip ?_ | refine aWp_block ?_ | refine aWp_exit ?_ | refine end_ret ?_ | refine end_normal ?_) | ((refine rgA ?_); intro ν) | ((with_reducible apply cndT); exact rfl; (first | rfl | assumption)) | ((with_reducible apply cndF); exact rfl; (first | rfl | assumption)))
    (first | with_reducible refine end_r ?_ | with_reducible refine end_n ?_); refine en1 ?_
    rfl
  · rw [decide_eq_false c1, Bool.false_or]
    by_cases c2 : h = p
    · by_cases c3 : l = 0
      · rw [decide_eq_true c2, decide_eq_true c3]
        repeat (first | with_reducible (first | refine aWp_seq ?_ | refine seq_normal ?_ | refine seq_ret ?_ | refine seq_exit ?_ | refine blk_normal ?_ | refine blk_ret ?_ | refine blk_hit ?_ | refine blk_miss rfl ?_ | refine aWp_ret ?_ | refine aWp_skip ?_ | refine aWp_block ?_ | refine aWp_exit ?_ | refine end_ret ?_ | refine end_normal ?_) | ((refine rgA ?_); intro ν) | ((with_reducible apply cndT); exact rfl; (first | rfl | assumption)) | ((with_reducible apply cndF); exact rfl; (first | rfl | assumption)))
        (first | with_reducible refine end_r ?_ | with_reducible refine end_n ?_); refine en1 ?_
        rfl
      · rw [decide_eq_true c2, decide_eq_false c3]
        repeat (first | with_reducible (first | refine aWp_seq ?_ | refine seq_normal ?_ | refine seq_ret ?_ | refine seq_exit ?_ | refine blk_normal ?_ | refine blk_ret ?_ | refine blk_hit ?_ | refine blk_miss rfl ?_ | refine aWp_ret ?_ | refine aWp_skip ?_ | refine aWp_block ?_ | refine aWp_exit ?_ | refine end_ret ?_ | refine end_normal ?_) | ((refine rgA ?_); intro ν) | ((with_reducible apply cndT); exact rfl; (first | rfl | assumption)) | ((with_reducible apply cndF); exact rfl; (first | rfl | assumption)))
        (first | with_reducible refine end_r ?_ | with_reducible refine end_n ?_); refine en1 ?_
        rfl
    · rw [decide_eq_false c2, Bool.false_and]
      repeat (first | with_reducible (first | refine aWp_seq ?_ | refine seq_normal ?_ | refine seq_ret ?_ | refine seq_exit ?_ | refine blk_normal ?_ | refine blk_ret ?_ | refine blk_hit ?_ | refine blk_miss rfl ?_ | refine aWp_ret ?_ | refine aWp_skip ?_ | refine aWp_block ?_ | refine aWp_exit ?_ | refine end_ret ?_ | refine end_normal ?_) | ((refine rgA ?_); intro ν) | ((with_reducible apply cndT); exact rfl; (first | rfl | assumption)) | ((with_reducible apply cndF); exact rfl; (first | rfl | assumption)))
      (first | with_reducible refine end_r ?_ | with_reducible refine end_n ?_); refine en1 ?_
      rfl
set_option maxHeartbeats 4000000 in
theorem cube_spec (m p : Nat) (hm : m ≤ 68719476736) (hp : p ≤ 100000) : Spec Try.prog 85 [.int .u64 (m : Nat), .int .i64 (p : Nat)] (.k (.bool (cubeB m p))) := by
  have s1 := mul64_spec m m (by omega) (by omega)
  have s2 := mul64_spec (m * m % 18446744073709551616) m (by omega) (by omega)
  have hb := sq_bound hm
  unfold cubeB
  have hlb : m * m % 18446744073709551616 < 18446744073709551616 := by omega
  generalize m * m / 18446744073709551616 = h at *
  generalize m * m % 18446744073709551616 = l at *
  obtain ⟨P, hP⟩ : ∃ P, P = h * m := ⟨_, rfl⟩
  have hPb : P ≤ 256 * 68719476736 := by rw [hP]; exact Nat.mul_le_mul hb hm
  have hPI : (h : Int) * (m : Int) = (P : Int) := by rw [hP]; push_cast; rfl
  have hab : l * m / 18446744073709551616 ≤ 68719476736 := by
    have h1 : l * m ≤ 18446744073709551616 * 68719476736 := Nat.mul_le_mul (Nat.le_of_lt hlb) hm
    omega
  generalize l * m / 18446744073709551616 = a at *
  generalize l * m % 18446744073709551616 = b at *
  rw [← hP]
  have hw := m64_wrap (P + a) (by omega)
  clear hP hb hlb
  refine spec_of (fun _ => false) (by kernel_rfl) Try.func85 rfl rfl (by simp [Try.ntmps85]) (by decide) ?_
  intro δ
  rw [init2]
  repeat (first | with_reducible (first | refine aWp_seq ?_ | refine seq_normal ?_ | refine seq_ret ?_ | refine seq_exit ?_ | refine blk_normal ?_ | refine blk_ret ?_ | refine blk_hit ?_ | refine blk_miss rfl ?_ | refine aWp_ret ?_ | refine aWp_skip ?_ | refine aWp_block ?_ | refine aWp_exit ?_ | refine end_ret ?_ | refine end_normal ?_) | ((refine rgA ?_); intro ν) | ((with_reducible apply cndT); exact rfl; (first | rfl | assumption)) | ((with_reducible apply cndF); exact rfl; (first | rfl | assumption)))
  refine rg fun K hK => ?_
  refine stA ?_
  (first | with_reducible refine g0 ?_ | ((with_reducible refine g1 ?_ ?_); (with_reducible apply gt_); exact rfl; exact rfl; (first | rfl | assumption | (simp [*] <;> done)))); refine scA (h2 := (s1)) (hk := ?_)
  refine stA ?_
  with_reducible refine rz ?_
  refine hK _ _ _ ?_
  clear hK K; intro ν
  repeat (first | with_reducible (first | refine aWp_seq ?_ | refine seq_normal ?_ | refine seq_ret ?_ | refine seq_exit ?_ | refine blk_normal ?_ | refine blk_ret ?_ | refine blk_hit ?_ | refine blk_miss rfl ?_ | refine aWp_ret ?_ | refine aWp_skip ?_ | refine aWp_block ?_ | refine aWp_exit ?_ | refine end_ret ?_ | refine end_normal ?_) | ((refine rgA ?_); intro ν) | ((with_reducible apply cndT); exact rfl; (first | rfl | assumption)) | ((with_reducible apply cndF); exact rfl; (first | rfl | assumption)))
  refine rg fun K hK => ?_
  refine stA ?_
  (first | with_reducible refine g0 ?_ | ((with_reducible refine g1 ?_ ?_); (with_reducible apply gt_); exact rfl; exact rfl; (first | rfl | assumption | (simp [*] <;> done)))); refine scA (h2 := (s2)) (hk := ?_)
  refine stA ?_
  with_reducible refine rz ?_
  refine hK _ _ _ ?_
  clear hK K; intro ν
  repeat with_reducible (first | refine aWp_seq ?_ | refine seq_normal ?_ | refine seq_ret ?_ | refine seq_exit ?_ | refine blk_normal ?_ | refine blk_ret ?_ | refine blk_hit ?_ | refine blk_miss rfl ?_ | refine aWp_ret ?_ | refine aWp_skip ?_ | refine aWp_block ?_ | refine aWp_exit ?_ | refine end_ret ?_ | refine end_normal ?_)
  refine rg fun K hK => ?_
  refine stA ?_
  with_reducible refine rz ?_
  refine hK _ _ _ ?_
  clear hK K; intro ν
  rw [hPI]
  repeat with_reducible (first | refine aWp_seq ?_ | refine seq_normal ?_ | refine seq_ret ?_ | refine seq_exit ?_ | refine blk_normal ?_ | refine blk_ret ?_ | refine blk_hit ?_ | refine blk_miss rfl ?_ | refine aWp_ret ?_ | refine aWp_skip ?_ | refine aWp_block ?_ | refine aWp_exit ?_ | refine end_ret ?_ | refine end_normal ?_)
  refine rg fun K hK => ?_
  refine stA ?_
  with_reducible refine rz ?_
  refine hK _ _ _ ?_
  clear hK K; intro ν
  by_cases c1 : P + a < p * 4294967296
  · rw [decide_eq_true c1, Bool.true_or]
    repeat (first | with_reducible (first | refine aWp_seq ?_ | refine seq_normal ?_ | refine seq_ret ?_ | refine seq_exit ?_ | refine blk_normal ?_ | refine blk_ret ?_ | refine blk_hit ?_ | refine blk_miss rfl ?_ | refine aWp_ret ?_ | refine aWp_skip ?_ | refine aWp_block ?_ | refine aWp_exit ?_ | refine end_ret ?_ | refine end_normal ?_) | ((refine rgA ?_); intro ν) | ((with_reducible apply cndT); exact rfl; (first | rfl | assumption)) | ((with_reducible apply cndF); exact rfl; (first | rfl | assumption)))
    (first | with_reducible refine end_r ?_ | with_reducible refine end_n ?_); refine en1 ?_
    rfl
  · rw [decide_eq_false c1, Bool.false_or]
    by_cases c2 : P + a = p * 4294967296
    · by_cases c3 : b = 0
      · rw [decide_eq_true c2, decide_eq_true c3]
        repeat (first | with_reducible (first | refine aWp_seq ?_ | refine seq_normal ?_ | refine seq_ret ?_ | refine seq_exit ?_ | refine blk_normal ?_ | refine blk_ret ?_ | refine blk_hit ?_ | refine blk_miss rfl ?_ | refine aWp_ret ?_ | refine aWp_skip ?_ | refine aWp_block ?_ | refine aWp_exit ?_ | refine end_ret ?_ | refine end_normal ?_) | ((refine rgA ?_); intro ν) | ((with_reducible apply cndT); exact rfl; (first | rfl | assumption)) | ((with_reducible apply cndF); exact rfl; (first | rfl | assumption)))
        (first | with_reducible refine end_r ?_ | with_reducible refine end_n ?_); refine en1 ?_
        rfl
      · rw [decide_eq_true c2, decide_eq_false c3]
        repeat (first | with_reducible (first | refine aWp_seq ?_ | refine seq_normal ?_ | refine seq_ret ?_ | refine seq_exit ?_ | refine blk_normal ?_ | refine blk_ret ?_ | refine blk_hit ?_ | refine blk_miss rfl ?_ | refine aWp_ret ?_ | refine aWp_skip ?_ | refine aWp_block ?_ | refine aWp_exit ?_ | refine end_ret ?_ | refine end_normal ?_) | ((refine rgA ?_); intro ν) | ((with_reducible apply cndT); exact rfl; (first | rfl | assumption)) | ((with_reducible apply cndF); exact rfl; (first | rfl | assumption)))
        (first | with_reducible refine end_r ?_ | with_reducible refine end_n ?_); refine en1 ?_
        rfl
    · rw [decide_eq_false c2, Bool.false_and]
      repeat (first | with_reducible (first | refine aWp_seq ?_ | refine seq_normal ?_ | refine seq_ret ?_ | refine seq_exit ?_ | refine blk_normal ?_ | refine blk_ret ?_ | refine blk_hit ?_ | refine blk_miss rfl ?_ | refine aWp_ret ?_ | refine aWp_skip ?_ | refine aWp_block ?_ | refine aWp_exit ?_ | refine end_ret ?_ | refine end_normal ?_) | ((refine rgA ?_); intro ν) | ((with_reducible apply cndT); exact rfl; (first | rfl | assumption)) | ((with_reducible apply cndF); exact rfl; (first | rfl | assumption)))
      (first | with_reducible refine end_r ?_ | with_reducible refine end_n ?_); refine en1 ?_
      rfl
def testB (third : Bool) (m p : Nat) : Bool := if third = true then cubeB m p else squareB m p
def rootN (third : Bool) (p : Nat) : Nat → Nat
  | 0 => 0
  | j + 1 => if testB third (rootN third p j + 2 ^ (35 - j)) p = true then rootN third p j + 2 ^ (35 - j) else rootN third p j
theorem rootN_le (third : Bool) (p : Nat) : ∀ j, j ≤ 36 → rootN third p j + 2 ^ (36 - j) ≤ 68719476736
  | 0, _ => by simp [rootN]
  | j + 1, h => by
    have ih := rootN_le third p j (by omega)
    have e : 2 ^ (36 - j) = 2 ^ (35 - j) + 2 ^ (35 - j) := by
      rw [show 36 - j = (35 - j) + 1 by omega, Nat.pow_succ]; omega
    rw [show 36 - (j + 1) = 35 - j by omega]
    rw [rootN]
    rw [e] at ih
    clear e
    generalize 2 ^ (35 - j) = w at *
    split <;> omega
def rootW (third : Bool) (p : Nat) : BitVec 32 := BitVec.ofNat 32 (rootN third p 36)
theorem n32_ofNat (x : Nat) : n32 (BitVec.ofNat 32 x) = ((x % 4294967296 : Nat) : Int) := by simp [n32]
set_option maxHeartbeats 8000000 in
theorem root_spec (third : Bool) (p : Nat) (hp : p ≤ 100000) : Spec Try.prog 56 [.int .i64 (p : Nat), .bool third] (.k (.int .u32 (n32 (rootW third p)))) := by
  refine spec_of (fun _ => false) (by kernel_rfl) Try.func56 rfl rfl (by simp [Try.ntmps56]) (by decide) ?_
  intro δ
  rw [init2]
  repeat (first | with_reducible (first | refine aWp_seq ?_ | refine seq_normal ?_ | refine seq_ret ?_ | refine seq_exit ?_ | refine blk_normal ?_ | refine blk_ret ?_ | refine blk_hit ?_ | refine blk_miss rfl ?_ | refine aWp_ret ?_ | refine aWp_skip ?_ | refine aWp_block ?_ | refine aWp_exit ?_ | refine end_ret ?_ | refine end_normal ?_) | ((refine rgA ?_); intro ν) | ((with_reducible apply cndT); exact rfl; (first | rfl | assumption)) | ((with_reducible apply cndF); exact rfl; (first | rfl | assumption)))
  refine aWp_loop (fun m s => ∃ F T ν j, m = 36 - j ∧ j ≤ 36 ∧ s = ⟨F, T, ν, ⟨fun _ => false, δ, false⟩⟩ ∧
    F 0 = .k (.int .i64 (p : Nat)) ∧ F 1 = .k (.bool third) ∧ F 5 = .k (.int .u64 ((rootN third p j : Nat) : Int)) ∧ F 6 = .k (.int .i64 ((35 : Int) - (j : Int)))) 36 ⟨_, _, _, 0, rfl, Nat.zero_le _, rfl, rfl, rfl, rfl, rfl⟩ ?_
  rintro m s ⟨F, T, ν, j, rfl, hj, rfl, f0, f1, f5, f6⟩
  rw [has4 f0 f1 f5 f6]
  by_cases hlt : j < 36
  · have hle := rootN_le third p j hj
    have hnx : rootN third p (j + 1) = if testB third (rootN third p j + 2 ^ (35 - j)) p = true then rootN third p j + 2 ^ (35 - j) else rootN third p j := rfl
    have e36 : 2 ^ (36 - j) = 2 ^ (35 - j) + 2 ^ (35 - j) := by
      rw [show 36 - j = (35 - j) + 1 by omega, Nat.pow_succ]; omega
    have hsh0 : (2 : Int) ^ (35 - j) = ((2 ^ (35 - j) : Nat) : Int) := by push_cast; rfl
    have hwb : 2 ^ (35 - j) ≤ 34359738368 := Nat.le_trans (Nat.pow_le_pow_right (by omega) (show 35 - j ≤ 35 by omega)) (by decide)
    rw [e36] at hle
    generalize 2 ^ (35 - j) = w at *
    have hsh : aInt .shl .u64 .u64 1 ((35 : Int) - (j : Int)) = some (.int .u64 ((w : Nat) : Int)) := by
      refine ai_shlN (n := 35 - j) (by omega) (by simp only [IntKind.bits]; omega) hsh0 (Int.one_mul _) ?_
      exact m64_wrap _ (by omega)
    clear e36 hsh0
    generalize hr0 : rootN third p j = r at *
    generalize hr1 : rootN third p (j + 1) = r1 at *
    have hc := cube_spec (r + w) p (by omega) hp
    have hs := square_spec (r + w) p (by omega) hp
    clear hr0
    repeat with_reducible (first | refine aWp_seq ?_ | refine seq_normal ?_ | refine seq_ret ?_ | refine seq_exit ?_ | refine blk_normal ?_ | refine blk_ret ?_ | refine blk_hit ?_ | refine blk_miss rfl ?_ | refine aWp_ret ?_ | refine aWp_skip ?_ | refine aWp_block ?_ | refine aWp_exit ?_ | refine end_ret ?_ | refine end_normal ?_)
    refine rgA ?_
    intro ν
    repeat with_reducible (first | refine aWp_seq ?_ | refine seq_normal ?_ | refine seq_ret ?_ | refine seq_exit ?_ | refine blk_normal ?_ | refine blk_ret ?_ | refine blk_hit ?_ | refine blk_miss rfl ?_ | refine aWp_ret ?_ | refine aWp_skip ?_ | refine aWp_block ?_ | refine aWp_exit ?_ | refine end_ret ?_ | refine end_normal ?_)
    (with_reducible apply cndT); exact rfl; (first | rfl | assumption | (simp [*] <;> done))
    repeat with_reducible (first | refine aWp_seq ?_ | refine seq_normal ?_ | refine seq_ret ?_ | refine seq_exit ?_ | refine blk_normal ?_ | refine blk_ret ?_ | refine blk_hit ?_ | refine blk_miss rfl ?_ | refine aWp_ret ?_ | refine aWp_skip ?_ | refine aWp_block ?_ | refine aWp_exit ?_ | refine end_ret ?_ | refine end_normal ?_)
    refine rg fun K hK => ?_
    refine stA ?_
    (with_reducible refine g0 ?_); (with_reducible apply sd); (with_reducible apply d_int); exact rfl; exact rfl; exact hsh
    refine stA ?_
    with_reducible refine rz ?_
    refine hK _ _ _ ?_
    clear hK K; intro ν
    have hjI : (35 : Int) - (j : Int) - 1 = 35 - ((j + 1 : Nat) : Int) := by omega
    unfold testB at hnx
    cases third with
    | true =>
      rw [if_pos rfl] at hnx
      cases hcb : cubeB (r + w) p with
      | true =>
        rw [hcb] at hc
        rw [hcb, if_pos rfl] at hnx
        repeat with_reducible (first | refine aWp_seq ?_ | refine seq_normal ?_ | refine seq_ret ?_ | refine seq_exit ?_ | refine blk_normal ?_ | refine blk_ret ?_ | refine blk_hit ?_ | refine blk_miss rfl ?_ | refine aWp_ret ?_ | refine aWp_skip ?_ | refine aWp_block ?_ | refine aWp_exit ?_ | refine end_ret ?_ | refine end_normal ?_)
        refine rg fun K hK => ?_
        refine stA ?_
        (first | with_reducible refine g0 ?_ | ((with_reducible refine g1 ?_ ?_); (with_reducible apply gt_); exact rfl; exact rfl; (first | rfl | assumption | (simp [*] <;> done)))); refine scA (h2 := (hc)) (hk := ?_)
        refine stA ?_
        with_reducible refine rz ?_
        refine hK _ _ _ ?_
        clear hK K; intro ν
        repeat (first | with_reducible (first | refine aWp_seq ?_ | refine seq_normal ?_ | refine seq_ret ?_ | refine seq_exit ?_ | refine blk_normal ?_ | refine blk_ret ?_ | refine blk_hit ?_ | refine blk_miss rfl ?_ | refine aWp_ret ?_ | refine aWp_skip ?_ | refine aWp_block ?_ | refine aWp_exit ?_ | refine end_ret ?_ | refine end_normal ?_) | ((refine rgA ?_); intro ν) | ((with_reducible apply cndT); exact rfl; (first | rfl | assumption)) | ((with_reducible apply cndF); exact rfl; (first | rfl | assumption)))
        refine ⟨36 - (j + 1), by omega, _, _, _, j + 1, rfl, by omega, rfl, rfl, rfl, ?_, ?_⟩
        · rw [hr1, hnx]; rfl
        · rw [← hjI]; rfl
      | false =>
        rw [hcb] at hc
        rw [hcb, if_neg Bool.false_ne_true] at hnx
        repeat with_reducible (first | refine aWp_seq ?_ | refine seq_normal ?_ | refine seq_ret ?_ | refine seq_exit ?_ | refine blk_normal ?_ | refine blk_ret ?_ | refine blk_hit ?_ | refine blk_miss rfl ?_ | refine aWp_ret ?_ | refine aWp_skip ?_ | refine aWp_block ?_ | refine aWp_exit ?_ | refine end_ret ?_ | refine end_normal ?_)
        refine rg fun K hK => ?_
        refine stA ?_
        (first | with_reducible refine g0 ?_ | ((with_reducible refine g1 ?_ ?_); (with_reducible apply gt_); exact rfl; exact rfl; (first | rfl | assumption | (simp [*] <;> done)))); refine scA (h2 := (hc)) (hk := ?_)
        refine stA ?_
        with_reducible refine rz ?_
        refine hK _ _ _ ?_
        clear hK K; intro ν
        repeat (first | with_reducible (first | refine aWp_seq ?_ | refine seq_normal ?_ | refine seq_ret ?_ | refine seq_exit ?_ | refine blk_normal ?_ | refine blk_ret ?_ | refine blk_hit ?_ | refine blk_miss rfl ?_ | refine aWp_ret ?_ | refine aWp_skip ?_ | refine aWp_block ?_ | refine aWp_exit ?_ | refine end_ret ?_ | refine end_normal ?_) | ((refine rgA ?_); intro ν) | ((with_reducible apply cndT); exact rfl; (first | rfl | assumption)) | ((with_reducible apply cndF); exact rfl; (first | rfl | assumption)))
        refine ⟨36 - (j + 1), by omega, _, _, _, j + 1, rfl, by omega, rfl, rfl, rfl, ?_, ?_⟩
        · rw [hr1, hnx]; rfl
        · rw [← hjI]; rfl
    | false =>
      rw [if_neg Bool.false_ne_true] at hnx
      cases hcb : squareB (r + w) p with
      | true =>
        rw [hcb] at hs
        rw [hcb, if_pos rfl] at hnx
        repeat with_reducible (first | refine aWp_seq ?_ | refine seq_normal ?_ | refine seq_ret ?_ | refine seq_exit ?_ | refine blk_normal ?_ | refine blk_ret ?_ | refine blk_hit ?_ | refine blk_miss rfl ?_ | refine aWp_ret ?_ | refine aWp_skip ?_ | refine aWp_block ?_ | refine aWp_exit ?_ | refine end_ret ?_ | refine end_normal ?_)
        refine rg fun K hK => ?_
        refine stA ?_
        (first | with_reducible refine g0 ?_ | ((with_reducible refine g1 ?_ ?_); (with_reducible apply gt_); exact rfl; exact rfl; (first | rfl | assumption | (simp [*] <;> done)))); refine scA (h2 := (hs)) (hk := ?_)
        refine stA ?_
        with_reducible refine rz ?_
        refine hK _ _ _ ?_
        clear hK K; intro ν
        repeat (first | with_reducible (first | refine aWp_seq ?_ | refine seq_normal ?_ | refine seq_ret ?_ | refine seq_exit ?_ | refine blk_normal ?_ | refine blk_ret ?_ | refine blk_hit ?_ | refine blk_miss rfl ?_ | refine aWp_ret ?_ | refine aWp_skip ?_ | refine aWp_block ?_ | refine aWp_exit ?_ | refine end_ret ?_ | refine end_normal ?_) | ((refine rgA ?_); intro ν) | ((with_reducible apply cndT); exact rfl; (first | rfl | assumption)) | ((with_reducible apply cndF); exact rfl; (first | rfl | assumption)))
        refine ⟨36 - (j + 1), by omega, _, _, _, j + 1, rfl, by omega, rfl, rfl, rfl, ?_, ?_⟩
        · rw [hr1, hnx]; rfl
        · rw [← hjI]; rfl
      | false =>
        rw [hcb] at hs
        rw [hcb, if_neg Bool.false_ne_true] at hnx
        repeat with_reducible (first | refine aWp_seq ?_ | refine seq_normal ?_ | refine seq_ret ?_ | refine seq_exit ?_ | refine blk_normal ?_ | refine blk_ret ?_ | refine blk_hit ?_ | refine blk_miss rfl ?_ | refine aWp_ret ?_ | refine aWp_skip ?_ | refine aWp_block ?_ | refine aWp_exit ?_ | refine end_ret ?_ | refine end_normal ?_)
        refine rg fun K hK => ?_
        refine stA ?_
        (first | with_reducible refine g0 ?_ | ((with_reducible refine g1 ?_ ?_); (with_reducible apply gt_); exact rfl; exact rfl; (first | rfl | assumption | (simp [*] <;> done)))); refine scA (h2 := (hs)) (hk := ?_)
        refine stA ?_
        with_reducible refine rz ?_
        refine hK _ _ _ ?_
        clear hK K; intro ν
        repeat (first | with_reducible (first | refine aWp_seq ?_ | refine seq_normal ?_ | refine seq_ret ?_ | refine seq_exit ?_ | refine blk_normal ?_ | refine blk_ret ?_ | refine blk_hit ?_ | refine blk_miss rfl ?_ | refine aWp_ret ?_ | refine aWp_skip ?_ | refine aWp_block ?_ | refine aWp_exit ?_ | refine end_ret ?_ | refine end_normal ?_) | ((refine rgA ?_); intro ν) | ((with_reducible apply cndT); exact rfl; (first | rfl | assumption)) | ((with_reducible apply cndF); exact rfl; (first | rfl | assumption)))
        refine ⟨36 - (j + 1), by omega, _, _, _, j + 1, rfl, by omega, rfl, rfl, rfl, ?_, ?_⟩
        · rw [hr1, hnx]; rfl
        · rw [← hjI]; rfl
  · have hje : j = 36 := by omega
    subst hje
    have hle := rootN_le third p 36 (Nat.le_refl _)
    unfold rootW
    rw [n32_ofNat]
    generalize rootN third p 36 = r at *
    have hrm : (r : Int) % 4294967296 = ((r % 4294967296 : Nat) : Int) := by omega
    have hrb : r % 4294967296 < 4294967296 := by omega
    repeat (first | with_reducible (first | refine aWp_seq ?_ | refine seq_normal ?_ | refine seq_ret ?_ | refine seq_exit ?_ | refine blk_normal ?_ | refine blk_ret ?_ | refine blk_hit ?_ | refine blk_miss rfl ?_ | refine aWp_ret ?_ | refine aWp_skip ?_ | refine aWp_block ?_ | refine aWp_exit ?_ | refine end_ret ?_ | refine end_normal ?_) | ((refine rgA ?_); intro ν) | ((with_reducible apply cndT); exact rfl; (first | rfl | assumption)) | ((with_reducible apply cndF); exact rfl; (first | rfl | assumption)))
    (first | with_reducible refine end_r ?_ | with_reducible refine end_n ?_); refine en1 ?_
    rw [hrm]
end Go.Proofs.Ytmbnclpgldglnaa
