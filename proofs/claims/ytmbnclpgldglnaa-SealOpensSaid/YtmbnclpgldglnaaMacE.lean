import Derived.Test.YtmbnclpgldglnaaMg1
namespace Go.Proofs.Ytmbnclpgldglnaa
open Go.RowKit
set_option linter.unusedVariables false
set_option linter.unusedSimpArgs false
set_option maxRecDepth 20000
/-! are bytes the same? -/
def accB (a b : List UInt8) : Nat → UInt8
  | 0 => 0
  | i + 1 => accB a b i ||| (a.getD i 0 ^^^ b.getD i 0)
theorem accB_zero (a b : List UInt8) (n : Nat) : accB a b n = 0 ↔ ∀ i, i < n → a.getD i 0 = b.getD i 0 := by
  induction n with
  | zero => simp [accB]
  | succ n ih =>
    rw [accB, UInt8.or_eq_zero_iff, ih, UInt8.xor_eq_zero_iff]
    constructor
    · rintro ⟨h1, h2⟩ i hi
      by_cases h : i = n
      · subst h; exact h2
      · exact h1 i (by omega)
    · intro h
      exact ⟨fun i hi => h i (by omega), h n (by omega)⟩
theorem accB_eq {a b : List UInt8} (h : a.length = b.length) : accB a b a.length = 0 ↔ a = b := by
  rw [accB_zero]
  constructor
  · intro q
    apply List.ext_getElem h
    intro i h1 h2
    have := q i h1
    simpa [List.getD_eq_getElem?_getD, h1, h2] using this
  · rintro rfl i hi; rfl
set_option maxHeartbeats 8000000 in
theorem equal_spec (fa fb : Bool) (a b : List UInt8) (hla : a.length ≤ maxLen) : Spec Try.prog 59 [.sl fa a.length (aOfBytes a), .sl fb b.length (aOfBytes b)] (.k (.bool (decide (a = b)))) := by
  unfold maxLen at hla
  have haa := aOfBytes_len a
  have hba := aOfBytes_len b
  refine spec_of (fun _ => false) (by kernel_rfl) Try.func59 rfl rfl (by simp [Try.ntmps59]) (by decide) ?_
  intro δ
  rw [init2]
  by_cases h : a.length = b.length
  · have hz := accB_eq h
    obtain ⟨n, hn⟩ : ∃ n, n = a.length := ⟨_, rfl⟩
    rw [← hn] at hz
    have hI : (a.length : Int) = (n : Int) := by rw [hn]
    have hI2 : (b.length : Int) = (n : Int) := by rw [← h, hn]
    repeat (first | with_reducible (first | refine aWp_seq ?_ | refine seq_normal ?_ | refine seq_ret ?_ | refine seq_exit ?_ | refine blk_normal ?_ | refine blk_ret ?_ | refine blk_hit ?_ | refine blk_miss rfl ?_ | refine aWp_ret ?_ | refine aWp_skip ?_ | refine aWp_block ?_ | refine aWp_exit ?_ | refine end_ret ?_ | refine end_normal ?_) | ((refine rgA ?_); intro ν) | ((with_reducible apply cndT); exact rfl; (first | rfl | assumption)) | ((with_reducible apply cndF); exact rfl; (first | rfl | assumption)))
    refine aWp_loop (fun m s => ∃ F T ν i, m = n - i ∧ i ≤ n ∧ s = ⟨F, T, ν, ⟨fun _ => false, δ, false⟩⟩ ∧
      F 0 = .k (.sl fa a.length (aOfBytes a)) ∧ F 1 = .k (.sl fb b.length (aOfBytes b)) ∧ F 5 = .k (.int .u8 ((accB a b i).toNat : Int)) ∧ F 13 = .k (.int .i64 (n : Nat)) ∧ F 14 = .k (.int .i64 (i : Nat))) n ⟨_, _, _, 0, rfl, Nat.zero_le _, rfl, rfl, rfl, rfl, ?_, rfl⟩ ?_
    · rw [hn]; rfl
    rintro m s ⟨F, T, ν, i, rfl, hi, rfl, f0, f1, f5, f13, f14⟩
    rw [has5 f0 f1 f5 f13 f14]
    by_cases hlt : i < n
    · have l1 := ld_b a i (by omega)
      have l2 := ld_b b i (by omega)
      repeat (first | with_reducible (first | refine aWp_seq ?_ | refine seq_normal ?_ | refine seq_ret ?_ | refine seq_exit ?_ | refine blk_normal ?_ | refine blk_ret ?_ | refine blk_hit ?_ | refine blk_miss rfl ?_ | refine aWp_ret ?_ | refine aWp_skip ?_ | refine aWp_block ?_ | refine aWp_exit ?_ | refine end_ret ?_ | refine end_normal ?_) | ((refine rgA ?_); intro ν) | ((with_reducible apply cndT); exact rfl; (first | rfl | assumption)) | ((with_reducible apply cndF); exact rfl; (first | rfl | assumption)))
      refine rgxA [] ?_
      intro ν
      repeat (first | with_reducible (first | refine aWp_seq ?_ | refine seq_normal ?_ | refine seq_ret ?_ | refine seq_exit ?_ | refine blk_normal ?_ | refine blk_ret ?_ | refine blk_hit ?_ | refine blk_miss rfl ?_ | refine aWp_ret ?_ | refine aWp_skip ?_ | refine aWp_block ?_ | refine aWp_exit ?_ | refine end_ret ?_ | refine end_normal ?_) | ((refine rgA ?_); intro ν) | ((with_reducible apply cndT); exact rfl; (first | rfl | assumption)) | ((with_reducible apply cndF); exact rfl; (first | rfl | assumption)))
      refine ⟨n - (i + 1), by omega, _, _, _, i + 1, rfl, by omega, rfl, rfl, rfl, rfl, rfl, ?_⟩
      show (SV.k (.int .i64 ((i : Int) + 1)) : SV) = _
      rw [Int.natCast_succ]
    · have hie : i = n := by omega
      subst hie
      by_cases q : accB a b i = 0
      · have hab := hz.1 q
        have hq : ((accB a b i).toNat : Int) = 0 := by rw [q]; rfl
        repeat (first | with_reducible (first | refine aWp_seq ?_ | refine seq_normal ?_ | refine seq_ret ?_ | refine seq_exit ?_ | refine blk_normal ?_ | refine blk_ret ?_ | refine blk_hit ?_ | refine blk_miss rfl ?_ | refine aWp_ret ?_ | refine aWp_skip ?_ | refine aWp_block ?_ | refine aWp_exit ?_ | refine end_ret ?_ | refine end_normal ?_) | ((refine rgA ?_); intro ν) | ((with_reducible apply cndT); exact rfl; (first | rfl | assumption)) | ((with_reducible apply cndF); exact rfl; (first | rfl | assumption)))
        (first | with_reducible refine end_r ?_ | with_reducible refine end_n ?_); refine en1 ?_
        rw [decide_eq_true hab]
      · have hab : ¬ a = b := fun e => q (hz.2 e)
        have hq : ¬ ((accB a b i).toNat : Int) = 0 := fun e => q (UInt8.toNat.inj (by simpa using e))
        repeat (first | with_reducible (first | refine aWp_seq ?_ | refine seq_normal ?_ | refine seq_ret ?_ | refine seq_exit ?_ | refine blk_normal ?_ | refine blk_ret ?_ | refine blk_hit ?_ | refine blk_miss rfl ?_ | refine aWp_ret ?_ | refine aWp_skip ?_ | refine aWp_block ?_ | refine aWp_exit ?_ | refine end_ret ?_ | refine end_normal ?_) | ((refine rgA ?_); intro ν) | ((with_reducible apply cndT); exact rfl; (first | rfl | assumption)) | ((with_reducible apply cndF); exact rfl; (first | rfl | assumption)))
        (first | with_reducible refine end_r ?_ | with_reducible refine end_n ?_); refine en1 ?_
        rw [decide_eq_false hab]
  · have hab : ¬ a = b := fun e => h (by rw [e])
    repeat (first | with_reducible (first | refine aWp_seq ?_ | refine seq_normal ?_ | refine seq_ret ?_ | refine seq_exit ?_ | refine blk_normal ?_ | refine blk_ret ?_ | refine blk_hit ?_ | refine blk_miss rfl ?_ | refine aWp_ret ?_ | refine aWp_skip ?_ | refine aWp_block ?_ | refine aWp_exit ?_ | refine end_ret ?_ | refine end_normal ?_) | ((refine rgA ?_); intro ν) | ((with_reducible apply cndT); exact rfl; (first | rfl | assumption)) | ((with_reducible apply cndF); exact rfl; (first | rfl | assumption)))
    (first | with_reducible refine end_r ?_ | with_reducible refine end_n ?_); refine en1 ?_
    rw [decide_eq_false hab]
end Go.Proofs.Ytmbnclpgldglnaa
