import Derived.Test.YtjfeggkjkdbkiaaMac2
import Derived.Test.YtjfeggkjkdbkiaaAvCut
namespace Go.Proofs.Ytjfeggkjkdbkiaa
open Go.RowKit
set_option linter.unusedVariables false
set_option linter.unusedSimpArgs false
set_option maxRecDepth 20000
/-! are bytes the same? -/
def accB (a b : List UInt8) : Nat → UInt8
  | 0 => 0
  | i + 1 => accB a b i ||| (a.getD i 0 ^^^ b.getD i 0)
theorem accB_zero (a b : List UInt8) (n : Nat) : accB a b n = 0 ↔ ∀ i, i < n → a.getD i 0 = b.getD i 0 := by
  induction n with
  | zero => simp [accB]
  | succ n ih =>
    rw [accB, UInt8.or_eq_zero_iff, ih, UInt8.xor_eq_zero_iff]
    constructor
    · rintro ⟨h1, h2⟩ i hi
      by_cases h : i = n
      · subst h; exact h2
      · exact h1 i (by omega)
    · intro h
      exact ⟨fun i hi => h i (by omega), h n (by omega)⟩
theorem accB_eq {a b : List UInt8} (h : a.length = b.length) : accB a b a.length = 0 ↔ a = b := by
  rw [accB_zero]
  constructor
  · intro q
    apply List.ext_getElem h
    intro i h1 h2
    have := q i h1
    simpa [List.getD_eq_getElem?_getD, h1, h2] using this
  · rintro rfl i hi; rfl
set_option maxHeartbeats 8000000 in
theorem equal_spec (fa fb : Bool) (a b : List UInt8) (hla : a.length ≤ maxLen) : Spec Try.prog 19 [.sl fa a.length (aOfBytes a), .sl fb b.length (aOfBytes b)] (.k (.bool (decide (a = b)))) := by
  unfold maxLen at hla
  have haa := aOfBytes_len a
  have hba := aOfBytes_len b
  refine spec_of (fun _ => false) (by kernel_rfl) Try.func19 rfl rfl (by simp [Try.ntmps19]) (by decide) ?_
  intro δ
  rw [init2]
  by_cases h : a.length = b.length
  · have hz := accB_eq h
    obtain ⟨n, hn⟩ : ∃ n, n = a.length := ⟨_, rfl⟩
    rw [← hn] at hz
    have hI : (a.length : Int) = (n : Int) := by rw [hn]
    have hI2 : (b.length : Int) = (n : Int) := by rw [← h, hn]
    repeat (first | with_reducible (first | refine aWp_seq ?_ | refine seq_normal ?_ | refine seq_ret ?_ | refine seq_exit ?_ | refine blk_normal ?_ | refine blk_ret ?_ | refine blk_hit ?_ | refine blk_miss rfl ?_ | refine aWp_ret ?_ | refine aWp_skip ?_ | refine aWp_block ?_ | refine aWp_exit ?_ | refine end_ret ?_ | refine end_normal ?_) | ((refine rgA ?_); intro ν) | ((with_reducible apply cndT); exact rfl; (first | rfl | assumption)) | ((with_reducible apply cndF); exact rfl; (first | rfl | assumption)))
    refine aWp_loop (fun m s => ∃ F T ν i, m = n - i ∧ i ≤ n ∧ s = ⟨F, T, ν, ⟨fun _ => false, δ, false⟩⟩ ∧
      F 0 = .k (.sl fa a.length (aOfBytes a)) ∧ F 1 = .k (.sl fb b.length (aOfBytes b)) ∧ F 5 = .k (.int .u8 ((accB a b i).toNat : Int)) ∧ F 13 = .k (.int .i64 (n : Nat)) ∧ F 14 = .k (.int .i64 (i : Nat))) n ⟨_, _, _, 0, rfl, Nat.zero_le _, rfl, rfl, rfl, rfl, ?_, rfl⟩ ?_
    · rw [hn]; rfl
    rintro m s ⟨F, T, ν, i, rfl, hi, rfl, f0, f1, f5, f13, f14⟩
    rw [has5 f0 f1 f5 f13 f14]
    by_cases hlt : i < n
    · have l1 := ld_b a i (by omega)
      have l2 := ld_b b i (by omega)
      repeat (first | with_reducible (first | refine aWp_seq ?_ | refine seq_normal ?_ | refine seq_ret ?_ | refine seq_exit ?_ | refine blk_normal ?_ | refine blk_ret ?_ | refine blk_hit ?_ | refine blk_miss rfl ?_ | refine aWp_ret ?_ | refine aWp_skip ?_ | refine aWp_block ?_ | refine aWp_exit ?_ | refine end_ret ?_ | refine end_normal ?_) | ((refine rgA ?_); intro ν) | ((with_reducible apply cndT); exact rfl; (first | rfl | assumption)) | ((with_reducible apply cndF); exact rfl; (first | rfl | assumption)))
      refine rgxA [] ?_
      intro ν
      repeat (first | with_reducible (first | refine aWp_seq ?_ | refine seq_normal ?_ | refine seq_ret ?_ | refine seq_exit ?_ | refine blk_normal ?_ | refine blk_ret ?_ | refine blk_hit ?_ | refine blk_miss rfl ?_ | refine aWp_ret ?_ | refine aWp_skip ?_ | refine aWp_block ?_ | refine aWp_exit ?_ | refine end_ret ?_ | refine end_normal ?_) | ((refine rgA ?_); intro ν) | ((with_reducible apply cndT); exact rfl; (first | rfl | assumption)) | ((with_reducible apply cndF); exact rfl; (first | rfl | assumption)))
      refine ⟨n - (i + 1), by omega, _, _, _, i + 1, rfl, by omega, rfl, rfl, rfl, rfl, rfl, ?_⟩
      show (SV.k (.int .i64 ((i : Int) + 1)) : SV) = _
      rw [Int.natCast_succ]
    · have hie : i = n := by omega
      subst hie
      by_cases q : accB a b i = 0
      · have hab := hz.1 q
        have hq : ((accB a b i).toNat : Int) = 0 := by rw [q]; rfl
        repeat (first | with_reducible (first | refine aWp_seq ?_ | refine seq_normal ?_ | refine seq_ret ?_ | refine seq_exit ?_ | refine blk_normal ?_ | refine blk_ret ?_ | refine blk_hit ?_ | refine blk_miss rfl ?_ | refine aWp_ret ?_ | refine aWp_skip ?_ | refine aWp_block ?_ | refine aWp_exit ?_ | refine end_ret ?_ | refine end_normal ?_) | ((refine rgA ?_); intro ν) | ((with_reducible apply cndT); exact rfl; (first | rfl | assumption)) | ((with_reducible apply cndF); exact rfl; (first | rfl | assumption)))
        (first | with_reducible refine end_r ?_ | with_reducible refine end_n ?_); refine en1 ?_
        rw [decide_eq_true hab]
      · have hab : ¬ a = b := fun e => q (hz.2 e)
        have hq : ¬ ((accB a b i).toNat : Int) = 0 := fun e => q (UInt8.toNat.inj (by simpa using e))
        repeat (first | with_reducible (first | refine aWp_seq ?_ | refine seq_normal ?_ | refine seq_ret ?_ | refine seq_exit ?_ | refine blk_normal ?_ | refine blk_ret ?_ | refine blk_hit ?_ | refine blk_miss rfl ?_ | refine aWp_ret ?_ | refine aWp_skip ?_ | refine aWp_block ?_ | refine aWp_exit ?_ | refine end_ret ?_ | refine end_normal ?_) | ((refine rgA ?_); intro ν) | ((with_reducible apply cndT); exact rfl; (first | rfl | assumption)) | ((with_reducible apply cndF); exact rfl; (first | rfl | assumption)))
        (first | with_reducible refine end_r ?_ | with_reducible refine end_n ?_); refine en1 ?_
        rw [decide_eq_false hab]
  · have hab : ¬ a = b := fun e => h (by rw [e])
    repeat (first | with_reducible (first | refine aWp_seq ?_ | refine seq_normal ?_ | refine seq_ret ?_ | refine seq_exit ?_ | refine blk_normal ?_ | refine blk_ret ?_ | refine blk_hit ?_ | refine blk_miss rfl ?_ | refine aWp_ret ?_ | refine aWp_skip ?_ | refine aWp_block ?_ | refine aWp_exit ?_ | refine end_ret ?_ | refine end_normal ?_) | ((refine rgA ?_); intro ν) | ((with_reducible apply cndT); exact rfl; (first | rfl | assumption)) | ((with_reducible apply cndF); exact rfl; (first | rfl | assumption)))
    (first | with_reducible refine end_r ?_ | with_reducible refine end_n ?_); refine en1 ?_
    rw [decide_eq_false hab]
theorem short06_spec (l : List UInt8) : Spec Try.prog 20 [.sl false l.length (aOfBytes l)] (.k (.sl false (l.take 300).length (aOfBytes (l.take 300)))) := by
  refine spec_of (fun _ => false) (by kernel_rfl) Try.func20 rfl rfl (by simp [Try.ntmps20]) (by decide) ?_
  intro δ
  rw [init1]
  have hl := aOfBytes_len l
  by_cases h : 300 < l.length
  · repeat (first | with_reducible (first | refine aWp_seq ?_ | refine seq_normal ?_ | refine seq_ret ?_ | refine seq_exit ?_ | refine blk_normal ?_ | refine blk_ret ?_ | refine blk_hit ?_ | refine blk_miss rfl ?_ | refine aWp_ret ?_ | refine aWp_skip ?_ | refine aWp_block ?_ | refine aWp_exit ?_ | refine end_ret ?_ | refine end_normal ?_) | ((refine rgA ?_); intro ν) | ((with_reducible apply cndT); exact rfl; (first | rfl | assumption)) | ((with_reducible apply cndF); exact rfl; (first | rfl | assumption)))
    (first | with_reducible refine end_r ?_ | with_reducible refine end_n ?_); refine en1 ?_
    simp [aOfBytes, List.map_take]; omega
  · repeat (first | with_reducible (first | refine aWp_seq ?_ | refine seq_normal ?_ | refine seq_ret ?_ | refine seq_exit ?_ | refine blk_normal ?_ | refine blk_ret ?_ | refine blk_hit ?_ | refine blk_miss rfl ?_ | refine aWp_ret ?_ | refine aWp_skip ?_ | refine aWp_block ?_ | refine aWp_exit ?_ | refine end_ret ?_ | refine end_normal ?_) | ((refine rgA ?_); intro ν) | ((with_reducible apply cndT); exact rfl; (first | rfl | assumption)) | ((with_reducible apply cndF); exact rfl; (first | rfl | assumption)))
    (first | with_reducible refine end_r ?_ | with_reducible refine end_n ?_); refine en1 ?_
    rw [List.take_of_length_le (by omega)]
def foxK : List UInt8 := [107, 101, 121]
def foxA : List UInt8 := [84, 104, 101, 32, 113, 117, 105, 99, 107, 32, 98, 114, 111, 119, 110, 32, 102, 111, 120, 32]
def foxB : List UInt8 := [106, 117, 109, 112, 115, 32, 111, 118, 101, 114, 32, 116, 104, 101, 32, 108, 97, 122, 121, 32, 100, 111, 103]
theorem fox_0 : (macB foxK (foxA ++ foxB)).getD 0 0 = 247 := by decide +kernel
theorem fox_1 : (macB foxK (foxA ++ foxB)).getD 1 0 = 188 := by decide +kernel
theorem fox_31 : (macB foxK (foxA ++ foxB)).getD 31 0 = 216 := by decide +kernel
set_option maxHeartbeats 8000000 in
theorem awake06_walk (D : List UInt8) (hl : D.length = 32) (h0 : D.getD 0 0 = 247) (h1 : D.getD 1 0 = 188) (h31 : D.getD 31 0 = 216)
    (s1 : Spec Try.prog 21 [.sl false 3 (aOfBytes foxK), .sl false 2 [.sl false 20 (aOfBytes foxA), .sl false 23 (aOfBytes foxB)]] (.k (.agg (aOfBytes D)))) : Spec Try.prog 18 [] (.k (.bool true)) := by
  have hDa := aOfBytes_len D
  have l0 := ld_b D 0 (by omega)
  have l1 := ld_b D 1 (by omega)
  have l2 := ld_b D 31 (by omega)
  rw [h0] at l0
  rw [h1] at l1
  rw [h31] at l2
  have la := ld_arr (n := 32) (e := 5) (aOfBytes D) (sz := 32) (by omega)
  have e1 := equal_spec true true D D (by rw [hl]; decide)
  have e2 := equal_spec true true D (D.drop 1) (by rw [hl]; decide)
  have hne : ¬ D = D.drop 1 := fun e => by
    have := congrArg List.length e
    simp at this; omega
  have hd1 : (D.drop 1).length = 31 := by simp; omega
  have ht : List.take 32 (aOfBytes D) = aOfBytes D := List.take_of_length_le (by omega)
  rw [decide_eq_true rfl, hl, ← ht] at e1
  rw [decide_eq_false hne, hl, hd1, bytes_drop, ← ht] at e2
  refine spec_of (fun _ => false) (by kernel_rfl) Try.func18 rfl rfl (by simp [Try.ntmps18]) (by decide) ?_
  intro δ
  rw [init0]
  repeat with_reducible (first | refine aWp_seq ?_ | refine seq_normal ?_ | refine seq_ret ?_ | refine seq_exit ?_ | refine blk_normal ?_ | refine blk_ret ?_ | refine blk_hit ?_ | refine blk_miss rfl ?_ | refine aWp_ret ?_ | refine aWp_skip ?_ | refine aWp_block ?_ | refine aWp_exit ?_ | refine end_ret ?_ | refine end_normal ?_)
  refine rgA ?_
  intro ν
  repeat with_reducible (first | refine aWp_seq ?_ | refine seq_normal ?_ | refine seq_ret ?_ | refine seq_exit ?_ | refine blk_normal ?_ | refine blk_ret ?_ | refine blk_hit ?_ | refine blk_miss rfl ?_ | refine aWp_ret ?_ | refine aWp_skip ?_ | refine aWp_block ?_ | refine aWp_exit ?_ | refine end_ret ?_ | refine end_normal ?_)
  rw [show aOfBytes foxK = [.int .u8 107, .int .u8 101, .int .u8 121] from rfl, show aOfBytes foxA = [.int .u8 84, .int .u8 104, .int .u8 101, .int .u8 32, .int .u8 113, .int .u8 117, .int .u8 105, .int .u8 99, .int .u8 107, .int .u8 32, .int .u8 98, .int .u8 114, .int .u8 111, .int .u8 119, .int .u8 110, .int .u8 32, .int .u8 102, .int .u8 111, .int .u8 120, .int .u8 32] from rfl, show aOfBytes foxB = [.int .u8 106, .int .u8 117, .int .u8 109, .int .u8 112, .int .u8 115, .int .u8 32, .int .u8 111, .int .u8 118, .int .u8 101, .int .u8 114, .int .u8 32, .int .u8 116, .int .u8 104, .int .u8 101, .int .u8 32, .int .u8 108, .int .u8 97, .int .u8 122, .int .u8 121, .int .u8 32, .int .u8 100, .int .u8 111, .int .u8 103] from rfl] at s1
  refine rg fun K hK => ?_
  refine stA ?_
  (first | with_reducible refine g0 ?_ | ((with_reducible refine g1 ?_ ?_); (with_reducible apply gt_); exact rfl; exact rfl; (first | rfl | assumption | (simp [*] <;> done)))); refine scA (h2 := (s1)) (hk := ?_)
  refine stA ?_
  refine rzp (t := 1) rfl rfl ?_
  refine hK _ _ _ ?_
  clear hK K; intro ν
  rw [drop_rep, List.append_nil]
  repeat with_reducible (first | refine aWp_seq ?_ | refine seq_normal ?_ | refine seq_ret ?_ | refine seq_exit ?_ | refine blk_normal ?_ | refine blk_ret ?_ | refine blk_hit ?_ | refine blk_miss rfl ?_ | refine aWp_ret ?_ | refine aWp_skip ?_ | refine aWp_block ?_ | refine aWp_exit ?_ | refine end_ret ?_ | refine end_normal ?_)
  refine rgx [] (by kernel_rfl) fun K hK => ?_
  refine stxA ?_
  ((first | ((with_reducible refine x0 ?_ ?_); exact rfl) | ((with_reducible refine x1 ?_ ?_ ?_); exact rfl; (with_reducible apply gt_); exact rfl; exact rfl; (first | rfl | assumption | (simp [*] <;> done)))); refine xcA (h2 := (e1)) (hk := ?_))
  refine stxA ?_
  ((first | ((with_reducible refine x0 ?_ ?_); exact rfl) | ((with_reducible refine x1 ?_ ?_ ?_); exact rfl; (with_reducible apply gt_); exact rfl; exact rfl; (first | rfl | assumption | (simp [*] <;> done)))); refine xcA (h2 := (e2)) (hk := ?_))
  refine stxA ?_
  with_reducible refine xz ?_
  refine hK _ _ _ ?_
  clear hK K; intro ν
  repeat (first | with_reducible (first | refine aWp_seq ?_ | refine seq_normal ?_ | refine seq_ret ?_ | refine seq_exit ?_ | refine blk_normal ?_ | refine blk_ret ?_ | refine blk_hit ?_ | refine blk_miss rfl ?_ | refine aWp_ret ?_ | refine aWp_skip ?_ | refine aWp_block ?_ | refine aWp_exit ?_ | refine end_ret ?_ | refine end_normal ?_) | ((refine rgA ?_); intro ν) | ((with_reducible apply cndT); exact rfl; (first | rfl | assumption)) | ((with_reducible apply cndF); exact rfl; (first | rfl | assumption)))
  (first | with_reducible refine end_r ?_ | with_reducible refine end_n ?_); refine en1 ?_
  rfl
theorem awake06_spec : Spec Try.prog 18 [] (.k (.bool true)) := by
  have s1 := macOf_spec false false foxK (by decide) [(false, foxA), (false, foxB)] (by decide) (by decide) (by decide)
  exact awake06_walk _ (macB_len _ _) fox_0 fox_1 fox_31 s1
end Go.Proofs.Ytjfeggkjkdbkiaa
