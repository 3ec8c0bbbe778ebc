import Derived.Test.YtikganlbnhapcaaSheet
namespace Go.Proofs.Ytikganlbnhapcaa
open Go.RowKit
set_option linter.unusedVariables false
set_option linter.unusedSimpArgs false
set_option maxRecDepth 20000
theorem or64 (x y : Nat) (hx : x < 2 ^ 40) (hy : y < 256) : Go.bits .or .i64 ((x : Int) * 256) (y : Int) = ((256 * x + y : Nat) : Int) := by
  have e : Go.bits .or .i64 ((x : Int) * 256) (y : Int) = IntKind.i64.wrap (((BitVec.ofInt 64 ((x : Int) * 256)) ||| (BitVec.ofInt 64 (y : Int))).toNat : Int) := rfl
  rw [e, show (x : Int) * 256 = ((256 * x : Nat) : Int) by push_cast; omega, BitVec.ofInt_natCast, BitVec.ofInt_natCast, BitVec.toNat_or, BitVec.toNat_ofNat, BitVec.toNat_ofNat, Nat.mod_eq_of_lt (by omega), Nat.mod_eq_of_lt (by omega)]
  have h := Nat.shiftLeft_add_eq_or_of_lt (i := 8) (b := y) (by omega) x
  rw [Nat.shiftLeft_eq, Nat.mul_comm] at h
  rw [show 256 * x = 2 ^ 8 * x by omega, ← h]
  exact w64 (by omega) (by omega)
def numB (l : List UInt8) : Nat := l.foldl (fun n c => 256 * n + c.toNat) 0
theorem numB_snoc (l : List UInt8) (c : UInt8) : numB (l ++ [c]) = 256 * numB l + c.toNat := by simp [numB]
theorem numB_lt : ∀ (n : Nat) (l : List UInt8), l.length = n → numB l < 256 ^ n
  | 0, l, h => by rw [List.eq_nil_of_length_eq_zero h]; simp [numB]
  | n + 1, l, h => by
    have hne : l ≠ [] := fun q => by rw [q] at h; simp at h
    rw [← List.dropLast_concat_getLast hne, numB_snoc]
    have := numB_lt n l.dropLast (by simp [h])
    have := (l.getLast hne).toNat_lt
    rw [Nat.pow_succ]; omega
set_option maxHeartbeats 4000000 in
theorem number_spec (full : Bool) (l : List UInt8) (hl : l.length ≤ 4) : Spec Try.prog 68 [.sl full l.length (aOfBytes l)] (.k (.int .i64 (numB l : Nat))) := by
  refine spec_of (fun _ => false) (by kernel_rfl) Try.func68 rfl rfl (by simp [Try.ntmps68]) (by decide) ?_
  intro δ
  rw [init1]
  have hlen := aOfBytes_len l
  repeat (first | with_reducible (first | refine aWp_seq ?_ | refine seq_normal ?_ | refine seq_ret ?_ | refine seq_exit ?_ | refine blk_normal ?_ | refine blk_ret ?_ | refine blk_hit ?_ | refine blk_miss rfl ?_ | refine aWp_ret ?_ | refine aWp_skip ?_ | refine aWp_block ?_ | refine aWp_exit ?_ | refine end_ret ?_ | refine end_normal ?_) | ((refine rgA ?_); intro ν) | ((with_reducible apply cndT); exact rfl; (first | rfl | assumption)) | ((with_reducible apply cndF); exact rfl; (first | rfl | assumption)))
  refine aWp_loop (fun m s => ∃ F T ν i, m = l.length - i ∧ i ≤ l.length ∧ s = ⟨F, T, ν, ⟨fun _ => false, δ, false⟩⟩ ∧
    F 6 = .k (.sl full l.length (aOfBytes l)) ∧ F 7 = .k (.int .i64 (l.length : Nat)) ∧ F 8 = .k (.int .i64 (i : Nat)) ∧ F 3 = .k (.int .i64 (numB (l.take i) : Nat))) l.length ⟨_, _, _, 0, rfl, Nat.zero_le _, rfl, rfl, rfl, rfl, rfl⟩ ?_
  rintro m s ⟨F, T, ν, i, rfl, hi, rfl, f6, f7, f8, f3⟩
  rw [has4 f6 f7 f8 f3]
  repeat with_reducible (first | refine aWp_seq ?_ | refine seq_normal ?_ | refine seq_ret ?_ | refine seq_exit ?_ | refine blk_normal ?_ | refine blk_ret ?_ | refine blk_hit ?_ | refine blk_miss rfl ?_ | refine aWp_ret ?_ | refine aWp_skip ?_ | refine aWp_block ?_ | refine aWp_exit ?_ | refine end_ret ?_ | refine end_normal ?_)
  by_cases hlt : i < l.length
  · obtain ⟨c, hc⟩ : ∃ c, l[i]? = some c := ⟨l[i], by simp [hlt]⟩
    have hld : ldAgg (.int .u8) 1 (List.drop i (aOfBytes l)) = some (.int .u8 (c.toNat : Int)) := by
      have hl2 : i < (aOfBytes l).length := by omega
      rw [List.drop_eq_getElem_cons hl2]
      have : l[i] = c := by rw [List.getElem?_eq_getElem hlt] at hc; injection hc
      simp [ldAgg, aOfBytes, this]
    have hc2 := c.toNat_lt
    have hn0 := numB_lt i (l.take i) (by simp; omega)
    have hn : numB (l.take i) < 2 ^ 32 := by
      have : 256 ^ i ≤ 256 ^ 3 := Nat.pow_le_pow_right (by omega) (by omega)
      omega
    have hs := take_succ' hc
    repeat (first | with_reducible (first | refine aWp_seq ?_ | refine seq_normal ?_ | refine seq_ret ?_ | refine seq_exit ?_ | refine blk_normal ?_ | refine blk_ret ?_ | refine blk_hit ?_ | refine blk_miss rfl ?_ | refine aWp_ret ?_ | refine aWp_skip ?_ | refine aWp_block ?_ | refine aWp_exit ?_ | refine end_ret ?_ | refine end_normal ?_) | ((refine rgA ?_); intro ν) | ((with_reducible apply cndT); exact rfl; (first | rfl | assumption)) | ((with_reducible apply cndF); exact rfl; (first | rfl | assumption)))
    refine ⟨l.length - (i + 1), by omega, _, _, _, i + 1, rfl, by omega, rfl, rfl, rfl, rfl, ?_⟩
    show (SV.k (.int .i64 (Go.bits .or .i64 ((numB (l.take i) : Int) * 256) (c.toNat : Int))) : SV) = _
    rw [or64 _ _ (by omega) hc2, hs, numB_snoc]
  · have hie : i = l.length := by omega
    subst hie
    rw [List.take_length]
    repeat (first | with_reducible (first | refine aWp_seq ?_ | refine seq_normal ?_ | refine seq_ret ?_ | refine seq_exit ?_ | refine blk_normal ?_ | refine blk_ret ?_ | refine blk_hit ?_ | refine blk_miss rfl ?_ | refine aWp_ret ?_ | refine aWp_skip ?_ | refine aWp_block ?_ | refine aWp_exit ?_ | refine end_ret ?_ | refine end_normal ?_) | ((refine rgA ?_); intro ν) | ((with_reducible apply cndT); exact rfl; (first | rfl | assumption)) | ((with_reducible apply cndF); exact rfl; (first | rfl | assumption)))
    (first | with_reducible refine end_r ?_ | with_reducible refine end_n ?_); refine en1 ?_
    rfl
theorem count_spec (n : Nat) (hn : n ≤ 65535) : Spec Try.prog 35 [.int .i64 n] (.k (.int .i64 (chN (n + 6) 24 : Nat))) := by
  refine spec_of (fun _ => false) (by kernel_rfl) Try.func35 rfl rfl (by simp [Try.ntmps35]) (by decide) ?_
  intro δ
  rw [init1]
  repeat (first | with_reducible (first | refine aWp_seq ?_ | refine seq_normal ?_ | refine seq_ret ?_ | refine seq_exit ?_ | refine blk_normal ?_ | refine blk_ret ?_ | refine blk_hit ?_ | refine blk_miss rfl ?_ | refine aWp_ret ?_ | refine aWp_skip ?_ | refine aWp_block ?_ | refine aWp_exit ?_ | refine end_ret ?_ | refine end_normal ?_) | ((refine rgA ?_); intro ν) | ((with_reducible apply cndT); exact rfl; (first | rfl | assumption)) | ((with_reducible apply cndF); exact rfl; (first | rfl | assumption)))
  (first | with_reducible refine end_r ?_ | with_reducible refine end_n ?_); refine en1 ?_
  unfold chN
  congr 1
  omega
attribute [local go_sem] Oper.semAt_some
theorem clone0_spec (full : Bool) : Spec Try.prog 69 [.sl full 0 []] (.k (.sl true 0 [])) := by
  refine spec_calls ⟨_, Try.func69, rfl, rfl⟩ fun K w vs hk ha => ?_
  obtain ⟨u, rfl, g0⟩ := args1 ha
  obtain ⟨a, c, rfl, _⟩ := ksl_inv g0
  have hres : ∀ (a : Option Addr) (K : Kd), KRep K (.sl true 0 []) (.slice a 0 0) := fun a K => .sl0 _ _ _ (Nat.zero_le _) (fun _ => rfl)
  have hcmp : ∀ w1 : World, _ := fun w1 => run_eql_slice_nil' w1 22 5 a 0 c 0 0 Try.underlying22
  cases a with
  | none =>
    go_enter Try.func69, Try.ntmps69
    go_wp2_with fail
    go_ret
    exact ⟨_, rfl, Below.refl _ _, hres _ _⟩
  | some p =>
    obtain ⟨i, z, d, hi, hz, hzs, hz1, hsz, hbe, hzr, hd⟩ := ti_ok (P := Try.prog) (t := 5) (by kernel_rfl)
    have hrun : ∀ (w1 : World) (g : Nat), (Builtin.append_ #[22, 22] 22 #[.slice (some ⟨g, 0, none⟩) 0 0, .slice (some p) 0 c]).run Try.prog w1 = .ok (.slice (some ⟨g, 0, none⟩) 0 0) w1 := fun w1 g =>
      (ASrc.ofSrc hi hz (Src.ofSlice w1 Try.underlying22 p 0 c [] (by simp) (fun j u hu => by simp at hu) (fun q hq => by cases hq))).nil rfl _ _ _ 0 0 Try.underlying22 (Nat.le_refl _)
    have HR := Lib.hid hrun
    clear hrun hzr hz1 hzs hz hsz hbe hi hd
    go_enter Try.func69, Try.ntmps69
    go_wp2_with (at_builtin; refine wpList_bi (o := ⟨some 7, _, _, _, _, _⟩) rfl _ _ 22 22 rfl rfl rfl (HR.out _ _) ?_)
    go_ret
    exact ⟨_, rfl, (Below.refl _ _).alloc (Nat.le_refl _) _, hres _ _⟩
theorem clone0_spec2 (full : Bool) (n : Nat) (cs : List AV) (hn : n = 0) (hc : cs = []) : Spec Try.prog 69 [.sl full n cs] (.k (.sl true 0 [])) := by
  subst hn hc; exact clone0_spec full
set_option maxHeartbeats 4000000 in
theorem clone_spec (full : Bool) (n : Nat) (cs : List AV) (h0 : 0 < n) (hl : cs.length = n) (hb : n ≤ 16777216) : Spec Try.prog 69 [.sl full n cs] (.k (.sl false n cs)) := by
  refine spec_of (fun t => t == 5 || t == 7) (by kernel_rfl) Try.func69 rfl rfl (by simp [Try.ntmps69]) (by decide) ?_
  intro δ
  rw [init1]
  repeat (first | with_reducible (first | refine aWp_seq ?_ | refine seq_normal ?_ | refine seq_ret ?_ | refine seq_exit ?_ | refine blk_normal ?_ | refine blk_ret ?_ | refine blk_hit ?_ | refine blk_miss rfl ?_ | refine aWp_ret ?_ | refine aWp_skip ?_ | refine aWp_block ?_ | refine aWp_exit ?_ | refine end_ret ?_ | refine end_normal ?_) | ((refine rgA ?_); intro ν) | ((with_reducible apply cndT); exact rfl; (first | rfl | assumption)) | ((with_reducible apply cndF); exact rfl; (first | rfl | assumption)))
  (first | with_reducible refine end_r ?_ | with_reducible refine end_n ?_); refine en1 ?_
  rw [List.take_of_length_le (by omega)]
theorem equal_spec (f1 f2 : Bool) (l m : List UInt8) : Spec Try.prog 70 [.sl f1 l.length (aOfBytes l), .sl f2 m.length (aOfBytes m)] (.k (.bool (decide (l = m)))) := by
  refine spec_of (fun _ => false) (by kernel_rfl) Try.func70 rfl rfl (by simp [Try.ntmps70]) (by decide) ?_
  intro δ
  rw [init2]
  have h1 := aOfBytes_len l
  have h2 := aOfBytes_len m
  by_cases h : l = m
  · repeat (first | with_reducible (first | refine aWp_seq ?_ | refine seq_normal ?_ | refine seq_ret ?_ | refine seq_exit ?_ | refine blk_normal ?_ | refine blk_ret ?_ | refine blk_hit ?_ | refine blk_miss rfl ?_ | refine aWp_ret ?_ | refine aWp_skip ?_ | refine aWp_block ?_ | refine aWp_exit ?_ | refine end_ret ?_ | refine end_normal ?_) | ((refine rgA ?_); intro ν) | ((with_reducible apply cndT); exact rfl; (first | rfl | assumption)) | ((with_reducible apply cndF); exact rfl; (first | rfl | assumption)))
    (first | with_reducible refine end_r ?_ | with_reducible refine end_n ?_); refine en1 ?_
    rw [decide_eq_true h]
  · repeat (first | with_reducible (first | refine aWp_seq ?_ | refine seq_normal ?_ | refine seq_ret ?_ | refine seq_exit ?_ | refine blk_normal ?_ | refine blk_ret ?_ | refine blk_hit ?_ | refine blk_miss rfl ?_ | refine aWp_ret ?_ | refine aWp_skip ?_ | refine aWp_block ?_ | refine aWp_exit ?_ | refine end_ret ?_ | refine end_normal ?_) | ((refine rgA ?_); intro ν) | ((with_reducible apply cndT); exact rfl; (first | rfl | assumption)) | ((with_reducible apply cndF); exact rfl; (first | rfl | assumption)))
    (first | with_reducible refine end_r ?_ | with_reducible refine end_n ?_); refine en1 ?_
    rw [decide_eq_false h]
end Go.Proofs.Ytikganlbnhapcaa
