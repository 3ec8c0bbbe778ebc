import Derived.Test.YtmlgpibjhegdeaaProg
import Derived.Test.YtmlgpibjhegdeaaReader
namespace Go.Proofs.Ytmlgpibjhegdeaa
open Go.RowKit
set_option linter.unusedVariables false
set_option linter.unusedSimpArgs false

theorem vN_snoc (l : List (BitVec 8)) (b : BitVec 8) : vN (l ++ [b]) = vN l <<< 8 + b.setWidth 64 := by simp [vN]
theorem ser_snoc (x : BitVec 64) (k : Nat) : ser x (k + 1) = ser (x >>> 8) k ++ [x.setWidth 8] := by
  apply List.ext_getElem?
  intro i
  by_cases h1 : i < k
  · rw [List.getElem?_append_left (by simp [ser]; omega)]
    simp only [ser, List.getElem?_map, List.getElem?_range (show i < k + 1 by omega), List.getElem?_range h1, Option.map_some]
    rw [← BitVec.shiftRight_add, show 8 * (k + 1 - 1 - i) = 8 + 8 * (k - 1 - i) by omega]
  · rw [List.getElem?_append_right (by simp [ser]; omega), ser_len]
    by_cases h2 : i = k
    · subst h2
      simp [ser, List.getElem?_range (show i < i + 1 by omega)]
    · rw [List.getElem?_eq_none (by simp [ser]; omega), List.getElem?_eq_none (by simp; omega)]
theorem vN_ser (k : Nat) (hk : k ≤ 8) (x : BitVec 64) : (vN (ser x k)).toNat = x.toNat % 2 ^ (8 * k) := by
  induction k generalizing x with
  | zero => simp [ser, vN, Nat.mod_one]
  | succ k ih =>
    rw [ser_snoc, vN_snoc, BitVec.toNat_add, BitVec.toNat_shiftLeft, ih (by omega)]
    have hm : 2 ^ (8 * (k + 1)) = 256 * 2 ^ (8 * k) := by rw [show 8 * (k + 1) = 8 + 8 * k by omega, Nat.pow_add]
    have hp : 2 ^ (8 * k) ≤ 2 ^ 56 := Nat.pow_le_pow_right (by omega) (by omega)
    rw [hm, Nat.mod_mul]
    have hlt : x.toNat / 256 % 2 ^ (8 * k) < 2 ^ (8 * k) := Nat.mod_lt _ (Nat.pow_pos (by omega))
    simp only [BitVec.toNat_ushiftRight, Nat.shiftRight_eq_div_pow, Nat.shiftLeft_eq, BitVec.toNat_setWidth]
    rw [show (2 : Nat) ^ 8 = 256 by rfl]
    generalize x.toNat / 256 % 2 ^ (8 * k) = q at *
    omega
theorem vI_encI (n : Int) (h1 : -9223372036854775808 ≤ n) (h2 : n ≤ 9223372036854775807) : vI (encI n) = n := by
  have : vN (encI n) = BitVec.ofInt 64 n := BitVec.eq_of_toNat_eq (by
    rw [encI, vN_ser 8 (by omega)]
    have := (BitVec.ofInt 64 n).isLt
    omega)
  unfold vI
  rw [this, ← u64_of]
  simp only [wrap64, IntKind.wrap, IntKind.bits, IntKind.signed]
  simp
  omega
theorem vI_two (j : Nat) (h : j ≤ 65535) : vI (ser (BitVec.ofNat 64 j) 2) = j := by
  have : (vN (ser (BitVec.ofNat 64 j) 2)).toNat = j := by
    rw [vN_ser 2 (by omega), BitVec.toNat_ofNat]; omega
  unfold vI n64
  rw [this]
  simp only [wrap64]
  omega
theorem enc_out (s r : List (BitVec 8)) (k : Nat) (hs : s.length = k) : nxOut k (some (s ++ r)) = s ∧ nxSt k (some (s ++ r)) = some r ∧ nxOk k (some (s ++ r)) = true := by
  subst hs
  simp [nxOut, nxSt, nxOk]
theorem rd_int (n : Int) (r : List (BitVec 8)) (h1 : -9223372036854775808 ≤ n) (h2 : n ≤ 9223372036854775807) : rI (some (encI n ++ r)) = n ∧ nxSt 8 (some (encI n ++ r)) = some r := by
  obtain ⟨e1, e2, e3⟩ := enc_out (encI n) r 8 (encI_len n)
  exact ⟨by rw [rI, e1, vI_encI n h1 h2], e2⟩
theorem encT_len (l : List (BitVec 8)) : (encT l).length = 2 + l.length := by simp [encT, ser_len]
theorem rd_text (l r : List (BitVec 8)) (most : Int) (h : l.length ≤ 65535) (hm : (l.length : Int) ≤ most) : rT most (some (encT l ++ r)) = l ∧ rTs most (some (encT l ++ r)) = some r := by
  obtain ⟨e1, e2, e3⟩ := enc_out (ser (BitVec.ofNat 64 l.length) 2) (l ++ r) 2 (ser_len _ _)
  obtain ⟨f1, f2, f3⟩ := enc_out l r l.length rfl
  rw [encT, List.append_assoc]
  unfold rT rTs
  rw [e1, e2, e3, vI_two _ h]
  simp [hm, f1, f2]
theorem rI_none : rI none = 0 := vI_nil
theorem rT_none (m : Int) : rT m none = [] := rfl
theorem rTs_none (m : Int) : rTs m none = none := rfl
theorem rI_short (y : List (BitVec 8)) (h : y.length < 8) : rI (some y) = 0 ∧ nxSt 8 (some y) = none := by
  have h' : ¬ 8 ≤ y.length := by omega
  exact ⟨by rw [rI, nxOut, if_neg h']; exact vI_nil, by rw [nxSt, if_neg h']⟩
theorem rT_cut (l : List (BitVec 8)) (j : Nat) (most : Int) (h : l.length ≤ 65535) (hj : j < 2 + l.length) : rT most (some ((encT l).take j)) = [] ∧ rTs most (some ((encT l).take j)) = none := by
  by_cases h2 : j < 2
  · have h' : nxOk 2 (some ((encT l).take j)) = false := by simp [nxOk]; omega
    simp [rT, rTs, h']
  · have : (encT l).take j = ser (BitVec.ofNat 64 l.length) 2 ++ l.take (j - 2) := by
      rw [encT, List.take_append, ser_len, List.take_of_length_le (by rw [ser_len]; omega)]
    rw [this]
    obtain ⟨e1, e2, e3⟩ := enc_out (ser (BitVec.ofNat 64 l.length) 2) (l.take (j - 2)) 2 (ser_len _ _)
    unfold rT rTs
    rw [e1, e2, e3, vI_two _ h]
    have h3 : ¬ (l.length : Nat) ≤ (l.take (j - 2)).length := by simp; omega
    simp only [Int.toNat_natCast, nxOut, nxSt, if_neg h3, Bool.true_and, ite_self]
    exact ⟨trivial, trivial⟩

theorem i64_of_wf {n : Int} (h : (Lit.int .i64 n).wf = true) : -9223372036854775808 ≤ n ∧ n ≤ 9223372036854775807 := by
  simp only [Lit.wf, decide_eq_true_eq, Bool.and_eq_true] at h
  have h1 : IntKind.i64.min = -9223372036854775808 := rfl
  have h2 : IntKind.i64.max = 9223372036854775807 := rfl
  omega

end Go.Proofs.Ytmlgpibjhegdeaa
