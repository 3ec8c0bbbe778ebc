import Derived.Test.YtikganlbnhapcaaCrc
namespace Go.Proofs.Ytikganlbnhapcaa
open Go.RowKit
set_option linter.unusedVariables false
set_option linter.unusedSimpArgs false

def crcBit (x : BitVec 32) (b : Bool) : BitVec 32 := (x >>> 1) ^^^ (if x.getLsbD 0 != b then 0xEDB88320#32 else 0#32)
def crcBits (bs : List (BitVec 8)) (x : BitVec 32) : Nat → BitVec 32
  | 0 => x
  | k + 1 => crcBit (crcBits bs x k) ((bs.getD (k / 8) 0).getLsbD (k % 8))

theorem one_mul_poly (z : BitVec 32) : (z &&& 1#32) * 0xEDB88320#32 = if z.getLsbD 0 then 0xEDB88320#32 else 0#32 := by
  rw [BitVec.and_one_eq_setWidth_ofBool_getLsbD]
  cases z.getLsbD 0 <;> rfl

theorem crcStep_xor (x y : BitVec 32) : crcStep (x ^^^ y) = crcBit x (y.getLsbD 0) ^^^ (y >>> 1) := by
  unfold crcStep crcBit
  rw [one_mul_poly, BitVec.getLsbD_xor, BitVec.ushiftRight_xor_distrib]
  have e : (x.getLsbD 0 ^^ y.getLsbD 0) = (x.getLsbD 0 != y.getLsbD 0) := by cases x.getLsbD 0 <;> cases y.getLsbD 0 <;> rfl
  rw [e, BitVec.xor_assoc, BitVec.xor_assoc, BitVec.xor_comm (y >>> 1)]

theorem crcOne_bits (x : BitVec 32) (c : BitVec 8) :
    crcOne x c = crcBit (crcBit (crcBit (crcBit (crcBit (crcBit (crcBit (crcBit x (c.getLsbD 0)) (c.getLsbD 1)) (c.getLsbD 2)) (c.getLsbD 3)) (c.getLsbD 4)) (c.getLsbD 5)) (c.getLsbD 6)) (c.getLsbD 7) := by
  unfold crcOne crcSteps crcSteps crcSteps crcSteps crcSteps crcSteps crcSteps crcSteps crcSteps
  simp only [crcStep_xor, BitVec.getLsbD_ushiftRight, BitVec.getLsbD_setWidth, Nat.reduceAdd, Nat.reduceLT, decide_true, Bool.true_and]
  simp only [← BitVec.shiftRight_add, Nat.reduceAdd]
  have : BitVec.setWidth 32 c >>> 8 = 0#32 := by
    apply BitVec.eq_of_toNat_eq
    have := c.isLt
    simp [BitVec.toNat_ushiftRight, Nat.shiftRight_eq_div_pow]; omega
  rw [this, BitVec.xor_zero]

theorem crcBits_whole (bs : List (BitVec 8)) (x : BitVec 32) (n : Nat) (h : n ≤ bs.length) : crcBits bs x (8 * n) = (bs.take n).foldl crcOne x := by
  induction n with
  | zero => rfl
  | succ n ih =>
    have ih' := ih (by omega)
    rw [fold_snoc _ 0 _ _ _ (by omega), ← ih', crcOne_bits]
    have d : ∀ j, j < 8 → (8 * n + j) / 8 = n ∧ (8 * n + j) % 8 = j := fun j hj => by omega
    show crcBits bs x (8 * n + 7 + 1) = _
    simp only [crcBits]
    have d0 := d 0 (by omega); have d1 := d 1 (by omega); have d2 := d 2 (by omega); have d3 := d 3 (by omega)
    have d4 := d 4 (by omega); have d5 := d 5 (by omega); have d6 := d 6 (by omega); have d7 := d 7 (by omega)
    simp only [Nat.add_zero] at d0
    rw [d0.1, d0.2, d1.1, d1.2, d2.1, d2.2, d3.1, d3.2, d4.1, d4.2, d5.1, d5.2, d6.1, d6.2, d7.1, d7.2]

theorem bit32_eq0 (s : BitVec 32) (k : Nat) : (Go.bits .and .u32 (n32 s / 2 ^ k) 1 == 0) = !(s.getLsbD k) := by
  have e : n32 s / 2 ^ k = n32 (s >>> k) := by
    unfold n32; rw [BitVec.toNat_ushiftRight, Nat.shiftRight_eq_div_pow]; simp
  rw [e, band32_1, BitVec.and_one_eq_setWidth_ofBool_getLsbD, BitVec.getLsbD_ushiftRight, Nat.add_zero]
  cases s.getLsbD k <;> rfl
theorem bit32_eq1 (s : BitVec 32) (k : Nat) : (Go.bits .and .u32 (n32 s / 2 ^ k) 1 == 1) = s.getLsbD k := by
  have e : n32 s / 2 ^ k = n32 (s >>> k) := by
    unfold n32; rw [BitVec.toNat_ushiftRight, Nat.shiftRight_eq_div_pow]; simp
  rw [e, band32_1, BitVec.and_one_eq_setWidth_ofBool_getLsbD, BitVec.getLsbD_ushiftRight, Nat.add_zero]
  cases s.getLsbD k <;> rfl
theorem bit8_eq1 (s : BitVec 8) (k : Nat) : (Go.bits .and .u8 (n8 s / 2 ^ k) 1 == 1) = s.getLsbD k := by
  have e : n8 s / 2 ^ k = n8 (s >>> k) := by
    unfold n8; rw [BitVec.toNat_ushiftRight, Nat.shiftRight_eq_div_pow]; simp
  have e1 : (1 : Int) = n8 1#8 := rfl
  rw [e, e1, band8, BitVec.and_one_eq_setWidth_ofBool_getLsbD, BitVec.getLsbD_ushiftRight, Nat.add_zero]
  cases s.getLsbD k <;> rfl
theorem poly_bit (k : Nat) : (Go.bits .and .u32 (3988292384 / 2 ^ k) 1 == 1) = (3988292384#32).getLsbD k := bit32_eq1 3988292384#32 k
theorem crcBit_of (x : BitVec 32) (b o : Bool) (h : (!x[0] == b) = o) : crcBit x b = (x >>> 1) ^^^ (if o then 0xEDB88320#32 else 0#32) := by
  have e : (x.getLsbD 0 != b) = o := by
    rw [← h]; show (x.getLsbD 0 != b) = _
    cases b <;> simp [bne]
  unfold crcBit; rw [e]
theorem shr32 (x : BitVec 32) : n32 (x >>> 32) = 0 := by
  unfold n32
  have := x.isLt
  rw [BitVec.toNat_ushiftRight, Nat.shiftRight_eq_div_pow, Nat.div_eq_of_lt this]; rfl
theorem double32 (x : BitVec 32) (m : Nat) : (2 * n32 (x >>> (m + 1)) % 4294967296) + (if x.getLsbD m then 1 else 0) = n32 (x >>> m) := by
  unfold n32
  have hb : x.getLsbD m = decide (x.toNat / 2 ^ m % 2 = 1) := by
    rw [BitVec.getLsbD, Nat.testBit_eq_decide_div_mod_eq]
  have h1 : (x >>> (m + 1)).toNat = x.toNat / 2 ^ m / 2 := by
    rw [BitVec.toNat_ushiftRight, Nat.shiftRight_eq_div_pow, Nat.pow_succ, Nat.div_div_eq_div_mul]
  have h2 : (x >>> m).toNat = x.toNat / 2 ^ m := by rw [BitVec.toNat_ushiftRight, Nat.shiftRight_eq_div_pow]
  have h3 : x.toNat / 2 ^ m < 4294967296 := Nat.lt_of_le_of_lt (Nat.div_le_self _ _) x.isLt
  rw [h1, h2, hb]
  generalize x.toNat / 2 ^ m = q at *
  by_cases hq : q % 2 = 1
  · simp [hq]; omega
  · simp [hq]; omega

end Go.Proofs.Ytikganlbnhapcaa
