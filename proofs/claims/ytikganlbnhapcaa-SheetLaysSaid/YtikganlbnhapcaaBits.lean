import Derived.WalkKit
import Derived.Laws.BitsLemmas
import Derived.RowKit
namespace Go.Proofs.Ytikganlbnhapcaa
open Go.RowKit
set_option linter.unusedVariables false
set_option linter.unusedSimpArgs false

/-! words of a fixed width as the walk sees them: opaque whole numbers -/
def n8 (x : BitVec 8) : Int := (x.toNat : Int)
def n16 (x : BitVec 16) : Int := (x.toNat : Int)
def n32 (x : BitVec 32) : Int := (x.toNat : Int)
def n64 (x : BitVec 64) : Int := (x.toNat : Int)
theorem n8_lo (x : BitVec 8) : 0 ≤ n8 x := by unfold n8; omega
theorem n8_hi (x : BitVec 8) : n8 x < 256 := by have := x.isLt; unfold n8; omega
theorem n16_lo (x : BitVec 16) : 0 ≤ n16 x := by unfold n16; omega
theorem n16_hi (x : BitVec 16) : n16 x < 65536 := by have := x.isLt; unfold n16; omega
theorem n32_lo (x : BitVec 32) : 0 ≤ n32 x := by unfold n32; omega
theorem n32_hi (x : BitVec 32) : n32 x < 4294967296 := by have := x.isLt; unfold n32; omega
theorem n64_lo (x : BitVec 64) : 0 ≤ n64 x := by unfold n64; omega
theorem n64_hi (x : BitVec 64) : n64 x < 18446744073709551616 := by have := x.isLt; unfold n64; omega
theorem n8_inj {x y : BitVec 8} : n8 x = n8 y ↔ x = y := by
  unfold n8; constructor
  · intro h; exact BitVec.eq_of_toNat_eq (by omega)
  · rintro rfl; rfl
theorem n32_inj {x y : BitVec 32} : n32 x = n32 y ↔ x = y := by
  unfold n32; constructor
  · intro h; exact BitVec.eq_of_toNat_eq (by omega)
  · rintro rfl; rfl
theorem n64_inj {x y : BitVec 64} : n64 x = n64 y ↔ x = y := by
  unfold n64; constructor
  · intro h; exact BitVec.eq_of_toNat_eq (by omega)
  · rintro rfl; rfl

theorem wrap_toNat (k : IntKind) (hs : k.signed = false) (x : BitVec k.bits) : k.wrap (x.toNat : Int) = (x.toNat : Int) := by
  have h := x.isLt
  have e : ((2 : Int) ^ k.bits) = ((2 ^ k.bits : Nat) : Int) := by simp
  simp only [IntKind.wrap, hs, Bool.false_and]
  rw [e, ← Int.natCast_emod, Nat.mod_eq_of_lt h]; simp

theorem ofInt_toNat {n : Nat} (x : BitVec n) : BitVec.ofInt n (x.toNat : Int) = x := by
  rw [BitVec.ofInt_natCast, BitVec.ofNat_toNat, BitVec.setWidth_eq]

theorem bxor8 (x y : BitVec 8) : Go.bits .xor .u8 (n8 x) (n8 y) = n8 (x ^^^ y) := by
  have e : Go.bits .xor .u8 (n8 x) (n8 y) = IntKind.u8.wrap (((BitVec.ofInt 8 (x.toNat : Int)) ^^^ (BitVec.ofInt 8 (y.toNat : Int))).toNat : Int) := rfl
  rw [e, ofInt_toNat, ofInt_toNat]; exact wrap_toNat .u8 rfl (x ^^^ y)
theorem bor8 (x y : BitVec 8) : Go.bits .or .u8 (n8 x) (n8 y) = n8 (x ||| y) := by
  have e : Go.bits .or .u8 (n8 x) (n8 y) = IntKind.u8.wrap (((BitVec.ofInt 8 (x.toNat : Int)) ||| (BitVec.ofInt 8 (y.toNat : Int))).toNat : Int) := rfl
  rw [e, ofInt_toNat, ofInt_toNat]; exact wrap_toNat .u8 rfl (x ||| y)
theorem band8 (x y : BitVec 8) : Go.bits .and .u8 (n8 x) (n8 y) = n8 (x &&& y) := by
  have e : Go.bits .and .u8 (n8 x) (n8 y) = IntKind.u8.wrap (((BitVec.ofInt 8 (x.toNat : Int)) &&& (BitVec.ofInt 8 (y.toNat : Int))).toNat : Int) := rfl
  rw [e, ofInt_toNat, ofInt_toNat]; exact wrap_toNat .u8 rfl (x &&& y)
theorem pow2_8 (j : Nat) (h : j < 8) : (2 : Int) ^ j % 256 = n8 (1#8 <<< j) := by
  have : j = 0 ∨ j = 1 ∨ j = 2 ∨ j = 3 ∨ j = 4 ∨ j = 5 ∨ j = 6 ∨ j = 7 := by omega
  rcases this with rfl | rfl | rfl | rfl | rfl | rfl | rfl | rfl <;> rfl
theorem bxor32 (x y : BitVec 32) : Go.bits .xor .u32 (n32 x) (n32 y) = n32 (x ^^^ y) := by
  have e : Go.bits .xor .u32 (n32 x) (n32 y) = IntKind.u32.wrap (((BitVec.ofInt 32 (x.toNat : Int)) ^^^ (BitVec.ofInt 32 (y.toNat : Int))).toNat : Int) := rfl
  rw [e, ofInt_toNat, ofInt_toNat]; exact wrap_toNat .u32 rfl (x ^^^ y)
theorem bor32 (x y : BitVec 32) : Go.bits .or .u32 (n32 x) (n32 y) = n32 (x ||| y) := by
  have e : Go.bits .or .u32 (n32 x) (n32 y) = IntKind.u32.wrap (((BitVec.ofInt 32 (x.toNat : Int)) ||| (BitVec.ofInt 32 (y.toNat : Int))).toNat : Int) := rfl
  rw [e, ofInt_toNat, ofInt_toNat]; exact wrap_toNat .u32 rfl (x ||| y)
theorem band32 (x y : BitVec 32) : Go.bits .and .u32 (n32 x) (n32 y) = n32 (x &&& y) := by
  have e : Go.bits .and .u32 (n32 x) (n32 y) = IntKind.u32.wrap (((BitVec.ofInt 32 (x.toNat : Int)) &&& (BitVec.ofInt 32 (y.toNat : Int))).toNat : Int) := rfl
  rw [e, ofInt_toNat, ofInt_toNat]; exact wrap_toNat .u32 rfl (x &&& y)
theorem conv8_32 (c : BitVec 8) : n8 c % 4294967296 = n32 (c.setWidth 32) := by
  have := c.isLt
  unfold n8 n32; simp
theorem sig32 : IntKind.u32.signed = false := rfl
theorem bnot32 (x : BitVec 32) : Go.bits .xor .u32 IntKind.u32.max (n32 x) = n32 (~~~ x) := by
  have e : IntKind.u32.max = n32 (BitVec.allOnes 32) := by decide
  rw [e, bxor32, BitVec.allOnes_xor]
theorem bdiv2_32 (x : BitVec 32) : (n32 x / (2 : Int)) = n32 (x >>> 1) := by
  unfold n32
  rw [BitVec.toNat_ushiftRight, Nat.shiftRight_eq_div_pow]; simp
theorem band32_1 (x : BitVec 32) : Go.bits .and .u32 (n32 x) 1 = n32 (x &&& 1#32) := band32 x 1#32
theorem bmul32_poly (x : BitVec 32) : (n32 x * 3988292384 % 4294967296) = n32 (x * 0xEDB88320#32) := by
  unfold n32
  rw [BitVec.toNat_mul]; simp

end Go.Proofs.Ytikganlbnhapcaa
