import Derived.Test.YtjfeggkjkdbkiaaBoxRf
namespace Go.Proofs.Ytjfeggkjkdbkiaa
open Go.RowKit
set_option linter.unusedVariables false

def pTab : List Nat := [1, 3, 5, 15, 17, 51, 85, 255, 26, 46, 114, 150, 161, 248, 19, 53, 95, 225, 56, 72, 216, 115, 149, 164, 247, 2, 6, 10, 30, 34, 102, 170, 229, 52, 92, 228, 55, 89, 235, 38, 106, 190, 217, 112, 144, 171, 230, 49, 83, 245, 4, 12, 20, 60, 68, 204, 79, 209, 104, 184, 211, 110, 178, 205, 76, 212, 103, 169, 224, 59, 77, 215, 98, 166, 241, 8, 24, 40, 120, 136, 131, 158, 185, 208, 107, 189, 220, 127, 129, 152, 179, 206, 73, 219, 118, 154, 181, 196, 87, 249, 16, 48, 80, 240, 11, 29, 39, 105, 187, 214, 97, 163, 254, 25, 43, 125, 135, 146, 173, 236, 47, 113, 147, 174, 233, 32, 96, 160, 251, 22, 58, 78, 210, 109, 183, 194, 93, 231, 50, 86, 250, 21, 63, 65, 195, 94, 226, 61, 71, 201, 64, 192, 91, 237, 44, 116, 156, 191, 218, 117, 159, 186, 213, 100, 172, 239, 42, 126, 130, 157, 188, 223, 122, 142, 137, 128, 155, 182, 193, 88, 232, 35, 101, 175, 234, 37, 111, 177, 200, 67, 197, 84, 252, 31, 33, 99, 165, 244, 7, 9, 27, 45, 119, 153, 176, 203, 70, 202, 69, 207, 74, 222, 121, 139, 134, 145, 168, 227, 62, 66, 198, 81, 243, 14, 18, 54, 90, 238, 41, 123, 141, 140, 143, 138, 133, 148, 167, 242, 13, 23, 57, 75, 221, 124, 132, 151, 162, 253, 28, 36, 108, 180, 199, 82, 246]
def lTab : List Nat := [255, 0, 25, 1, 50, 2, 26, 198, 75, 199, 27, 104, 51, 238, 223, 3, 100, 4, 224, 14, 52, 141, 129, 239, 76, 113, 8, 200, 248, 105, 28, 193, 125, 194, 29, 181, 249, 185, 39, 106, 77, 228, 166, 114, 154, 201, 9, 120, 101, 47, 138, 5, 33, 15, 225, 36, 18, 240, 130, 69, 53, 147, 218, 142, 150, 143, 219, 189, 54, 208, 206, 148, 19, 92, 210, 241, 64, 70, 131, 56, 102, 221, 253, 48, 191, 6, 139, 98, 179, 37, 226, 152, 34, 136, 145, 16, 126, 110, 72, 195, 163, 182, 30, 66, 58, 107, 40, 84, 250, 133, 61, 186, 43, 121, 10, 21, 155, 159, 94, 202, 78, 212, 172, 229, 243, 115, 167, 87, 175, 88, 168, 80, 244, 234, 214, 116, 79, 174, 233, 213, 231, 230, 173, 232, 44, 215, 117, 122, 235, 22, 11, 245, 89, 203, 95, 176, 156, 169, 81, 160, 127, 12, 246, 111, 23, 196, 73, 236, 216, 67, 31, 45, 164, 118, 123, 183, 204, 187, 62, 90, 251, 96, 177, 134, 59, 82, 161, 108, 170, 85, 41, 157, 151, 178, 135, 144, 97, 190, 220, 252, 188, 149, 207, 205, 55, 63, 91, 209, 83, 57, 132, 60, 65, 162, 109, 71, 20, 42, 158, 93, 86, 242, 211, 171, 68, 17, 146, 217, 35, 32, 46, 137, 180, 124, 184, 38, 119, 153, 227, 165, 103, 74, 237, 222, 197, 49, 254, 24, 13, 99, 140, 128, 192, 247, 112, 7]
def pw (i : Nat) : BitVec 8 := BitVec.ofNat 8 (pTab.getD i 0)
def lg (a : BitVec 8) : Nat := lTab.getD a.toNat 0
theorem pw_zero : pw 0 = 1#8 := by decide +kernel
theorem pw_succ : ∀ i : Fin 254, gmul (pw i.val) 3#8 = pw (i.val + 1) := by decide +kernel
theorem pw_inv : ∀ i : Fin 255, pw ((255 - i.val) % 255) = ginv (pw i.val) := by decide +kernel
theorem lg_pw : ∀ i : Fin 255, lg (pw i.val) = i.val := by decide +kernel
theorem pw_lg : ∀ a : BitVec 8, a ≠ 0#8 → pw (lg a) = a := by decide +kernel
theorem lg_lt : ∀ a : BitVec 8, a ≠ 0#8 → lg a < 255 := by decide +kernel
theorem ginv_zero : ginv 0#8 = 0#8 := by decide +kernel

def bitX (c : BitVec 8) (i : Nat) : Nat → Bool
  | 0 => c.getLsbD i
  | m + 1 => bitX c i m ^^ c.getLsbD ((i + (m + 4)) % 8)
def sAcc (c : BitVec 8) : Nat → Nat
  | 0 => 0
  | i + 1 => sAcc c i + (if bitX c i 4 then 2 ^ i else 0)
theorem sAcc_is : ∀ c : BitVec 8, sAcc c 8 = (sboxOf c ^^^ 99#8).toNat := by decide +kernel
theorem sAcc_lt (c : BitVec 8) (i : Nat) : sAcc c i < 2 ^ i := by
  induction i with
  | zero => simp [sAcc]
  | succ i ih => rw [sAcc, Nat.pow_succ]; split <;> omega

def ob (b : Bool) : Int := if b then 1 else 0
theorem ob_xor (a b : Bool) : Go.bits .xor .i64 (ob a) (ob b) = ob (a ^^ b) := by cases a <;> cases b <;> rfl
theorem ob_lo (b : Bool) : 0 ≤ ob b := by cases b <;> decide
theorem ob_hi (b : Bool) : ob b ≤ 1 := by cases b <;> decide
theorem zand16 (x : BitVec 16) (i : Nat) : Go.bits .and .i64 (z16 x / (2 : Int) ^ i) 1 = ob (x.getLsbD i) := by
  have e1 : z16 x / (2 : Int) ^ i = z16 (x >>> i) := by
    unfold z16; rw [BitVec.toNat_ushiftRight, Nat.shiftRight_eq_div_pow]; simp
  rw [e1]
  have e : Go.bits .and .i64 (z16 (x >>> i)) 1 = IntKind.i64.wrap (((BitVec.ofInt 64 ((x >>> i).toNat : Int)) &&& (BitVec.ofInt 64 1)).toNat : Int) := rfl
  have hx := (x >>> i).isLt
  have h1 : (BitVec.ofInt 64 ((x >>> i).toNat : Int)).toNat = (x >>> i).toNat := by rw [BitVec.ofInt_natCast, BitVec.toNat_ofNat]; omega
  have h2 : (BitVec.ofInt 64 1).toNat = 1 := rfl
  have hb : x.getLsbD i = decide ((x >>> i).toNat % 2 = 1) := by
    rw [BitVec.getLsbD, Nat.testBit_eq_decide_div_mod_eq, BitVec.toNat_ushiftRight, Nat.shiftRight_eq_div_pow]
  rw [e, BitVec.toNat_and, h1, h2, Nat.and_one_is_mod, hb, IntKind.wrap_i64]
  generalize (x >>> i).toNat = q at *
  by_cases h : q % 2 = 1
  · rw [decide_eq_true h, h]; rfl
  · have h' : q % 2 = 0 := by omega
    rw [decide_eq_false h, h']; rfl
theorem zand (x : BitVec 8) (i : Nat) : Go.bits .and .i64 (n8 x / (2 : Int) ^ i) 1 = ob (x.getLsbD i) := by
  have : n8 x = z16 (x.setWidth 16) := by have := x.isLt; unfold n8 z16; simp; omega
  rw [this, zand16, BitVec.getLsbD_setWidth]
  by_cases h : i < 16
  · simp [h]
  · rw [BitVec.getLsbD_of_ge x i (by omega)]; simp
theorem zxor99 (x : BitVec 8) : Go.bits .xor .i64 (n8 x) 99 = n8 (x ^^^ 99#8) := by
  have e0 : ∀ y : BitVec 8, n8 y = z16 (y.setWidth 16) := fun y => by have := y.isLt; unfold n8 z16; simp; omega
  have h := zxor (x.setWidth 16) 99#16
  rw [e0, show (99 : Int) = z16 99#16 from rfl, h, e0]
  congr 1
theorem list_A8 (f : Nat → BitVec 8) (n : Nat) : A8 n f = (B8 ((List.range n).map f)).toArray := by simp [A8, B8]
theorem zero_A8 (n : Nat) : (B8 (List.replicate n 0#8)).toArray = A8 n fun _ => 0#8 := by
  rw [list_A8]; congr 2; simp [List.map_const']

end Go.Proofs.Ytjfeggkjkdbkiaa
