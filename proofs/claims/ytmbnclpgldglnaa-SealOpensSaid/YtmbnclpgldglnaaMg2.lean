import Derived.Test.YtmbnclpgldglnaaProg
import Derived.Test.YtmbnclpgldglnaaMg1
import Derived.Below
import Derived.Deep.Draws
import Derived.OwnWalk
import Derived.Tactics
import Derived.WalkKit
import Derived.KernelRfl
import Derived.RowKit3
import Derived.Deep.LoopGhost
import Derived.Deep.QuietTactic
import Derived.BigQuiet
import Derived.WideLaws
import Derived.Deep.DeepCutAuto
import Derived.Deep.CutBlock
import Derived.StillTactics
import Derived.Laws.Rows
import Derived.Outline
import Derived.Lib.Hide
import Derived.Test.YtmbnclpgldglnaaAvHand
import Derived.RegionTactic
import Derived.ChangeAlike
section
namespace Go.Proofs.Ytmbnclpgldglnaa
set_option linter.unusedVariables false

/-! the field of 256 elements -/
def xtime (a : BitVec 8) : BitVec 8 := (a <<< 1) ^^^ ((a >>> 7) * 27#8)
def gmulAux : Nat → BitVec 8 → BitVec 8 → BitVec 8 → BitVec 8
  | 0, out, _, _ => out
  | n + 1, out, a, b => gmulAux n (if b.getLsbD 0 then out ^^^ a else out) (xtime a) (b >>> 1)
def gmul (a b : BitVec 8) : BitVec 8 := gmulAux 8 0#8 a b

theorem xtime_eq : ∀ a : BitVec 8, xtime a = (a <<< 1) ^^^ (if a.getLsbD 7 then 27#8 else 0#8) := by decide +kernel
theorem x4 (a b c d : BitVec 8) : (a ^^^ b) ^^^ (c ^^^ d) = (a ^^^ c) ^^^ (b ^^^ d) := by ac_rfl
theorem xtime_xor (a b : BitVec 8) : xtime (a ^^^ b) = xtime a ^^^ xtime b := by
  rw [xtime_eq, xtime_eq, xtime_eq, BitVec.getLsbD_xor, BitVec.shiftLeft_xor_distrib, x4]
  congr 1
  cases a.getLsbD 7 <;> cases b.getLsbD 7 <;> decide
theorem gmulAux_xor_right (n : Nat) (o p a b c : BitVec 8) : gmulAux n (o ^^^ p) a (b ^^^ c) = gmulAux n o a b ^^^ gmulAux n p a c := by
  induction n generalizing o p a b c with
  | zero => rfl
  | succ n ih =>
    simp only [gmulAux]
    rw [BitVec.ushiftRight_xor_distrib, ← ih, BitVec.getLsbD_xor]
    congr 1
    cases b.getLsbD 0 <;> cases c.getLsbD 0 <;> simp
    · ac_rfl
    · ac_rfl
    · rw [x4, BitVec.xor_self, BitVec.xor_zero]
theorem gmul_xor_right (a b c : BitVec 8) : gmul a (b ^^^ c) = gmul a b ^^^ gmul a c := gmulAux_xor_right 8 0#8 0#8 a b c
theorem gmulAux_xor_left (n : Nat) (o p a c b : BitVec 8) : gmulAux n (o ^^^ p) (a ^^^ c) b = gmulAux n o a b ^^^ gmulAux n p c b := by
  induction n generalizing o p a b c with
  | zero => rfl
  | succ n ih =>
    simp only [gmulAux]
    rw [xtime_xor, ← ih]
    congr 1
    cases b.getLsbD 0
    · rfl
    · exact x4 _ _ _ _
theorem gmul_xor_left (a b c : BitVec 8) : gmul (a ^^^ b) c = gmul a c ^^^ gmul b c := gmulAux_xor_left 8 0#8 0#8 a b c
/-- an additive function is known by what it does to eight bytes -/
theorem split8 : ∀ x : BitVec 8, x = (x &&& 1#8) ^^^ (x &&& 2#8) ^^^ (x &&& 4#8) ^^^ (x &&& 8#8) ^^^ (x &&& 16#8) ^^^ (x &&& 32#8) ^^^ (x &&& 64#8) ^^^ (x &&& 128#8) := by decide +kernel
theorem andbit : ∀ x : BitVec 8, ∀ i : Fin 8, x &&& (1#8 <<< i.val) = 0#8 ∨ x &&& (1#8 <<< i.val) = 1#8 <<< i.val := by decide +kernel
theorem additive_zero {f : BitVec 8 → BitVec 8} (hf : ∀ x y, f (x ^^^ y) = f x ^^^ f y) : f 0#8 = 0#8 := by
  have := hf 0#8 0#8
  rw [BitVec.xor_zero] at this
  have h2 := congrArg (f 0#8 ^^^ ·) this
  simp only [BitVec.xor_self] at h2
  rw [BitVec.xor_zero] at h2
  exact h2.symm
theorem additive_ext {f g : BitVec 8 → BitVec 8} (hf : ∀ x y, f (x ^^^ y) = f x ^^^ f y) (hg : ∀ x y, g (x ^^^ y) = g x ^^^ g y)
    (h : ∀ i : Fin 8, f (1#8 <<< i.val) = g (1#8 <<< i.val)) (x : BitVec 8) : f x = g x := by
  have f0 := additive_zero hf
  have g0 := additive_zero hg
  have hb : ∀ i : Fin 8, f (x &&& (1#8 <<< i.val)) = g (x &&& (1#8 <<< i.val)) := fun i => by
    rcases andbit x i with e | e <;> rw [e]
    · rw [f0, g0]
    · exact h i
  rw [split8 x]
  simp only [hf, hg]
  have e0 := hb 0; have e1 := hb 1; have e2 := hb 2; have e3 := hb 3; have e4 := hb 4; have e5 := hb 5; have e6 := hb 6; have e7 := hb 7
  have k0 : (1#8 <<< (0 : Fin 8).val) = 1#8 := by decide
  have k1 : (1#8 <<< (1 : Fin 8).val) = 2#8 := by decide
  have k2 : (1#8 <<< (2 : Fin 8).val) = 4#8 := by decide
  have k3 : (1#8 <<< (3 : Fin 8).val) = 8#8 := by decide
  have k4 : (1#8 <<< (4 : Fin 8).val) = 16#8 := by decide
  have k5 : (1#8 <<< (5 : Fin 8).val) = 32#8 := by decide
  have k6 : (1#8 <<< (6 : Fin 8).val) = 64#8 := by decide
  have k7 : (1#8 <<< (7 : Fin 8).val) = 128#8 := by decide
  rw [k0] at e0; rw [k1] at e1; rw [k2] at e2; rw [k3] at e3; rw [k4] at e4; rw [k5] at e5; rw [k6] at e6; rw [k7] at e7
  rw [e0, e1, e2, e3, e4, e5, e6, e7]

theorem gmul_basis : ∀ i : Fin 8, ∀ j : Fin 8, gmul (1#8 <<< i.val) (1#8 <<< j.val) = gmul (1#8 <<< j.val) (1#8 <<< i.val) := by decide +kernel
theorem gmul_comm (a b : BitVec 8) : gmul a b = gmul b a := by
  refine additive_ext (f := fun a => gmul a b) (g := fun a => gmul b a) (fun x y => gmul_xor_left x y b) (fun x y => gmul_xor_right b x y) (fun i => ?_) a
  exact additive_ext (f := fun b => gmul (1#8 <<< i.val) b) (g := fun b => gmul b (1#8 <<< i.val)) (fun x y => gmul_xor_right _ x y) (fun x y => gmul_xor_left x y _) (fun j => gmul_basis i j) b
/-! the inverse and the tables -/
def ginvAux : Nat → BitVec 8 → BitVec 8 → BitVec 8
  | 0, out, _ => out
  | n + 1, out, a => ginvAux n (gmul out (gmul a a)) (gmul a a)
def ginv (a : BitVec 8) : BitVec 8 := ginvAux 7 1#8 a
def rotl8 (c : BitVec 8) (n : Nat) : BitVec 8 := (c <<< n) ||| (c >>> (8 - n))
def sboxOf (c : BitVec 8) : BitVec 8 := c ^^^ 99#8 ^^^ rotl8 c 1 ^^^ rotl8 c 2 ^^^ rotl8 c 3 ^^^ rotl8 c 4
def sTab : List Nat := [99, 124, 119, 123, 242, 107, 111, 197, 48, 1, 103, 43, 254, 215, 171, 118, 202, 130, 201, 125, 250, 89, 71, 240, 173, 212, 162, 175, 156, 164, 114, 192, 183, 253, 147, 38, 54, 63, 247, 204, 52, 165, 229, 241, 113, 216, 49, 21, 4, 199, 35, 195, 24, 150, 5, 154, 7, 18, 128, 226, 235, 39, 178, 117, 9, 131, 44, 26, 27, 110, 90, 160, 82, 59, 214, 179, 41, 227, 47, 132, 83, 209, 0, 237, 32, 252, 177, 91, 106, 203, 190, 57, 74, 76, 88, 207, 208, 239, 170, 251, 67, 77, 51, 133, 69, 249, 2, 127, 80, 60, 159, 168, 81, 163, 64, 143, 146, 157, 56, 245, 188, 182, 218, 33, 16, 255, 243, 210, 205, 12, 19, 236, 95, 151, 68, 23, 196, 167, 126, 61, 100, 93, 25, 115, 96, 129, 79, 220, 34, 42, 144, 136, 70, 238, 184, 20, 222, 94, 11, 219, 224, 50, 58, 10, 73, 6, 36, 92, 194, 211, 172, 98, 145, 149, 228, 121, 231, 200, 55, 109, 141, 213, 78, 169, 108, 86, 244, 234, 101, 122, 174, 8, 186, 120, 37, 46, 28, 166, 180, 198, 232, 221, 116, 31, 75, 189, 139, 138, 112, 62, 181, 102, 72, 3, 246, 14, 97, 53, 87, 185, 134, 193, 29, 158, 225, 248, 152, 17, 105, 217, 142, 148, 155, 30, 135, 233, 206, 85, 40, 223, 140, 161, 137, 13, 191, 230, 66, 104, 65, 153, 45, 15, 176, 84, 187, 22]
def iTab : List Nat := [82, 9, 106, 213, 48, 54, 165, 56, 191, 64, 163, 158, 129, 243, 215, 251, 124, 227, 57, 130, 155, 47, 255, 135, 52, 142, 67, 68, 196, 222, 233, 203, 84, 123, 148, 50, 166, 194, 35, 61, 238, 76, 149, 11, 66, 250, 195, 78, 8, 46, 161, 102, 40, 217, 36, 178, 118, 91, 162, 73, 109, 139, 209, 37, 114, 248, 246, 100, 134, 104, 152, 22, 212, 164, 92, 204, 93, 101, 182, 146, 108, 112, 72, 80, 253, 237, 185, 218, 94, 21, 70, 87, 167, 141, 157, 132, 144, 216, 171, 0, 140, 188, 211, 10, 247, 228, 88, 5, 184, 179, 69, 6, 208, 44, 30, 143, 202, 63, 15, 2, 193, 175, 189, 3, 1, 19, 138, 107, 58, 145, 17, 65, 79, 103, 220, 234, 151, 242, 207, 206, 240, 180, 230, 115, 150, 172, 116, 34, 231, 173, 53, 133, 226, 249, 55, 232, 28, 117, 223, 110, 71, 241, 26, 113, 29, 41, 197, 137, 111, 183, 98, 14, 170, 24, 190, 27, 252, 86, 62, 75, 198, 210, 121, 32, 154, 219, 192, 254, 120, 205, 90, 244, 31, 221, 168, 51, 136, 7, 199, 49, 177, 18, 16, 89, 39, 128, 236, 95, 96, 81, 127, 169, 25, 181, 74, 13, 45, 229, 122, 159, 147, 201, 156, 239, 160, 224, 59, 77, 174, 42, 245, 176, 200, 235, 187, 60, 131, 83, 153, 97, 23, 43, 4, 126, 186, 119, 214, 38, 225, 105, 20, 99, 85, 33, 12, 125]
def sbox (a : BitVec 8) : BitVec 8 := BitVec.ofNat 8 (sTab.getD a.toNat 0)
def ibox (a : BitVec 8) : BitVec 8 := BitVec.ofNat 8 (iTab.getD a.toNat 0)
theorem sbox_is : ∀ a : BitVec 8, sboxOf (ginv a) = sbox a := by decide +kernel
theorem ibox_sbox : ∀ a : BitVec 8, ibox (sbox a) = a := by decide +kernel
theorem sbox_ibox : ∀ a : BitVec 8, sbox (ibox a) = a := by decide +kernel
/-! the reference's product -/
def rprodAux (a b : BitVec 8) : Nat → BitVec 16
  | 0 => 0#16
  | i + 1 => if b.getLsbD i then rprodAux a b i ^^^ (a.setWidth 16 <<< i) else rprodAux a b i
def rredAux : Nat → BitVec 16 → BitVec 16
  | 0, n => n
  | i + 1, n => rredAux i (if n.getLsbD (i + 8) then n ^^^ (283#16 <<< i) else n)
def rmul (a b : BitVec 8) : BitVec 8 := (rredAux 7 (rprodAux a b 8)).setWidth 8
theorem x4_16 (a b c d : BitVec 16) : (a ^^^ b) ^^^ (c ^^^ d) = (a ^^^ c) ^^^ (b ^^^ d) := by ac_rfl
theorem rprodAux_xor (a b c : BitVec 8) (i : Nat) : rprodAux a (b ^^^ c) i = rprodAux a b i ^^^ rprodAux a c i := by
  induction i with
  | zero => simp [rprodAux]
  | succ i ih =>
    simp only [rprodAux]
    rw [BitVec.getLsbD_xor, ih]
    cases b.getLsbD i <;> cases c.getLsbD i <;> simp
    · ac_rfl
    · ac_rfl
    · rw [x4_16, BitVec.xor_self, BitVec.xor_zero]
theorem rredAux_xor (i : Nat) (m n : BitVec 16) : rredAux i (m ^^^ n) = rredAux i m ^^^ rredAux i n := by
  induction i generalizing m n with
  | zero => rfl
  | succ i ih =>
    simp only [rredAux]
    rw [← ih, BitVec.getLsbD_xor]
    congr 1
    cases m.getLsbD (i + 8) <;> cases n.getLsbD (i + 8) <;> simp
    · ac_rfl
    · ac_rfl
    · rw [x4_16, BitVec.xor_self, BitVec.xor_zero]
theorem rmul_xor (a b c : BitVec 8) : rmul a (b ^^^ c) = rmul a b ^^^ rmul a c := by
  unfold rmul
  rw [rprodAux_xor, rredAux_xor]
  apply BitVec.eq_of_getLsbD_eq
  intro i hi
  simp
theorem rmul_basis : ∀ a : BitVec 8, ∀ i : Fin 8, rmul a (1#8 <<< i.val) = gmul a (1#8 <<< i.val) := by decide +kernel
theorem rmul_eq (a b : BitVec 8) : rmul a b = gmul a b :=
  additive_ext (f := rmul a) (g := gmul a) (rmul_xor a) (gmul_xor_right a) (rmul_basis a) b

end Go.Proofs.Ytmbnclpgldglnaa
end
section
namespace Go.Proofs.Ytmbnclpgldglnaa
open Go.RowKit
set_option linter.unusedVariables false
set_option linter.unusedSimpArgs false


theorem band8_1 (x : BitVec 8) : Go.bits .and .u8 (n8 x) 1 = n8 (x &&& 1#8) := band8 x 1#8
theorem bit0_8 (x : BitVec 8) : (n8 (x &&& 1#8) == 1) = x.getLsbD 0 := by
  rw [BitVec.and_one_eq_setWidth_ofBool_getLsbD]
  cases x.getLsbD 0 <;> rfl
theorem bdiv2_8 (x : BitVec 8) : (n8 x / (2 : Int)) = n8 (x >>> 1) := by
  unfold n8; rw [BitVec.toNat_ushiftRight, Nat.shiftRight_eq_div_pow]; simp
theorem xtime_n (a : BitVec 8) : Go.bits .xor .u8 (n8 a * 2 % 256) (n8 a / 128 * 27 % 256) = n8 (xtime a) := by
  have h1 : n8 a * (2 : Int) % (256 : Int) = n8 (a <<< 1) := by
    unfold n8; rw [BitVec.toNat_shiftLeft, Nat.shiftLeft_eq]; simp
  have h2 : n8 a / (128 : Int) * (27 : Int) % (256 : Int) = n8 ((a >>> 7) * 27#8) := by
    unfold n8; rw [BitVec.toNat_mul, BitVec.toNat_ushiftRight, Nat.shiftRight_eq_div_pow]; simp
  rw [h1, h2, bxor8]; rfl
theorem gmulAux_b0 (n : Nat) (o a : BitVec 8) : gmulAux n o a 0#8 = o := by
  induction n generalizing o a with
  | zero => rfl
  | succ n ih => simp only [gmulAux]; simpa using ih o (xtime a)
theorem rotl8_n (a : BitVec 8) (n : Nat) (hn : n < 8) : Go.bits .or .u8 (n8 a * (2 : Int) ^ n % (256 : Int)) (n8 a / (2 : Int) ^ (8 - n)) = n8 (rotl8 a n) := by
  have h1 : n8 a * (2 : Int) ^ n % (256 : Int) = n8 (a <<< n) := by
    unfold n8; rw [BitVec.toNat_shiftLeft, Nat.shiftLeft_eq]; simp
  have h2 : n8 a / (2 : Int) ^ (8 - n) = n8 (a >>> (8 - n)) := by
    unfold n8; rw [BitVec.toNat_ushiftRight, Nat.shiftRight_eq_div_pow]; simp
  rw [h1, h2, bor8]; rfl
attribute [local go_sem] bxor8 band8_1 bit0_8

set_option maxHeartbeats 400000 in
theorem mul_calls (a b : BitVec 8) (w : World) :
    Calls Try.prog 105 #[.int .u8 (n8 a), .int .u8 (n8 b)] w fun e w' => e = .returned (.int .u8 (n8 (gmul a b))) ∧ w = w' := by
  go_enter Try.func105, Try.ntmps105
  go_wp2
  go_loop [0, 1, 5] (fun u v o => ∃ (k : Nat) (x y q : BitVec 8), k ≤ 8 ∧ y.toNat < 2 ^ k ∧ u = .int .u8 (n8 x) ∧ v = .int .u8 (n8 y) ∧ o = .int .u8 (n8 q) ∧ gmulAux k q x y = gmul a b) (fun _ v _ => (intOf v).toNat)
  case atStart => exact ⟨8, a, b, 0#8, by omega, b.isLt, rfl, rfl, rfl, rfl⟩
  case round =>
    obtain ⟨k, x, y, q, hk, hy, rfl, rfl, rfl, hr⟩ := hrel
    have Hr := Lib.hid hr
    clear hr
    by_cases h0 : y = 0#8
    · subst h0
      have e : n8 0#8 = 0 := rfl
      rw [e]
      go_wp2
      go_ret
      exact ⟨by rw [← Hr.out, gmulAux_b0]; rfl, rfl⟩
    · have hpos : 0 < n8 y := by
        have := n8_lo y
        have h2 : n8 y ≠ 0 := fun h => h0 (n8_inj.1 (h.trans (show (0 : Int) = n8 0#8 from rfl)))
        omega
      obtain ⟨k, rfl⟩ : ∃ m, k = m + 1 := ⟨k - 1, by
        cases k with
        | zero => exfalso; apply h0; apply BitVec.eq_of_toNat_eq; simp at hy; simpa using hy
        | succ k => simp⟩
      have hh : (y >>> 1).toNat < 2 ^ k := by
        rw [BitVec.toNat_ushiftRight, Nat.shiftRight_eq_div_pow]; simp at hy ⊢; omega
      have Hh := Lib.hid hh
      have Hk := Lib.hid hk
      have h0' : Hid (0 < n8 y) := Lib.hid hpos
      clear hh hk hy h0
      cases hb : y.getLsbD 0
      all_goals
        have hbb := bit0_8 y
        rw [hb] at hbb
        have Hb := Lib.hid hb
        clear hb
        go_wp2
        go_round
        case rel =>
          rw [xtime_n, bdiv2_8]
          refine ⟨k, xtime x, y >>> 1, _, by have := Hk.out; omega, Hh.out, rfl, rfl, rfl, ?_⟩
          rw [← Hr.out, gmulAux, Hb.out]; rfl
        case measure => have := h0'.out; simp only [intOf]; omega

set_option maxHeartbeats 400000 in
theorem inv_calls (a : BitVec 8) (w : World) :
    Calls Try.prog 103 #[.int .u8 (n8 a)] w fun e w' => e = .returned (.int .u8 (n8 (ginv a))) ∧ w = w' := by
  go_enter Try.func103, Try.ntmps103
  go_wp2
  go_loop [0, 3, 4] (fun u o i => ∃ (k : Nat) (x q : BitVec 8), k ≤ 7 ∧ i = .int .i64 k ∧ u = .int .u8 (n8 x) ∧ o = .int .u8 (n8 q) ∧ ginvAux (7 - k) q x = ginv a) (fun _ _ i => 7 - (intOf i).toNat)
  case atStart => exact ⟨0, a, 1#8, by omega, rfl, rfl, rfl, rfl⟩
  case round =>
    obtain ⟨k, x, q, hk, rfl, rfl, rfl, hr⟩ := hrel
    have Hr := Lib.hid hr
    clear hr
    by_cases hlt : k < 7
    · go_wp2_with fail
      refine (mul_calls _ _ _).mono ?_
      rintro e w' ⟨rfl, rfl⟩
      go_wp2_with fail
      refine (mul_calls _ _ _).mono ?_
      rintro e w' ⟨rfl, rfl⟩
      go_wp2
      go_round
      case rel =>
        refine ⟨k + 1, _, _, by omega, by go_num, rfl, rfl, ?_⟩
        rw [← Hr.out, show 7 - k = (7 - (k + 1)) + 1 by omega, ginvAux]
      case measure => simp only [intOf]; omega
    · have em : Hid (k = 7) := Lib.hid (by omega)
      go_wp2
      go_ret
      refine ⟨?_, rfl⟩
      rw [← Hr.out, em.out]; rfl

set_option maxHeartbeats 400000 in
theorem rot_calls (a : BitVec 8) (n : Nat) (hn : n < 8) (w : World) :
    Calls Try.prog 104 #[.int .u8 (n8 a), .int .i64 (n : Int)] w fun e w' => e = .returned (.int .u8 (n8 (rotl8 a n))) ∧ w = w' := by
  have h7 : Go.bits .and .u64 (n : Int) 7 = n := by
    have : n = 0 ∨ n = 1 ∨ n = 2 ∨ n = 3 ∨ n = 4 ∨ n = 5 ∨ n = 6 ∨ n = 7 := by omega
    rcases this with rfl | rfl | rfl | rfl | rfl | rfl | rfl | rfl <;> rfl
  go_enter Try.func104, Try.ntmps104
  go_wp2
  go_ret
  exact ⟨by rw [← rotl8_n a n hn]; rfl, rfl⟩

theorem inv_calls_v (a : BitVec 8) (v : Int) (hv : v = n8 a) (w : World) :
    Calls Try.prog 103 #[.int .u8 v] w fun e w' => e = .returned (.int .u8 (n8 (ginv a))) ∧ w = w' := by
  subst hv; exact inv_calls a w
theorem rot_calls_v (a : BitVec 8) (n : Nat) (v : Int) (hv : v = (n : Int)) (hn : n < 8) (w : World) :
    Calls Try.prog 104 #[.int .u8 (n8 a), .int .i64 v] w fun e w' => e = .returned (.int .u8 (n8 (rotl8 a n))) ∧ w = w' := by
  subst hv; exact rot_calls a n hn w
def sPart (c : BitVec 8) : Nat → BitVec 8
  | 0 => c ^^^ 99#8
  | n + 1 => sPart c n ^^^ rotl8 c (n + 1)
theorem bxor99 (c : BitVec 8) : Go.bits .xor .u8 (n8 c) 99 = n8 (c ^^^ 99#8) := bxor8 c 99#8

def A8 (n : Nat) (f : Nat → BitVec 8) : Array Value := ((List.range n).map fun i => Value.int .u8 (n8 (f i))).toArray
theorem A8_size (n : Nat) (f : Nat → BitVec 8) : (A8 n f).size = n := by simp [A8]
theorem A8_get (n : Nat) (f : Nat → BitVec 8) (i : Nat) (h : i < n) : (A8 n f)[i]? = some (.int .u8 (n8 (f i))) := by simp [A8, h]
theorem A8_congr {n : Nat} {f f' : Nat → BitVec 8} (h : ∀ j, j < n → f j = f' j) : A8 n f = A8 n f' := by
  unfold A8; congr 1
  exact List.map_congr_left fun i hi => by rw [h i (by simpa using hi)]
theorem A8_set (n : Nat) (f : Nat → BitVec 8) (i : Nat) (b : BitVec 8) : (A8 n f).setIfInBounds i (.int .u8 (n8 b)) = A8 n (fun j => if j = i then b else f j) := by
  apply Array.ext_getElem?
  intro j
  by_cases hj : j < n
  · rw [A8_get _ _ _ hj, Array.getElem?_setIfInBounds]
    by_cases e : i = j
    · subst e; simp [A8_size, hj]
    · simp [e, A8_get _ _ _ hj, Ne.symm e]
  · have h1 : (A8 n fun j => if j = i then b else f j)[j]? = none := by rw [Array.getElem?_eq_none]; rw [A8_size]; omega
    rw [h1, Array.getElem?_eq_none]; rw [Array.size_setIfInBounds, A8_size]; omega

theorem still_load_row {P : Program} {o : Oper} {a : Act} {w : World} {K : Act → Prop} (ty : TypeId) (x : Operand) (ho : o.op = .load ty x)
    (g : Nat) (hx : a.eval x = .pointer (some ⟨g, 0, none⟩)) (t : TypeId) (cs : Array Value) (fr : Nat × Nat) (d : TypeDesc) (hg : w.heap[g]? = some (.cells cs t fr))
    (hu : P.underlying ty = some d) (hd : (match d with | .struct _ | .array _ _ => true | _ => false) = true) (hi : (P.info? ty).map (·.size) = some cs.size)
    (h : K (a.put o.dst (.agg cs))) : o.still P a w K := by
  have hr := run_loadVar_row (P := P) w g _ _ cs fr d hg hu hd hi
  have he : (execOp a.eval o).run P w = .ok (.value (.agg cs)) w := by
    unfold execOp
    simp only [ho, hx, Instr.loadAt, Instr.sureAddr, Sem.run_bind, Sem.run_pure, Result.andThen_ok, hr]
  unfold Oper.still
  rw [he]
  exact ⟨rfl, h⟩
theorem setRow_same (w : World) (g : Nat) (cs : Array Value) (t : TypeId) (fr : Nat × Nat) (hg : w.heap[g]? = some (.cells cs t fr)) : w.setRow g cs = w := by
  have e : (w.setRow g cs).heap = w.heap := by
    apply Array.ext_getElem?
    intro i
    by_cases h : i = g
    · subst h; rw [setRow_heap w i cs cs t fr hg, hg]
    · exact setRow_other w g i cs h
  cases w
  simp only [World.setRow] at e ⊢
  rw [e]
theorem still_store_row {P : Program} {o : Oper} {a : Act} {w : World} {K : Act → Prop} (ty : TypeId) (x y : Operand) (ho : o.op = .store ty x y)
    (g : Nat) (cs : Array Value) (hx : a.eval x = .pointer (some ⟨g, 0, none⟩)) (hy : a.eval y = .agg cs) (t : TypeId) (hg : w.heap[g]? = some (.cells cs t (0, 0)))
    (hi : (P.info? ty).map (·.size) = some cs.size) (h1 : cs.all (·.oneCell') = true) (h : K (a.put o.dst undef)) : o.still P a w K := by
  have hr := run_storeVar_row (P := P) w g _ _ cs cs hg hi rfl h1
  rw [setRow_same w g cs t (0, 0) hg] at hr
  have he : (execOp a.eval o).run P w = .ok .skip w := by
    unfold execOp
    simp only [ho, hx, hy, Instr.storeAt, Instr.sureAddr, Sem.run_bind, Sem.run_pure, Result.andThen_ok, hr]
  unfold Oper.still
  rw [he]
  exact ⟨rfl, h⟩
theorem A8_one (n : Nat) (f : Nat → BitVec 8) : (A8 n f).all (·.oneCell') = true := by
  rw [Array.all_eq_true]
  intro i hi
  simp [A8]; rfl

theorem results_two_rows {P : Program} {fn : Func} {p q : Tmp} {ty : TypeId} (h : fn.results = #[.cell p ty, .cell q ty]) (tmps : Array Value) (w : World) (g1 g2 : Nat) (t1 t2 : TypeId) (d : TypeDesc) (c1 c2 : Array Value) (f1 f2 : Nat × Nat)
    (hp : tmps.getD p undef = .pointer (some ⟨g1, 0, none⟩)) (hq : tmps.getD q undef = .pointer (some ⟨g2, 0, none⟩)) (hg1 : w.heap[g1]? = some (.cells c1 t1 f1)) (hg2 : w.heap[g2]? = some (.cells c2 t2 f2))
    (hu : P.underlying ty = some d) (hd : (match d with | .struct _ | .array _ _ => true | _ => false) = true) (h1 : (P.info? ty).map (·.size) = some c1.size) (h2 : (P.info? ty).map (·.size) = some c2.size) :
    (results fn tmps).run P w = .ok (.tuple #[.agg c1, .agg c2]) w := by
  have hp' : tmps[p]?.getD undef = .pointer (some ⟨g1, 0, none⟩) := by simpa using hp
  have hq' : tmps[q]?.getD undef = .pointer (some ⟨g2, 0, none⟩) := by simpa using hq
  have r1 := run_loadVar_row (P := P) w g1 _ _ c1 f1 d hg1 hu hd h1
  have r2 := run_loadVar_row (P := P) w g2 _ _ c2 f2 d hg2 hu hd h2
  simp [results, h, hp', hq', asAddr, r1, r2]
theorem zero256 (w : World) : (zeroValue 105).run Try.prog w = .ok (.agg (A8 256 fun _ => 0#8)) w := by
  have h : (Try.prog.info? 105).map (·.zero) = some (some (.agg (A8 256 fun _ => 0#8))) := by kernel_rfl
  obtain ⟨i, hi, hz⟩ := Option.map_eq_some_iff.1 h
  simp [zeroValue, typeInfo, hi, hz]
theorem cells256 : (Try.prog.info? 105).map (·.size) = some 256 := by kernel_rfl

set_option maxHeartbeats 800000 in
set_option maxRecDepth 100000 in
theorem tables_calls (w : World) :
    Calls Try.prog 74 #[] w fun e w' => e = .returned (.tuple #[.agg (A8 256 fun i => sbox (BitVec.ofNat 8 i)), .agg (A8 256 fun i => ibox (BitVec.ofNat 8 i))]) ∧ Below w.heap.size w w' := by
  go_enter Try.func74, Try.ntmps74
  have hz := zero256
  go_wp2_with fail
  clear hz
  go_loopw [6] (fun i wr => ∃ k : Nat, k ≤ 256 ∧ i = .int .i64 k ∧ wr.heap[w.heap.size]? = some (.cells (A8 256 fun j => if j < k then sbox (BitVec.ofNat 8 j) else 0#8) 105 (0, 0))
    ∧ wr.heap[w.heap.size + 1]? = some (.cells (A8 256 fun j => if (ibox (BitVec.ofNat 8 j)).toNat < k then ibox (BitVec.ofNat 8 j) else 0#8) 105 (0, 0)) ∧ Below w.heap.size w wr) (fun i _ => 256 - (intOf i).toNat)
  case atStart => exact ⟨0, by omega, rfl, heap_alloc2_old _ _ _, heap_alloc2_new _ _ _, ((Below.refl _ _).alloc (Nat.le_refl _) _).alloc (by simp) _⟩
  case round =>
    obtain ⟨k, hk, rfl, G1, G2, hB⟩ := hrel
    have HG1 := Lib.hid G1
    have HG2 := Lib.hid G2
    have HB := Lib.hid hB
    by_cases hlt : k < 256
    · have hkv : (k : Int) = n8 (BitVec.ofNat 8 k) := by simp [n8]; omega
      have Hkv := Lib.hid hkv
      have hc1 := cell_of_row wr _ k _ _ _ G1
      rw [A8_get _ _ _ hlt] at hc1
      have hf1 := frozen_of_row wr _ k _ _ G1
      have Hc1 := Lib.hid hc1
      have Hf1 := Lib.hid hf1
      clear hkv G1 G2 hB hc1 hf1
      go_wp2_with fail
      refine (inv_calls_v (BitVec.ofNat 8 k) _ Hkv.out _).mono ?_
      rintro e w' ⟨rfl, rfl⟩
      generalize hc : ginv (BitVec.ofNat 8 k) = c
      have Hc := Lib.hid hc
      clear hc
      go_wp2_with fail
      go_loop [4, 5] (fun s i => ∃ m : Nat, m ≤ 4 ∧ i = .int .i64 ((m : Int) + 1) ∧ s = .int .u8 (n8 (sPart c m))) (fun _ i => 5 - (intOf i).toNat)
      case atStart => exact ⟨0, by omega, rfl, by rw [bxor99]; rfl⟩
      case round =>
        obtain ⟨m, hm, rfl, rfl⟩ := hrel
        by_cases hlt2 : m < 4
        · go_wp2_with fail
          refine (rot_calls_v _ (m + 1) _ (by simp) (by omega) _).mono ?_
          rintro e w' ⟨rfl, rfl⟩
          go_wp2
          go_round
          case rel => exact ⟨m + 1, by omega, by go_num, rfl⟩
          case measure => simp only [intOf]; omega
        · have em : Hid (m = 4) := Lib.hid (by omega)
          have hs : Hid (sPart c m = sbox (BitVec.ofNat 8 k)) := Lib.hid (by rw [em.out, ← sbox_is, Hc.out]; rfl)
          generalize sPart c m = s at hs
          have s0 := n8_lo s
          have s1 := n8_hi s
          have hc1 := Hc1.out
          have hf1 := Hf1.out
          have hc2 := cell_of_row wr _ (n8 s).toNat _ _ _ HG2.out
          rw [A8_get _ _ _ (by omega)] at hc2
          have hf2 := frozen_of_row wr _ (n8 s).toNat _ _ HG2.out
          go_wp2
          go_roundw
          case measure => simp only [intOf]; omega
          case rel =>
            have hB := HB.out
            refine ⟨k + 1, by omega, by go_num, ?_, ?_, (hB.setCell (by simp) _).setCell (by simp) _⟩
            · rw [heap_setCell_other _ _ _ _ (by simp), heap_setCell_same _ _ _ _ _ _ HG1.out, A8_set]
              congr 2
              refine A8_congr fun j hj => ?_
              by_cases e : j = k
              · subst e; rw [if_pos rfl, if_pos (by omega), hs.out]
              · rw [if_neg e]
                by_cases e2 : j < k
                · rw [if_pos e2, if_pos (by omega)]
                · rw [if_neg e2, if_neg (by omega)]
            · rw [Hkv.out, heap_setCell_same _ _ _ _ _ _ ((heap_setCell_other _ _ _ _ (by simp)).trans HG2.out), A8_set]
              congr 2
              refine A8_congr fun j hj => ?_
              have hk8 : (BitVec.ofNat 8 k).toNat = k := by simp; omega
              by_cases e : j = (n8 s).toNat
              · rw [if_pos e]
                have e2 : BitVec.ofNat 8 j = s := by rw [e]; unfold n8; simp
                rw [e2, hs.out, ibox_sbox, if_pos (by rw [hk8]; omega)]
              · rw [if_neg e]
                have e3 : (ibox (BitVec.ofNat 8 j)).toNat ≠ k := by
                  intro h
                  apply e
                  have h2 : ibox (BitVec.ofNat 8 j) = BitVec.ofNat 8 k := BitVec.eq_of_toNat_eq (by rw [h, hk8])
                  have h3 : BitVec.ofNat 8 j = s := by rw [hs.out, ← h2, sbox_ibox]
                  rw [← h3]; unfold n8; simp; omega
                by_cases e2 : (ibox (BitVec.ofNat 8 j)).toNat < k
                · rw [if_pos e2, if_pos (by omega)]
                · rw [if_neg e2, if_neg (by omega)]
    · have em : k = 256 := by omega
      have hA1 : (A8 256 fun j => if j < k then sbox (BitVec.ofNat 8 j) else 0#8) = A8 256 fun j => sbox (BitVec.ofNat 8 j) := A8_congr fun j hj => if_pos (by omega)
      have hA2 : (A8 256 fun j => if (ibox (BitVec.ofNat 8 j)).toNat < k then ibox (BitVec.ofNat 8 j) else 0#8) = A8 256 fun j => ibox (BitVec.ofNat 8 j) := A8_congr fun j hj => if_pos (by rw [em]; exact (ibox _).isLt)
      rw [hA1] at HG1
      rw [hA2] at HG2
      clear G1 G2 hB hA1 hA2
      have Em := Lib.hid em
      clear em
      generalize hT1 : (A8 256 fun j => sbox (BitVec.ofNat 8 j)) = T1 at HG1
      generalize hT2 : (A8 256 fun j => ibox (BitVec.ofNat 8 j)) = T2 at HG2
      have HT1 := Lib.hid hT1
      have HT2 := Lib.hid hT2
      clear hT1 hT2
      go_wp2_with fail
      have s1 : (Try.prog.info? 105).map (·.size) = some T1.size := by rw [← HT1.out, A8_size]; exact cells256
      have s2 : (Try.prog.info? 105).map (·.size) = some T2.size := by rw [← HT2.out, A8_size]; exact cells256
      refine wp_region_still_lit (by kernel_rfl) (by kernel_rfl) ?_
      refine wpStill_step fun K hK => still_load_row 105 _ rfl _ rfl _ T1 _ _ HG1.out Try.underlying105 rfl s1 ?_
      refine hK _ ?_
      clear hK K
      simp only [Act.put, List.setIfInBounds_toArray, List.set_cons_succ, List.set_cons_zero]
      refine wpStill_step fun K hK => still_load_row 105 _ rfl _ rfl _ T2 _ _ HG2.out Try.underlying105 rfl s2 ?_
      refine hK _ ?_
      clear hK K
      simp only [Act.put, List.setIfInBounds_toArray, List.set_cons_succ, List.set_cons_zero]
      refine wpStill_step fun K hK => still_store_row 105 _ _ rfl _ T1 rfl rfl _ HG1.out s1 (by rw [← HT1.out]; exact A8_one _ _) ?_
      refine hK _ ?_
      clear hK K
      simp only [Act.put, List.setIfInBounds_toArray, List.set_cons_succ, List.set_cons_zero]
      refine wpStill_step fun K hK => still_store_row 105 _ _ rfl _ T2 rfl rfl _ HG2.out s2 (by rw [← HT2.out]; exact A8_one _ _) ?_
      refine hK _ ?_
      clear hK K
      simp only [Act.put, List.setIfInBounds_toArray, List.set_cons_succ, List.set_cons_zero]
      refine wpStill_nil ?_
      go_wp2
      refine bodyPost_ret (v := .tuple #[.agg T1, .agg T2]) ?_ rfl ⟨by rw [HT1.out, HT2.out], HB.out.drew⟩
      exact results_two_rows rfl _ _ _ _ _ _ _ T1 T2 _ _ rfl rfl HG1.out HG2.out Try.underlying105 rfl s1 s2

end Go.Proofs.Ytmbnclpgldglnaa
end
section
namespace Go.Proofs.Ytmbnclpgldglnaa
open Go.RowKit
set_option linter.unusedVariables false
set_option linter.unusedSimpArgs false
set_option maxRecDepth 20000
/-! multiplication and tables -/
def mulB (a b : UInt8) : UInt8 := UInt8.ofBitVec (gmul a.toBitVec b.toBitVec)
theorem mulB_spec (a b : UInt8) : Spec Try.prog 105 [.int .u8 (a.toNat : Int), .int .u8 (b.toNat : Int)] (.k (.int .u8 ((mulB a b).toNat : Int))) := by
  refine spec_calls ⟨_, Try.func105, rfl, rfl⟩ fun K w vs hk ha => ?_
  obtain ⟨u, v, rfl, g0, g1⟩ := args2 ha
  rw [kint_inv g0, kint_inv g1]
  refine (mul_calls a.toBitVec b.toBitVec w).mono ?_
  rintro e w' ⟨rfl, rfl⟩
  exact ⟨_, rfl, Below.refl _ _, .int _ _⟩
def sL : List UInt8 := (List.range 256).map fun i => UInt8.ofBitVec (sbox (BitVec.ofNat 8 i))
def iL : List UInt8 := (List.range 256).map fun i => UInt8.ofBitVec (ibox (BitVec.ofNat 8 i))
theorem sL_len : sL.length = 256 := by simp [sL]
theorem iL_len : iL.length = 256 := by simp [iL]
theorem agg_A8 (K : Kd) (f : Nat → BitVec 8) : KRep K (.agg (aOfBytes ((List.range 256).map fun i => UInt8.ofBitVec (f i)))) (.agg (A8 256 f)) := by
  have hx0 : ∀ i, i < 256 → (aOfBytes ((List.range 256).map fun i => UInt8.ofBitVec (f i)))[i]? = some (.int .u8 (n8 (f i))) := fun i hi => by
    simp [aOfBytes, hi]; rfl
  refine .agg _ _ (by simp [A8, aOfBytes]) (fun i v hv => ?_) fun i x v hx hv => ?_
  · have hi : i < 256 := by have := (Array.getElem?_eq_some_iff.1 hv).1; simpa [A8] using this
    rw [A8_get 256 f i hi] at hv
    injection hv with hv; subst hv; rfl
  · have hi : i < 256 := by have := (Array.getElem?_eq_some_iff.1 hv).1; simpa [A8] using this
    rw [A8_get 256 f i hi] at hv
    rw [hx0 i hi] at hx
    injection hx with hx; injection hv with hv; subst hx hv; exact .int _ _
theorem tables_spec : Spec Try.prog 74 [] (.k (.tup [.agg (aOfBytes sL), .agg (aOfBytes iL)])) := by
  refine spec_calls ⟨_, Try.func74, rfl, rfl⟩ fun K w vs hk ha => ?_
  obtain rfl : vs = #[] := Array.eq_empty_of_size_eq_zero ha.1
  refine (tables_calls w).mono ?_
  rintro e w' ⟨rfl, b⟩
  exact ⟨_, rfl, b, krep_pair (agg_A8 _ _) (agg_A8 _ _)⟩
end Go.Proofs.Ytmbnclpgldglnaa
end
section
namespace Go.Proofs.Ytmbnclpgldglnaa
open Go.RowKit
set_option linter.unusedVariables false
set_option linter.unusedSimpArgs false
set_option maxRecDepth 20000
/-! a cipher's cells -/
def cph (T B K : List UInt8) (R : Nat) : List AV := aOfBytes T ++ (aOfBytes B ++ [.sl false R (aOfBytes K)])
theorem cph_len {T B K : List UInt8} {R : Nat} (h1 : T.length = 256) (h2 : B.length = 256) : (cph T B K R).length = 513 := by simp [cph, aOfBytes, h1, h2]
theorem cph_T {T B K : List UInt8} {R : Nat} (h1 : T.length = 256) (i : Nat) (h : i < 256) : ldAgg (.int .u8) 1 (List.drop i (cph T B K R)) = some (.int .u8 ((T.getD i 0).toNat : Int)) := by
  unfold cph
  rw [List.drop_append_of_le_length (by rw [aOfBytes_len]; omega)]
  have := ld_b T i (by omega)
  simp only [ldAgg] at this ⊢
  rw [List.head?_append, this]; rfl
theorem cph_B {T B K : List UInt8} {R : Nat} (h1 : T.length = 256) (h2 : B.length = 256) (i : Nat) (h : i < 256) : ldAgg (.int .u8) 1 (List.drop i (List.drop 256 (cph T B K R))) = some (.int .u8 ((B.getD i 0).toNat : Int)) := by
  unfold cph
  rw [List.drop_left' (by rw [aOfBytes_len, h1]), List.drop_append_of_le_length (by rw [aOfBytes_len]; omega)]
  have := ld_b B i (by omega)
  simp only [ldAgg] at this ⊢
  rw [List.head?_append, this]; rfl
theorem cph_K {T B K : List UInt8} {R : Nat} (h1 : T.length = 256) (h2 : B.length = 256) (e : TypeId) : ldAgg (.sl e) 1 (List.drop 512 (cph T B K R)) = some (.sl false R (aOfBytes K)) := by
  unfold cph
  rw [← List.append_assoc, List.drop_left' (by rw [List.length_append, aOfBytes_len, aOfBytes_len, h1, h2])]; rfl
theorem initM3 (x y z : MA) (k : Nat) (cs : List AV) (md : Md) : initM [x, y, z] k cs md = ⟨upd (upd (upd (fun _ => .k .any) 0 (x.sv k)) 1 (y.sv k)) 2 (z.sv k), upd (fun _ => none) k (some (0, .obj cs)), 1, md⟩ := by
  unfold initM; congr 1; funext t
  match t with
  | 0 => rfl
  | 1 => rfl
  | 2 => rfl
  | t + 3 => simp [upd]
/-- the end of a walk that turned an object -/
theorem enM0 {P : Program} {rs : List ResultVar} {tys : List TypeId} {k : Nat} {F : Nat → SV} {T : Nat → Option (Nat × Ent)} {ν : Nat} {md : Md} {cs cs' : List AV} (h1 : rs = []) (ht : T k = some (0, .obj cs)) (hc : cs' = cs) : aEndM P rs tys k ⟨F, T, ν, md⟩ cs' (.tup []) := by
  subst h1
  exact ⟨Wk.of_eq rfl, cs, ht, WkL.of_eq hc⟩
/-! a round's key -/
def addF (K b : List UInt8) (r i : Nat) : UInt8 := b.getD i 0 ^^^ K.getD (r * 16 + i) 0
def addK (K b : List UInt8) (r : Nat) : List UInt8 := (List.range 16).map (addF K b r)
theorem addK_len (K b : List UInt8) (r : Nat) : (addK K b r).length = 16 := by simp [addK]
set_option maxHeartbeats 8000000 in
theorem add_spec (T B K b : List UInt8) (R r : Nat) (h1 : T.length = 256) (h2 : B.length = 256) (hK : K.length = R * 16) (hR : R ≤ 1000) (hr : r < R) (hb : b.length = 16) :
    MSpec Try.prog 80 [.k (.cp (cph T B K R)), .ob 0, .k (.int .i64 (r : Nat))] (aOfBytes b) (some (aOfBytes (addK K b r))) (.tup []) := by
  refine mspec_of 1 (fun _ => false) false (by kernel_rfl) Try.func80 rfl rfl (by simp [Try.ntmps80]) (by decide) rfl ?_
  intro δ
  rw [initM3]
  simp only [MA.sv]
  have hC := cph_len (K := K) (R := R) h1 h2
  have hCK := cph_K (K := K) (R := R) h1 h2 23
  generalize cph T B K R = C at *
  have hKa := aOfBytes_len K
  repeat (first | with_reducible (first | refine aWp_seq ?_ | refine seq_normal ?_ | refine seq_ret ?_ | refine seq_exit ?_ | refine blk_normal ?_ | refine blk_ret ?_ | refine blk_hit ?_ | refine blk_miss rfl ?_ | refine aWp_ret ?_ | refine aWp_skip ?_ | refine aWp_block ?_ | refine aWp_exit ?_ | refine end_ret ?_ | refine end_normal ?_) | ((refine rgA ?_); intro ν) | ((with_reducible apply cndT); exact rfl; (first | rfl | assumption)) | ((with_reducible apply cndF); exact rfl; (first | rfl | assumption)))
  refine aWp_loop (fun m s => ∃ F T ν i, m = 16 - i ∧ i ≤ 16 ∧ s = ⟨F, T, ν, ⟨fun _ => false, δ, false⟩⟩ ∧
    F 0 = .k (.cp C) ∧ F 1 = .ob 1 0 0 ∧ F 2 = .k (.int .i64 (r : Nat)) ∧ F 7 = .k (.int .i64 (i : Nat)) ∧ T 1 = some (0, .obj (aOfBytes (setN (addF K b r) b i)))) 16 ⟨_, _, _, 0, rfl, Nat.zero_le _, rfl, rfl, rfl, rfl, rfl, rfl⟩ ?_
  rintro m s ⟨F, T, ν, i, rfl, hi, rfl, f0, f1, f2, f7, t1⟩
  rw [has4 f0 f1 f2 f7, has1 t1]
  have hsl := setN_len (addF K b r) b i
  have hsa := aOfBytes_len (setN (addF K b r) b i)
  by_cases hlt : i < 16
  · have l1 := ld_b (setN (addF K b r) b i) i (by omega)
    rw [setN_get (addF K b r) b i i (Nat.le_refl _)] at l1
    have l2 := ld_b K (r * 16 + i) (by omega)
    rw [← List.drop_drop] at l2
    have hst := set_b (setN (addF K b r) b i) (addF K b r i) i (by omega)
    repeat (first | with_reducible (first | refine aWp_seq ?_ | refine seq_normal ?_ | refine seq_ret ?_ | refine seq_exit ?_ | refine blk_normal ?_ | refine blk_ret ?_ | refine blk_hit ?_ | refine blk_miss rfl ?_ | refine aWp_ret ?_ | refine aWp_skip ?_ | refine aWp_block ?_ | refine aWp_exit ?_ | refine end_ret ?_ | refine end_normal ?_) | ((refine rgA ?_); intro ν) | ((with_reducible apply cndT); exact rfl; (first | rfl | assumption)) | ((with_reducible apply cndF); exact rfl; (first | rfl | assumption)))
    refine rgxA [(4,[1],[]),(17,[1],[1])] ?_
    intro ν
    repeat (first | with_reducible (first | refine aWp_seq ?_ | refine seq_normal ?_ | refine seq_ret ?_ | refine seq_exit ?_ | refine blk_normal ?_ | refine blk_ret ?_ | refine blk_hit ?_ | refine blk_miss rfl ?_ | refine aWp_ret ?_ | refine aWp_skip ?_ | refine aWp_block ?_ | refine aWp_exit ?_ | refine end_ret ?_ | refine end_normal ?_) | ((refine rgA ?_); intro ν) | ((with_reducible apply cndT); exact rfl; (first | rfl | assumption)) | ((with_reducible apply cndF); exact rfl; (first | rfl | assumption)))
    refine ⟨16 - (i + 1), by omega, _, _, _, i + 1, rfl, by omega, rfl, rfl, rfl, rfl, ?_, ?_⟩
    · show (SV.k (.int .i64 ((i : Int) + 1)) : SV) = _
      rw [Int.natCast_succ]
    · rw [upd_same]
      exact congrArg (fun q => some (0, Ent.obj q)) hst
  · have hie : i = 16 := by omega
    subst hie
    have he := setN_all (addF K b r) b 16 hb
    repeat (first | with_reducible (first | refine aWp_seq ?_ | refine seq_normal ?_ | refine seq_ret ?_ | refine seq_exit ?_ | refine blk_normal ?_ | refine blk_ret ?_ | refine blk_hit ?_ | refine blk_miss rfl ?_ | refine aWp_ret ?_ | refine aWp_skip ?_ | refine aWp_block ?_ | refine aWp_exit ?_ | refine end_ret ?_ | refine end_normal ?_) | ((refine rgA ?_); intro ν) | ((with_reducible apply cndT); exact rfl; (first | rfl | assumption)) | ((with_reducible apply cndF); exact rfl; (first | rfl | assumption)))
    (first | with_reducible refine end_r ?_ | with_reducible refine end_n ?_)
    refine enM0 rfl rfl ?_
    rw [he]; rfl
end Go.Proofs.Ytmbnclpgldglnaa
end
section
namespace Go.Proofs.Ytmbnclpgldglnaa
open Go.RowKit
set_option linter.unusedVariables false
set_option linter.unusedSimpArgs false
set_option maxRecDepth 20000
/-! a key made ready -/
def exT (T : List UInt8) (n i : Nat) (p : UInt8) (t : List UInt8) : List UInt8 :=
  if i % n = 0 then [T.getD (t.getD 1 0).toNat 0 ^^^ p, T.getD (t.getD 2 0).toNat 0, T.getD (t.getD 3 0).toNat 0, T.getD (t.getD 0 0).toNat 0]
  else if 6 < n ∧ i % n = 4 then (List.range 4).map (fun k => T.getD (t.getD k 0).toNat 0) else t
def exP (n : Nat) : Nat → UInt8
  | 0 => 1
  | i + 1 => if n ≤ i ∧ i % n = 0 then mulB (exP n i) 2 else exP n i
def exF (ws t : List UInt8) (n i j : Nat) : UInt8 := ws.getD ((i - n) * 4 + j) 0 ^^^ t.getD j 0
def exL (ws : List UInt8) (i : Nat) : List UInt8 := (ws.drop ((i - 1) * 4)).take 4
def exW (key T : List UInt8) (n : Nat) : Nat → List UInt8
  | 0 => []
  | i + 1 => exW key T n i ++ (if i < n then (key.drop (4 * i)).take 4 else (List.range 4).map (exF (exW key T n i) (exT T n i (exP n i) (exL (exW key T n i) i)) n i))
theorem exW_len {key T : List UInt8} {n : Nat} (hk : key.length = 4 * n) (i : Nat) : (exW key T n i).length = i * 4 := by
  induction i with
  | zero => rfl
  | succ i ih =>
    rw [exW, List.length_append, ih]
    split
    · rw [List.length_take, List.length_drop]; omega
    · simp; omega
theorem exL_len {ws : List UInt8} {i : Nat} (h : ws.length = i * 4) (hi : 0 < i) : (exL ws i).length = 4 := by unfold exL; rw [List.length_take, List.length_drop]; omega
theorem exT_len {T t : List UInt8} {n i : Nat} {p : UInt8} (h : t.length = 4) : (exT T n i p t).length = 4 := by
  unfold exT; split
  · rfl
  · split
    · simp
    · exact h
theorem aZeros4 (n : Nat) (z : AV) : aZeros n 4 [z, z, z, z] = List.replicate (n * 4) z := by
  unfold aZeros
  apply List.ext_getElem
  · simp
  · intro i h1 h2
    simp only [List.getElem_map, List.getElem_range, List.getElem_replicate]
    have : i % 4 = 0 ∨ i % 4 = 1 ∨ i % 4 = 2 ∨ i % 4 = 3 := by omega
    rcases this with q | q | q | q <;> rw [q] <;> rfl
/-- some cells more of an array that is filled from the left -/
theorem fill_more {xs ys : List AV} {z : AV} {t k n : Nat} (hx : xs.length = t) (hy : ys.length = k) (ht : t + k ≤ n) : List.take t (xs ++ List.replicate (n - t) z) ++ ys ++ List.drop (t + k) (xs ++ List.replicate (n - t) z) = (xs ++ ys) ++ List.replicate (n - (t + k)) z := by
  subst hx hy
  rw [List.take_left, List.drop_append, List.drop_of_length_le (by omega), List.nil_append, Nat.add_sub_cancel_left, List.drop_replicate, Nat.sub_sub]
theorem ld_pre (l : List UInt8) (rest : List AV) (i : Nat) (h : i < l.length) : ldAgg (.int .u8) 1 (List.drop i (aOfBytes l ++ rest)) = some (.int .u8 ((l.getD i 0).toNat : Int)) := by
  rw [List.drop_append_of_le_length (by rw [aOfBytes_len]; omega)]
  have := ld_b l i h
  simp only [ldAgg] at this ⊢
  rw [List.head?_append, this]; rfl
theorem getD_app (a b : List UInt8) (i : Nat) (h : i < a.length) : (a ++ b).getD i 0 = a.getD i 0 := by
  rw [List.getD_eq_getElem?_getD, List.getElem?_append_left h, ← List.getD_eq_getElem?_getD]
theorem bytes_take' (l : List UInt8) (n : Nat) : aOfBytes (l.take n) = (aOfBytes l).take n := by simp [aOfBytes]
theorem bytes_drop' (l : List UInt8) (n : Nat) : aOfBytes (l.drop n) = (aOfBytes l).drop n := by simp [aOfBytes]
theorem bytes_nil : aOfBytes [] = [] := rfl
theorem four {α : Type} {l : List α} (h : l.length = 4) : ∃ a b c d, l = [a, b, c, d] := by
  match l, h with
  | [a, b, c, d], _ => exact ⟨a, b, c, d, rfl⟩
theorem wk_ow {δ d g n : Nat} {e : TypeId} {cells : List AV} : Wk (.ow δ d g n e cells) (.sl false n cells) := fun K v h => by
  cases h with
  | ow δ d g n e cells r h he hn hl hx hk => exact hk
theorem wkL_last {cs : List AV} {a b : AV} (h : Wk a b) : WkL (cs ++ [a]) (cs ++ [b]) := by
  refine ⟨by simp, fun i x y hx hy => ?_⟩
  by_cases hi : i < cs.length
  · rw [List.getElem?_append_left hi] at hx hy
    rw [hx] at hy; injection hy with hy; exact Wk.of_eq hy.symm
  · rw [List.getElem?_append_right (by omega)] at hx hy
    have h0 : i - cs.length = 0 := by have := getq_lt hx; simp at this; omega
    rw [h0] at hx hy
    simp at hx hy
    subst hx hy; exact h
end Go.Proofs.Ytmbnclpgldglnaa
end
section
namespace Go.Proofs.Ytmbnclpgldglnaa
open Go.RowKit
set_option linter.unusedVariables false
set_option linter.unusedSimpArgs false


attribute [local go_sem] bxor8

def z16 (x : BitVec 16) : Int := (x.toNat : Int)
theorem z16_lo (x : BitVec 16) : 0 ≤ z16 x := by unfold z16; omega
theorem z16_hi (x : BitVec 16) : z16 x < 65536 := by have := x.isLt; unfold z16; omega
theorem zxor (x y : BitVec 16) : Go.bits .xor .i64 (z16 x) (z16 y) = z16 (x ^^^ y) := by
  have e : Go.bits .xor .i64 (z16 x) (z16 y) = IntKind.i64.wrap (((BitVec.ofInt 64 (x.toNat : Int)) ^^^ (BitVec.ofInt 64 (y.toNat : Int))).toNat : Int) := rfl
  have hx := x.isLt
  have hy := y.isLt
  have h1 : (BitVec.ofInt 64 (x.toNat : Int)).toNat = x.toNat := by rw [BitVec.ofInt_natCast, BitVec.toNat_ofNat]; omega
  have h2 : (BitVec.ofInt 64 (y.toNat : Int)).toNat = y.toNat := by rw [BitVec.ofInt_natCast, BitVec.toNat_ofNat]; omega
  rw [e, BitVec.toNat_xor, h1, h2, ← BitVec.toNat_xor]
  have := (x ^^^ y).isLt
  rw [IntKind.wrap_i64]; unfold z16; omega
theorem zbit (x : BitVec 16) (i : Nat) : (Go.bits .and .i64 (z16 x / (2 : Int) ^ i) 1 == 1) = x.getLsbD i := by
  have e1 : z16 x / (2 : Int) ^ i = z16 (x >>> i) := by
    unfold z16; rw [BitVec.toNat_ushiftRight, Nat.shiftRight_eq_div_pow]; simp
  rw [e1]
  have e : Go.bits .and .i64 (z16 (x >>> i)) 1 = IntKind.i64.wrap (((BitVec.ofInt 64 ((x >>> i).toNat : Int)) &&& (BitVec.ofInt 64 1)).toNat : Int) := rfl
  have hx := (x >>> i).isLt
  have h1 : (BitVec.ofInt 64 ((x >>> i).toNat : Int)).toNat = (x >>> i).toNat := by rw [BitVec.ofInt_natCast, BitVec.toNat_ofNat]; omega
  have h2 : (BitVec.ofInt 64 1).toNat = 1 := rfl
  have hb : x.getLsbD i = decide ((x >>> i).toNat % 2 = 1) := by
    rw [BitVec.getLsbD, Nat.testBit_eq_decide_div_mod_eq, BitVec.toNat_ushiftRight, Nat.shiftRight_eq_div_pow]
  rw [e, BitVec.toNat_and, h1, h2, Nat.and_one_is_mod, hb, IntKind.wrap_i64]
  generalize (x >>> i).toNat = q at *
  by_cases h : q % 2 = 1
  · rw [decide_eq_true h, h]; rfl
  · have h' : q % 2 = 0 := by omega
    rw [decide_eq_false h, h']; rfl
theorem zbit8 (x : BitVec 8) (i : Nat) : (Go.bits .and .i64 (n8 x / (2 : Int) ^ i) 1 == 1) = x.getLsbD i := by
  have : n8 x = z16 (x.setWidth 16) := by have := x.isLt; unfold n8 z16; simp; omega
  rw [this, zbit, BitVec.getLsbD_setWidth]
  by_cases h : i < 16
  · simp [h]
  · rw [BitVec.getLsbD_of_ge x i (by omega)]; simp
theorem zshl (a : BitVec 8) (i : Nat) (h : i < 8) : n8 a * (2 : Int) ^ i = z16 (a.setWidth 16 <<< i) := by
  have ha := a.isLt
  unfold n8 z16
  rw [BitVec.toNat_shiftLeft, Nat.shiftLeft_eq, BitVec.toNat_setWidth]
  have hp : 2 ^ i ≤ 2 ^ 7 := Nat.pow_le_pow_right (by decide) (by omega)
  have hm : a.toNat * 2 ^ i ≤ 255 * 2 ^ 7 := Nat.mul_le_mul (by omega) hp
  rw [Nat.mod_eq_of_lt (by omega : a.toNat < 2 ^ 16), Nat.mod_eq_of_lt (by omega)]; simp
theorem zshl283 (i : Nat) (h : i < 7) : (283 : Int) * (2 : Int) ^ i = z16 (283#16 <<< i) := by
  have : i = 0 ∨ i = 1 ∨ i = 2 ∨ i = 3 ∨ i = 4 ∨ i = 5 ∨ i = 6 := by omega
  rcases this with rfl | rfl | rfl | rfl | rfl | rfl | rfl <;> rfl

theorem wz (x : BitVec 16) : wrap64 (z16 x) = z16 x := by have := z16_lo x; have := z16_hi x; unfold wrap64; omega
theorem zlow (x : BitVec 16) : z16 x % (256 : Int) = n8 (x.setWidth 8) := by unfold n8 z16; simp

set_option maxHeartbeats 800000 in
set_option maxRecDepth 100000 in
theorem rmul_calls (a b : BitVec 8) (w : World) :
    Calls Try.prog 51 #[.int .u8 (n8 a), .int .u8 (n8 b)] w fun e w' => e = .returned (.int .u8 (n8 (gmul a b))) ∧ w = w' := by
  have a0 := n8_lo a; have a1 := n8_hi a; have b0 := n8_lo b; have b1 := n8_hi b
  go_enter Try.func51, Try.ntmps51
  go_wp2
  go_loop [5, 6] (fun n i => ∃ k : Nat, k ≤ 8 ∧ i = .int .i64 k ∧ n = .int .i64 (z16 (rprodAux a b k))) (fun _ i => 8 - (intOf i).toNat)
  case atStart => exact ⟨0, by omega, rfl, rfl⟩
  case round =>
    obtain ⟨k, hk, rfl, rfl⟩ := hrel
    by_cases hlt : k < 8
    · have hq := zbit8 b k
      cases hb : b.getLsbD k
      all_goals
        rw [hb] at hq
        have Hb := Lib.hid hb
        clear hb
        go_wp2
        go_round
        case rel =>
          refine ⟨k + 1, by omega, by go_num, ?_⟩
          rw [rprodAux, Hb.out]
          first
            | rfl
            | (rw [zshl _ _ hlt, wz, zxor]; rfl)
        case measure => simp only [intOf]; omega
    · have em : Hid (rprodAux a b k = rprodAux a b 8) := Lib.hid (by rw [show k = 8 by omega])
      have e2 : Hid (n8 (gmul a b) = n8 ((rredAux 7 (rprodAux a b 8)).setWidth 8)) := Lib.hid (by rw [← rmul_eq]; rfl)
      go_wp2
      go_loop [5, 7] (fun n i => ∃ (m : Nat) (x : BitVec 16), m ≤ 7 ∧ i = .int .i64 ((m : Int) + 7) ∧ n = .int .i64 (z16 x) ∧ rredAux m x = rredAux 7 (rprodAux a b 8)) (fun _ i => (intOf i).toNat)
      case atStart => exact ⟨7, rprodAux a b 8, by omega, rfl, by rw [em.out], rfl⟩
      case round =>
        obtain ⟨m, x, hm, rfl, rfl, hr⟩ := hrel
        have Hr := Lib.hid hr
        clear hr
        cases m with
        | zero =>
          go_wp2
          go_ret
          refine ⟨?_, rfl⟩
          rw [e2.out, ← Hr.out, rredAux, ← zlow]
          rfl
        | succ m =>
          have e : ((m + 1 : Nat) : Int) + 7 = (m : Int) + 8 := by omega
          rw [e]
          have hq := zbit x (m + 8)
          cases hb : x.getLsbD (m + 8)
          all_goals
            rw [hb] at hq
            have Hb := Lib.hid hb
            clear hb
            go_wp2
            go_round
            case rel =>
              first
                | exact ⟨m, x, by omega, by rw [show (m : Int) + 8 - 1 = (m : Int) + 7 by omega], rfl, by rw [← Hr.out, rredAux, Hb.out]; rfl⟩
                | exact ⟨m, x ^^^ (283#16 <<< m), by omega, by rw [show (m : Int) + 8 - 1 = (m : Int) + 7 by omega], by rw [zshl283 _ (by omega), wz, zxor], by rw [← Hr.out, rredAux, Hb.out]; rfl⟩
            case measure => simp only [intOf]; omega

end Go.Proofs.Ytmbnclpgldglnaa
end
section
namespace Go.Proofs.Ytmbnclpgldglnaa
open Go.RowKit
set_option linter.unusedVariables false

def pTab : List Nat := [1, 3, 5, 15, 17, 51, 85, 255, 26, 46, 114, 150, 161, 248, 19, 53, 95, 225, 56, 72, 216, 115, 149, 164, 247, 2, 6, 10, 30, 34, 102, 170, 229, 52, 92, 228, 55, 89, 235, 38, 106, 190, 217, 112, 144, 171, 230, 49, 83, 245, 4, 12, 20, 60, 68, 204, 79, 209, 104, 184, 211, 110, 178, 205, 76, 212, 103, 169, 224, 59, 77, 215, 98, 166, 241, 8, 24, 40, 120, 136, 131, 158, 185, 208, 107, 189, 220, 127, 129, 152, 179, 206, 73, 219, 118, 154, 181, 196, 87, 249, 16, 48, 80, 240, 11, 29, 39, 105, 187, 214, 97, 163, 254, 25, 43, 125, 135, 146, 173, 236, 47, 113, 147, 174, 233, 32, 96, 160, 251, 22, 58, 78, 210, 109, 183, 194, 93, 231, 50, 86, 250, 21, 63, 65, 195, 94, 226, 61, 71, 201, 64, 192, 91, 237, 44, 116, 156, 191, 218, 117, 159, 186, 213, 100, 172, 239, 42, 126, 130, 157, 188, 223, 122, 142, 137, 128, 155, 182, 193, 88, 232, 35, 101, 175, 234, 37, 111, 177, 200, 67, 197, 84, 252, 31, 33, 99, 165, 244, 7, 9, 27, 45, 119, 153, 176, 203, 70, 202, 69, 207, 74, 222, 121, 139, 134, 145, 168, 227, 62, 66, 198, 81, 243, 14, 18, 54, 90, 238, 41, 123, 141, 140, 143, 138, 133, 148, 167, 242, 13, 23, 57, 75, 221, 124, 132, 151, 162, 253, 28, 36, 108, 180, 199, 82, 246]
def lTab : List Nat := [255, 0, 25, 1, 50, 2, 26, 198, 75, 199, 27, 104, 51, 238, 223, 3, 100, 4, 224, 14, 52, 141, 129, 239, 76, 113, 8, 200, 248, 105, 28, 193, 125, 194, 29, 181, 249, 185, 39, 106, 77, 228, 166, 114, 154, 201, 9, 120, 101, 47, 138, 5, 33, 15, 225, 36, 18, 240, 130, 69, 53, 147, 218, 142, 150, 143, 219, 189, 54, 208, 206, 148, 19, 92, 210, 241, 64, 70, 131, 56, 102, 221, 253, 48, 191, 6, 139, 98, 179, 37, 226, 152, 34, 136, 145, 16, 126, 110, 72, 195, 163, 182, 30, 66, 58, 107, 40, 84, 250, 133, 61, 186, 43, 121, 10, 21, 155, 159, 94, 202, 78, 212, 172, 229, 243, 115, 167, 87, 175, 88, 168, 80, 244, 234, 214, 116, 79, 174, 233, 213, 231, 230, 173, 232, 44, 215, 117, 122, 235, 22, 11, 245, 89, 203, 95, 176, 156, 169, 81, 160, 127, 12, 246, 111, 23, 196, 73, 236, 216, 67, 31, 45, 164, 118, 123, 183, 204, 187, 62, 90, 251, 96, 177, 134, 59, 82, 161, 108, 170, 85, 41, 157, 151, 178, 135, 144, 97, 190, 220, 252, 188, 149, 207, 205, 55, 63, 91, 209, 83, 57, 132, 60, 65, 162, 109, 71, 20, 42, 158, 93, 86, 242, 211, 171, 68, 17, 146, 217, 35, 32, 46, 137, 180, 124, 184, 38, 119, 153, 227, 165, 103, 74, 237, 222, 197, 49, 254, 24, 13, 99, 140, 128, 192, 247, 112, 7]
def pw (i : Nat) : BitVec 8 := BitVec.ofNat 8 (pTab.getD i 0)
def lg (a : BitVec 8) : Nat := lTab.getD a.toNat 0
theorem pw_succ : ∀ i : Fin 254, gmul (pw i.val) 3#8 = pw (i.val + 1) := by decide +kernel
theorem pw_inv : ∀ i : Fin 255, pw ((255 - i.val) % 255) = ginv (pw i.val) := by decide +kernel
theorem lg_pw : ∀ i : Fin 255, lg (pw i.val) = i.val := by decide +kernel
theorem pw_lg : ∀ a : BitVec 8, a ≠ 0#8 → pw (lg a) = a := by decide +kernel
theorem lg_lt : ∀ a : BitVec 8, a ≠ 0#8 → lg a < 255 := by decide +kernel
theorem ginv_zero : ginv 0#8 = 0#8 := by decide +kernel

def bitX (c : BitVec 8) (i : Nat) : Nat → Bool
  | 0 => c.getLsbD i
  | m + 1 => bitX c i m ^^ c.getLsbD ((i + (m + 4)) % 8)
def sAcc (c : BitVec 8) : Nat → Nat
  | 0 => 0
  | i + 1 => sAcc c i + (if bitX c i 4 then 2 ^ i else 0)
theorem sAcc_is : ∀ c : BitVec 8, sAcc c 8 = (sboxOf c ^^^ 99#8).toNat := by decide +kernel
theorem sAcc_lt (c : BitVec 8) (i : Nat) : sAcc c i < 2 ^ i := by
  induction i with
  | zero => simp [sAcc]
  | succ i ih => rw [sAcc, Nat.pow_succ]; split <;> omega

def ob (b : Bool) : Int := if b then 1 else 0
theorem ob_xor (a b : Bool) : Go.bits .xor .i64 (ob a) (ob b) = ob (a ^^ b) := by cases a <;> cases b <;> rfl
theorem zand16 (x : BitVec 16) (i : Nat) : Go.bits .and .i64 (z16 x / (2 : Int) ^ i) 1 = ob (x.getLsbD i) := by
  have e1 : z16 x / (2 : Int) ^ i = z16 (x >>> i) := by
    unfold z16; rw [BitVec.toNat_ushiftRight, Nat.shiftRight_eq_div_pow]; simp
  rw [e1]
  have e : Go.bits .and .i64 (z16 (x >>> i)) 1 = IntKind.i64.wrap (((BitVec.ofInt 64 ((x >>> i).toNat : Int)) &&& (BitVec.ofInt 64 1)).toNat : Int) := rfl
  have hx := (x >>> i).isLt
  have h1 : (BitVec.ofInt 64 ((x >>> i).toNat : Int)).toNat = (x >>> i).toNat := by rw [BitVec.ofInt_natCast, BitVec.toNat_ofNat]; omega
  have h2 : (BitVec.ofInt 64 1).toNat = 1 := rfl
  have hb : x.getLsbD i = decide ((x >>> i).toNat % 2 = 1) := by
    rw [BitVec.getLsbD, Nat.testBit_eq_decide_div_mod_eq, BitVec.toNat_ushiftRight, Nat.shiftRight_eq_div_pow]
  rw [e, BitVec.toNat_and, h1, h2, Nat.and_one_is_mod, hb, IntKind.wrap_i64]
  generalize (x >>> i).toNat = q at *
  by_cases h : q % 2 = 1
  · rw [decide_eq_true h, h]; rfl
  · have h' : q % 2 = 0 := by omega
    rw [decide_eq_false h, h']; rfl
theorem zand (x : BitVec 8) (i : Nat) : Go.bits .and .i64 (n8 x / (2 : Int) ^ i) 1 = ob (x.getLsbD i) := by
  have : n8 x = z16 (x.setWidth 16) := by have := x.isLt; unfold n8 z16; simp; omega
  rw [this, zand16, BitVec.getLsbD_setWidth]
  by_cases h : i < 16
  · simp [h]
  · rw [BitVec.getLsbD_of_ge x i (by omega)]; simp
theorem zxor99 (x : BitVec 8) : Go.bits .xor .i64 (n8 x) 99 = n8 (x ^^^ 99#8) := by
  have e0 : ∀ y : BitVec 8, n8 y = z16 (y.setWidth 16) := fun y => by have := y.isLt; unfold n8 z16; simp; omega
  have h := zxor (x.setWidth 16) 99#16
  rw [e0, show (99 : Int) = z16 99#16 from rfl, h, e0]
  congr 1
theorem list_A8 (f : Nat → BitVec 8) (n : Nat) : A8 n f = (B8 ((List.range n).map f)).toArray := by simp [A8, B8]
theorem zero_A8 (n : Nat) : (B8 (List.replicate n 0#8)).toArray = A8 n fun _ => 0#8 := by
  rw [list_A8]; congr 2; simp [List.map_const']

end Go.Proofs.Ytmbnclpgldglnaa
end
section
namespace Go.Proofs.Ytmbnclpgldglnaa
open Go.RowKit
attribute [local go_sem] zand ob_xor
set_option linter.unusedVariables false
set_option linter.unusedSimpArgs false


theorem ofNat_n8 (x : BitVec 8) : BitVec.ofNat 8 (n8 x).toNat = x := by unfold n8; simp
theorem rmul_calls_v (a b : BitVec 8) (u v : Int) (hu : u = n8 a) (hv : v = n8 b) (w : World) :
    Calls Try.prog 51 #[.int .u8 u, .int .u8 v] w fun e w' => e = .returned (.int .u8 (n8 (gmul a b))) ∧ w = w' := by
  subst hu hv; exact rmul_calls a b w
def pwl (k : Nat) : List (BitVec 8) := (List.range k).map pw
theorem pwl_len (k : Nat) : (pwl k).length = k := by simp [pwl]
theorem pwl_get (k i : Nat) (h : i < k) : (pwl k).getD i 0 = pw i := by simp [pwl, h]
theorem pwl_succ (k : Nat) : pwl (k + 1) = pwl k ++ [pw k] := by simp [pwl, List.range_succ]

set_option maxHeartbeats 800000 in
set_option maxRecDepth 100000 in
theorem powers_calls (w : World) :
    Calls Try.prog 83 #[] w fun e w' => ∃ v, e = .returned v ∧ Rd w' v (B8 (pwl 255)) ∧ Below w.heap.size w w' := by
  go_enter Try.func83, Try.ntmps83
  go_wp2
  go_loopw [1, 2] (fun v i wr => ∃ k : Nat, 1 ≤ k ∧ k ≤ 255 ∧ i = .int .i64 k ∧ Own wr w.heap.size 5 v (B8 (pwl k)) ∧ Below w.heap.size w wr) (fun _ i _ => 255 - (intOf i).toNat)
  case atStart => exact ⟨1, by omega, by omega, rfl, by exact Own.made #[Value.int .u8 1] 1 (Nat.le_refl _) rfl (by decide) _ rfl, (Below.refl _ _).alloc (Nat.le_refl _) _⟩
  case round =>
    obtain ⟨k, h1, hk, rfl, ho, hb⟩ := hrel
    obtain ⟨a, c, rfl, hc1, hc2⟩ := ho.rd.slice
    rw [B8_len, pwl_len] at *
    by_cases hlt : k < 255
    · obtain ⟨g, tl, rfl, -, -, hg⟩ := ho.block (by rw [B8_len, pwl_len]; omega)
      have hc := cell_of_row wr g (k - 1) _ _ _ hg
      rw [row_get _ _ _ (by rw [B8_len, pwl_len]; omega), B8_getD _ _ (by rw [pwl_len]; omega), pwl_get _ _ (by omega)] at hc
      obtain ⟨m, rfl⟩ : ∃ m, k = m + 1 := ⟨k - 1, by omega⟩
      have hs := pw_succ ⟨m, by omega⟩
      simp only [Nat.add_sub_cancel] at hc hs
      have Hs := Lib.hid hs
      have HO := Lib.hid ho
      have HB := Lib.hid hb
      clear hs hg ho hb
      have e1 : ((m + 1 : Nat) : Int) - 1 = m := by omega
      go_wp2_with fail
      refine (rmul_calls_v _ 3#8 _ _ rfl rfl _).mono ?_
      rintro e w' ⟨rfl, rfl⟩
      rw [Hs.out]
      obtain ⟨v1, hv1⟩ : ∃ v1 : Value, v1 = .slice (some ⟨g, 0, none⟩) (m + 1) c := ⟨_, rfl⟩
      have HO2 : Own wr w.heap.size 5 v1 (B8 (pwl (m + 1))) := by rw [hv1]; exact HO.out
      go_wp2_with (first
        | (at_builtin; refine wpList_append_bd (W0 := w) (o := ⟨some 16, _, _, _, _, _⟩) rfl _ _ 22 rfl slT8 _ (.slice (some ⟨wr.heap.size, 0, none⟩) 1 1) (B8 (pwl (m + 1))) [.int .u8 (n8 (pw (m + 1)))] rfl rfl (HB.out.alloc HB.out.size _) (HO.out.alloc _) (by exact Rd.new _ _ #[_] 1 _ rfl rfl (by decide)) (by intro y hy; simp at hy; subst hy; rfl) (by simp [B8_len, pwl_len, maxLen]; omega) (by simp [B8_len, pwl_len]; omega) ?_; intro u1 w1 o1 b1 g1)
        | fail)
      go_roundw
      case rel =>
        refine ⟨m + 2, by omega, by omega, by go_num, ?_, b1⟩
        rw [pwl_succ, B8_append]; exact o1
      case measure => simp only [intOf]; omega
    · have em : Hid (k = 255) := Lib.hid (by omega)
      have HO := Lib.hid ho
      have HB := Lib.hid hb
      clear ho hb
      go_wp2
      go_ret
      exact ⟨_, rfl, by have := HO.out.rd; rw [em.out] at this ⊢; exact this, HB.out⟩

set_option maxHeartbeats 1600000 in
set_option maxRecDepth 100000 in
theorem rtables_calls (w : World) :
    Calls Try.prog 50 #[] w fun e w' => ∃ g1 g2 : Nat, e = .returned (.tuple #[.slice (some ⟨g1, 0, none⟩) 256 256, .slice (some ⟨g2, 0, none⟩) 256 256]) ∧
      w'.heap[g1]? = some (.cells (A8 256 fun i => sbox (BitVec.ofNat 8 i)) 5 (0, 0)) ∧ w'.heap[g2]? = some (.cells (A8 256 fun i => ibox (BitVec.ofNat 8 i)) 5 (0, 0)) ∧ Below w.heap.size w w' ∧ w.heap.size ≤ g1 ∧ w.heap.size ≤ g2 := by
  have hmk : ∀ w : World, (Instr.makeSlice 22 (.int .i64 256) (.int .i64 256)).run Try.prog w = .ok (.slice (some ⟨w.heap.size, 0, none⟩) 256 256) (w.alloc (.cells (A8 256 fun _ => 0#8) 5)) := fun w => by
    have := make8 slT8 256 (by decide) w
    rwa [zero_A8] at this
  go_enter Try.func50, Try.ntmps50
  go_wp2_with fail
  refine (powers_calls _).mono ?_
  rintro e w1 ⟨p, rfl, hp, b1⟩
  obtain ⟨b, off, c, rfl, -, -, hcell⟩ := hp.cell 0 (by rw [B8_len, pwl_len]; omega)
  rw [B8_len, pwl_len] at *
  have hbl : b < w1.heap.size := lt_of_cell (hcell 0 (by omega))
  have Hcell : Hid (∀ k, k < 255 → w1.cell? ⟨b, off + k, none⟩ = some (.int .u8 (n8 (pw k)))) := Lib.hid fun k hk => by
    rw [hcell k hk, B8_getD _ _ (by rw [pwl_len]; exact hk), pwl_get _ _ hk]
  clear hcell hp
  go_wp2_with fail
  have Hmk := Lib.hid hmk
  clear hmk
  go_loopw [4] (fun i wr => ∃ k : Nat, k ≤ 255 ∧ i = .int .i64 k ∧ wr.heap[w1.heap.size]? = some (.cells (A8 256 fun j => if lg (BitVec.ofNat 8 j) < k then ginv (BitVec.ofNat 8 j) else 0#8) 5 (0, 0)) ∧ Below w1.heap.size w1 wr) (fun i _ => 255 - (intOf i).toNat)
  case atStart => exact ⟨0, by omega, rfl, heap_alloc_new _ _, (Below.refl _ _).alloc (Nat.le_refl _) _⟩
  case round =>
    obtain ⟨k, hk, rfl, G, hB⟩ := hrel
    have HG := Lib.hid G
    have HB := Lib.hid hB
    by_cases hlt : k < 255
    · obtain ⟨n, hn, hn2⟩ : ∃ n : Nat, (255 - (k : Int)) % 255 = n ∧ n < 255 := ⟨(255 - k) % 255, by omega, by omega⟩
      have hpn : pw n = ginv (pw k) := by
        rw [← pw_inv ⟨k, hlt⟩]; congr 1; show n = (255 - k) % 255; omega
      have c1 := Hcell.out k hlt
      have c2 := Hcell.out n hn2
      rw [← hB.cell (lt_of_cell c1)] at c1
      rw [← hB.cell (lt_of_cell c2)] at c2
      have hlg := lg_pw ⟨k, hlt⟩
      simp only at hlg
      generalize pw k = x at c1 hpn hlg
      generalize pw n = y at c2 hpn
      have x0 := n8_lo x
      have x1 := n8_hi x
      have c3 := cell_of_row wr _ (n8 x).toNat _ _ _ G
      rw [A8_get _ _ _ (by omega)] at c3
      generalize (if lg (BitVec.ofNat 8 (n8 x).toNat) < k then ginv (BitVec.ofNat 8 (n8 x).toNat) else 0#8) = q at c3
      have f3 := frozen_of_row wr _ (n8 x).toNat _ _ G
      have Hlg := Lib.hid hlg
      have Hpn := Lib.hid hpn
      clear hlg hpn G hB
      go_wp2_with fail
      go_region
      all_goals
        go_wp2
        go_roundw
        case measure => simp only [intOf]; omega
        case rel =>
          refine ⟨k + 1, by omega, by go_num, ?_, (HB.out.setCell (Nat.le_refl _) _).drew⟩
          rw [heap_drew, heap_setCell_same _ _ _ _ _ _ HG.out, A8_set]
          congr 2
          refine A8_congr fun j hj => ?_
          by_cases e : j = (n8 x).toNat
          · rw [if_pos e, e, ofNat_n8, Hlg.out, if_pos (by omega), Hpn.out]
          · rw [if_neg e]
            have e2 : lg (BitVec.ofNat 8 j) ≠ k := by
              intro h
              apply e
              have hz : BitVec.ofNat 8 j ≠ 0#8 := by
                intro h0; rw [h0] at h; rw [← h] at hlt; revert hlt; decide +kernel
              have h2 := pw_lg _ hz
              have h3 : lg x < 255 := by rw [Hlg.out]; exact hlt
              have hz2 : x ≠ 0#8 := by intro h0; rw [h0] at h3; revert h3; decide +kernel
              have h4 := pw_lg _ hz2
              rw [h, ← Hlg.out, h4] at h2
              rw [h2]; unfold n8; simp; omega
            by_cases e3 : lg (BitVec.ofNat 8 j) < k
            · rw [if_pos e3, if_pos (by omega)]
            · rw [if_neg e3, if_neg (by omega)]
    · have em : Hid (k = 255) := Lib.hid (by omega)
      have HI : Hid (wr.heap[w1.heap.size]? = some (.cells (A8 256 fun j => ginv (BitVec.ofNat 8 j)) 5 (0, 0))) := Lib.hid (by
        rw [G]; congr 2
        refine A8_congr fun j hj => ?_
        by_cases hz : BitVec.ofNat 8 j = 0#8
        · rw [hz, ginv_zero]; split <;> rfl
        · rw [if_pos (by rw [em.out]; exact lg_lt _ hz)])
      have hb1 : Hid (Below w.heap.size w wr) := Lib.hid (b1.trans (hB.mono b1.size))
      have hgl : w1.heap.size < wr.heap.size := (Array.getElem?_eq_some_iff.1 G).1
      have hw1 := b1.size
      generalize w1.heap.size = h at *
      clear HG HB G hB Hcell
      go_upto_region 7 with fail
      go_cut [5, 6] (fun p q wx => ∃ g1 g2 : Nat, g1 ≠ g2 ∧ wr.heap.size ≤ g1 ∧ wr.heap.size ≤ g2 ∧ p = .slice (some ⟨g1, 0, none⟩) 256 256 ∧ q = .slice (some ⟨g2, 0, none⟩) 256 256
        ∧ wx.heap[g1]? = some (.cells (A8 256 fun _ => 0#8) 5 (0, 0)) ∧ wx.heap[g2]? = some (.cells (A8 256 fun _ => 0#8) 5 (0, 0)) ∧ Below wr.heap.size wr wx)
      case first =>
        have hmk := Hmk.out
        go_region
        all_goals
          go_wp2_with fail
          go_meet
          refine ⟨_, _, ?_, ?_, ?_, rfl, rfl, ?_, ?_, (((Below.refl _ _).alloc (Nat.le_refl _) _).alloc (by simp) _).drew⟩ <;> first | omega | exact heap_alloc2_old _ _ _ | exact heap_alloc2_new _ _ _
      case rest =>
        obtain ⟨g1, g2, n1, m1, m2, rfl, rfl, hg1, hg2, hB⟩ := hcut
        have HI2 : Hid (wc.heap[h]? = some (.cells (A8 256 fun j => ginv (BitVec.ofNat 8 j)) 5 (0, 0))) := Lib.hid ((hB.block _ hgl).trans HI.out)
        have hb2 : Hid (Below w.heap.size w wc) := Lib.hid (hb1.out.trans (hB.mono hb1.out.size))
        have hws := hb1.out.size
        have Hg1 := Lib.hid hg1
        have Hg2 := Lib.hid hg2
        clear Hmk hg1 hg2 hB
        have hh1 : h ≠ g1 := by omega
        have hh2 : h ≠ g2 := by omega
        go_wp2
        go_loopw [7] (fun i wr => ∃ k : Nat, k ≤ 256 ∧ i = .int .i64 k ∧ wr.heap[g1]? = some (.cells (A8 256 fun j => if j < k then sbox (BitVec.ofNat 8 j) else 0#8) 5 (0, 0))
          ∧ wr.heap[g2]? = some (.cells (A8 256 fun j => if (ibox (BitVec.ofNat 8 j)).toNat < k then ibox (BitVec.ofNat 8 j) else 0#8) 5 (0, 0))
          ∧ wr.heap[h]? = some (.cells (A8 256 fun j => ginv (BitVec.ofNat 8 j)) 5 (0, 0)) ∧ Below w.heap.size w wr) (fun i _ => 256 - (intOf i).toNat)
        case atStart => exact ⟨0, by omega, rfl, Hg1.out, Hg2.out, HI2.out, hb2.out⟩
        case round =>
          clear Hg1 Hg2 HI2 hb2 HI
          obtain ⟨a, ha, rfl, G1, G2, G3, hB⟩ := hrel
          have HG1 := Lib.hid G1
          have HG2 := Lib.hid G2
          have HG3 := Lib.hid G3
          have HB := Lib.hid hB
          by_cases hlt2 : a < 256
          · have hc := cell_of_row wr h a _ _ _ G3
            rw [A8_get _ _ _ hlt2] at hc
            generalize hcc : ginv (BitVec.ofNat 8 a) = cc at hc
            have Hcc := Lib.hid hcc
            have c0 := n8_lo cc
            have c1 := n8_hi cc
            clear hcc G1 G2 G3 hB
            go_wp2_with fail
            go_loop [9, 10] (fun s i => ∃ m : Nat, m ≤ 8 ∧ i = .int .i64 m ∧ s = .int .i64 (sAcc cc m : Int)) (fun _ i => 8 - (intOf i).toNat)
            case atStart => exact ⟨0, by omega, rfl, rfl⟩
            case round =>
              obtain ⟨m, hm, rfl, rfl⟩ := hrel
              by_cases hlt3 : m < 8
              · go_wp2_with fail
                go_loop [11, 12] (fun t i => ∃ q : Nat, q ≤ 4 ∧ i = .int .i64 ((q : Int) + 4) ∧ t = .int .i64 (ob (bitX cc m q))) (fun _ i => 8 - (intOf i).toNat)
                case atStart => exact ⟨0, by omega, rfl, rfl⟩
                case round =>
                  obtain ⟨q, hq, rfl, rfl⟩ := hrel
                  by_cases hlt4 : q < 4
                  · go_wp2
                    go_round
                    case rel => exact ⟨q + 1, by omega, by go_num, rfl⟩
                    case measure => simp only [intOf]; omega
                  · have em4 : Hid (bitX cc m q = bitX cc m 4) := Lib.hid (by rw [show q = 4 by omega])
                    have hacc := sAcc_lt cc m
                    have hp : 2 ^ m ≤ 2 ^ 7 := Nat.pow_le_pow_right (by decide) (by omega)
                    have hp0 : (0 : Int) ≤ (2 : Int) ^ m := Int.pow_nonneg (by decide)
                    have hp1 : (2 : Int) ^ m ≤ 128 := by exact_mod_cast hp
                    have ha2 : (sAcc cc m : Int) ≤ 127 := by omega
                    have hstep : sAcc cc (m + 1) = sAcc cc m + (if bitX cc m 4 then 2 ^ m else 0) := rfl
                    rw [← em4.out] at hstep
                    have Hstep := Lib.hid hstep
                    clear hstep em4 hacc hp
                    generalize bitX cc m q = bb at Hstep
                    generalize sAcc cc m = acc at ha2 Hstep
                    cases bb
                    · rw [show ob false = 0 from rfl]
                      go_wp2
                      go_round
                      case rel => exact ⟨m + 1, by omega, by go_num, by rw [Hstep.out]; simp⟩
                      case measure => simp only [intOf]; omega
                    · rw [show ob true = 1 from rfl]
                      go_wp2
                      go_round
                      case rel => exact ⟨m + 1, by omega, by go_num, by rw [Hstep.out]; simp⟩
                      case measure => simp only [intOf]; omega
              · have hs : (sAcc cc m : Int) = n8 (sboxOf cc ^^^ 99#8) := by rw [show m = 8 by omega, sAcc_is]; rfl
                rw [hs]
                have hx := zxor99 (sboxOf cc ^^^ 99#8)
                rw [BitVec.xor_assoc, BitVec.xor_self, BitVec.xor_zero] at hx
                have hsb : Hid (sboxOf cc = sbox (BitVec.ofNat 8 a)) := Lib.hid (by rw [← Hcc.out, sbox_is])
                generalize sboxOf cc ^^^ 99#8 = t at hx
                generalize sboxOf cc = s at hx hsb
                have s0 := n8_lo s
                have s1 := n8_hi s
                have d1 := cell_of_row wr g1 a _ _ _ HG1.out
                rw [A8_get _ _ _ hlt2] at d1
                generalize (if a < a then sbox (BitVec.ofNat 8 a) else 0#8) = q1 at d1
                have f1 := frozen_of_row wr g1 a _ _ HG1.out
                have d2 := cell_of_row wr g2 (n8 s).toNat _ _ _ HG2.out
                rw [A8_get _ _ _ (by omega)] at d2
                generalize (if (ibox (BitVec.ofNat 8 (n8 s).toNat)).toNat < a then ibox (BitVec.ofNat 8 (n8 s).toNat) else 0#8) = q2 at d2
                have f2 := frozen_of_row wr g2 (n8 s).toNat _ _ HG2.out
                clear hs
                go_wp2
                go_roundw
                case measure => simp only [intOf]; omega
                case rel =>
                  have hav : (a : Int) = n8 (BitVec.ofNat 8 a) := by simp [n8]; omega
                  refine ⟨a + 1, by omega, by go_num, ?_, ?_, ?_, (HB.out.setCell (show w.heap.size ≤ g1 by omega) _).setCell (show w.heap.size ≤ g2 by omega) _⟩
                  · rw [heap_setCell_other _ _ _ _ n1, heap_setCell_same _ _ _ _ _ _ HG1.out, A8_set]
                    congr 2
                    refine A8_congr fun j hj => ?_
                    by_cases e : j = a
                    · subst e; rw [if_pos rfl, if_pos (by omega), hsb.out]
                    · rw [if_neg e]
                      by_cases e2 : j < a
                      · rw [if_pos e2, if_pos (by omega)]
                      · rw [if_neg e2, if_neg (by omega)]
                  · rw [hav, heap_setCell_same _ _ _ _ _ _ ((heap_setCell_other _ _ _ _ n1.symm).trans HG2.out), A8_set]
                    congr 2
                    refine A8_congr fun j hj => ?_
                    have hk8 : (BitVec.ofNat 8 a).toNat = a := by simp; omega
                    by_cases e : j = (n8 s).toNat
                    · rw [if_pos e]
                      have e2 : BitVec.ofNat 8 j = s := by rw [e, ofNat_n8]
                      rw [e2, hsb.out, ibox_sbox, if_pos (by rw [hk8]; omega)]
                    · rw [if_neg e]
                      have e3 : (ibox (BitVec.ofNat 8 j)).toNat ≠ a := by
                        intro h
                        apply e
                        have h2 : ibox (BitVec.ofNat 8 j) = BitVec.ofNat 8 a := BitVec.eq_of_toNat_eq (by rw [h, hk8])
                        have h3 : BitVec.ofNat 8 j = s := by rw [hsb.out, ← h2, sbox_ibox]
                        rw [← h3]; unfold n8; simp; omega
                      by_cases e2 : (ibox (BitVec.ofNat 8 j)).toNat < a
                      · rw [if_pos e2, if_pos (by omega)]
                      · rw [if_neg e2, if_neg (by omega)]
                  · rw [heap_setCell_other _ _ _ _ hh2, heap_setCell_other _ _ _ _ hh1, HG3.out]
          · have em2 : Hid (a = 256) := Lib.hid (by omega)
            clear G1 G2 G3 hB
            go_wp2
            go_ret2
            refine ⟨g1, g2, rfl, ?_, ?_, HB.out, by omega, by omega⟩
            · rw [HG1.out]; congr 2; exact A8_congr fun j hj => if_pos (by rw [em2.out]; exact hj)
            · rw [HG2.out]; congr 2; exact A8_congr fun j hj => if_pos (by rw [em2.out]; exact (ibox _).isLt)

end Go.Proofs.Ytmbnclpgldglnaa
end
section
namespace Go.Proofs.Ytmbnclpgldglnaa
open Go.RowKit
set_option linter.unusedVariables false
set_option linter.unusedSimpArgs false
set_option maxRecDepth 20000
theorem rmul_spec (a b : UInt8) : Spec Try.prog 51 [.int .u8 (a.toNat : Int), .int .u8 (b.toNat : Int)] (.k (.int .u8 ((mulB a b).toNat : Int))) := by
  refine spec_calls ⟨_, Try.func51, rfl, rfl⟩ fun K w vs hk ha => ?_
  obtain ⟨u, v, rfl, g0, g1⟩ := args2 ha
  rw [kint_inv g0, kint_inv g1]
  refine (rmul_calls a.toBitVec b.toBitVec w).mono ?_
  rintro e w' ⟨rfl, rfl⟩
  exact ⟨_, rfl, Below.refl _ _, .int _ _⟩
theorem k_of_A8 {K : Kd} {w : World} {N g : Nat} {f : Nat → BitVec 8} (h : w.heap[g]? = some (.cells (A8 256 f) 5 (0, 0))) (hN : N ≤ g) :
    KRep (K.wide N w) (.sl false 256 (aOfBytes ((List.range 256).map fun i => UInt8.ofBitVec (f i)))) (.slice (some ⟨g, 0, none⟩) 256 256) := by
  have hc : ∀ i, i < 256 → w.cell? ⟨g, i, none⟩ = some (.int .u8 (n8 (f i))) := fun i hi => by
    rw [cell_of_row w g i _ _ _ h, A8_get _ _ _ hi]
  have hN' : ¬ g < N := by omega
  have hl : (aOfBytes ((List.range 256).map fun i => UInt8.ofBitVec (f i))).length = 256 := by simp [aOfBytes]
  have hv : ∀ i, i < 256 → (K.wide N w).val g (0 + i) = .int .u8 (n8 (f i)) := fun i hi => by
    rw [Nat.zero_add]; simp only [Kd.wide, hN', if_false]; exact val_of (hc i hi)
  refine .sl _ _ _ _ _ _ (Nat.le_refl _) (by decide) (fun q => by cases q) ⟨?_, fun i hi => ?_⟩ fun i x hx => ?_
  · rw [hl]
    have := hw_of (hc 255 (by omega))
    simp only [Kd.wide, hN', if_false]; omega
  · rw [hl] at hi; rw [hv i hi]; rfl
  · have hi : i < 256 := by have := getq_lt hx; rw [hl] at this; exact this
    rw [hv i hi]
    have : x = .int .u8 (n8 (f i)) := by
      simp [aOfBytes, hi] at hx
      rw [← hx]; simp [n8]
    subst this
    exact .int _ _
theorem rtables_spec : Spec Try.prog 50 [] (.k (.tup [.sl false 256 (aOfBytes sL), .sl false 256 (aOfBytes iL)])) := by
  refine spec_calls ⟨_, Try.func50, rfl, rfl⟩ fun K w vs hk ha => ?_
  obtain rfl : vs = #[] := Array.eq_empty_of_size_eq_zero ha.1
  refine (rtables_calls w).mono ?_
  rintro e w' ⟨g1, g2, rfl, h1, h2, b, m1, m2⟩
  exact ⟨_, rfl, b, krep_pair (k_of_A8 h1 m1) (k_of_A8 h2 m2)⟩
end Go.Proofs.Ytmbnclpgldglnaa
end
section
namespace Go.Proofs.Ytmbnclpgldglnaa
open Go.RowKit
set_option linter.unusedVariables false
set_option linter.unusedSimpArgs false
set_option maxRecDepth 20000
/-! the document's cipher: its words -/
def wd (key T : List UInt8) (n i : Nat) : List UInt8 :=
  if i < n then (key.drop (4 * i)).take 4 else (List.range 4).map (exF (exW key T n i) (exT T n i (exP n i) (exL (exW key T n i) i)) n i)
theorem exW_wd (key T : List UInt8) (n i : Nat) : exW key T n (i + 1) = exW key T n i ++ wd key T n i := rfl
theorem wd_len {key T : List UInt8} {n : Nat} (hk : key.length = 4 * n) (i : Nat) : (wd key T n i).length = 4 := by
  have h1 := exW_len (T := T) hk (i + 1)
  rw [exW_wd, List.length_append, exW_len hk] at h1
  omega
theorem exL_wd {key T : List UInt8} {n : Nat} (hk : key.length = 4 * n) (i : Nat) : exL (exW key T n (i + 1)) (i + 1) = wd key T n i := by
  rw [exL, exW_wd, Nat.add_sub_cancel, List.drop_left' (exW_len hk i), List.take_of_length_le (by rw [wd_len hk]; omega)]
theorem exW_get {key T : List UInt8} {n : Nat} (hk : key.length = 4 * n) (m j k : Nat) (hj : j < 4) (hm : m < k) : (exW key T n k).getD (m * 4 + j) 0 = (wd key T n m).getD j 0 := by
  induction k with
  | zero => omega
  | succ k ih =>
    rw [exW_wd]
    by_cases h : m < k
    · rw [getD_app _ _ _ (by rw [exW_len hk]; omega), ih h]
    · have : m = k := by omega
      subst this
      rw [List.getD_eq_getElem?_getD, List.getElem?_append_right (by rw [exW_len hk]; omega), exW_len hk, Nat.add_sub_cancel_left, List.getD_eq_getElem?_getD]
def wcs (key T : List UInt8) (n i : Nat) : List AV := (List.range i).map (fun j => .sl false 4 (aOfBytes (wd key T n j)))
theorem wcs_next (key T : List UInt8) (n i : Nat) : wcs key T n (i + 1) = wcs key T n i ++ [.sl false 4 (aOfBytes (wd key T n i))] := by simp [wcs, List.range_succ]
theorem wcs_len (key T : List UInt8) (n i : Nat) : (wcs key T n i).length = i := by simp [wcs]
theorem wcs_get {key T : List UInt8} {n i j : Nat} (e : TypeId) (h : j < i) : ldAgg (.sl e) 1 (List.drop j (wcs key T n i)) = some (.sl false 4 (aOfBytes (wd key T n j))) := by
  simp only [ldAgg]
  rw [List.head?_drop]
  simp [wcs, h]
/-- the cipher's cells -/
def rcp (key T B : List UInt8) (n N : Nat) : List AV := [.sl false 256 (aOfBytes T), .sl false 256 (aOfBytes B), .sl false N (wcs key T n N)]
theorem rmul2 (a : UInt8) : Spec Try.prog 51 [.int .u8 (a.toNat : Int), .int .u8 2] (.k (.int .u8 ((mulB a 2).toNat : Int))) := rmul_spec a 2
/-- one word more -/
theorem word_step {key T : List UInt8} {n i : Nat} {pw0 pw9 t1 t2 t3 : List UInt8} {fu fx : Nat → UInt8} (hk : key.length = 4 * n) (h4 : n = 4 ∨ n = 6 ∨ n = 8) (hin : ¬ i < n) (hi0 : 0 < i)
    (hpw : pw0 = wd key T n (i - 1)) (hpw9 : pw9 = wd key T n (i - n)) (ht1 : t1 = if i % n = 0 then [pw0.getD 1 0, pw0.getD 2 0, pw0.getD 3 0, pw0.getD 0 0] else pw0)
    (hfu : fu = fun k => T.getD (t1.getD k 0).toNat 0) (ht2 : t2 = if (i % n = 0 ∨ (n = 8 ∧ i % 8 = 4)) then setN fu t1 4 else t1)
    (ht3 : t3 = if i % n = 0 then t2.set 0 (t2.getD 0 0 ^^^ exP n i) else t2) (hfx : fx = fun k => t3.getD k 0 ^^^ pw9.getD k 0) : setN fx t3 4 = wd key T n i := by
  have hwp : pw0.length = 4 := by rw [hpw]; exact wd_len hk _
  have hL : exL (exW key T n i) i = pw0 := by
    have := exL_wd (T := T) hk (i - 1)
    rw [show i - 1 + 1 = i by omega, ← hpw] at this; exact this
  have ht1l : t1.length = 4 := by rw [ht1]; split <;> first | rfl | exact hwp
  have ht2l : t2.length = 4 := by rw [ht2]; split <;> first | (rw [setN_len]; exact ht1l) | exact ht1l
  have ht3l : t3.length = 4 := by rw [ht3]; split <;> first | (rw [List.length_set]; exact ht2l) | exact ht2l
  have hT3 : exT T n i (exP n i) pw0 = t3 := by
    by_cases hm : i % n = 0
    · rw [if_pos hm] at ht1 ht3
      rw [if_pos (.inl hm), setN_all fu t1 4 ht1l] at ht2
      rw [exT, if_pos hm, ht3, ht2, hfu, ht1]
      rfl
    · rw [if_neg hm] at ht1 ht3
      rw [exT, if_neg hm]
      by_cases h8 : n = 8 ∧ i % 8 = 4
      · rw [if_pos (.inr h8), setN_all fu t1 4 ht1l] at ht2
        rw [if_pos ⟨by omega, by rw [h8.1]; exact h8.2⟩, ht3, ht2, hfu, ht1]
      · rw [if_neg (fun c => by rcases c with c | c; exact hm c; exact h8 c)] at ht2
        rw [if_neg (fun c => h8 (by have : n = 8 := by omega
                                    subst this; exact ⟨rfl, c.2⟩)), ht3, ht2, ht1]
  rw [setN_all fx t3 4 ht3l, wd, if_neg hin]
  refine List.map_congr_left fun j hj => ?_
  have hj4 : j < 4 := by simpa using hj
  rw [hL, hT3, hfx, exF, exW_get hk (i - n) j i hj4 (by omega), ← hpw9, UInt8.xor_comm]
theorem wk_cp {cs ds : List AV} (h : WkL cs ds) : Wk (.cp cs) (.cp ds) := fun K v hv => by
  cases hv with
  | cp cells b o h1 h3 =>
    refine .cp ds b o (by rw [h.1]; exact h1) fun i y hy => ?_
    have hi : i < cs.length := by have := getq_lt hy; rw [h.1] at this; exact this
    exact h.2 i cs[i] y (List.getElem?_eq_getElem hi) hy _ _ (h3 i cs[i] (List.getElem?_eq_getElem hi))
theorem wk_tup2 {a b c d : AV} (h1 : Wk a c) (h2 : Wk b d) : Wk (.tup [a, b]) (.tup [c, d]) := by
  intro K v hv
  cases hv with
  | tup cells vs hl h =>
    refine .tup _ _ hl fun i x u hx hu => ?_
    match i with
    | 0 => simp at hx; subst hx; exact h1 _ _ (h 0 _ _ rfl hu)
    | 1 => simp at hx; subst hx; exact h2 _ _ (h 1 _ _ rfl hu)
    | i + 2 => simp at hx
theorem end2W {P : Program} {rs : List ResultVar} {tys : List TypeId} {t t' : Nat} {u u' : TypeId} {v v' r : AV} {s : St} (h1 : rs = [.tmp t, .tmp t']) (h2 : tys = [u, u']) (h3 : aArg P s u (s.fr t) = some v) (h3' : aArg P s u' (s.fr t') = some v') (h4 : Wk (.tup [v, v']) r) : aEndK P rs tys s r := by
  subst h1; subst h2; simp only [aEndK, aOuts, h3, h3', oneOf]; exact h4
end Go.Proofs.Ytmbnclpgldglnaa
end
section
namespace Go.Proofs.Ytmbnclpgldglnaa
open Go.RowKit
set_option linter.unusedVariables false
set_option linter.unusedSimpArgs false
set_option maxRecDepth 20000
/-! each byte stood for, and moved -/
def shIdx (way : Int) (i : Nat) : Nat := (((i : Int) / 4 + way * ((i : Int) % 4) + 16) % 4 * 4 + (i : Int) % 4).toNat
def shiftF (T b : List UInt8) (way : Int) (i : Nat) : UInt8 := T.getD (b.getD (shIdx way i) 0).toNat 0
def shiftB (T b : List UInt8) (way : Int) : List UInt8 := (List.range 16).map (shiftF T b way)
theorem shiftB_len (T b : List UInt8) (way : Int) : (shiftB T b way).length = 16 := by simp [shiftB]
theorem shIdx_lt {way : Int} (hw : way = 1 ∨ way = -1) (i : Nat) : shIdx way i < 16 := by unfold shIdx; rcases hw with rfl | rfl <;> omega
set_option maxHeartbeats 8000000 in
theorem shift_spec (T b : List UInt8) (D : List AV) (way : Int) (hw : way = 1 ∨ way = -1) (hD : 256 ≤ D.length) (hT : ∀ i, i < 256 → ldAgg (.int .u8) 1 (List.drop i D) = some (.int .u8 ((T.getD i 0).toNat : Int))) (hb : b.length = 16) :
    Spec Try.prog 81 [.agg (aOfBytes b), .cp D, .int .i64 way] (.k (.agg (aOfBytes (shiftB T b way)))) := by
  refine spec_of (fun _ => false) (by kernel_rfl) Try.func81 rfl rfl (by simp [Try.ntmps81]) (by decide) ?_
  intro δ
  rw [init3]
  have hba := aOfBytes_len b
  repeat (first | with_reducible (first | refine aWp_seq ?_ | refine seq_normal ?_ | refine seq_ret ?_ | refine seq_exit ?_ | refine blk_normal ?_ | refine blk_ret ?_ | refine blk_hit ?_ | refine blk_miss rfl ?_ | refine aWp_ret ?_ | refine aWp_skip ?_ | refine aWp_block ?_ | refine aWp_exit ?_ | refine end_ret ?_ | refine end_normal ?_) | ((refine rgA ?_); intro ν) | ((with_reducible apply cndT); exact rfl; (first | rfl | assumption)) | ((with_reducible apply cndF); exact rfl; (first | rfl | assumption)))
  refine aWp_loop (fun m s => ∃ F Tb ν i g3 g6 g7, m = 16 - i ∧ i ≤ 16 ∧ s = ⟨F, Tb, ν, ⟨fun _ => false, δ, false⟩⟩ ∧
    F 1 = .k (.cp D) ∧ F 2 = .k (.int .i64 way) ∧ F 3 = .ob 3 g3 0 ∧ F 6 = .ob 6 g6 0 ∧ F 7 = .ob 7 g7 0 ∧ F 11 = .k (.int .i64 (i : Nat)) ∧ Tb 3 = some (g3, .obj (aOfBytes b)) ∧ Tb 6 = some (g6, .obj (List.replicate 16 (.int .u8 0))) ∧ Tb 7 = some (g7, .obj (aOfBytes ((List.range i).map (shiftF T b way)) ++ List.replicate (16 - i) (.int .u8 0)))) 16 ⟨_, _, _, 0, _, _, _, rfl, Nat.zero_le _, rfl, rfl, rfl, rfl, rfl, rfl, rfl, rfl, rfl, rfl⟩ ?_
  rintro m s ⟨F, Tb, ν, i, g3, g6, g7, rfl, hi, rfl, f1, f2, f3, f6, f7, f11, t3, t6, t7⟩
  rw [has6 f1 f2 f3 f6 f7 f11, has3 t3 t6 t7]
  have hsl := rng_len (shiftF T b way) i
  have hsa := aOfBytes_len ((List.range i).map (shiftF T b way))
  have hlen : (aOfBytes ((List.range i).map (shiftF T b way)) ++ List.replicate (16 - i) (AV.int .u8 0)).length = 16 := by rw [List.length_append, hsa, hsl, List.length_replicate]; omega
  by_cases hlt : i < 16
  · have hst := fill_next (xs := aOfBytes ((List.range i).map (shiftF T b way))) (z := AV.int .u8 0) (v := .int .u8 ((shiftF T b way i).toNat : Int)) (t := i) (n := 16) (by omega) hlt
    have l1 := ld_b b (shIdx way i) (by have := shIdx_lt hw i; omega)
    have l2 := hT (b.getD (shIdx way i) 0).toNat (by have := (b.getD (shIdx way i) 0).toNat_lt; omega)
    have e1 : T.getD (b.getD (shIdx way i) 0).toNat 0 = shiftF T b way i := rfl
    rw [e1] at l2
    have hx := (b.getD (shIdx way i) 0).toNat_lt
    unfold shIdx at l1 l2 hx
    rcases hw with rfl | rfl
    iterate 2
      · repeat (first | with_reducible (first | refine aWp_seq ?_ | refine seq_normal ?_ | refine seq_ret ?_ | refine seq_exit ?_ | refine blk_normal ?_ | refine blk_ret ?_ | refine blk_hit ?_ | refine blk_miss rfl ?_ | refine aWp_ret ?_ | refine aWp_skip ?_ | refine aWp_block ?_ | refine aWp_exit ?_ | refine end_ret ?_ | refine end_normal ?_) | ((refine rgA ?_); intro ν) | ((with_reducible apply cndT); exact rfl; (first | rfl | assumption)) | ((with_reducible apply cndF); exact rfl; (first | rfl | assumption)))
        refine rgxA [(13,[3],[]),(18,[7],[7])] ?_
        intro ν
        repeat (first | with_reducible (first | refine aWp_seq ?_ | refine seq_normal ?_ | refine seq_ret ?_ | refine seq_exit ?_ | refine blk_normal ?_ | refine blk_ret ?_ | refine blk_hit ?_ | refine blk_miss rfl ?_ | refine aWp_ret ?_ | refine aWp_skip ?_ | refine aWp_block ?_ | refine aWp_exit ?_ | refine end_ret ?_ | refine end_normal ?_) | ((refine rgA ?_); intro ν) | ((with_reducible apply cndT); exact rfl; (first | rfl | assumption)) | ((with_reducible apply cndF); exact rfl; (first | rfl | assumption)))
        refine ⟨16 - (i + 1), by omega, _, _, _, i + 1, g3, g6, g7, rfl, by omega, rfl, rfl, rfl, rfl, rfl, rfl, ?_, rfl, rfl, ?_⟩
        · show (SV.k (.int .i64 ((i : Int) + 1)) : SV) = _
          rw [Int.natCast_succ]
        · rw [upd_same]
          exact congrArg (fun q => some (g7, Ent.obj q)) (hst.trans (by rw [rng_next, aOfBytes_append]; rfl))
  · have hie : i = 16 := by omega
    subst hie
    rw [Nat.sub_self, List.replicate_zero, List.append_nil] at hlen ⊢
    clear t7
    rw [shiftB]
    generalize (List.range 16).map (shiftF T b way) = out at *
    have e2 := ld_arr (n := 16) (e := 5) (aOfBytes out) (sz := 16) (by omega)
    repeat (first | with_reducible (first | refine aWp_seq ?_ | refine seq_normal ?_ | refine seq_ret ?_ | refine seq_exit ?_ | refine blk_normal ?_ | refine blk_ret ?_ | refine blk_hit ?_ | refine blk_miss rfl ?_ | refine aWp_ret ?_ | refine aWp_skip ?_ | refine aWp_block ?_ | refine aWp_exit ?_ | refine end_ret ?_ | refine end_normal ?_) | ((refine rgA ?_); intro ν) | ((with_reducible apply cndT); exact rfl; (first | rfl | assumption)) | ((with_reducible apply cndF); exact rfl; (first | rfl | assumption)))
    rw [drop_rep, List.append_nil]
    (first | with_reducible refine end_r ?_ | with_reducible refine end_n ?_); refine en1c ?_
    rfl
/-! each column, by four numbers -/
def mixAcc (b c : List UInt8) (i : Nat) : Nat → UInt8
  | 0 => 0
  | k + 1 => mixAcc b c i k ^^^ mulB (b.getD (i / 4 * 4 + (i + k) % 4) 0) (c.getD k 0)
def mixF (b c : List UInt8) (i : Nat) : UInt8 := mixAcc b c i 4
def mixB (b c : List UInt8) : List UInt8 := (List.range 16).map (mixF b c)
theorem mixB_len (b c : List UInt8) : (mixB b c).length = 16 := by simp [mixB]
def mixO (b c : List UInt8) (i k : Nat) : List UInt8 := (List.range i).map (mixF b c) ++ mixAcc b c i k :: List.replicate (15 - i) 0
theorem mixO_len (b c : List UInt8) (i k : Nat) (h : i < 16) : (mixO b c i k).length = 16 := by simp [mixO]; omega
theorem mixO_get (b c : List UInt8) (i k : Nat) : (mixO b c i k).getD i 0 = mixAcc b c i k := by
  unfold mixO
  rw [List.getD_eq_getElem?_getD, List.getElem?_append_right (by simp)]
  simp
theorem mixO_next (b c : List UInt8) (i k : Nat) : (mixO b c i k).set i (mixAcc b c i (k + 1)) = mixO b c i (k + 1) := by
  unfold mixO
  rw [List.set_append_right _ _ (by simp)]
  simp
theorem mixO_0 (b c : List UInt8) (i : Nat) (h : i < 16) : aOfBytes ((List.range i).map (mixF b c)) ++ List.replicate (16 - i) (AV.int .u8 0) = aOfBytes (mixO b c i 0) := by
  unfold mixO
  rw [aOfBytes_append]
  congr 1
  rw [show 16 - i = (15 - i) + 1 by omega, List.replicate_succ]
  simp [aOfBytes, mixAcc]
theorem mixO_4 (b c : List UInt8) (i : Nat) (h : i < 16) : aOfBytes (mixO b c i 4) = aOfBytes ((List.range (i + 1)).map (mixF b c)) ++ List.replicate (16 - (i + 1)) (AV.int .u8 0) := by
  unfold mixO
  rw [rng_next, aOfBytes_append, aOfBytes_append, List.append_assoc]
  congr 1
  rw [show 16 - (i + 1) = 15 - i by omega]
  simp [aOfBytes, mixF]
set_option maxHeartbeats 8000000 in
theorem mix_spec (b c : List UInt8) (hb : b.length = 16) (hc : c.length = 4) : Spec Try.prog 82 [.agg (aOfBytes b), .agg (aOfBytes c)] (.k (.agg (aOfBytes (mixB b c)))) := by
  refine spec_of (fun _ => false) (by kernel_rfl) Try.func82 rfl rfl (by simp [Try.ntmps82]) (by decide) ?_
  intro δ
  rw [init2]
  have hba := aOfBytes_len b
  have hca := aOfBytes_len c
  have lc := ld_arr (n := 4) (e := 5) (aOfBytes c) (sz := 4) (by omega)
  repeat (first | with_reducible (first | refine aWp_seq ?_ | refine seq_normal ?_ | refine seq_ret ?_ | refine seq_exit ?_ | refine blk_normal ?_ | refine blk_ret ?_ | refine blk_hit ?_ | refine blk_miss rfl ?_ | refine aWp_ret ?_ | refine aWp_skip ?_ | refine aWp_block ?_ | refine aWp_exit ?_ | refine end_ret ?_ | refine end_normal ?_) | ((refine rgA ?_); intro ν) | ((with_reducible apply cndT); exact rfl; (first | rfl | assumption)) | ((with_reducible apply cndF); exact rfl; (first | rfl | assumption)))
  refine aWp_loop (fun m s => ∃ F Tb ν i g2 g3 g4 g5, m = 16 - i ∧ i ≤ 16 ∧ s = ⟨F, Tb, ν, ⟨fun _ => false, δ, false⟩⟩ ∧
    F 2 = .ob 2 g2 0 ∧ F 3 = .ob 3 g3 0 ∧ F 4 = .ob 4 g4 0 ∧ F 5 = .ob 5 g5 0 ∧ F 9 = .k (.int .i64 (i : Nat)) ∧ Tb 2 = some (g2, .obj (aOfBytes b)) ∧ Tb 3 = some (g3, .obj (aOfBytes c)) ∧ Tb 4 = some (g4, .obj (List.replicate 16 (.int .u8 0))) ∧ Tb 5 = some (g5, .obj (aOfBytes ((List.range i).map (mixF b c)) ++ List.replicate (16 - i) (.int .u8 0)))) 16 ⟨_, _, _, 0, _, _, _, _, rfl, Nat.zero_le _, rfl, rfl, rfl, rfl, rfl, rfl, rfl, rfl, rfl, rfl⟩ ?_
  rintro m s ⟨F, Tb, ν, i, g2, g3, g4, g5, rfl, hi, rfl, f2, f3, f4, f5, f9, t2, t3, t4, t5⟩
  rw [has5 f2 f3 f4 f5 f9, has4 t2 t3 t4 t5]
  have hsl := rng_len (mixF b c) i
  have hsa := aOfBytes_len ((List.range i).map (mixF b c))
  by_cases hlt : i < 16
  · rw [mixO_0 b c i hlt]
    repeat (first | with_reducible (first | refine aWp_seq ?_ | refine seq_normal ?_ | refine seq_ret ?_ | refine seq_exit ?_ | refine blk_normal ?_ | refine blk_ret ?_ | refine blk_hit ?_ | refine blk_miss rfl ?_ | refine aWp_ret ?_ | refine aWp_skip ?_ | refine aWp_block ?_ | refine aWp_exit ?_ | refine end_ret ?_ | refine end_normal ?_) | ((refine rgA ?_); intro ν) | ((with_reducible apply cndT); exact rfl; (first | rfl | assumption)) | ((with_reducible apply cndF); exact rfl; (first | rfl | assumption)))
    refine aWp_loop (fun m s => ∃ F Tb ν k g2 g3 g4 g5, m = 4 - k ∧ k ≤ 4 ∧ s = ⟨F, Tb, ν, ⟨fun _ => false, δ, false⟩⟩ ∧
      F 2 = .ob 2 g2 0 ∧ F 3 = .ob 3 g3 0 ∧ F 4 = .ob 4 g4 0 ∧ F 5 = .ob 5 g5 0 ∧ F 6 = .k (.int .i64 (i : Nat)) ∧ F 9 = .k (.int .i64 (i : Nat)) ∧ F 12 = .k (.agg (aOfBytes c)) ∧ F 13 = .k (.int .i64 (k : Nat)) ∧ Tb 2 = some (g2, .obj (aOfBytes b)) ∧ Tb 3 = some (g3, .obj (aOfBytes c)) ∧ Tb 4 = some (g4, .obj (List.replicate 16 (.int .u8 0))) ∧ Tb 5 = some (g5, .obj (aOfBytes (mixO b c i k)))) 4 ⟨_, _, _, 0, _, _, _, _, rfl, Nat.zero_le _, rfl, rfl, rfl, rfl, rfl, rfl, rfl, rfl, rfl, rfl, rfl, rfl, rfl⟩ ?_
    rintro m s ⟨F, Tb, ν, k, g2, g3, g4, g5, rfl, hk, rfl, f2, f3, f4, f5, f6, f9, f12, f13, t2, t3, t4, t5⟩
    rw [has8 f2 f3 f4 f5 f6 f9 f12 f13, has4 t2 t3 t4 t5]
    have hol := mixO_len b c i k hlt
    have hoa := aOfBytes_len (mixO b c i k)
    by_cases hlk : k < 4
    · have l0 := ld_b (mixO b c i k) i (by omega)
      rw [mixO_get] at l0
      have l1 := ld_b b (((i : Int) / 4 * 4 + ((i : Int) + (k : Int)) % 4).toNat) (by omega)
      have lw : ldAgg (.int .u8) 1 (List.drop ((k : Int).toNat * 1) (aOfBytes c)) = some (.int .u8 ((c.getD k 0).toNat : Int)) := by
        rw [Int.toNat_natCast, Nat.mul_one]; exact ld_b c k (by omega)
      have s1 := mulB_spec (b.getD (((i : Int) / 4 * 4 + ((i : Int) + (k : Int)) % 4).toNat) 0) (c.getD k 0)
      have e1 : mixAcc b c i k ^^^ mulB (b.getD (((i : Int) / 4 * 4 + ((i : Int) + (k : Int)) % 4).toNat) 0) (c.getD k 0) = mixAcc b c i (k + 1) := by
        rw [show ((i : Int) / 4 * 4 + ((i : Int) + (k : Int)) % 4).toNat = i / 4 * 4 + (i + k) % 4 by omega]; rfl
      have hst := set_b (mixO b c i k) (mixAcc b c i (k + 1)) i (by omega)
      rw [mixO_next, ← e1] at hst
      repeat (first | with_reducible (first | refine aWp_seq ?_ | refine seq_normal ?_ | refine seq_ret ?_ | refine seq_exit ?_ | refine blk_normal ?_ | refine blk_ret ?_ | refine blk_hit ?_ | refine blk_miss rfl ?_ | refine aWp_ret ?_ | refine aWp_skip ?_ | refine aWp_block ?_ | refine aWp_exit ?_ | refine end_ret ?_ | refine end_normal ?_) | ((refine rgA ?_); intro ν) | ((with_reducible apply cndT); exact rfl; (first | rfl | assumption)) | ((with_reducible apply cndF); exact rfl; (first | rfl | assumption)))
      refine rgx [(2,[5],[]),(12,[2],[]),(17,[5],[5])] (by kernel_rfl) fun K hK => ?_
      refine stxA ?_
      ((first | ((with_reducible refine x0 ?_ ?_); exact rfl) | ((with_reducible refine x1 ?_ ?_ ?_); exact rfl; (with_reducible apply gt_); exact rfl; exact rfl; (first | rfl | assumption | (simp [*] <;> done)))); refine xcA (h2 := (s1)) (hk := ?_))
      refine stxA ?_
      with_reducible refine xz ?_
      refine hK _ _ _ ?_
      clear hK K; intro ν
      repeat (first | with_reducible (first | refine aWp_seq ?_ | refine seq_normal ?_ | refine seq_ret ?_ | refine seq_exit ?_ | refine blk_normal ?_ | refine blk_ret ?_ | refine blk_hit ?_ | refine blk_miss rfl ?_ | refine aWp_ret ?_ | refine aWp_skip ?_ | refine aWp_block ?_ | refine aWp_exit ?_ | refine end_ret ?_ | refine end_normal ?_) | ((refine rgA ?_); intro ν) | ((with_reducible apply cndT); exact rfl; (first | rfl | assumption)) | ((with_reducible apply cndF); exact rfl; (first | rfl | assumption)))
      refine ⟨4 - (k + 1), by omega, _, _, _, k + 1, g2, g3, g4, g5, rfl, by omega, rfl, rfl, rfl, rfl, rfl, rfl, rfl, rfl, ?_, rfl, rfl, rfl, ?_⟩
      · show (SV.k (.int .i64 ((k : Int) + 1)) : SV) = _
        rw [Int.natCast_succ]
      · rw [upd_same]
        exact congrArg (fun q => some (g5, Ent.obj q)) hst
    · have hke : k = 4 := by omega
      subst hke
      rw [mixO_4 b c i hlt]
      repeat (first | with_reducible (first | refine aWp_seq ?_ | refine seq_normal ?_ | refine seq_ret ?_ | refine seq_exit ?_ | refine blk_normal ?_ | refine blk_ret ?_ | refine blk_hit ?_ | refine blk_miss rfl ?_ | refine aWp_ret ?_ | refine aWp_skip ?_ | refine aWp_block ?_ | refine aWp_exit ?_ | refine end_ret ?_ | refine end_normal ?_) | ((refine rgA ?_); intro ν) | ((with_reducible apply cndT); exact rfl; (first | rfl | assumption)) | ((with_reducible apply cndF); exact rfl; (first | rfl | assumption)))
      refine ⟨16 - (i + 1), by omega, _, _, _, i + 1, g2, g3, g4, g5, rfl, by omega, rfl, rfl, rfl, rfl, rfl, ?_, rfl, rfl, rfl, rfl⟩
      show (SV.k (.int .i64 ((i : Int) + 1)) : SV) = _
      rw [Int.natCast_succ]
  · have hie : i = 16 := by omega
    subst hie
    rw [Nat.sub_self, List.replicate_zero, List.append_nil]
    clear t5
    rw [mixB]
    generalize (List.range 16).map (mixF b c) = out at *
    have e2 := ld_arr (n := 16) (e := 5) (aOfBytes out) (sz := 16) (by omega)
    repeat (first | with_reducible (first | refine aWp_seq ?_ | refine seq_normal ?_ | refine seq_ret ?_ | refine seq_exit ?_ | refine blk_normal ?_ | refine blk_ret ?_ | refine blk_hit ?_ | refine blk_miss rfl ?_ | refine aWp_ret ?_ | refine aWp_skip ?_ | refine aWp_block ?_ | refine aWp_exit ?_ | refine end_ret ?_ | refine end_normal ?_) | ((refine rgA ?_); intro ν) | ((with_reducible apply cndT); exact rfl; (first | rfl | assumption)) | ((with_reducible apply cndF); exact rfl; (first | rfl | assumption)))
    rw [drop_rep, List.append_nil]
    (first | with_reducible refine end_r ?_ | with_reducible refine end_n ?_); refine en1c ?_
    rfl
end Go.Proofs.Ytmbnclpgldglnaa
end
section
namespace Go.Proofs.Ytmbnclpgldglnaa
open Go.RowKit
set_option linter.unusedVariables false
set_option linter.unusedSimpArgs false
set_option maxRecDepth 20000
theorem drop16 {xs ys : List UInt8} (h : ys.length = 16) : List.drop 16 (aOfBytes ys) = [] := List.drop_of_length_le (by rw [aOfBytes_len]; omega)
/-! a block, round by round -/
def encS (T K s : List UInt8) (R n : Nat) : List UInt8 :=
  addK K (if n < R - 1 then mixB (shiftB T s 1) [2, 3, 1, 1] else shiftB T s 1) n
def encN (T K b : List UInt8) (R : Nat) : Nat → List UInt8
  | 0 => addK K b 0
  | n + 1 => encS T K (encN T K b R n) R (n + 1)
def encB (T K b : List UInt8) (R : Nat) : List UInt8 := encN T K b R (R - 1)
theorem encN_len (T K b : List UInt8) (R n : Nat) : (encN T K b R n).length = 16 := by cases n <;> exact addK_len _ _ _
theorem encB_len (T K b : List UInt8) (R : Nat) : (encB T K b R).length = 16 := encN_len _ _ _ _ _
set_option maxHeartbeats 16000000 in
theorem encrypt_spec (T B K b : List UInt8) (R : Nat) (h1 : T.length = 256) (h2 : B.length = 256) (hK : K.length = R * 16) (hR : R ≤ 1000) (hr : 0 < R) (hb : b.length = 16) :
    Spec Try.prog 44 [.cp (cph T B K R), .agg (aOfBytes b)] (.k (.agg (aOfBytes (encB T K b R)))) := by
  refine spec_of (fun _ => false) (by kernel_rfl) Try.func44 rfl rfl (by simp [Try.ntmps44]) (by decide) ?_
  intro δ
  rw [init2]
  have hadd := fun b r hr hb => add_spec T B K b R r h1 h2 hK hR hr hb
  have hsh := fun b hb => shift_spec T b (cph T B K R) 1 (.inl rfl) (by rw [cph_len h1 h2]; omega) (cph_T h1) hb
  have hC := cph_len (K := K) (R := R) h1 h2
  have hCK := cph_K (K := K) (R := R) h1 h2 23
  have hmx := fun b hb => mix_spec b [2, 3, 1, 1] hb rfl
  have e4 : aOfBytes [2, 3, 1, 1] = [.int .u8 2, .int .u8 3, .int .u8 1, .int .u8 1] := rfl
  rw [e4] at hmx
  generalize cph T B K R = C at *
  have hba := aOfBytes_len b
  repeat (first | with_reducible (first | refine aWp_seq ?_ | refine seq_normal ?_ | refine seq_ret ?_ | refine seq_exit ?_ | refine blk_normal ?_ | refine blk_ret ?_ | refine blk_hit ?_ | refine blk_miss rfl ?_ | refine aWp_ret ?_ | refine aWp_skip ?_ | refine aWp_block ?_ | refine aWp_exit ?_ | refine end_ret ?_ | refine end_normal ?_) | ((refine rgA ?_); intro ν) | ((with_reducible apply cndT); exact rfl; (first | rfl | assumption)) | ((with_reducible apply cndF); exact rfl; (first | rfl | assumption)))
  refine rg fun K hK => ?_
  refine stA ?_
  (first | with_reducible refine g0 ?_ | ((with_reducible refine g1 ?_ ?_); (with_reducible apply gt_); exact rfl; exact rfl; (first | rfl | assumption | (simp [*] <;> done)))); (first | refine smA (h2 := (hadd b 0 (by omega) hb)) (e := 3) (hk := ?_) | refine smA0 (h2 := (hadd b 0 (by omega) hb)) (e := 3) (hk := ?_) | refine smN (h2 := (hadd b 0 (by omega) hb)) (e := 3) (hk := ?_))
  refine stA ?_
  with_reducible refine rz ?_
  refine hK _ _ _ ?_
  clear hK K; intro ν
  repeat (first | with_reducible (first | refine aWp_seq ?_ | refine seq_normal ?_ | refine seq_ret ?_ | refine seq_exit ?_ | refine blk_normal ?_ | refine blk_ret ?_ | refine blk_hit ?_ | refine blk_miss rfl ?_ | refine aWp_ret ?_ | refine aWp_skip ?_ | refine aWp_block ?_ | refine aWp_exit ?_ | refine end_ret ?_ | refine end_normal ?_) | ((refine rgA ?_); intro ν) | ((with_reducible apply cndT); exact rfl; (first | rfl | assumption)) | ((with_reducible apply cndF); exact rfl; (first | rfl | assumption)))
  refine aWp_loop (fun m s => ∃ F Tb ν n g3 g4, m = R - n ∧ n < R ∧ s = ⟨F, Tb, ν, ⟨fun _ => false, δ, false⟩⟩ ∧
    F 0 = .k (.cp C) ∧ F 3 = .ob 3 g3 0 ∧ F 4 = .ob 4 g4 0 ∧ F 5 = .k (.int .i64 ((n : Int) + 1)) ∧ Tb 3 = some (g3, .obj (aOfBytes (encN T K b R n))) ∧ Tb 4 = some (g4, .obj (List.replicate 16 (.int .u8 0)))) R ⟨_, _, _, 0, _, _, rfl, hr, rfl, rfl, rfl, rfl, rfl, rfl, rfl⟩ ?_
  rintro m s ⟨F, Tb, ν, n, g3, g4, rfl, hn, rfl, f0, f3, f4, f5, t3, t4⟩
  rw [has4 f0 f3 f4 f5, has2 t3 t4]
  have hel := encN_len T K b R n
  have hea := aOfBytes_len (encN T K b R n)
  have la := ld_arr (n := 16) (e := 5) (aOfBytes (encN T K b R n)) (sz := 16) (by omega)
  by_cases hlt : n + 1 < R
  · have s1 := hsh (encN T K b R n) hel
    have hnx : encN T K b R (n + 1) = encS T K (encN T K b R n) R (n + 1) := rfl
    generalize encN T K b R n = s0 at *
    have d0 := drop16 (xs := s0) (ys := s0) hel
    have q1 := shiftB_len T s0 1
    unfold encS at hnx
    generalize shiftB T s0 1 = sh at *
    have q1a := aOfBytes_len sh
    have lb := ld_arr (n := 16) (e := 5) (aOfBytes sh) (sz := 16) (by omega)
    have s2 := hmx sh q1
    repeat (first | with_reducible (first | refine aWp_seq ?_ | refine seq_normal ?_ | refine seq_ret ?_ | refine seq_exit ?_ | refine blk_normal ?_ | refine blk_ret ?_ | refine blk_hit ?_ | refine blk_miss rfl ?_ | refine aWp_ret ?_ | refine aWp_skip ?_ | refine aWp_block ?_ | refine aWp_exit ?_ | refine end_ret ?_ | refine end_normal ?_) | ((refine rgA ?_); intro ν) | ((with_reducible apply cndT); exact rfl; (first | rfl | assumption)) | ((with_reducible apply cndF); exact rfl; (first | rfl | assumption)))
    refine rgx [(0,[3],[]),(5,[3],[3])] (by kernel_rfl) fun K hK => ?_
    refine stxA ?_
    ((first | ((with_reducible refine x0 ?_ ?_); exact rfl) | ((with_reducible refine x1 ?_ ?_ ?_); exact rfl; (with_reducible apply gt_); exact rfl; exact rfl; (first | rfl | assumption | (simp [*] <;> done)))); refine xcA (h2 := (s1)) (hk := ?_))
    refine stxA ?_
    with_reducible refine xz ?_
    refine hK _ _ _ ?_
    clear hK K; intro ν
    rw [d0, List.append_nil]
    by_cases hm : n + 1 < R - 1
    · rw [if_pos hm] at hnx
      have q2 := mixB_len sh [2, 3, 1, 1]
      generalize mixB sh [2, 3, 1, 1] = mx at *
      have q2a := aOfBytes_len mx
      have d1 := drop16 (xs := sh) (ys := sh) q1
      have s3 := hadd mx (n + 1) hlt q2
      rw [Int.natCast_succ] at s3
      repeat (first | with_reducible (first | refine aWp_seq ?_ | refine seq_normal ?_ | refine seq_ret ?_ | refine seq_exit ?_ | refine blk_normal ?_ | refine blk_ret ?_ | refine blk_hit ?_ | refine blk_miss rfl ?_ | refine aWp_ret ?_ | refine aWp_skip ?_ | refine aWp_block ?_ | refine aWp_exit ?_ | refine end_ret ?_ | refine end_normal ?_) | ((refine rgA ?_); intro ν) | ((with_reducible apply cndT); exact rfl; (first | rfl | assumption)) | ((with_reducible apply cndF); exact rfl; (first | rfl | assumption)))
      refine rg fun K hK => ?_
      refine stA ?_
      (first | with_reducible refine g0 ?_ | ((with_reducible refine g1 ?_ ?_); (with_reducible apply gt_); exact rfl; exact rfl; (first | rfl | assumption | (simp [*] <;> done)))); refine scA (h2 := (s2)) (hk := ?_)
      refine stA ?_
      with_reducible refine rz ?_
      refine hK _ _ _ ?_
      clear hK K; intro ν
      rw [d1, List.append_nil]
      repeat (first | with_reducible (first | refine aWp_seq ?_ | refine seq_normal ?_ | refine seq_ret ?_ | refine seq_exit ?_ | refine blk_normal ?_ | refine blk_ret ?_ | refine blk_hit ?_ | refine blk_miss rfl ?_ | refine aWp_ret ?_ | refine aWp_skip ?_ | refine aWp_block ?_ | refine aWp_exit ?_ | refine end_ret ?_ | refine end_normal ?_) | ((refine rgA ?_); intro ν) | ((with_reducible apply cndT); exact rfl; (first | rfl | assumption)) | ((with_reducible apply cndF); exact rfl; (first | rfl | assumption)))
      refine rg fun K hK => ?_
      refine stA ?_
      (first | with_reducible refine g0 ?_ | ((with_reducible refine g1 ?_ ?_); (with_reducible apply gt_); exact rfl; exact rfl; (first | rfl | assumption | (simp [*] <;> done)))); (first | refine smA (h2 := (s3)) (e := 3) (hk := ?_) | refine smA0 (h2 := (s3)) (e := 3) (hk := ?_) | refine smN (h2 := (s3)) (e := 3) (hk := ?_))
      refine stA ?_
      with_reducible refine rz ?_
      refine hK _ _ _ ?_
      clear hK K; intro ν
      repeat (first | with_reducible (first | refine aWp_seq ?_ | refine seq_normal ?_ | refine seq_ret ?_ | refine seq_exit ?_ | refine blk_normal ?_ | refine blk_ret ?_ | refine blk_hit ?_ | refine blk_miss rfl ?_ | refine aWp_ret ?_ | refine aWp_skip ?_ | refine aWp_block ?_ | refine aWp_exit ?_ | refine end_ret ?_ | refine end_normal ?_) | ((refine rgA ?_); intro ν) | ((with_reducible apply cndT); exact rfl; (first | rfl | assumption)) | ((with_reducible apply cndF); exact rfl; (first | rfl | assumption)))
      refine ⟨R - (n + 1), by omega, _, _, _, n + 1, g3, g4, rfl, hlt, rfl, rfl, rfl, rfl, ?_, ?_, rfl⟩
      · show (SV.k (.int .i64 ((n : Int) + 1 + 1)) : SV) = _
        rw [Int.natCast_succ]
      · rw [upd_same, hnx]
    · rw [if_neg hm] at hnx
      have s3 := hadd sh (n + 1) hlt q1
      rw [Int.natCast_succ] at s3
      repeat (first | with_reducible (first | refine aWp_seq ?_ | refine seq_normal ?_ | refine seq_ret ?_ | refine seq_exit ?_ | refine blk_normal ?_ | refine blk_ret ?_ | refine blk_hit ?_ | refine blk_miss rfl ?_ | refine aWp_ret ?_ | refine aWp_skip ?_ | refine aWp_block ?_ | refine aWp_exit ?_ | refine end_ret ?_ | refine end_normal ?_) | ((refine rgA ?_); intro ν) | ((with_reducible apply cndT); exact rfl; (first | rfl | assumption)) | ((with_reducible apply cndF); exact rfl; (first | rfl | assumption)))
      refine rg fun K hK => ?_
      refine stA ?_
      (first | with_reducible refine g0 ?_ | ((with_reducible refine g1 ?_ ?_); (with_reducible apply gt_); exact rfl; exact rfl; (first | rfl | assumption | (simp [*] <;> done)))); (first | refine smA (h2 := (s3)) (e := 3) (hk := ?_) | refine smA0 (h2 := (s3)) (e := 3) (hk := ?_) | refine smN (h2 := (s3)) (e := 3) (hk := ?_))
      refine stA ?_
      with_reducible refine rz ?_
      refine hK _ _ _ ?_
      clear hK K; intro ν
      repeat (first | with_reducible (first | refine aWp_seq ?_ | refine seq_normal ?_ | refine seq_ret ?_ | refine seq_exit ?_ | refine blk_normal ?_ | refine blk_ret ?_ | refine blk_hit ?_ | refine blk_miss rfl ?_ | refine aWp_ret ?_ | refine aWp_skip ?_ | refine aWp_block ?_ | refine aWp_exit ?_ | refine end_ret ?_ | refine end_normal ?_) | ((refine rgA ?_); intro ν) | ((with_reducible apply cndT); exact rfl; (first | rfl | assumption)) | ((with_reducible apply cndF); exact rfl; (first | rfl | assumption)))
      refine ⟨R - (n + 1), by omega, _, _, _, n + 1, g3, g4, rfl, hlt, rfl, rfl, rfl, rfl, ?_, ?_, rfl⟩
      · show (SV.k (.int .i64 ((n : Int) + 1 + 1)) : SV) = _
        rw [Int.natCast_succ]
      · rw [upd_same, hnx]
  · have hne : n = R - 1 := by omega
    subst hne
    rw [encB]
    generalize encN T K b R (R - 1) = out at *
    repeat (first | with_reducible (first | refine aWp_seq ?_ | refine seq_normal ?_ | refine seq_ret ?_ | refine seq_exit ?_ | refine blk_normal ?_ | refine blk_ret ?_ | refine blk_hit ?_ | refine blk_miss rfl ?_ | refine aWp_ret ?_ | refine aWp_skip ?_ | refine aWp_block ?_ | refine aWp_exit ?_ | refine end_ret ?_ | refine end_normal ?_) | ((refine rgA ?_); intro ν) | ((with_reducible apply cndT); exact rfl; (first | rfl | assumption)) | ((with_reducible apply cndF); exact rfl; (first | rfl | assumption)))
    rw [drop_rep, List.append_nil]
    (first | with_reducible refine end_r ?_ | with_reducible refine end_n ?_); refine en1c ?_
    rfl
/-! the other way round -/
def decS (B K s : List UInt8) (R r : Nat) : List UInt8 :=
  shiftB B (if r < R - 1 then mixB (addK K s r) [14, 11, 13, 9] else addK K s r) (-1)
def decN (B K b : List UInt8) (R : Nat) : Nat → List UInt8
  | 0 => b
  | m + 1 => decS B K (decN B K b R m) R (R - 1 - m)
def decB (B K b : List UInt8) (R : Nat) : List UInt8 := addK K (decN B K b R (R - 1)) 0
theorem decN_len (B K b : List UInt8) (R m : Nat) (hb : b.length = 16) : (decN B K b R m).length = 16 := by
  cases m with
  | zero => exact hb
  | succ m => exact shiftB_len _ _ _
theorem decB_len (B K b : List UInt8) (R : Nat) : (decB B K b R).length = 16 := addK_len _ _ _
set_option maxHeartbeats 16000000 in
theorem decrypt_spec (T B K b : List UInt8) (R : Nat) (h1 : T.length = 256) (h2 : B.length = 256) (hK : K.length = R * 16) (hR : R ≤ 1000) (hr : 0 < R) (hb : b.length = 16) :
    Spec Try.prog 47 [.cp (cph T B K R), .agg (aOfBytes b)] (.k (.agg (aOfBytes (decB B K b R)))) := by
  refine spec_of (fun _ => false) (by kernel_rfl) Try.func47 rfl rfl (by simp [Try.ntmps47]) (by decide) ?_
  intro δ
  rw [init2]
  have hadd := fun b r hr hb => add_spec T B K b R r h1 h2 hK hR hr hb
  have hC := cph_len (K := K) (R := R) h1 h2
  have hsh := fun b hb => shift_spec B b (List.drop 256 (cph T B K R)) (-1) (.inr rfl) (by rw [List.length_drop, cph_len h1 h2]; omega) (cph_B h1 h2) hb
  have hCK := cph_K (K := K) (R := R) h1 h2 23
  have hmx := fun b hb => mix_spec b [14, 11, 13, 9] hb rfl
  have e4 : aOfBytes [14, 11, 13, 9] = [.int .u8 14, .int .u8 11, .int .u8 13, .int .u8 9] := rfl
  rw [e4] at hmx
  generalize cph T B K R = C at *
  have hba := aOfBytes_len b
  repeat (first | with_reducible (first | refine aWp_seq ?_ | refine seq_normal ?_ | refine seq_ret ?_ | refine seq_exit ?_ | refine blk_normal ?_ | refine blk_ret ?_ | refine blk_hit ?_ | refine blk_miss rfl ?_ | refine aWp_ret ?_ | refine aWp_skip ?_ | refine aWp_block ?_ | refine aWp_exit ?_ | refine end_ret ?_ | refine end_normal ?_) | ((refine rgA ?_); intro ν) | ((with_reducible apply cndT); exact rfl; (first | rfl | assumption)) | ((with_reducible apply cndF); exact rfl; (first | rfl | assumption)))
  refine aWp_loop (fun m s => ∃ F Tb ν n g3 g4, m = R - n ∧ n < R ∧ s = ⟨F, Tb, ν, ⟨fun _ => false, δ, false⟩⟩ ∧
    F 0 = .k (.cp C) ∧ F 3 = .ob 3 g3 0 ∧ F 4 = .ob 4 g4 0 ∧ F 5 = .k (.int .i64 ((R - 1 - n : Nat) : Int)) ∧ Tb 3 = some (g3, .obj (aOfBytes (decN B K b R n))) ∧ Tb 4 = some (g4, .obj (List.replicate 16 (.int .u8 0)))) R ⟨_, _, _, 0, _, _, rfl, hr, rfl, rfl, rfl, rfl, ?_, rfl, rfl⟩ ?_
  · show (SV.k (.int .i64 ((R : Int) - 1)) : SV) = _
    rw [show (R : Int) - 1 = ((R - 1 - 0 : Nat) : Int) by omega]
  rintro m s ⟨F, Tb, ν, n, g3, g4, rfl, hn, rfl, f0, f3, f4, f5, t3, t4⟩
  rw [has4 f0 f3 f4 f5, has2 t3 t4]
  have hel := decN_len B K b R n hb
  have hea := aOfBytes_len (decN B K b R n)
  by_cases hlt : n + 1 < R
  · have hnx : decN B K b R (n + 1) = decS B K (decN B K b R n) R (R - 1 - n) := rfl
    obtain ⟨r, hrn⟩ : ∃ r, r = R - 1 - n := ⟨_, rfl⟩
    rw [← hrn] at hnx ⊢
    have s1 := hadd (decN B K b R n) r (by omega) hel
    generalize decN B K b R n = s0 at *
    unfold decS at hnx
    have q1 := addK_len K s0 r
    generalize addK K s0 r = ad at *
    have q1a := aOfBytes_len ad
    have la := ld_arr (n := 16) (e := 5) (aOfBytes ad) (sz := 16) (by omega)
    have d1 := drop16 (xs := ad) (ys := ad) q1
    repeat (first | with_reducible (first | refine aWp_seq ?_ | refine seq_normal ?_ | refine seq_ret ?_ | refine seq_exit ?_ | refine blk_normal ?_ | refine blk_ret ?_ | refine blk_hit ?_ | refine blk_miss rfl ?_ | refine aWp_ret ?_ | refine aWp_skip ?_ | refine aWp_block ?_ | refine aWp_exit ?_ | refine end_ret ?_ | refine end_normal ?_) | ((refine rgA ?_); intro ν) | ((with_reducible apply cndT); exact rfl; (first | rfl | assumption)) | ((with_reducible apply cndF); exact rfl; (first | rfl | assumption)))
    refine rg fun K hK => ?_
    refine stA ?_
    (first | with_reducible refine g0 ?_ | ((with_reducible refine g1 ?_ ?_); (with_reducible apply gt_); exact rfl; exact rfl; (first | rfl | assumption | (simp [*] <;> done)))); (first | refine smA (h2 := (s1)) (e := 3) (hk := ?_) | refine smA0 (h2 := (s1)) (e := 3) (hk := ?_) | refine smN (h2 := (s1)) (e := 3) (hk := ?_))
    refine stA ?_
    with_reducible refine rz ?_
    refine hK _ _ _ ?_
    clear hK K; intro ν
    by_cases hm : r < R - 1
    · rw [if_pos hm] at hnx
      have s2 := hmx ad q1
      have q2 := mixB_len ad [14, 11, 13, 9]
      generalize mixB ad [14, 11, 13, 9] = mx at *
      have q2a := aOfBytes_len mx
      have lb := ld_arr (n := 16) (e := 5) (aOfBytes mx) (sz := 16) (by omega)
      have d2 := drop16 (xs := mx) (ys := mx) q2
      have s3 := hsh mx q2
      have q3 := shiftB_len B mx (-1)
      generalize shiftB B mx (-1) = sh at *
      have q3a := aOfBytes_len sh
      repeat (first | with_reducible (first | refine aWp_seq ?_ | refine seq_normal ?_ | refine seq_ret ?_ | refine seq_exit ?_ | refine blk_normal ?_ | refine blk_ret ?_ | refine blk_hit ?_ | refine blk_miss rfl ?_ | refine aWp_ret ?_ | refine aWp_skip ?_ | refine aWp_block ?_ | refine aWp_exit ?_ | refine end_ret ?_ | refine end_normal ?_) | ((refine rgA ?_); intro ν) | ((with_reducible apply cndT); exact rfl; (first | rfl | assumption)) | ((with_reducible apply cndF); exact rfl; (first | rfl | assumption)))
      refine rg fun K hK => ?_
      refine stA ?_
      (first | with_reducible refine g0 ?_ | ((with_reducible refine g1 ?_ ?_); (with_reducible apply gt_); exact rfl; exact rfl; (first | rfl | assumption | (simp [*] <;> done)))); refine scA (h2 := (s2)) (hk := ?_)
      refine stA ?_
      with_reducible refine rz ?_
      refine hK _ _ _ ?_
      clear hK K; intro ν
      rw [d1, List.append_nil]
      repeat (first | with_reducible (first | refine aWp_seq ?_ | refine seq_normal ?_ | refine seq_ret ?_ | refine seq_exit ?_ | refine blk_normal ?_ | refine blk_ret ?_ | refine blk_hit ?_ | refine blk_miss rfl ?_ | refine aWp_ret ?_ | refine aWp_skip ?_ | refine aWp_block ?_ | refine aWp_exit ?_ | refine end_ret ?_ | refine end_normal ?_) | ((refine rgA ?_); intro ν) | ((with_reducible apply cndT); exact rfl; (first | rfl | assumption)) | ((with_reducible apply cndF); exact rfl; (first | rfl | assumption)))
      refine rgx [(0,[3],[]),(5,[3],[3])] (by kernel_rfl) fun K hK => ?_
      refine stxA ?_
      ((first | ((with_reducible refine x0 ?_ ?_); exact rfl) | ((with_reducible refine x1 ?_ ?_ ?_); exact rfl; (with_reducible apply gt_); exact rfl; exact rfl; (first | rfl | assumption | (simp [*] <;> done)))); refine xcA (h2 := (s3)) (hk := ?_))
      refine stxA ?_
      with_reducible refine xz ?_
      refine hK _ _ _ ?_
      clear hK K; intro ν
      rw [d2, List.append_nil]
      repeat (first | with_reducible (first | refine aWp_seq ?_ | refine seq_normal ?_ | refine seq_ret ?_ | refine seq_exit ?_ | refine blk_normal ?_ | refine blk_ret ?_ | refine blk_hit ?_ | refine blk_miss rfl ?_ | refine aWp_ret ?_ | refine aWp_skip ?_ | refine aWp_block ?_ | refine aWp_exit ?_ | refine end_ret ?_ | refine end_normal ?_) | ((refine rgA ?_); intro ν) | ((with_reducible apply cndT); exact rfl; (first | rfl | assumption)) | ((with_reducible apply cndF); exact rfl; (first | rfl | assumption)))
      refine ⟨R - (n + 1), by omega, _, _, _, n + 1, g3, g4, rfl, hlt, rfl, rfl, rfl, rfl, ?_, ?_, rfl⟩
      · show (SV.k (.int .i64 ((r : Int) - 1)) : SV) = _
        rw [show (r : Int) - 1 = ((R - 1 - (n + 1) : Nat) : Int) by omega]
      · rw [upd_same, hnx]
    · rw [if_neg hm] at hnx
      have s3 := hsh ad q1
      have q3 := shiftB_len B ad (-1)
      generalize shiftB B ad (-1) = sh at *
      have q3a := aOfBytes_len sh
      repeat (first | with_reducible (first | refine aWp_seq ?_ | refine seq_normal ?_ | refine seq_ret ?_ | refine seq_exit ?_ | refine blk_normal ?_ | refine blk_ret ?_ | refine blk_hit ?_ | refine blk_miss rfl ?_ | refine aWp_ret ?_ | refine aWp_skip ?_ | refine aWp_block ?_ | refine aWp_exit ?_ | refine end_ret ?_ | refine end_normal ?_) | ((refine rgA ?_); intro ν) | ((with_reducible apply cndT); exact rfl; (first | rfl | assumption)) | ((with_reducible apply cndF); exact rfl; (first | rfl | assumption)))
      refine rgx [(0,[3],[]),(5,[3],[3])] (by kernel_rfl) fun K hK => ?_
      refine stxA ?_
      ((first | ((with_reducible refine x0 ?_ ?_); exact rfl) | ((with_reducible refine x1 ?_ ?_ ?_); exact rfl; (with_reducible apply gt_); exact rfl; exact rfl; (first | rfl | assumption | (simp [*] <;> done)))); refine xcA (h2 := (s3)) (hk := ?_))
      refine stxA ?_
      with_reducible refine xz ?_
      refine hK _ _ _ ?_
      clear hK K; intro ν
      rw [d1, List.append_nil]
      repeat (first | with_reducible (first | refine aWp_seq ?_ | refine seq_normal ?_ | refine seq_ret ?_ | refine seq_exit ?_ | refine blk_normal ?_ | refine blk_ret ?_ | refine blk_hit ?_ | refine blk_miss rfl ?_ | refine aWp_ret ?_ | refine aWp_skip ?_ | refine aWp_block ?_ | refine aWp_exit ?_ | refine end_ret ?_ | refine end_normal ?_) | ((refine rgA ?_); intro ν) | ((with_reducible apply cndT); exact rfl; (first | rfl | assumption)) | ((with_reducible apply cndF); exact rfl; (first | rfl | assumption)))
      refine ⟨R - (n + 1), by omega, _, _, _, n + 1, g3, g4, rfl, hlt, rfl, rfl, rfl, rfl, ?_, ?_, rfl⟩
      · show (SV.k (.int .i64 ((r : Int) - 1)) : SV) = _
        rw [show (r : Int) - 1 = ((R - 1 - (n + 1) : Nat) : Int) by omega]
      · rw [upd_same, hnx]
  · have hne : n = R - 1 := by omega
    subst hne
    have s1 := hadd (decN B K b R (R - 1)) 0 hr hel
    rw [Nat.sub_self]
    rw [decB]
    have qo := addK_len K (decN B K b R (R - 1)) 0
    generalize addK K (decN B K b R (R - 1)) 0 = out at *
    have qoa := aOfBytes_len out
    have la : ldAgg (.arr 16 5) 16 (List.drop 0 (aOfBytes out)) = some (.agg (aOfBytes out)) := ld_arr _ (by rw [aOfBytes_len]; exact qo)
    repeat (first | with_reducible (first | refine aWp_seq ?_ | refine seq_normal ?_ | refine seq_ret ?_ | refine seq_exit ?_ | refine blk_normal ?_ | refine blk_ret ?_ | refine blk_hit ?_ | refine blk_miss rfl ?_ | refine aWp_ret ?_ | refine aWp_skip ?_ | refine aWp_block ?_ | refine aWp_exit ?_ | refine end_ret ?_ | refine end_normal ?_) | ((refine rgA ?_); intro ν) | ((with_reducible apply cndT); exact rfl; (first | rfl | assumption)) | ((with_reducible apply cndF); exact rfl; (first | rfl | assumption)))
    refine rg fun K hK => ?_
    refine stA ?_
    (first | with_reducible refine g0 ?_ | ((with_reducible refine g1 ?_ ?_); (with_reducible apply gt_); exact rfl; exact rfl; (first | rfl | assumption | (simp [*] <;> done)))); (first | refine smA (h2 := (s1)) (e := 3) (hk := ?_) | refine smA0 (h2 := (s1)) (e := 3) (hk := ?_) | refine smN (h2 := (s1)) (e := 3) (hk := ?_))
    refine stA ?_
    with_reducible refine rz ?_
    refine hK _ _ _ ?_
    clear hK K; intro ν
    repeat (first | with_reducible (first | refine aWp_seq ?_ | refine seq_normal ?_ | refine seq_ret ?_ | refine seq_exit ?_ | refine blk_normal ?_ | refine blk_ret ?_ | refine blk_hit ?_ | refine blk_miss rfl ?_ | refine aWp_ret ?_ | refine aWp_skip ?_ | refine aWp_block ?_ | refine aWp_exit ?_ | refine end_ret ?_ | refine end_normal ?_) | ((refine rgA ?_); intro ν) | ((with_reducible apply cndT); exact rfl; (first | rfl | assumption)) | ((with_reducible apply cndF); exact rfl; (first | rfl | assumption)))
    rw [drop_rep, List.append_nil]
    (first | with_reducible refine end_r ?_ | with_reducible refine end_n ?_); refine en1c ?_
    rfl
end Go.Proofs.Ytmbnclpgldglnaa
end
section
namespace Go.Proofs.Ytmbnclpgldglnaa
open Go.RowKit
set_option linter.unusedVariables false
set_option linter.unusedSimpArgs false
set_option maxRecDepth 20000
/-! the document's cipher: its rounds -/
structure RC (K : List UInt8) (N : Nat) (ws : List AV) (wf : Nat → List UInt8) : Prop where
  wl : ws.length = N
  ld : ∀ m, m < N → ldAgg (.sl 5) 1 (List.drop m ws) = some (.sl false 4 (aOfBytes (wf m)))
  fl : ∀ m, m < N → (wf m).length = 4
  get : ∀ m j, m < N → j < 4 → (wf m).getD j 0 = K.getD (m * 4 + j) 0
def rcC (T B : List UInt8) (N : Nat) (ws : List AV) : List AV := [.sl false 256 (aOfBytes T), .sl false 256 (aOfBytes B), .sl false N ws]
set_option maxHeartbeats 8000000 in
theorem radd_news {K : List UInt8} {N : Nat} {ws : List AV} {wf : Nat → List UInt8} (h : RC K N ws wf) (T B b : List UInt8) (full : Bool) (r : Nat) (hb : b.length = 16) (hr : 4 * r + 4 ≤ N) (hN : N ≤ 1000) :
    Spec Try.prog 52 [.cp (rcC T B N ws), .sl full 16 (aOfBytes b), .int .i64 (r : Nat)] (.news 16 (aOfBytes (addK K b r))) := by
  have hba := aOfBytes_len b
  have hwl := h.wl
  unfold rcC
  refine spec_of_news (fun t => t == 11 || t == 9) (by kernel_rfl) Try.func52 rfl rfl (by simp [Try.ntmps52]) (by decide) ?_
  intro δ
  rw [init3]
  repeat (first | with_reducible (first | refine aWp_seq ?_ | refine seq_normal ?_ | refine seq_ret ?_ | refine seq_exit ?_ | refine blk_normal ?_ | refine blk_ret ?_ | refine blk_hit ?_ | refine blk_miss rfl ?_ | refine aWp_ret ?_ | refine aWp_skip ?_ | refine aWp_block ?_ | refine aWp_exit ?_ | refine end_ret ?_ | refine end_normal ?_) | ((refine rgA ?_); intro ν) | ((with_reducible apply cndT); exact rfl; (first | rfl | assumption)) | ((with_reducible apply cndF); exact rfl; (first | rfl | assumption)))
  refine aWp_loop (fun m s => ∃ F T' ν k g, m = 16 - k ∧ k ≤ 16 ∧ s = ⟨F, T', ν, ⟨fun t => t == 11 || t == 9, δ, false⟩⟩ ∧ F 0 = .k (.cp [.sl false 256 (aOfBytes T), .sl false 256 (aOfBytes B), .sl false N ws]) ∧ F 2 = .k (.int .i64 (r : Nat)) ∧ F 7 = .os 11 g 0 16 16 ∧ F 8 = .k (.int .i64 (k : Nat)) ∧ T' 11 = some (g, .obj (aOfBytes (setN (addF K b r) b k)))) 16 ⟨_, _, _, 0, _, rfl, Nat.zero_le _, rfl, rfl, rfl, rfl, rfl, rfl⟩ ?_
  rintro m s ⟨F, T', ν, k, g, rfl, hk, rfl, f0, f2, f7, f8, t11⟩
  rw [has4 f0 f2 f7 f8, has1 t11]
  have hsl := setN_len (addF K b r) b k
  have hsa := aOfBytes_len (setN (addF K b r) b k)
  by_cases hlk : k < 16
  · obtain ⟨m, hm⟩ : ∃ m, m = 4 * r + k / 4 := ⟨_, rfl⟩
    have hmN : m < N := by omega
    have l1 := ld_b (setN (addF K b r) b k) k (by omega)
    rw [setN_get (addF K b r) b k k (Nat.le_refl _)] at l1
    have lw := h.ld m hmN
    have e1 : (4 * (r : Int) + (k : Int) / 4).toNat = m := by omega
    have hfl := h.fl m hmN
    have hfa := aOfBytes_len (wf m)
    have e2 : ((k : Int) % 4).toNat = k % 4 := by omega
    have l2 := ld_b (wf m) (k % 4) (by omega)
    have hg := h.get m (k % 4) hmN (by omega)
    have hst := set_b (setN (addF K b r) b k) (addF K b r k) k (by omega)
    have hkm : m * 4 + k % 4 = r * 16 + k := by omega
    have hv : b.getD k 0 ^^^ (wf m).getD (k % 4) 0 = addF K b r k := by rw [hg, hkm, addF]
    rw [show aOfBytes ((setN (addF K b r) b k).set k (addF K b r k)) = aOfBytes (setN (addF K b r) b (k + 1)) from rfl, ← hv] at hst
    rw [← e2] at l2 hst
    clear hg hv hkm
    generalize wf m = W at *
    rw [← e1] at lw
    repeat (first | with_reducible (first | refine aWp_seq ?_ | refine seq_normal ?_ | refine seq_ret ?_ | refine seq_exit ?_ | refine blk_normal ?_ | refine blk_ret ?_ | refine blk_hit ?_ | refine blk_miss rfl ?_ | refine aWp_ret ?_ | refine aWp_skip ?_ | refine aWp_block ?_ | refine aWp_exit ?_ | refine end_ret ?_ | refine end_normal ?_) | ((refine rgA ?_); intro ν) | ((with_reducible apply cndT); exact rfl; (first | rfl | assumption)) | ((with_reducible apply cndF); exact rfl; (first | rfl | assumption)))
    refine rgxA [(5,[11],[]),(23,[11],[11])] ?_
    intro ν
    repeat (first | with_reducible (first | refine aWp_seq ?_ | refine seq_normal ?_ | refine seq_ret ?_ | refine seq_exit ?_ | refine blk_normal ?_ | refine blk_ret ?_ | refine blk_hit ?_ | refine blk_miss rfl ?_ | refine aWp_ret ?_ | refine aWp_skip ?_ | refine aWp_block ?_ | refine aWp_exit ?_ | refine end_ret ?_ | refine end_normal ?_) | ((refine rgA ?_); intro ν) | ((with_reducible apply cndT); exact rfl; (first | rfl | assumption)) | ((with_reducible apply cndF); exact rfl; (first | rfl | assumption)))
    refine ⟨16 - (k + 1), by omega, _, _, _, k + 1, _, rfl, by omega, rfl, rfl, rfl, rfl, ?_, ?_⟩
    · show (SV.k (.int .i64 ((k : Int) + 1)) : SV) = _
      rw [Int.natCast_succ]
    · rw [upd_same]
      exact congrArg (fun q => some (g, Ent.obj q)) hst
  · have hke : k = 16 := by omega
    subst hke
    have he := setN_all (addF K b r) b 16 hb
    rw [he] at hsa ⊢
    change (aOfBytes (addK K b r)).length = _ at hsa
    rw [show (List.range 16).map (addF K b r) = addK K b r from rfl]
    have hal := addK_len K b r
    have haa := aOfBytes_len (addK K b r)
    clear he hsa hsl
    generalize addK K b r = A at *
    repeat (first | with_reducible (first | refine aWp_seq ?_ | refine seq_normal ?_ | refine seq_ret ?_ | refine seq_exit ?_ | refine blk_normal ?_ | refine blk_ret ?_ | refine blk_hit ?_ | refine blk_miss rfl ?_ | refine aWp_ret ?_ | refine aWp_skip ?_ | refine aWp_block ?_ | refine aWp_exit ?_ | refine end_ret ?_ | refine end_normal ?_) | ((refine rgA ?_); intro ν) | ((with_reducible apply cndT); exact rfl; (first | rfl | assumption)) | ((with_reducible apply cndF); exact rfl; (first | rfl | assumption)))
    (first | with_reducible refine end_r ?_ | with_reducible refine end_n ?_)
    exact ⟨_, _, _, _, rfl, rfl, rfl⟩
theorem radd_spec {K : List UInt8} {N : Nat} {ws : List AV} {wf : Nat → List UInt8} (h : RC K N ws wf) (T B b : List UInt8) (full : Bool) (r : Nat) (hb : b.length = 16) (hr : 4 * r + 4 ≤ N) (hN : N ≤ 1000) :
    Spec Try.prog 52 [.cp (rcC T B N ws), .sl full 16 (aOfBytes b), .int .i64 (r : Nat)] (.k (.sl false 16 (aOfBytes (addK K b r)))) :=
  Spec.news_k (bcells_len _ _ (addK_len K b r)) (radd_news h T B b full r hb hr hN)
end Go.Proofs.Ytmbnclpgldglnaa
end
