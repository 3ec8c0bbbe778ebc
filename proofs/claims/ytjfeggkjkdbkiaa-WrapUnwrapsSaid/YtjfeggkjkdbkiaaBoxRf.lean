import Derived.Test.YtjfeggkjkdbkiaaProg
import Derived.Test.YtjfeggkjkdbkiaaBox
import Derived.Below
import Derived.Deep.Draws
import Derived.OwnWalk
import Derived.Tactics
import Derived.WalkKit
import Derived.KernelRfl
import Derived.RowKit3
import Derived.Deep.LoopGhost
import Derived.Deep.QuietTactic
import Derived.BigQuiet
import Derived.WideLaws
import Derived.Deep.DeepCutAuto
import Derived.Deep.CutBlock
import Derived.Laws.Rows
import Derived.Outline
import Derived.Lib.Hide
namespace Go.Proofs.Ytjfeggkjkdbkiaa
open Go.RowKit
set_option linter.unusedVariables false
set_option linter.unusedSimpArgs false


attribute [local go_sem] bxor8

def z16 (x : BitVec 16) : Int := (x.toNat : Int)
theorem z16_lo (x : BitVec 16) : 0 ≤ z16 x := by unfold z16; omega
theorem z16_hi (x : BitVec 16) : z16 x < 65536 := by have := x.isLt; unfold z16; omega
theorem zxor (x y : BitVec 16) : Go.bits .xor .i64 (z16 x) (z16 y) = z16 (x ^^^ y) := by
  have e : Go.bits .xor .i64 (z16 x) (z16 y) = IntKind.i64.wrap (((BitVec.ofInt 64 (x.toNat : Int)) ^^^ (BitVec.ofInt 64 (y.toNat : Int))).toNat : Int) := rfl
  have hx := x.isLt
  have hy := y.isLt
  have h1 : (BitVec.ofInt 64 (x.toNat : Int)).toNat = x.toNat := by rw [BitVec.ofInt_natCast, BitVec.toNat_ofNat]; omega
  have h2 : (BitVec.ofInt 64 (y.toNat : Int)).toNat = y.toNat := by rw [BitVec.ofInt_natCast, BitVec.toNat_ofNat]; omega
  rw [e, BitVec.toNat_xor, h1, h2, ← BitVec.toNat_xor]
  have := (x ^^^ y).isLt
  rw [IntKind.wrap_i64]; unfold z16; omega
theorem zbit (x : BitVec 16) (i : Nat) : (Go.bits .and .i64 (z16 x / (2 : Int) ^ i) 1 == 1) = x.getLsbD i := by
  have e1 : z16 x / (2 : Int) ^ i = z16 (x >>> i) := by
    unfold z16; rw [BitVec.toNat_ushiftRight, Nat.shiftRight_eq_div_pow]; simp
  rw [e1]
  have e : Go.bits .and .i64 (z16 (x >>> i)) 1 = IntKind.i64.wrap (((BitVec.ofInt 64 ((x >>> i).toNat : Int)) &&& (BitVec.ofInt 64 1)).toNat : Int) := rfl
  have hx := (x >>> i).isLt
  have h1 : (BitVec.ofInt 64 ((x >>> i).toNat : Int)).toNat = (x >>> i).toNat := by rw [BitVec.ofInt_natCast, BitVec.toNat_ofNat]; omega
  have h2 : (BitVec.ofInt 64 1).toNat = 1 := rfl
  have hb : x.getLsbD i = decide ((x >>> i).toNat % 2 = 1) := by
    rw [BitVec.getLsbD, Nat.testBit_eq_decide_div_mod_eq, BitVec.toNat_ushiftRight, Nat.shiftRight_eq_div_pow]
  rw [e, BitVec.toNat_and, h1, h2, Nat.and_one_is_mod, hb, IntKind.wrap_i64]
  generalize (x >>> i).toNat = q at *
  by_cases h : q % 2 = 1
  · rw [decide_eq_true h, h]; rfl
  · have h' : q % 2 = 0 := by omega
    rw [decide_eq_false h, h']; rfl
theorem zbit8 (x : BitVec 8) (i : Nat) : (Go.bits .and .i64 (n8 x / (2 : Int) ^ i) 1 == 1) = x.getLsbD i := by
  have : n8 x = z16 (x.setWidth 16) := by have := x.isLt; unfold n8 z16; simp; omega
  rw [this, zbit, BitVec.getLsbD_setWidth]
  by_cases h : i < 16
  · simp [h]
  · rw [BitVec.getLsbD_of_ge x i (by omega)]; simp
theorem zshl (a : BitVec 8) (i : Nat) (h : i < 8) : n8 a * (2 : Int) ^ i = z16 (a.setWidth 16 <<< i) := by
  have ha := a.isLt
  unfold n8 z16
  rw [BitVec.toNat_shiftLeft, Nat.shiftLeft_eq, BitVec.toNat_setWidth]
  have hp : 2 ^ i ≤ 2 ^ 7 := Nat.pow_le_pow_right (by decide) (by omega)
  have hm : a.toNat * 2 ^ i ≤ 255 * 2 ^ 7 := Nat.mul_le_mul (by omega) hp
  rw [Nat.mod_eq_of_lt (by omega : a.toNat < 2 ^ 16), Nat.mod_eq_of_lt (by omega)]; simp
theorem zshl283 (i : Nat) (h : i < 7) : (283 : Int) * (2 : Int) ^ i = z16 (283#16 <<< i) := by
  have : i = 0 ∨ i = 1 ∨ i = 2 ∨ i = 3 ∨ i = 4 ∨ i = 5 ∨ i = 6 := by omega
  rcases this with rfl | rfl | rfl | rfl | rfl | rfl | rfl <;> rfl

theorem wz (x : BitVec 16) : wrap64 (z16 x) = z16 x := by have := z16_lo x; have := z16_hi x; unfold wrap64; omega
theorem zlow (x : BitVec 16) : z16 x % (256 : Int) = n8 (x.setWidth 8) := by unfold n8 z16; simp

set_option maxHeartbeats 800000 in
set_option maxRecDepth 100000 in
theorem rmul_calls (a b : BitVec 8) (w : World) :
    Calls Try.prog 80 #[.int .u8 (n8 a), .int .u8 (n8 b)] w fun e w' => e = .returned (.int .u8 (n8 (gmul a b))) ∧ w = w' := by
  have a0 := n8_lo a; have a1 := n8_hi a; have b0 := n8_lo b; have b1 := n8_hi b
  go_enter Try.func80, Try.ntmps80
  go_wp2
  go_loop [5, 6] (fun n i => ∃ k : Nat, k ≤ 8 ∧ i = .int .i64 k ∧ n = .int .i64 (z16 (rprodAux a b k))) (fun _ i => 8 - (intOf i).toNat)
  case atStart => exact ⟨0, by omega, rfl, rfl⟩
  case round =>
    obtain ⟨k, hk, rfl, rfl⟩ := hrel
    by_cases hlt : k < 8
    · have hq := zbit8 b k
      cases hb : b.getLsbD k
      all_goals
        rw [hb] at hq
        have Hb := Lib.hid hb
        clear hb
        go_wp2
        go_round
        case rel =>
          refine ⟨k + 1, by omega, by go_num, ?_⟩
          rw [rprodAux, Hb.out]
          first
            | rfl
            | (rw [zshl _ _ hlt, wz, zxor]; rfl)
        case measure => simp only [intOf]; omega
    · have em : Hid (rprodAux a b k = rprodAux a b 8) := Lib.hid (by rw [show k = 8 by omega])
      have e2 : Hid (n8 (gmul a b) = n8 ((rredAux 7 (rprodAux a b 8)).setWidth 8)) := Lib.hid (by rw [← rmul_eq]; rfl)
      go_wp2
      go_loop [5, 7] (fun n i => ∃ (m : Nat) (x : BitVec 16), m ≤ 7 ∧ i = .int .i64 ((m : Int) + 7) ∧ n = .int .i64 (z16 x) ∧ rredAux m x = rredAux 7 (rprodAux a b 8)) (fun _ i => (intOf i).toNat)
      case atStart => exact ⟨7, rprodAux a b 8, by omega, rfl, by rw [em.out], rfl⟩
      case round =>
        obtain ⟨m, x, hm, rfl, rfl, hr⟩ := hrel
        have Hr := Lib.hid hr
        clear hr
        cases m with
        | zero =>
          go_wp2
          go_ret
          refine ⟨?_, rfl⟩
          rw [e2.out, ← Hr.out, rredAux, ← zlow]
          rfl
        | succ m =>
          have e : ((m + 1 : Nat) : Int) + 7 = (m : Int) + 8 := by omega
          rw [e]
          have hq := zbit x (m + 8)
          cases hb : x.getLsbD (m + 8)
          all_goals
            rw [hb] at hq
            have Hb := Lib.hid hb
            clear hb
            go_wp2
            go_round
            case rel =>
              first
                | exact ⟨m, x, by omega, by rw [show (m : Int) + 8 - 1 = (m : Int) + 7 by omega], rfl, by rw [← Hr.out, rredAux, Hb.out]; rfl⟩
                | exact ⟨m, x ^^^ (283#16 <<< m), by omega, by rw [show (m : Int) + 8 - 1 = (m : Int) + 7 by omega], by rw [zshl283 _ (by omega), wz, zxor], by rw [← Hr.out, rredAux, Hb.out]; rfl⟩
            case measure => simp only [intOf]; omega

end Go.Proofs.Ytjfeggkjkdbkiaa
