import Derived.Test.YtmbnclpgldglnaaRefA4
import Derived.Test.YtmbnclpgldglnaaAesP
namespace Go.Proofs.Ytmbnclpgldglnaa
open Go.RowKit
set_option linter.unusedVariables false
set_option linter.unusedSimpArgs false
set_option maxRecDepth 20000
/-! mixing three times more is mixing back -/
theorem mixSx (x : UInt8) : 0 ^^^ mulB (mulB x 2) 2 ^^^ mulB (mulB x 1) 3 ^^^ mulB (mulB x 1) 1 ^^^ mulB (mulB x 3) 1 = mulB x 5 := by
  revert x; exact all8 (by decide +kernel)
theorem mixSy (x : UInt8) : 0 ^^^ mulB (mulB x 3) 2 ^^^ mulB (mulB x 2) 3 ^^^ mulB (mulB x 1) 1 ^^^ mulB (mulB x 1) 1 = mulB x 0 := by
  revert x; exact all8 (by decide +kernel)
theorem mixSz (x : UInt8) : 0 ^^^ mulB (mulB x 1) 2 ^^^ mulB (mulB x 3) 3 ^^^ mulB (mulB x 2) 1 ^^^ mulB (mulB x 1) 1 = mulB x 4 := by
  revert x; exact all8 (by decide +kernel)
theorem mixSw (x : UInt8) : 0 ^^^ mulB (mulB x 1) 2 ^^^ mulB (mulB x 1) 3 ^^^ mulB (mulB x 3) 1 ^^^ mulB (mulB x 2) 1 = mulB x 0 := by
  revert x; exact all8 (by decide +kernel)
theorem mixS (x y z w : UInt8) : mix4 (mix4 x y z w 2 3 1 1) (mix4 y z w x 2 3 1 1) (mix4 z w x y 2 3 1 1) (mix4 w x y z 2 3 1 1) 2 3 1 1 = mix4 x y z w 5 0 4 0 := by
  have e0 := mixSx x
  have e1 := mixSy y
  have e2 := mixSz z
  have e3 := mixSw w
  unfold mix4
  simp only [mulB_xor, mul_zero8]
  have e := congr (congrArg HXor.hXor (congr (congrArg HXor.hXor (congr (congrArg HXor.hXor e0) e1)) e2)) e3
  simp only [UInt8.zero_xor, UInt8.xor_zero] at e ⊢
  refine Eq.trans ?_ e
  ac_rfl
theorem mixTx (x : UInt8) : 0 ^^^ mulB (mulB x 5) 5 ^^^ mulB (mulB x 0) 0 ^^^ mulB (mulB x 4) 4 ^^^ mulB (mulB x 0) 0 = x := by
  revert x; exact all8 (by decide +kernel)
theorem mixTy (x : UInt8) : 0 ^^^ mulB (mulB x 0) 5 ^^^ mulB (mulB x 5) 0 ^^^ mulB (mulB x 0) 4 ^^^ mulB (mulB x 4) 0 = 0 := by
  revert x; exact all8 (by decide +kernel)
theorem mixTz (x : UInt8) : 0 ^^^ mulB (mulB x 4) 5 ^^^ mulB (mulB x 0) 0 ^^^ mulB (mulB x 5) 4 ^^^ mulB (mulB x 0) 0 = 0 := by
  revert x; exact all8 (by decide +kernel)
theorem mixTw (x : UInt8) : 0 ^^^ mulB (mulB x 0) 5 ^^^ mulB (mulB x 4) 0 ^^^ mulB (mulB x 0) 4 ^^^ mulB (mulB x 5) 0 = 0 := by
  revert x; exact all8 (by decide +kernel)
theorem mixT (x y z w : UInt8) : mix4 (mix4 x y z w 5 0 4 0) (mix4 y z w x 5 0 4 0) (mix4 z w x y 5 0 4 0) (mix4 w x y z 5 0 4 0) 5 0 4 0 = x := by
  have e0 := mixTx x
  have e1 := mixTy y
  have e2 := mixTz z
  have e3 := mixTw w
  unfold mix4
  simp only [mulB_xor, mul_zero8]
  have e := congr (congrArg HXor.hXor (congr (congrArg HXor.hXor (congr (congrArg HXor.hXor e0) e1)) e2)) e3
  simp only [UInt8.zero_xor, UInt8.xor_zero] at e ⊢
  refine Eq.trans ?_ e
  ac_rfl
theorem mix_four (b : List UInt8) (h : b.length = 16) : mixB (mixB (mixB (mixB b [2, 3, 1, 1]) [2, 3, 1, 1]) [2, 3, 1, 1]) [2, 3, 1, 1] = b := by
  have e2 : ∀ l : List UInt8, l.length = 16 → mixB (mixB l [2, 3, 1, 1]) [2, 3, 1, 1] = mixB l [5, 0, 4, 0] := fun l hl => by
    obtain ⟨a, b, c, d, e, f, g, i, j, k, m, n, o, p, q, r, rfl⟩ := list16 hl
    simp only [mix_v, mixS]
  rw [e2 _ (mixB_len _ _), e2 _ h]
  obtain ⟨a, b, c, d, e, f, g, i, j, k, m, n, o, p, q, r, rfl⟩ := list16 h
  simp only [mix_v, mixT]
def mixI (A : List UInt8) : Nat → List UInt8
  | 0 => A
  | k + 1 => mixB (mixI A k) [2, 3, 1, 1]
theorem mixI_len (A : List UInt8) (h : A.length = 16) (k : Nat) : (mixI A k).length = 16 := by
  cases k with
  | zero => exact h
  | succ k => exact mixB_len _ _
theorem mixI_three (A : List UInt8) (h : A.length = 16) : mixI A 3 = mixB A [14, 11, 13, 9] := by
  have e : mixB (mixI A 3) [2, 3, 1, 1] = A := mix_four A h
  rw [← mix_back (mixI A 3) (mixI_len A h 3), e]
/-! places that are filled in another order -/
def pmP (k : Nat) : Nat := 4 * ((k / 4 + k % 4) % 4) + k % 4
def pmF (B S : List UInt8) (k : Nat) : UInt8 := B.getD (S.getD k 0).toNat 0
def pmN (B S : List UInt8) : Nat → List UInt8
  | 0 => zl16
  | k + 1 => (pmN B S k).set (pmP k) (pmF B S k)
theorem pmN_len (B S : List UInt8) (k : Nat) : (pmN B S k).length = 16 := by
  induction k with
  | zero => rfl
  | succ k ih => rw [pmN, List.length_set, ih]
theorem pmN_all (B S : List UInt8) (h : S.length = 16) : pmN B S 16 = shiftB B S (-1) := by
  obtain ⟨a, b, c, d, e, f, g, i, j, k, m, n, o, p, q, r, rfl⟩ := list16 h
  rw [shift_m]
  rfl
theorem mixF_any (t : List UInt8) (j : Nat) : mixF t [2, 3, 1, 1] j = 0 ^^^ mulB (t.getD j 0) 2 ^^^ mulB (t.getD (j / 4 * 4 + (j % 4 + 1) % 4) 0) 3 ^^^ t.getD (j / 4 * 4 + (j % 4 + 2) % 4) 0 ^^^ t.getD (j / 4 * 4 + (j % 4 + 3) % 4) 0 := by
  have e : ∀ k, j / 4 * 4 + (j + k) % 4 = j / 4 * 4 + (j % 4 + k) % 4 := fun k => by omega
  have e0 : j / 4 * 4 + (j + 0) % 4 = j := by omega
  show (((0 ^^^ mulB (t.getD _ 0) 2) ^^^ mulB (t.getD _ 0) 3) ^^^ mulB (t.getD _ 0) 1) ^^^ mulB (t.getD _ 0) 1 = _
  rw [e0, e, e, e, mulB_one, mulB_one]
end Go.Proofs.Ytmbnclpgldglnaa
