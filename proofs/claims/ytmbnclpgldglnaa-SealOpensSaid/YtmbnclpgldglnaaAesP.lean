import Derived.Test.YtmbnclpgldglnaaAes6
namespace Go.Proofs.Ytmbnclpgldglnaa
open Go.RowKit
set_option linter.unusedVariables false
set_option linter.unusedSimpArgs false
set_option maxRecDepth 20000
/-! aes: each step has an inverse -/
theorem all8 {p : UInt8 → Prop} (h : ∀ v : BitVec 8, p (UInt8.ofBitVec v)) (x : UInt8) : p x := h x.toBitVec
theorem mulB_xor (a b c : UInt8) : mulB (a ^^^ b) c = mulB a c ^^^ mulB b c := by
  unfold mulB
  apply UInt8.eq_of_toBitVec_eq
  simp [gmul_xor_left]
theorem list16 {l : List UInt8} (h : l.length = 16) : ∃ a b c d e f g i j k m n o p q r, l = [a, b, c, d, e, f, g, i, j, k, m, n, o, p, q, r] := by
  match l, h with
  | [a, b, c, d, e, f, g, i, j, k, m, n, o, p, q, r], _ => exact ⟨a, b, c, d, e, f, g, i, j, k, m, n, o, p, q, r, rfl⟩
theorem add_add (K b : List UInt8) (r : Nat) (h : b.length = 16) : addK K (addK K b r) r = b := by
  apply List.ext_getElem
  · rw [addK_len, h]
  · intro i h1 h2
    have hi : i < 16 := by omega
    simp [addK, addF, hi, List.getD_eq_getElem?_getD, UInt8.xor_assoc, List.getElem?_eq_getElem h2]
theorem sL_get (x : UInt8) : sL.getD x.toNat 0 = UInt8.ofBitVec (sbox x.toBitVec) := by
  have h : x.toNat < 256 := x.toNat_lt
  simp [sL, List.getD_eq_getElem?_getD, h]
theorem iL_get (x : UInt8) : iL.getD x.toNat 0 = UInt8.ofBitVec (ibox x.toBitVec) := by
  have h : x.toNat < 256 := x.toNat_lt
  simp [iL, List.getD_eq_getElem?_getD, h]
theorem iLsL (x : UInt8) : iL.getD (sL.getD x.toNat 0).toNat 0 = x := by
  rw [iL_get, sL_get]; simp [ibox_sbox]
theorem sLiL (x : UInt8) : sL.getD (iL.getD x.toNat 0).toNat 0 = x := by
  rw [sL_get, iL_get]; simp [sbox_ibox]
theorem shift_p (T : List UInt8) (a b c d e f g i j k m n o p q r : UInt8) : shiftB T [a, b, c, d, e, f, g, i, j, k, m, n, o, p, q, r] (1) = [T.getD a.toNat 0, T.getD f.toNat 0, T.getD m.toNat 0, T.getD r.toNat 0, T.getD e.toNat 0, T.getD k.toNat 0, T.getD q.toNat 0, T.getD d.toNat 0, T.getD j.toNat 0, T.getD p.toNat 0, T.getD c.toNat 0, T.getD i.toNat 0, T.getD o.toNat 0, T.getD b.toNat 0, T.getD g.toNat 0, T.getD n.toNat 0] := rfl
theorem shift_m (T : List UInt8) (a b c d e f g i j k m n o p q r : UInt8) : shiftB T [a, b, c, d, e, f, g, i, j, k, m, n, o, p, q, r] (-1) = [T.getD a.toNat 0, T.getD p.toNat 0, T.getD m.toNat 0, T.getD i.toNat 0, T.getD e.toNat 0, T.getD b.toNat 0, T.getD q.toNat 0, T.getD n.toNat 0, T.getD j.toNat 0, T.getD f.toNat 0, T.getD c.toNat 0, T.getD r.toNat 0, T.getD o.toNat 0, T.getD k.toNat 0, T.getD g.toNat 0, T.getD d.toNat 0] := rfl
theorem shift_back (b : List UInt8) (h : b.length = 16) : shiftB iL (shiftB sL b 1) (-1) = b := by
  obtain ⟨a, b, c, d, e, f, g, i, j, k, m, n, o, p, q, r, rfl⟩ := list16 h
  simp only [shift_p, shift_m, iLsL]
theorem shift_there (b : List UInt8) (h : b.length = 16) : shiftB sL (shiftB iL b (-1)) 1 = b := by
  obtain ⟨a, b, c, d, e, f, g, i, j, k, m, n, o, p, q, r, rfl⟩ := list16 h
  simp only [shift_p, shift_m, sLiL]
/-! a column is mixed by four numbers, and back -/
def mix4 (x y z w p q r s : UInt8) : UInt8 := 0 ^^^ mulB x p ^^^ mulB y q ^^^ mulB z r ^^^ mulB w s
theorem mix_v (a b c d e f g i j k m n o p q r P Q R S : UInt8) : mixB [a, b, c, d, e, f, g, i, j, k, m, n, o, p, q, r] [P, Q, R, S] = [mix4 a b c d P Q R S, mix4 b c d a P Q R S, mix4 c d a b P Q R S, mix4 d a b c P Q R S, mix4 e f g i P Q R S, mix4 f g i e P Q R S, mix4 g i e f P Q R S, mix4 i e f g P Q R S, mix4 j k m n P Q R S, mix4 k m n j P Q R S, mix4 m n j k P Q R S, mix4 n j k m P Q R S, mix4 o p q r P Q R S, mix4 p q r o P Q R S, mix4 q r o p P Q R S, mix4 r o p q P Q R S] := rfl
theorem mul_zero8 (c : UInt8) : mulB 0 c = 0 := by
  revert c; exact all8 (by decide +kernel)
theorem mixA0 (x : UInt8) : 0 ^^^ mulB (mulB x 2) 14 ^^^ mulB (mulB x 1) 11 ^^^ mulB (mulB x 1) 13 ^^^ mulB (mulB x 3) 9 = x := by
  revert x; exact all8 (by decide +kernel)
theorem mixA1 (x : UInt8) : 0 ^^^ mulB (mulB x 3) 14 ^^^ mulB (mulB x 2) 11 ^^^ mulB (mulB x 1) 13 ^^^ mulB (mulB x 1) 9 = 0 := by
  revert x; exact all8 (by decide +kernel)
theorem mixA2 (x : UInt8) : 0 ^^^ mulB (mulB x 1) 14 ^^^ mulB (mulB x 3) 11 ^^^ mulB (mulB x 2) 13 ^^^ mulB (mulB x 1) 9 = 0 := by
  revert x; exact all8 (by decide +kernel)
theorem mixA3 (x : UInt8) : 0 ^^^ mulB (mulB x 1) 14 ^^^ mulB (mulB x 1) 11 ^^^ mulB (mulB x 3) 13 ^^^ mulB (mulB x 2) 9 = 0 := by
  revert x; exact all8 (by decide +kernel)
theorem mixA (x y z w : UInt8) : mix4 (mix4 x y z w 2 3 1 1) (mix4 y z w x 2 3 1 1) (mix4 z w x y 2 3 1 1) (mix4 w x y z 2 3 1 1) 14 11 13 9 = x := by
  have e0 := mixA0 x
  have e1 := mixA1 y
  have e2 := mixA2 z
  have e3 := mixA3 w
  unfold mix4
  simp only [mulB_xor, mul_zero8]
  have e := congr (congrArg HXor.hXor (congr (congrArg HXor.hXor (congr (congrArg HXor.hXor e0) e1)) e2)) e3
  simp only [UInt8.zero_xor, UInt8.xor_zero] at e ⊢
  refine Eq.trans ?_ e
  ac_rfl
theorem mixZ0 (x : UInt8) : 0 ^^^ mulB (mulB x 14) 2 ^^^ mulB (mulB x 9) 3 ^^^ mulB (mulB x 13) 1 ^^^ mulB (mulB x 11) 1 = x := by
  revert x; exact all8 (by decide +kernel)
theorem mixZ1 (x : UInt8) : 0 ^^^ mulB (mulB x 11) 2 ^^^ mulB (mulB x 14) 3 ^^^ mulB (mulB x 9) 1 ^^^ mulB (mulB x 13) 1 = 0 := by
  revert x; exact all8 (by decide +kernel)
theorem mixZ2 (x : UInt8) : 0 ^^^ mulB (mulB x 13) 2 ^^^ mulB (mulB x 11) 3 ^^^ mulB (mulB x 14) 1 ^^^ mulB (mulB x 9) 1 = 0 := by
  revert x; exact all8 (by decide +kernel)
theorem mixZ3 (x : UInt8) : 0 ^^^ mulB (mulB x 9) 2 ^^^ mulB (mulB x 13) 3 ^^^ mulB (mulB x 11) 1 ^^^ mulB (mulB x 14) 1 = 0 := by
  revert x; exact all8 (by decide +kernel)
theorem mixZ (x y z w : UInt8) : mix4 (mix4 x y z w 14 11 13 9) (mix4 y z w x 14 11 13 9) (mix4 z w x y 14 11 13 9) (mix4 w x y z 14 11 13 9) 2 3 1 1 = x := by
  have e0 := mixZ0 x
  have e1 := mixZ1 y
  have e2 := mixZ2 z
  have e3 := mixZ3 w
  unfold mix4
  simp only [mulB_xor, mul_zero8]
  have e := congr (congrArg HXor.hXor (congr (congrArg HXor.hXor (congr (congrArg HXor.hXor e0) e1)) e2)) e3
  simp only [UInt8.zero_xor, UInt8.xor_zero] at e ⊢
  refine Eq.trans ?_ e
  ac_rfl
theorem mix_back (b : List UInt8) (h : b.length = 16) : mixB (mixB b [2, 3, 1, 1]) [14, 11, 13, 9] = b := by
  obtain ⟨a, b, c, d, e, f, g, i, j, k, m, n, o, p, q, r, rfl⟩ := list16 h
  simp only [mix_v, mixA]
theorem mix_there (b : List UInt8) (h : b.length = 16) : mixB (mixB b [14, 11, 13, 9]) [2, 3, 1, 1] = b := by
  obtain ⟨a, b, c, d, e, f, g, i, j, k, m, n, o, p, q, r, rfl⟩ := list16 h
  simp only [mix_v, mixZ]
theorem dec_enc1 (K s : List UInt8) (R n : Nat) (h : s.length = 16) : decS iL K (encS sL K s R n) R n = s := by
  unfold decS encS
  by_cases q : n < R - 1
  · rw [if_pos q, if_pos q, add_add _ _ _ (mixB_len _ _), mix_back _ (shiftB_len _ _ _), shift_back _ h]
  · rw [if_neg q, if_neg q, add_add _ _ _ (shiftB_len _ _ _), shift_back _ h]
theorem enc_dec1 (K s : List UInt8) (R n : Nat) (h : s.length = 16) : encS sL K (decS iL K s R n) R n = s := by
  unfold decS encS
  by_cases q : n < R - 1
  · rw [if_pos q, if_pos q, shift_there _ (mixB_len _ _), mix_there _ (addK_len _ _ _), add_add _ _ _ h]
  · rw [if_neg q, if_neg q, shift_there _ (addK_len _ _ _), add_add _ _ _ h]
theorem dec_encN (K b : List UInt8) (R m : Nat) (h : m ≤ R - 1) : decN iL K (encB sL K b R) R m = encN sL K b R (R - 1 - m) := by
  induction m with
  | zero => rfl
  | succ m ih =>
    rw [decN, ih (by omega)]
    obtain ⟨k, hk⟩ : ∃ k, R - 1 - m = k + 1 := ⟨R - 1 - m - 1, by omega⟩
    rw [hk, encN, dec_enc1 _ _ _ _ (encN_len _ _ _ _ _), show R - 1 - (m + 1) = k by omega]
theorem dec_enc (K b : List UInt8) (R : Nat) (h : b.length = 16) : decB iL K (encB sL K b R) R = b := by
  rw [decB, dec_encN _ _ _ _ (Nat.le_refl _), Nat.sub_self, encN, add_add _ _ _ h]
theorem enc_decN (K b : List UInt8) (R n : Nat) (h : b.length = 16) (hn : n ≤ R - 1) : encN sL K (decB iL K b R) R n = decN iL K b R (R - 1 - n) := by
  induction n with
  | zero => rw [encN, decB, add_add _ _ _ (decN_len _ _ _ _ _ h)]; rfl
  | succ n ih =>
    rw [encN, ih (by omega)]
    obtain ⟨k, hk⟩ : ∃ k, R - 1 - n = k + 1 := ⟨R - 1 - n - 1, by omega⟩
    rw [hk, decN, show R - 1 - k = n + 1 by omega, enc_dec1 _ _ _ _ (decN_len _ _ _ _ _ h), show R - 1 - (n + 1) = k by omega]
theorem enc_dec (K b : List UInt8) (R : Nat) (h : b.length = 16) : encB sL K (decB iL K b R) R = b := by
  rw [encB, enc_decN _ _ _ _ h (Nat.le_refl _), Nat.sub_self]; rfl
end Go.Proofs.Ytmbnclpgldglnaa
