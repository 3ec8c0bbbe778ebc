import Derived.Test.YtmbnclpgldglnaaCbcP
import Derived.Test.YtmbnclpgldglnaaAesP
namespace Go.Proofs.Ytmbnclpgldglnaa
open Go.RowKit
set_option linter.unusedVariables false
set_option linter.unusedSimpArgs false
set_option maxRecDepth 20000
def cbcE (k : List UInt8) (x : List UInt8) : List UInt8 := encB sL (aesK k) x (aesR k)
def cbcD (k : List UInt8) (x : List UInt8) : List UInt8 := decB iL (aesK k) x (aesR k)
theorem cbcE_len (k : List UInt8) (x : List UInt8) (h : x.length = 16) : (cbcE k x).length = 16 := encB_len _ _ _ _
theorem cbcD_len (k : List UInt8) (x : List UInt8) (h : x.length = 16) : (cbcD k x).length = 16 := decB_len _ _ _ _
theorem cbcDE (k : List UInt8) (x : List UInt8) (h : x.length = 16) : cbcD k (cbcE k x) = x := dec_enc _ _ _ h
theorem cbcED (k : List UInt8) (x : List UInt8) (h : x.length = 16) : cbcE k (cbcD k x) = x := enc_dec _ _ _ h
theorem seal_spec (fk fb : Bool) (key iv b : List UInt8) (h : aesOk key) (hiv : iv.length = 16) (hb : b.length ≤ 100000) :
    Spec Try.prog 12 [.sl fk key.length (aOfBytes key), .agg (aOfBytes iv), .sl fb b.length (aOfBytes b)] (.k (.tup [.sl true (sealB (cbcE key) iv b).length (aOfBytes (sealB (cbcE key) iv b)), .int .i64 0])) := by
  have s1 := new_spec fk key (by unfold aesOk at h; omega)
  rw [newR, if_pos h] at s1
  have hR : aesR key ≤ 1000 ∧ 0 < aesR key := by unfold aesOk at h; unfold aesR; omega
  exact seal_walk fk fb key iv b _ (cbcE key) (cbcE_len key) hiv hb s1 fun x hx => encrypt_spec sL iL (aesK key) x (aesR key) sL_len iL_len (aesK_len h) hR.1 hR.2 hx
theorem open_spec (fk fb : Bool) (key iv b : List UInt8) (h : aesOk key) (hiv : iv.length = 16) (hb : b.length ≤ 100000) :
    Spec Try.prog 16 [.sl fk key.length (aOfBytes key), .agg (aOfBytes iv), .sl fb b.length (aOfBytes b)] (.k (openR (openB (cbcD key) iv b))) := by
  have s1 := new_spec fk key (by unfold aesOk at h; omega)
  rw [newR, if_pos h] at s1
  have hR : aesR key ≤ 1000 ∧ 0 < aesR key := by unfold aesOk at h; unfold aesR; omega
  exact open_walk fk fb key iv b _ (cbcD key) (cbcD_len key) hiv hb s1 fun x hx => decrypt_spec sL iL (aesK key) x (aesR key) sL_len iL_len (aesK_len h) hR.1 hR.2 hx
def kZ : List UInt8 := List.replicate 16 0
theorem kZ_av : List.replicate 16 (AV.int .u8 0) = aOfBytes kZ := rfl
theorem xor_zero (x : List UInt8) (h : x.length = 16) : xorB x kZ = x := by
  apply List.ext_getElem
  · rw [xorB_len, h]
  · intro i h1 h2
    have hi : i < 16 := by omega
    have hz : kZ.getD i 0 = 0 := by
      unfold kZ; rw [List.getD_eq_getElem?_getD, List.getElem?_replicate]; split <;> rfl
    have hx : x.getD i 0 = x[i] := by simp [List.getD_eq_getElem?_getD, h2]
    simp only [xorB, List.getElem_map, List.getElem_range, hz, hx, UInt8.xor_zero]
theorem init5 (a b c d e : AV) (md : Md) : initSt [a, b, c, d, e] md = ⟨upd (upd (upd (upd (upd (fun _ => .k .any) 0 (.k a)) 1 (.k b)) 2 (.k c)) 3 (.k d)) 4 (.k e), fun _ => none, 0, md⟩ := by
  unfold initSt; congr 1; funext t
  match t with
  | 0 => rfl
  | 1 => rfl
  | 2 => rfl
  | 3 => rfl
  | 4 => rfl
  | t + 5 => simp [upd]
end Go.Proofs.Ytmbnclpgldglnaa
