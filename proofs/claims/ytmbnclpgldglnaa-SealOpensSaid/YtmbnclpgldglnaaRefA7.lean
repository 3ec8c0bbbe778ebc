import Derived.Test.YtmbnclpgldglnaaRefA2
import Derived.Test.YtmbnclpgldglnaaRefA6
namespace Go.Proofs.Ytmbnclpgldglnaa
open Go.RowKit
set_option linter.unusedVariables false
set_option linter.unusedSimpArgs false
set_option maxRecDepth 20000
/-! the document's cipher agrees -/
def rN (key : List UInt8) : Nat := key.length / 4
def rKey (key : List UInt8) : AV := .cp (rcp key sL iL (rN key) (4 * rN key + 28))
theorem aesOk_n {key : List UInt8} (h : aesOk key) : key.length = 4 * rN key ∧ (rN key = 4 ∨ rN key = 6 ∨ rN key = 8) := by
  unfold aesOk at h; unfold rN; omega
theorem rnewK (key : List UInt8) (full : Bool) (h : aesOk key) : Spec Try.prog 18 [.sl full key.length (aOfBytes key)] (.k (.tup [rKey key, .bool true])) :=
  rnew_spec key full (rN key) (aesOk_n h).1 (aesOk_n h).2
theorem rc_key {key : List UInt8} (h : aesOk key) : RC (aesK key) (4 * rN key + 28) (wcs key sL (rN key) (4 * rN key + 28)) (wd key sL (rN key)) := by
  obtain ⟨h1, h2⟩ := aesOk_n h
  refine ⟨wcs_len _ _ _ _, fun m hm => wcs_get _ hm, fun m hm => wd_len h1 m, fun m j hm hj => ?_⟩
  have e : aesK key = exW key sL (rN key) (4 * rN key + 28) := by
    unfold aesK; rw [show key.length / 4 = rN key from rfl, show 4 * (rN key + 7) = 4 * rN key + 28 by omega]
  rw [e, exW_get h1 m j _ hj hm]
theorem renc_key {key : List UInt8} (h : aesOk key) (full : Bool) (b : List UInt8) (hb : b.length = 16) :
    Spec Try.prog 19 [rKey key, .sl full 16 (aOfBytes b)] (.k (.sl false 16 (aOfBytes (encB sL (aesK key) b (aesR key))))) := by
  obtain ⟨h1, h2⟩ := aesOk_n h
  have e : aesR key = (rN key + 6) + 1 := rfl
  rw [e, encB, Nat.add_sub_cancel]
  exact renc_spec (rc_key h) sL iL b full (rN key + 6) hb (by omega) (by omega) (by omega) sL_len
theorem rdec_keyN {key : List UInt8} (h : aesOk key) (full : Bool) (b : List UInt8) (hb : b.length = 16) :
    Spec Try.prog 49 [rKey key, .sl full 16 (aOfBytes b)] (.news 16 (aOfBytes (decB iL (aesK key) b (aesR key)))) := by
  obtain ⟨h1, h2⟩ := aesOk_n h
  have e : aesR key = (rN key + 6) + 1 := rfl
  rw [e]
  exact rdec_news (rc_key h) sL iL b full (rN key + 6) hb (by omega) (by omega) iL_len
end Go.Proofs.Ytmbnclpgldglnaa
