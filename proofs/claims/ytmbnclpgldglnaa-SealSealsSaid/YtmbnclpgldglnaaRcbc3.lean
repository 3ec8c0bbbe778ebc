import Derived.Test.YtmbnclpgldglnaaRcbc2
import Derived.Test.YtmbnclpgldglnaaRefA7
import Derived.Test.YtmbnclpgldglnaaCbc4
namespace Go.Proofs.Ytmbnclpgldglnaa
open Go.RowKit
set_option linter.unusedVariables false
set_option linter.unusedSimpArgs false
set_option maxRecDepth 20000
theorem rKey_cp (key : List UInt8) : ∃ cs, rKey key = .cp cs := ⟨_, rfl⟩
theorem rseal_key {key : List UInt8} (h : aesOk key) (fk fi fb : Bool) (iv b : List UInt8) (hiv : iv.length = 16) (hb : b.length ≤ 100000) :
    Spec Try.prog 14 [.sl fk key.length (aOfBytes key), .sl fi 16 (aOfBytes iv), .sl fb b.length (aOfBytes b)] (.k (.tup [.sl false (sealB (cbcE key) iv b).length (aOfBytes (sealB (cbcE key) iv b)), .int .i64 0])) := by
  have s1 := rnewK key fk h
  have s2 := fun f x hx => renc_key h f x hx
  obtain ⟨cs, e⟩ := rKey_cp key
  rw [e] at s1 s2
  exact rseal_walk fk fi fb key iv b cs (cbcE key) (cbcE_len key) hiv hb s1 s2
theorem ropen_key {key : List UInt8} (h : aesOk key) (fk fi fb : Bool) (iv b : List UInt8) (hiv : iv.length = 16) (hb : b.length ≤ 100000) :
    Spec Try.prog 17 [.sl fk key.length (aOfBytes key), .sl fi 16 (aOfBytes iv), .sl fb b.length (aOfBytes b)] (.k (ropenR (openB (cbcD key) iv b))) := by
  have s1 := rnewK key fk h
  have s2 := fun f x hx => rdec_keyN h f x hx
  obtain ⟨cs, e⟩ := rKey_cp key
  rw [e] at s1 s2
  exact ropen_walk fk fi fb key iv b cs (cbcD key) (cbcD_len key) hiv hb s1 s2
end Go.Proofs.Ytmbnclpgldglnaa
