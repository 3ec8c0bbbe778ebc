import Derived.Test.YtjfeggkjkdbkiaaAvHand
import Derived.Test.YtjfeggkjkdbkiaaShaPure
import Derived.Test.YtjfeggkjkdbkiaaBox
namespace Go.Proofs.Ytjfeggkjkdbkiaa
open Go.RowKit
set_option linter.unusedVariables false
set_option linter.unusedSimpArgs false
set_option maxRecDepth 20000
/-! multiplication and tables -/
def mulB (a b : UInt8) : UInt8 := UInt8.ofBitVec (gmul a.toBitVec b.toBitVec)
theorem mulB_spec (a b : UInt8) : Spec Try.prog 95 [.int .u8 (a.toNat : Int), .int .u8 (b.toNat : Int)] (.k (.int .u8 ((mulB a b).toNat : Int))) := by
  refine spec_calls ⟨_, Try.func95, rfl, rfl⟩ fun K w vs hk ha => ?_
  obtain ⟨u, v, rfl, g0, g1⟩ := args2 ha
  rw [kint_inv g0, kint_inv g1]
  refine (mul_calls a.toBitVec b.toBitVec w).mono ?_
  rintro e w' ⟨rfl, rfl⟩
  exact ⟨_, rfl, Below.refl _ _, .int _ _⟩
def sL : List UInt8 := (List.range 256).map fun i => UInt8.ofBitVec (sbox (BitVec.ofNat 8 i))
def iL : List UInt8 := (List.range 256).map fun i => UInt8.ofBitVec (ibox (BitVec.ofNat 8 i))
theorem sL_len : sL.length = 256 := by simp [sL]
theorem iL_len : iL.length = 256 := by simp [iL]
theorem agg_A8 (K : Kd) (f : Nat → BitVec 8) : KRep K (.agg (aOfBytes ((List.range 256).map fun i => UInt8.ofBitVec (f i)))) (.agg (A8 256 f)) := by
  have hx0 : ∀ i, i < 256 → (aOfBytes ((List.range 256).map fun i => UInt8.ofBitVec (f i)))[i]? = some (.int .u8 (n8 (f i))) := fun i hi => by
    simp [aOfBytes, hi]; rfl
  refine .agg _ _ (by simp [A8, aOfBytes]) (fun i v hv => ?_) fun i x v hx hv => ?_
  · have hi : i < 256 := by have := (Array.getElem?_eq_some_iff.1 hv).1; simpa [A8] using this
    rw [A8_get 256 f i hi] at hv
    injection hv with hv; subst hv; rfl
  · have hi : i < 256 := by have := (Array.getElem?_eq_some_iff.1 hv).1; simpa [A8] using this
    rw [A8_get 256 f i hi] at hv
    rw [hx0 i hi] at hx
    injection hx with hx; injection hv with hv; subst hx hv; exact .int _ _
theorem tables_spec : Spec Try.prog 72 [] (.k (.tup [.agg (aOfBytes sL), .agg (aOfBytes iL)])) := by
  refine spec_calls ⟨_, Try.func72, rfl, rfl⟩ fun K w vs hk ha => ?_
  obtain rfl : vs = #[] := Array.eq_empty_of_size_eq_zero ha.1
  refine (tables_calls w).mono ?_
  rintro e w' ⟨rfl, b⟩
  exact ⟨_, rfl, b, krep_pair (agg_A8 _ _) (agg_A8 _ _)⟩
end Go.Proofs.Ytjfeggkjkdbkiaa
