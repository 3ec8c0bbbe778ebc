import Derived.Test.YtjfeggkjkdbkiaaBoxTab
import Derived.Test.YtjfeggkjkdbkiaaAes1
import Derived.Test.YtjfeggkjkdbkiaaAvBytes
namespace Go.Proofs.Ytjfeggkjkdbkiaa
open Go.RowKit
set_option linter.unusedVariables false
set_option linter.unusedSimpArgs false
set_option maxRecDepth 20000
theorem rmul_spec (a b : UInt8) : Spec Try.prog 80 [.int .u8 (a.toNat : Int), .int .u8 (b.toNat : Int)] (.k (.int .u8 ((mulB a b).toNat : Int))) := by
  refine spec_calls ⟨_, Try.func80, rfl, rfl⟩ fun K w vs hk ha => ?_
  obtain ⟨u, v, rfl, g0, g1⟩ := args2 ha
  rw [kint_inv g0, kint_inv g1]
  refine (rmul_calls a.toBitVec b.toBitVec w).mono ?_
  rintro e w' ⟨rfl, rfl⟩
  exact ⟨_, rfl, Below.refl _ _, .int _ _⟩
theorem k_of_A8 {K : Kd} {w : World} {N g : Nat} {f : Nat → BitVec 8} (h : w.heap[g]? = some (.cells (A8 256 f) 5 (0, 0))) (hN : N ≤ g) :
    KRep (K.wide N w) (.sl false 256 (aOfBytes ((List.range 256).map fun i => UInt8.ofBitVec (f i)))) (.slice (some ⟨g, 0, none⟩) 256 256) := by
  have hc : ∀ i, i < 256 → w.cell? ⟨g, i, none⟩ = some (.int .u8 (n8 (f i))) := fun i hi => by
    rw [cell_of_row w g i _ _ _ h, A8_get _ _ _ hi]
  have hN' : ¬ g < N := by omega
  have hl : (aOfBytes ((List.range 256).map fun i => UInt8.ofBitVec (f i))).length = 256 := by simp [aOfBytes]
  have hv : ∀ i, i < 256 → (K.wide N w).val g (0 + i) = .int .u8 (n8 (f i)) := fun i hi => by
    rw [Nat.zero_add]; simp only [Kd.wide, hN', if_false]; exact val_of (hc i hi)
  refine .sl _ _ _ _ _ _ (Nat.le_refl _) (by decide) (fun q => by cases q) ⟨?_, fun i hi => ?_⟩ fun i x hx => ?_
  · rw [hl]
    have := hw_of (hc 255 (by omega))
    simp only [Kd.wide, hN', if_false]; omega
  · rw [hl] at hi; rw [hv i hi]; rfl
  · have hi : i < 256 := by have := getq_lt hx; rw [hl] at this; exact this
    rw [hv i hi]
    have : x = .int .u8 (n8 (f i)) := by
      simp [aOfBytes, hi] at hx
      rw [← hx]; simp [n8]
    subst this
    exact .int _ _
theorem rtables_spec : Spec Try.prog 79 [] (.k (.tup [.sl false 256 (aOfBytes sL), .sl false 256 (aOfBytes iL)])) := by
  refine spec_calls ⟨_, Try.func79, rfl, rfl⟩ fun K w vs hk ha => ?_
  obtain rfl : vs = #[] := Array.eq_empty_of_size_eq_zero ha.1
  refine (rtables_calls w).mono ?_
  rintro e w' ⟨g1, g2, rfl, h1, h2, b, m1, m2⟩
  exact ⟨_, rfl, b, krep_pair (k_of_A8 h1 m1) (k_of_A8 h2 m2)⟩
end Go.Proofs.Ytjfeggkjkdbkiaa
