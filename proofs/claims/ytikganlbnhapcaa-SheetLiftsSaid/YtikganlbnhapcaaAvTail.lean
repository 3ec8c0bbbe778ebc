import Derived.Test.YtikganlbnhapcaaAvHand
namespace Go.Proofs.Ytikganlbnhapcaa
open Go.RowKit
set_option linter.unusedVariables false
set_option linter.unusedSimpArgs false
set_option maxRecDepth 20000
/-! the rest of a function, walked over abstract values, behind a beginning that is walked by hand -/
theorem av_tailQ {P : Program} {fn : Func} {c : Code} {args : List MA} {vs : Array Value} {R : Ending → World → Prop} {K : Kd} {w : World} {b k : Nat} {cs : List AV} {r : AV} {Q' : Exit → Act → World → Prop} (os : Nat → Bool) (hmo : P.follows .mixedOrders = true) (hok : codeOk vs.size true c = true) (hk : KOk K w) (ho : OkB K w b cs) (ha : MArgs P w K b args vs)
    (h : aWp P c (fun e s => e = .normal ∧ aEndK P fn.results.toList fn.resultTypes.toList s r) (initM args k cs ⟨os, K.dp, false⟩))
    (hR : ∀ v w' K', (Base.but w b).Kp w' → K.le K' → KOk K' w' → (∀ x, x < w.heap.size → x ≠ b → K'.hw x = K.hw x) → (∀ δ, δ < K.dp → ∀ d g, K'.rw δ d g = K.rw δ d g) → KRep K' r v → R (.returned v) w') (hQ : ∀ a' w', LeavesInM Fence.wide 5 P fn a'.tmps R a'.defers .returning w' → Q' .normal a' w') : c.wp P Q' { tmps := vs, defers := [] } w := by
  have hreal := initM_real (os := os) (nest := false) (k := k) hk ho ha vs.size
  rw [Nat.sub_self, Array.replicate_zero, Array.append_empty] at hreal
  refine wpIn_wide.1 (wpIn_mono (n := 5) (aWp_sound (N := vs.size) hmo c true Fence.wide 5 _ _ _ _ _ w _ .wide (fun _ => rfl) hok h hreal rfl) ?_)
  rintro e a' w' ⟨e', s', G', rfl, k1, k2, k3⟩
  have hl := leaves (fn := fn) (R := R) a'.defers _ G' a' w' rfl k2 fun A G2 a2 w2 q1 q2 _ q4 q5 q6 => by
    obtain ⟨v, h1, h6⟩ := finish q6 k1.2
    rw [q2] at h1
    have hkle : K.le G2.K := by have := q6.kle; rw [q1] at this; exact this
    refine ⟨v, h1, hR v w2 (lendK s' G2 w2) q6.below (hkle.trans (lend_le q6)) (lend_ok q6) (fun b2 hb2 e => (lend_below q6 (show b2 < w.heap.size ∧ b2 ≠ b from ⟨hb2, e⟩)).trans (by have := q6.kold b2 ⟨hb2, e⟩; rw [q1] at this; exact this)) (fun δ hδ d g => ?_) h6⟩
    have := q6.kro δ (by rw [q1]; exact hδ) d g
    rw [q1] at this; exact this
  obtain rfl := k1.1
  exact hQ _ _ hl
theorem av_tail {P : Program} {fn : Func} {c : Code} {args : List MA} {vs : Array Value} {R : Ending → World → Prop} {K : Kd} {w : World} {b k : Nat} {cs : List AV} {r : AV} (os : Nat → Bool) (hmo : P.follows .mixedOrders = true) (hok : codeOk vs.size true c = true) (hk : KOk K w) (ho : OkB K w b cs) (ha : MArgs P w K b args vs)
    (h : aWp P c (fun e s => e.fin = true ∧ aEndK P fn.results.toList fn.resultTypes.toList s r) (initM args k cs ⟨os, K.dp, false⟩))
    (hR : ∀ v w' K', (Base.but w b).Kp w' → K.le K' → KOk K' w' → (∀ x, x < w.heap.size → x ≠ b → K'.hw x = K.hw x) → (∀ δ, δ < K.dp → ∀ d g, K'.rw δ d g = K.rw δ d g) → KRep K' r v → R (.returned v) w') : c.wp P (bodyPostM Fence.wide 5 P fn R) { tmps := vs, defers := [] } w := by
  have hreal := initM_real (os := os) (nest := false) (k := k) hk ho ha vs.size
  rw [Nat.sub_self, Array.replicate_zero, Array.append_empty] at hreal
  refine wpIn_wide.1 (wpIn_mono (n := 5) (aWp_sound (N := vs.size) hmo c true Fence.wide 5 _ _ _ _ _ w _ .wide (fun _ => rfl) hok h hreal rfl) ?_)
  rintro e a' w' ⟨e', s', G', rfl, k1, k2, k3⟩
  have hl := leaves (fn := fn) (R := R) a'.defers _ G' a' w' rfl k2 fun A G2 a2 w2 q1 q2 _ q4 q5 q6 => by
    obtain ⟨v, h1, h6⟩ := finish q6 k1.2
    rw [q2] at h1
    have hkle : K.le G2.K := by have := q6.kle; rw [q1] at this; exact this
    refine ⟨v, h1, hR v w2 (lendK s' G2 w2) q6.below (hkle.trans (lend_le q6)) (lend_ok q6) (fun b2 hb2 e => (lend_below q6 (show b2 < w.heap.size ∧ b2 ≠ b from ⟨hb2, e⟩)).trans (by have := q6.kold b2 ⟨hb2, e⟩; rw [q1] at this; exact this)) (fun δ hδ d g => ?_) h6⟩
    have := q6.kro δ (by rw [q1]; exact hδ) d g
    rw [q1] at this; exact this
  have := k1.1
  cases e' with
  | normal => exact hl
  | ret => exact hl
  | exit id => cases this
end Go.Proofs.Ytikganlbnhapcaa
