import Derived.Test.YtikganlbnhapcaaAvHand
import Derived.Test.YtikganlbnhapcaaOctInt
namespace Go.Proofs.Ytikganlbnhapcaa
open Go.RowKit
set_option linter.unusedVariables false
set_option linter.unusedSimpArgs false
set_option maxRecDepth 20000
def tb (l : List UInt8) : List (BitVec 8) := l.map UInt8.toBitVec
def fb (l : List (BitVec 8)) : List UInt8 := l.map UInt8.ofBitVec
theorem tb_fb (l : List (BitVec 8)) : tb (fb l) = l := by
  unfold tb fb; rw [List.map_map, show UInt8.toBitVec ∘ UInt8.ofBitVec = id from rfl]; simp
theorem tb_len (l : List UInt8) : (tb l).length = l.length := by simp [tb]
theorem fb_len (l : List (BitVec 8)) : (fb l).length = l.length := by simp [fb]
theorem fb_tb (l : List UInt8) : fb (tb l) = l := by
  unfold tb fb; rw [List.map_map, show UInt8.ofBitVec ∘ UInt8.toBitVec = id from rfl]; simp
theorem sB_fb (l : List (BitVec 8)) : sB (fb l) = sOf l := rfl
theorem sB_tb (l : List UInt8) : sB l = sOf (tb l) := by rw [← sB_fb, fb_tb]
/-- bytes that are known are read -/
theorem rd_of_k {K : Kd} {w : World} (hk : KOk K w) {full : Bool} {l : List UInt8} {v : Value} (h : KRep K (.sl full l.length (aOfBytes l)) v) : Rd w v (B8 (tb l)) := by
  generalize hn : l.length = n at h
  generalize hc : aOfBytes l = cs at h
  cases h with
  | sl0 full a cap hm hf =>
    have : l = [] := List.eq_nil_of_length_eq_zero hn
    subst this
    exact ⟨a, cap, rfl, Nat.zero_le _, hm, .inl rfl⟩
  | sl full n cells b o cap h0 hm hf h1 h3 =>
    subst hc hn
    refine ⟨some ⟨b, o, none⟩, cap, by rw [B8_len, tb_len], by rw [B8_len, tb_len]; exact h0, hm, .inr ⟨b, o, rfl, fun i hi => ?_⟩⟩
    rw [B8_len, tb_len] at hi
    rw [(hk.at_ h1 (by rw [aOfBytes_len']; exact hi)).1]
    have hx : (aOfBytes l)[i]? = some (.int .u8 ((l[i]).toNat : Int)) := by simp [aOfBytes, hi]
    rw [kint_inv (h3 i _ hx)]
    congr 1
    rw [B8_getD _ _ (by rw [tb_len]; exact hi)]
    simp [tb, hi, n8]
/-- new bytes that are read are known -/
theorem k_of_rd {K : Kd} {w : World} {N : Nat} {l : List (BitVec 8)} {v : Value} (h : Rd w v (B8 l)) (hf : Fresh N v) : KRep (K.wide N w) (.sl false (fb l).length (aOfBytes (fb l))) v := by
  obtain ⟨a, cap, rfl, h1, h2, h3⟩ := h
  rw [B8_len] at h1 h3 ⊢
  rw [fb_len]
  by_cases h0 : l.length = 0
  · have : l = [] := List.eq_nil_of_length_eq_zero h0
    subst this
    exact .sl0 _ _ _ h2 (fun q => by cases q)
  · rcases h3 with h3 | ⟨b, o, rfl, h3⟩
    · exact absurd h3 h0
    · have hN : ¬ b < N := by have := hf _ _ _ rfl; simp only at this; omega
      have hl : (aOfBytes (fb l)).length = l.length := by rw [aOfBytes_len', fb_len]
      have hc : ∀ i, i < l.length → w.cell? ⟨b, o + i, none⟩ = some (.int .u8 (n8 (l.getD i 0))) := fun i hi => by
        rw [h3 i hi, B8_getD _ _ hi]
      have hv : ∀ i, i < l.length → (K.wide N w).val b (o + i) = .int .u8 (n8 (l.getD i 0)) := fun i hi => by
        simp only [Kd.wide, hN, if_false]; exact val_of (hc i hi)
      refine .sl _ _ _ _ _ _ h1 h2 (fun q => by cases q) ⟨?_, fun i hi => ?_⟩ fun i x hx => ?_
      · rw [hl]
        have := hw_of (hc (l.length - 1) (by omega))
        simp only [Kd.wide, hN, if_false]; omega
      · rw [hl] at hi; rw [hv i hi]; rfl
      · have hi : i < l.length := by have := getq_lt hx; rw [hl] at this; exact this
        rw [hv i hi]
        have : x = .int .u8 (n8 (l.getD i 0)) := by
          simp [aOfBytes, fb, hi] at hx
          rw [← hx]; simp [n8, hi]
        subst this
        exact .int _ _
def pI (l : List UInt8) (n : Int) : List UInt8 := fb (tb l ++ encI n)
theorem aInt_spec (full : Bool) (l : List UInt8) (n : Int) (hb : l.length ≤ 1000000) : Spec Try.prog 74 [.sl full l.length (aOfBytes l), .int .i64 n] (.k (.sl false (pI l n).length (aOfBytes (pI l n)))) := by
  refine spec_calls ⟨_, Try.func74, rfl, rfl⟩ fun K w vs hk ha => ?_
  obtain ⟨u, v, rfl, g0, g1⟩ := args2 ha
  rw [kint_inv g1]
  refine (oint_calls (tb l) n u w (rd_of_k hk g0) (by rw [tb_len]; omega)).mono ?_
  rintro e w' ⟨v', rfl, ho, b⟩
  exact ⟨v', rfl, b, k_of_rd ho.rd ho.fresh⟩
end Go.Proofs.Ytikganlbnhapcaa
