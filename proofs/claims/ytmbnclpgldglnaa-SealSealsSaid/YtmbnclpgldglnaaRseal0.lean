import Derived.Test.YtmbnclpgldglnaaSeal3
namespace Go.Proofs.Ytmbnclpgldglnaa
open Go.RowKit
set_option linter.unusedVariables false
set_option linter.unusedSimpArgs false
set_option maxRecDepth 20000
/-! opened by sealing again -/
theorem vN_lt : ∀ (n : Nat) (l : List (BitVec 8)), l.length = n → n ≤ 8 → (vN l).toNat < 256 ^ n
  | 0, l, h, _ => by
    obtain rfl : l = [] := List.eq_nil_of_length_eq_zero h
    simp [vN]
  | n + 1, l, h, h8 => by
    rcases List.eq_nil_or_concat l with rfl | ⟨m, b, rfl⟩
    · simp at h
    · have hm : m.length = n := by simpa using h
      have ih := vN_lt n m hm (by omega)
      have h7 : 256 ^ n ≤ 256 ^ 7 := Nat.pow_le_pow_right (by omega) (by omega)
      rw [List.concat_eq_append, vN_snoc, BitVec.toNat_add, BitVec.toNat_shiftLeft, BitVec.toNat_setWidth, Nat.shiftLeft_eq, Nat.pow_succ]
      have := b.isLt
      omega
theorem ser_vN : ∀ (n : Nat) (l : List (BitVec 8)), l.length = n → n ≤ 8 → ser (vN l) n = l
  | 0, l, h, _ => by
    obtain rfl : l = [] := List.eq_nil_of_length_eq_zero h
    rfl
  | n + 1, l, h, h8 => by
    rcases List.eq_nil_or_concat l with rfl | ⟨m, b, rfl⟩
    · simp at h
    · have hm : m.length = n := by simpa using h
      have ih := ser_vN n m hm (by omega)
      have hlt := vN_lt n m hm (by omega)
      have h7 : 256 ^ n ≤ 256 ^ 7 := Nat.pow_le_pow_right (by omega) (by omega)
      have hb := b.isLt
      rw [List.concat_eq_append, vN_snoc, ser_snoc]
      have e1 : (vN m <<< 8 + b.setWidth 64) >>> 8 = vN m := by
        apply BitVec.eq_of_toNat_eq
        rw [BitVec.toNat_ushiftRight, BitVec.toNat_add, BitVec.toNat_shiftLeft, BitVec.toNat_setWidth, Nat.shiftLeft_eq, Nat.shiftRight_eq_div_pow]
        omega
      have e2 : (vN m <<< 8 + b.setWidth 64).setWidth 8 = b := by
        apply BitVec.eq_of_toNat_eq
        rw [BitVec.toNat_setWidth, BitVec.toNat_add, BitVec.toNat_shiftLeft, BitVec.toNat_setWidth, Nat.shiftLeft_eq]
        omega
      rw [e1, e2, ih]
theorem ofInt_wrap (x : BitVec 64) : BitVec.ofInt 64 (wrap64 (n64 x)) = x := by
  apply n64_inj.1
  rw [← u64_of, IntKind.wrap_u64]
  have h1 := n64_lo x
  have h2 := n64_hi x
  unfold wrap64
  omega
theorem enc_vB (l : List UInt8) (h : l.length = 8) : fb (encI (vB l)) = l := by
  have e : encI (vB l) = tb l := by
    show ser (BitVec.ofInt 64 (wrap64 (n64 (vN (tb l))))) 8 = tb l
    rw [ofInt_wrap, ser_vN 8 (tb l) (by rw [tb_len, h]) (Nat.le_refl _)]
  rw [e, fb_tb]
def ropnS (kE kM s : List UInt8) (id gen : Int) : Option (List UInt8) :=
  if 88 ≤ s.length then
    match openB (cbcD kE) ((s.take 40).drop 24) ((s.take (s.length - 32)).drop 40) with
    | some x => if sealedB kE kM ((s.take 40).drop 24) x id gen = s then some x else none
    | none => none
  else none
theorem openB_some {D : List UInt8 → List UInt8} {iv c x : List UInt8} (h : openB D iv c = some x) : 16 ≤ c.length := by
  unfold openB at h
  split at h
  · cases h
  · rename_i q
    omega
theorem ropn_eq (kE kM s : List UInt8) (id gen : Int) (h1 : I64 id) (h2 : I64 gen) (hs : s.length ≤ 3000) : opnS kE kM s id gen = ropnS kE kM s id gen := by
  unfold ropnS
  by_cases h88 : 88 ≤ s.length
  · rw [if_pos h88]
    have hivl : ((s.take 40).drop 24).length = 16 := by rw [List.length_drop, List.length_take]; omega
    have hcl : ((s.take (s.length - 32)).drop 40).length = s.length - 72 := by rw [List.length_drop, List.length_take]; omega
    cases ho : openB (cbcD kE) ((s.take 40).drop 24) ((s.take (s.length - 32)).drop 40) with
    | none =>
      show _ = none
      unfold opnS
      rw [ho]
      split <;> rfl
    | some x =>
      show _ = if _ then _ else _
      obtain ⟨hsx, hxl⟩ := seal_open (cbcD_len kE) (cbcED kE) ho
      by_cases q : sealedB kE kM ((s.take 40).drop 24) x id gen = s
      · rw [if_pos q]
        have := opn_sealed kE kM ((s.take 40).drop 24) x id gen id gen hivl h1 h2 (by omega)
        rw [q, if_pos ⟨rfl, rfl⟩] at this
        exact this
      · rw [if_neg q]
        unfold opnS
        rw [ho]
        split
        · rename_i c
          exfalso; apply q
          obtain ⟨_, c2, c3, c4, c5⟩ := c
          have hp : preS kE ((s.take 40).drop 24) x id gen = s.take (s.length - 32) := by
            rw [preS, hdB_eq, hsx, hcl, ← c3, ← c4, show ((s.length - 72 : Nat) : Int) = (s.length : Int) - 72 by omega, ← c5]
            rw [enc_vB _ (by rw [List.length_take]; omega), enc_vB _ (by rw [List.length_take, List.length_drop]; omega), enc_vB _ (by rw [List.length_take, List.length_drop]; omega)]
            have g1 : s.take 8 ++ ((s.drop 8).take 8 ++ (s.drop 16).take 8) = s.take 24 := by
              have k1 : (s.drop 8).take 8 ++ (s.drop 16).take 8 = (s.drop 8).take 16 := by
                have := List.take_add (l := s.drop 8) (i := 8) (j := 8)
                rw [List.drop_drop] at this
                exact this.symm
              rw [k1]
              exact (List.take_add (l := s) (i := 8) (j := 16)).symm
            have g2 : s.take 24 ++ (s.take 40).drop 24 = s.take 40 := by
              rw [List.drop_take]
              exact (List.take_add (l := s) (i := 24) (j := 16)).symm
            have g3 : s.take 40 ++ (s.take (s.length - 32)).drop 40 = s.take (s.length - 32) := by
              rw [List.drop_take]
              have := (List.take_add (l := s) (i := 40) (j := s.length - 32 - 40)).symm
              rw [show 40 + (s.length - 32 - 40) = s.length - 32 by omega] at this
              exact this
            rw [g1, ← List.append_assoc, g2, g3]
          rw [sealedB, hp, c2, List.take_append_drop]
        · rfl
  · rw [if_neg h88]
    unfold opnS
    split
    · rename_i c
      cases ho : openB (cbcD kE) ((s.take 40).drop 24) ((s.take (s.length - 32)).drop 40) with
      | none => rfl
      | some x =>
        exfalso
        have := openB_some ho
        rw [List.length_drop, List.length_take] at this
        omega
    · rfl
end Go.Proofs.Ytmbnclpgldglnaa
