import Derived.Test.YtmbnclpgldglnaaCbc3
namespace Go.Proofs.Ytmbnclpgldglnaa
open Go.RowKit
set_option linter.unusedVariables false
set_option linter.unusedSimpArgs false
set_option maxRecDepth 20000
/-! blocks in a chain, there and back -/
def All16 (bs : List (List UInt8)) : Prop := ∀ x ∈ bs, x.length = 16
theorem All16.len {bs : List (List UInt8)} (h : All16 bs) : bs.flatten.length = 16 * bs.length := by
  induction bs with
  | nil => rfl
  | cons x bs ih =>
    rw [List.flatten_cons, List.length_append, ih (fun y hy => h y (by simp [hy])), h x (by simp), List.length_cons]; omega
theorem blocks16_cons (x m : List UInt8) (hx : x.length = 16) : blocks16 (x ++ m) = x :: blocks16 m := by
  unfold blocks16
  have h1 : chN (x ++ m).length 16 = chN m.length 16 + 1 := by rw [List.length_append, hx]; unfold chN; omega
  rw [h1, List.range_succ_eq_map, List.map_cons, List.map_map]
  congr 1
  · rw [Nat.zero_mul, List.drop_zero, List.take_left' hx]
  · apply List.map_congr_left
    intro j _
    show ((x ++ m).drop ((j + 1) * 16)).take 16 = _
    rw [show (j + 1) * 16 = x.length + j * 16 by omega, ← List.drop_drop, List.drop_left]
theorem blocks16_flatten {bs : List (List UInt8)} (h : All16 bs) : blocks16 bs.flatten = bs := by
  induction bs with
  | nil => rfl
  | cons x bs ih => rw [List.flatten_cons, blocks16_cons x _ (h x (by simp)), ih (fun y hy => h y (by simp [hy]))]
theorem blocks16_ex : ∀ (n : Nat) (m : List UInt8), m.length = 16 * n → ∃ bs, All16 bs ∧ bs.flatten = m := by
  intro n
  induction n with
  | zero => intro m h; exact ⟨[], fun x hx => (by cases hx), by rw [List.eq_nil_of_length_eq_zero (by omega : m.length = 0)]; rfl⟩
  | succ n ih =>
    intro m h
    obtain ⟨bs, h1, h2⟩ := ih (m.drop 16) (by rw [List.length_drop]; omega)
    refine ⟨m.take 16 :: bs, fun x hx => ?_, by rw [List.flatten_cons, h2, List.take_append_drop]⟩
    rcases List.mem_cons.1 hx with rfl | hx
    · rw [List.length_take]; omega
    · exact h1 x hx
def chainE (E : List UInt8 → List UInt8) : List UInt8 → List (List UInt8) → List (List UInt8)
  | _, [] => []
  | v, x :: r => E (xorB x v) :: chainE E (E (xorB x v)) r
def chainD (D : List UInt8 → List UInt8) : List UInt8 → List (List UInt8) → List (List UInt8)
  | _, [] => []
  | v, x :: r => xorB (D x) v :: chainD D x r
theorem foldE (E : List UInt8 → List UInt8) : ∀ (bs : List (List UInt8)) (v o : List UInt8), (bs.foldl (sealS E) (v, o)).2 = o ++ (chainE E v bs).flatten
  | [], v, o => by simp [chainE]
  | x :: r, v, o => by rw [List.foldl_cons, sealS, foldE E r, chainE, List.flatten_cons, List.append_assoc]
theorem foldD (D : List UInt8 → List UInt8) : ∀ (bs : List (List UInt8)) (v o : List UInt8), (bs.foldl (openS D) (v, o)).2 = o ++ (chainD D v bs).flatten
  | [], v, o => by simp [chainD]
  | x :: r, v, o => by rw [List.foldl_cons, openS, foldD D r, chainD, List.flatten_cons, List.append_assoc]
theorem xor_xor (x v : List UInt8) (h : x.length = 16) : xorB (xorB x v) v = x := by
  apply List.ext_getElem
  · rw [xorB_len, h]
  · intro i h1 h2
    simp [xorB, List.getD_eq_getElem?_getD, show i < 16 by omega, h2, UInt8.xor_assoc]
section
variable {E D : List UInt8 → List UInt8}
theorem chainE_all (hE : ∀ x, x.length = 16 → (E x).length = 16) : ∀ (bs : List (List UInt8)) (v : List UInt8), All16 (chainE E v bs)
  | [], v => fun x hx => by cases hx
  | x :: r, v => fun y hy => by
    rcases List.mem_cons.1 hy with rfl | hy
    · exact hE _ (xorB_len _ _)
    · exact chainE_all hE r _ y hy
theorem chainD_all : ∀ (bs : List (List UInt8)) (v : List UInt8), All16 (chainD D v bs)
  | [], v => fun x hx => by cases hx
  | x :: r, v => fun y hy => by
    rcases List.mem_cons.1 hy with rfl | hy
    · exact xorB_len _ _
    · exact chainD_all r _ y hy
theorem chainE_len : ∀ (bs : List (List UInt8)) (v : List UInt8), (chainE E v bs).length = bs.length
  | [], v => rfl
  | x :: r, v => by rw [chainE, List.length_cons, chainE_len r, List.length_cons]
theorem chainD_len : ∀ (bs : List (List UInt8)) (v : List UInt8), (chainD D v bs).length = bs.length
  | [], v => rfl
  | x :: r, v => by rw [chainD, List.length_cons, chainD_len r, List.length_cons]
theorem chainDE (hDE : ∀ x, x.length = 16 → D (E x) = x) : ∀ (bs : List (List UInt8)) (v : List UInt8), All16 bs → chainD D v (chainE E v bs) = bs
  | [], v, h => rfl
  | x :: r, v, h => by
    rw [chainE, chainD, hDE _ (xorB_len _ _), xor_xor x v (h x (by simp)), chainDE hDE r _ (fun y hy => h y (by simp [hy]))]
theorem chainED (hD : ∀ x, x.length = 16 → (D x).length = 16) (hED : ∀ x, x.length = 16 → E (D x) = x) : ∀ (bs : List (List UInt8)) (v : List UInt8), All16 bs → chainE E v (chainD D v bs) = bs
  | [], v, h => rfl
  | x :: r, v, h => by
    have hx := h x (by simp)
    rw [chainD, chainE, xor_xor (D x) v (hD x hx), hED x hx, chainED hD hED r _ (fun y hy => h y (by simp [hy]))]
theorem pad_blocks (b : List UInt8) : ∃ bs, All16 bs ∧ bs.flatten = padM b ∧ bs.length = b.length / 16 + 1 := by
  obtain ⟨bs, h1, h2⟩ := blocks16_ex (b.length / 16 + 1) (padM b) (by rw [padM_len]; unfold padN16; omega)
  refine ⟨bs, h1, h2, ?_⟩
  have := h1.len
  rw [h2, padM_len] at this
  unfold padN16 at this; omega
theorem sealB_len (hE : ∀ x, x.length = 16 → (E x).length = 16) (iv b : List UInt8) : (sealB E iv b).length = b.length / 16 * 16 + 16 := by
  obtain ⟨bs, h1, h2, h3⟩ := pad_blocks b
  rw [sealB, ← h2, blocks16_flatten h1, foldE, List.nil_append, (chainE_all hE bs iv).len, chainE_len, h3]; omega
theorem ofNat_toNat16 {n : Nat} (h : n ≤ 16) : (UInt8.ofNat n).toNat = n := by
  rw [UInt8.toNat_ofNat']; omega
theorem openT_pad (b : List UInt8) : openT (padM b) = some b := by
  have hn : 1 ≤ padN16 b ∧ padN16 b ≤ 16 := by unfold padN16; omega
  have hl := padM_len b
  have hlast : (padM b).getD ((padM b).length - 1) 0 = UInt8.ofNat (padN16 b) := by
    rw [hl, padM, List.getD_eq_getElem?_getD, List.getElem?_append_right (by omega), List.getElem?_replicate, if_pos (by omega)]; rfl
  have e1 : b.length + padN16 b - padN16 b = b.length := by omega
  have e2 : (padM b).drop b.length = List.replicate (padN16 b) (UInt8.ofNat (padN16 b)) := by rw [padM]; exact List.drop_left
  have e3 : (padM b).take b.length = b := by rw [padM]; exact List.take_left
  rw [openT, hlast, ofNat_toNat16 hn.2, hl, e1, if_pos ⟨hn.1, hn.2, e2⟩, e3]
theorem open_seal (hE : ∀ x, x.length = 16 → (E x).length = 16) (hDE : ∀ x, x.length = 16 → D (E x) = x) (iv b : List UInt8) : openB D iv (sealB E iv b) = some b := by
  have hl := sealB_len hE iv b
  rw [openB, if_neg (by omega)]
  obtain ⟨bs, h1, h2, h3⟩ := pad_blocks b
  have e : openF D iv (sealB E iv b) = padM b := by
    rw [sealB, ← h2, blocks16_flatten h1, foldE, List.nil_append, openF, blocks16_flatten (chainE_all hE bs iv), foldD, List.nil_append, chainDE hDE bs iv h1]
  rw [e, openT_pad]
theorem seal_open (hD : ∀ x, x.length = 16 → (D x).length = 16) (hED : ∀ x, x.length = 16 → E (D x) = x) {iv c z : List UInt8} (h : openB D iv c = some z) : sealB E iv z = c ∧ z.length ≤ c.length := by
  rw [openB] at h
  split at h
  · cases h
  · rename_i hc
    obtain ⟨cs, h1, h2⟩ := blocks16_ex (c.length / 16) c (by omega)
    have e : openF D iv c = (chainD D iv cs).flatten := by rw [openF, ← h2, blocks16_flatten h1, foldD, List.nil_append]
    have hT : (chainD D iv cs).flatten.length = c.length := by
      rw [(chainD_all cs iv).len, chainD_len, ← h2, h1.len]
    rw [e] at h
    have hall := chainD_all (D := D) cs iv
    have hback := chainED hD hED cs iv h1
    generalize chainD D iv cs = ts at *
    rw [openT] at h
    split at h
    · rename_i q
      obtain ⟨q1, q2, q3⟩ := q
      injection h with h
      generalize (ts.flatten.getD (ts.flatten.length - 1) 0) = f at *
      obtain ⟨F, hF⟩ : ∃ F, F = f.toNat := ⟨_, rfl⟩
      rw [← hF] at q1 q2 q3 h
      have hzl : z.length = c.length - F := by rw [← h, List.length_take]; omega
      have hp : padN16 z = F := by unfold padN16; omega
      have hf : UInt8.ofNat F = f := by rw [hF]; exact UInt8.ofNat_toNat
      have hpm : padM z = ts.flatten := by rw [padM, hp, hf, ← q3, ← h, List.take_append_drop]
      refine ⟨?_, by omega⟩
      rw [sealB, hpm, blocks16_flatten hall, foldE, List.nil_append, hback, h2]
    · cases h
end
end Go.Proofs.Ytmbnclpgldglnaa
