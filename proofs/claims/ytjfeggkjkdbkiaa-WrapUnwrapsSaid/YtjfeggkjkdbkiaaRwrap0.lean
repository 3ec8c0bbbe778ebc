import Derived.Test.YtjfeggkjkdbkiaaWrap4
namespace Go.Proofs.Ytjfeggkjkdbkiaa
open Go.RowKit
set_option linter.unusedVariables false
set_option linter.unusedSimpArgs false
set_option maxRecDepth 20000
/-! the document's wrapping, in two lists -/
theorem pI_small (n : Nat) (h : n < 256) : pI [] (n : Int) = [0, 0, 0, 0, 0, 0, 0, UInt8.ofNat n] := by
  have hx : (BitVec.ofInt 64 (n : Int)).toNat = n := by rw [BitVec.ofInt_natCast, BitVec.toNat_ofNat]; omega
  have e : pI [] (n : Int) = (List.range 8).map fun i => UInt8.ofBitVec ((BitVec.ofInt 64 (n : Int) >>> (8 * (8 - 1 - i))).setWidth 8) := by
    simp only [pI, fb, tb, List.map_nil, List.nil_append, encI, ser, List.map_map]; rfl
  rw [e]
  have key : ∀ (k : Nat), UInt8.ofBitVec ((BitVec.ofInt 64 (n : Int) >>> k).setWidth 8) = UInt8.ofNat (n / 2 ^ k % 256) := by
    intro k
    apply UInt8.toNat_inj.1
    rw [UInt8.toNat_ofNat']
    show ((BitVec.ofInt 64 (n : Int) >>> k).setWidth 8).toNat = _
    rw [BitVec.toNat_setWidth, BitVec.toNat_ushiftRight, hx, Nat.shiftRight_eq_div_pow]; omega
  have hz : ∀ k, 8 ≤ k → UInt8.ofNat (n / 2 ^ k % 256) = 0 := fun k hk => by
    have : n / 2 ^ k = 0 := Nat.div_eq_of_lt (Nat.lt_of_lt_of_le h (by rw [show (256 : Nat) = 2 ^ 8 from rfl]; exact Nat.pow_le_pow_right (by omega) hk))
    rw [this]; rfl
  simp only [key, List.range, List.range.loop, List.map_cons, List.map_nil]
  rw [hz _ (by omega), hz _ (by omega), hz _ (by omega), hz _ (by omega), hz _ (by omega), hz _ (by omega), hz _ (by omega)]
  rw [show 8 * (8 - 1 - 7) = 0 from rfl, Nat.pow_zero, Nat.div_one, Nat.mod_eq_of_lt h]
def cnt7 (B : List UInt8) (m : Nat) : List UInt8 := B.set 7 (B.getD 7 0 ^^^ UInt8.ofNat m)
theorem cnt7_len (B : List UInt8) (m : Nat) : (cnt7 B m).length = B.length := List.length_set
theorem set_get (B : List UInt8) (j i : Nat) (v : UInt8) (h : j < B.length) : (B.set j v).getD i 0 = if i = j then v else B.getD i 0 := by
  rw [List.getD_eq_getElem?_getD, List.getElem?_set]
  by_cases q : j = i
  · rw [if_pos q, if_pos q.symm, if_pos h]; rfl
  · rw [if_neg q, if_neg (fun e => q e.symm), List.getD_eq_getElem?_getD]
theorem cnt7_eq (B : List UInt8) (m : Nat) (hm : m < 256) (hB : 8 ≤ B.length) : cntB B ((m : Nat) : Int) = cnt7 B m := by
  refine list_getD (by rw [cntB_len, cnt7_len]) fun i _ => ?_
  rw [cntB_get _ _ _ hB, cnt7, set_get _ _ _ _ (by omega), pI_small m hm]
  by_cases q : i < 8
  · rw [if_pos q]
    have : i = 0 ∨ i = 1 ∨ i = 2 ∨ i = 3 ∨ i = 4 ∨ i = 5 ∨ i = 6 ∨ i = 7 := by omega
    rcases this with rfl | rfl | rfl | rfl | rfl | rfl | rfl | rfl
    · rw [if_neg (by omega)]; exact UInt8.xor_zero
    · rw [if_neg (by omega)]; exact UInt8.xor_zero
    · rw [if_neg (by omega)]; exact UInt8.xor_zero
    · rw [if_neg (by omega)]; exact UInt8.xor_zero
    · rw [if_neg (by omega)]; exact UInt8.xor_zero
    · rw [if_neg (by omega)]; exact UInt8.xor_zero
    · rw [if_neg (by omega)]; exact UInt8.xor_zero
    · rw [if_pos rfl]; rfl
  · rw [if_neg q, if_neg (by omega)]
theorem putW_app (a r x y : List UInt8) (i : Nat) (ha : a.length = 8) (hx : x.length = 8) : putW (putW (a ++ r) x 0) y (8 + i) = x ++ putW r y i := by
  have e : putW (a ++ r) x 0 = x ++ r := by
    rw [putW, List.take_zero, List.nil_append, hx, ← ha, Nat.zero_add, List.drop_left]
  rw [e, putW, putW, List.take_append, List.drop_append, List.take_of_length_le (by omega), List.drop_eq_nil_of_le (by omega), hx]
  rw [show 8 + i - 8 = i by omega, show 8 + i + y.length - 8 = i + y.length by omega, List.nil_append, List.append_assoc, List.append_assoc, List.append_assoc]
theorem drop8 (a r : List UInt8) (i : Nat) (ha : a.length = 8) : (a ++ r).drop (8 + i) = r.drop i := by
  rw [List.drop_append, List.drop_eq_nil_of_le (by omega), ha, List.nil_append, show 8 + i - 8 = i by omega]
theorem take8 (a r : List UInt8) (ha : a.length = 8) : (a ++ r).take 8 = a := by rw [← ha, List.take_left]
theorem atW8 (n t : Nat) : atW n t = 8 + 8 * (t % n) := by unfold atW; omega
/-- one step -/
def rwY (E : List UInt8 → List UInt8) (n : Nat) (a r : List UInt8) (t : Nat) : List UInt8 := cnt7 (E (a ++ (r.drop (8 * (t % n))).take 8)) (t + 1)
def rwS (E : List UInt8 → List UInt8) (n : Nat) (s : List UInt8 × List UInt8) (t : Nat) : List UInt8 × List UInt8 :=
  ((rwY E n s.1 s.2 t).take 8, putW s.2 ((rwY E n s.1 s.2 t).drop 8) (8 * (t % n)))
def rwN (E : List UInt8 → List UInt8) (n : Nat) (s : List UInt8 × List UInt8) : Nat → List UInt8 × List UInt8
  | 0 => s
  | t + 1 => rwS E n (rwN E n s t) t
theorem seg_len {n t : Nat} (hn : 0 < n) {a r : List UInt8} (ha : a.length = 8) (hr : r.length = 8 * n) : (a ++ (r.drop (8 * (t % n))).take 8).length = 16 := by
  have := Nat.mod_lt t hn
  rw [List.length_append, List.length_take, List.length_drop]; omega
theorem rwY_len {E : List UInt8 → List UInt8} (hE : ∀ x, x.length = 16 → (E x).length = 16) {n t : Nat} (hn : 0 < n) {a r : List UInt8} (ha : a.length = 8) (hr : r.length = 8 * n) : (rwY E n a r t).length = 16 := by
  rw [rwY, cnt7_len, hE _ (seg_len hn ha hr)]
theorem rwS_len {E : List UInt8 → List UInt8} (hE : ∀ x, x.length = 16 → (E x).length = 16) {n t : Nat} (hn : 0 < n) {s : List UInt8 × List UInt8} (h : s.1.length = 8 ∧ s.2.length = 8 * n) : (rwS E n s t).1.length = 8 ∧ (rwS E n s t).2.length = 8 * n := by
  have hy := rwY_len (t := t) hE hn h.1 h.2
  have := Nat.mod_lt t hn
  refine ⟨?_, ?_⟩
  · show (List.take 8 _).length = 8
    rw [List.length_take]; omega
  · show (putW _ _ _).length = _
    rw [putW_len _ _ _ (by rw [List.length_drop]; omega), h.2]
theorem rwS_wr {E : List UInt8 → List UInt8} (hE : ∀ x, x.length = 16 → (E x).length = 16) {n t : Nat} (hn : 0 < n) (ht : t + 1 < 256) {s : List UInt8 × List UInt8} (h : s.1.length = 8 ∧ s.2.length = 8 * n) : (rwS E n s t).1 ++ (rwS E n s t).2 = wrS E n (s.1 ++ s.2) t := by
  have hy := rwY_len (t := t) hE hn h.1 h.2
  have hl := hE _ (seg_len (t := t) hn h.1 h.2)
  rw [wrS, atW8, take8 _ _ h.1, drop8 _ _ _ h.1, cnt7_eq _ _ ht (by omega)]
  rw [putW_app _ _ _ _ _ h.1 (by rw [List.length_take, cnt7_len]; omega)]
  rfl
theorem rwN_len {E : List UInt8 → List UInt8} (hE : ∀ x, x.length = 16 → (E x).length = 16) {n : Nat} (hn : 0 < n) {s : List UInt8 × List UInt8} (h : s.1.length = 8 ∧ s.2.length = 8 * n) (t : Nat) : (rwN E n s t).1.length = 8 ∧ (rwN E n s t).2.length = 8 * n := by
  induction t with
  | zero => exact h
  | succ t ih => exact rwS_len hE hn ih
theorem rwN_wr {E : List UInt8 → List UInt8} (hE : ∀ x, x.length = 16 → (E x).length = 16) {n : Nat} (hn : 0 < n) {s : List UInt8 × List UInt8} (h : s.1.length = 8 ∧ s.2.length = 8 * n) (t : Nat) (ht : t < 256) : (rwN E n s t).1 ++ (rwN E n s t).2 = wrN E n (s.1 ++ s.2) t := by
  induction t with
  | zero => rfl
  | succ t ih =>
    rw [rwN, wrN, rwS_wr hE hn ht (rwN_len hE hn h t), ih (by omega)]
/-- one step back -/
def ruX (D : List UInt8 → List UInt8) (n : Nat) (a r : List UInt8) (t : Nat) : List UInt8 := D (cnt7 a (t + 1) ++ (r.drop (8 * (t % n))).take 8)
def ruS (D : List UInt8 → List UInt8) (n : Nat) (s : List UInt8 × List UInt8) (t : Nat) : List UInt8 × List UInt8 :=
  ((ruX D n s.1 s.2 t).take 8, putW s.2 ((ruX D n s.1 s.2 t).drop 8) (8 * (t % n)))
def ruN (D : List UInt8 → List UInt8) (n : Nat) (s : List UInt8 × List UInt8) : Nat → List UInt8 × List UInt8
  | 0 => s
  | k + 1 => ruS D n (ruN D n s k) (6 * n - 1 - k)
theorem ruX_len {D : List UInt8 → List UInt8} (hD : ∀ x, x.length = 16 → (D x).length = 16) {n t : Nat} (hn : 0 < n) {a r : List UInt8} (ha : a.length = 8) (hr : r.length = 8 * n) : (ruX D n a r t).length = 16 := hD _ (seg_len hn (by rw [cnt7_len]; exact ha) hr)
theorem ruS_len {D : List UInt8 → List UInt8} (hD : ∀ x, x.length = 16 → (D x).length = 16) {n t : Nat} (hn : 0 < n) {s : List UInt8 × List UInt8} (h : s.1.length = 8 ∧ s.2.length = 8 * n) : (ruS D n s t).1.length = 8 ∧ (ruS D n s t).2.length = 8 * n := by
  have hy := ruX_len (t := t) hD hn h.1 h.2
  have := Nat.mod_lt t hn
  refine ⟨?_, ?_⟩
  · show (List.take 8 _).length = 8
    rw [List.length_take]; omega
  · show (putW _ _ _).length = _
    rw [putW_len _ _ _ (by rw [List.length_drop]; omega), h.2]
theorem ruS_un {D : List UInt8 → List UInt8} (hD : ∀ x, x.length = 16 → (D x).length = 16) {n t : Nat} (hn : 0 < n) (ht : t + 1 < 256) {s : List UInt8 × List UInt8} (h : s.1.length = 8 ∧ s.2.length = 8 * n) : (ruS D n s t).1 ++ (ruS D n s t).2 = unS D n (s.1 ++ s.2) t := by
  have hy := ruX_len (t := t) hD hn h.1 h.2
  have hc : cntB (s.1 ++ s.2) ((t + 1 : Nat) : Int) = cnt7 s.1 (t + 1) ++ s.2 := by
    rw [cnt7_eq _ _ ht (by rw [List.length_append]; omega), cnt7, cnt7, List.set_append_left _ _ (by omega), app_get, if_pos (by omega)]
  have hl : (cnt7 s.1 (t + 1)).length = 8 := by rw [cnt7_len]; exact h.1
  rw [unS, hc, atW8, take8 _ _ hl, drop8 _ _ _ hl]
  rw [putW_app _ _ _ _ _ hl (by
    show (List.take 8 (ruX D n s.1 s.2 t)).length = 8
    rw [List.length_take]; omega)]
  rfl
theorem ruN_len {D : List UInt8 → List UInt8} (hD : ∀ x, x.length = 16 → (D x).length = 16) {n : Nat} (hn : 0 < n) {s : List UInt8 × List UInt8} (h : s.1.length = 8 ∧ s.2.length = 8 * n) (t : Nat) : (ruN D n s t).1.length = 8 ∧ (ruN D n s t).2.length = 8 * n := by
  induction t with
  | zero => exact h
  | succ t ih => exact ruS_len hD hn ih
theorem ruN_un {D : List UInt8 → List UInt8} (hD : ∀ x, x.length = 16 → (D x).length = 16) {n : Nat} (hn : 0 < n) (hn2 : n ≤ 32) {s : List UInt8 × List UInt8} (h : s.1.length = 8 ∧ s.2.length = 8 * n) (t : Nat) : (ruN D n s t).1 ++ (ruN D n s t).2 = unN D n (s.1 ++ s.2) t := by
  induction t with
  | zero => rfl
  | succ t ih =>
    rw [ruN, unN, ruS_un hD hn (by omega) (ruN_len hD hn h t), ih]
/-- writing a row byte by byte -/
theorem putW_next (r y : List UInt8) (a k : Nat) (hk : k < y.length) (ha : a + y.length ≤ r.length) : (putW r (y.take k) a).set (a + k) (y.getD k 0) = putW r (y.take (k + 1)) a := by
  have h1 : (putW r (y.take k) a).length = r.length := putW_len _ _ _ (by rw [List.length_take]; omega)
  have h2 : (putW r (y.take (k + 1)) a).length = r.length := putW_len _ _ _ (by rw [List.length_take]; omega)
  refine list_getD (by rw [List.length_set, h1, h2]) fun i _ => ?_
  rw [set_get _ _ _ _ (by omega), putW_get _ _ _ _ (by rw [List.length_take]; omega), putW_get _ _ _ _ (by rw [List.length_take]; omega), List.length_take, List.length_take, take_get, take_get, Nat.min_eq_left (by omega), Nat.min_eq_left (by omega)]
  by_cases q : i = a + k
  · rw [if_pos q, if_pos ⟨by omega, by omega⟩, if_pos (by omega), show i - a = k by omega]
  · rw [if_neg q]
    by_cases q2 : a ≤ i ∧ i < a + k
    · rw [if_pos q2, if_pos (by omega : a ≤ i ∧ i < a + (k + 1)), if_pos (by omega : i - a < k), if_pos (by omega : i - a < k + 1)]
    · rw [if_neg q2, if_neg (by omega : ¬ (a ≤ i ∧ i < a + (k + 1)))]
theorem putW_nil (r : List UInt8) (a : Nat) : putW r [] a = r := by
  rw [putW, List.append_nil, List.length_nil, Nat.add_zero, List.take_append_drop]
end Go.Proofs.Ytjfeggkjkdbkiaa
