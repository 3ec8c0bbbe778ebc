import Derived.Test.YtjfeggkjkdbkiaaWrap3
import Derived.Test.YtjfeggkjkdbkiaaAesP
namespace Go.Proofs.Ytjfeggkjkdbkiaa
open Go.RowKit
set_option linter.unusedVariables false
set_option linter.unusedSimpArgs false
set_option maxRecDepth 20000
/-! wrapping has an inverse -/
theorem list_getD {l m : List UInt8} (h : l.length = m.length) (k : ∀ i, i < l.length → l.getD i 0 = m.getD i 0) : l = m := by
  apply List.ext_getElem h
  intro i h1 h2
  have := k i h1
  rwa [List.getD_eq_getElem?_getD, List.getD_eq_getElem?_getD, List.getElem?_eq_getElem h1, List.getElem?_eq_getElem h2] at this
theorem putW_get (S x : List UInt8) (a i : Nat) (h : a + x.length ≤ S.length) : (putW S x a).getD i 0 = if a ≤ i ∧ i < a + x.length then x.getD (i - a) 0 else S.getD i 0 := by
  unfold putW
  have ht : (S.take a).length = a := by simp; omega
  rw [List.getD_eq_getElem?_getD]
  by_cases h1 : i < a
  · rw [if_neg (by omega), List.append_assoc, List.getElem?_append_left (by omega), List.getElem?_take, if_pos h1, List.getD_eq_getElem?_getD]
  · by_cases h2 : i < a + x.length
    · rw [if_pos ⟨by omega, h2⟩, List.append_assoc, List.getElem?_append_right (by omega), List.getElem?_append_left (by omega), ht, List.getD_eq_getElem?_getD]
    · rw [if_neg (by omega), List.getElem?_append_right (by rw [List.length_append]; omega), List.getElem?_drop, List.length_append, ht, List.getD_eq_getElem?_getD]
      congr 2; omega
theorem setN_at (f : Nat → UInt8) (l : List UInt8) (n i : Nat) (h : n ≤ l.length) : (setN f l n).getD i 0 = if i < n then f i else l.getD i 0 := by
  rw [setN_eq f l n h, List.getD_eq_getElem?_getD]
  by_cases h1 : i < n
  · rw [if_pos h1, List.getElem?_append_left (by simp; exact h1)]; simp [h1]
  · rw [if_neg h1, List.getElem?_append_right (by simp; omega), List.getElem?_drop, List.getD_eq_getElem?_getD]
    simp only [List.length_map, List.length_range]
    congr 2; omega
theorem cntB_get (S : List UInt8) (m : Int) (i : Nat) (h : 8 ≤ S.length) : (cntB S m).getD i 0 = if i < 8 then S.getD i 0 ^^^ (pI [] m).getD i 0 else S.getD i 0 := setN_at _ _ _ _ h
theorem take_get (S : List UInt8) (n i : Nat) : (S.take n).getD i 0 = if i < n then S.getD i 0 else 0 := by
  rw [List.getD_eq_getElem?_getD, List.getElem?_take]
  split
  · rw [List.getD_eq_getElem?_getD]
  · rfl
theorem drop_get (S : List UInt8) (n i : Nat) : (S.drop n).getD i 0 = S.getD (n + i) 0 := by
  rw [List.getD_eq_getElem?_getD, List.getElem?_drop, List.getD_eq_getElem?_getD]
theorem app_get (S x : List UInt8) (i : Nat) : (S ++ x).getD i 0 = if i < S.length then S.getD i 0 else x.getD (i - S.length) 0 := by
  rw [List.getD_eq_getElem?_getD]
  split
  · rename_i h; rw [List.getElem?_append_left h, List.getD_eq_getElem?_getD]
  · rename_i h; rw [List.getElem?_append_right (by omega), List.getD_eq_getElem?_getD]
theorem two_get (S : List UInt8) (a i : Nat) (h : a + 8 ≤ S.length) (h8 : 8 ≤ a) (hi : i < 16) : (S.take 8 ++ (S.drop a).take 8).getD i 0 = if i < 8 then S.getD i 0 else S.getD (a + (i - 8)) 0 := by
  have hl : (S.take 8).length = 8 := by simp; omega
  rw [app_get, hl, take_get, take_get, drop_get]
  split
  · rfl
  · rw [if_pos (by omega)]
theorem two_len (S : List UInt8) (a : Nat) (h : a + 8 ≤ S.length) : (S.take 8 ++ (S.drop a).take 8).length = 16 := by simp; omega
/-- two puts -/
theorem put2_len (S Y : List UInt8) (a : Nat) (h : a + 8 ≤ S.length) (hy : Y.length = 16) : (putW (putW S (Y.take 8) 0) (Y.drop 8) a).length = S.length := by
  have h1 : (putW S (Y.take 8) 0).length = S.length := putW_len _ _ _ (by rw [List.length_take]; omega)
  rw [putW_len _ _ _ (by rw [h1, List.length_drop]; omega), h1]
theorem put2_get (S Y : List UInt8) (a i : Nat) (h : a + 8 ≤ S.length) (h8 : 8 ≤ a) (hy : Y.length = 16) : (putW (putW S (Y.take 8) 0) (Y.drop 8) a).getD i 0 = if i < 8 then Y.getD i 0 else if a ≤ i ∧ i < a + 8 then Y.getD (i - a + 8) 0 else S.getD i 0 := by
  have h1 : (putW S (Y.take 8) 0).length = S.length := putW_len _ _ _ (by rw [List.length_take]; omega)
  have e1 : (Y.take 8).length = 8 := by rw [List.length_take]; omega
  have e2 : (Y.drop 8).length = 8 := by rw [List.length_drop]; omega
  rw [putW_get _ _ _ _ (by omega), putW_get _ _ _ _ (by omega), e1, e2, drop_get, take_get, Nat.zero_add, Nat.sub_zero, Nat.add_comm 8 (i - a)]
  by_cases q1 : i < 8
  · rw [if_pos q1, if_neg (by omega), if_pos ⟨Nat.zero_le _, q1⟩, if_pos q1]
  · rw [if_neg q1]
    by_cases q2 : a ≤ i ∧ i < a + 8
    · rw [if_pos q2, if_pos q2, if_neg q1]
    · rw [if_neg q2, if_neg q2, if_neg (by omega), if_neg q1]
theorem un_wr {D E : List UInt8 → List UInt8} (hE : ∀ x, x.length = 16 → (E x).length = 16) (hDE : ∀ x, x.length = 16 → D (E x) = x) {n : Nat} (hn : 0 < n) {S : List UInt8} (hS : S.length = 8 * (n + 1)) (t : Nat) : unS D n (wrS E n S t) t = S := by
  have ha := atW_le (t := t) hn
  have hX := two_len S (atW n t) (by omega)
  have hXg := fun i hi => two_get S (atW n t) i (by omega) ha.2 hi
  have hEl := hE _ hX
  have hDX := hDE _ hX
  have hSl := wrS_len hE hn hS t
  unfold wrS at hSl ⊢
  generalize hXX : S.take 8 ++ (S.drop (atW n t)).take 8 = X at *
  generalize E X = Z at *
  have hyl := cntB_len Z ((t + 1 : Nat) : Int)
  have hyg := fun i => cntB_get Z ((t + 1 : Nat) : Int) i (by omega)
  have hP := fun i => put2_get S (cntB Z ((t + 1 : Nat) : Int)) (atW n t) i (by omega) ha.2 (by omega)
  generalize putW (putW S ((cntB Z ((t + 1 : Nat) : Int)).take 8) 0) ((cntB Z ((t + 1 : Nat) : Int)).drop 8) (atW n t) = S' at *
  unfold unS
  have hcl := cntB_len S' ((t + 1 : Nat) : Int)
  have hcg := fun i => cntB_get S' ((t + 1 : Nat) : Int) i (by omega)
  generalize cntB S' ((t + 1 : Nat) : Int) = C at *
  generalize cntB Z ((t + 1 : Nat) : Int) = Y at *
  generalize pI [] ((t + 1 : Nat) : Int) = W at *
  generalize atW n t = a at *
  have hCZ : C.take 8 ++ (C.drop a).take 8 = Z := by
    refine list_getD (by rw [two_len _ _ (by omega), hEl]) fun i hi => ?_
    rw [two_len _ _ (by omega)] at hi
    rw [two_get C a i (by omega) ha.2 hi]
    by_cases q : i < 8
    · rw [if_pos q, hcg, if_pos q, hP, if_pos q, hyg, if_pos q, UInt8.xor_assoc, UInt8.xor_self, UInt8.xor_zero]
    · rw [if_neg q, hcg, if_neg (by omega), hP, if_neg (by omega), if_pos ⟨by omega, by omega⟩, hyg, if_neg (by omega)]
      congr 1; omega
  rw [hCZ, hDX]
  refine list_getD (by rw [put2_len C X a (by omega) hX]; omega) fun i hi => ?_
  rw [put2_get C X a i (by omega) ha.2 hX]
  by_cases q : i < 8
  · rw [if_pos q, hXg i (by omega), if_pos q]
  · rw [if_neg q]
    by_cases q2 : a ≤ i ∧ i < a + 8
    · rw [if_pos q2, hXg _ (by omega), if_neg (by omega)]
      congr 1; omega
    · rw [if_neg q2, hcg, if_neg q, hP, if_neg q, if_neg q2]
theorem wr_un {D E : List UInt8 → List UInt8} (hD : ∀ x, x.length = 16 → (D x).length = 16) (hED : ∀ x, x.length = 16 → E (D x) = x) {n : Nat} (hn : 0 < n) {S : List UInt8} (hS : S.length = 8 * (n + 1)) (t : Nat) : wrS E n (unS D n S t) t = S := by
  have ha := atW_le (t := t) hn
  have hcl := cntB_len S ((t + 1 : Nat) : Int)
  have hcg := fun i => cntB_get S ((t + 1 : Nat) : Int) i (by omega)
  have hSl := unS_len hD hn hS t
  unfold unS at hSl ⊢
  generalize cntB S ((t + 1 : Nat) : Int) = C at *
  have hX := two_len C (atW n t) (by omega)
  have hXg := fun i hi => two_get C (atW n t) i (by omega) ha.2 hi
  have hYl := hD _ hX
  have hEX := hED _ hX
  generalize C.take 8 ++ (C.drop (atW n t)).take 8 = X at *
  generalize D X = Y at *
  have hP := fun i => put2_get C Y (atW n t) i (by omega) ha.2 hYl
  generalize putW (putW C (Y.take 8) 0) (Y.drop 8) (atW n t) = S' at *
  unfold wrS
  have hSY : S'.take 8 ++ (S'.drop (atW n t)).take 8 = Y := by
    refine list_getD (by rw [two_len _ _ (by omega), hYl]) fun i hi => ?_
    rw [two_len _ _ (by omega)] at hi
    rw [two_get S' (atW n t) i (by omega) ha.2 hi]
    by_cases q : i < 8
    · rw [if_pos q, hP, if_pos q]
    · rw [if_neg q, hP, if_neg (by omega), if_pos ⟨by omega, by omega⟩]
      congr 1; omega
  rw [hSY, hEX]
  have hyl := cntB_len X ((t + 1 : Nat) : Int)
  have hyg := fun i => cntB_get X ((t + 1 : Nat) : Int) i (by omega)
  generalize cntB X ((t + 1 : Nat) : Int) = Q at *
  generalize pI [] ((t + 1 : Nat) : Int) = W at *
  generalize atW n t = a at *
  refine list_getD (by rw [put2_len S' Q a (by omega) (by omega)]; omega) fun i hi => ?_
  rw [put2_get S' Q a i (by omega) ha.2 (by omega)]
  by_cases q : i < 8
  · rw [if_pos q, hyg, if_pos q, hXg i (by omega), if_pos q, hcg, if_pos q, UInt8.xor_assoc, UInt8.xor_self, UInt8.xor_zero]
  · rw [if_neg q]
    by_cases q2 : a ≤ i ∧ i < a + 8
    · rw [if_pos q2, hyg, if_neg (by omega), hXg _ (by omega), if_neg (by omega), hcg, if_neg (by omega)]
      congr 1; omega
    · rw [if_neg q2, hP, if_neg q, if_neg q2, hcg, if_neg q]
theorem unwrap_wrap {D E : List UInt8 → List UInt8} (hE : ∀ x, x.length = 16 → (E x).length = 16) (hDE : ∀ x, x.length = 16 → D (E x) = x) (b : List UInt8) (hb : b.length % 8 = 0) (h0 : 0 < b.length / 8) : unwrapB D (wrapB E b) = some b ∧ (wrapB E b).length = b.length + 8 := by
  obtain ⟨n, hn⟩ : ∃ n, n = b.length / 8 := ⟨_, rfl⟩
  have hS : (a6 ++ b).length = 8 * (n + 1) := by rw [List.length_append]; show 8 + b.length = _; omega
  have hw : wrapB E b = wrN E n (a6 ++ b) (6 * n) := by rw [wrapB, ← hn]
  have hl := wrN_len hE (by omega) hS (6 * n)
  have key : ∀ k, k ≤ 6 * n → unN D n (wrN E n (a6 ++ b) (6 * n)) k = wrN E n (a6 ++ b) (6 * n - k) := by
    intro k
    induction k with
    | zero => intro _; rfl
    | succ k ih =>
      intro hk
      rw [unN, ih (by omega)]
      obtain ⟨j, hj⟩ : ∃ j, 6 * n - k = j + 1 := ⟨6 * n - k - 1, by omega⟩
      rw [hj, wrN, show 6 * n - 1 - k = j by omega, show 6 * n - (k + 1) = j by omega]
      exact un_wr hE hDE (by omega) (wrN_len hE (by omega) hS j) j
  have hk := key (6 * n) (Nat.le_refl _)
  rw [Nat.sub_self] at hk
  refine ⟨?_, by rw [hw, hl]; omega⟩
  rw [unwrapB, hw, hl, show 8 * (n + 1) / 8 - 1 = n by omega, hk]
  show (if List.take 8 (a6 ++ b) = a6 then some (List.drop 8 (a6 ++ b)) else none) = _
  rw [List.take_left' (show a6.length = 8 from rfl), List.drop_left' (show a6.length = 8 from rfl), if_pos rfl]
theorem wrap_unwrap {D E : List UInt8 → List UInt8} (hD : ∀ x, x.length = 16 → (D x).length = 16) (hED : ∀ x, x.length = 16 → E (D x) = x) (w u : List UInt8) (hw : w.length % 8 = 0) (h0 : 2 ≤ w.length / 8) (h : unwrapB D w = some u) : wrapB E u = w ∧ u.length + 8 = w.length := by
  obtain ⟨n, hn⟩ : ∃ n, n = w.length / 8 - 1 := ⟨_, rfl⟩
  have hS : w.length = 8 * (n + 1) := by omega
  have hl := unN_len hD (by omega) hS (6 * n)
  rw [unwrapB, ← hn] at h
  split at h
  · rename_i hq
    injection h with h
    have hu : a6 ++ u = unN D n w (6 * n) := by rw [← hq, ← h, List.take_append_drop]
    have hul : u.length = 8 * n := by rw [← h, List.length_drop, hl]; omega
    have key : ∀ t, t ≤ 6 * n → wrN E n (unN D n w (6 * n)) t = unN D n w (6 * n - t) := by
      intro t
      induction t with
      | zero => intro _; rfl
      | succ t ih =>
        intro ht
        rw [wrN, ih (by omega)]
        obtain ⟨j, hj⟩ : ∃ j, 6 * n - t = j + 1 := ⟨6 * n - t - 1, by omega⟩
        rw [hj, unN, show 6 * n - 1 - j = t by omega, show 6 * n - (t + 1) = j by omega]
        exact wr_un hD hED (by omega) (unN_len hD (by omega) hS j) t
    refine ⟨?_, by omega⟩
    rw [wrapB, hul, show 8 * n / 8 = n by omega, hu, key _ (Nat.le_refl _), Nat.sub_self]
    rfl
  · cases h
end Go.Proofs.Ytjfeggkjkdbkiaa
