import Derived.Test.YtjfeggkjkdbkiaaAesD
import Derived.Test.YtjfeggkjkdbkiaaRefA1
namespace Go.Proofs.Ytjfeggkjkdbkiaa
open Go.RowKit
set_option linter.unusedVariables false
set_option linter.unusedSimpArgs false
set_option maxRecDepth 20000
/-! the document's cipher: its words -/
def wd (key T : List UInt8) (n i : Nat) : List UInt8 :=
  if i < n then (key.drop (4 * i)).take 4 else (List.range 4).map (exF (exW key T n i) (exT T n i (exP n i) (exL (exW key T n i) i)) n i)
theorem exW_wd (key T : List UInt8) (n i : Nat) : exW key T n (i + 1) = exW key T n i ++ wd key T n i := rfl
theorem wd_len {key T : List UInt8} {n : Nat} (hk : key.length = 4 * n) (i : Nat) : (wd key T n i).length = 4 := by
  have h1 := exW_len (T := T) hk (i + 1)
  rw [exW_wd, List.length_append, exW_len hk] at h1
  omega
theorem exL_wd {key T : List UInt8} {n : Nat} (hk : key.length = 4 * n) (i : Nat) : exL (exW key T n (i + 1)) (i + 1) = wd key T n i := by
  rw [exL, exW_wd, Nat.add_sub_cancel, List.drop_left' (exW_len hk i), List.take_of_length_le (by rw [wd_len hk]; omega)]
theorem exW_get {key T : List UInt8} {n : Nat} (hk : key.length = 4 * n) (m j k : Nat) (hj : j < 4) (hm : m < k) : (exW key T n k).getD (m * 4 + j) 0 = (wd key T n m).getD j 0 := by
  induction k with
  | zero => omega
  | succ k ih =>
    rw [exW_wd]
    by_cases h : m < k
    · rw [getD_app _ _ _ (by rw [exW_len hk]; omega), ih h]
    · have : m = k := by omega
      subst this
      rw [List.getD_eq_getElem?_getD, List.getElem?_append_right (by rw [exW_len hk]; omega), exW_len hk, Nat.add_sub_cancel_left, List.getD_eq_getElem?_getD]
def wcs (key T : List UInt8) (n i : Nat) : List AV := (List.range i).map (fun j => .sl false 4 (aOfBytes (wd key T n j)))
theorem wcs_next (key T : List UInt8) (n i : Nat) : wcs key T n (i + 1) = wcs key T n i ++ [.sl false 4 (aOfBytes (wd key T n i))] := by simp [wcs, List.range_succ]
theorem wcs_len (key T : List UInt8) (n i : Nat) : (wcs key T n i).length = i := by simp [wcs]
theorem wcs_get {key T : List UInt8} {n i j : Nat} (e : TypeId) (h : j < i) : ldAgg (.sl e) 1 (List.drop j (wcs key T n i)) = some (.sl false 4 (aOfBytes (wd key T n j))) := by
  simp only [ldAgg]
  rw [List.head?_drop]
  simp [wcs, h]
/-- the cipher's cells -/
def rcp (key T B : List UInt8) (n N : Nat) : List AV := [.sl false 256 (aOfBytes T), .sl false 256 (aOfBytes B), .sl false N (wcs key T n N)]
theorem rmul2 (a : UInt8) : Spec Try.prog 80 [.int .u8 (a.toNat : Int), .int .u8 2] (.k (.int .u8 ((mulB a 2).toNat : Int))) := rmul_spec a 2
theorem getD_map4 (f : Nat → UInt8) (j : Nat) (h : j < 4) : ((List.range 4).map f).getD j 0 = f j := by
  simp [List.getD_eq_getElem?_getD, h]
/-- one word more -/
theorem word_step {key T : List UInt8} {n i : Nat} {pw0 pw9 t1 t2 t3 : List UInt8} {fu fx : Nat → UInt8} (hk : key.length = 4 * n) (h4 : n = 4 ∨ n = 6 ∨ n = 8) (hin : ¬ i < n) (hi0 : 0 < i)
    (hpw : pw0 = wd key T n (i - 1)) (hpw9 : pw9 = wd key T n (i - n)) (ht1 : t1 = if i % n = 0 then [pw0.getD 1 0, pw0.getD 2 0, pw0.getD 3 0, pw0.getD 0 0] else pw0)
    (hfu : fu = fun k => T.getD (t1.getD k 0).toNat 0) (ht2 : t2 = if (i % n = 0 ∨ (n = 8 ∧ i % 8 = 4)) then setN fu t1 4 else t1)
    (ht3 : t3 = if i % n = 0 then t2.set 0 (t2.getD 0 0 ^^^ exP n i) else t2) (hfx : fx = fun k => t3.getD k 0 ^^^ pw9.getD k 0) : setN fx t3 4 = wd key T n i := by
  have hwp : pw0.length = 4 := by rw [hpw]; exact wd_len hk _
  have hL : exL (exW key T n i) i = pw0 := by
    have := exL_wd (T := T) hk (i - 1)
    rw [show i - 1 + 1 = i by omega, ← hpw] at this; exact this
  have ht1l : t1.length = 4 := by rw [ht1]; split <;> first | rfl | exact hwp
  have ht2l : t2.length = 4 := by rw [ht2]; split <;> first | (rw [setN_len]; exact ht1l) | exact ht1l
  have ht3l : t3.length = 4 := by rw [ht3]; split <;> first | (rw [List.length_set]; exact ht2l) | exact ht2l
  have hT3 : exT T n i (exP n i) pw0 = t3 := by
    by_cases hm : i % n = 0
    · rw [if_pos hm] at ht1 ht3
      rw [if_pos (.inl hm), setN_all fu t1 4 ht1l] at ht2
      rw [exT, if_pos hm, ht3, ht2, hfu, ht1]
      rfl
    · rw [if_neg hm] at ht1 ht3
      rw [exT, if_neg hm]
      by_cases h8 : n = 8 ∧ i % 8 = 4
      · rw [if_pos (.inr h8), setN_all fu t1 4 ht1l] at ht2
        rw [if_pos ⟨by omega, by rw [h8.1]; exact h8.2⟩, ht3, ht2, hfu, ht1]
      · rw [if_neg (fun c => by rcases c with c | c; exact hm c; exact h8 c)] at ht2
        rw [if_neg (fun c => h8 (by have : n = 8 := by omega
                                    subst this; exact ⟨rfl, c.2⟩)), ht3, ht2, ht1]
  rw [setN_all fx t3 4 ht3l, wd, if_neg hin]
  refine List.map_congr_left fun j hj => ?_
  have hj4 : j < 4 := by simpa using hj
  rw [hL, hT3, hfx, exF, exW_get hk (i - n) j i hj4 (by omega), ← hpw9, UInt8.xor_comm]
theorem wk_cp {cs ds : List AV} (h : WkL cs ds) : Wk (.cp cs) (.cp ds) := fun K v hv => by
  cases hv with
  | cp cells b o h1 h3 =>
    refine .cp ds b o (by rw [h.1]; exact h1) fun i y hy => ?_
    have hi : i < cs.length := by have := getq_lt hy; rw [h.1] at this; exact this
    exact h.2 i cs[i] y (List.getElem?_eq_getElem hi) hy _ _ (h3 i cs[i] (List.getElem?_eq_getElem hi))
theorem wk_tup2 {a b c d : AV} (h1 : Wk a c) (h2 : Wk b d) : Wk (.tup [a, b]) (.tup [c, d]) := by
  intro K v hv
  cases hv with
  | tup cells vs hl h =>
    refine .tup _ _ hl fun i x u hx hu => ?_
    match i with
    | 0 => simp at hx; subst hx; exact h1 _ _ (h 0 _ _ rfl hu)
    | 1 => simp at hx; subst hx; exact h2 _ _ (h 1 _ _ rfl hu)
    | i + 2 => simp at hx
theorem end2W {P : Program} {rs : List ResultVar} {tys : List TypeId} {t t' : Nat} {u u' : TypeId} {v v' r : AV} {s : St} (h1 : rs = [.tmp t, .tmp t']) (h2 : tys = [u, u']) (h3 : aArg P s u (s.fr t) = some v) (h3' : aArg P s u' (s.fr t') = some v') (h4 : Wk (.tup [v, v']) r) : aEndK P rs tys s r := by
  subst h1; subst h2; simp only [aEndK, aOuts, h3, h3', oneOf]; exact h4
end Go.Proofs.Ytjfeggkjkdbkiaa
