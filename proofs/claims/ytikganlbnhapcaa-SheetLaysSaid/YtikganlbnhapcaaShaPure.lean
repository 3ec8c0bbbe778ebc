import Derived.Test.YtikganlbnhapcaaAvHand
namespace Go.Proofs.Ytikganlbnhapcaa
open Go.RowKit
set_option linter.unusedVariables false
set_option linter.unusedSimpArgs false
/-! the digest, as plain lists -/
def beW (b : List UInt8) (t : Nat) : BitVec 32 :=
  (((b.getD (4 * t) 0).toBitVec.setWidth 32 <<< 24 ||| (b.getD (4 * t + 1) 0).toBitVec.setWidth 32 <<< 16) ||| (b.getD (4 * t + 2) 0).toBitVec.setWidth 32 <<< 8) ||| (b.getD (4 * t + 3) 0).toBitVec.setWidth 32
def sig0 (y : BitVec 32) : BitVec 32 := (y.rotateRight 7 ^^^ y.rotateRight 18) ^^^ y >>> 3
def sig1 (x : BitVec 32) : BitVec 32 := (x.rotateRight 17 ^^^ x.rotateRight 19) ^^^ x >>> 10
def schW (b : List UInt8) (ws : List (BitVec 32)) (t : Nat) : BitVec 32 :=
  if t < 16 then beW b t else sig1 (ws.getD (t - 2) 0) + ws.getD (t - 7) 0 + sig0 (ws.getD (t - 15) 0) + ws.getD (t - 16) 0
def sched (b : List UInt8) : Nat → List (BitVec 32)
  | 0 => []
  | t + 1 => sched b t ++ [schW b (sched b t) t]
theorem sched_len (b : List UInt8) (t : Nat) : (sched b t).length = t := by induction t with
  | zero => rfl
  | succ t ih => simp [sched, ih]
/-- one round -/
def rnd (k w : BitVec 32) : List (BitVec 32) → List (BitVec 32)
  | [a, b, c, d, e, f, g, h] =>
    let one := (((h + ((e.rotateRight 6 ^^^ e.rotateRight 11) ^^^ e.rotateRight 25)) + (e &&& f ^^^ ~~~e &&& g)) + k) + w
    let two := ((a.rotateRight 2 ^^^ a.rotateRight 13) ^^^ a.rotateRight 22) + ((a &&& b ^^^ a &&& c) ^^^ b &&& c)
    [one + two, a, b, c, d + one, e, f, g]
  | v => v
def rnds (ks ws h : List (BitVec 32)) : Nat → List (BitVec 32)
  | 0 => h
  | t + 1 => rnd (ks.getD t 0) (ws.getD t 0) (rnds ks ws h t)
theorem rnd_len (k w : BitVec 32) (v : List (BitVec 32)) : (rnd k w v).length = v.length := by
  unfold rnd; split <;> rfl
theorem rnds_len (ks ws h : List (BitVec 32)) (t : Nat) : (rnds ks ws h t).length = h.length := by
  induction t with
  | zero => rfl
  | succ t ih => rw [rnds, rnd_len, ih]
def press (ks h : List (BitVec 32)) (b : List UInt8) : List (BitVec 32) := List.zipWith (· + ·) h (rnds ks (sched b 64) h 64)
theorem press_len (ks h : List (BitVec 32)) (b : List UInt8) : (press ks h b).length = h.length := by
  simp [press, rnds_len]
theorem eight {α : Type} {l : List α} (h : l.length = 8) : ∃ a b c d e f g i, l = [a, b, c, d, e, f, g, i] := by
  match l, h with
  | [a, b, c, d, e, f, g, i], _ => exact ⟨a, b, c, d, e, f, g, i, rfl⟩
/-! cells -/
theorem ld_w (ws : List (BitVec 32)) (rest : List AV) (i : Nat) (h : i < ws.length) : ldAgg (.int .u32) 1 (List.drop i (aOfW ws ++ rest)) = some (.int .u32 (n32 (ws.getD i 0))) := by
  have hl : i < (aOfW ws ++ rest).length := by rw [List.length_append, aOfW_len]; omega
  have e : (aOfW ws ++ rest)[i] = .int .u32 (n32 (ws.getD i 0)) := by
    rw [List.getElem_append_left (by rw [aOfW_len]; exact h)]
    simp [aOfW, h]
  rw [List.drop_eq_getElem_cons hl, e]; rfl
theorem ld_w0 (ws : List (BitVec 32)) (i : Nat) (h : i < ws.length) : ldAgg (.int .u32) 1 (List.drop i (aOfW ws)) = some (.int .u32 (n32 (ws.getD i 0))) := by
  have := ld_w ws [] i h
  rwa [List.append_nil] at this
theorem ld_b (l : List UInt8) (i : Nat) (h : i < l.length) : ldAgg (.int .u8) 1 (List.drop i (aOfBytes l)) = some (.int .u8 ((l.getD i 0).toNat : Int)) := by
  have hl : i < (aOfBytes l).length := by rw [aOfBytes_len]; exact h
  have e : (aOfBytes l)[i] = .int .u8 ((l.getD i 0).toNat : Int) := by simp [aOfBytes, h]
  rw [List.drop_eq_getElem_cons hl, e]; rfl
/-- the next cell of an array that is filled from the left -/
theorem fill_next {xs : List AV} {z v : AV} {t n : Nat} (hx : xs.length = t) (ht : t < n) : List.take t (xs ++ List.replicate (n - t) z) ++ [v] ++ List.drop (t + 1) (xs ++ List.replicate (n - t) z) = (xs ++ [v]) ++ List.replicate (n - (t + 1)) z := by
  subst hx
  rw [List.take_left, List.drop_append, List.drop_of_length_le (by omega), List.nil_append, Nat.add_sub_cancel_left, List.drop_replicate, Nat.sub_sub]
/-- a cell in the midst turns -/
theorem set_cell {α : Type} (xs : List α) (v : α) (i : Nat) (h : i < xs.length) : List.take i xs ++ [v] ++ List.drop (i + 1) xs = xs.set i v := by
  rw [List.set_eq_take_append_cons_drop, if_pos h]; simp
theorem ld_arr {n : Nat} {e : TypeId} {sz : Nat} (cs : List AV) (h : cs.length = sz) : ldAgg (.arr n e) sz (List.drop 0 cs) = some (.agg cs) := by
  rw [List.drop_zero]
  simp only [ldAgg]
  rw [if_pos (by omega), List.take_of_length_le (by omega)]
theorem drop_rep {α : Type} (n : Nat) (z : α) : List.drop n (List.replicate n z) = [] := by simp
/-! arrays that are filled place by place -/
def setN (f : Nat → UInt8) (l : List UInt8) : Nat → List UInt8
  | 0 => l
  | i + 1 => (setN f l i).set i (f i)
theorem setN_len (f : Nat → UInt8) (l : List UInt8) (i : Nat) : (setN f l i).length = l.length := by
  induction i with
  | zero => rfl
  | succ i ih => rw [setN, List.length_set, ih]
theorem setN_get (f : Nat → UInt8) (l : List UInt8) (j : Nat) : ∀ i, j ≤ i → (setN f l j).getD i 0 = l.getD i 0 := by
  induction j with
  | zero => intro i _; rfl
  | succ j ih =>
    intro i hi
    rw [setN, List.getD_eq_getElem?_getD, List.getElem?_set_ne (by omega), ← List.getD_eq_getElem?_getD]
    exact ih i (by omega)
theorem setN_eq (f : Nat → UInt8) (l : List UInt8) (i : Nat) (h : i ≤ l.length) : setN f l i = (List.range i).map f ++ l.drop i := by
  induction i with
  | zero => simp [setN]
  | succ i ih =>
    rw [setN, ih (by omega), List.range_succ, List.map_append, List.append_assoc]
    rw [List.set_append_right _ _ (by simp)]
    congr 1
    simp only [List.length_map, List.length_range, Nat.sub_self, List.map_cons, List.map_nil, List.singleton_append]
    rw [List.drop_eq_getElem_cons (by omega : i < l.length), List.set_cons_zero]
theorem setN_all (f : Nat → UInt8) (l : List UInt8) (n : Nat) (h : l.length = n) : setN f l n = (List.range n).map f := by
  rw [setN_eq f l n (by omega), List.drop_of_length_le (by omega), List.append_nil]
theorem set_b (l : List UInt8) (x : UInt8) (i : Nat) (h : i < l.length) : List.take i (aOfBytes l) ++ [.int .u8 (x.toNat : Int)] ++ List.drop (i + 1) (aOfBytes l) = aOfBytes (l.set i x) := by
  rw [set_cell _ _ _ (by rw [aOfBytes_len]; exact h)]
  simp [aOfBytes, List.map_set]
theorem rng_len (f : Nat → UInt8) (n : Nat) : ((List.range n).map f).length = n := by simp
theorem rng_next (f : Nat → UInt8) (n : Nat) : (List.range (n + 1)).map f = (List.range n).map f ++ [f n] := by simp [List.range_succ]
end Go.Proofs.Ytikganlbnhapcaa
