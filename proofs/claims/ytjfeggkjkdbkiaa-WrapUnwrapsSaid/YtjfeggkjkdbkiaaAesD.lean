import Derived.Test.YtjfeggkjkdbkiaaAes2
import Derived.Test.YtjfeggkjkdbkiaaAvCut
namespace Go.Proofs.Ytjfeggkjkdbkiaa
open Go.RowKit
set_option linter.unusedVariables false
set_option linter.unusedSimpArgs false
set_option maxRecDepth 20000
/-! a key made ready -/
def exT (T : List UInt8) (n i : Nat) (p : UInt8) (t : List UInt8) : List UInt8 :=
  if i % n = 0 then [T.getD (t.getD 1 0).toNat 0 ^^^ p, T.getD (t.getD 2 0).toNat 0, T.getD (t.getD 3 0).toNat 0, T.getD (t.getD 0 0).toNat 0]
  else if 6 < n ∧ i % n = 4 then (List.range 4).map (fun k => T.getD (t.getD k 0).toNat 0) else t
def exP (n : Nat) : Nat → UInt8
  | 0 => 1
  | i + 1 => if n ≤ i ∧ i % n = 0 then mulB (exP n i) 2 else exP n i
def exF (ws t : List UInt8) (n i j : Nat) : UInt8 := ws.getD ((i - n) * 4 + j) 0 ^^^ t.getD j 0
def exL (ws : List UInt8) (i : Nat) : List UInt8 := (ws.drop ((i - 1) * 4)).take 4
def exW (key T : List UInt8) (n : Nat) : Nat → List UInt8
  | 0 => []
  | i + 1 => exW key T n i ++ (if i < n then (key.drop (4 * i)).take 4 else (List.range 4).map (exF (exW key T n i) (exT T n i (exP n i) (exL (exW key T n i) i)) n i))
theorem exW_len {key T : List UInt8} {n : Nat} (hk : key.length = 4 * n) (i : Nat) : (exW key T n i).length = i * 4 := by
  induction i with
  | zero => rfl
  | succ i ih =>
    rw [exW, List.length_append, ih]
    split
    · rw [List.length_take, List.length_drop]; omega
    · simp; omega
theorem exL_len {ws : List UInt8} {i : Nat} (h : ws.length = i * 4) (hi : 0 < i) : (exL ws i).length = 4 := by unfold exL; rw [List.length_take, List.length_drop]; omega
theorem exT_len {T t : List UInt8} {n i : Nat} {p : UInt8} (h : t.length = 4) : (exT T n i p t).length = 4 := by
  unfold exT; split
  · rfl
  · split
    · simp
    · exact h
theorem aZeros4 (n : Nat) (z : AV) : aZeros n 4 [z, z, z, z] = List.replicate (n * 4) z := by
  unfold aZeros
  apply List.ext_getElem
  · simp
  · intro i h1 h2
    simp only [List.getElem_map, List.getElem_range, List.getElem_replicate]
    have : i % 4 = 0 ∨ i % 4 = 1 ∨ i % 4 = 2 ∨ i % 4 = 3 := by omega
    rcases this with q | q | q | q <;> rw [q] <;> rfl
/-- some cells more of an array that is filled from the left -/
theorem fill_more {xs ys : List AV} {z : AV} {t k n : Nat} (hx : xs.length = t) (hy : ys.length = k) (ht : t + k ≤ n) : List.take t (xs ++ List.replicate (n - t) z) ++ ys ++ List.drop (t + k) (xs ++ List.replicate (n - t) z) = (xs ++ ys) ++ List.replicate (n - (t + k)) z := by
  subst hx hy
  rw [List.take_left, List.drop_append, List.drop_of_length_le (by omega), List.nil_append, Nat.add_sub_cancel_left, List.drop_replicate, Nat.sub_sub]
theorem ld_pre (l : List UInt8) (rest : List AV) (i : Nat) (h : i < l.length) : ldAgg (.int .u8) 1 (List.drop i (aOfBytes l ++ rest)) = some (.int .u8 ((l.getD i 0).toNat : Int)) := by
  rw [List.drop_append_of_le_length (by rw [aOfBytes_len]; omega)]
  have := ld_b l i h
  simp only [ldAgg] at this ⊢
  rw [List.head?_append, this]; rfl
theorem getD_app (a b : List UInt8) (i : Nat) (h : i < a.length) : (a ++ b).getD i 0 = a.getD i 0 := by
  rw [List.getD_eq_getElem?_getD, List.getElem?_append_left h, ← List.getD_eq_getElem?_getD]
theorem bytes_take' (l : List UInt8) (n : Nat) : aOfBytes (l.take n) = (aOfBytes l).take n := by simp [aOfBytes]
theorem bytes_drop' (l : List UInt8) (n : Nat) : aOfBytes (l.drop n) = (aOfBytes l).drop n := by simp [aOfBytes]
theorem bytes_nil : aOfBytes [] = [] := rfl
theorem four {α : Type} {l : List α} (h : l.length = 4) : ∃ a b c d, l = [a, b, c, d] := by
  match l, h with
  | [a, b, c, d], _ => exact ⟨a, b, c, d, rfl⟩
theorem wk_ow {δ d g n : Nat} {e : TypeId} {cells : List AV} : Wk (.ow δ d g n e cells) (.sl false n cells) := fun K v h => by
  cases h with
  | ow δ d g n e cells r h he hn hl hx hk => exact hk
theorem wkL_last {cs : List AV} {a b : AV} (h : Wk a b) : WkL (cs ++ [a]) (cs ++ [b]) := by
  refine ⟨by simp, fun i x y hx hy => ?_⟩
  by_cases hi : i < cs.length
  · rw [List.getElem?_append_left hi] at hx hy
    rw [hx] at hy; injection hy with hy; exact Wk.of_eq hy.symm
  · rw [List.getElem?_append_right (by omega)] at hx hy
    have h0 : i - cs.length = 0 := by have := getq_lt hx; simp at this; omega
    rw [h0] at hx hy
    simp at hx hy
    subst hx hy; exact h
end Go.Proofs.Ytjfeggkjkdbkiaa
