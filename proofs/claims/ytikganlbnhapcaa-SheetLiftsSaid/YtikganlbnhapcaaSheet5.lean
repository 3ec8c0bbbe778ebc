import Derived.Test.YtikganlbnhapcaaSheet4
namespace Go.Proofs.Ytikganlbnhapcaa
open Go.RowKit
set_option linter.unusedVariables false
set_option linter.unusedSimpArgs false
theorem pI_bytes (n : Nat) (h : n < 2 ^ 32) : pI [] (n : Int) = [0, 0, 0, 0, UInt8.ofNat (n / 2 ^ 24 % 256), UInt8.ofNat (n / 2 ^ 16 % 256), UInt8.ofNat (n / 2 ^ 8 % 256), UInt8.ofNat (n % 256)] := by
  have hx : (BitVec.ofInt 64 (n : Int)).toNat = n := by rw [BitVec.ofInt_natCast, BitVec.toNat_ofNat]; omega
  have e : pI [] (n : Int) = (List.range 8).map fun i => UInt8.ofBitVec ((BitVec.ofInt 64 (n : Int) >>> (8 * (8 - 1 - i))).setWidth 8) := by
    simp only [pI, fb, tb, List.map_nil, List.nil_append, encI, ser, List.map_map]; rfl
  rw [e]
  have key : ∀ (k : Nat), UInt8.ofBitVec ((BitVec.ofInt 64 (n : Int) >>> k).setWidth 8) = UInt8.ofNat (n / 2 ^ k % 256) := by
    intro k
    apply UInt8.toNat_inj.1
    rw [UInt8.toNat_ofNat']
    show ((BitVec.ofInt 64 (n : Int) >>> k).setWidth 8).toNat = _
    rw [BitVec.toNat_setWidth, BitVec.toNat_ushiftRight, hx, Nat.shiftRight_eq_div_pow]; omega
  simp only [key, List.range, List.range.loop, List.map_cons, List.map_nil]
  simp
  refine ⟨?_, ?_, ?_, ?_⟩
  · rw [show n / 72057594037927936 % 256 = 0 by omega]; rfl
  · rw [show n / 281474976710656 % 256 = 0 by omega]; rfl
  · rw [show n / 1099511627776 % 256 = 0 by omega]; rfl
  · rw [show n / 4294967296 % 256 = 0 by omega]; rfl
theorem u8n (n : Nat) : (UInt8.ofNat (n % 256)).toNat = n % 256 := by rw [UInt8.toNat_ofNat']; omega
theorem numB_last4 (n : Nat) (h : n < 2 ^ 32) : numB (lastB (n : Int) 4) = n := by
  rw [lastB, pI_bytes n h]
  simp only [Nat.reduceSub, List.drop_succ_cons, List.drop_zero, numB, List.foldl_cons, List.foldl_nil, u8n]
  omega
theorem numB_last2 (n : Nat) (h : n < 65536) : numB (lastB (n : Int) 2) = n := by
  rw [lastB, pI_bytes n (by omega)]
  simp only [Nat.reduceSub, List.drop_succ_cons, List.drop_zero, numB, List.foldl_cons, List.foldl_nil, u8n]
  omega
def padC (d : List UInt8) (j : Nat) : List UInt8 := (d.drop (j * 24)).take 24 ++ List.replicate (24 - ((d.drop (j * 24)).take 24).length) 0
theorem padC_len (d : List UInt8) (j : Nat) : (padC d j).length = 24 := by simp only [padC, List.length_append, List.length_replicate, List.length_take]; omega
theorem secB_pad (m d : List UInt8) (j : Nat) : secB m d j = padC d j ++ m := rfl
theorem pad_all (d : List UInt8) : ∀ n, (List.range n).flatMap (padC d) = d.take (24 * n) ++ List.replicate (24 * n - d.length) 0
  | 0 => by simp
  | n + 1 => by
    rw [List.range_succ, List.flatMap_append, pad_all d n]
    simp only [List.flatMap_cons, List.flatMap_nil, List.append_nil, padC, List.length_take, List.length_drop]
    rcases Nat.lt_or_ge d.length (24 * n) with h | h
    · rw [List.take_of_length_le (by omega), List.take_of_length_le (l := d) (by omega), List.drop_eq_nil_of_le (by omega), List.take_nil, List.nil_append, List.append_assoc, List.replicate_append_replicate]
      congr 2; omega
    · rw [show 24 * n - d.length = 0 by omega, List.replicate_zero, List.append_nil, ← List.append_assoc, show 24 * (n + 1) = 24 * n + 24 by omega, List.take_add, Nat.mul_comm n 24]
      congr 2; omega
theorem pad_take (d : List UInt8) (n k : Nat) (h1 : k ≤ d.length) (h2 : k ≤ 24 * n) : ((List.range n).flatMap (padC d)).take k = d.take k := by
  rw [pad_all, List.take_append_of_le_length (by simp; omega), List.take_take, Nat.min_eq_left h2]
theorem secs_at (m d : List UInt8) (j : Nat) : ∀ N, j < N → ∃ r, secsB m d N = secsB m d j ++ (secB m d j ++ r)
  | 0, h => by omega
  | N + 1, h => by
    have e : secsB m d (N + 1) = secsB m d N ++ secB m d N := by unfold secsB; rw [List.range_succ, List.flatMap_append]; simp
    by_cases hj : j = N
    · subst hj; exact ⟨[], by rw [e]; simp⟩
    · obtain ⟨r, hr⟩ := secs_at m d j N (by omega)
      exact ⟨r ++ secB m d N, by rw [e, hr]; simp⟩
theorem secs_drop {m d : List UInt8} (hm : m.length = 8) (j N : Nat) (h : j < N) (rest : List UInt8) : ∃ r, (secsB m d N ++ rest).drop (j * 32) = padC d j ++ (m ++ r) := by
  obtain ⟨r, hr⟩ := secs_at m d j N h
  refine ⟨r ++ rest, ?_⟩
  rw [hr, List.append_assoc, List.drop_left' (by rw [secsB_len hm]; omega), secB_pad]
  simp
theorem flatMap_congr' {α β : Type} {l : List α} {f g : α → List β} (h : ∀ x ∈ l, f x = g x) : l.flatMap f = l.flatMap g := by
  induction l with
  | nil => rfl
  | cons x l ih => rw [List.flatMap_cons, List.flatMap_cons, h x (by simp), ih (fun y hy => h y (by simp [hy]))]
theorem lay_take2 (e q : Nat) (b rest : List UInt8) : (layB e q b ++ rest).take 2 = lastB b.length 2 := by
  have hm := markB_len (e : Int) (q : Int)
  have hd := matB_len (e : Int) (q : Int) b
  have hN : 0 < chN (b.length + 6) 24 := chN_pos _ _ (by omega) (by omega)
  have hL : layB e q b = secsB (markB e q) (matB e q b) (chN (b.length + 6) 24) := by unfold layB; rw [hd]
  obtain ⟨r, hr⟩ := secs_drop (d := matB e q b) hm 0 _ hN rest
  rw [Nat.zero_mul, List.drop_zero, ← hL] at hr
  have hp := padC_len (matB e q b) 0
  have hd2 : (matB e q b).take 2 = lastB b.length 2 := by
    unfold matB; rw [List.append_assoc, List.take_left' (lastB_len _ _ (by omega))]
  rw [hr, List.take_append_of_le_length (by omega)]
  unfold padC
  rw [Nat.zero_mul, List.drop_zero, List.take_append_of_le_length (by simp; omega), List.take_take, ← hd2]; rfl
/-- a record that is followed by whatever -/
theorem lift_of (e q : Nat) (b rest : List UInt8) (he : e < 2 ^ 32) (hq : q < 2 ^ 32) (hb : b.length ≤ 65535) :
    liftE (layB e q b ++ rest) = (e : Int) ∧ liftQ (layB e q b ++ rest) = (q : Int) ∧ liftB (layB e q b ++ rest) = b ∧ liftN (layB e q b ++ rest) = chN (b.length + 6) 24 ∧ liftOk (layB e q b ++ rest) = true := by
  have hm := markB_len (e : Int) (q : Int)
  have hd := matB_len (e : Int) (q : Int) b
  have hN : 0 < chN (b.length + 6) 24 := chN_pos _ _ (by omega) (by omega)
  have hNb := chN_bound (b.length + 6)
  have hL : layB e q b = secsB (markB e q) (matB e q b) (chN (b.length + 6) 24) := by unfold layB; rw [hd]
  have hll : (layB e q b).length = 32 * chN (b.length + 6) 24 := by rw [hL, secsB_len hm]
  obtain ⟨r, hr⟩ := secs_drop (d := matB e q b) hm 0 _ hN rest
  rw [Nat.zero_mul, List.drop_zero, ← hL] at hr
  have hp := padC_len (matB e q b) 0
  have hd2 : (matB e q b).take 2 = lastB b.length 2 := by
    unfold matB; rw [List.append_assoc, List.take_left' (lastB_len _ _ (by omega))]
  have hp2 : (padC (matB e q b) 0).take 2 = lastB b.length 2 := by
    unfold padC
    rw [Nat.zero_mul, List.drop_zero, List.take_append_of_le_length (by simp; omega), List.take_take, ← hd2]; rfl
  have g1 : liftG (layB e q b ++ rest) = b.length := by
    unfold liftG
    rw [hr, List.take_append_of_le_length (by omega), hp2, numB_last2 _ (by omega)]
  have g2 : liftN (layB e q b ++ rest) = chN (b.length + 6) 24 := by rw [liftN, g1]
  have g3 : liftE (layB e q b ++ rest) = (e : Int) := by
    unfold liftE
    rw [hr, List.drop_take, List.drop_left' hp, List.take_append_of_le_length (by omega)]
    rw [show (markB e q).take (28 - 24) = lastB e 4 by unfold markB; exact List.take_left' (lastB_len _ _ (by omega)), numB_last4 e he]
  have g4 : liftQ (layB e q b ++ rest) = (q : Int) := by
    unfold liftQ
    rw [hr, List.drop_take, show (28 : Nat) = 24 + 4 by rfl, ← List.drop_drop, List.drop_left' hp]
    rw [show List.drop 4 (markB e q ++ r) = lastB q 4 ++ r by unfold markB; rw [List.append_assoc]; exact List.drop_left' (lastB_len _ _ (by omega))]
    rw [List.take_left' (by rw [lastB_len _ _ (by omega)]), numB_last4 q hq]
  have g5 : liftM (layB e q b ++ rest) = (List.range (chN (b.length + 6) 24)).flatMap (padC (matB e q b)) := by
    unfold liftM
    rw [g2]
    refine flatMap_congr' fun j hj => ?_
    obtain ⟨r, hr⟩ := secs_drop (d := matB e q b) hm j _ (List.mem_range.1 hj) rest
    rw [hL, hr, List.take_left' (padC_len _ _)]
  have g6 : liftB (layB e q b ++ rest) = b := by
    unfold liftB
    rw [g1, g5, show (2 + (b.length : Int)).toNat = b.length + 2 by omega, pad_take _ _ _ (by omega) (by omega)]
    unfold matB
    rw [List.append_assoc, List.drop_take, List.drop_left' (lastB_len _ _ (by omega)), List.take_left' (by omega)]
  have g7 : liftA (layB e q b ++ rest) = layB e q b := by unfold liftA; rw [g3, g4, g6]
  refine ⟨g3, g4, g6, g2, ?_⟩
  simp only [liftOk, g7, g2, List.length_append, hll, Bool.and_eq_true, decide_eq_true_eq]
  refine ⟨by omega, by omega, ?_⟩
  rw [List.take_left' hll]
theorem layB_len (e q : Nat) (b : List UInt8) : (layB e q b).length = 32 * chN (b.length + 6) 24 := by
  have hd := matB_len (e : Int) (q : Int) b
  unfold layB; rw [hd, secsB_len (markB_len _ _)]
theorem lift_cut (e q : Nat) (b : List UInt8) (hb : b.length ≤ 65535) : liftOk ((layB e q b).take ((layB e q b).length - 32)) = false := by
  have hl := layB_len e q b
  have hN : 0 < chN (b.length + 6) 24 := chN_pos _ _ (by omega) (by omega)
  by_cases h1 : chN (b.length + 6) 24 = 1
  · rw [hl, h1]; simp [liftOk]
  · have hg : liftG ((layB e q b).take ((layB e q b).length - 32)) = b.length := by
      unfold liftG
      rw [List.take_take, Nat.min_eq_left (by omega)]
      have := lay_take2 e q b []
      rw [List.append_nil] at this
      rw [this, numB_last2 _ (by omega)]
    have hn : liftN ((layB e q b).take ((layB e q b).length - 32)) = chN (b.length + 6) 24 := by rw [liftN, hg]
    simp only [liftOk, hn, List.length_take]
    rw [decide_eq_false (p := 32 * chN (b.length + 6) 24 ≤ min ((layB e q b).length - 32) (layB e q b).length) (by omega)]
    simp
end Go.Proofs.Ytikganlbnhapcaa
