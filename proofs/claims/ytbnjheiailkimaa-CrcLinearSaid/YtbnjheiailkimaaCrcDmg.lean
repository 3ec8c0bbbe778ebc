import Derived.Test.YtbnjheiailkimaaCrcPure
namespace Go.Proofs.Ytbnjheiailkimaa
open Go.RowKit
set_option linter.unusedVariables false
set_option linter.unusedSimpArgs false

theorem crcBit_xor (x y : BitVec 32) (a b : Bool) : crcBit x a ^^^ crcBit y b = crcBit (x ^^^ y) (a ^^ b) := by
  unfold crcBit
  rw [BitVec.getLsbD_xor, BitVec.ushiftRight_xor_distrib]
  cases x.getLsbD 0 <;> cases y.getLsbD 0 <;> cases a <;> cases b <;> simp <;> first | ac_rfl | (ac_nf; rw [← BitVec.xor_assoc, BitVec.xor_self, BitVec.zero_xor])

theorem crcStep_zero (z : BitVec 32) (h : crcStep z = 0#32) : z = 0#32 := by
  unfold crcStep at h
  rw [one_mul_poly] at h
  have h31 := congrArg (fun v => BitVec.getLsbD v 31) h
  simp only [BitVec.getLsbD_xor, BitVec.getLsbD_ushiftRight] at h31
  have hz : z.getLsbD 0 = false := by
    cases hz : z.getLsbD 0 with
    | false => rfl
    | true => simp [hz] at h31
  rw [hz] at h
  simp at h
  apply BitVec.eq_of_getLsbD_eq
  intro i hi
  cases i with
  | zero => rw [hz]; simp
  | succ i =>
    have := congrArg (fun v => BitVec.getLsbD v i) h
    simp only [BitVec.getLsbD_ushiftRight] at this
    rw [Nat.add_comm, this]; simp
theorem crcStep_of_zero : crcStep 0#32 = 0#32 := by decide
theorem crcSteps_zero_iff (k : Nat) (z : BitVec 32) : crcSteps k z = 0#32 ↔ z = 0#32 := by
  induction k generalizing z with
  | zero => rfl
  | succ k ih =>
    rw [crcSteps, ih]
    exact ⟨crcStep_zero z, fun h => by rw [h, crcStep_of_zero]⟩

def bitAt (l : List (BitVec 8)) (p : Nat) : Bool := (l.getD (p / 8) 0).getLsbD (p % 8)
def feed (δ : Nat → Bool) : Nat → BitVec 32
  | 0 => 0#32
  | k + 1 => crcBit (feed δ k) (δ k)
theorem crcBits_diff (l m : List (BitVec 8)) (x : BitVec 32) (k : Nat) : crcBits l x k ^^^ crcBits m x k = feed (fun p => bitAt l p ^^ bitAt m p) k := by
  induction k with
  | zero => simp [crcBits, feed]
  | succ k ih => simp only [crcBits, feed]; rw [crcBit_xor, ih]; rfl
theorem crcBit_false (d : BitVec 32) : crcBit d false = crcStep d := by
  have := crcStep_xor d 0#32
  simp at this; exact this.symm

theorem feed_before (δ : Nat → Bool) (k : Nat) (h : ∀ p, p < k → δ p = false) : feed δ k = 0#32 := by
  induction k with
  | zero => rfl
  | succ k ih => rw [feed, ih (fun p hp => h p (by omega)), h k (by omega), crcBit_false, crcStep_of_zero]
theorem feed_in (δ : Nat → Bool) (y : BitVec 32) (s j : Nat) (h0 : feed δ s = 0#32) (h : ∀ i, i < j → δ (s + i) = y.getLsbD i) : crcSteps j y = feed δ (s + j) ^^^ (y >>> j) := by
  induction j with
  | zero => simp [crcSteps, h0]
  | succ j ih =>
    rw [← crcSteps_succ, ih (fun i hi => h i (by omega)), crcStep_xor, ← BitVec.shiftRight_add]
    show crcBit _ _ ^^^ _ = feed δ (s + j + 1) ^^^ _
    rw [feed, h j (by omega), BitVec.getLsbD_ushiftRight, Nat.add_zero]
theorem feed_after (δ : Nat → Bool) (s t : Nat) (h : ∀ p, s ≤ p → p < s + t → δ p = false) : feed δ (s + t) = crcSteps t (feed δ s) := by
  induction t with
  | zero => rfl
  | succ t ih =>
    show feed δ (s + t + 1) = _
    rw [feed, ih (fun p hp hq => h p hp (by omega)), h (s + t) (by omega) (by omega), crcBit_false, crcSteps_succ]

def dmg (xs : List (BitVec 8)) (s : Nat) (bits : BitVec 32) : Nat → List (BitVec 8)
  | 0 => xs
  | i + 1 => if bits.getLsbD i then (dmg xs s bits i).set ((s + i) / 8) ((dmg xs s bits i).getD ((s + i) / 8) 0 ^^^ (1#8 <<< ((s + i) % 8))) else dmg xs s bits i
def anyBit (bits : BitVec 32) : Nat → Bool
  | 0 => false
  | i + 1 => anyBit bits i || bits.getLsbD i
theorem dmg_len (xs : List (BitVec 8)) (s : Nat) (bits : BitVec 32) (i : Nat) : (dmg xs s bits i).length = xs.length := by
  induction i with
  | zero => rfl
  | succ i ih => rw [dmg]; split <;> simp [ih]
theorem one_shl_bit (k j : Nat) (hj : j < 8) : (1#8 <<< k).getLsbD j = decide (j = k) := by
  rw [BitVec.getLsbD_shiftLeft]
  by_cases h : j < k
  · simp [hj, h]; omega
  · simp [hj, h]; omega
theorem bitAt_dmg (xs : List (BitVec 8)) (s : Nat) (bits : BitVec 32) (i : Nat) (hi : s + i ≤ 8 * xs.length) (p : Nat) (hp : p < 8 * xs.length) :
    (bitAt (dmg xs s bits i) p ^^ bitAt xs p) = (decide (s ≤ p ∧ p < s + i) && bits.getLsbD (p - s)) := by
  induction i with
  | zero =>
    rw [decide_eq_false (by omega), Bool.false_and, dmg, Bool.xor_self]
  | succ i ih =>
    have ih' := ih (by omega)
    rw [dmg]
    by_cases hb : bits.getLsbD i = true
    · rw [if_pos hb]
      by_cases e : p = s + i
      · subst e
        have h0 : ¬ (s ≤ s + i ∧ s + i < s + i) := by omega
        have h1 : (s ≤ s + i ∧ s + i < s + (i + 1)) := by omega
        rw [decide_eq_false h0, Bool.false_and] at ih'
        rw [decide_eq_true h1, Bool.true_and, show s + i - s = i by omega, hb]
        have hl : (s + i) / 8 < (dmg xs s bits i).length := by rw [dmg_len]; omega
        unfold bitAt at ih' ⊢
        rw [List.getD_eq_getElem?_getD, List.getElem?_set_self hl, Option.getD_some, BitVec.getLsbD_xor, one_shl_bit _ _ (by omega)]
        simp only [decide_true]
        generalize ((dmg xs s bits i).getD ((s + i) / 8) 0).getLsbD ((s + i) % 8) = q at *
        generalize (xs.getD ((s + i) / 8) 0).getLsbD ((s + i) % 8) = r at *
        revert ih'; cases q <;> cases r <;> decide
      · have : decide (s ≤ p ∧ p < s + (i + 1)) = decide (s ≤ p ∧ p < s + i) := decide_eq_decide.2 (by omega)
        rw [this, ← ih']
        congr 1
        unfold bitAt
        by_cases e8 : (s + i) / 8 = p / 8
        · have hl : p / 8 < (dmg xs s bits i).length := by rw [dmg_len]; omega
          rw [e8, List.getD_eq_getElem?_getD, List.getElem?_set_self hl, Option.getD_some, BitVec.getLsbD_xor, one_shl_bit _ _ (by omega)]
          have : ¬ (p % 8 = (s + i) % 8) := by omega
          simp [this]
        · simp only [List.getD_eq_getElem?_getD]
          rw [List.getElem?_set_ne e8]
    · have hb' : bits.getLsbD i = false := by simpa using hb
      rw [if_neg hb, ih']
      by_cases e : p = s + i
      · subst e
        rw [show s + i - s = i by omega, hb']; simp
      · rw [show decide (s ≤ p ∧ p < s + (i + 1)) = decide (s ≤ p ∧ p < s + i) from decide_eq_decide.2 (by omega)]

theorem anyBit_zero (bits : BitVec 32) (n : Nat) : anyBit bits n = false ↔ ∀ i, i < n → bits.getLsbD i = false := by
  induction n with
  | zero => simp [anyBit]
  | succ n ih =>
    simp only [anyBit, Bool.or_eq_false_iff, ih]
    constructor
    · rintro ⟨h1, h2⟩ i hi
      by_cases e : i = n
      · subst e; exact h2
      · exact h1 i (by omega)
    · intro h; exact ⟨fun i hi => h i (by omega), h n (by omega)⟩

theorem crcMore_bits (s : BitVec 32) (l : List (BitVec 8)) : crcMore s l = ~~~ (crcBits l (~~~ s) (8 * l.length)) := by
  rw [crcBits_whole _ _ _ (Nat.le_refl _), List.take_length]; rfl

theorem damage (xs : List (BitVec 8)) (s n : Nat) (bits : BitVec 32) (hn : n ≤ 32) (hs : s + n ≤ 8 * xs.length) :
    (crcOf [dmg xs s bits n] != crcOf [xs]) = anyBit bits n := by
  have e1 : crcOf [dmg xs s bits n] = ~~~ (crcBits (dmg xs s bits n) (~~~ 0#32) (8 * xs.length)) := by
    show crcMore 0#32 _ = _; rw [crcMore_bits, dmg_len]
  have e2 : crcOf [xs] = ~~~ (crcBits xs (~~~ 0#32) (8 * xs.length)) := by show crcMore 0#32 _ = _; rw [crcMore_bits]
  have hd := crcBits_diff (dmg xs s bits n) xs (~~~ 0#32) (8 * xs.length)
  generalize hδ : (fun p => bitAt (dmg xs s bits n) p ^^ bitAt xs p) = δ at hd
  have hδ' : ∀ p, p < 8 * xs.length → δ p = (decide (s ≤ p ∧ p < s + n) && bits.getLsbD (p - s)) := by
    intro p hp; rw [← hδ]; exact bitAt_dmg xs s bits n hs p hp
  let y : BitVec 32 := (bits <<< (32 - n)) >>> (32 - n)
  have hy : ∀ i, y.getLsbD i = (decide (i < n) && bits.getLsbD i) := by
    intro i
    show ((bits <<< (32 - n)) >>> (32 - n)).getLsbD i = _
    rw [BitVec.getLsbD_ushiftRight, BitVec.getLsbD_shiftLeft]
    by_cases h : i < n
    · have h1 : 32 - n + i < 32 := by omega
      simp [h1, h]
    · have h1 : ¬ (32 - n + i < 32) := by omega
      simp [h1, h]
  have h0 : feed δ s = 0#32 := feed_before δ s fun p hp => by rw [hδ' p (by omega), decide_eq_false (by omega)]; simp
  have h1 : crcSteps n y = feed δ (s + n) := by
    rw [feed_in δ y s n h0 fun i hi => by
      rw [hδ' _ (by omega), hy, decide_eq_true (by omega), decide_eq_true hi, show s + i - s = i by omega]]
    have : y >>> n = 0#32 := by
      apply BitVec.eq_of_getLsbD_eq
      intro i hi
      rw [BitVec.getLsbD_ushiftRight, hy, decide_eq_false (by omega)]; simp
    rw [this, BitVec.xor_zero]
  have h2 : feed δ (8 * xs.length) = crcSteps (8 * xs.length - (s + n)) (crcSteps n y) := by
    have := feed_after δ (s + n) (8 * xs.length - (s + n)) fun p hp hq => by rw [hδ' p (by omega), decide_eq_false (by omega)]; simp
    rw [show s + n + (8 * xs.length - (s + n)) = 8 * xs.length by omega] at this
    rw [this, h1]
  rw [h2] at hd
  have h3 : (crcOf [dmg xs s bits n] = crcOf [xs]) ↔ y = 0#32 := by
    rw [e1, e2, ← crcSteps_zero_iff n y, ← crcSteps_zero_iff (8 * xs.length - (s + n)), ← hd]
    constructor
    · intro h
      have := congrArg (~~~ ·) h
      simp only [BitVec.not_not] at this
      rw [this, BitVec.xor_self]
    · intro h
      rw [BitVec.xor_eq_zero_iff.1 h]
  have h4 : y = 0#32 ↔ anyBit bits n = false := by
    rw [anyBit_zero]
    constructor
    · intro h i hi
      have := hy i
      rw [h, decide_eq_true hi] at this
      simpa using this.symm
    · intro h
      apply BitVec.eq_of_getLsbD_eq
      intro i hi
      rw [hy]
      by_cases hin : i < n
      · rw [h i hin]; simp
      · simp [hin]
  cases ha : anyBit bits n with
  | false => rw [h3.2 (h4.2 ha)]; simp
  | true =>
    have : ¬ (crcOf [dmg xs s bits n] = crcOf [xs]) := fun h => by rw [h4.1 (h3.1 h)] at ha; cases ha
    simp [this]

end Go.Proofs.Ytbnjheiailkimaa
