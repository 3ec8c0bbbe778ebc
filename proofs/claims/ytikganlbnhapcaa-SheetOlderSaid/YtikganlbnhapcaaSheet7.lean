import Derived.Test.YtikganlbnhapcaaSheet6
namespace Go.Proofs.Ytikganlbnhapcaa
open Go.RowKit
set_option linter.unusedVariables false
set_option linter.unusedSimpArgs false
/-- some bytes of some sectors are another record's -/
def mixB (L o : List UInt8) (c : Nat) (bit : Nat → Bool) (i k : Nat) : List UInt8 := (List.range L.length).map fun p => if (p / 32 < i ∧ bit (p / 32) = true ∧ c ≤ p % 32) ∨ (p / 32 = i ∧ c ≤ p % 32 ∧ p % 32 < k) then o.getD p 0 else L.getD p 0
theorem mix_len (L o : List UInt8) (c : Nat) (bit : Nat → Bool) (i k : Nat) : (mixB L o c bit i k).length = L.length := by simp [mixB]
theorem mix_get (L o : List UInt8) (c : Nat) (bit : Nat → Bool) (i k p : Nat) (h : p < L.length) : (mixB L o c bit i k).getD p 0 = if (p / 32 < i ∧ bit (p / 32) = true ∧ c ≤ p % 32) ∨ (p / 32 = i ∧ c ≤ p % 32 ∧ p % 32 < k) then o.getD p 0 else L.getD p 0 := by
  rw [List.getD_eq_getElem?_getD]
  simp only [mixB, List.getElem?_map, List.getElem?_range h, Option.map_some, Option.getD_some]
theorem getD_at (l : List UInt8) (i : Nat) (h : i < l.length) : l.getD i 0 = l[i] := by rw [List.getD_eq_getElem?_getD, List.getElem?_eq_getElem h]; rfl
theorem ext_getD {l m : List UInt8} (h : l.length = m.length) (hh : ∀ p, p < l.length → l.getD p 0 = m.getD p 0) : l = m := by
  apply List.ext_getElem h
  intro i h1 h2
  have := hh i h1
  rwa [getD_at _ _ h1, getD_at _ _ h2] at this
theorem mix0 (L o : List UInt8) (c : Nat) (bit : Nat → Bool) : mixB L o c bit 0 c = L :=
  ext_getD (mix_len _ _ _ _ _ _) fun p hp => by
    rw [mix_len] at hp
    rw [mix_get _ _ _ _ _ _ _ hp, if_neg]; omega
theorem setl_getD (l : List UInt8) (n p : Nat) (b : UInt8) (hn : n < l.length) : (l.set n b).getD p 0 = if p = n then b else l.getD p 0 := by
  rw [List.getD_eq_getElem?_getD, List.getElem?_set]
  by_cases h : n = p
  · subst h; simp [hn]
  · rw [if_neg h, if_neg (fun e => h e.symm), ← List.getD_eq_getElem?_getD]
theorem mix_set {L o : List UInt8} {c : Nat} {bit : Nat → Bool} {i k : Nat} (hc : c ≤ k) (hk : k < 32) (hp : 32 * i + k < L.length) : (mixB L o c bit i k).set (32 * i + k) (o.getD (32 * i + k) 0) = mixB L o c bit i (k + 1) :=
  ext_getD (by simp [mix_len]) fun p hl => by
    rw [List.length_set, mix_len] at hl
    rw [setl_getD _ _ _ _ (by rw [mix_len]; exact hp), mix_get _ _ _ _ _ _ _ hl, mix_get _ _ _ _ _ _ _ hl]
    by_cases h : p = 32 * i + k
    · subst h
      rw [if_pos rfl, if_pos (.inr (by omega))]
    · rw [if_neg h]
      have : (p / 32 = i ∧ c ≤ p % 32 ∧ p % 32 < k) ↔ (p / 32 = i ∧ c ≤ p % 32 ∧ p % 32 < k + 1) := by omega
      simp only [this]
theorem mix_t {L o : List UInt8} {c : Nat} {bit : Nat → Bool} {i : Nat} (hb : bit i = true) : mixB L o c bit i 32 = mixB L o c bit (i + 1) c :=
  ext_getD (by simp [mix_len]) fun p hl => by
    rw [mix_len] at hl
    rw [mix_get _ _ _ _ _ _ _ hl, mix_get _ _ _ _ _ _ _ hl]
    have : ((p / 32 < i ∧ bit (p / 32) = true ∧ c ≤ p % 32) ∨ (p / 32 = i ∧ c ≤ p % 32 ∧ p % 32 < 32)) ↔ ((p / 32 < i + 1 ∧ bit (p / 32) = true ∧ c ≤ p % 32) ∨ (p / 32 = i + 1 ∧ c ≤ p % 32 ∧ p % 32 < c)) := by
      constructor
      · rintro (⟨h1, h2, h3⟩ | ⟨h1, h2, h3⟩)
        · exact .inl ⟨by omega, h2, h3⟩
        · exact .inl ⟨by omega, by rw [h1]; exact hb, h2⟩
      · rintro (⟨h1, h2, h3⟩ | ⟨h1, h2, h3⟩)
        · by_cases h : p / 32 = i
          · exact .inr ⟨h, h3, Nat.mod_lt _ (by omega)⟩
          · exact .inl ⟨by omega, h2, h3⟩
        · omega
    simp only [this]
theorem mix_f {L o : List UInt8} {c : Nat} {bit : Nat → Bool} {i : Nat} (hb : bit i = false) : mixB L o c bit i c = mixB L o c bit (i + 1) c :=
  ext_getD (by simp [mix_len]) fun p hl => by
    rw [mix_len] at hl
    rw [mix_get _ _ _ _ _ _ _ hl, mix_get _ _ _ _ _ _ _ hl]
    have : ((p / 32 < i ∧ bit (p / 32) = true ∧ c ≤ p % 32) ∨ (p / 32 = i ∧ c ≤ p % 32 ∧ p % 32 < c)) ↔ ((p / 32 < i + 1 ∧ bit (p / 32) = true ∧ c ≤ p % 32) ∨ (p / 32 = i + 1 ∧ c ≤ p % 32 ∧ p % 32 < c)) := by
      constructor
      · rintro (⟨h1, h2, h3⟩ | ⟨h1, h2, h3⟩)
        · exact .inl ⟨by omega, h2, h3⟩
        · omega
      · rintro (⟨h1, h2, h3⟩ | ⟨h1, h2, h3⟩)
        · by_cases h : p / 32 = i
          · rw [h, hb] at h2; cases h2
          · exact .inl ⟨by omega, h2, h3⟩
        · omega
    simp only [this]
/-- a sector's marks -/
def mkOf (S : List UInt8) (j : Nat) : List UInt8 := (S.drop (32 * j + 24)).take 8
theorem take_getD (S : List UInt8) (a n : Nat) (h : a + n ≤ S.length) : (S.drop a).take n = (List.range n).map fun t => S.getD (a + t) 0 := by
  apply List.ext_getElem
  · simp; omega
  · intro i h1 h2
    simp at h2
    rw [List.getElem_take, List.getElem_drop]
    simp only [List.getElem_map, List.getElem_range]
    rw [getD_at _ _ (by omega)]
theorem mk_lay (e q : Nat) (b : List UInt8) (j : Nat) (hj : j < chN (b.length + 6) 24) : mkOf (layB e q b) j = markB e q := by
  have hm := markB_len (e : Int) (q : Int)
  have hd := matB_len (e : Int) (q : Int) b
  have hL : layB e q b = secsB (markB e q) (matB e q b) (chN (b.length + 6) 24) := by unfold layB; rw [hd]
  obtain ⟨r, hr⟩ := secs_drop (d := matB e q b) hm j _ hj []
  rw [List.append_nil, ← hL] at hr
  unfold mkOf
  rw [show 32 * j + 24 = j * 32 + 24 by omega, ← List.drop_drop, hr, List.drop_left' (padC_len _ _), List.take_left' hm]
theorem mark_nums (e q : Nat) (he : e < 2 ^ 32) (hq : q < 2 ^ 32) : numB ((markB e q).take 4) = e ∧ numB ((markB e q).drop 4) = q := by
  unfold markB
  rw [List.take_left' (lastB_len _ _ (by omega)), List.drop_left' (lastB_len _ _ (by omega)), numB_last4 _ he, numB_last4 _ hq]
  exact ⟨rfl, rfl⟩
theorem mark_inj {e q e2 q2 : Nat} (he : e < 2 ^ 32) (hq : q < 2 ^ 32) (he2 : e2 < 2 ^ 32) (hq2 : q2 < 2 ^ 32) (h : markB e q = markB e2 q2) : e = e2 ∧ q = q2 := by
  obtain ⟨a, b⟩ := mark_nums e q he hq
  obtain ⟨c, d⟩ := mark_nums e2 q2 he2 hq2
  rw [h] at a b
  exact ⟨a.symm.trans c, b.symm.trans d⟩
theorem lift_mk (S : List UInt8) (h : 32 ≤ S.length) : liftE S = (numB ((mkOf S 0).take 4) : Nat) ∧ liftQ S = (numB ((mkOf S 0).drop 4) : Nat) := by
  unfold liftE liftQ mkOf
  constructor
  · rw [List.take_take, List.drop_take]; rfl
  · rw [List.drop_take, List.drop_take, List.drop_drop]
theorem older (e q e2 q2 : Nat) (he : e < 2 ^ 32) (hq : q < 2 ^ 32) (he2 : e2 < 2 ^ 32) (hq2 : q2 < 2 ^ 32) (B W : List UInt8) (hB : B.length ≤ 65535) (hW : W.length ≤ 65535) (c : Nat) (hc : c ≤ 24) (bit : Nat → Bool) (hne : ¬ (e = e2 ∧ q = q2))
    (hbit : ∃ j, j < chN (B.length + 6) 24 ∧ bit j = true) (hz : ∀ j, j < chN (B.length + 6) 24 → bit j = true → 32 * j + 32 ≤ (layB e2 q2 W).length ∨ ¬ (e = 0 ∧ q = 0))
    (hok : liftOk (mixB (layB e q B) (layB e2 q2 W) c bit (chN (B.length + 6) 24) c) = true) :
    ¬ (liftE (mixB (layB e q B) (layB e2 q2 W) c bit (chN (B.length + 6) 24) c) = (e : Int) ∧ liftQ (mixB (layB e q B) (layB e2 q2 W) c bit (chN (B.length + 6) 24) c) = (q : Int)) := by
  have hLl := layB_len e q B
  have hol := layB_len e2 q2 W
  have hN : 0 < chN (B.length + 6) 24 := chN_pos _ _ (by omega) (by omega)
  have hN2 : 0 < chN (W.length + 6) 24 := chN_pos _ _ (by omega) (by omega)
  have hNb := chN_bound (B.length + 6)
  obtain ⟨X, hX⟩ : ∃ X, X = mixB (layB e q B) (layB e2 q2 W) c bit (chN (B.length + 6) 24) c := ⟨_, rfl⟩
  have hXl : X.length = 32 * chN (B.length + 6) 24 := by rw [hX, mix_len, hLl]
  rw [← hX] at hok ⊢
  -- the marks of a sector that was turned
  have hmk : ∀ j, j < chN (B.length + 6) 24 → bit j = true → mkOf X j = markB e2 q2 ∨ (mkOf X j = markB 0 0 ∧ ¬ (e = 0 ∧ q = 0)) := by
    intro j hj hb
    have hg : mkOf X j = (List.range 8).map fun t => (layB e2 q2 W).getD (32 * j + 24 + t) 0 := by
      unfold mkOf
      rw [take_getD _ _ _ (by omega)]
      refine List.map_congr_left fun t ht => ?_
      have ht := List.mem_range.1 ht
      rw [hX, mix_get _ _ _ _ _ _ _ (by omega), if_pos]
      refine .inl ⟨by omega, ?_, by omega⟩
      rw [show (32 * j + 24 + t) / 32 = j by omega]; exact hb
    by_cases h : 32 * j + 32 ≤ (layB e2 q2 W).length
    · left
      rw [hg, ← mk_lay e2 q2 W j (by omega)]
      unfold mkOf
      rw [take_getD _ _ _ (by omega)]
    · right
      have h0 := hz j hj hb
      refine ⟨?_, h0.resolve_left h⟩
      rw [hg]
      have : ∀ t, t < 8 → (layB e2 q2 W).getD (32 * j + 24 + t) 0 = 0 := fun t ht => by
        rw [List.getD_eq_getElem?_getD, List.getElem?_eq_none (by omega)]; rfl
      simp only [List.range, List.range.loop, List.map_cons, List.map_nil, this 0 (by omega), this 1 (by omega), this 2 (by omega), this 3 (by omega), this 4 (by omega), this 5 (by omega), this 6 (by omega), this 7 (by omega)]
      decide +kernel
  rintro ⟨kE, kQ⟩
  obtain ⟨l1, l2⟩ := lift_mk X (by omega)
  by_cases b0 : bit 0 = true
  · rcases hmk 0 hN b0 with h | ⟨h, h3⟩
    · obtain ⟨m1, m2⟩ := mark_nums e2 q2 he2 hq2
      rw [l1, h, m1] at kE
      rw [l2, h, m2] at kQ
      exact hne ⟨by omega, by omega⟩
    · obtain ⟨m1, m2⟩ := mark_nums 0 0 (by omega) (by omega)
      rw [l1, h, show markB (0 : Int) 0 = markB ((0 : Nat) : Int) ((0 : Nat) : Int) from rfl, m1] at kE
      rw [l2, h, show markB (0 : Int) 0 = markB ((0 : Nat) : Int) ((0 : Nat) : Int) from rfl, m2] at kQ
      exact h3 ⟨by omega, by omega⟩
  · have hG : liftG X = B.length := by
      unfold liftG
      have h2 : X.take 2 = (layB e q B).take 2 := by
        have t1 := take_getD X 0 2 (by omega)
        have t2 := take_getD (layB e q B) 0 2 (by omega)
        rw [List.drop_zero] at t1 t2
        rw [t1, t2]
        refine List.map_congr_left fun t ht => ?_
        have ht := List.mem_range.1 ht
        rw [hX, mix_get _ _ _ _ _ _ _ (by omega), if_neg]
        rw [show (0 + t) / 32 = 0 by omega]
        rintro (⟨_, h, _⟩ | ⟨h, _⟩)
        · exact b0 h
        · omega
      have := lay_take2 e q B []
      rw [List.append_nil] at this
      rw [h2, this, numB_last2 _ (by omega)]
    have hn : liftN X = chN (B.length + 6) 24 := by rw [liftN, hG]
    have hbl : (liftB X).length = B.length := by
      unfold liftB
      rw [List.length_drop, List.length_take, liftM_len X (by rw [hn]; omega), hn, hG]; omega
    have hA : liftA X = layB e q (liftB X) := by unfold liftA; rw [kE, kQ]
    have hAl : (liftA X).length = 32 * chN (B.length + 6) 24 := by rw [hA, layB_len, hbl]
    have hAX : liftA X = X := by
      simp only [liftOk, Bool.and_eq_true, decide_eq_true_eq] at hok
      rw [hok.2.2, List.take_of_length_le (by omega)]
    obtain ⟨j, hj, hb⟩ := hbit
    have hm := mk_lay e q (liftB X) j (by rw [hbl]; exact hj)
    rw [← hA, hAX] at hm
    rcases hmk j hj hb with h | ⟨h, h3⟩
    · rw [hm] at h
      exact hne (mark_inj he hq he2 hq2 h)
    · rw [hm, show markB (0 : Int) 0 = markB ((0 : Nat) : Int) ((0 : Nat) : Int) from rfl] at h
      exact h3 (mark_inj he hq (by omega) (by omega) h)
theorem init8 (a b c d e f g h : AV) (md : Md) : initSt [a, b, c, d, e, f, g, h] md = ⟨upd (upd (upd (upd (upd (upd (upd (upd (fun _ => .k .any) 0 (.k a)) 1 (.k b)) 2 (.k c)) 3 (.k d)) 4 (.k e)) 5 (.k f)) 6 (.k g)) 7 (.k h), fun _ => none, 0, md⟩ := by
  unfold initSt
  congr 1
  funext t
  match t with
  | 0 => rfl
  | 1 => rfl
  | 2 => rfl
  | 3 => rfl
  | 4 => rfl
  | 5 => rfl
  | 6 => rfl
  | 7 => rfl
  | t + 8 => simp [upd]
theorem store_set (l : List UInt8) (n : Nat) (b : UInt8) (h : n < l.length) : List.take n (aOfBytes l) ++ [AV.int .u8 (b.toNat : Int)] ++ List.drop (n + 1) (aOfBytes l) = aOfBytes (l.set n b) := by
  rw [List.append_assoc, List.singleton_append, aOfBytes_take, aOfBytes_drop, ← aOfBytes_cons, ← aOfBytes_append, List.set_eq_take_append_cons_drop, if_pos h]
theorem store_set0 (l : List UInt8) (n : Nat) (h : n < l.length) : List.take n (aOfBytes l) ++ [AV.int .u8 0] ++ List.drop (n + 1) (aOfBytes l) = aOfBytes (l.set n 0) := store_set l n 0 h
end Go.Proofs.Ytikganlbnhapcaa
