import Derived.Test.YtmlgpibjhegdeaaProg
import Derived.Test.YtmlgpibjhegdeaaOctLaws
import Derived.Test.YtmlgpibjhegdeaaOctPure
import Derived.Below
import Derived.Deep.Draws
import Derived.OwnWalk
import Derived.Tactics
import Derived.WalkKit
import Derived.KernelRfl
import Derived.RowKit3
import Derived.Deep.LoopGhost
import Derived.Deep.QuietTactic
import Derived.BigQuiet
import Derived.WideLaws
import Derived.Deep.DeepCutAuto
import Derived.Deep.CutBlock
import Derived.Laws.Rows
import Derived.Outline
import Derived.Lib.Hide
namespace Go.Proofs.Ytmlgpibjhegdeaa
open Go.RowKit
set_option linter.unusedVariables false
set_option linter.unusedSimpArgs false



theorem cut_cases (n m : Int) (l : List (BitVec 8)) (hl : l.length ≤ 100) (hn1 : -9223372036854775808 ≤ n) (hn2 : n ≤ 9223372036854775807) (hm1 : -9223372036854775808 ≤ m) (hm2 : m ≤ 9223372036854775807) (k : Nat) (hk : k ≤ 18 + l.length) :
    ∃ st st1 st2 st3 X Y Z, st = some ((encI n ++ encT l ++ encI m).take k) ∧ rI st = X ∧ nxSt 8 st = st1 ∧ rT 100 st1 = Y ∧ rTs 100 st1 = st2 ∧ rI st2 = Z ∧ nxSt 8 st2 = st3 ∧
     ((¬ (8 : Int) ≤ k ∧ ¬ (10 : Int) + l.length ≤ k ∧ ¬ (k = 18 + l.length) ∧ X = 0 ∧ Y = [] ∧ Z = 0 ∧ rEnd st3 = false)
     ∨ ((8 : Int) ≤ k ∧ ¬ (10 : Int) + l.length ≤ k ∧ ¬ (k = 18 + l.length) ∧ X = n ∧ Y = [] ∧ Z = 0 ∧ rEnd st3 = false)
     ∨ ((8 : Int) ≤ k ∧ (10 : Int) + l.length ≤ k ∧ ¬ (k = 18 + l.length) ∧ X = n ∧ Y = l ∧ Z = 0 ∧ rEnd st3 = false)
     ∨ ((8 : Int) ≤ k ∧ (10 : Int) + l.length ≤ k ∧ (k = 18 + l.length) ∧ X = n ∧ Y = l ∧ Z = m ∧ rEnd st3 = true)) := by
  refine ⟨_, _, _, _, _, _, _, rfl, rfl, rfl, rfl, rfl, rfl, rfl, ?_⟩
  have hT := encT_len l
  have hI := encI_len n
  have hM := encI_len m
  by_cases h1 : k < 8
  · refine .inl ?_
    obtain ⟨e1, e2⟩ := rI_short ((encI n ++ encT l ++ encI m).take k) (by simp; omega)
    rw [e1, e2, rT_none, rTs_none, rI_none]
    exact ⟨by omega, by omega, by omega, rfl, rfl, rfl, rfl⟩
  · have h2 : (encI n ++ encT l ++ encI m).take k = encI n ++ (encT l ++ encI m).take (k - 8) := by
      rw [List.append_assoc, List.take_append, List.take_of_length_le (by omega), hI]
    obtain ⟨e1, e2⟩ := rd_int n ((encT l ++ encI m).take (k - 8)) hn1 hn2
    rw [h2, e1, e2]
    by_cases h3 : k < 10 + l.length
    · refine .inr (.inl ?_)
      have h4 : (encT l ++ encI m).take (k - 8) = (encT l).take (k - 8) := by
        rw [List.take_append, show k - 8 - (encT l).length = 0 by omega]; simp
      obtain ⟨f1, f2⟩ := rT_cut l (k - 8) 100 (by omega) (by omega)
      rw [h4, f1, f2, rI_none]
      exact ⟨by omega, by omega, by omega, rfl, rfl, rfl, rfl⟩
    · have h4 : (encT l ++ encI m).take (k - 8) = encT l ++ (encI m).take (k - 10 - l.length) := by
        rw [List.take_append, List.take_of_length_le (by omega), show k - 8 - (encT l).length = k - 10 - l.length by omega]
      obtain ⟨f1, f2⟩ := rd_text l ((encI m).take (k - 10 - l.length)) 100 (by omega) (by omega)
      rw [h4, f1, f2]
      by_cases h5 : k < 18 + l.length
      · refine .inr (.inr (.inl ?_))
        obtain ⟨g1, g2⟩ := rI_short ((encI m).take (k - 10 - l.length)) (by simp; omega)
        rw [g1, g2]
        exact ⟨by omega, by omega, by omega, rfl, rfl, rfl, rfl⟩
      · refine .inr (.inr (.inr ?_))
        have h6 : (encI m).take (k - 10 - l.length) = encI m ++ [] := by rw [List.append_nil, List.take_of_length_le (by omega)]
        obtain ⟨g1, g2⟩ := rd_int m [] hm1 hm2
        rw [h6, g1, g2]
        exact ⟨by omega, by omega, by omega, rfl, rfl, rfl, rfl⟩

set_option maxHeartbeats 1600000 in
set_option maxRecDepth 100000 in
theorem law_OctetCuts (n m : Int) (l : List (BitVec 8)) (cut : BitVec 8) (hn1 : -9223372036854775808 ≤ n) (hn2 : n ≤ 9223372036854775807) (hm1 : -9223372036854775808 ≤ m) (hm2 : m ≤ 9223372036854775807) (w : World) :
    Calls Try.prog 6 #[.int .i64 n, .int .i64 m, .string (sOf l), .int .u8 (n8 cut)] w fun e w' => e = .returned (.bool true) ∧ Below w.heap.size w w' := by
  have hz := sOf_size l
  have HN := Lib.hid (And.intro (And.intro hn1 hn2) (And.intro hm1 hm2))
  clear hn1 hn2 hm1 hm2
  by_cases hl : l.length ≤ 100
  · have hl1 : (sOf l).size ≤ 100 := by omega
    go_enter Try.func6, Try.ntmps6
    go_wp2_with fail
    refine (oint_calls [] n _ _ (by exact Rd.nil _) (by simp)).mono ?_
    rintro e w1 ⟨v1, rfl, o1, b1⟩
    rw [List.nil_append] at o1
    go_wp2_with fail
    refine (otext_calls (encI n) l _ _ o1.rd (by simp [encI_len]) (by omega)).mono ?_
    rintro e w2 ⟨v2, rfl, r2, b2⟩
    have b2' := b1.trans (b2.mono b1.size)
    go_wp2_with fail
    refine (oint_calls (encI n ++ encT l) m _ _ r2 (by simp [encI_len, encT_len]; omega)).mono ?_
    rintro e w3 ⟨v3, rfl, o3, b3⟩
    have b3' := Lib.hid (b2'.trans (b3.mono b2'.size))
    have hzl : (encI n ++ encT l ++ encI m).length = 18 + l.length := by simp [encI_len, encT_len]; omega
    obtain ⟨z, hzz⟩ : ∃ z, z = encI n ++ encT l ++ encI m := ⟨_, rfl⟩
    rw [← hzz] at o3 hzl
    have HZ := Lib.hid hzz
    have R3 := Lib.hid o3.rd
    obtain ⟨a, c, rfl, hc1, hc2⟩ := o3.rd.slice
    rw [B8_len] at *
    clear o1 o3 r2 b1 b2 b2' b3 hzz
    have c0 := n8_lo cut
    have c1 := n8_hi cut
    have HL := Lib.hid hzl
    obtain ⟨k, hk⟩ : ∃ k : Nat, n8 cut % ((z.length : Int) + 1) = (k : Int) := ⟨(n8 cut % ((z.length : Int) + 1)).toNat, by have := Int.emod_nonneg (n8 cut) (b := (z.length : Int) + 1) (by omega); omega⟩
    have hk1 : k ≤ z.length := by have := Int.emod_lt_of_pos (n8 cut) (b := (z.length : Int) + 1) (by omega); omega
    have R4 := Lib.hid (R3.out.take k (by rw [B8_len]; exact hk1))
    have hzs : z.length ≤ 1000 := by omega
    obtain ⟨st, st1, st2, st3, X, Y, Z, hst, e1, e2, e3, e4, e5, e6, hcs⟩ := cut_cases n m l hl HN.out.1.1 HN.out.1.2 HN.out.2.1 HN.out.2.2 k (by omega)
    have HS := Lib.hid hst
    have HC := Lib.hid hcs
    have E1 := Lib.hid e1
    have E2 := Lib.hid e2
    have E3 := Lib.hid e3
    have E4 := Lib.hid e4
    have E5 := Lib.hid e5
    have E6 := Lib.hid e6
    clear hzl hst e1 e2 e3 e4 e5 e6 hcs
    go_wp2_with fail
    refine (onew_calls (z.take k) _ _ (by have := R4.out; rw [← B8_take] at this; exact this) (by simp; omega)).mono ?_
    rintro e w4 ⟨g, rfl, s4, hg, b4⟩
    rw [show some (z.take k) = st by rw [HS.out, HZ.out]] at s4
    have B4 := Lib.hid (b3'.out.trans (b4.mono b3'.out.size))
    have hws := b3'.out.size
    clear b4
    go_wp2_with fail
    refine (rint_calls g st _ s4).mono ?_
    rintro e w5 ⟨rfl, s5, o5⟩
    rw [E1.out]
    rw [E2.out] at s5
    go_wp2_with fail
    refine (rtext_calls g st1 100 _ s5).mono ?_
    rintro e w6 ⟨rfl, s6, o6⟩
    rw [E3.out]
    rw [E4.out] at s6
    go_wp2_with fail
    refine (rint_calls g st2 _ s6).mono ?_
    rintro e w7 ⟨rfl, s7, o7⟩
    rw [E5.out]
    rw [E6.out] at s7
    have B7 := Lib.hid (((o5.trans o6).trans o7).below _ _ B4.out (by omega))
    have S7 := Lib.hid s7
    clear s4 s5 s6 s7 o5 o6 o7 B4 E1 E2 E3 E4 E5 E6 HS HZ R3 R4 b3' hws hg hk HN
    have hnil : (sOf []).toList = [] := (sOf_toList_nil []).2 rfl
    rcases HC.out with ⟨k1, k2, k3, rfl, rfl, rfl, hE⟩ | ⟨k1, k2, k3, rfl, rfl, rfl, hE⟩ | ⟨k1, k2, k3, rfl, rfl, rfl, hE⟩ | ⟨k1, k2, k3, rfl, rfl, rfl, hE⟩
    all_goals
      rw [← HL.out] at k3
      clear HC HL
      have HE := Lib.hid hE
      clear hE
      go_wp2_with fail
      refine (awake01_calls _).mono ?_
      rintro e w8 ⟨rfl, b8⟩
      have S8 := S7.out.below b8
      have B8' := Lib.hid (B7.out.trans (b8.mono B7.out.size))
      clear b8 S7 B7
      go_wp2_with fail
      refine (rend_calls g st3 _ S8).mono ?_
      rintro e w' ⟨rfl, hw⟩
      rw [HE.out, ← hw]; clear hw
      go_wp2
      go_ret
      exact ⟨by
        first
        | rfl
        | (have hb : ((k : Int) == (z.length : Int)) = false := by simp; omega
           show Ending.returned (.bool (!((k : Int) == (z.length : Int)))) = _
           rw [hb]; rfl), B8'.out⟩
  · have hl1 : ¬ ((sOf l).size ≤ 100) := by omega
    go_enter Try.func6, Try.ntmps6
    go_wp2_with fail
    refine (awake01_calls _).mono ?_
    rintro e w1 ⟨rfl, b1⟩
    go_wp2
    go_ret
    exact ⟨rfl, b1⟩

end Go.Proofs.Ytmlgpibjhegdeaa
