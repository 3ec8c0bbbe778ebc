import Derived.Test.YtmlgpibjhegdeaaProg
import Derived.Test.YtmlgpibjhegdeaaOctLaws
import Derived.Test.YtmlgpibjhegdeaaOctPure
import Derived.Test.YtmlgpibjhegdeaaOctRef
import Derived.Below
import Derived.Deep.Draws
import Derived.OwnWalk
import Derived.Tactics
import Derived.WalkKit
import Derived.KernelRfl
import Derived.RowKit3
import Derived.Deep.LoopGhost
import Derived.Deep.QuietTactic
import Derived.BigQuiet
import Derived.WideLaws
import Derived.Deep.DeepCutAuto
import Derived.Deep.CutBlock
import Derived.Laws.Rows
import Derived.Outline
import Derived.Lib.Hide
namespace Go.Proofs.Ytmlgpibjhegdeaa
open Go.RowKit
set_option linter.unusedVariables false
set_option linter.unusedSimpArgs false




def atP : Option Nat → Int
  | none => -1
  | some k => k
def okP (x : List (BitVec 8)) : Option Nat → Prop
  | none => True
  | some k => k ≤ x.length
def stP (x : List (BitVec 8)) (p : Option Nat) : Option (List (BitVec 8)) := p.map fun k => x.drop k
theorem number_all (x : List (BitVec 8)) (v : Value) (p : Option Nat) (hp : okP x p) (w : World) (h : Rd w v (B8 x)) (hx : x.length ≤ 1000000000) :
    Calls Try.prog 22 #[v, .int .i64 (atP p)] w fun e w' => ∃ p', e = .returned (.tuple #[.int .i64 (rI (stP x p)), .int .i64 (atP p')]) ∧ nxSt 8 (stP x p) = stP x p' ∧ okP x p' ∧ w = w' := by
  cases p with
  | none =>
    refine (number_lost x v w h).mono ?_
    rintro e w' ⟨rfl, rfl⟩
    exact ⟨none, by rw [show stP x none = none from rfl, rI_none]; rfl, rfl, trivial, rfl⟩
  | some k =>
    have hk : k ≤ x.length := hp
    by_cases h8 : k + 8 ≤ x.length
    · refine (number_calls x v k w h h8 hx).mono ?_
      rintro e w' ⟨rfl, rfl⟩
      have h9 : 8 ≤ (x.drop k).length := by simp; omega
      refine ⟨some (k + 8), ?_, ?_, h8, rfl⟩
      · show _ = Ending.returned (.tuple #[.int .i64 (vI (nxOut 8 (some (x.drop k)))), .int .i64 ((k + 8 : Nat) : Int)])
        rw [nxOut, if_pos h9]; rfl
      · show nxSt 8 (some (x.drop k)) = some (x.drop (k + 8))
        rw [nxSt, if_pos h9, List.drop_drop]
    · refine (number_short x v k w h hk (by omega)).mono ?_
      rintro e w' ⟨rfl, rfl⟩
      obtain ⟨e1, e2⟩ := rI_short (x.drop k) (by simp; omega)
      exact ⟨none, by rw [show stP x (some k) = some (x.drop k) from rfl, e1]; rfl, e2, trivial, rfl⟩
theorem two_of (x : List (BitVec 8)) (k : Nat) (h : k + 2 ≤ x.length) : nxOut 2 (some (x.drop k)) = [x.getD k 0, x.getD (k + 1) 0] ∧ nxSt 2 (some (x.drop k)) = some (x.drop (k + 2)) ∧ nxOk 2 (some (x.drop k)) = true := by
  have h9 : 2 ≤ (x.drop k).length := by simp; omega
  refine ⟨?_, by rw [nxSt, if_pos h9, List.drop_drop], by simp [nxOk]; omega⟩
  rw [nxOut, if_pos h9]
  have e : x.drop k = x[k]'(by omega) :: x[k + 1]'(by omega) :: x.drop (k + 2) := by
    rw [List.drop_eq_getElem_cons (by omega : k < x.length), List.drop_eq_getElem_cons (by omega : k + 1 < x.length)]
  have e0 : x.getD k 0 = x[k]'(by omega) := by simp [List.getD, List.getElem?_eq_getElem (by omega : k < x.length)]
  have e1 : x.getD (k + 1) 0 = x[k + 1]'(by omega) := by simp [List.getD, List.getElem?_eq_getElem (by omega : k + 1 < x.length)]
  rw [e, e0, e1]
  rfl
theorem vI_pair (a b : BitVec 8) : vI [a, b] = ((256 * a.toNat + b.toNat : Nat) : Int) := by
  have ha := a.isLt
  have hb := b.isLt
  unfold vI
  rw [vN2]
  unfold n8
  simp only [wrap64]
  omega
theorem word_all (x : List (BitVec 8)) (v : Value) (p : Option Nat) (hp : okP x p) (most : Int) (w : World) (h : Rd w v (B8 x)) :
    Calls Try.prog 24 #[v, .int .i64 (atP p), .int .i64 most] w fun e w' => ∃ p', e = .returned (.tuple #[.string (sOf (rT most (stP x p))), .int .i64 (atP p')]) ∧ rTs most (stP x p) = stP x p' ∧ okP x p' ∧ Below w.heap.size w w' := by
  cases p with
  | none =>
    refine (word_lost x v most w h).mono ?_
    rintro e w' ⟨rfl, rfl⟩
    exact ⟨none, rfl, rfl, trivial, Below.refl _ _⟩
  | some k =>
    have hk : k ≤ x.length := hp
    by_cases h2 : k + 2 ≤ x.length
    · obtain ⟨t1, t2, t3⟩ := two_of x k h2
      obtain ⟨n, hn⟩ : ∃ n, n = 256 * (x.getD k 0).toNat + (x.getD (k + 1) 0).toNat := ⟨_, rfl⟩
      have hv := vI_pair (x.getD k 0) (x.getD (k + 1) 0)
      rw [← hn] at hv
      have ht : ∀ (b : Prop) [Decidable b], (true && decide b) = decide b := fun b _ => Bool.true_and _
      by_cases hy : (n : Int) ≤ most ∧ k + 2 + n ≤ x.length
      · refine (word_yes x v k most w h h2 n hn hy.1 hy.2).mono ?_
        rintro e w' ⟨rfl, rfl⟩
        have h9 : n ≤ (x.drop (k + 2)).length := by simp; omega
        refine ⟨some (k + 2 + n), ?_, ?_, hy.2, (Below.refl _ _).drew⟩
        · show _ = Ending.returned (.tuple #[.string (sOf (rT most (some (x.drop k)))), .int .i64 ((k + 2 + n : Nat) : Int)])
          rw [rT, t1, t2, t3, hv, ht, decide_eq_true hy.1, if_pos rfl, Int.toNat_natCast, nxOut, if_pos h9]
          rfl
        · show rTs most (some (x.drop k)) = some (x.drop (k + 2 + n))
          rw [rTs, t1, t2, t3, hv, ht, decide_eq_true hy.1, if_pos rfl, Int.toNat_natCast, nxSt, if_pos h9, List.drop_drop]
      · refine (word_no x v k most w h h2 n hn hy).mono ?_
        rintro e w' ⟨rfl, rfl⟩
        have e1 : rT most (some (x.drop k)) = [] ∧ rTs most (some (x.drop k)) = none := by
          rw [rT, rTs, t1, t2, t3, hv, ht]
          by_cases hm : (n : Int) ≤ most
          · have h9 : ¬ n ≤ (x.drop (k + 2)).length := by simp; omega
            rw [decide_eq_true hm, if_pos rfl, if_pos rfl, Int.toNat_natCast, nxOut, if_neg h9, nxSt, if_neg h9]
            exact ⟨rfl, rfl⟩
          · rw [decide_eq_false hm]; exact ⟨rfl, rfl⟩
        exact ⟨none, by rw [show stP x (some k) = some (x.drop k) from rfl, e1.1]; rfl, e1.2, trivial, (Below.refl _ _).drew⟩
    · refine (word_short x v k most w h hk (by omega)).mono ?_
      rintro e w' ⟨rfl, rfl⟩
      have h3 : nxOk 2 (some (x.drop k)) = false := by simp [nxOk]; omega
      exact ⟨none, by rw [show stP x (some k) = some (x.drop k) from rfl, rT, h3]; rfl, by rw [show stP x (some k) = some (x.drop k) from rfl, rTs, h3]; rfl, trivial, Below.refl _ _⟩
theorem short01_calls (x : List (BitVec 8)) (v : Value) (w : World) (h : Rd w v (B8 x)) :
    Calls Try.prog 16 #[v] w fun e w' => ∃ v', e = .returned v' ∧ Rd w v' (B8 (x.take 300)) ∧ w = w' := by
  obtain ⟨a, c, rfl, hc1, hc2⟩ := h.slice
  rw [B8_len] at *
  by_cases h3 : x.length ≤ 300
  · have hr : Hid (Rd w (.slice a x.length c) (B8 (x.take 300))) := Lib.hid (by rw [List.take_of_length_le h3]; exact h)
    clear h
    have h4 : (x.length : Int) ≤ 300 := by omega
    go_enter Try.func16, Try.ntmps16
    go_wp2
    go_ret
    exact ⟨_, rfl, hr.out, rfl⟩
  · have hr : Hid (Rd w (.slice a 300 c) (B8 (x.take 300))) := Lib.hid (by rw [B8_take]; exact h.take 300 (by rw [B8_len]; omega))
    clear h
    have h4 : ¬ (x.length : Int) ≤ 300 := by omega
    have h5 : (300 : Int) ≤ c := by omega
    go_enter Try.func16, Try.ntmps16
    go_wp2
    go_ret
    exact ⟨_, rfl, hr.out, rfl⟩

def WantRow (w : World) (a : Option Addr) (len : Nat) (Nb : Nat → Bool) (Mq : Nat → Int) : Prop :=
  len = 0 ∨ ∃ b off, a = some ⟨b, off, none⟩ ∧ ∀ i, i < len → w.cell? ⟨b, off + i * 2, none⟩ = some (.bool (Nb i)) ∧ w.cell? ⟨b, off + i * 2 + 1, none⟩ = some (.int .i64 (Mq i))
theorem WantRow.below {w w' : World} {a : Option Addr} {len : Nat} {Nb : Nat → Bool} {Mq : Nat → Int} (h : WantRow w a len Nb Mq) (hb : Below w.heap.size w w') : WantRow w' a len Nb Mq := by
  rcases h with h | ⟨b, off, rfl, h⟩
  · exact .inl h
  · refine .inr ⟨b, off, rfl, fun i hi => ?_⟩
    obtain ⟨h1, h2⟩ := h i hi
    have hlt := lt_of_cell h1
    have hbl := hb.block b hlt
    exact ⟨by rw [← h1]; simp only [World.cell?, hbl], by rw [← h2]; simp only [World.cell?, hbl]⟩
set_option maxHeartbeats 1600000 in
set_option maxRecDepth 100000 in
theorem law_OctetTakes (x : List (BitVec 8)) (v : Value) (a : Option Addr) (len cap : Nat) (Nb : Nat → Bool) (Mq : Nat → Int) (w : World) (h : Rd w v (B8 x)) (hl : len ≤ cap) (hc : cap ≤ 9223372036854775807) (hW : WantRow w a len Nb Mq) :
    Calls Try.prog 4 #[v, .slice a len cap] w fun e w' => e = .returned (.bool true) ∧ Below w.heap.size w w' := by
  have HW := Lib.hid hW
  clear hW
  go_enter Try.func4, Try.ntmps4
  go_wp2_with fail
  refine (short01_calls x v _ h).mono ?_
  rintro e w' ⟨v', rfl, r1, rfl⟩
  have hxl : (x.take 300).length ≤ 300 := by simp; omega
  generalize x.take 300 = y at r1 hxl
  have R1 := Lib.hid r1
  clear h
  go_wp2_with fail
  refine (onew_calls y v' _ R1.out (by omega)).mono ?_
  rintro e w2 ⟨g, rfl, s2, hg, b2⟩
  clear r1
  obtain ⟨a', c', rfl, hc1, hc2⟩ := R1.out.slice
  rw [B8_len] at *
  go_wp2_with fail
  go_loopw [7, 8] (fun at_ i wr => ∃ (n : Nat) (p : Option Nat), n ≤ len ∧ n ≤ 40 ∧ i = .int .i64 n ∧ at_ = .int .i64 (atP p) ∧ okP y p ∧ RdS wr g (stP y p) ∧ Below w.heap.size w wr) (fun _ i _ => 40 - (intOf i).toNat)
  case atStart => exact ⟨0, some 0, by omega, by omega, rfl, rfl, Nat.zero_le _, s2, b2⟩
  case round =>
    obtain ⟨n, p, hn1, hn2, rfl, rfl, hp, S, B⟩ := hrel
    obtain ⟨wo, rfl⟩ : ∃ wo : World, wo = wr := ⟨_, rfl⟩
    clear s2 b2
    have HP := Lib.hid hp
    have HS := Lib.hid S
    have HB := Lib.hid B
    have R2 := Lib.hid (R1.out.below B)
    have W2 := HW.out.below B
    clear hp S B
    by_cases hlt : n < len ∧ n < 40
    · obtain ⟨hlt1, hlt2⟩ := hlt
      rcases W2 with h0 | ⟨b, off, rfl, hw⟩
      · omega
      obtain ⟨q0, q1⟩ := hw n hlt1
      clear hw
      have hws := HB.out.size
      cases hnb : Nb n with
      | true =>
        rw [hnb] at q0
        go_wp2_with fail
        refine (number_all y _ p HP.out _ R2.out (by omega)).mono ?_
        rintro e w' ⟨p', rfl, E1, hp', rfl⟩
        have HP' := Lib.hid hp'
        have HB2 := HB
        clear hp'
        go_wp2_with fail
        refine (rint_calls g (stP y p) _ HS.out).mono ?_
        rintro e w3 ⟨rfl, s3, o3⟩
        rw [E1] at s3
        have B3 := Lib.hid (o3.below _ _ HB2.out (by omega))
        have S3 := Lib.hid s3
        clear s3 o3 HS HB HB2 R2 q0 q1 HP
        cases p' with
        | none =>
          have ea : atP none = -1 := rfl
          rw [ea]
          have eL : rLeft (stP y none) = 0 := rfl
          have eE : rEnd (stP y none) = false := rfl
          have EL := Lib.hid eL
          have EE := Lib.hid eE
          clear eL eE ea E1
          have hne : ¬ (-1 : Int) = (y.length : Int) := by omega
          go_wp2_with fail
          refine (rleft_calls g _ _ S3.out).mono ?_
          rintro e w' ⟨rfl, rfl⟩
          rw [EL.out]
          go_wp2_with fail
          refine (rend_calls g _ _ S3.out).mono ?_
          rintro e w' ⟨rfl, rfl⟩
          rw [EE.out]
          go_wp2_with fail
          go_roundw
          case rel => exact ⟨n + 1, none, by omega, by omega, by go_num, rfl, trivial, S3.out, B3.out⟩
          case measure => simp only [intOf]; omega
        | some k =>
          have ea : atP (some k) = (k : Int) := rfl
          rw [ea]
          have hk : k ≤ y.length := HP'.out
          have EL : Hid (rLeft (stP y (some k)) = (y.length : Int) - k) := Lib.hid (by
            show ((y.drop k).length : Int) = _
            rw [List.length_drop]; omega)
          have EE : Hid (rEnd (stP y (some k)) = decide ((k : Int) = (y.length : Int))) := Lib.hid (by
            show decide (y.drop k = []) = _
            apply decide_eq_decide.2
            rw [List.drop_eq_nil_iff]; omega)
          clear ea E1
          by_cases hke : (k : Int) = (y.length : Int)
          all_goals
            go_wp2_with fail
            refine (rleft_calls g _ _ S3.out).mono ?_
            rintro e w' ⟨rfl, rfl⟩
            rw [EL.out]
            go_wp2_with fail
            refine (rend_calls g _ _ S3.out).mono ?_
            rintro e w' ⟨rfl, rfl⟩
            rw [EE.out]
            go_wp2_with fail
            go_roundw
            case rel => exact ⟨n + 1, some k, by omega, by omega, by go_num, by first | rfl | (rw [← hke]; rfl), hk, S3.out, B3.out⟩
            case measure => simp only [intOf]; omega
      | false =>
        rw [hnb] at q0
        go_wp2_with fail
        refine (word_all y _ p HP.out (Mq n) _ R2.out).mono ?_
        rintro e w4 ⟨p', rfl, E1, hp', b4⟩
        have HP' := Lib.hid hp'
        have HB2 := Lib.hid (HB.out.trans (b4.mono HB.out.size))
        have S4 := HS.out.below b4
        have q1' : w4.cell? ⟨b, off + n * 2 + 1, none⟩ = some (.int .i64 (Mq n)) := by
          have hbl := b4.block b (lt_of_cell q1)
          rw [← q1]; simp only [World.cell?, hbl]
        have hws4 := b4.size
        clear hp' b4 q1 q0
        have q1 := q1'
        have q0 : True := trivial
        go_wp2_with fail
        refine (rtext_calls g (stP y p) (Mq n) _ S4).mono ?_
        rintro e w3 ⟨rfl, s3, o3⟩
        rw [E1] at s3
        have B3 := Lib.hid (o3.below _ _ HB2.out (by omega))
        have S3 := Lib.hid s3
        clear s3 o3 HS HB HB2 R2 q0 q1 HP
        cases p' with
        | none =>
          have ea : atP none = -1 := rfl
          rw [ea]
          have eL : rLeft (stP y none) = 0 := rfl
          have eE : rEnd (stP y none) = false := rfl
          have EL := Lib.hid eL
          have EE := Lib.hid eE
          clear eL eE ea E1
          have hne : ¬ (-1 : Int) = (y.length : Int) := by omega
          go_wp2_with fail
          refine (rleft_calls g _ _ S3.out).mono ?_
          rintro e w' ⟨rfl, rfl⟩
          rw [EL.out]
          go_wp2_with fail
          refine (rend_calls g _ _ S3.out).mono ?_
          rintro e w' ⟨rfl, rfl⟩
          rw [EE.out]
          go_wp2_with fail
          go_roundw
          case rel => exact ⟨n + 1, none, by omega, by omega, by go_num, rfl, trivial, S3.out, B3.out⟩
          case measure => simp only [intOf]; omega
        | some k =>
          have ea : atP (some k) = (k : Int) := rfl
          rw [ea]
          have hk : k ≤ y.length := HP'.out
          have EL : Hid (rLeft (stP y (some k)) = (y.length : Int) - k) := Lib.hid (by
            show ((y.drop k).length : Int) = _
            rw [List.length_drop]; omega)
          have EE : Hid (rEnd (stP y (some k)) = decide ((k : Int) = (y.length : Int))) := Lib.hid (by
            show decide (y.drop k = []) = _
            apply decide_eq_decide.2
            rw [List.drop_eq_nil_iff]; omega)
          clear ea E1
          by_cases hke : (k : Int) = (y.length : Int)
          all_goals
            go_wp2_with fail
            refine (rleft_calls g _ _ S3.out).mono ?_
            rintro e w' ⟨rfl, rfl⟩
            rw [EL.out]
            go_wp2_with fail
            refine (rend_calls g _ _ S3.out).mono ?_
            rintro e w' ⟨rfl, rfl⟩
            rw [EE.out]
            go_wp2_with fail
            go_roundw
            case rel => exact ⟨n + 1, some k, by omega, by omega, by go_num, by first | rfl | (rw [← hke]; rfl), hk, S3.out, B3.out⟩
            case measure => simp only [intOf]; omega
    · clear W2
      have hlt' : ¬ ((n : Int) < len ∧ (n : Int) < 40) := by omega
      go_wp2_with fail
      all_goals
        refine (awake01_calls _).mono ?_
        rintro e w5 ⟨rfl, b5⟩
        have HB5 := Lib.hid (HB.out.trans (b5.mono HB.out.size))
        clear b5
        go_wp2
        go_ret
        exact ⟨rfl, HB5.out⟩

end Go.Proofs.Ytmlgpibjhegdeaa
