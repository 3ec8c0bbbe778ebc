import Derived.Test.YtbnjheiailkimaaProg
import Derived.Test.YtbnjheiailkimaaBits
import Derived.Test.YtbnjheiailkimaaMem
import Derived.Test.YtbnjheiailkimaaCrcRef
import Derived.Deep.OwnRows
import Derived.Deep.DeepMust
import Derived.Test.YtbnjheiailkimaaOwn
import Derived.Test.YtbnjheiailkimaaCrcDmg
import Derived.Lib.SlBytesConst
import Derived.Below
import Derived.Deep.Draws
import Derived.OwnWalk
import Derived.Tactics
import Derived.WalkKit
import Derived.KernelRfl
import Derived.RowKit3
import Derived.Deep.LoopGhost
import Derived.Deep.QuietTactic
import Derived.BigQuiet
import Derived.WideLaws
import Derived.Deep.DeepCutAuto
import Derived.Deep.CutBlock
import Derived.Laws.Rows
import Derived.Outline
import Derived.Lib.Hide
namespace Go.Proofs.Ytbnjheiailkimaa
open Go.RowKit
set_option linter.unusedVariables false
set_option linter.unusedSimpArgs false


theorem awake_1 : n32 (crcOf [[49#8, 50#8, 51#8, 52#8, 53#8, 54#8, 55#8, 56#8, 57#8]]) = 3421780262 := by decide +kernel
theorem awake_2 : n32 (crcOf [[49#8, 50#8, 51#8, 52#8], [], [53#8, 54#8, 55#8, 56#8, 57#8]]) = 3421780262 := by decide +kernel
theorem awake_3 : n32 (crcOf []) = 0 := by decide +kernel
theorem awake_4 : n32 (crcMore 0#32 [0#8]) = 3523407757 := by decide +kernel

set_option maxHeartbeats 800000 in
theorem awake02_calls (w : World) :
    Calls Try.prog 11 #[] w fun e w' => e = .returned (.bool true) ∧ Below w.heap.size w w' := by
  have kc := conv_lit (P := Try.prog) 23 5 Try.underlying23 Try.underlying5
  go_enter Try.func11, Try.ntmps11
  go_wp2_with fail
  refine (crc_of_calls [[49#8, 50#8, 51#8, 52#8, 53#8, 54#8, 55#8, 56#8, 57#8]] _ _ (by exact RdL.one (Rd.new _ _ _ _ _ (by simp) rfl (by simp)) ((Rd.new _ _ _ _ _ rfl rfl (by simp)).alloc _))).mono ?_
  rintro e w' ⟨rfl, hw⟩
  rw [awake_1, ← hw]
  clear hw
  go_wp2_with fail
  refine (crc_of_calls [[49#8, 50#8, 51#8, 52#8], [], [53#8, 54#8, 55#8, 56#8, 57#8]] _ _ (by exact RdL.three (Rd.new _ _ _ _ _ (by simp) rfl (by simp)) (((Rd.new _ _ _ _ _ (by simp) rfl (by simp)).alloc _).alloc _) (Rd.nil _) ((Rd.new _ _ _ _ _ (by simp) rfl (by simp)).alloc _))).mono ?_
  rintro e w' ⟨rfl, hw⟩
  rw [awake_2, ← hw]
  clear hw
  go_wp2_with fail
  refine (crc_of_calls [] _ _ (RdL.none _)).mono ?_
  rintro e w' ⟨rfl, hw⟩
  rw [awake_3, ← hw]
  clear hw
  go_wp2_with fail
  rw [show (0 : Int) = n32 0#32 from rfl]
  refine (crc_more_calls 0#32 [0#8] _ _ (by exact Rd.new _ _ _ _ _ (by simp) rfl (by simp))).mono ?_
  rintro e w' ⟨rfl, hw⟩
  rw [awake_4, ← hw]
  clear hw
  go_wp2
  go_ret
  refine ⟨rfl, ?_⟩
  repeat (first | exact Below.refl _ _ | (refine Below.alloc ?_ (by first | (simp; done) | (simp; omega)) _))

set_option maxHeartbeats 800000 in
theorem law_CrcMore (s : BitVec 32) (bs : List (BitVec 8)) (v : Value) (w : World) (h : Rd w v (B8 bs)) :
    Calls Try.prog 3 #[.int .u32 (n32 s), v] w fun e w' => e = .returned (.bool true) ∧ Below w.heap.size w w' := by
  go_enter Try.func3, Try.ntmps3
  go_wp2_with fail
  refine (awake02_calls _).mono ?_
  rintro e w1 ⟨rfl, hb1⟩
  have h1 := h.below hb1
  go_wp2_with fail
  refine (short_calls bs _ _ h1).mono ?_
  rintro e w' ⟨v1, rfl, h2, rfl⟩
  go_wp2_with fail
  refine (crc_more_calls _ _ _ _ h2).mono ?_
  rintro e w' ⟨rfl, rfl⟩
  go_wp2_with fail
  refine (short_calls bs _ _ h1).mono ?_
  rintro e w' ⟨v2, rfl, h3, rfl⟩
  go_wp2_with fail
  refine (ref_more_calls _ _ _ _ h3 (by simp; omega)).mono ?_
  rintro e w2 ⟨rfl, hb2⟩
  go_wp2
  go_ret
  exact ⟨rfl, hb1.trans (hb2.mono hb1.size)⟩

theorem slT8 : SlT Try.prog 23 5 (.int .u8 0) 1 := ⟨Try.underlying23, by kernel_rfl, rfl⟩

theorem crcMore_append (s : BitVec 32) (a b : List (BitVec 8)) : crcMore s (a ++ b) = crcMore (crcMore s a) b := by
  simp [crcMore, List.foldl_append]

set_option maxHeartbeats 1600000 in
theorem law_CrcParts (xs ys zs : List (BitVec 8)) (u v x : Value) (w : World) (h1 : Rd w u (B8 xs)) (h2 : Rd w v (B8 ys)) (h3 : Rd w x (B8 zs)) :
    Calls Try.prog 4 #[u, v, x] w fun e w' => e = .returned (.bool true) ∧ Below w.heap.size w w' := by
  go_enter Try.func4, Try.ntmps4
  go_wp2_with fail
  refine (short_calls xs _ _ h1).mono ?_
  rintro e w' ⟨v1, rfl, k1, rfl⟩
  go_wp2_with fail
  refine (short_calls ys _ _ h2).mono ?_
  rintro e w' ⟨v2, rfl, k2, rfl⟩
  go_wp2_with fail
  refine (short_calls zs _ _ h3).mono ?_
  rintro e w' ⟨v3, rfl, k3, rfl⟩
  have l1 : (xs.take 200).length ≤ 200 := by simp; omega
  have l2 : (ys.take 200).length ≤ 200 := by simp; omega
  have l3 : (zs.take 200).length ≤ 200 := by simp; omega
  clear h1 h2 h3
  generalize xs.take 200 = xs at k1 l1
  generalize ys.take 200 = ys at k2 l2
  generalize zs.take 200 = zs at k3 l3
  go_wp2_with (first
    | (at_builtin; refine wpList_append_bd (W0 := w) (o := ⟨some 19, _, _, _, _, _⟩) rfl _ _ 23 rfl slT8 (.slice (some ⟨w.heap.size, 0, none⟩) 0 0) v1 [] (B8 xs) rfl rfl ((Below.refl _ _).alloc (Nat.le_refl _) _) (by exact Own.made #[] 0 (Nat.le_refl _) rfl (by decide) _ rfl) (k1.alloc _) (B8_one _) (by simp [B8_len, maxLen]; omega) (by simp [B8_len]; omega) ?_; intro u1 w1 o1 b1 g1)
    | (at_builtin; refine wpList_append_bd (o := ⟨some 21, _, _, _, _, _⟩) rfl _ _ 23 rfl slT8 u1 v2 _ (B8 ys) rfl rfl b1 o1 (k2.below b1) (B8_one _) (by simp [B8_len, maxLen]; omega) (by simp [B8_len]; omega) ?_; intro u2 w2 o2 b2 g2)
    | (at_builtin; refine wpList_append_bd (o := ⟨some 23, _, _, _, _, _⟩) rfl _ _ 23 rfl slT8 u2 v3 _ (B8 zs) rfl rfl b2 o2 (k3.below b2) (B8_one _) (by simp [B8_len, maxLen]; omega) (by simp [B8_len]; omega) ?_; intro u3 w3 o3 b3 g3)
    | fail)
  have r3 : Rd w3 u3 (B8 (xs ++ ys ++ zs)) := by
    have := o3.rd
    rwa [List.nil_append, ← B8_append, ← B8_append] at this
  obtain ⟨all, hall⟩ : ∃ all, all = xs ++ ys ++ zs := ⟨_, rfl⟩
  rw [← hall] at r3
  have Ha : Hid (crcOf [all] = crcOf [xs, ys, zs]) := Lib.hid (by rw [hall]; simp [crcOf, crcMore_append])
  clear o1 o2 o3 g1 g2 g3 hall
  refine (awake02_calls _).mono ?_
  rintro e w4 ⟨rfl, b4⟩
  have q1 := k1.below b3
  have q2 := k2.below b3
  have q3 := k3.below b3
  have q1 := q1.below b4
  have q2 := q2.below b4
  have q3 := q3.below b4
  have r4 := r3.below b4
  clear k1 k2 k3 r3
  obtain ⟨a1, c1, rfl, -, -⟩ := q1.slice
  obtain ⟨a2, c2, rfl, -, -⟩ := q2.slice
  obtain ⟨a3, c3, rfl, -, -⟩ := q3.slice
  obtain ⟨a4, c4, rfl, -, -⟩ := r4.slice
  go_wp2_with fail
  refine (crc_of_calls [xs, ys, zs] _ _ (by exact RdL.three (Rd.new _ _ _ _ _ rfl rfl (by simp)) (q1.alloc _) (q2.alloc _) (q3.alloc _))).mono ?_
  rintro e w' ⟨rfl, hw⟩
  rw [← hw]; clear hw
  go_wp2_with fail
  refine (crc_of_calls [all] _ _ (by exact RdL.one (Rd.new _ _ _ _ _ (by simp) rfl (by simp)) ((r4.alloc _).alloc _))).mono ?_
  rintro e w' ⟨rfl, hw⟩
  rw [← hw]; clear hw
  rw [Ha.out]
  go_wp2_with fail
  refine (crc_of_calls [all] _ _ (by exact RdL.one (Rd.new _ _ _ _ _ (by simp) rfl (by simp)) (((r4.alloc _).alloc _).alloc _))).mono ?_
  rintro e w' ⟨rfl, hw⟩
  rw [← hw]; clear hw
  rw [Ha.out]
  go_wp2_with fail
  refine (crc_of_calls [xs] _ _ (by exact RdL.one (Rd.new _ _ _ _ _ (by simp) rfl (by simp)) ((((q1.alloc _).alloc _).alloc _).alloc _))).mono ?_
  rintro e w' ⟨rfl, hw⟩
  rw [← hw]; clear hw
  go_wp2_with fail
  refine (crc_more_calls _ ys _ _ (by exact ((((q2.alloc _).alloc _).alloc _).alloc _))).mono ?_
  rintro e w' ⟨rfl, hw⟩
  rw [← hw]; clear hw
  go_wp2_with fail
  refine (crc_more_calls _ zs _ _ (by exact ((((q3.alloc _).alloc _).alloc _).alloc _))).mono ?_
  rintro e w' ⟨rfl, hw⟩
  rw [← hw]; clear hw
  go_wp2
  go_ret
  refine ⟨by simp [crcOf], ?_⟩
  have b5 := b3.trans (b4.mono b3.size)
  repeat (first | exact b5 | (refine Below.alloc ?_ (by have := b5.size; first | (simp; done) | (simp; omega)) _))

end Go.Proofs.Ytbnjheiailkimaa
