import Derived.Test.YtbnjheiailkimaaProg
import Derived.Test.YtbnjheiailkimaaBits
import Derived.Test.YtbnjheiailkimaaMem
import Derived.Test.YtbnjheiailkimaaCrcRef
import Derived.Deep.OwnRows
import Derived.Lib.SlBytesConst
import Derived.Below
import Derived.Deep.Draws
import Derived.OwnWalk
import Derived.Tactics
import Derived.WalkKit
import Derived.KernelRfl
import Derived.RowKit3
import Derived.Deep.LoopGhost
import Derived.Deep.QuietTactic
import Derived.BigQuiet
import Derived.WideLaws
import Derived.Deep.DeepCutAuto
import Derived.Deep.CutBlock
import Derived.Laws.Rows
import Derived.Outline
import Derived.Lib.Hide
namespace Go.Proofs.Ytbnjheiailkimaa
open Go.RowKit


theorem awake_1 : n32 ([[49#8, 50#8, 51#8, 52#8, 53#8, 54#8, 55#8, 56#8, 57#8]].foldl crcMore 0#32) = 3421780262 := by decide +kernel
theorem awake_2 : n32 ([[49#8, 50#8, 51#8, 52#8], [], [53#8, 54#8, 55#8, 56#8, 57#8]].foldl crcMore 0#32) = 3421780262 := by decide +kernel
theorem awake_3 : n32 ([].foldl crcMore 0#32) = 0 := by decide +kernel
theorem awake_4 : n32 (crcMore 0#32 [0#8]) = 3523407757 := by decide +kernel

set_option maxHeartbeats 800000 in
theorem awake02_calls (w : World) :
    Calls Try.prog 11 #[] w fun e w' => e = .returned (.bool true) ∧ Below w.heap.size w w' := by
  have kc := conv_lit (P := Try.prog) 23 5 Try.underlying23 Try.underlying5
  go_enter Try.func11, Try.ntmps11
  go_wp2_with fail
  refine (crc_of_calls [[49#8, 50#8, 51#8, 52#8, 53#8, 54#8, 55#8, 56#8, 57#8]] _ _ (by exact RdL.one (Rd.new _ _ _ _ _ (by simp) rfl (by simp)) ((Rd.new _ _ _ _ _ rfl rfl (by simp)).alloc _))).mono ?_
  rintro e w' ⟨rfl, hw⟩
  rw [awake_1, ← hw]
  clear hw
  go_wp2_with fail
  refine (crc_of_calls [[49#8, 50#8, 51#8, 52#8], [], [53#8, 54#8, 55#8, 56#8, 57#8]] _ _ (by exact RdL.three (Rd.new _ _ _ _ _ (by simp) rfl (by simp)) (((Rd.new _ _ _ _ _ (by simp) rfl (by simp)).alloc _).alloc _) (Rd.nil _) ((Rd.new _ _ _ _ _ (by simp) rfl (by simp)).alloc _))).mono ?_
  rintro e w' ⟨rfl, hw⟩
  rw [awake_2, ← hw]
  clear hw
  go_wp2_with fail
  refine (crc_of_calls [] _ _ (RdL.none _)).mono ?_
  rintro e w' ⟨rfl, hw⟩
  rw [awake_3, ← hw]
  clear hw
  go_wp2_with fail
  rw [show (0 : Int) = n32 0#32 from rfl]
  refine (crc_more_calls 0#32 [0#8] _ _ (by exact Rd.new _ _ _ _ _ (by simp) rfl (by simp))).mono ?_
  rintro e w' ⟨rfl, hw⟩
  rw [awake_4, ← hw]
  clear hw
  go_wp2
  go_ret
  refine ⟨rfl, ?_⟩
  repeat (first | exact Below.refl _ _ | (refine Below.alloc ?_ (by first | (simp; done) | (simp; omega)) _))

set_option maxHeartbeats 800000 in
theorem law_CrcMore (s : BitVec 32) (bs : List (BitVec 8)) (v : Value) (w : World) (h : Rd w v (B8 bs)) :
    Calls Try.prog 3 #[.int .u32 (n32 s), v] w fun e w' => e = .returned (.bool true) ∧ Below w.heap.size w w' := by
  go_enter Try.func3, Try.ntmps3
  go_wp2_with fail
  refine (awake02_calls _).mono ?_
  rintro e w1 ⟨rfl, hb1⟩
  have h1 := h.below hb1
  go_wp2_with fail
  refine (short_calls bs _ _ h1).mono ?_
  rintro e w' ⟨v1, rfl, h2, rfl⟩
  go_wp2_with fail
  refine (crc_more_calls _ _ _ _ h2).mono ?_
  rintro e w' ⟨rfl, rfl⟩
  go_wp2_with fail
  refine (short_calls bs _ _ h1).mono ?_
  rintro e w' ⟨v2, rfl, h3, rfl⟩
  go_wp2_with fail
  refine (ref_more_calls _ _ _ _ h3 (by simp; omega)).mono ?_
  rintro e w2 ⟨rfl, hb2⟩
  go_wp2
  go_ret
  exact ⟨rfl, hb1.trans (hb2.mono hb1.size)⟩

end Go.Proofs.Ytbnjheiailkimaa
