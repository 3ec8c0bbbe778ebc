import Derived.Test.YtmlgpibjhegdeaaProg
import Derived.Test.YtmlgpibjhegdeaaReader
import Derived.Below
import Derived.Deep.Draws
import Derived.OwnWalk
import Derived.Tactics
import Derived.WalkKit
import Derived.KernelRfl
import Derived.RowKit3
import Derived.Deep.LoopGhost
import Derived.Deep.QuietTactic
import Derived.BigQuiet
import Derived.WideLaws
import Derived.Deep.DeepCutAuto
import Derived.Deep.CutBlock
import Derived.Laws.Rows
import Derived.Outline
import Derived.Lib.Hide
namespace Go.Proofs.Ytmlgpibjhegdeaa
open Go.RowKit
set_option linter.unusedVariables false
set_option linter.unusedSimpArgs false


theorem otext_calls_v (bs l : List (BitVec 8)) (s : ByteArray) (hs : s = sOf l) (v : Value) (w : World) (h : Rd w v (B8 bs)) (hb : bs.length ≤ 1000000000) (hl : l.length ≤ 65535) :
    Calls Try.prog 15 #[v, .string s] w fun e w' => ∃ v', e = .returned (.tuple #[v', .int .i64 0]) ∧ Rd w' v' (B8 (bs ++ encT l)) ∧ Below w.heap.size w w' := by
  subst hs; exact otext_calls bs l v w h hb hl
def aw : List (BitVec 8) := [9#8, 0#8, 0#8, 0#8, 0#8, 0#8, 0#8, 1#8, 2#8, 0#8, 2#8, 97#8, 98#8]
theorem aw_is : [9#8] ++ encI 258 ++ encT [97#8, 98#8] = aw := by decide +kernel
theorem awI : rI (some aw.tail) = 258 := by decide +kernel
theorem awL : rLeft (nxSt 8 (some aw.tail)) = 4 := by decide +kernel
theorem awT : rT 2 (nxSt 8 (some aw.tail)) = [97#8, 98#8] := by decide +kernel
theorem awE : rEnd (rTs 2 (nxSt 8 (some aw.tail))) = true := by decide +kernel
theorem awI2 : rI (rTs 2 (nxSt 8 (some aw.tail))) = 0 := by decide +kernel
theorem awE2 : rEnd (nxSt 8 (rTs 2 (nxSt 8 (some aw.tail)))) = false := by decide +kernel
theorem RdS.below {w w' : World} {g : Nat} {st : Option (List (BitVec 8))} (h : RdS w g st) (hb : Below w.heap.size w w') : RdS w' g st := by
  obtain ⟨l, lost, hg, r⟩ := h
  exact ⟨l, lost, (hb.block _ (Array.getElem?_eq_some_iff.1 hg).1).trans hg, r⟩
theorem RdS.lt {w : World} {g : Nat} {st : Option (List (BitVec 8))} (h : RdS w g st) : g < w.heap.size := by
  obtain ⟨l, lost, hg, r⟩ := h
  exact (Array.getElem?_eq_some_iff.1 hg).1
theorem Rd.only {w w' : World} {g : Nat} {v : Value} {xs : List Value} (h : Rd w v xs) (ho : Only g w w') (hne : ∀ a n c, v = .slice (some a) n c → a.block ≠ g) : Rd w' v xs := by
  obtain ⟨a, cap, rfl, h1, h2, h3⟩ := h
  refine ⟨a, cap, rfl, h1, h2, ?_⟩
  rcases h3 with h3 | ⟨b, off, rfl, h3⟩
  · exact .inl h3
  · refine .inr ⟨b, off, rfl, fun i hi => ?_⟩
    rw [← h3 i hi]
    have := ho.same b (hne _ _ _ rfl)
    simp only [World.cell?, this]

set_option maxHeartbeats 1600000 in
theorem awake01_calls (w : World) :
    Calls Try.prog 17 #[] w fun e w' => e = .returned (.bool true) ∧ Below w.heap.size w w' := by
  go_enter Try.func17, Try.ntmps17
  go_wp2_with fail
  refine (oint_calls [9#8] 258 _ _ (by exact Rd.new _ _ _ _ _ rfl rfl (by simp)) (by simp)).mono ?_
  rintro e w1 ⟨v1, rfl, o1, b1⟩
  have b1' := ((Below.refl w.heap.size w).alloc (Nat.le_refl _) _).trans (b1.mono (by simp))
  clear b1
  go_wp2_with fail
  refine (otext_calls_v ([9#8] ++ encI 258) [97#8, 98#8] _ rfl _ _ o1.rd (by simp [encI_len]) (by simp)).mono ?_
  rintro e w2 ⟨v2, rfl, r2, b2⟩
  rw [aw_is] at r2
  have b2' := b1'.trans (b2.mono b1'.size)
  obtain ⟨b, off, c, rfl, hc1, hc2, hcell⟩ := r2.cell 0 (by decide)
  have hd := r2.drop 1 (by decide)
  have ht : (B8 aw).drop 1 = B8 aw.tail := rfl
  rw [ht] at hd
  rw [show (B8 aw).length = 13 from rfl] at *
  have HR := Lib.hid r2
  have HD := Lib.hid hd
  have HO := Lib.hid b2'
  clear r2 hd hcell o1 b1' b2 b2' ht
  go_wp2_with fail
  refine (onew_calls aw.tail _ _ HD.out (by decide)).mono ?_
  rintro e w3 ⟨g, rfl, s3, hg, b3⟩
  have HB := Lib.hid (HO.out.trans (b3.mono HO.out.size))
  have HR3 := Lib.hid (HR.out.below b3)
  have hlt : b < w2.heap.size := HR.out.lt (by decide)
  have hws := HO.out.size
  clear b3 HO HR HD
  go_wp2_with fail
  refine (rint_calls g _ _ s3).mono ?_
  rintro e w4 ⟨rfl, s4, o4⟩
  rw [awI]
  go_wp2_with fail
  refine (rleft_calls g _ _ s4).mono ?_
  rintro e w' ⟨rfl, hw⟩
  rw [awL, ← hw]; clear hw
  go_wp2_with fail
  refine (rtext_calls g _ 2 _ s4).mono ?_
  rintro e w5 ⟨rfl, s5, o5⟩
  rw [awT]
  go_wp2_with fail
  refine (rend_calls g _ _ s5).mono ?_
  rintro e w' ⟨rfl, hw⟩
  rw [awE, ← hw]; clear hw
  have O5 := Lib.hid (o4.trans o5)
  have HB5 := Lib.hid (O5.out.below _ _ HB.out (by omega))
  have HR5 := Lib.hid (HR3.out.only O5.out (fun a n c' h => by injection h with h; injection h with h; subst h; show b ≠ g; omega))
  have S5 := Lib.hid s5
  clear o4 o5 s4 s3 s5 O5 HR3 HB
  have hab : (sOf [97#8, 98#8]).toList = [97, 98] := by rw [sOf_toList]; rfl
  go_wp2_with (first
    | (refine wpList_conv_str (o := ⟨some 29, _, _, _, _, _⟩) rfl 22 9 _ rfl 5 Try.underlying22 Try.underlying5 Try.underlying9 _ aw rfl HR5.out ?_)
    | (refine wpList_conv_str (o := ⟨some 31, _, _, _, _, _⟩) rfl 22 9 _ rfl 5 Try.underlying22 Try.underlying5 Try.underlying9 _ aw rfl (by exact Rd.new _ _ (B8 aw).toArray _ _ rfl rfl (by decide)) ?_)
    | fail)
  have S6 := S5.out.below ((Below.refl _ _).alloc (Nat.le_refl _) (.cells #[.int .u8 9, .int .u8 0, .int .u8 0, .int .u8 0, .int .u8 0, .int .u8 0, .int .u8 0, .int .u8 1, .int .u8 2, .int .u8 0, .int .u8 2, .int .u8 97, .int .u8 98] 5))
  refine (rint_calls g _ _ S6).mono ?_
  rintro e w7 ⟨rfl, s7, o7⟩
  rw [awI2]
  go_wp2_with fail
  refine (rend_calls g _ _ s7).mono ?_
  rintro e w' ⟨rfl, hw⟩
  rw [awE2, ← hw]; clear hw
  go_wp2
  go_ret
  exact ⟨rfl, o7.below _ _ (HB5.out.alloc HB5.out.size _) (by omega)⟩

set_option maxHeartbeats 1600000 in
theorem law_OctetNobody (most : Int) (w : World) :
    Calls Try.prog 7 #[.int .i64 most] w fun e w' => e = .returned (.bool true) ∧ Below w.heap.size w w' := by
  have hn : (sOf []).toList = [] := (sOf_toList_nil []).2 rfl
  go_enter Try.func7, Try.ntmps7
  go_wp2_with fail
  refine (awake01_calls _).mono ?_
  rintro e w1 ⟨rfl, b1⟩
  go_wp2_with fail
  refine (rint_nil _).mono ?_
  rintro e w' ⟨rfl, rfl⟩
  go_wp2_with fail
  refine (rtext_nil _ _).mono ?_
  rintro e w' ⟨rfl, rfl⟩
  go_wp2_with fail
  refine (rleft_nil _).mono ?_
  rintro e w' ⟨rfl, rfl⟩
  go_wp2_with fail
  refine (rend_nil _).mono ?_
  rintro e w' ⟨rfl, rfl⟩
  go_wp2
  go_ret
  exact ⟨rfl, b1⟩

end Go.Proofs.Ytmlgpibjhegdeaa
