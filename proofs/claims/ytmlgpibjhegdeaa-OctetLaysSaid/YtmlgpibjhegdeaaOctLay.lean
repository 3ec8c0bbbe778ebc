import Derived.Test.YtmlgpibjhegdeaaProg
import Derived.Test.YtmlgpibjhegdeaaOctLaws
import Derived.Test.YtmlgpibjhegdeaaOctPure
import Derived.Test.YtmlgpibjhegdeaaOctTake
import Derived.Test.YtmlgpibjhegdeaaOctRef
import Derived.Below
import Derived.Deep.Draws
import Derived.OwnWalk
import Derived.Tactics
import Derived.WalkKit
import Derived.KernelRfl
import Derived.RowKit3
import Derived.Deep.LoopGhost
import Derived.Deep.RegionHeld3
import Derived.Deep.QuietTactic
import Derived.BigQuiet
import Derived.WideLaws
import Derived.Deep.DeepCutAuto
import Derived.Deep.CutBlock
import Derived.Laws.Rows
import Derived.Outline
import Derived.Lib.Hide
namespace Go.Proofs.Ytmlgpibjhegdeaa
open Go.RowKit
set_option linter.unusedVariables false
set_option linter.unusedSimpArgs false





theorem otext_nil (N : Nat) (w : World) :
    Calls Try.prog 15 #[.slice none 0 0, .string (sOf (List.replicate N 0#8))] w fun e w' => ∃ v' fv, e = .returned (.tuple #[v', .int .i64 fv]) ∧ (fv == (2 : Int)) = decide ((65535 : Int) < (N : Int)) ∧ Below w.heap.size w w' := by
  by_cases hN : N ≤ 65535
  · refine (otext_calls [] (List.replicate N 0#8) _ _ (by exact Rd.nil _) (by simp) (by simp; exact hN)).mono ?_
    rintro e w' ⟨v', rfl, _, b⟩
    exact ⟨v', 0, rfl, by rw [decide_eq_false (by omega)]; rfl, b⟩
  · refine (otext_long [] (List.replicate N 0#8) _ _ (by simp; omega)).mono ?_
    rintro e w' ⟨rfl, rfl⟩
    exact ⟨_, 2, rfl, by rw [decide_eq_true (by omega)]; rfl, Below.refl _ _⟩
set_option maxHeartbeats 16000000 in
set_option maxRecDepth 100000 in
theorem law_OctetLays (bs : List (BitVec 8)) (v : Value) (n : Int) (l : List (BitVec 8)) (many : BitVec 8) (w : World) (h : Rd w v (B8 bs)) :
    Calls Try.prog 3 #[v, .int .i64 n, .string (sOf l), .int .u8 (n8 many)] w fun e w' => e = .returned (.bool true) ∧ Below w.heap.size w w' := by
  have hz := sOf_size l
  have HV := Lib.hid h
  have hsl : Hid ((bs.take 300).length ≤ 300) := Lib.hid (by simp; omega)
  obtain ⟨N, hN⟩ : ∃ N : Nat, (65500 : Int) + n8 many = (N : Int) := ⟨65500 + many.toNat, by unfold n8; omega⟩
  have m0 := n8_lo many
  have m1 := n8_hi many
  go_enter Try.func3, Try.ntmps3
  go_wp2_with fail
  refine (short01_calls bs v _ h).mono ?_
  rintro e w' ⟨v1, rfl, r1, rfl⟩
  clear h
  by_cases hl : l.length ≤ 65535
  · have hl2 : (sOf l).size ≤ 65535 := by omega
    have hmk : ∀ w : World, (Instr.makeSlice 22 (.int .i64 (N : Int)) (.int .i64 (N : Int))).run Try.prog w = .ok (.slice (some ⟨w.heap.size, 0, none⟩) N N) (w.alloc (.cells (B8 (List.replicate N 0#8)).toArray 5)) := fun w => make8 slT8 N (by omega) w
    go_wp2_with fail
    refine (otext_calls (bs.take 300) l v1 _ r1 (by have := hsl.out; omega) hl).mono ?_
    rintro e w2 ⟨v2, rfl, r2, b2⟩
    have HX := Lib.hid r2
    have HB2 := Lib.hid b2
    clear r1 r2 b2
    have hcv := run_str (P := Try.prog) (src := 22) (e := 5) (dst := 9) (l := List.replicate N 0#8) (show Rd (w2.alloc (.cells (B8 (List.replicate N 0#8)).toArray 5)) (.slice (some ⟨w2.heap.size, 0, none⟩) N N) (B8 (List.replicate N 0#8)) by exact Rd.new _ _ (B8 (List.replicate N 0#8)).toArray N _ rfl (by simp [B8_len]) (by omega)) Try.underlying22 Try.underlying5 Try.underlying9
    have HX2 := Lib.hid (HX.out.alloc (.cells (B8 (List.replicate N 0#8)).toArray 5))
    have HB3 := Lib.hid (HB2.out.alloc HB2.out.size (.cells (B8 (List.replicate N 0#8)).toArray 5))
    have HV3 := Lib.hid (HV.out.below HB3.out)
    obtain ⟨W3, hW3⟩ : ∃ W3, W3 = w2.alloc (.cells (B8 (List.replicate N 0#8)).toArray 5) := ⟨_, rfl⟩
    go_wp2_with fail
    clear hcv hmk
    refine (otext_nil N _).mono ?_
    rintro e w4 ⟨v4, fv, rfl, hf, b4⟩
    have HF := Lib.hid hf
    have HX4 := Lib.hid (HX2.out.below b4)
    have HB4 := Lib.hid (HB3.out.trans (b4.mono HB3.out.size))
    have HV4 := Lib.hid (HV3.out.below b4)
    clear b4 hf hN m0 m1 hz hl2 HX HX2 HB2 HB3 HV HV3 hW3
    have HVD := Lib.hid (show Rd w4.drew v (B8 bs) from HV4.out.below ((Below.refl _ _).drew))
    have HXD := Lib.hid (show Rd w4.drew v2 (B8 (bs.take 300 ++ encT l)) from HX4.out.below ((Below.refl _ _).drew))
    have HBD := Lib.hid HB4.out.drew
    have cx0 := run_str (P := Try.prog) (src := 22) (e := 5) (dst := 9) HXD.out Try.underlying22 Try.underlying5 Try.underlying9
    clear HX4 HB4 HV4
    go_upto_region 6 with fail
    go_region_held3 (fun w' => Rd w' v (B8 bs) ∧ Sem.run Try.prog (convert 22 9 v2) w' = .ok (.string (sOf (bs.take 300 ++ encT l))) w' ∧ Below w.heap.size w w')
      (first | exact ⟨RvK.out, cxK, BK.out⟩ | exact ⟨RvJ.out, cxJ, BJ.out⟩ | exact ⟨RvI.out, cxI, BI.out⟩ | exact ⟨RvA.out, cxA, BA.out⟩ | exact ⟨HVD.out, cx0, HBD.out⟩)
      (first
      | (go_at_call 17; refine (awake01_calls _).mono ?_; rintro e wA ⟨rfl, bA⟩; have RvA := Lib.hid (HVD.out.below bA); have RxA := Lib.hid (HXD.out.below bA); have BA := Lib.hid (HBD.out.trans (bA.mono HBD.out.size)); clear bA; have cxA := run_str (P := Try.prog) (src := 22) (e := 5) (dst := 9) RxA.out Try.underlying22 Try.underlying5 Try.underlying9)
      | (go_at_call 16; refine (short01_calls bs v _ ?_).mono ?_; (first | exact RvJ.out | exact RvI.out | exact RvA.out); rintro e w' ⟨vs, rfl, rs, rfl⟩; replace rs := Lib.hid rs)
      | (go_at_call 18; refine (oint_calls (bs.take 300) n _ _ rs.out ?_).mono ?_; have := hsl.out; omega; rintro e wI ⟨vI, rfl, oI, bI⟩; have RvI := Lib.hid (RvA.out.below bI); have RxI := Lib.hid (RxA.out.below bI); have RiI := Lib.hid oI.rd; have BI := Lib.hid (BA.out.trans (bI.mono BA.out.size)); clear bI oI rs; have cxI := run_str (P := Try.prog) (src := 22) (e := 5) (dst := 9) RxI.out Try.underlying22 Try.underlying5 Try.underlying9; have ciI := run_str (P := Try.prog) (src := 22) (e := 5) (dst := 9) RiI.out Try.underlying22 Try.underlying5 Try.underlying9)
      | (go_at_call 19; refine (refint_calls (bs.take 300) n _ _ rs.out ?_).mono ?_; have := hsl.out; omega; rintro e wJ ⟨vJ, rfl, rJ, bJ⟩; have RvJ := Lib.hid (RvI.out.below bJ); have RxJ := Lib.hid (RxI.out.below bJ); have RiJ := Lib.hid (RiI.out.below bJ); have BJ := Lib.hid (BI.out.trans (bJ.mono BI.out.size)); have RjJ := Lib.hid rJ; clear bJ rJ rs; have cxJ := run_str (P := Try.prog) (src := 22) (e := 5) (dst := 9) RxJ.out Try.underlying22 Try.underlying5 Try.underlying9; have ciJ := run_str (P := Try.prog) (src := 22) (e := 5) (dst := 9) RiJ.out Try.underlying22 Try.underlying5 Try.underlying9; have cjJ := run_str (P := Try.prog) (src := 22) (e := 5) (dst := 9) RjJ.out Try.underlying22 Try.underlying5 Try.underlying9)
      | (go_at_call 20; refine (reftext_calls (bs.take 300) l _ _ rs.out ?_ hl).mono ?_; have := hsl.out; omega; rintro e wK ⟨vK, rfl, rK, bK⟩; have RvK := Lib.hid (RvJ.out.below bK); have RxK := Lib.hid (RxJ.out.below bK); have RiK := Lib.hid (RiJ.out.below bK); have RjK := Lib.hid (RjJ.out.below bK); have BK := Lib.hid (BJ.out.trans (bK.mono BJ.out.size)); have RkK := Lib.hid rK; clear bK rK rs; have cxK := run_str (P := Try.prog) (src := 22) (e := 5) (dst := 9) RxK.out Try.underlying22 Try.underlying5 Try.underlying9; have ciK := run_str (P := Try.prog) (src := 22) (e := 5) (dst := 9) RiK.out Try.underlying22 Try.underlying5 Try.underlying9; have cjK := run_str (P := Try.prog) (src := 22) (e := 5) (dst := 9) RjK.out Try.underlying22 Try.underlying5 Try.underlying9; have ckK := run_str (P := Try.prog) (src := 22) (e := 5) (dst := 9) RkK.out Try.underlying22 Try.underlying5 Try.underlying9))
    all_goals
      go_wp2_with fail
      go_ret
      refine ⟨?_, BK.out⟩
      show Ending.returned (.bool ((fv == (2 : Int)) == decide ((65535 : Int) < (N : Int)))) = _
      rw [HF.out]
      simp
  · have hl2 : ¬ ((sOf l).size ≤ 65535) := by omega
    clear hN m0 m1
    go_wp2_with fail
    refine (otext_long (bs.take 300) l v1 _ (by omega)).mono ?_
    rintro e w' ⟨rfl, rfl⟩
    go_wp2_with fail
    refine (awake01_calls _).mono ?_
    rintro e w3 ⟨rfl, b3⟩
    go_wp2
    go_ret
    exact ⟨rfl, b3⟩

end Go.Proofs.Ytmlgpibjhegdeaa
