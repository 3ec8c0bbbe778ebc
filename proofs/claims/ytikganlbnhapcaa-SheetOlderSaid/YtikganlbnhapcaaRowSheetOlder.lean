/-
  For every epoch, seq, other epoch, later seq, records b and was, bit row which and cut: where one or more sectors of a record have marks of another record, sheet.Lift refuses it or names another mark (statement SheetOlder of garderobelaw15 is true for every input).
-/
import Derived.Test.YtikganlbnhapcaaRows
import Derived.WalkKit
import Derived.Test.YtikganlbnhapcaaSheet10
import Derived.Test.YtikganlbnhapcaaAvRead
import Derived.ProofKit
import Derived.OpenShut
import Derived.ShutString
import Derived.ChangeOld
import Derived.Below
namespace Go.Proofs.Ytikganlbnhapcaa.sheetOlder
open Go.ChangeShapes Go.WideShapes Go.ChangeAt Go.RowKit
set_option linter.unusedVariables false

theorem own : ownKnob Try.prog.godebug = none := by kernel_rfl
theorem laidOut : laidOutB Try.prog = true := by kernel_rfl

set_option maxRecDepth 100000 in
theorem lifted (os : Os) (started : os.Started) (H : Type) (enc : TypeId × Value → H) :
    ReturnsInHanded {} Try.checked os 13 .any (Rows.sheetOlderSpec.pre6 enc Try.prog Try.f13 Rows.sheetOlderRow.domain false) (Rows.sheetOlderSpec.post enc Try.prog Try.f13 false true false false) := by
  refine returnsInHanded_of_change (C := Try.checked) own started (by kernel_rfl) Try.func13
    (ChangeSpec.witness6 (enc := enc) (C := Try.checked) false ⟨#[], #[.int .u32 0, .int .u32 0, .int .u32 0, .int .u32 0, .slice none 0 0, .slice none 0 0, .int .u64 0, .int .u8 0], []⟩ 8 (by kernel_rfl) (by kernel_rfl) (by kernel_rfl) (by kernel_rfl)) ?_
  intro W base args ds gs before hval0 hW hcnd _
  have hval : ∀ (j : Nat) t v, Try.f13.params[j]? = some t → args[j]? = some v → Value.okWide Try.prog W .any base t v := hval0
  have hW' := hW
  obtain ⟨p, q, hA0, hV, rfl, hfz, hnd⟩ := hW
  have hA : DataW.TrodAll enc Try.prog W 0 (fun _ => true) true Try.f13.params.toList args.toList ds p := hA0
  rw [Try.params13] at hA hval
  obtain ⟨v0, vs0, d0, ds0, p0, q0, hargs, rfl, rfl, h0, r0⟩ := trodAll_cons hA
  obtain ⟨v1, vs1, d1, ds1, p1, q1, rfl, rfl, rfl, h1, r1⟩ := trodAll_cons r0
  obtain ⟨v2, vs2, d2, ds2, p2, q2, rfl, rfl, rfl, h2, r2⟩ := trodAll_cons r1
  obtain ⟨v3, vs3, d3, ds3, p3, q3, rfl, rfl, rfl, h3, r3⟩ := trodAll_cons r2
  obtain ⟨v4, vs4, d4, ds4, p4, q4, rfl, rfl, rfl, h4, r4⟩ := trodAll_cons r3
  obtain ⟨v5, vs5, d5, ds5, p5, q5, rfl, rfl, rfl, h5, r5⟩ := trodAll_cons r4
  obtain ⟨v6, vs6, d6, ds6, p6, q6, rfl, rfl, rfl, h6, r6⟩ := trodAll_cons r5
  obtain ⟨v7, vs7, d7, ds7, p7, q7, rfl, rfl, rfl, h7, r7⟩ := trodAll_cons r6
  obtain ⟨rfl, rfl, rfl⟩ := trodAll_nil r7
  obtain rfl : args = #[v0, v1, v2, v3, v4, v5, v6, v7] := by cases args; simp_all
  obtain ⟨rfl, rfl⟩ := trodVars_none hV
  obtain ⟨y0, rfl⟩ := okWide_int Try.underlying64 (hval 0 64 v0 rfl rfl)
  have k0 := h0
  have lt0 : ∀ x ∈ p0, x.block < W.heap.size := by obtain ⟨m, hm⟩ := k0; exact DataW.trod_lt m _ _ _ hm
  obtain ⟨x0, g0⟩ := Rdr.val (rdr_int Try.underlying64) rfl k0
  obtain ⟨y1, rfl⟩ := okWide_int Try.underlying64 (hval 1 64 v1 rfl rfl)
  have k1 := h1
  have lt1 : ∀ x ∈ p1, x.block < W.heap.size := by obtain ⟨m, hm⟩ := k1; exact DataW.trod_lt m _ _ _ hm
  obtain ⟨x1, g1⟩ := Rdr.val (rdr_int Try.underlying64) rfl k1
  obtain ⟨y2, rfl⟩ := okWide_int Try.underlying64 (hval 2 64 v2 rfl rfl)
  have k2 := h2
  have lt2 : ∀ x ∈ p2, x.block < W.heap.size := by obtain ⟨m, hm⟩ := k2; exact DataW.trod_lt m _ _ _ hm
  obtain ⟨x2, g2⟩ := Rdr.val (rdr_int Try.underlying64) rfl k2
  obtain ⟨y3, rfl⟩ := okWide_int Try.underlying64 (hval 3 64 v3 rfl rfl)
  have k3 := h3
  have lt3 : ∀ x ∈ p3, x.block < W.heap.size := by obtain ⟨m, hm⟩ := k3; exact DataW.trod_lt m _ _ _ hm
  obtain ⟨x3, g3⟩ := Rdr.val (rdr_int Try.underlying64) rfl k3
  obtain ⟨a4, len4, cap4, rfl⟩ := okWide_slice Try.underlying22 (hval 4 22 v4 rfl rfl)
  have k4 := h4
  have lt4 : ∀ x ∈ p4, x.block < W.heap.size := by obtain ⟨m, hm⟩ := k4; exact DataW.trod_lt m _ _ _ hm
  obtain ⟨x4, g4⟩ := Rdr.val (rdr_bytes Try.underlying22 (by decide +kernel) Try.underlying5) rfl k4
  obtain ⟨a5, len5, cap5, rfl⟩ := okWide_slice Try.underlying22 (hval 5 22 v5 rfl rfl)
  have k5 := h5
  have lt5 : ∀ x ∈ p5, x.block < W.heap.size := by obtain ⟨m, hm⟩ := k5; exact DataW.trod_lt m _ _ _ hm
  obtain ⟨x5, g5⟩ := Rdr.val (rdr_bytes Try.underlying22 (by decide +kernel) Try.underlying5) rfl k5
  obtain ⟨y6, rfl⟩ := okWide_int Try.underlying66 (hval 6 66 v6 rfl rfl)
  have k6 := h6
  have lt6 : ∀ x ∈ p6, x.block < W.heap.size := by obtain ⟨m, hm⟩ := k6; exact DataW.trod_lt m _ _ _ hm
  obtain ⟨x6, g6⟩ := Rdr.val (rdr_int Try.underlying66) rfl k6
  obtain ⟨y7, rfl⟩ := okWide_int Try.underlying5 (hval 7 5 v7 rfl rfl)
  have k7 := h7
  have lt7 : ∀ x ∈ p7, x.block < W.heap.size := by obtain ⟨m, hm⟩ := k7; exact DataW.trod_lt m _ _ _ hm
  obtain ⟨x7, g7⟩ := Rdr.val (rdr_u8 Try.underlying5) rfl k7
  clear hA0 hval0
  have hcalls : Calls Try.prog 13 #[.int .u32 y0, .int .u32 y1, .int .u32 y2, .int .u32 y3, .slice a4 len4 cap4, .slice a5 len5 cap5, .int .u64 y6, .int .u8 y7] W fun e W' => e = .returned (.bool true) ∧ Below W.heap.size W W' := by
    obtain ⟨e, he⟩ : ∃ c : Nat, x0.1 = (c : Int) := ⟨x0.1.toNat, by have := wf_u32 x0.2; omega⟩
    have b0 := wf_u32 x0.2
    rw [he] at g0 b0
    obtain ⟨q, hq⟩ : ∃ c : Nat, x1.1 = (c : Int) := ⟨x1.1.toNat, by have := wf_u32 x1.2; omega⟩
    have b1 := wf_u32 x1.2
    rw [hq] at g1 b1
    obtain ⟨e2, he2⟩ : ∃ c : Nat, x2.1 = (c : Int) := ⟨x2.1.toNat, by have := wf_u32 x2.2; omega⟩
    have b2 := wf_u32 x2.2
    rw [he2] at g2 b2
    obtain ⟨q2, hq2⟩ : ∃ c : Nat, x3.1 = (c : Int) := ⟨x3.1.toNat, by have := wf_u32 x3.2; omega⟩
    have b3 := wf_u32 x3.2
    rw [hq2] at g3 b3
    obtain ⟨wh, hwh⟩ : ∃ c : Nat, x6.1 = (c : Int) := ⟨x6.1.toNat, by have := wf_u64 x6.2; omega⟩
    have b6 := wf_u64 x6.2
    rw [hwh] at g6 b6
    exact law_of (law_SheetOlder e q e2 q2 x4 x5 wh x7 (by omega) (by omega) (by omega) (by omega) (by omega)) (argsR8 g0 g1 g2 g3 g4 g5 g6 g7)
  refine hcalls.mono fun e W' ⟨he, bel⟩ => ?_
  subst he
  exact ⟨_, rfl, _, _, _, [], _, [], hW', trodAll_mk1 (shut_bool Try.underlying4 _), (trodAll_cons_mk (Below.trod laidOut (by kernel_rfl) (of_decide_eq_true (by kernel_rfl)) k0 bel lt0) (trodAll_cons_mk (Below.trod laidOut (by kernel_rfl) (of_decide_eq_true (by kernel_rfl)) k1 bel lt1) (trodAll_cons_mk (Below.trod laidOut (by kernel_rfl) (of_decide_eq_true (by kernel_rfl)) k2 bel lt2) (trodAll_cons_mk (Below.trod laidOut (by kernel_rfl) (of_decide_eq_true (by kernel_rfl)) k3 bel lt3) (trodAll_cons_mk (Below.trod laidOut (by kernel_rfl) (of_decide_eq_true (by kernel_rfl)) k4 bel lt4) (trodAll_cons_mk (Below.trod laidOut (by kernel_rfl) (of_decide_eq_true (by kernel_rfl)) k5 bel lt5) (trodAll_cons_mk (Below.trod laidOut (by kernel_rfl) (of_decide_eq_true (by kernel_rfl)) k6 bel lt6) (trodAll_cons_mk (Below.trod laidOut (by kernel_rfl) (of_decide_eq_true (by kernel_rfl)) k7 bel lt7) trodAll_mk0)))))))), rfl, bel.frame _, fun h => by cases h⟩

theorem over : Rows.sheetOlderRow.holds Try.pinned (OpenSpec.ofChange Rows.sheetOlderSpec) :=
  OpenClaim.holds_of_wide 13 Try.f13 rfl rfl rfl rfl rfl rfl rfl ⟨rfl, rfl, rfl, rfl, rfl⟩ rfl rfl rfl rfl rfl (by kernel_rfl) Try.func13 (by kernel_rfl)
    (of_decide_eq_true (by kernel_rfl)) (by unfold Func.isWrapper; first | (rw [if_pos (by decide +kernel)]; kernel_rfl) | (rw [if_neg (by decide +kernel)]; exact ⟨rfl, rfl⟩))
    (fun os started H enc _ => lifted os started H enc)

theorem proved : Rows.SheetOlderSaid := over
end Go.Proofs.Ytikganlbnhapcaa.sheetOlder
