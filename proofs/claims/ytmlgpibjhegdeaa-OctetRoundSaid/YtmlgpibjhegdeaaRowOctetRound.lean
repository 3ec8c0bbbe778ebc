/-
  The law OctetRound: encoded numbers and strings are read back in order, and nothing remains.
-/
import Derived.Test.YtmlgpibjhegdeaaRows
import Derived.WalkKit
import Derived.Test.YtmlgpibjhegdeaaOctRnd
import Derived.Test.YtmlgpibjhegdeaaAddr
import Derived.ProofKit
import Derived.OpenShut
import Derived.ShutString
import Derived.ChangeOld
import Derived.Below
namespace Go.Proofs.Ytmlgpibjhegdeaa.octetRound
open Go.ChangeShapes Go.WideShapes Go.ChangeAt Go.RowKit
open Go.ChangeMaps (open_string shut_string)
set_option linter.unusedVariables false

theorem own : ownKnob Try.prog.godebug = none := by kernel_rfl
theorem laidOut : laidOutB Try.prog = true := by kernel_rfl

/-- WHAT THE WALK IS TOLD OF A SLICE OF INTEGERS THAT CAME IN: it is nil; or it leads to a row of 'cap' cells, the numbers 'zs' (the first 'len' are its elements, the rest its spare room), each fitting its kind. -/
def IsRow (k : IntKind) (w : World) (a : Option Addr) (len cap : Nat) (zs : List Int) : Prop :=
  (a = none ∧ len = 0 ∧ cap = 0 ∧ zs = []) ∨
  ∃ x, a = some x ∧ len ≤ cap ∧ cap ≤ maxLen ∧ zs.length = cap ∧ (∀ i, i < zs.length → w.cell? (x.add i) = some (.int k (zs.getD i 0))) ∧ ∀ n ∈ zs, (Lit.int k n).wf = true

/-! ### STEP 1: THE WALK: the Go text returns true, AND WRITES NOTHING THAT WAS THERE: 'Below w.heap.size w w'' (Derived/Below.lean: '.refl', '.alloc', '.drew', '.setCell' at a new block, '.trans'). Open each 'IsRow' by 'rcases' AHEAD of 'go_enter'; part every test ahead of the walk. -/
theorem walk (a0 : Option Addr) (len0 cap0 : Nat) (Ni : Nat → Int) (a1 : Option Addr) (len1 cap1 : Nat) (Ts : Nat → List (BitVec 8)) (w : World) (h0 : len0 ≤ cap0) (h0' : cap0 ≤ 9223372036854775807) (h1 : len1 ≤ cap1) (h1' : cap1 ≤ 9223372036854775807)
    (hN : NumRow w a0 len0 Ni) (hR : ∀ i, i < len0 → -9223372036854775808 ≤ Ni i ∧ Ni i ≤ 9223372036854775807) (hT : StrRow w a1 len1 Ts) :
    Calls Try.prog 5 #[.slice a0 len0 cap0, .slice a1 len1 cap1] w fun e w' => e = .returned (.bool true) ∧ Below w.heap.size w w' := by
  exact law_OctetRound a0 len0 cap0 Ni a1 len1 cap1 Ts w h0 h0' h1 h1' hN hR hT

/-! ### THE ROW's STEP: WRITTEN OUT: LEAVE IT -/
set_option maxRecDepth 100000 in
theorem lifted (os : Os) (started : os.Started) (H : Type) (enc : TypeId × Value → H) :
    ReturnsInHanded {} Try.checked os 5 .any (Rows.octetRoundSpec.pre6 enc Try.prog Try.f5 Rows.octetRoundRow.domain false) (Rows.octetRoundSpec.post enc Try.prog Try.f5 false true false false) := by
  refine returnsInHanded_of_change (C := Try.checked) own started (by kernel_rfl) Try.func5
    (ChangeSpec.witness6 (enc := enc) (C := Try.checked) false ⟨#[], #[.slice none 0 0, .slice none 0 0], []⟩ 8 (by kernel_rfl) (by kernel_rfl) (by kernel_rfl) (by kernel_rfl)) ?_
  intro W base args ds gs before hval0 hW hcnd _
  have hval : ∀ (j : Nat) t v, Try.f5.params[j]? = some t → args[j]? = some v → Value.okWide Try.prog W .any base t v := hval0
  have hW' := hW
  obtain ⟨p, q, hA0, hV, rfl, hfz, hnd⟩ := hW
  have hA : DataW.TrodAll enc Try.prog W 0 (fun _ => true) true Try.f5.params.toList args.toList ds p := hA0
  rw [Try.params5] at hA hval
  obtain ⟨v0, vs0, d0, ds0, p0, q0, hargs, rfl, rfl, h0, r0⟩ := trodAll_cons hA
  obtain ⟨v1, vs1, d1, ds1, p1, q1, rfl, rfl, rfl, h1, r1⟩ := trodAll_cons r0
  obtain ⟨rfl, rfl, rfl⟩ := trodAll_nil r1
  obtain rfl : args = #[v0, v1] := by cases args; simp_all
  obtain ⟨rfl, rfl⟩ := trodVars_none hV
  obtain ⟨a0, len0, cap0, rfl⟩ := okWide_slice Try.underlying43 (hval 0 43 v0 rfl rfl)
  have k0 := h0
  have lt0 : ∀ x ∈ p0, x.block < W.heap.size := by obtain ⟨m, hm⟩ := k0; exact DataW.trod_lt m _ _ _ hm
  obtain ⟨Ni, hl0, hc0, w0, hR⟩ : ∃ Ni, len0 ≤ cap0 ∧ cap0 ≤ 9223372036854775807 ∧ NumRow W a0 len0 Ni ∧ ∀ i, i < len0 → -9223372036854775808 ≤ Ni i ∧ Ni i ≤ 9223372036854775807 := by
    obtain ⟨fuel, hf⟩ := h0
    rcases open_ints Try.underlying43 Try.underlying3 (by kernel_rfl) hf with ⟨hcs, _⟩ | ⟨x, l, c, zs, hcs, _, hl, hm, hz, _, hcell, hwz⟩
    · simp [Value.cells] at hcs
      obtain ⟨rfl, rfl, rfl⟩ := hcs
      exact ⟨fun _ => 0, Nat.le_refl _, by omega, .inl rfl, fun i hi => by omega⟩
    · simp [Value.cells] at hcs
      obtain ⟨rfl, rfl, rfl⟩ := hcs
      have hz' : zs.length = cap0 := by simpa using hz
      refine ⟨fun i => zs.getD i 0, hl, by unfold maxLen at hm; omega, ?_, fun i hi => ?_⟩
      · by_cases h0 : len0 = 0
        · exact .inl h0
        · have hx := addr_plain (x := x) (hcell 0 (by omega))
          refine .inr ⟨x.block, x.off, by rw [← hx], fun i hlt => ?_⟩
          have c0 := hcell i (by omega)
          rw [add_of hx] at c0
          exact c0
      · have hi2 : i < zs.length := by omega
        exact i64_of_wf (hwz (zs.getD i 0) (by simp [List.getD, hi2]))
  obtain ⟨a1, len1, cap1, rfl⟩ := okWide_slice Try.underlying44 (hval 1 44 v1 rfl rfl)
  have k1 := h1
  have lt1 : ∀ x ∈ p1, x.block < W.heap.size := by obtain ⟨m, hm⟩ := k1; exact DataW.trod_lt m _ _ _ hm
  obtain ⟨Ts, hl1, hc1, w1⟩ : ∃ Ts, len1 ≤ cap1 ∧ cap1 ≤ 9223372036854775807 ∧ StrRow W a1 len1 Ts := by
    obtain ⟨fuel, hf⟩ := h1
    rcases Go.Deep.open_strs Try.underlying44 Try.underlying9 (by kernel_rfl) hf with ⟨hcs, _⟩ | ⟨x, l, c, m, Sx, hcs, _, hl, hm, hmm, _, hi⟩
    · simp [Value.cells] at hcs
      obtain ⟨rfl, rfl, rfl⟩ := hcs
      exact ⟨fun _ => [], Nat.le_refl _, by omega, .inl rfl⟩
    · simp [Value.cells] at hcs
      obtain ⟨rfl, rfl, rfl⟩ := hcs
      have hlm : len1 ≤ m := by rw [hmm]; split <;> omega
      have each : ∀ i, i < len1 → ∃ q : List (BitVec 8), Sx i = sOf q := fun i _ => sOf_surj (Sx i)
      obtain ⟨q, hq⟩ := Go.Deep.choose_lt each
      refine ⟨q, hl, by unfold maxLen at hm; omega, ?_⟩
      by_cases h0 : len1 = 0
      · exact .inl h0
      · have hx := addr_plain (x := x) (hi 0 (by omega)).1
        refine .inr ⟨x.block, x.off, by rw [← hx], fun i hlt => ?_⟩
        have c0 := (hi i (by omega)).1
        rw [add_of hx, hq i hlt] at c0
        exact c0
  clear hA0 hval0
  refine (walk a0 len0 cap0 Ni a1 len1 cap1 Ts W hl0 hc0 hl1 hc1 w0 hR w1).mono fun e W' ⟨he, bel⟩ => ?_
  subst he
  exact ⟨_, rfl, _, _, _, [], _, [], hW', trodAll_mk1 (shut_bool Try.underlying4 _), (trodAll_cons_mk (Below.trod laidOut (by kernel_rfl) (of_decide_eq_true (by kernel_rfl)) k0 bel lt0) (trodAll_cons_mk (Below.trod laidOut (by kernel_rfl) (of_decide_eq_true (by kernel_rfl)) k1 bel lt1) trodAll_mk0)), rfl, bel.frame _, fun h => by cases h⟩

theorem over : Rows.octetRoundRow.holds Try.pinned (OpenSpec.ofChange Rows.octetRoundSpec) :=
  OpenClaim.holds_of_wide 5 Try.f5 rfl rfl rfl rfl rfl rfl rfl ⟨rfl, rfl, rfl, rfl, rfl⟩ rfl rfl rfl rfl rfl (by kernel_rfl) Try.func5 (by kernel_rfl)
    (of_decide_eq_true (by kernel_rfl)) (by unfold Func.isWrapper; first | (rw [if_pos (by decide +kernel)]; kernel_rfl) | (rw [if_neg (by decide +kernel)]; exact ⟨rfl, rfl⟩))
    (fun os started H enc _ => lifted os started H enc)

/-- ████ THE STATEMENT ████ -/
theorem proved : Rows.OctetRoundSaid := over
end Go.Proofs.Ytmlgpibjhegdeaa.octetRound
