import Derived.Test.YtikganlbnhapcaaAvAny2
import Derived.TacticsIn
import Derived.OrdersIn
namespace Go.Proofs.Ytikganlbnhapcaa
open Go.RowKit
set_option linter.unusedVariables false
set_option linter.unusedSimpArgs false

/-! the same inside a round of a loop over a function -/
inductive Wd : Fence → Prop
  | wide : Wd Fence.wide
  | rnd (l : Nat) : Wd (Fence.wide.inRound l)
section
variable {F : Fence} {n : Nat} {P : Program} {ops : Array Oper} {Q : Exit → Act → World → Prop} {a : Act} {w : World} {o : Oper}
theorem Wd.fn (h : Wd F) (f : FuncId) : F.fn f := by cases h <;> trivial
theorem Wd.dep (h : Wd F) : F.depth = none := by cases h <;> rfl
theorem Wd.nn (h : Wd F) : F.depth.isSome = true → 1 ≤ n := fun hc => by rw [h.dep] at hc; cases hc
theorem callsIn_wd (hF : Wd F) {f : FuncId} {args : Array Value} {R : Ending → World → Prop} (h : Calls P f args w R) : CallsIn F n P f args w R := by
  cases hF with
  | wide => exact callsIn_wide.2 h
  | rnd l => exact CallsIn.inRound l (callsIn_wide.2 h)
theorem stepsIn_wd (hF : Wd F) {m m' : Machine} (h : Steps P m m') : StepsIn (Machine.fenced P F) P m m' := by
  cases hF with
  | wide => exact stepsIn_wide.2 h
  | rnd l => rw [fenced_inRound]; exact stepsIn_wide.2 h
theorem oper_in (hF : Wd F) (hnd : ∀ c, o.op ≠ .defer c) {next : Act → World → Prop} (h : o.wp P a w next Q) : o.wpIn F n P a w next Q := by
  refine ⟨fun f _ => hF.fn f, ?_⟩
  rw [Oper.semAt_eq _ _ _ hnd]
  unfold Oper.wp at h
  generalize (execOp a.eval o).run P w = r at *
  cases r with
  | ok x w' =>
    cases x with
    | enter f args => exact ⟨hF.nn, callsIn_wd hF h⟩
    | row r x => exact ⟨hF.nn, fun c cs _ => by obtain ⟨v, w2, q1, q2⟩ := h c cs; exact ⟨v, w2, q1, stepsIn_wd hF q2⟩⟩
    | value v => exact h
    | skip => exact h
    | defer d => exact h
    | _ => exact h.elim
  | halt x w' => cases x <;> first | exact h | exact h.elim
def noDef (ops : List Oper) : Bool := ops.all fun o => match o.op with
  | .defer _ => false
  | _ => true
theorem noDef_mem {l : List Oper} (h : noDef l = true) {o : Oper} (ho : o ∈ l) : ∀ c, o.op ≠ .defer c := by
  intro c hc
  have := List.all_eq_true.1 h o ho
  rw [hc] at this; cases this
theorem list_in (hF : Wd F) (hlo : ¬ LetsOut Q) : ∀ (l : List Oper) (a : Act) (w : World), noDef l = true → wpList P ops Q l a w → wpListIn F n P ops Q l a w
  | [], a, w, _, h => h
  | o :: l, a, w, hd, h => by
    have hd2 : noDef l = true := by simp only [noDef, List.all_cons, Bool.and_eq_true] at hd ⊢; exact hd.2
    refine wpListIn_step fun K hK => ?_
    unfold wpList at h
    split at h
    · rename_i hw
      rw [if_pos hw]
      rcases h with h | h
      · exact oper_in hF (noDef_mem hd (by simp)) (Oper.wp_mono (fun a w q => hK a w (list_in hF hlo l a w hd2 q)) h)
      · exact absurd h.2 hlo
    · rename_i hw
      rw [if_neg hw]
      exact ⟨fun f _ => hF.fn f, hK _ _ (list_in hF hlo l _ w hd2 h)⟩
theorem any_in (hF : Wd F) (hlo : ¬ LetsOut Q) (hd : noDef ops.toList = true) : ∀ (fuel : Nat) (ls : Array Bool) (a : Act) (w : World), wpAny P .any ops Q fuel ls a w → wpAnyIn F n P .any ops Q fuel ls a w
  | 0, ls, a, w, h => h
  | fuel + 1, ls, a, w, h => by
    refine ⟨h.1, fun i hi => ?_⟩
    have h2 := h.2 i hi
    unfold wpOp at h2
    unfold wpOpIn
    split at h2
    · rename_i ho; simp only [ho]; exact any_in hF hlo hd fuel _ _ _ h2
    · rename_i o ho
      simp only [ho]
      split at h2
      · rename_i hw
        rw [if_pos hw]
        rcases h2 with h2 | h2
        · refine oper_in hF (noDef_mem hd ?_) (Oper.wp_mono (fun a w q => any_in hF hlo hd fuel _ a w q) h2)
          exact Array.mem_toList_iff.2 (Array.mem_of_getElem? ho)
        · exact absurd h2.2 hlo
      · rename_i hw
        rw [if_neg hw]
        exact ⟨fun f _ => hF.fn f, any_in hF hlo hd fuel _ _ _ h2⟩
theorem wpIn_loop_ghost {c : Code} (I : Nat → Act → World → Prop) (n₀ : Nat) (h₀ : I n₀ a w)
    (round : ∀ k a w, I k a w → c.wpIn F n P (Exit.then (fun a' w' => ∃ n', n' < k ∧ I n' a' w') Q) a w) : (Code.loop c).wpIn F n P Q a w := by
  refine wpIn_loop (fun a w => ∃ n, I n a w) (fun a w => leastOf (fun n => I n a w)) ⟨n₀, h₀⟩ ?_
  intro a w hI
  refine wpIn_mono (round _ a w (leastOf_spec hI).1) ?_
  intro e a' w' hq
  cases e with
  | normal =>
    obtain ⟨n', hlt, hI'⟩ := hq
    exact show (∃ n, I n a' w') ∧ leastOf (fun n => I n a' w') < leastOf (fun n => I n a w) from ⟨⟨n', hI'⟩, Nat.lt_of_le_of_lt ((leastOf_spec ⟨n', hI'⟩).2 n' hI') hlt⟩
  | exit id => exact hq
  | goto l => exact hq
  | ret => exact hq
  | panic ch => exact hq
  | outgrown => exact hq
end
end Go.Proofs.Ytikganlbnhapcaa
