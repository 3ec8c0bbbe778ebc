import Derived.Test.YtikganlbnhapcaaAvCode
namespace Go.Proofs.Ytikganlbnhapcaa
open Go.RowKit
set_option linter.unusedVariables false
set_option linter.unusedSimpArgs false

section
variable {P : Program} {w0 : Base} {w w' : World} {K0 : Anc} {G : Gh} {us : Nat → Prop} {s : St} {a : Act}
theorem St.res_nx {dst : Option Nat} {γ : Nat} {r : RV} {s' : St} (h : s.res dst γ r = some s') : s'.nx = s.nx := by
  unfold St.res at h
  split at h
  · injection h with h; subst h; exact St.put_nx _ _ _
  · split at h
    · split at h
      · injection h with h; subst h; rfl
      · cases h
    · injection h with h; subst h; rfl
  · injection h with h; subst h; rfl
theorem aOp_sound {N : Nat} (h : Real P w0 K0 G us s a w) (hN : a.tmps.size = N) {γ : Nat} (hu : ¬ us γ) {o : Oper} (hd : ∀ d, o.dst = some d → d < N) {K : St → Prop} (ha : aOp P γ s o K) {Q : Exit → Act → World → Prop} :
    o.wp P a w (Nx P w0 K0 N s.nx (fun g => us g ∨ g = γ) K) Q := by
  have hd' : ∀ d, o.dst = some d → d < a.tmps.size := fun d e => by rw [hN]; exact hd d e
  have det : ∀ s', aDet P γ s o.dst o.op = some s' → K s' → o.wp P a w (Nx P w0 K0 N s.nx (fun g => us g ∨ g = γ) K) Q := fun s' h1 h2 =>
    aDet_sound h hu hd' h1 fun v w' G' hG => ⟨s', G', h2, hG, by rw [put_size]; exact hN, aDet_nx h1⟩
  unfold aOp at ha
  split at ha
  · rename_i f args ts ho
    obtain ⟨ys, r, s', h1, h2, h3, h4, h5⟩ := ha
    exact call_sound h hu hd' (f := f) (os := args.toList) (ts := ts.toList) (by rw [ho]) h1 h2 h3 h4 fun v w' G' hG => ⟨s', G', h5, hG, by rw [put_size]; exact hN, St.res_nx h4⟩
  · split at ha
    · rename_i s' hs
      exact det s' hs ha
    · exact ha.elim
theorem yld_sound (h : Real P w0 K0 G us s a w) {ops : List Oper} {j : Nat} {b : Bool} (hy : yld ops s j = some b) : yielded ops.toArray a.tmps j = some b := by
  unfold yld at hy
  split at hy
  · rename_i d hd
    split at hy
    · rename_i b' hb
      injection hy with hy; subst hy
      have hs := h.slots d
      rw [hb] at hs
      have e : a.tmps.getD d undef = .bool b' := by
        generalize a.tmps.getD d undef = v at hs
        cases hs with | k _ _ hk => exact hk.bool_inv
      have e2 : a.tmps[d]? = some (.bool b') := by
        rw [Array.getD_eq_getD_getElem?] at e
        cases hq : a.tmps[d]? with
        | none => rw [hq] at e; cases e
        | some v => rw [hq] at e; simp at e; rw [e]
      unfold yielded
      rw [show (ops.toArray[j]?.bind fun x => x.dst) = some d by simpa using hd]
      simp [e2]
    · cases hy
  · cases hy
theorem aGuard_sound {N : Nat} (h : Real P w0 K0 G us s a w) (hN : a.tmps.size = N) {γ : Nat} (hu : ¬ us γ) {ops : List Oper} {o : Oper} (hd : ∀ d, o.dst = some d → d < N) {K : St → Prop} (ha : aGuard P ops γ s o K) {Q : Exit → Act → World → Prop} :
    if Region.wanted o (yielded ops.toArray a.tmps) = true then o.wp P a w (Nx P w0 K0 N s.nx (fun g => us g ∨ g = γ) K) Q else Nx P w0 K0 N s.nx (fun g => us g ∨ g = γ) K (a.put o.dst undef) w := by
  unfold aGuard at ha
  split at ha
  · rename_i hg
    rw [if_pos (by simp [Region.wanted, hg])]
    exact aOp_sound h hN hu hd ha
  · rename_i j want hg
    split at ha
    · rename_i b hb
      have hy := yld_sound h hb
      split at ha
      · rename_i e
        rw [if_pos (by simp [Region.wanted, hg, hy, e])]
        exact aOp_sound h hN hu hd ha
      · rename_i e
        rw [if_neg (by simp [Region.wanted, hg, hy, e])]
        exact ⟨_, G, ha, (h.us_mono (fun g hg => .inl hg)).put o.dst _ _ (.k _ _ (.any _)) (fun d e => by rw [hN]; exact hd d e), by rw [put_size]; exact hN, St.put_nx _ _ _⟩
    · exact ha.elim
theorem aRun_sound {N : Nat} {ops : List Oper} {Q : Exit → Act → World → Prop} {K : St → Prop} : ∀ (l : List Oper) (i : Nat) (s : St) (a : Act) (w : World) (G : Gh), dstsOk N l = true → Real P w0 K0 G (fun g => g < s.nx + i) s a w → a.tmps.size = N → aRun P ops i l s K →
    (∀ s' G' a' w', K s' → Real P w0 K0 G' (fun g => g < s.nx + (i + l.length)) s' a' w' → a'.tmps.size = N → s'.nx = s.nx → Q .normal a' w') → wpList P ops.toArray Q l a w
  | [], i, s, a, w, G, _, h, hN, ha, hq => hq s G a w ha h hN rfl
  | o :: l, i, s, a, w, G, hok, h, hN, ha, hq => by
    simp only [dstsOk, List.all_cons, Bool.and_eq_true] at hok
    have hd : ∀ d, o.dst = some d → d < N := fun d e => by have := hok.1; rw [e] at this; simpa using this
    refine wpList_step fun K' hK' => ?_
    have hs := aGuard_sound (Q := Q) h hN (γ := s.nx + i) (by omega) hd ha
    have cont : ∀ a' w', Nx P w0 K0 N s.nx (fun g => g < s.nx + i ∨ g = s.nx + i) (fun s' => aRun P ops (i + 1) l s' K) a' w' → K' a' w' := by
      rintro a' w' ⟨s', G', k1, k2, k3, k4⟩
      refine hK' a' w' (aRun_sound l (i + 1) s' a' w' G' hok.2 ?_ k3 k1 ?_)
      · rw [k4]; exact k2.us_mono fun g hg => by omega
      · intro s2 G2 a2 w2 q1 q2 q3 q4
        refine hq s2 G2 a2 w2 q1 ?_ q3 (q4.trans k4)
        rw [k4] at q2
        exact q2.us_mono fun g hg => by simp only [List.length_cons]; omega
    split at hs
    · rename_i hw; rw [if_pos hw]; exact Oper.wp_mono cont hs
    · rename_i hw; rw [if_neg hw]; exact cont _ _ hs
end
end Go.Proofs.Ytikganlbnhapcaa
