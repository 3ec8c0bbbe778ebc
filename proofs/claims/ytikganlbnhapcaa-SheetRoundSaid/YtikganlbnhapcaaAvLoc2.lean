import Derived.Test.YtikganlbnhapcaaAvLoc
namespace Go.Proofs.Ytikganlbnhapcaa
open Go.RowKit
set_option linter.unusedVariables false
set_option linter.unusedSimpArgs false
section
variable {P : Program} {s s2 : St}
theorem set_ap (s : St) (d : Nat) (e : Option (Nat × Ent)) : s.set d e = (Dl.mk none [(d, e)]).ap s := rfl
theorem store_loc {t : TypeId} {x y : Operand} {s' : St} (h : aStore P s t (s.ev x) (s.avn y) = some s') : Loc (fun s2 => aStore P s2 t (s2.ev x) (s2.avn y)) s none [x, y] (keyOf (s.ev x)) (keyOf (s.ev x)) s' := by
  unfold aStore at h
  split at h
  · rename_i d g off hx
    split at h
    · rename_i g' cs hT
      split at h
      · rename_i hok
        injection h with h; subst h
        refine ⟨_, set_ap _ _ _, by simp, fun p hp => by simp at hp; simp [hp, hx, keyOf], fun s2 hm he ht => ?_⟩
        have e2 : s2.avn y = s.avn y := by unfold St.avn; rw [he y (by simp), hm]
        simp only [aStore, he x (by simp), e2, hx, ht d (by simp [hx, keyOf]), hT]
        rw [if_pos hok, set_ap]
      · cases h
    · cases h
  · cases h
theorem copy_loc {t : TypeId} {x y : Operand} {q : St × Nat} (h : aCopy P s t (s.ev x) (s.ev y) = some q) :
    ∃ e, q.1 = (Dl.mk none e).ap s ∧ (∀ p ∈ e, p.1 ∈ keyOf (s.ev x)) ∧ ∀ s2, AgE s s2 [x, y] → (∀ d ∈ keyOf (s.ev x) ++ keyOf (s.ev y), s2.tb d = s.tb d) → aCopy P s2 t (s2.ev x) (s2.ev y) = some ((Dl.mk none e).ap s2, q.2) := by
  unfold aCopy at h
  simp only [Option.bind_eq_some_iff] at h
  obtain ⟨e, he, c, hc, h⟩ := h
  split at h
  · rename_i hok
    split at h
    · rename_i d g off n cap hx
      split at h
      · rename_i g' cs hT
        split at h
        · rename_i hk
          injection h with h; subst h
          refine ⟨_, set_ap _ _ _, fun p hp => by simp at hp; simp [hp, hx, keyOf], fun s2 ha ht => ?_⟩
          have h1 : s2.cont 1 (s2.ev y) = some c := by
            rw [ha y (by simp), cont_loc (s := s) (fun d hd => ht d (by simp [hd])), hc]
          simp only [aCopy, he, Option.bind_some, h1, if_pos hok, ha x (by simp), hx, ht d (by simp [hx, keyOf]), hT]
          rw [if_pos hk, set_ap]
        · cases h
      · cases h
    · cases h
  · cases h
theorem mark_loc {t u : TypeId} {x : Operand} {q : St × SV} (h : aMark P s t u (s.ev x) = some q) :
    ∃ e, q.1 = (Dl.mk none e).ap s ∧ (∀ p ∈ e, p.1 ∈ keyOf (s.ev x)) ∧ ∀ s2, s2.ev x = s.ev x → (∀ d ∈ keyOf (s.ev x), s2.tb d = s.tb d) → aMark P s2 t u (s2.ev x) = some ((Dl.mk none e).ap s2, q.2) := by
  unfold aMark at h
  simp only [Option.bind_eq_some_iff] at h
  obtain ⟨e, he, h⟩ := h
  split at h
  · rename_i hok
    split at h
    · rename_i d g n _ cs hu hx
      split at h
      · rename_i g' hT
        split at h
        · rename_i hk
          injection h with h; subst h
          refine ⟨_, set_ap _ _ _, fun p hp => by simp at hp; simp [hp, hx, keyOf], fun s2 ha ht => ?_⟩
          simp only [aMark, he, Option.bind_some, if_pos hok, ha, hx, hu, ht d (by simp [hx, keyOf]), hT]
          rw [if_pos hk, set_ap]
        · cases h
      · cases h
    · cases h
  · cases h
theorem map_dst0 {dst : Option Nat} {v : SV} : ∀ d v', (dst.map fun d => (d, v)) = some (d, v') → dst = some d := by
  intro d v' e; cases dst <;> simp at e; simp [e.1]
theorem app_loc {γ d : Nat} {t t' : TypeId} {x y : Operand} {s' : St} (h : aApp P γ s d t t' (s.ev x) (s.ev y) = some s') :
    Loc (fun s2 => aApp P γ s2 d t t' (s2.ev x) (s2.ev y)) s (some d) [x, y] (keyOf (s.ev x) ++ keyOf (s.ev y)) (d :: keyOf (s.ev x)) s' := by
  unfold aApp at h
  simp only [Option.bind_eq_some_iff] at h
  obtain ⟨e, he, c, hc, h⟩ := h
  have h1 : ∀ s2, AgE s s2 [x, y] → (∀ d ∈ keyOf (s.ev x) ++ keyOf (s.ev y), s2.tb d = s.tb d) → aSrc P s2 e t t' (s2.ev y) = some c := fun s2 ha ht => by
    rw [ha y (by simp), ← hc]
    unfold aSrc
    split
    · exact cont_loc (s := s) (fun d hd => ht d (by simp [hd]))
    · rfl
  split at h
  · rename_i hok
    split at h
    · rename_i n cs hx
      split at h
      · rename_i h0
        injection h with h; subst h
        refine ⟨_, put_ap _ _ _, fun d' v e => by simp at e; simp [e.1], by simp, fun s2 hmd ha ht => ?_⟩
        simp only [aApp, he, Option.bind_some, h1 s2 ha ht, if_pos hok, ha x (by simp), hx]
        rw [if_pos h0, put_ap]
      · rename_i h0
        split at h
        · rename_i hk
          injection h with h
          by_cases hm : s.md d = true
          · rw [if_pos hm] at h; subst h
            refine ⟨_, mk1_ap _ _ _ _ _, fun d' v e => by simp at e; simp [e.1], by simp, fun s2 hmd ha ht => ?_⟩
            simp only [aApp, he, Option.bind_some, h1 s2 ha ht, if_pos hok, ha x (by simp), hx]
            rw [if_neg h0, if_pos hk, hmd, if_pos hm, mk1_ap]
          · rw [if_neg hm] at h; subst h
            refine ⟨_, mkT_ap _ _ _ _, fun d' v e => by simp at e; simp [e.1], by simp, fun s2 hmd ha ht => ?_⟩
            simp only [aApp, he, Option.bind_some, h1 s2 ha ht, if_pos hok, ha x (by simp), hx]
            rw [if_neg h0, if_pos hk, hmd, if_neg hm, mkT_ap]
        · cases h
    · rename_i d0 g0 n e' cs hx
      split at h
      · rename_i g1 hT
        split at h
        · rename_i hk
          injection h with h; subst h
          refine ⟨⟨some (d, .ow d γ (n + c.1) e (cs ++ c.2)), [(d0, none), (d, some (γ, .tag))]⟩, rfl, fun d' v e => by simp at e; simp [e.1], fun p hp => ?_, fun s2 hmd ha ht => ?_⟩
          · simp at hp; rcases hp with rfl | rfl <;> simp [hx, keyOf]
          · simp only [aApp, he, Option.bind_some, h1 s2 ha ht, if_pos hok, ha x (by simp), hx, ht d0 (by simp [hx, keyOf]), hT, hmd]
            rw [if_pos hk]; rfl
        · cases h
      · cases h
    · cases h
  · cases h
end
end Go.Proofs.Ytikganlbnhapcaa
