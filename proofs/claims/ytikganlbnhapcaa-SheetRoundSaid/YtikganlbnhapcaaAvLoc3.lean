import Derived.Test.YtikganlbnhapcaaAvLoc2
namespace Go.Proofs.Ytikganlbnhapcaa
open Go.RowKit
set_option linter.unusedVariables false
set_option linter.unusedSimpArgs false
section
variable {P : Program} {s s2 : St}
theorem Loc.mono {f f' : St → Option St} {dst dst' : Option Nat} {es es' : List Operand} {rk wk rk' wk' : List Nat} {s' : St} (h : Loc f s dst es rk wk s') (hd : ∀ d, dst = some d → dst' = some d) (he : ∀ x ∈ es, x ∈ es') (hr : ∀ k ∈ rk, k ∈ rk') (hw : ∀ k ∈ wk, k ∈ wk') (hf : ∀ s2, f s2 = f' s2) : Loc f' s dst' es' rk' wk' s' := by
  obtain ⟨D, h1, h2, h3, h4⟩ := h
  exact ⟨D, h1, fun d v e => hd d (h2 d v e), fun p hp => hw _ (h3 p hp), fun s2 a b c => by rw [← hf]; exact h4 s2 a (fun x hx => b x (he x hx)) (fun d hd => c d (hr d hd))⟩
/-- a change of the table, and then a value -/
theorem then_put {e : List (Nat × Option (Nat × Ent))} {dst : Option Nat} {v : SV} (s : St) : ((Dl.mk none e).ap s).put dst v = (Dl.mk (dst.map fun d => (d, v)) e).ap s := by
  cases dst <;> rfl
theorem map_dst {dst : Option Nat} {v : SV} : ∀ d v', (dst.map fun d => (d, v)) = some (d, v') → dst = some d := by
  intro d v' e; cases dst <;> simp at e; simp [e.1]
theorem conv_loc {t u : TypeId} {dst : Option Nat} {x : Operand} {s' : St} (h : aConvX P s t u dst (s.ev x) = some s') :
    Loc (fun s2 => aConvX P s2 t u dst (s2.ev x)) s dst [x] (keyOf (s.ev x)) (keyOf (s.ev x)) s' := by
  unfold aConvX at h
  split at h
  · rename_i y hy
    injection h with h; subst h
    refine ⟨_, put_ap _ _ _, map_dst, by simp, fun s2 hmd ha ht => ?_⟩
    simp only [aConvX, ha x (by simp), aConv_loc (s := s) (s2 := s2) ht, hy, put_ap]
  · rename_i hn
    simp only [Option.map_eq_some_iff] at h
    obtain ⟨q, hq, rfl⟩ := h
    obtain ⟨e, h1, h2, h3⟩ := mark_loc hq
    refine ⟨⟨dst.map fun d => (d, q.2), e⟩, by rw [h1, then_put], map_dst, h2, fun s2 hmd ha ht => ?_⟩
    have := h3 s2 (ha x (by simp)) ht
    rw [ha x (by simp)] at this
    simp only [aConvX, ha x (by simp), aConv_loc (s := s) (s2 := s2) ht, hn, this, Option.map_some, then_put]
theorem builtX_loc {γ : Nat} {dst : Option Nat} {b : Builtin} {args : List Operand} {ts : List TypeId} {s' : St} (h : aBuiltX P γ s dst b args ts = some s') :
    Loc (fun s2 => aBuiltX P γ s2 dst b args ts) s dst args (if b = .append ∨ b = .copy then args.flatMap fun x => keyOf (s.ev x) else []) (if b = .append then dst.toList ++ args.flatMap fun x => keyOf (s.ev x) else if b = .copy then args.flatMap fun x => keyOf (s.ev x) else []) s' := by
  unfold aBuiltX at h
  split at h
  · rename_i x y t t' d
    refine (app_loc h).mono (fun d e => e) (by simp) (by simp) (fun k hk => ?_) (fun s2 => by simp [aBuiltX])
    simp only [if_true, List.mem_append, List.mem_flatMap]
    rcases List.mem_cons.1 hk with rfl | hk
    · exact .inl (by simp)
    · exact .inr ⟨x, by simp, hk⟩
  · rename_i x y t t'
    simp only [Option.map_eq_some_iff] at h
    obtain ⟨q, hq, rfl⟩ := h
    obtain ⟨e, h1, h2, h3⟩ := copy_loc hq
    refine ⟨⟨dst.map fun d => (d, .k (.int .i64 (q.2 : Int))), e⟩, by rw [h1, then_put], map_dst, fun p hp => ?_, fun s2 hmd ha ht => ?_⟩
    · simp only [reduceCtorEq, if_false, if_true, List.mem_flatMap]
      exact ⟨x, by simp, h2 p hp⟩
    · have := h3 s2 ha (fun d hd => ht d (by simp at hd ⊢; exact hd))
      simp only [aBuiltX, this, Option.map_some, then_put]
  · rename_i h1 h2
    have e1 : ∀ s2 : St, aBuiltX P γ s2 dst b args ts = (aBuiltin P s2 b args ts).map (s2.put dst) := by
      intro s2
      unfold aBuiltX
      split
      · rename_i x y t t' d
        first | exact (h1 _ _ _ _ _ rfl rfl rfl rfl).elim | exact (h1 _ _ _ _ _ rfl rfl rfl).elim | exact (h1 _ _ _ _ _ rfl rfl).elim | (exfalso; simp_all; first | exact h2 _ _ _ _ _ rfl rfl rfl rfl rfl | exact h1 _ _ _ _ rfl rfl rfl rfl)
      · rename_i x y t t'
        first | exact (h2 _ _ _ _ rfl rfl rfl).elim | exact (h2 _ _ _ _ rfl rfl).elim | exact (h2 _ _ _ _ rfl).elim | (exfalso; simp_all; first | exact h2 _ _ _ _ _ rfl rfl rfl rfl rfl | exact h1 _ _ _ _ rfl rfl rfl rfl)
      · rfl
    simp only [Option.map_eq_some_iff] at h
    obtain ⟨v, hv, rfl⟩ := h
    refine ⟨_, put_ap _ _ _, map_dst, by simp, fun s2 hmd ha ht => ?_⟩
    show aBuiltX P γ s2 dst b args ts = _
    rw [e1, aBuiltin_loc ha, hv, Option.map_some, put_ap]
end
end Go.Proofs.Ytikganlbnhapcaa
