import Derived.Test.YtikganlbnhapcaaAvHand
namespace Go.Proofs.Ytikganlbnhapcaa
open Go.RowKit
set_option linter.unusedVariables false
set_option linter.unusedSimpArgs false
/-! a walk cut in two -/
section
variable {P : Program}
theorem aMCall_mono {s : St} {o : Oper} {K K' : St → Prop} (h : ∀ s, K s → K' s) (ha : aMCall P s o K) : aMCall P s o K' := by
  obtain ⟨f, args, ts, d, g, cs, cs', ys, r, h1, h2, h3, h4, h5⟩ := ha
  exact ⟨f, args, ts, d, g, cs, cs', ys, r, h1, h2, h3, h4, h _ h5⟩
theorem aRun_mono {ops : List Oper} {K K' : St → Prop} (h : ∀ s, K s → K' s) : ∀ (l : List Oper) (i : Nat) (s : St), aRun P ops i l s K → aRun P ops i l s K'
  | [], i, s, ha => by obtain ⟨s', h1, h2⟩ := ha; exact ⟨s', h1, h _ h2⟩
  | o :: l, i, s, ha => by
    rcases ha with ha | ⟨h1, ha⟩
    · refine .inl (aGuard_step.2 ?_)
      obtain ⟨s', h1, h2⟩ := aGuard_step.1 ha
      exact ⟨s', h1, aRun_mono h l (i + 1) s' h2⟩
    · exact .inr ⟨h1, aMCall_mono (fun s => aRun_mono h l (i + 1) s) ha⟩
theorem xRun_mono {ops : List Oper} {kw : Nat → List Nat × List Nat} {K K' : St → Prop} (h : ∀ s, K s → K' s) : ∀ (l : List (Nat × Oper)) (s : St), xRun P ops kw l s K → xRun P ops kw l s K'
  | [], s, ha => h s ha
  | (i, o) :: l, s, ha => by
    obtain ⟨h1, s', h2, h3⟩ := ha
    exact ⟨h1, s', h2, xRun_mono h l s' h3⟩
theorem aWp_mono : ∀ (c : Code) {Q Q' : AEx → St → Prop} {s : St}, (∀ e s, Q e s → Q' e s) → aWp P c Q s → aWp P c Q' s := by
  intro c
  induction c with
  | skip => intro Q Q' s h ha; exact h _ _ ha
  | region id ops draw =>
    intro Q Q' s h ha
    cases draw with
    | true =>
      obtain ⟨kw, h1, h2⟩ := ha
      exact ⟨kw, h1, xRun_mono (fun s hs => h _ _ hs) _ _ h2⟩
    | false => exact aRun_mono (fun s hs => h _ _ hs) _ _ _ ha
  | seq a b iha ihb =>
    intro Q Q' s h ha
    refine iha (fun e s he => ?_) ha
    cases e with
    | normal => exact ihb h he
    | exit id => exact h _ _ he
    | ret => exact h _ _ he
  | cond c a b iha ihb =>
    intro Q Q' s h ha
    simp only [aWp] at ha ⊢
    split
    · rename_i t ht
      rw [ht] at ha
      exact ⟨fun e => iha h (ha.1 e), fun e => ihb h (ha.2 e)⟩
    · rename_i hn
      split at ha
      · rename_i t ht; exact absurd ht (hn t)
      · exact ha
  | block id c ih =>
    intro Q Q' s h ha
    refine ih (fun e s he => ?_) ha
    cases e with
    | normal => exact h _ _ he
    | exit id' =>
      have he' : if id' = id then Q .normal s else Q (.exit id') s := he
      show if id' = id then Q' .normal s else Q' (.exit id') s
      split at he'
      · rename_i q; rw [if_pos q]; exact h _ _ he'
      · rename_i q; rw [if_neg q]; exact h _ _ he'
    | ret => exact h _ _ he
  | loop c ih =>
    intro Q Q' s h ha
    obtain ⟨I, n, h0, hr⟩ := ha
    refine ⟨I, n, h0, fun n s hI => ih (fun e s he => ?_) (hr n s hI)⟩
    cases e with
    | normal => exact he
    | exit id => exact h _ _ he
    | ret => exact h _ _ he
  | exit id => intro Q Q' s h ha; exact h _ _ ha
  | ret => intro Q Q' s h ha; exact h _ _ ha
  | rangeFunc g ps asg body iha ih =>
    intro Q Q' s h ha
    obtain ⟨gf, caps, els, I, l, h1, h2, h3, h4, h5, h6, h7⟩ := ha
    refine ⟨gf, caps, els, I, l, h1, h2, h3, h4, h5, fun pre x s' q1 q2 q3 q4 => ih (fun e s he => ?_) (h6 pre x s' q1 q2 q3 q4), fun s' hs => h _ _ (h7 s' hs)⟩
    cases e with
    | normal => exact he
    | exit id => exact ⟨he.1, h _ _ he.2⟩
    | ret => exact ⟨he.1, h _ _ he.2⟩
  | scope => intro Q Q' s h ha; exact ha
  | label => intro Q Q' s h ha; exact ha
  | goto => intro Q Q' s h ha; exact ha
  | refuse => intro Q Q' s h ha; exact ha
variable {Q : AEx → St → Prop} {Kn : St → Prop} {c : Code} {s : St}
theorem aWp_cut (M : St → Prop) (h1 : aWp P c (AEx.seq M Q) s) (h2 : ∀ s, M s → Kn s) : aWp P c (AEx.seq Kn Q) s :=
  aWp_mono c (fun e s he => by
    cases e with
    | normal => exact h2 s he
    | exit id => exact he
    | ret => exact he) h1
/-- the cut behind a block -/
theorem aWp_cutB {id : Nat} (M : St → Prop) (h1 : aWp P c (AEx.inBlock id (AEx.seq M Q)) s) (h2 : ∀ s, M s → Kn s) : aWp P c (AEx.inBlock id (AEx.seq Kn Q)) s :=
  aWp_mono c (fun e s he => by
    cases e with
    | normal => exact h2 s he
    | exit id' =>
      have he' : if id' = id then M s else Q (.exit id') s := he
      show if id' = id then Kn s else Q (.exit id') s
      split at he'
      · rename_i q; rw [if_pos q]; exact h2 s he'
      · rename_i q; rw [if_neg q]; exact he'
    | ret => exact he) h1
end
section
variable {P : Program} {F : Nat → SV} {T : Nat → Option (Nat × Ent)} {ν i : Nat} {md : Md} {K : St → Prop} {ops : List Oper}
/-- at a region's end: a whole object is known from now on -/
theorem rzp {t d g : Nat} {cs : List AV} (h1 : F t = .ob d g 0) (h2 : T d = some (g, .obj cs)) (h : K ⟨upd F t (.k (.cp cs)), upd T d none, ν, md⟩) : aRun P ops i [] ⟨F, T, ν, md⟩ K :=
  rzob h1 h2 (Nat.zero_le _) (List.drop_zero ..) h
theorem rzs {t d g n cap : Nat} {cs : List AV} (h1 : F t = .os d g 0 n cap) (h2 : T d = some (g, .obj cs)) (h : K ⟨upd F t (.k (.sl false n cs)), upd T d none, ν, md⟩) : aRun P ops i [] ⟨F, T, ν, md⟩ K :=
  rzos (m := cs.length) h1 h2 (by omega) (by simp) h
end
end Go.Proofs.Ytikganlbnhapcaa
