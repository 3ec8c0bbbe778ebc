import Derived.Test.YtikganlbnhapcaaAvAny
namespace Go.Proofs.Ytikganlbnhapcaa
open Go.RowKit
set_option linter.unusedVariables false
set_option linter.unusedSimpArgs false

def clo (ops : List Oper) : List Nat :=
  ops.foldl (fun acc o => acc ++ [o.after.toList.foldl (fun m e => if Region.binds .any e then m ||| 2 ^ e.on ||| acc.getD e.on 0 else m) 0]) []
/-- pairs without an order are apart -/
def chkB (ops : List Oper) (kw : Nat → List Nat × List Nat) (b : List Nat) : Bool :=
  (List.range ops.length).all fun j => match ops[j]? with
    | none => true
    | some o => (o.after.toList.all fun e => !Region.binds .any e || decide (e.on < j)) &&
      (List.range j).all fun i => match ops[i]? with
        | none => true
        | some p => if (b.getD j 0).testBit i then o.after.toList.any (fun e => Region.binds .any e && (e.on == i || (decide (i < e.on) && (b.getD e.on 0).testBit i))) else sepB ops (kw i) (kw j) p o
def chkD (ops : List Oper) (kw : Nat → List Nat × List Nat) : Bool := chkB ops kw (clo ops)
/-- the operations with their places -/
def idx (ops : List Oper) : List (Nat × Oper) := ops.zipIdx.map fun p => (p.2, p.1)
section
variable {P : Program} {w0 : Base} {w w' : World} {K0 : Anc} {G : Gh} {s : St} {a : Act} {ops : List Oper} {kw : Nat → List Nat × List Nat}
theorem chkB_spec {b : List Nat} (h : chkB ops kw b = true) {j : Nat} {o : Oper} (hj : ops[j]? = some o) :
    (∀ e ∈ o.after, Region.binds .any e = true → e.on < j) ∧ ∀ (i : Nat) (p : Oper), i < j → ops[i]? = some p → ((b.getD j 0).testBit i = true ∧ ∃ e ∈ o.after, Region.binds .any e = true ∧ (e.on = i ∨ (i < e.on ∧ (b.getD e.on 0).testBit i = true))) ∨ ((b.getD j 0).testBit i = false ∧ sepB ops (kw i) (kw j) p o = true) := by
  have hl : j < ops.length := by
    rcases Nat.lt_or_ge j ops.length with h | h
    · exact h
    · rw [List.getElem?_eq_none h] at hj; cases hj
  have h1 := List.all_eq_true.1 h j (by simpa using hl)
  simp only [hj, Bool.and_eq_true, List.all_eq_true, Bool.or_eq_true, Bool.not_eq_true', decide_eq_true_eq] at h1
  refine ⟨fun e he hb => ?_, fun i p hi hp => ?_⟩
  · rcases h1.1 e (by simpa using he) with h2 | h2
    · rw [hb] at h2; cases h2
    · exact h2
  · have h2 := h1.2 i (by simpa using hi)
    simp only [hp] at h2
    cases hb : (b.getD j 0).testBit i with
    | true =>
      rw [hb, if_pos rfl] at h2
      simp only [List.any_eq_true, Bool.and_eq_true, Bool.or_eq_true, beq_iff_eq, decide_eq_true_eq] at h2
      obtain ⟨e, he, hb, h2⟩ := h2
      exact .inl ⟨rfl, e, by simpa using he, hb, h2⟩
    | false =>
      rw [hb] at h2
      simp only [Bool.false_eq_true, if_false] at h2
      exact .inr ⟨rfl, h2⟩
/-- what is listed is closed under what must come ahead -/
def Down (ops : List Oper) (ls : Array Bool) : Prop := ∀ (j : Nat) (o : Oper), ops[j]? = some o → ls.getD j false = true → ∀ e ∈ o.after, Region.binds .any e = true → ls.getD e.on false = true
theorem clo_listed {b : List Nat} (hc : chkB ops kw b = true) {ls : Array Bool} (hd : Down ops ls) : ∀ (j : Nat) (o : Oper), ops[j]? = some o → (∀ e ∈ o.after, Region.binds .any e = true → ls.getD e.on false = true) →
    ∀ (i : Nat) (p : Oper), i < j → ops[i]? = some p → (b.getD j 0).testBit i = true → ls.getD i false = true := by
  intro j
  induction j using Nat.strongRecOn with
  | ind j ih =>
    intro o hj hr i p hi hp ht
    obtain ⟨c1, c2⟩ := chkB_spec hc hj
    rcases c2 i p hi hp with ⟨_, e, he, hb, h2⟩ | ⟨h2, _⟩
    · have hel := hr e he hb
      have hlt := c1 e he hb
      rcases h2 with rfl | ⟨hie, h2⟩
      · exact hel
      · have hjl : j < ops.length := by
          rcases Nat.lt_or_ge j ops.length with h | h
          · exact h
          · rw [List.getElem?_eq_none h] at hj; cases hj
        obtain ⟨q, hq⟩ : ∃ q, ops[e.on]? = some q := ⟨ops[e.on]'(by omega), by simp⟩
        exact ih e.on hlt q hq (hd e.on q hq hel) i p hie hp h2
    · rw [ht] at h2; cases h2
theorem set_getD {ls : Array Bool} {j i : Nat} {d : Bool} (h : j < ls.size) : (ls.setIfInBounds j true).getD i d = if i = j then true else ls.getD i d := by
  simp only [Array.getD_eq_getD_getElem?, Array.getElem?_setIfInBounds]
  by_cases hij : i = j
  · subst hij; simp [h]
  · rw [if_neg (fun e => hij e.symm), if_neg hij]
theorem ready_spec {ls : Array Bool} {j : Nat} (h : j ∈ Region.ready .any ops.toArray ls) : ∃ o, ops[j]? = some o ∧ ls.getD j true = false ∧ ∀ e ∈ o.after, Region.binds .any e = true → ls.getD e.on false = true := by
  simp only [Region.ready, List.mem_filter, List.mem_range, List.size_toArray, Bool.and_eq_true, Bool.not_eq_true', List.getElem?_toArray] at h
  obtain ⟨h1, h2, h3⟩ := h
  refine ⟨ops[j], by simp, h2, fun e he hb => ?_⟩
  rw [List.getElem?_eq_getElem h1] at h3
  simp only [Option.map_some, Option.getD_some, Array.all_eq_true'] at h3
  have := h3 e he
  simpa [hb] using this
theorem ready_of {ls : Array Bool} {j : Nat} {o : Oper} (hj : ops[j]? = some o) (hn : ls.getD j true = false) (hr : ∀ e ∈ o.after, Region.binds .any e = true → ls.getD e.on false = true) : j ∈ Region.ready .any ops.toArray ls := by
  have h1 : j < ops.length := by
    rcases Nat.lt_or_ge j ops.length with h | h
    · exact h
    · rw [List.getElem?_eq_none h] at hj; cases hj
  simp only [Region.ready, List.mem_filter, List.mem_range, List.size_toArray, Bool.and_eq_true, Bool.not_eq_true', List.getElem?_toArray]
  refine ⟨h1, hn, ?_⟩
  rw [hj]
  simp only [Option.map_some, Option.getD_some, Array.all_eq_true']
  intro e he
  cases hb : Region.binds .any e with
  | true => simp [hr e he hb]
  | false => simp
theorem any_sound {N : Nat} {b : List Nat} (hc : chkB ops kw b = true) (hdst : dstsOk N ops = true) {Q : Exit → Act → World → Prop} {K : St → Prop} {n0 : Nat} : ∀ (fuel : Nat) (ls : Array Bool) (L : List (Nat × Oper)) (s : St) (a : Act) (w : World) (G : Gh),
    L.length ≤ fuel → ls.size = ops.length → (∀ i o, (i, o) ∈ L ↔ ops[i]? = some o ∧ ls.getD i true = false) → L.Pairwise (fun x y => x.1 < y.1) → Down ops ls → s.nx = n0 →
    Real P w0 K0 G (fun g => g < n0 ∨ ∃ j, ls.getD j false = true ∧ g = n0 + j) s a w → a.tmps.size = N → xRun P ops kw L s K →
    (∀ s' G' a' w', K s' → Real P w0 K0 G' (fun g => g < n0 + ops.length) s' a' w' → a'.tmps.size = N → s'.nx = n0 → Q .normal a' w') → wpAny P .any ops.toArray Q fuel ls a w := by
  intro fuel
  induction fuel with
  | zero =>
    intro ls L s a w G hfuel hsz hmem hpw hdown hnx hre hN hx hq
    have hL : L = [] := List.length_eq_zero_iff.1 (by omega)
    subst hL
    refine ⟨?_, hq s G a w hx (hre.us_mono fun g hg => ?_) hN hnx⟩
    · apply List.eq_nil_iff_forall_not_mem.2
      intro j hj
      obtain ⟨o, h1, h2, _⟩ := ready_spec hj
      exact absurd ((hmem j o).2 ⟨h1, h2⟩) (by simp)
    · rcases hg with h | ⟨j, h, rfl⟩
      · omega
      · have : j < ls.size := by
          rcases Nat.lt_or_ge j ls.size with h' | h'
          · exact h'
          · simp [Array.getD, Nat.not_lt.2 h'] at h
        omega
  | succ fuel ih =>
    intro ls L s a w G hfuel hsz hmem hpw hdown hnx hre hN hx hq
    have lt_of : ∀ j, ls.getD j false = true → j < ops.length := fun j h => by
      rcases Nat.lt_or_ge j ls.size with h' | h'
      · omega
      · simp [Array.getD, Nat.not_lt.2 h'] at h
    refine ⟨fun h0 => ?_, fun j hj => ?_⟩
    · have hL : L = [] := by
        cases L with
        | nil => rfl
        | cons q L' =>
          exfalso
          obtain ⟨i, o⟩ := q
          obtain ⟨h1, h2⟩ := (hmem i o).1 (by simp)
          obtain ⟨c1, _⟩ := chkB_spec hc h1
          have : i ∈ Region.ready .any ops.toArray ls := ready_of h1 h2 fun e he hb => by
            have hlt := c1 e he hb
            have hi : i < ops.length := by
              rcases Nat.lt_or_ge i ops.length with h | h
              · exact h
              · rw [List.getElem?_eq_none h] at h1; cases h1
            cases hls : ls.getD e.on true with
            | true =>
              have : e.on < ls.size := by omega
              simpa [Array.getD, this] using hls
            | false =>
              have hin := (hmem e.on (ops[e.on]'(by omega))).2 ⟨by simp, hls⟩
              rcases List.mem_cons.1 hin with h3 | h3
              · simp only [Prod.mk.injEq] at h3; omega
              · have := (List.pairwise_cons.1 hpw).1 _ h3
                simp only at this; omega
          rw [h0] at this; simp at this
      subst hL
      refine hq s G a w hx (hre.us_mono fun g hg => ?_) hN hnx
      rcases hg with h | ⟨j, h, rfl⟩
      · omega
      · have := lt_of j h; omega
    · obtain ⟨o, h1, h2, h3⟩ := ready_spec hj
      have hjl : j < ops.length := by
        rcases Nat.lt_or_ge j ops.length with h | h
        · exact h
        · rw [List.getElem?_eq_none h] at h1; cases h1
      obtain ⟨L1, L2, rfl⟩ := List.append_of_mem ((hmem j o).2 ⟨h1, h2⟩)
      have hp3 := List.pairwise_append.1 hpw
      have hsep : ∀ q ∈ L1, sepB ops (kw q.1) (kw j) q.2 o = true := by
        rintro ⟨i, p⟩ hq'
        obtain ⟨k1, k2⟩ := (hmem i p).1 (by simp [hq'])
        have hlt : i < j := hp3.2.2 _ hq' _ (List.mem_cons_self ..)
        rcases (chkB_spec hc h1).2 i p hlt k1 with ⟨k3, _⟩ | ⟨_, k3⟩
        · exfalso
          have := clo_listed hc hdown j o h1 h3 i p hlt k1 k3
          have hil : i < ls.size := by omega
          simp [Array.getD, hil] at this k2
          rw [this] at k2; cases k2
        · exact k3
      obtain ⟨_, s', hst, hx'⟩ := front L1 s hsep hx
      have hd : ∀ d, o.dst = some d → d < N := fun d e => by
        simp only [dstsOk, List.all_eq_true] at hdst
        have := hdst o (List.mem_of_getElem? h1)
        rw [e] at this; simpa using this
      have hu : ¬ (fun g => g < n0 ∨ ∃ j, ls.getD j false = true ∧ g = n0 + j) (s.nx + j) := by
        rintro (h | ⟨j', h, e⟩)
        · omega
        · have : j' = j := by omega
          subst this
          have hil : j' < ls.size := by omega
          simp [Array.getD, hil] at h h2
          rw [h] at h2; cases h2
      have hs := aGuard_sound (Q := Q) (ops := ops) (K := fun t => xRun P ops kw (L1 ++ L2) t K) hre hN (γ := s.nx + j) hu hd (aGuard_step.2 ⟨s', hst, hx'⟩)
      have hjs : j < ls.size := by omega
      have cont : ∀ a' w', Nx P w0 K0 N s.nx (fun g => (g < n0 ∨ ∃ j, ls.getD j false = true ∧ g = n0 + j) ∨ g = s.nx + j) (fun t => xRun P ops kw (L1 ++ L2) t K) a' w' → wpAny P .any ops.toArray Q fuel (ls.setIfInBounds j true) a' w' := by
        rintro a' w' ⟨t, G', k1, k2, k3, k4⟩
        refine ih (ls.setIfInBounds j true) (L1 ++ L2) t a' w' G' ?_ (by simp [hsz]) ?_ ?_ ?_ (by omega) ?_ k3 k1 hq
        · simp only [List.length_append, List.length_cons] at hfuel ⊢; omega
        · intro i p
          rw [set_getD hjs]
          by_cases hij : i = j
          · subst hij
            simp only [if_true, Bool.true_eq_false, and_false, iff_false]
            intro hm
            rcases List.mem_append.1 hm with hm | hm
            · have := hp3.2.2 _ hm _ (List.mem_cons_self ..); simp only at this; omega
            · have := (List.pairwise_cons.1 hp3.2.1).1 _ hm; simp only at this; omega
          · rw [if_neg hij, ← hmem i p]
            simp only [List.mem_append, List.mem_cons, Prod.mk.injEq, hij, false_and, false_or]
        · exact hpw.sublist (List.Sublist.append_left (List.sublist_cons_self _ _) _)
        · intro j' o' hj' hl e he hb
          rw [set_getD hjs] at hl ⊢
          split
          · rfl
          · by_cases hjj : j' = j
            · subst hjj
              rw [h1] at hj'; injection hj' with hj'; subst hj'
              exact h3 e he hb
            · rw [if_neg hjj] at hl
              exact hdown j' o' hj' hl e he hb
        · refine k2.us_mono fun g hg => ?_
          rcases hg with (h | ⟨i, h, rfl⟩) | rfl
          · exact .inl h
          · refine .inr ⟨i, ?_, rfl⟩
            rw [set_getD hjs]; split
            · rfl
            · exact h
          · exact .inr ⟨j, by rw [set_getD hjs, if_pos rfl], by omega⟩
      unfold wpOp
      simp only [List.getElem?_toArray, h1]
      split at hs
      · rename_i hw; rw [if_pos hw]; exact .inl (Oper.wp_mono cont hs)
      · rename_i hw; rw [if_neg hw]; exact cont _ _ hs
end
end Go.Proofs.Ytikganlbnhapcaa
