import Derived.Test.YtikganlbnhapcaaAvEff2
namespace Go.Proofs.Ytikganlbnhapcaa
open Go.RowKit
set_option linter.unusedVariables false
set_option linter.unusedSimpArgs false

/-- copy: the state behind it, and how many -/
def aCopy (P : Program) (s : St) (t : TypeId) (x y : SV) : Option (St × Nat) :=
  (elemOf? (tiOf P t).un).bind fun e => (s.cont 1 y).bind fun c =>
    if (tiOf P e).ok = true ∧ (tiOf P e).sz = 1 then
      match x with
      | .os d g off n _ => match s.tb d with
        | some (g', .obj cs) => if g' = g ∧ off + n ≤ cs.length then some (s.set d (some (g, .obj (cs.take off ++ c.2.take n ++ cs.drop (off + min c.1 n)))), min c.1 n) else none
        | _ => none
      | _ => none
    else none
/-- []byte("..") : the row of a literal gets its mark -/
def aMark (P : Program) (s : St) (t u : TypeId) (x : SV) : Option (St × SV) :=
  (elemOf? (tiOf P t).un).bind fun e => if t = u ∧ (tiOf P e).ok = true then
    match (tiOf P e).un, x with
    | .int .u8, .ow d g n _ cs => match s.tb d with
      | some (g', .tag) => if g' = g ∧ 0 < n then some (s.set d none, .k (.sl false n cs)) else none
      | _ => none
    | _, _ => none
  else none
section
variable {P : Program} {w0 : Base} {w : World} {K0 : Anc} {G : Gh} {us : Nat → Prop} {s : St} {a : Act}
theorem aCopy_sound (h : Real P w0 K0 G us s a w) {t u ty : TypeId} {x y : SV} {v v' : Value} (hx : SRep G x v) (hy : SRep G y v') {s' : St} {k : Nat} (ha : aCopy P s t x y = some (s', k)) :
    ∃ w', (Builtin.copy_ #[t, u] ty #[v, v']).run P w = .ok (.int .i64 k) w' ∧ Real P w0 K0 G us s' a w' := by
  unfold aCopy at ha
  simp only [Option.bind_eq_some_iff] at ha
  obtain ⟨e, he, ⟨m, news⟩, hc, ha⟩ := ha
  have ht := tu_sl (elemOf?_eq he)
  split at ha
  · rename_i hok
    obtain ⟨hok, hs1⟩ := hok
    obtain ⟨i, z, d', hi, hz, hzs, hz1, hsz, hbe, hzr, _⟩ := ti_ok hok
    have hi1 : (P.info? e).map (·.size) = some 1 := by rw [hi]; simp; omega
    obtain ⟨ad, cap, rfl, hl, hmem⟩ := h.cont hc hy
    rw [Nat.mul_one] at hl
    simp only at ha hl
    split at ha
    · rename_i d g off n cap'
      split at ha
      · rename_i g' cs htb
        split at ha
        · rename_i hcc
          obtain ⟨rfl, hfit⟩ := hcc
          injection ha with ha
          injection ha with e1 e2
          subst e1 e2
          cases hx with
          | os d g off n cap' b o c hat hn hcc hm =>
            obtain ⟨b', o', arr, ty0, k1, k2, k3, k4, k5, k6, k7⟩ := h.ents _ _ _ htb
            rw [hat] at k1
            injection k1 with k1
            injection k1 with e1 e2
            subst e1 e2
            by_cases h0 : Nat.min m n = 0
            · have hrun := run_copy_none (P := P) w t u ty e (some ⟨b, o + off, none⟩) ad n c m cap ht hi1 h0
              refine ⟨w, ?_, ?_⟩
              · rw [hrun]; have : min m n = 0 := h0; rw [this]; rfl
              · have hnil : news.take n = [] := by
                  apply List.eq_nil_of_length_eq_zero
                  rw [List.length_take, hl, Nat.min_comm]; exact h0
                have h0' : min m n = 0 := h0
                have := h.splice htb hat k3 off [] [] rfl (by simp; omega) (fun v hv => by cases hv) (fun i x v hx => by simp at hx)
                have hw : w.setRow b (arr.toList.take (o + off) ++ [] ++ arr.toList.drop (o + off + ([] : List Value).length)).toArray = w := by
                  have e0 : (arr.toList.take (o + off) ++ [] ++ arr.toList.drop (o + off + ([] : List Value).length)).toArray = arr := by simp
                  rw [e0]
                  exact setRow_self w b arr ty0 (0, 0) k3
                rw [hw] at this
                rw [hnil, h0']
                exact this
            · have hnn : news ≠ [] := fun q => by rw [q] at hl; simp at hl; rw [← hl] at h0; simp at h0
              rcases hmem with hnil | ⟨b2, o2, rfl, hcr⟩
              · exact absurd hnil hnn
              · obtain ⟨vs, q1, q2, q3, q4⟩ := (hcr.take n).vals
                have hlen : vs.length = Nat.min m n := by rw [q1, List.length_take, hl]; exact Nat.min_comm n m
                have hmle : Nat.min m n ≤ n := Nat.min_le_right m n
                have hrun := run_copy_row (P := P) w t u ty e b (o + off) n c ⟨b2, o2, none⟩ m cap arr ty0 vs ht hi1 k3 hlen q2 (by omega) q3
                refine ⟨w.setRow b (arr.toList.take (o + off) ++ vs ++ arr.toList.drop (o + off + vs.length)).toArray, ?_, ?_⟩
                · rw [hrun, hlen]; rfl
                · have hlt : (news.take n).length = min m n := q1 ▸ hlen
                  have := h.splice htb hat k3 off (news.take n) vs q1 (by rw [hlt]; have : min m n = Nat.min m n := rfl; omega) q3 q4
                  rw [hlt] at this
                  exact this
        · cases ha
      · cases ha
    · cases ha
  · cases ha
theorem freeze_cell (w : World) (p : Addr) (n : Nat) (q : Addr) : (w.freeze p n).cell? q = w.cell? q := by
  unfold World.freeze
  split
  · rfl
  · unfold World.cell?
    simp only [Array.getElem?_modify]
    by_cases hb : p.block = q.block
    · rw [if_pos hb]
      generalize w.heap[q.block]? = z
      cases z with
      | none => rfl
      | some x => cases x <;> rfl
    · rw [if_neg hb]
theorem freeze_other (w : World) (p : Addr) (n k : Nat) (hk : k ≠ p.block) : (w.freeze p n).heap[k]? = w.heap[k]? := by
  unfold World.freeze
  split
  · rfl
  · simp only [Array.getElem?_modify]; rw [if_neg (Ne.symm hk)]
theorem freeze_cells (w : World) (p : Addr) (n : Nat) {arr : Array Value} {ty : TypeId} {fz : Nat × Nat} (h : w.heap[p.block]? = some (.cells arr ty fz)) : ∃ o : Obj, (w.freeze p n).heap[p.block]? = some o ∧ o.isCells = true := by
  unfold World.freeze
  split
  · exact ⟨_, h, rfl⟩
  · simp only [Array.getElem?_modify, if_true, h, Option.map_some]
    exact ⟨_, rfl, rfl⟩
theorem aMark_sound (h : Real P w0 K0 G us s a w) {t u : TypeId} {x y : SV} {v : Value} (hx : SRep G x v) {s' : St} (ha : aMark P s t u x = some (s', y)) :
    ∃ w', (convert t u v).run P w = .ok v w' ∧ Real P w0 K0 G us s' a w' ∧ SRep G y v := by
  unfold aMark at ha
  simp only [Option.bind_eq_some_iff] at ha
  obtain ⟨e, he, ha⟩ := ha
  have ht := tu_sl (elemOf?_eq he)
  split at ha
  · rename_i hok
    obtain ⟨rfl, hok⟩ := hok
    split at ha
    · rename_i d g n e' cs hun
      have hee := tu_int hun
      split at ha
      · rename_i g' htb
        split at ha
        · rename_i hcc
          obtain ⟨rfl, hn⟩ := hcc
          injection ha with ha
          injection ha with e1 e2
          subst e1 e2
          cases hx with
          | ow d g n e' cells r hr hre hrn hrl hrx hk =>
            obtain ⟨r', hr', hown, hblk, hone⟩ := h.ents _ _ _ htb
            rw [hr] at hr'
            injection hr' with hr'
            subst hr'
            rcases hown.2 with ⟨_, q⟩ | ⟨gb, cap, cur, hv, hbg, hgb, _⟩
            · omega
            · have hshape : w.shape? gb = some (r.e, cur.size) := by unfold World.shape?; rw [hgb]
              have hrun : (convert t t r.v).run P w = .ok r.v (w.freeze ⟨gb, cur.size, none⟩ 1) := by
                rw [hv]
                simp [convert, run_underlying ht, run_underlying hee, markStringish, hshape]
              refine ⟨_, hrun, ?_, .k _ _ hk⟩
              have h1 : Real P w0 K0 G us (s.set d none) a w := h.set d none (fun g e hx => by cases hx)
              have hsame : ∀ k, k ≠ gb → (w.freeze ⟨gb, cur.size, none⟩ 1).heap[k]? = w.heap[k]? := fun k hk => freeze_other w _ 1 k hk
              refine h1.go ⟨h.below.os, h.below.tape, h.below.output, ?_, fun k hk => (hsame k (fun e => (hblk gb (by rw [hv]; rfl)).1 (e ▸ hk))).trans (h.below.block k hk)⟩ (.refl G) (fun b i hi => by
                  refine ⟨?_, fun q => by rw [freeze_cell]; exact (h.kok b i hi).2 q⟩
                  by_cases e : b = gb
                  · subst e
                    exact freeze_cells w ⟨b, cur.size, none⟩ 1 hgb
                  · rw [hsame b e]; exact (h.kok b i hi).1) (fun g hg => hg) (fun b o hb ho => (hsame b (fun e => by rw [e, hgb] at hb; injection hb with hb; subst hb; cases ho)).trans hb) ⟨h.krw, fun _ _ _ _ => rfl⟩ h.fresh h.rows h.offs (fun b _ => rfl) ?_
              · have := h.below.size
                unfold World.freeze; simp; exact this
              · intro d' g' e' he' b hb
                refine ⟨hsame b fun q => ?_, rfl⟩
                by_cases hd' : d' = d
                · subst hd'; simp [St.set, upd_same] at he'
                · simp only [St.set] at he'
                  rw [upd_ne _ _ _ _ hd'] at he'
                  exact hd' (h.dist d' g' e' d _ _ b he' htb hb (by simp [entBlk, hr, hv, Value.ownBlock, q]))
        · cases ha
      · cases ha
    · cases ha
  · cases ha
end

end Go.Proofs.Ytikganlbnhapcaa
