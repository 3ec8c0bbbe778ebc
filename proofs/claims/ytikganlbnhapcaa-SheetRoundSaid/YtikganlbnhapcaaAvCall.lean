import Derived.Test.YtikganlbnhapcaaAvEff3
namespace Go.Proofs.Ytikganlbnhapcaa
open Go.RowKit
set_option linter.unusedVariables false
set_option linter.unusedSimpArgs false

/-- what a call gives -/
inductive RV where
  | k (x : AV)
  | own (n : Nat) (e : TypeId) (cells : List AV)
def AV.sc : AV → Bool
  | .int _ _ => true
  | .bool _ => true
  | .str _ => true
  | .raw _ => true
  | .any => true
  | _ => false
def AV.noal1 : AV → Bool
  | .agg cs => cs.all AV.sc
  | x => x.sc
def AV.noal : AV → Bool
  | .tup ps => ps.all AV.noal1
  | x => x.noal1
def RV.noal : RV → Bool
  | .k x => x.noal
  | .own _ _ cells => cells.all AV.sc
theorem KRep.of_sc {K K' : Kd} {x : AV} {v : Value} (h : KRep K x v) (hx : x.sc = true) : KRep K' x v := by
  cases h <;> first | cases hx; done | exact .raw _ (by assumption) | constructor
theorem KRep.of_noal1 {K K' : Kd} {x : AV} {v : Value} (h : KRep K x v) (hx : x.noal1 = true) : KRep K' x v := by
  cases h with
  | agg cells vs hl h1 h =>
    refine .agg cells vs hl h1 fun i x v e1 e2 => (h i x v e1 e2).of_sc ?_
    exact List.all_eq_true.1 hx x (List.mem_of_getElem? e1)
  | any v => exact .any v
  | int k n => exact .int k n
  | bool b => exact .bool b
  | str s => exact .str s
  | raw v h => exact .raw v h
  | cp => cases hx
  | sl0 => cases hx
  | sl => cases hx
  | fn => cases hx
  | ow => cases hx
  | tup => cases hx
theorem KRep.of_noal {K K' : Kd} {x : AV} {v : Value} (h : KRep K x v) (hx : x.noal = true) : KRep K' x v := by
  cases h with
  | tup cells vs hl h =>
    refine .tup cells vs hl fun i x v e1 e2 => (h i x v e1 e2).of_noal1 ?_
    exact List.all_eq_true.1 hx x (List.mem_of_getElem? e1)
  | any v => exact .any v
  | int k n => exact .int k n
  | bool b => exact .bool b
  | str s => exact .str s
  | raw v h => exact .raw v h
  | agg cells vs hl h1 h => exact (KRep.agg cells vs hl h1 h).of_noal1 hx
  | cp => cases hx
  | sl0 => cases hx
  | sl => cases hx
  | fn => cases hx
  | ow => cases hx
def RRep (P : Program) (K : Kd) (B : Nat) (w : World) : RV → Value → Prop
  | .k x, v => KRep K x v
  | .own n e cells, v => ∃ xs, w.ownsRow B e (tiOf P e).sz v n xs ∧ (∀ b, v.ownBlock = some b → K.hw b = 0) ∧ (∀ x ∈ xs, x.oneCell' = true) ∧ cells.length = xs.length ∧ ∀ (i : Nat) (x : AV) (u : Value), cells[i]? = some x → xs[i]? = some u → KRep K x u
def Callable (P : Program) (f : FuncId) : Prop := ∃ fn, P.funcs[f]? = some fn ∧ (fn.name == "runtime.NumGoroutine") = false ∧ fn.body.isNone = false
def ArgsR (K : Kd) (args : List AV) (vs : Array Value) : Prop := vs.size = args.length ∧ ∀ (i : Nat) (x : AV) (v : Value), args[i]? = some x → vs[i]? = some v → KRep K x v
/-- what a function does, in one line -/
def Spec (P : Program) (f : FuncId) (args : List AV) (r : RV) : Prop := Callable P f ∧ ∀ (K : Kd) (w : World) (vs : Array Value), KOk K w → ArgsR K args vs →
  Calls P f vs w fun e w' => ∃ v K', e = .returned v ∧ Below w.heap.size w w' ∧ K.le K' ∧ KOk K' w' ∧ (∀ b, b < w.heap.size → K'.hw b = K.hw b) ∧ (∀ δ, δ < K.dp → ∀ d g, K'.rw δ d g = K.rw δ d g) ∧ RRep P K' w.heap.size w' r v

def St.isK (s : St) : SV → Bool
  | .k _ => true
  | .ow _ _ _ _ _ => true
  | .ob d g _ => match s.tb d with
    | some (g', .fz _) => g' == g
    | _ => false
  | .os d g _ _ _ => match s.tb d with
    | some (g', .fz _) => g' == g
    | _ => false
/-- what is handed on -/
def aArg (P : Program) (s : St) (t : TypeId) : SV → Option AV
  | .k x => some x
  | .ow _ _ n _ cs => some (.sl false n cs)
  | .ob d g off => (s.objOf d g).bind fun cs => if off ≤ cs.length then some (.cp (cs.drop off)) else none
  | .os d g off n _ => (s.objOf d g).bind fun cs => (elemOf? (tiOf P t).un).bind fun e => if off + n * (tiOf P e).sz ≤ cs.length then some (.sl false n ((cs.drop off).take (n * (tiOf P e).sz))) else none
def aArgs (P : Program) (s : St) : List SV → List TypeId → Option (List AV)
  | [], [] => some []
  | x :: xs, t :: ts => match aArg P s t x, aArgs P s xs ts with
    | some y, some ys => some (y :: ys)
    | _, _ => none
  | _, _ => none
def St.res (s : St) (dst : Option Nat) (γ : Nat) (r : RV) : Option St :=
  match r, dst with
  | .k x, dst => some (s.put dst (.k x))
  | .own n e cells, some d => if s.md d = true then (if 0 < n then some (s.mk1 d γ cells (.os d γ 0 n n)) else none) else some (s.mkT d γ (.ow d γ n e cells))
  | .own _ _ _, none => some s

section
variable {P : Program} {w0 : Base} {w w' : World} {K0 : Anc} {G : Gh} {us : Nat → Prop} {s : St} {a : Act}
theorem ownsRow_base {w : World} {B B' : Nat} {e size : Nat} {v : Value} {n : Nat} {xs : List Value} (h : w.ownsRow B e size v n xs) (hB : B' ≤ B) : w.ownsRow B' e size v n xs := by
  obtain ⟨h1, h2⟩ := h
  refine ⟨h1, ?_⟩
  rcases h2 with h2 | ⟨g, cap, cur, e1, e2, e3⟩
  · exact .inl h2
  · exact .inr ⟨g, cap, cur, e1, by omega, e3⟩
/-- a block that nobody has becomes an object -/
theorem Real.adopt (h : Real P w0 K0 G us s a w) (d γ : Nat) (hu : ¬ us γ) (b : Nat) (cells : List AV) (arr : Array Value) (ty : TypeId) (hb : ¬ w0.pr b) (hg : w.heap[b]? = some (.cells arr ty (0, 0))) (hw : G.K.hw b = 0)
    (hno : ∀ d' g' e', d' ≠ d → s.tb d' = some (g', e') → entBlk G d' g' e' ≠ some b) (hl : cells.length ≤ arr.size) (h1 : ∀ (i : Nat) (v : Value), i < cells.length → arr[i]? = some v → v.oneCell' = true)
    (hr : ∀ (i : Nat) (x : AV) (v : Value), cells[i]? = some x → arr[i]? = some v → KRep G.K x v) :
    ∃ G', G'.at_ d γ = some (b, 0) ∧ Real P w0 K0 G' (fun g => us g ∨ g = γ) (s.set d (some (γ, .obj cells))) a w := by
  have hat : (G.addAt d γ (b, 0)).at_ d γ = some (b, 0) := by simp [Gh.addAt]
  have hle := Gh.addAt_le (x := (b, 0)) (h.fresh d γ hu).1
  have hgo := h.go (us' := fun g => us g ∨ g = γ) h.below hle h.kok (fun g hg => .inl hg) (fun _ _ h _ => h) ⟨h.krw, fun _ _ _ _ => rfl⟩ (fun d' g' hn => by
      have := h.fresh d' g' (fun hc => hn (.inl hc))
      refine ⟨?_, this.2⟩
      show (if d' = d ∧ g' = γ then some (b, 0) else G.at_ d' g') = none
      rw [if_neg (fun hc => hn (.inr hc.2))]; exact this.1) h.rows (fun d' g' b' o' hb' => by
      by_cases hq : d' = d ∧ g' = γ
      · obtain ⟨rfl, rfl⟩ := hq
        rw [hat] at hb'; injection hb' with hb'; injection hb' with q1 q2; exact q2.symm
      · refine h.offs d' g' b' o' ?_
        have hr2 : (if d' = d ∧ g' = γ then _ else G.at_ d' g') = some (b', o') := hb'
        rwa [if_neg hq] at hr2) (fun b _ => rfl) (fun d' g' e he b hb => ⟨rfl, rfl⟩)
  refine ⟨_, hat, hgo.set d _ ?_⟩
  intro g e hx
  injection hx with hx
  injection hx with e1 e2
  subst e1 e2
  refine ⟨⟨b, 0, arr, ty, hat, hb, hg, hw, by omega, fun i v hi hv => ?_, fun i x v hx hv => ?_⟩, ?_⟩
  · rw [Nat.zero_add] at hv; exact h1 i v hi hv
  · rw [Nat.zero_add] at hv; exact hr i x v hx hv
  · intro b' hb' d' g' e' hd he' hc
    simp [entBlk, hat] at hb'
    subst hb'
    rw [entBlk_le hle (h.ents _ _ _ he')] at hc
    exact hno d' g' e' hd he' hc
theorem res_sound (h : Real P w0 K0 G us s a w) {dst : Option Nat} {γ : Nat} (hu : ¬ us γ) (hd : ∀ d, dst = some d → d < a.tmps.size) {B : Nat} (hB : w0.w.heap.size ≤ B) (hlive : ∀ d g e b, s.tb d = some (g, e) → entBlk G d g e = some b → b < B)
    {r : RV} {v : Value} (hr : RRep P G.K B w r v) {s' : St} (ha : s.res dst γ r = some s') : ∃ G', Real P w0 K0 G' (fun g => us g ∨ g = γ) s' (a.put dst v) w := by
  unfold St.res at ha
  split at ha
  · rename_i x
    injection ha with ha; subst ha
    exact ⟨G, (h.us_mono (fun g hg => .inl hg)).put dst _ v (.k _ _ hr) hd⟩
  · rename_i n e cells d
    have hdd := hd d rfl
    obtain ⟨xs, hown, hhw, hone, hlen, hk⟩ := hr
    have hown' := ownsRow_base hown (Nat.zero_le B)
    have hnp : ∀ b, v.ownBlock = some b → ¬ w0.pr b := fun b hb hc => by
      have h1 := (World.ownsRow.lt hown b hb).1
      have h2 := w0.lt b hc
      omega
    split at ha
    · split at ha
      · rename_i h0
        injection ha with ha; subst ha
        rcases hown.2 with ⟨_, q⟩ | ⟨g, cap, cur, e1, e2, e3, e4, e5, e6, e7⟩
        · omega
        · subst e1
          have hxl := hown.1
          have hcur : cells.length ≤ cur.size := by
            have := congrArg List.length e7
            simp at this; omega
          have hget : ∀ j, j < xs.length → cur[j]? = xs[j]? := fun j hj => by
            rw [← e7, List.getElem?_take, if_pos (by omega), Array.getElem?_toList]
          obtain ⟨G', hat, hG⟩ := h.adopt d γ hu g cells cur e (hnp g rfl) e3 (hhw g rfl) (fun d' g' e' _ he' hc => by have := hlive _ _ _ _ he' hc; omega) hcur (fun i v hi hv => by
            rw [hget i (by omega)] at hv; exact hone v (List.mem_of_getElem? hv)) (fun i x v hx hv => by
            have hi := getq_lt hx
            rw [hget i (by omega)] at hv; exact hk i x v hx hv)
          exact ⟨G', hG.put (some d) _ _ (.os _ _ _ _ _ _ _ _ hat (Nat.le_refl _) e4 e5) (fun t ht => by injection ht with ht; omega)⟩
      · cases ha
    · injection ha with ha; subst ha
      obtain ⟨G', g1, g2, g3⟩ := h.newRow d γ hu e (tiOf P e).sz n v xs cells rfl hown' hnp none ⟨rfl, rfl, rfl, Nat.le_refl _, fun _ _ _ => rfl⟩ (fun b hb => by cases hb) (fun b o hb => by cases hb) (fun b hb => by cases hb) (fun b hb => by cases hb)
        (fun b hb => .inr ⟨hhw b hb, fun d' g' e' _ he' hc => by have := hlive _ _ _ _ he' hc; have := (World.ownsRow.lt hown b hb).1; omega⟩) (fun b hb => by cases hb) (fun b hb => by cases hb) hone hlen hk
      exact ⟨G', g3.put (some d) _ _ g2 (fun t ht => by injection ht with ht; omega)⟩
  · injection ha with ha; subst ha
    exact ⟨G, h.us_mono (fun g hg => .inl hg)⟩
end

end Go.Proofs.Ytikganlbnhapcaa
