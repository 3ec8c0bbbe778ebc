import Derived.Test.YtikganlbnhapcaaAvRow
namespace Go.Proofs.Ytikganlbnhapcaa
open Go.RowKit
set_option linter.unusedVariables false
set_option linter.unusedSimpArgs false
set_option maxRecDepth 20000
/-! contracts that are proved by hand, as contracts of abstract values -/
/-- what was known, and all of the new blocks -/
def Kd.wide (K : Kd) (N : Nat) (w : World) : Kd := ⟨fun b i => if b < N then K.val b i else (Kd.of w).val b i, fun b => if b < N then K.hw b else (Kd.of w).hw b, K.rw, K.dp, K.fr⟩
theorem wide_le {K : Kd} {w0 w : World} (h : KOk K w0) : K.le (K.wide w0.heap.size w) := by
  refine ⟨fun b => ?_, fun b i hi => ?_, fun _ _ _ _ h => h, Nat.le_refl _⟩
  · by_cases hb : b < w0.heap.size
    · simp [Kd.wide, hb]
    · rw [h.hw0 (by omega)]; exact Nat.zero_le _
  · have hb : b < w0.heap.size := by
      by_cases hb : b < w0.heap.size
      · exact hb
      · rw [h.hw0 (by omega)] at hi; omega
    simp [Kd.wide, hb]
theorem wide_ok {K : Kd} {w0 w : World} (h : KOk K w0) (hb : Below w0.heap.size w0 w) : KOk (K.wide w0.heap.size w) w := by
  intro b i hi
  by_cases q : b < w0.heap.size
  · simp only [Kd.wide, q, if_true] at hi ⊢
    obtain ⟨⟨o, h1, h2⟩, h3⟩ := h b i hi
    have e := hb.block b q
    exact ⟨⟨o, e.trans h1, h2⟩, fun k => by rw [← h3 k]; simp only [World.cell?, e]⟩
  · simp only [Kd.wide, q, if_false] at hi ⊢
    exact kof_ok w b i hi
theorem spec_calls {P : Program} {f : FuncId} {args : List AV} {r : AV} (hf : Callable P f) (h : ∀ (K : Kd) (w : World) (vs : Array Value), KOk K w → ArgsR K args vs →
    Calls P f vs w fun e w' => ∃ v, e = .returned v ∧ Below w.heap.size w w' ∧ KRep (K.wide w.heap.size w') r v) : Spec P f args (.k r) := by
  refine ⟨hf, fun K w vs hk ha => (h K w vs hk ha).mono ?_⟩
  rintro e w' ⟨v, rfl, hb, hr⟩
  exact ⟨v, K.wide w.heap.size w', rfl, hb, wide_le hk, wide_ok hk hb, fun b q => by simp [Kd.wide, q], fun _ _ _ _ => rfl, hr⟩
theorem kint_inv {K : Kd} {k : IntKind} {n : Int} {v : Value} (h : KRep K (.int k n) v) : v = .int k n := by cases h; rfl
theorem args2 {K : Kd} {x y : AV} {vs : Array Value} (h : ArgsR K [x, y] vs) : ∃ u v, vs = #[u, v] ∧ KRep K x u ∧ KRep K y v := by
  obtain ⟨h1, h2⟩ := h
  have h1 : vs.size = 2 := h1
  refine ⟨vs[0], vs[1], ?_, h2 0 _ _ rfl (by simp), h2 1 _ _ rfl (by simp)⟩
  apply Array.ext (by simpa using h1)
  intro i q1 q2
  match i with
  | 0 => rfl
  | 1 => rfl
  | i + 2 => omega
theorem kstr_inv {K : Kd} {s : ByteArray} {v : Value} (h : KRep K (.str s) v) : v = .string s := by cases h; rfl
theorem krep_pair {K : Kd} {x y : AV} {u v : Value} (h : KRep K x u) (k : KRep K y v) : KRep K (.tup [x, y]) (.tuple #[u, v]) := .tup _ _ rfl fun i z q h1 h2 => by
  match i with
  | 0 => simp at h1 h2; subst h1 h2; exact h
  | 1 => simp at h1 h2; subst h1 h2; exact k
  | i + 2 => simp at h1
theorem args1 {K : Kd} {x : AV} {vs : Array Value} (h : ArgsR K [x] vs) : ∃ u, vs = #[u] ∧ KRep K x u := by
  obtain ⟨h1, h2⟩ := h
  have h1 : vs.size = 1 := h1
  refine ⟨vs[0], ?_, h2 0 _ _ rfl (by simp)⟩
  apply Array.ext (by simpa using h1)
  intro i q1 q2
  match i with
  | 0 => rfl
  | i + 1 => omega
theorem aOfBytes_len (l : List UInt8) : (aOfBytes l).length = l.length := by simp [aOfBytes]
theorem KOk.after {K : Kd} {w w' : World} (h : KOk K w) (hb : Below w.heap.size w w') : KOk K w' :=
  h.below fun b q => hb.block b (by
    by_cases h1 : b < w.heap.size
    · exact h1
    · exact absurd (h.hw0 (by omega)) q)
theorem ksl_inv {K : Kd} {full : Bool} {n : Nat} {cs : List AV} {v : Value} (h : KRep K (.sl full n cs) v) : ∃ a c, v = .slice a n c ∧ n ≤ c ∧ c ≤ maxLen ∧ (full = true → c = n) ∧ ((n = 0 ∧ cs = []) ∨ ∃ b o, a = some ⟨b, o, none⟩ ∧ K.In b o cs.length ∧ ∀ (i : Nat) (x : AV), cs[i]? = some x → KRep K x (K.val b (o + i))) := by
  cases h with
  | sl0 full a cap hm hf => exact ⟨a, cap, rfl, Nat.zero_le _, hm, hf, .inl ⟨rfl, rfl⟩⟩
  | sl full n cells b o cap hn hm hf h1 h3 => exact ⟨_, cap, rfl, hn, hm, hf, .inr ⟨b, o, rfl, h1, h3⟩⟩
theorem kcp1_inv {K : Kd} {x : AV} {v : Value} (h : KRep K (.cp [x]) v) : ∃ b o, v = .pointer (some ⟨b, o, none⟩) ∧ K.In b o 1 ∧ KRep K x (K.val b o) := by
  cases h with
  | cp cells b o h1 h3 => exact ⟨b, o, rfl, h1, h3 0 x rfl⟩
theorem In_sub {K : Kd} {b o n : Nat} (h : K.In b o n) (i m : Nat) (hm : i + m ≤ n) : K.In b (o + i) m :=
  ⟨by have := h.1; omega, fun j hj => by rw [Nat.add_assoc]; exact h.2 (i + j) (by omega)⟩
theorem krep_fn2 {K : Kd} {f : Nat} {x y : AV} {u v : Value} (h : KRep K x u) (k : KRep K y v) : KRep K (.fn f [x, y]) (.func (.func f) #[] #[u, v]) := .fn f _ _ rfl fun i z q h1 h2 => by
  match i with
  | 0 => simp at h1 h2; subst h1 h2; exact h
  | 1 => simp at h1 h2; subst h1 h2; exact k
  | i + 2 => simp at h1
theorem aOfBytes_cons (b : UInt8) (l : List UInt8) : aOfBytes (b :: l) = .int .u8 (b.toNat : Int) :: aOfBytes l := rfl
/-- the bytes that have been put down -/
def Acc (e : TypeId) (ks : List Nat) (T : Nat → Option (Nat × Ent)) (x : SV) (n : Nat) (cs : List AV) : Prop :=
  (x = .k (.sl true 0 []) ∧ n = 0 ∧ cs = []) ∨ ∃ d g, d ∈ ks ∧ x = .ow d g n e cs ∧ T d = some (g, .tag)
theorem Acc.nil {e : TypeId} {ks : List Nat} {T : Nat → Option (Nat × Ent)} : Acc e ks T (.k (.sl true 0 [])) 0 [] := .inl ⟨rfl, rfl, rfl⟩
theorem Acc.ow {e : TypeId} {ks : List Nat} {T : Nat → Option (Nat × Ent)} {d g n n' : Nat} {cs cs' : List AV} (hd : d ∈ ks) (hT : T d = some (g, .tag)) (hn : n = n') (hc : cs = cs') : Acc e ks T (.ow d g n e cs) n' cs' := by
  subst hn hc; exact .inr ⟨d, g, hd, rfl, hT⟩
def AccO (e : TypeId) (ks : List Nat) (T : Nat → Option (Nat × Ent)) (x : SV) (n : Nat) (cs : List AV) : Prop := ∃ d g, d ∈ ks ∧ x = .ow d g n e cs ∧ T d = some (g, .tag)
theorem AccO.ow {e : TypeId} {ks : List Nat} {T : Nat → Option (Nat × Ent)} {d g n n' : Nat} {cs cs' : List AV} (hd : d ∈ ks) (hT : T d = some (g, .tag)) (hn : n = n') (hc : cs = cs') : AccO e ks T (.ow d g n e cs) n' cs' := by
  subst hn hc; exact ⟨d, g, hd, rfl, hT⟩
theorem take_succ' {α : Type} {l : List α} {i : Nat} {x : α} (h : l[i]? = some x) : l.take (i + 1) = l.take i ++ [x] := by
  rw [List.take_add_one, h]; rfl
theorem aOfBytes_append (a b : List UInt8) : aOfBytes (a ++ b) = aOfBytes a ++ aOfBytes b := by simp [aOfBytes]
theorem aWp_range {P : Program} {g : Operand} {ps : Array Nat} {asg body : Code} {Q : AEx → St → Prop} {s : St} {gf : Nat} {caps : List AV} {els : List (List AV)} {l : List (Nat × Nat)} (hg : s.ev g = .k (.fn gf caps)) (hit : Iter P gf caps els) (hl : ∀ x ∈ els, x.length = ps.size) (ha : asgC asg = some l)
    (I : List (List AV) → St → Prop) (h0 : I [] s)
    (hstep : ∀ pre x s', I pre s' → pre.length < els.length → (∀ y ∈ pre, y ∈ els) → x ∈ els → aWp P body (fun e s'' => match e with
        | .normal => s''.md = s.md ∧ I (pre ++ [x]) s''
        | e => s''.md = s.md ∧ Q e ⟨s.fr, s''.tb, s''.nx, s.md⟩) ⟨runAs (putPs s.fr ps.toList x) l, s'.tb, s'.nx, s.md⟩)
    (hend : ∀ s', I els s' → Q .normal ⟨s.fr, s'.tb, s'.nx, s.md⟩) : aWp P (.rangeFunc g ps asg body) Q s :=
  ⟨gf, caps, els, I, l, hg, hit, hl, ha, h0, hstep, hend⟩
/-- a loop over a function, two objects of the table being spoken of -/
theorem aWp_range2 {P : Program} {g : Operand} {ps : Array Nat} {asg body : Code} {Q : AEx → St → Prop} {s : St} {gf : Nat} {caps : List AV} {els : List (List AV)} {l : List (Nat × Nat)} {k1 k2 g1 g2 : Nat} {e1 e2 : Ent} (hg : s.ev g = .k (.fn gf caps)) (hit : Iter P gf caps els) (hl : ∀ x ∈ els, x.length = ps.size) (ha : asgC asg = some l)
    (h1 : s.tb k1 = some (g1, e1)) (h2 : s.tb k2 = some (g2, e2)) (I : Nat → Nat → List (List AV) → (Nat → Option (Nat × Ent)) → Prop) (h0 : I g1 g2 [] s.tb)
    (hstep : ∀ pre x T ν, I g1 g2 pre T → pre.length < els.length → (∀ y ∈ pre, y ∈ els) → x ∈ els → aWp P body (fun e s'' => match e with
        | .normal => s''.md = s.md ∧ I g1 g2 (pre ++ [x]) s''.tb
        | e => s''.md = s.md ∧ Q e ⟨s.fr, s''.tb, s''.nx, s.md⟩) ⟨runAs (putPs s.fr ps.toList x) l, T, ν, s.md⟩)
    (hend : ∀ T ν, I g1 g2 els T → Q .normal ⟨s.fr, T, ν, s.md⟩) : aWp P (.rangeFunc g ps asg body) Q s :=
  ⟨gf, caps, els, fun pre s' => I g1 g2 pre s'.tb, l, hg, hit, hl, ha, h0, fun pre x s' hI h3 h4 h5 => hstep pre x _ _ hI h3 h4 h5, fun s' hI => hend _ _ hI⟩
theorem Spec.weak {P : Program} {f : FuncId} {args : List AV} {r r' : AV} (h : Spec P f args (.k r)) (hw : Wk r r') : Spec P f args (.k r') := by
  refine ⟨h.1, fun K w vs hk ha => (h.2 K w vs hk ha).mono ?_⟩
  rintro e w' ⟨v, K', rfl, h1, h2, h3, h4, h5, h6⟩
  exact ⟨v, K', rfl, h1, h2, h3, h4, h5, hw _ _ h6⟩
theorem wk_tup {xs ys : List AV} (hl : xs.length = ys.length) (h : ∀ (i : Nat) (y : AV), ys[i]? = some y → y = .any ∨ xs[i]? = some y) : Wk (.tup xs) (.tup ys) := by
  intro K v hv
  cases hv with
  | tup cells vs h1 h2 =>
    refine .tup _ _ (by omega) fun i y u hy hu => ?_
    rcases h i y hy with rfl | hx
    · exact .any _
    · exact h2 i y u hx hu
end Go.Proofs.Ytikganlbnhapcaa
