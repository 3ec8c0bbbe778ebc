import Derived.Test.YtikganlbnhapcaaAvAuto
namespace Go.Proofs.Ytikganlbnhapcaa
open Go.RowKit
set_option linter.unusedVariables false
set_option linter.unusedSimpArgs false

theorem has1 {α : Type} {F : Nat → α} {a0 : Nat} {x0 : α} (h0 : F a0 = x0) : F = (upd F a0 x0) := by
  rw [← upd_self h0]
theorem has2 {α : Type} {F : Nat → α} {a0 a1 : Nat} {x0 x1 : α} (h0 : F a0 = x0) (h1 : F a1 = x1) : F = (upd (upd F a0 x0) a1 x1) := by
  rw [← upd_self h0, ← upd_self h1]
theorem has3 {α : Type} {F : Nat → α} {a0 a1 a2 : Nat} {x0 x1 x2 : α} (h0 : F a0 = x0) (h1 : F a1 = x1) (h2 : F a2 = x2) : F = (upd (upd (upd F a0 x0) a1 x1) a2 x2) := by
  rw [← upd_self h0, ← upd_self h1, ← upd_self h2]
theorem has4 {α : Type} {F : Nat → α} {a0 a1 a2 a3 : Nat} {x0 x1 x2 x3 : α} (h0 : F a0 = x0) (h1 : F a1 = x1) (h2 : F a2 = x2) (h3 : F a3 = x3) : F = (upd (upd (upd (upd F a0 x0) a1 x1) a2 x2) a3 x3) := by
  rw [← upd_self h0, ← upd_self h1, ← upd_self h2, ← upd_self h3]
theorem has5 {α : Type} {F : Nat → α} {a0 a1 a2 a3 a4 : Nat} {x0 x1 x2 x3 x4 : α} (h0 : F a0 = x0) (h1 : F a1 = x1) (h2 : F a2 = x2) (h3 : F a3 = x3) (h4 : F a4 = x4) : F = (upd (upd (upd (upd (upd F a0 x0) a1 x1) a2 x2) a3 x3) a4 x4) := by
  rw [← upd_self h0, ← upd_self h1, ← upd_self h2, ← upd_self h3, ← upd_self h4]
theorem has6 {α : Type} {F : Nat → α} {a0 a1 a2 a3 a4 a5 : Nat} {x0 x1 x2 x3 x4 x5 : α} (h0 : F a0 = x0) (h1 : F a1 = x1) (h2 : F a2 = x2) (h3 : F a3 = x3) (h4 : F a4 = x4) (h5 : F a5 = x5) : F = (upd (upd (upd (upd (upd (upd F a0 x0) a1 x1) a2 x2) a3 x3) a4 x4) a5 x5) := by
  rw [← upd_self h0, ← upd_self h1, ← upd_self h2, ← upd_self h3, ← upd_self h4, ← upd_self h5]
theorem has7 {α : Type} {F : Nat → α} {a0 a1 a2 a3 a4 a5 a6 : Nat} {x0 x1 x2 x3 x4 x5 x6 : α} (h0 : F a0 = x0) (h1 : F a1 = x1) (h2 : F a2 = x2) (h3 : F a3 = x3) (h4 : F a4 = x4) (h5 : F a5 = x5) (h6 : F a6 = x6) : F = (upd (upd (upd (upd (upd (upd (upd F a0 x0) a1 x1) a2 x2) a3 x3) a4 x4) a5 x5) a6 x6) := by
  rw [← upd_self h0, ← upd_self h1, ← upd_self h2, ← upd_self h3, ← upd_self h4, ← upd_self h5, ← upd_self h6]
theorem has8 {α : Type} {F : Nat → α} {a0 a1 a2 a3 a4 a5 a6 a7 : Nat} {x0 x1 x2 x3 x4 x5 x6 x7 : α} (h0 : F a0 = x0) (h1 : F a1 = x1) (h2 : F a2 = x2) (h3 : F a3 = x3) (h4 : F a4 = x4) (h5 : F a5 = x5) (h6 : F a6 = x6) (h7 : F a7 = x7) : F = (upd (upd (upd (upd (upd (upd (upd (upd F a0 x0) a1 x1) a2 x2) a3 x3) a4 x4) a5 x5) a6 x6) a7 x7) := by
  rw [← upd_self h0, ← upd_self h1, ← upd_self h2, ← upd_self h3, ← upd_self h4, ← upd_self h5, ← upd_self h6, ← upd_self h7]
theorem has9 {α : Type} {F : Nat → α} {a0 a1 a2 a3 a4 a5 a6 a7 a8 : Nat} {x0 x1 x2 x3 x4 x5 x6 x7 x8 : α} (h0 : F a0 = x0) (h1 : F a1 = x1) (h2 : F a2 = x2) (h3 : F a3 = x3) (h4 : F a4 = x4) (h5 : F a5 = x5) (h6 : F a6 = x6) (h7 : F a7 = x7) (h8 : F a8 = x8) : F = (upd (upd (upd (upd (upd (upd (upd (upd (upd F a0 x0) a1 x1) a2 x2) a3 x3) a4 x4) a5 x5) a6 x6) a7 x7) a8 x8) := by
  rw [← upd_self h0, ← upd_self h1, ← upd_self h2, ← upd_self h3, ← upd_self h4, ← upd_self h5, ← upd_self h6, ← upd_self h7, ← upd_self h8]
theorem has10 {α : Type} {F : Nat → α} {a0 a1 a2 a3 a4 a5 a6 a7 a8 a9 : Nat} {x0 x1 x2 x3 x4 x5 x6 x7 x8 x9 : α} (h0 : F a0 = x0) (h1 : F a1 = x1) (h2 : F a2 = x2) (h3 : F a3 = x3) (h4 : F a4 = x4) (h5 : F a5 = x5) (h6 : F a6 = x6) (h7 : F a7 = x7) (h8 : F a8 = x8) (h9 : F a9 = x9) : F = (upd (upd (upd (upd (upd (upd (upd (upd (upd (upd F a0 x0) a1 x1) a2 x2) a3 x3) a4 x4) a5 x5) a6 x6) a7 x7) a8 x8) a9 x9) := by
  rw [← upd_self h0, ← upd_self h1, ← upd_self h2, ← upd_self h3, ← upd_self h4, ← upd_self h5, ← upd_self h6, ← upd_self h7, ← upd_self h8, ← upd_self h9]
theorem has11 {α : Type} {F : Nat → α} {a0 a1 a2 a3 a4 a5 a6 a7 a8 a9 a10 : Nat} {x0 x1 x2 x3 x4 x5 x6 x7 x8 x9 x10 : α} (h0 : F a0 = x0) (h1 : F a1 = x1) (h2 : F a2 = x2) (h3 : F a3 = x3) (h4 : F a4 = x4) (h5 : F a5 = x5) (h6 : F a6 = x6) (h7 : F a7 = x7) (h8 : F a8 = x8) (h9 : F a9 = x9) (h10 : F a10 = x10) : F = (upd (upd (upd (upd (upd (upd (upd (upd (upd (upd (upd F a0 x0) a1 x1) a2 x2) a3 x3) a4 x4) a5 x5) a6 x6) a7 x7) a8 x8) a9 x9) a10 x10) := by
  rw [← upd_self h0, ← upd_self h1, ← upd_self h2, ← upd_self h3, ← upd_self h4, ← upd_self h5, ← upd_self h6, ← upd_self h7, ← upd_self h8, ← upd_self h9, ← upd_self h10]
theorem has12 {α : Type} {F : Nat → α} {a0 a1 a2 a3 a4 a5 a6 a7 a8 a9 a10 a11 : Nat} {x0 x1 x2 x3 x4 x5 x6 x7 x8 x9 x10 x11 : α} (h0 : F a0 = x0) (h1 : F a1 = x1) (h2 : F a2 = x2) (h3 : F a3 = x3) (h4 : F a4 = x4) (h5 : F a5 = x5) (h6 : F a6 = x6) (h7 : F a7 = x7) (h8 : F a8 = x8) (h9 : F a9 = x9) (h10 : F a10 = x10) (h11 : F a11 = x11) : F = (upd (upd (upd (upd (upd (upd (upd (upd (upd (upd (upd (upd F a0 x0) a1 x1) a2 x2) a3 x3) a4 x4) a5 x5) a6 x6) a7 x7) a8 x8) a9 x9) a10 x10) a11 x11) := by
  rw [← upd_self h0, ← upd_self h1, ← upd_self h2, ← upd_self h3, ← upd_self h4, ← upd_self h5, ← upd_self h6, ← upd_self h7, ← upd_self h8, ← upd_self h9, ← upd_self h10, ← upd_self h11]
/-! from a row's reading of its arguments to abstract values -/
/-- all of a world's cells -/
def Kd.of (w : World) : Kd := ⟨fun b i => (w.cell? ⟨b, i, none⟩).getD (.tuple #[]), fun b => match w.heap[b]? with
  | some (.cells arr _ _) => arr.size
  | _ => 0, fun _ _ _ => none, 0, fun _ _ _ _ => rfl⟩
theorem of_hw {w : World} {b i : Nat} (h : i < (Kd.of w).hw b) : (∃ o : Obj, w.heap[b]? = some o ∧ o.isCells = true) ∧ ∃ v, w.cell? ⟨b, i, none⟩ = some v := by
  have h' : i < match w.heap[b]? with | some (.cells arr _ _) => arr.size | _ => 0 := h
  split at h'
  · rename_i arr ty fz hb
    refine ⟨⟨_, hb, rfl⟩, ?_⟩
    rw [cell_of_row w b i arr ty fz hb]
    exact ⟨arr[i], by simp [h']⟩
  · omega
theorem kof_ok (w : World) : KOk (Kd.of w) w := fun b i hi => by
  obtain ⟨h1, v, h2⟩ := of_hw hi
  refine ⟨h1, fun _ => ?_⟩
  show _ = some ((w.cell? ⟨b, i, none⟩).getD (.tuple #[]))
  rw [h2]; rfl
theorem hw_of {w : World} {b i : Nat} {v : Value} (h : w.cell? ⟨b, i, none⟩ = some v) : i < (Kd.of w).hw b := by
  show i < match w.heap[b]? with | some (.cells arr _ _) => arr.size | _ => 0
  obtain ⟨o, h1, h2⟩ := cells_of_cell h
  simp only at h1
  cases o with
  | cells arr ty fz =>
    rw [h1]
    rw [cell_of_row w b i arr ty fz h1] at h
    show i < arr.size
    rcases Nat.lt_or_ge i arr.size with q | q
    · exact q
    · rw [Array.getElem?_eq_none q] at h; cases h
  | _ => cases h2
theorem val_of {w : World} {b i : Nat} {v : Value} (h : w.cell? ⟨b, i, none⟩ = some v) : (Kd.of w).val b i = v := by
  show (w.cell? ⟨b, i, none⟩).getD (.tuple #[]) = v
  rw [h]; rfl
/-- cells of a world, as abstract ones -/
theorem cells_of {w : World} {b o : Nat} {cs : List AV} (h : ∀ (i : Nat) (x : AV), cs[i]? = some x → ∃ v, w.cell? ⟨b, o + i, none⟩ = some v ∧ v.oneCell' = true ∧ KRep (Kd.of w) x v) :
    cs = [] ∨ ((Kd.of w).In b o cs.length ∧ ∀ (i : Nat) (x : AV), cs[i]? = some x → KRep (Kd.of w) x ((Kd.of w).val b (o + i))) := by
  by_cases h0 : cs = []
  · exact .inl h0
  · have hpos : 0 < cs.length := List.length_pos_iff.2 h0
    refine .inr ⟨⟨?_, fun i hi => ?_⟩, fun i x hx => ?_⟩
    · obtain ⟨v, h1, _⟩ := h (cs.length - 1) (cs[cs.length - 1]'(by omega)) (by simp)
      have := hw_of h1
      omega
    · obtain ⟨v, h1, h2, _⟩ := h i cs[i] (by simp [hi])
      rw [val_of h1]; exact h2
    · obtain ⟨v, h1, _, h3⟩ := h i x hx
      rw [val_of h1]; exact h3
theorem sl_of {w : World} {b o n cap : Nat} {cs : List AV} (hn : n ≤ cap) (hm : cap ≤ maxLen) (h0 : cs = [] → n = 0) (h : ∀ (i : Nat) (x : AV), cs[i]? = some x → ∃ v, w.cell? ⟨b, o + i, none⟩ = some v ∧ v.oneCell' = true ∧ KRep (Kd.of w) x v) :
    KRep (Kd.of w) (.sl false n cs) (.slice (some ⟨b, o, none⟩) n cap) := by
  rcases cells_of h with hnil | ⟨h1, h2⟩
  · subst hnil
    rw [h0 rfl]
    exact .sl0 _ _ _ hm (fun q => by cases q)
  · exact .sl _ _ _ _ _ _ hn hm (fun q => by cases q) h1 h2
theorem addr_plain_ {w : World} {x : Addr} {v : Value} (hc : w.cell? x = some v) : x = ⟨x.block, x.off, none⟩ := by
  unfold World.cell? at hc
  obtain ⟨bb, oo, ss⟩ := x
  cases ss with
  | none => rfl
  | some s =>
    exfalso
    simp at hc
    split at hc <;> simp at hc
theorem add_of_ {x : Addr} (hx : x = ⟨x.block, x.off, none⟩) (i : Nat) : x.add i = ⟨x.block, x.off + i, none⟩ := by
  unfold Addr.add
  split
  · rename_i h0; subst h0; rw [Nat.add_zero]; exact hx
  · rfl
def u8 (l : List UInt8) : List AV := l.map fun b => .int .u8 (b.toNat : Int)
theorem wf_u8 {n : Int} (h : (Lit.int .u8 n).wf = true) : 0 ≤ n ∧ n ≤ 255 := by
  simp [Lit.wf, IntKind.min, IntKind.max, IntKind.signed, IntKind.bits] at h
  omega
theorem aOfBytes_len' (l : List UInt8) : (aOfBytes l).length = l.length := by simp [aOfBytes]
/-- bytes that came in -/
theorem bytes_of {w : World} {a : Option Addr} {len cap : Nat} {zs : List Int}
    (h : (a = none ∧ len = 0 ∧ cap = 0 ∧ zs = []) ∨
      ∃ x, a = some x ∧ len ≤ cap ∧ cap ≤ maxLen ∧ zs.length = cap ∧ (∀ i, i < zs.length → w.cell? (x.add i) = some (.int .u8 (zs.getD i 0))) ∧ ∀ n ∈ zs, (Lit.int .u8 n).wf = true) :
    ∃ l : List UInt8, l.length = len ∧ KRep (Kd.of w) (.sl false l.length (aOfBytes l)) (.slice a len cap) := by
  rcases h with ⟨rfl, rfl, rfl, rfl⟩ | ⟨x, rfl, h1, h2, h3, h4, h5⟩
  · exact ⟨[], rfl, .sl0 _ _ _ (Nat.zero_le _) (fun q => by cases q)⟩
  · refine ⟨(zs.take len).map fun n => UInt8.ofNat n.toNat, by simp; omega, ?_⟩
    have hl : ((zs.take len).map fun n => UInt8.ofNat n.toNat).length = len := by simp; omega
    rw [hl]
    by_cases h0 : len = 0
    · subst h0
      simp only [List.take_zero, List.map_nil, aOfBytes]
      exact .sl0 _ _ _ h2 (fun q => by cases q)
    · have hx : x = ⟨x.block, x.off, none⟩ := addr_plain_ (h4 0 (by omega))
      rw [hx]
      refine sl_of h1 h2 (fun q => by have := congrArg List.length q; rw [aOfBytes_len', hl] at this; simpa using this) fun i y hy => ?_
      have hi : i < len := by have := getq_lt hy; rw [aOfBytes_len', hl] at this; exact this
      have hz : i < zs.length := by omega
      have hc := h4 i hz
      rw [add_of_ hx] at hc
      refine ⟨_, hc, rfl, ?_⟩
      have hw := wf_u8 (h5 (zs.getD i 0) (by simp [List.getD, hz]))
      have : y = .int .u8 (zs.getD i 0) := by
        simp only [aOfBytes, List.map_map, List.getElem?_map, Option.map_eq_some_iff] at hy
        obtain ⟨n, hn, rfl⟩ := hy
        rw [List.getElem?_take, if_pos hi] at hn
        have hn' : zs.getD i 0 = n := by simp [List.getD, hn]
        rw [hn'] at hw ⊢
        simp only [Function.comp]
        congr 1
        rw [UInt8.toNat_ofNat']
        omega
      subst this
      exact .int _ _
/-- a law's row out of its contract -/
theorem law_of {P : Program} {f : FuncId} {avs : List AV} {vs : Array Value} {w : World} (h : Spec P f avs (.k (.bool true))) (ha : ArgsR (Kd.of w) avs vs) : Calls P f vs w fun e w' => e = .returned (.bool true) ∧ Below w.heap.size w w' := by
  refine (h.2 (Kd.of w) w vs (kof_ok w) ha).mono ?_
  rintro e w' ⟨v, K', rfl, hb, _, _, _, _, hr⟩
  cases hr with | bool b => exact ⟨rfl, hb⟩
theorem argsR_nil {K : Kd} : ArgsR K [] #[] := ⟨rfl, fun i x v h => by simp at h⟩
theorem argsR1 {K : Kd} {x : AV} {v : Value} (h : KRep K x v) : ArgsR K [x] #[v] := ⟨rfl, fun i y u h1 h2 => by
  match i with
  | 0 => simp at h1 h2; subst h1 h2; exact h
  | i + 1 => simp at h1⟩
theorem argsR2 {K : Kd} {x y : AV} {v u : Value} (h : KRep K x v) (k : KRep K y u) : ArgsR K [x, y] #[v, u] := ⟨rfl, fun i y u h1 h2 => by
  match i with
  | 0 => simp at h1 h2; subst h1 h2; exact h
  | 1 => simp at h1 h2; subst h1 h2; exact k
  | i + 2 => simp at h1⟩
theorem argsR3 {K : Kd} {x y z : AV} {v u t : Value} (h : KRep K x v) (k : KRep K y u) (l : KRep K z t) : ArgsR K [x, y, z] #[v, u, t] := ⟨rfl, fun i y u h1 h2 => by
  match i with
  | 0 => simp at h1 h2; subst h1 h2; exact h
  | 1 => simp at h1 h2; subst h1 h2; exact k
  | 2 => simp at h1 h2; subst h1 h2; exact l
  | i + 3 => simp at h1⟩
theorem argsR4 {K : Kd} {x0 x1 x2 x3 : AV} {v0 v1 v2 v3 : Value} (h0 : KRep K x0 v0) (h1 : KRep K x1 v1) (h2 : KRep K x2 v2) (h3 : KRep K x3 v3) : ArgsR K [x0, x1, x2, x3] #[v0, v1, v2, v3] := ⟨rfl, fun i x v h1 h2 => by
  match i with
  | 0 => simp at h1 h2; subst h1 h2; exact h0
  | 1 => simp at h1 h2; subst h1 h2; exact h1
  | 2 => simp at h1 h2; subst h1 h2; exact h2
  | 3 => simp at h1 h2; subst h1 h2; exact h3
  | i + 4 => simp at h1⟩
theorem argsR5 {K : Kd} {x0 x1 x2 x3 x4 : AV} {v0 v1 v2 v3 v4 : Value} (h0 : KRep K x0 v0) (h1 : KRep K x1 v1) (h2 : KRep K x2 v2) (h3 : KRep K x3 v3) (h4 : KRep K x4 v4) : ArgsR K [x0, x1, x2, x3, x4] #[v0, v1, v2, v3, v4] := ⟨rfl, fun i x v h1 h2 => by
  match i with
  | 0 => simp at h1 h2; subst h1 h2; exact h0
  | 1 => simp at h1 h2; subst h1 h2; exact h1
  | 2 => simp at h1 h2; subst h1 h2; exact h2
  | 3 => simp at h1 h2; subst h1 h2; exact h3
  | 4 => simp at h1 h2; subst h1 h2; exact h4
  | i + 5 => simp at h1⟩
theorem argsR6 {K : Kd} {x0 x1 x2 x3 x4 x5 : AV} {v0 v1 v2 v3 v4 v5 : Value} (h0 : KRep K x0 v0) (h1 : KRep K x1 v1) (h2 : KRep K x2 v2) (h3 : KRep K x3 v3) (h4 : KRep K x4 v4) (h5 : KRep K x5 v5) : ArgsR K [x0, x1, x2, x3, x4, x5] #[v0, v1, v2, v3, v4, v5] := ⟨rfl, fun i x v h1 h2 => by
  match i with
  | 0 => simp at h1 h2; subst h1 h2; exact h0
  | 1 => simp at h1 h2; subst h1 h2; exact h1
  | 2 => simp at h1 h2; subst h1 h2; exact h2
  | 3 => simp at h1 h2; subst h1 h2; exact h3
  | 4 => simp at h1 h2; subst h1 h2; exact h4
  | 5 => simp at h1 h2; subst h1 h2; exact h5
  | i + 6 => simp at h1⟩
end Go.Proofs.Ytikganlbnhapcaa
