import Derived.Test.YtmlgpibjhegdeaaTkDec2
import Derived.Test.YtmlgpibjhegdeaaAvRow
namespace Go.Proofs.Ytmlgpibjhegdeaa
open Go.RowKit
set_option linter.unusedVariables false
set_option linter.unusedSimpArgs false
set_option maxRecDepth 20000
/-- a token, as it is handed on -/
structure TkV where
  full : Bool
  lit : List UInt8
  len : Int
  dist : Int
def TkV.av (t : TkV) : List AV := [.sl t.full t.lit.length (aOfBytes t.lit), .int .i64 t.len, .int .i64 t.dist]
def tkCells : List TkV → List AV
  | [] => []
  | t :: ts => t.av ++ tkCells ts
theorem tkCells_len : ∀ ts, (tkCells ts).length = ts.length * 3
  | [] => rfl
  | t :: ts => by rw [tkCells, List.length_append, tkCells_len ts]; simp [TkV.av]; omega
theorem tkCells_drop : ∀ (ts : List TkV) (i : Nat) (t : TkV), ts[i]? = some t → (tkCells ts).drop (i * 3) = t.av ++ tkCells (ts.drop (i + 1))
  | [], i, t, h => by simp at h
  | u :: ts, 0, t, h => by simp at h; subst h; simp [tkCells]
  | u :: ts, i + 1, t, h => by
    rw [show (i + 1) * 3 = i * 3 + 3 by omega, tkCells, List.drop_append]
    have h1 : u.av.length = 3 := rfl
    rw [List.drop_eq_nil_of_le (by omega), h1, show i * 3 + 3 - 3 = i * 3 by omega, tkCells_drop ts i t (by simpa using h), List.nil_append]
    simp
theorem tkCells_append (a b : List TkV) : tkCells (a ++ b) = tkCells a ++ tkCells b := by
  induction a with
  | nil => rfl
  | cons t a ih => simp only [List.cons_append, tkCells, ih, List.append_assoc]
theorem tkCells_take (ts : List TkV) (n : Nat) : tkCells (ts.take n) = (tkCells ts).take (n * 3) := by
  induction ts generalizing n with
  | nil => simp [tkCells]
  | cons t ts ih =>
    cases n with
    | zero => simp [tkCells]
    | succ n =>
      rw [List.take_succ_cons, tkCells, tkCells, ih, show (n + 1) * 3 = 3 + n * 3 by omega]
      have h1 : t.av.length = 3 := rfl
      rw [List.take_append, h1, List.take_of_length_le (l := t.av) (by omega), show 3 + n * 3 - 3 = n * 3 by omega]
def TkV.ofRd (x : List UInt8 × {n : Int // -9223372036854775808 ≤ n ∧ n ≤ 9223372036854775807} × {n : Int // -9223372036854775808 ≤ n ∧ n ≤ 9223372036854775807}) : TkV := ⟨false, x.1, x.2.1.1, x.2.2.1⟩
theorem tk_ofRd : ∀ l : List (List UInt8 × {n : Int // -9223372036854775808 ≤ n ∧ n ≤ 9223372036854775807} × {n : Int // -9223372036854775808 ≤ n ∧ n ≤ 9223372036854775807}), (l.flatMap fun x => [AV.sl false x.1.length (aOfBytes x.1)] ++ [AV.int .i64 x.2.1.1] ++ [AV.int .i64 x.2.2.1]) = tkCells (l.map TkV.ofRd)
  | [] => rfl
  | x :: l => by rw [List.flatMap_cons, tk_ofRd l]; rfl
def TkV.good (t : TkV) : Bool := goodB t.lit.length t.len t.dist
def TkV.enc (t : TkV) : List UInt8 :=
  if t.lit = [] then [UInt8.ofNat (t.len + 125).toNat, UInt8.ofNat ((t.dist - 1) / 256).toNat, UInt8.ofNat ((t.dist - 1) % 256).toNat] else UInt8.ofNat (t.lit.length - 1) :: t.lit
def encL : List TkV → List UInt8
  | [] => []
  | t :: ts => t.enc ++ encL ts
theorem encL_append (a b : List TkV) : encL (a ++ b) = encL a ++ encL b := by
  induction a with
  | nil => rfl
  | cons t a ih => simp only [List.cons_append, encL, ih, List.append_assoc]
def encR (full : Bool) (ts : List TkV) : AV :=
  if ts.all TkV.good = true then .tup [.sl full (encL ts).length (aOfBytes (encL ts)), .int .i64 0] else .tup [.sl true 0 [], .int .i64 3]
theorem good_lit {t : TkV} (h : t.good = true) : t.lit.length ≤ 128 := by
  unfold TkV.good goodB at h
  split at h
  · omega
  · simp at h; omega
theorem enc_le {t : TkV} (h : t.good = true) : t.enc.length ≤ 129 := by
  have := good_lit h
  unfold TkV.enc
  split <;> simp
  omega
theorem encL_le : ∀ {ts : List TkV}, ts.all TkV.good = true → (encL ts).length ≤ ts.length * 129
  | [], _ => Nat.le_refl _
  | t :: ts, h => by
    simp only [List.all_cons, Bool.and_eq_true] at h
    have := enc_le h.1
    have := encL_le h.2
    simp only [encL, List.length_append, List.length_cons]; omega
/-- the bytes that have been put down -/
def Acc (e : TypeId) (ks : List Nat) (T : Nat → Option (Nat × Ent)) (x : SV) (n : Nat) (cs : List AV) : Prop :=
  (x = .k (.sl true 0 []) ∧ n = 0 ∧ cs = []) ∨ ∃ d g, d ∈ ks ∧ x = .ow d g n e cs ∧ T d = some (g, .tag)
theorem Acc.nil {e : TypeId} {ks : List Nat} {T : Nat → Option (Nat × Ent)} : Acc e ks T (.k (.sl true 0 [])) 0 [] := .inl ⟨rfl, rfl, rfl⟩
theorem Acc.ow {e : TypeId} {ks : List Nat} {T : Nat → Option (Nat × Ent)} {d g n n' : Nat} {cs cs' : List AV} (hd : d ∈ ks) (hT : T d = some (g, .tag)) (hn : n = n') (hc : cs = cs') : Acc e ks T (.ow d g n e cs) n' cs' := by
  subst hn hc; exact .inr ⟨d, g, hd, rfl, hT⟩
def AccO (e : TypeId) (ks : List Nat) (T : Nat → Option (Nat × Ent)) (x : SV) (n : Nat) (cs : List AV) : Prop := ∃ d g, d ∈ ks ∧ x = .ow d g n e cs ∧ T d = some (g, .tag)
theorem AccO.ow {e : TypeId} {ks : List Nat} {T : Nat → Option (Nat × Ent)} {d g n n' : Nat} {cs cs' : List AV} (hd : d ∈ ks) (hT : T d = some (g, .tag)) (hn : n = n') (hc : cs = cs') : AccO e ks T (.ow d g n e cs) n' cs' := by
  subst hn hc; exact ⟨d, g, hd, rfl, hT⟩
theorem take_succ' {α : Type} {l : List α} {i : Nat} {x : α} (h : l[i]? = some x) : l.take (i + 1) = l.take i ++ [x] := by
  rw [List.take_add_one, h]; rfl
theorem toNat_small {n : Nat} (h : n < 256) : (UInt8.ofNat n).toNat = n := by rw [UInt8.toNat_ofNat']; omega
theorem aOfBytes_append (a b : List UInt8) : aOfBytes (a ++ b) = aOfBytes a ++ aOfBytes b := by simp [aOfBytes]
theorem enc_lit {t : TkV} (h : t.lit ≠ []) (hg : t.good = true) : aOfBytes t.enc = .int .u8 ((t.lit.length : Int) - 1) :: aOfBytes t.lit := by
  have := good_lit hg
  have h0 := List.length_pos_iff.2 h
  rw [TkV.enc, if_neg h, aOfBytes_cons, toNat_small (by omega)]
  congr 2; omega
theorem enc_pair {t : TkV} (h : t.lit = []) (hg : t.good = true) : 3 ≤ t.len ∧ t.len ≤ 130 ∧ 1 ≤ t.dist ∧ t.dist ≤ 4096 ∧ aOfBytes t.enc = [.int .u8 (t.len + 125), .int .u8 ((t.dist - 1) / 256), .int .u8 ((t.dist - 1) % 256)] := by
  have h1 : 3 ≤ t.len ∧ t.len ≤ 130 ∧ 1 ≤ t.dist ∧ t.dist ≤ 4096 := by simpa [TkV.good, goodB, h] using hg
  refine ⟨h1.1, h1.2.1, h1.2.2.1, h1.2.2.2, ?_⟩
  rw [TkV.enc, if_pos h]
  simp only [aOfBytes, List.map_cons, List.map_nil]
  rw [toNat_small (by omega), toNat_small (by omega), toNat_small (by omega)]
  rw [Int.toNat_of_nonneg (by omega), Int.toNat_of_nonneg (by omega), Int.toNat_of_nonneg (by omega)]
theorem all_take {ts : List TkV} {i : Nat} {t : TkV} (h : ts[i]? = some t) (ha : (ts.take i).all TkV.good = true) (hg : t.good = true) : (ts.take (i + 1)).all TkV.good = true := by
  rw [take_succ' h, List.all_append, ha]; simp [hg]
theorem encL_take {ts : List TkV} {i : Nat} {t : TkV} (h : ts[i]? = some t) : encL (ts.take (i + 1)) = encL (ts.take i) ++ t.enc := by
  rw [take_succ' h, encL_append]; simp [encL]
end Go.Proofs.Ytmlgpibjhegdeaa
