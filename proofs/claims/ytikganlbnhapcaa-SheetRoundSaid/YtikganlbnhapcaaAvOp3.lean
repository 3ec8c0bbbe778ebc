import Derived.Test.YtikganlbnhapcaaAvOp2
namespace Go.Proofs.Ytikganlbnhapcaa
open Go.RowKit
set_option linter.unusedVariables false
set_option linter.unusedSimpArgs false
theorem aZeros_len (n sz : Nat) (zr : List AV) : (aZeros n sz zr).length = n * sz := by simp [aZeros]
def sB (l : List UInt8) : ByteArray := ⟨l.toArray⟩
theorem ba_loop (b : ByteArray) : ∀ (n i : Nat) (r : List UInt8), b.size - i = n → ByteArray.toList.loop b i r = r.reverse ++ b.data.toList.drop i
  | 0, i, r, h => by
    rw [ByteArray.toList.loop, if_neg (by omega)]
    have : b.data.toList.length ≤ i := by simp; exact Nat.le_of_sub_eq_zero h
    rw [List.drop_eq_nil_of_le this]; simp
  | n + 1, i, r, h => by
    rw [ByteArray.toList.loop, if_pos (by omega), ba_loop b n (i + 1) _ (by omega)]
    have hi : i < b.data.toList.length := by simp; have : b.size = b.data.size := rfl; omega
    have hi2 : i < b.data.size := by simpa using hi
    rw [List.drop_eq_getElem_cons hi]
    have e : b.data[i]! = b.data[i] := by rw [getElem!_pos b.data i hi2]
    simp [ByteArray.get!, e]
theorem sB_toList (l : List UInt8) : (sB l).toList = l := by
  unfold ByteArray.toList
  rw [ba_loop _ _ 0 [] rfl]; simp [sB]
theorem sB_size (l : List UInt8) : (sB l).size = l.length := by simp [sB, ByteArray.size]
theorem sB_surj (s : ByteArray) : ∃ l, s = sB l := ⟨s.data.toList, by cases s; simp [sB]⟩
theorem beq_dec (l m : List UInt8) : (l == m) = decide (l = m) := by
  by_cases h : l = m
  · subst h; simp
  · simp [h]
theorem aBytes_of : ∀ l : List UInt8, aBytes (l.map fun b => .int .u8 (b.toNat : Int)) = some l
  | [] => rfl
  | b :: l => by
    simp only [List.map_cons, aBytes, aByte, aBytes_of l, Int.toNat_natCast]
    simp
theorem aBytes_of' (l : List UInt8) : aBytes (aOfBytes l) = some l := aBytes_of l
section
variable {P : Program} {γ : Nat} {F : Nat → SV} {T : Nat → Option (Nat × Ent)} {ν : Nat} {md : Md} {s : St} {s1 : St} {d : Nat} {dst : Option Nat} {ty t u : TypeId} {x y : Operand} {b : Bool}
variable {sz by_ : Nat} {zr : List AV} {un : TU} {ok : Bool} {el : TypeId} {sz2 by2 : Nat} {un2 : TU} {zr2 : List AV} {ok2 : Bool} {k : IntKind}
theorem d_mark {e g n : Nat} {e' : TypeId} {cs : List AV} (hx : St.ev ⟨F, T, ν, md⟩ x = .ow e g n e' cs) (hT : T e = some (g, .tag)) (ht : tiOf P t = ⟨ok, sz, by_, .sl el, zr⟩) (he : tiOf P el = ⟨true, sz2, by2, .int .u8, zr2⟩) (hn : 0 < n) :
    Det P γ ⟨F, T, ν, md⟩ (some d) (.convert t t x) ⟨upd F d (.k (.sl false n cs)), upd T e none, ν, md⟩ := Det.mk <| by
  have h1 : aConv P ⟨F, T, ν, md⟩ t t (.ow e g n e' cs) = none := by
    unfold aConv; simp only [ht]
    split <;> rfl
  simp only [aDet, aConvX, hx, h1, aMark, ht, elemOf?, Option.bind_some, he, hT, hn, and_self, if_true, Option.map_some, St.set, St.put]
theorem d_str {n : Nat} {cs : List AV} {l : List UInt8} (ht : tiOf P t = ⟨true, sz, by_, .sl el, zr⟩) (he : tiOf P el = ⟨ok, sz2, by2, .int .u8, zr2⟩) {sz3 by3 : Nat} {zr3 : List AV} {ok3 : Bool} (hu : tiOf P u = ⟨ok3, sz3, by3, .str, zr3⟩)
    (hx : St.cont ⟨F, T, ν, md⟩ 1 (St.ev ⟨F, T, ν, md⟩ x) = some (n, cs)) (hb : aBytes cs = some l) : Det P γ ⟨F, T, ν, md⟩ (some d) (.convert t u x) ⟨upd F d (.k (.str (sB l))), T, ν, md⟩ := Det.mk <| by
  simp only [aDet, aConvX, aConv, ht, hu, he, hx, Option.bind_some, hb, if_true, Option.map_some, St.put, sB]
theorem cmpNil_str {u : TU} {op : BinOp} {v : ByteArray} {y : Operand} : aCmpNil u op (.k (.str v)) y = none := by
  unfold aCmpNil nilSl; split <;> simp_all
theorem cmpNil_bool {u : TU} {op : BinOp} {v : Bool} {y : Operand} : aCmpNil u op (.k (.bool v)) y = none := by
  unfold aCmpNil nilSl; split <;> simp_all
theorem src_str {t' : TypeId} {l : List UInt8} (he : tiOf P el = ⟨true, sz2, by2, un2, zr2⟩) (hu : tiOf P t' = ⟨ok, sz, by_, .str, zr⟩) (hy : St.ev s y = .k (.str (sB l))) (hne : t ≠ t') (h1 : sz2 = 1) : aSrc P s el t t' (St.ev s y) = some (l.length, aOfBytes l) := by
  have h := src_strB he hu hy hne h1
  rw [sB_size] at h
  exact h
theorem d_streq {l m : List UInt8} {r : Bool} (hx : St.ev ⟨F, T, ν, md⟩ x = .k (.str (sB l))) (hy : St.ev ⟨F, T, ν, md⟩ y = .k (.str (sB m))) (hr : decide (l = m) = r) : Det P γ ⟨F, T, ν, md⟩ (some d) (.binOp .eql t x y u) ⟨upd F d (.k (.bool r)), T, ν, md⟩ := Det.mk <|
  dv rfl (by simp only [aVal, hx, hy, cmpNil_str, aBin, SV.av, sB_toList, Option.map_some, ← hr, beq_dec])
theorem d_strne {l m : List UInt8} {r : Bool} (hx : St.ev ⟨F, T, ν, md⟩ x = .k (.str (sB l))) (hy : St.ev ⟨F, T, ν, md⟩ y = .k (.str (sB m))) (hr : (!decide (l = m)) = r) : Det P γ ⟨F, T, ν, md⟩ (some d) (.binOp .neq t x y u) ⟨upd F d (.k (.bool r)), T, ν, md⟩ := Det.mk <|
  dv rfl (by simp only [aVal, hx, hy, cmpNil_str, aBin, SV.av, sB_toList, Option.map_some, ← hr, beq_dec])
theorem d_beq {p q r : Bool} (hx : St.ev ⟨F, T, ν, md⟩ x = .k (.bool p)) (hy : St.ev ⟨F, T, ν, md⟩ y = .k (.bool q)) (ht : tiOf P t = ⟨ok, sz, by_, .bool, zr⟩) (hr : (p == q) = r) : Det P γ ⟨F, T, ν, md⟩ (some d) (.binOp .eql t x y u) ⟨upd F d (.k (.bool r)), T, ν, md⟩ := Det.mk <|
  dv rfl (by simp only [aVal, hx, hy, ht, cmpNil_bool, aBin, SV.av, Option.map_some, hr])
theorem d_bne {p q r : Bool} (hx : St.ev ⟨F, T, ν, md⟩ x = .k (.bool p)) (hy : St.ev ⟨F, T, ν, md⟩ y = .k (.bool q)) (ht : tiOf P t = ⟨ok, sz, by_, .bool, zr⟩) (hr : (!(p == q)) = r) : Det P γ ⟨F, T, ν, md⟩ (some d) (.binOp .neq t x y u) ⟨upd F d (.k (.bool r)), T, ν, md⟩ := Det.mk <|
  dv rfl (by simp only [aVal, hx, hy, ht, cmpNil_bool, aBin, SV.av, Option.map_some, hr])
theorem d_copy {e g off n cap m r : Nat} {cs vs cs' : List AV} {t2 : TypeId} (hx : St.ev ⟨F, T, ν, md⟩ x = .os e g off n cap) (hT : T e = some (g, .obj cs)) (ht : tiOf P t = ⟨ok, sz, by_, .sl el, zr⟩) (he : tiOf P el = ⟨true, 1, by2, un2, zr2⟩) (hy : St.cont ⟨F, T, ν, md⟩ 1 (St.ev ⟨F, T, ν, md⟩ y) = some (m, vs)) (hl : off + n ≤ cs.length)
    (hm : min m n = r) (hr : cs.take off ++ vs.take n ++ cs.drop (off + r) = cs') : Det P γ ⟨F, T, ν, md⟩ (some d) (.call ⟨.builtin .copy, #[x, y], #[t, t2]⟩) ⟨upd F d (.k (.int .i64 (r : Int))), upd T e (some (g, .obj cs')), ν, md⟩ := Det.mk <| by
  subst hm hr
  simp only [aDet, aBuiltX, aCopy, hx, hT, ht, elemOf?, Option.bind_some, he, hy, hl, and_self, if_true, Option.map_some, St.put, St.set]
theorem d_copy0 {e g off n cap m r : Nat} {cs vs cs' : List AV} {t2 : TypeId} (hx : St.ev ⟨F, T, ν, md⟩ x = .os e g off n cap) (hT : T e = some (g, .obj cs)) (ht : tiOf P t = ⟨ok, sz, by_, .sl el, zr⟩) (he : tiOf P el = ⟨true, 1, by2, un2, zr2⟩) (hy : St.cont ⟨F, T, ν, md⟩ 1 (St.ev ⟨F, T, ν, md⟩ y) = some (m, vs)) (hl : off + n ≤ cs.length)
    (hm : min m n = r) (hr : cs.take off ++ vs.take n ++ cs.drop (off + r) = cs') : Det P γ ⟨F, T, ν, md⟩ none (.call ⟨.builtin .copy, #[x, y], #[t, t2]⟩) ⟨F, upd T e (some (g, .obj cs')), ν, md⟩ := Det.mk <| by
  subst hm hr
  simp only [aDet, aBuiltX, aCopy, hx, hT, ht, elemOf?, Option.bind_some, he, hy, hl, and_self, if_true, Option.map_some, St.put, St.set]
theorem d_idx_arr {n : Nat} {cs : List AV} {j : Int} {v : AV} (hx : St.ev ⟨F, T, ν, md⟩ x = .k (.agg cs)) (hj : St.ev ⟨F, T, ν, md⟩ y = .k (.int k j)) (ht : tiOf P t = ⟨ok, sz, by_, .arr n el, zr⟩) (he : tiOf P el = ⟨true, sz2, by2, un2, zr2⟩) (h0 : 0 ≤ j) (h1 : j < n) (hl : ldAgg un2 sz2 (cs.drop (j.toNat * sz2)) = some v) :
    Det P γ ⟨F, T, ν, md⟩ (some d) (.index t x y) ⟨upd F d (.k v), T, ν, md⟩ := Det.mk <|
  dv rfl (by simp only [aVal, hx, hj, St.int?, SV.av, Option.bind_some, ht, aIdx, he]; rw [if_pos ⟨trivial, h0, h1⟩, hl]; rfl)
theorem sne_f {l m : List UInt8} (h : l = m) : (!decide (l = m)) = false := by simp [h]
theorem sne_t {l m : List UInt8} (h : ¬ l = m) : (!decide (l = m)) = true := by simp [h]
end
end Go.Proofs.Ytikganlbnhapcaa
