import Derived.Test.YtikganlbnhapcaaOwn
import Derived.Laws.BytesArg
import Derived.Lib.AppendStr
namespace Go.Proofs.Ytikganlbnhapcaa
open Go.RowKit Go.Lib
set_option linter.unusedVariables false
set_option linter.unusedSimpArgs false

/-- the text of bytes -/
def sOf (l : List (BitVec 8)) : ByteArray := ⟨(l.map UInt8.ofBitVec).toArray⟩
theorem sOf_size (l : List (BitVec 8)) : (sOf l).size = l.length := by
  show (l.map UInt8.ofBitVec).toArray.size = _; simp
theorem sOf_surj (s : ByteArray) : ∃ l, s = sOf l := by
  refine ⟨s.data.toList.map UInt8.toBitVec, ?_⟩
  cases s with
  | mk d =>
    show ByteArray.mk d = ⟨_⟩
    rw [List.map_map, show UInt8.ofBitVec ∘ UInt8.toBitVec = id from rfl]; simp
theorem sOf_inj {a b : List (BitVec 8)} : sOf a = sOf b ↔ a = b := by
  constructor
  · intro h
    have h2 := congrArg (fun s : ByteArray => s.data.toList.map UInt8.toBitVec) h
    have e : ∀ l : List (BitVec 8), (sOf l).data.toList.map UInt8.toBitVec = l := fun l => by
      show ((l.map UInt8.ofBitVec).toArray.toList).map UInt8.toBitVec = l
      rw [List.toList_toArray, List.map_map, show UInt8.toBitVec ∘ UInt8.ofBitVec = id from rfl]; simp
    simp only [e] at h2; exact h2
  · rintro rfl; rfl
theorem sOf_nil : sOf [] = ByteArray.empty := rfl
theorem sOf_toList (l : List (BitVec 8)) : (sOf l).toList = l.map UInt8.ofBitVec := by
  rw [Go.ByteArray.toList_eq]; simp [sOf]
theorem sOf_toList_nil (l : List (BitVec 8)) : (sOf l).toList = [] ↔ l = [] := by rw [sOf_toList]; simp
theorem sOf_toList_beq (a b : List (BitVec 8)) : ((sOf a).toList == (sOf b).toList) = decide (a = b) := by
  rw [sOf_toList, sOf_toList]
  by_cases h : a = b
  · subst h; simp
  · rw [decide_eq_false h, beq_eq_false_iff_ne]
    intro e
    apply h
    rw [← sOf_inj]; unfold sOf; rw [e]
theorem sOf_append (a b : List (BitVec 8)) : sOf a ++ sOf b = sOf (a ++ b) := by
  apply ByteArray.ext
  rw [ByteArray.data_append]; simp [sOf]
theorem sOf_get (l : List (BitVec 8)) (i : Nat) (h : i < (sOf l).size) : ((sOf l)[i].toNat : Int) = n8 (l.getD i 0) := by
  have hi : i < l.length := by rw [sOf_size] at h; exact h
  show (((l.map UInt8.ofBitVec).toArray[i]'(by simpa using hi)).toNat : Int) = _
  simp [n8, hi, UInt8.toNat]
theorem sOf_extract (l : List (BitVec 8)) (i j : Nat) : (sOf l).extract i j = sOf ((l.take j).drop i) := by
  apply ByteArray.ext
  rw [ByteArray.data_extract]
  apply Array.ext'
  simp [sOf, Array.toList_extract, List.extract]
  simp only [← List.map_take, ← List.map_drop, List.drop_take]
theorem nums_sOf (l : List (BitVec 8)) : strOfNums (l.map n8) = sOf l := by
  unfold strOfNums sOf
  rw [List.map_map]
  congr 2
  refine List.map_congr_left fun b _ => ?_
  show UInt8.ofNat (n8 b).toNat = _
  unfold n8
  rw [Int.toNat_natCast]
  exact UInt8.toBitVec_inj.1 (by simp)

theorem strCells_sOf (l : List (BitVec 8)) : strCells (sOf l) = B8 l := by
  unfold strCells B8
  show ((l.map UInt8.ofBitVec).toArray.toList).map _ = _
  rw [List.toList_toArray, List.map_map]
  exact List.map_congr_left fun b _ => rfl

/-- append(bytes, text...) -/
theorem wpList_append_str {P : Program} {W0 w : World} {ops : Array Oper} {rest : List Oper} {o : Oper} {a : Act} {Q : Exit → Act → World → Prop} (hgd : o.guard = none)
    (s x : Operand) (t u : TypeId) (ho : o.op = .call { callee := .builtin .append, args := #[s, x], argTypes := #[t, u] })
    {e : TypeId} (T : SlT P t e (.int .u8 0) 1) (hu : P.underlying u = some .string) (v : Value) (xs : List Value) (l : List (BitVec 8)) (hs : a.eval s = v) (hx : a.eval x = .string (sOf l)) (hB : Below W0.heap.size W0 w)
    (hown : Own w W0.heap.size e v xs) (h63 : xs.length + l.length ≤ 140737488355328)
    (h : ∀ v' w', Own w' W0.heap.size e v' (xs ++ B8 l) → Below W0.heap.size W0 w' → w.grownBy w' v.ownBlock → wpList P ops Q rest (a.put o.dst v') w') : wpList P ops Q (o :: rest) a w := by
  obtain ⟨i, hi, hz, hs1, hb⟩ := info_parts T.hi
  refine wpList_append_own_string w hgd s x t u ho W0.heap.size e i T.ht hu hi hz hs1 hb v xs.length xs hs hown (sOf l) hx (by rw [sOf_size]; unfold maxLen; omega) (by rw [sOf_size]; exact h63) hB.size ?_
  intro v' w' h1 h2 _
  refine h v' w' ?_ (hB.grown h2 hB.size hown.base) h2
  rw [strCells_sOf, sOf_size] at h1
  unfold Own
  rw [List.length_append, B8_len]; exact h1

/-- string(bytes) -/
theorem run_str {P : Program} {w : World} {v : Value} {l : List (BitVec 8)} (h : Rd w v (B8 l)) {src e dst : TypeId} (hs : P.underlying src = some (.slice e)) (he : P.underlying e = some (.int .u8)) (hd : P.underlying dst = some .string) :
    (convert src dst v).run P w = .ok (.string (sOf l)) w := by
  obtain ⟨a, cap, rfl, hc, hm, hr⟩ := h
  rw [B8_len] at *
  rcases hr with h0 | ⟨b, off, rfl, hcell⟩
  · have : l = [] := List.eq_nil_of_length_eq_zero h0
    subst this
    cases a with
    | none => exact run_convert_bytes_nil w src e hs he _ _ dst hd
    | some x => 
      rw [run_convert_bytes_string w src dst e _ _ _ hs he hd]
      have hl : (loadCells x 0).run P w = .ok #[] w := by simpa using run_loadCells_list (P := P) w x [] (by simp)
      have hh := run_bytesToString (P := P) w x 0 cap [] (by simpa using hl)
      exact hh
  · have := run_convert_bytes_arg (P := P) w src e hs he b off l.length cap (l.map n8) (by simp) (fun i hi => by
      rw [hcell i hi, B8_getD _ _ hi]; simp [hi]) dst hd
    rwa [nums_sOf] at this

theorem wpList_conv_str {P : Program} {w : World} {ops : Array Oper} {rest : List Oper} {o : Oper} {a : Act} {Q : Exit → Act → World → Prop} (hw : Region.wanted o (yielded ops a.tmps) = true)
    (src dst : TypeId) (x : Operand) (ho : o.op = .convert src dst x) (e : TypeId) (hs : P.underlying src = some (.slice e)) (he : P.underlying e = some (.int .u8)) (hd : P.underlying dst = some .string)
    (v : Value) (l : List (BitVec 8)) (hx : a.eval x = v) (hr : Rd w v (B8 l)) (h : wpList P ops Q rest (a.put o.dst (.string (sOf l))) w) : wpList P ops Q (o :: rest) a w := by
  refine wpList_step fun K hK => ?_
  rw [if_pos hw]
  unfold Oper.wp execOp
  simp only [ho, hx, Sem.run_bind, Sem.run_pure, Result.andThen_ok, run_str hr hs he hd]
  exact hK _ _ h

end Go.Proofs.Ytikganlbnhapcaa
