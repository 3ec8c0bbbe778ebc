import Derived.Test.YtmlgpibjhegdeaaProg
import Derived.Test.YtmlgpibjhegdeaaOctet
import Derived.RegionTactic
import Derived.ChangeAlike
import Derived.Below
import Derived.Deep.Draws
import Derived.OwnWalk
import Derived.Tactics
import Derived.WalkKit
import Derived.KernelRfl
import Derived.RowKit3
import Derived.Deep.LoopGhost
import Derived.Deep.QuietTactic
import Derived.BigQuiet
import Derived.WideLaws
import Derived.Deep.DeepCutAuto
import Derived.Deep.CutBlock
import Derived.Laws.Rows
import Derived.Outline
import Derived.Lib.Hide
namespace Go.Proofs.Ytmlgpibjhegdeaa
open Go.RowKit
set_option linter.unusedVariables false
set_option linter.unusedSimpArgs false


/-- a reader: none: lost; else what is left -/
def RdS (w : World) (g : Nat) (st : Option (List (BitVec 8))) : Prop :=
  ∃ (l : List (BitVec 8)) (lost : Bool), w.heap[g]? = some (.cells #[.string (sOf l), .bool lost] 71 (0, 0)) ∧ l.length ≤ 1000000000 ∧ st = if lost then none else some l
/-- only one block has turned -/
structure Only (g : Nat) (w w' : World) : Prop where
  same : ∀ k, k ≠ g → w'.heap[k]? = w.heap[k]?
  below : ∀ B W0, Below B W0 w → B ≤ g → Below B W0 w'
theorem Only.refl (g : Nat) (w : World) : Only g w w := ⟨fun _ _ => rfl, fun _ _ h _ => h⟩
theorem Only.trans {g : Nat} {w w1 w2 : World} (h : Only g w w1) (k : Only g w1 w2) : Only g w w2 :=
  ⟨fun i hi => (k.same i hi).trans (h.same i hi), fun B W0 hb hg => k.below _ _ (h.below _ _ hb hg) hg⟩
theorem Only.setCell (w : World) (p : Addr) (v : Value) : Only p.block w (w.setCell p v) :=
  ⟨fun k hk => heap_setCell_other _ _ _ _ hk, fun B W0 hb hg => hb.setCell hg _⟩
theorem Only.drew (w : World) (g : Nat) : Only g w w.drew := ⟨fun _ _ => rfl, fun B W0 hb _ => hb.drew⟩

theorem fold_snoc {α β : Type} (f : β → α → β) (d : α) (s : β) (l : List α) (k : Nat) (h : k < l.length) :
    (l.take (k + 1)).foldl f s = f ((l.take k).foldl f s) (l.getD k d) := by
  rw [List.take_succ_eq_append_getElem h, List.foldl_append]
  simp [h]
def vN (l : List (BitVec 8)) : BitVec 64 := l.foldl (fun n b => n <<< 8 + b.setWidth 64) 0#64
theorem vN_step (x : BitVec 64) (b : BitVec 8) : IntKind.u64.wrap (IntKind.u64.wrap (n64 x * 256) + IntKind.u64.wrap (n8 b)) = n64 (x <<< 8 + b.setWidth 64) := by
  rw [IntKind.wrap_u64, IntKind.wrap_u64, IntKind.wrap_u64]
  unfold n64 n8
  rw [BitVec.toNat_add, BitVec.toNat_shiftLeft, BitVec.toNat_setWidth, Nat.shiftLeft_eq]
  have := b.isLt
  rw [Nat.mod_eq_of_lt (by omega : b.toNat < 2 ^ 64)]
  simp

set_option maxHeartbeats 800000 in
theorem value_calls (l : List (BitVec 8)) (w : World) (hl : l.length ≤ 1000000000) :
    Calls Try.prog 47 #[.string (sOf l)] w fun e w' => e = .returned (.int .i64 (wrap64 (n64 (vN l)))) ∧ w = w' := by
  have hz := sOf_size l
  go_enter Try.func47, Try.ntmps47
  go_wp2
  go_loop [3, 7] (fun n i => ∃ k : Nat, k ≤ l.length ∧ i = .int .i64 k ∧ n = .int .u64 (n64 (vN (l.take k)))) (fun _ i => l.length - (intOf i).toNat)
  case atStart => exact ⟨0, by omega, rfl, rfl⟩
  case round =>
    obtain ⟨k, hk, rfl, rfl⟩ := hrel
    by_cases hlt : k < l.length
    · have hlt2 : k < (sOf l).size := by omega
      have hg := sOf_get l k hlt2
      go_wp2
      go_round
      case rel =>
        refine ⟨k + 1, by omega, by go_num, ?_⟩
        rw [vN_step]; unfold vN; rw [fold_snoc _ 0 _ _ _ hlt]; simp [hlt]
      case measure => simp only [intOf]; omega
    · have em : Hid (k = l.length) := Lib.hid (by omega)
      go_wp2
      go_ret
      exact ⟨by rw [em.out, List.take_length]; rfl, rfl⟩

set_option maxHeartbeats 800000 in
theorem next_nil (n : Int) (w : World) :
    Calls Try.prog 46 #[.pointer none, .int .i64 n] w fun e w' => e = .returned (.tuple #[.string (sOf []), .bool false]) ∧ w = w' := by
  go_enter Try.func46, Try.ntmps46
  go_wp2
  go_ret2
  exact ⟨rfl, rfl⟩

def nxOut (n : Nat) : Option (List (BitVec 8)) → List (BitVec 8)
  | none => []
  | some l => if n ≤ l.length then l.take n else []
def nxOk (n : Nat) : Option (List (BitVec 8)) → Bool
  | none => false
  | some l => decide (n ≤ l.length)
def nxSt (n : Nat) : Option (List (BitVec 8)) → Option (List (BitVec 8))
  | none => none
  | some l => if n ≤ l.length then some (l.drop n) else none

set_option maxHeartbeats 1600000 in
theorem next_calls (g : Nat) (st : Option (List (BitVec 8))) (n : Nat) (w : World) (h : RdS w g st) :
    Calls Try.prog 46 #[.pointer (some ⟨g, 0, none⟩), .int .i64 (n : Int)] w fun e w' => e = .returned (.tuple #[.string (sOf (nxOut n st)), .bool (nxOk n st)]) ∧ RdS w' g (nxSt n st) ∧ Only g w w' := by
  obtain ⟨l, lost, hg, hl, rfl⟩ := h
  have c0 := cell_of_row w g 0 _ _ _ hg
  have c1 := cell_of_row w g 1 _ _ _ hg
  simp only [List.getElem?_toArray, List.getElem?_cons_zero, List.getElem?_cons_succ] at c0 c1
  have f0 := frozen_of_row w g 0 _ _ hg
  have f1 := frozen_of_row w g 1 _ _ hg
  have HG := Lib.hid hg
  have hz := sOf_size l
  have HZ := Lib.hid hz
  clear hg
  cases lost with
  | true =>
    clear hz
    go_enter Try.func46, Try.ntmps46
    go_wp2
    go_ret2
    exact ⟨rfl, ⟨l, true, HG.out, hl, rfl⟩, Only.refl _ _⟩
  | false =>
    by_cases hn : n ≤ l.length
    · have hn2 : (n : Int) ≤ (sOf l).size := by omega
      have e1 := sOf_extract l 0 n
      have e2 := sOf_extract l n l.length
      have E1 := Lib.hid e1
      have E2 := Lib.hid e2
      clear e1 e2
      go_enter Try.func46, Try.ntmps46
      go_wp2_with fail
      go_region
      all_goals
        go_wp2
        go_ret2
        refine ⟨?_, ⟨l.drop n, false, ?_, by simp; omega, ?_⟩, ?_⟩
        · simp only [nxOut, nxOk, if_pos hn, decide_eq_true hn]
          have := E1.out
          rw [List.drop_zero] at this
          rw [← this]; rfl
        · rw [heap_drew, heap_setCell_same _ _ _ _ _ _ HG.out, E2.out, List.take_length]; rfl
        · simp [nxSt, hn]
        · exact (Only.setCell w ⟨g, 0, none⟩ _).trans (Only.drew _ _)
    · have hn2 : ¬ (n : Int) ≤ (sOf l).size := by omega
      go_enter Try.func46, Try.ntmps46
      go_wp2
      go_ret2
      refine ⟨?_, ⟨l, true, ?_, hl, ?_⟩, Only.setCell w ⟨g, 1, none⟩ _⟩
      · simp only [nxOut, nxOk, if_neg hn, decide_eq_false hn]; rfl
      · rw [heap_setCell_same _ _ _ _ _ _ HG.out]; rfl
      · simp [nxSt, hn]

def vI (l : List (BitVec 8)) : Int := wrap64 (n64 (vN l))
def rI (st : Option (List (BitVec 8))) : Int := vI (nxOut 8 st)
def rT (most : Int) (st : Option (List (BitVec 8))) : List (BitVec 8) :=
  if nxOk 2 st && decide (vI (nxOut 2 st) ≤ most) then nxOut (vI (nxOut 2 st)).toNat (nxSt 2 st) else []
def rTs (most : Int) (st : Option (List (BitVec 8))) : Option (List (BitVec 8)) :=
  if nxOk 2 st && decide (vI (nxOut 2 st) ≤ most) then nxSt (vI (nxOut 2 st)).toNat (nxSt 2 st) else none
theorem nxOut_len (n : Nat) (st : Option (List (BitVec 8))) : (nxOut n st).length ≤ n := by
  cases st with
  | none => simp [nxOut]
  | some l => simp only [nxOut]; split <;> simp; omega
theorem vN2 (a b : BitVec 8) : n64 (vN [a, b]) = n8 a * 256 + n8 b := by
  have ha := a.isLt
  have hb := b.isLt
  simp [vN, n64, n8, BitVec.toNat_add, BitVec.toNat_shiftLeft, Nat.shiftLeft_eq]
  omega
theorem vI2 (st : Option (List (BitVec 8))) : 0 ≤ vI (nxOut 2 st) ∧ vI (nxOut 2 st) < 65536 := by
  have hl := nxOut_len 2 st
  generalize nxOut 2 st = l at hl
  unfold vI
  match l, hl with
  | [], _ =>
    rw [show n64 (vN []) = 0 from rfl]; unfold wrap64; omega
  | [a], _ =>
    have ha := a.isLt
    have : n64 (vN [a]) = n8 a := by simp [vN, n64, n8, BitVec.toNat_add]; omega
    rw [this]; unfold wrap64 n8; omega
  | [a, b], _ =>
    rw [vN2]
    have ha := a.isLt
    have hb := b.isLt
    unfold wrap64 n8; omega
theorem vI_nil : wrap64 (n64 (vN [])) = 0 := by
  rw [show n64 (vN []) = 0 from rfl]; unfold wrap64; omega
theorem nx_lost (n : Nat) (st : Option (List (BitVec 8))) (h : nxOk n st = false) : nxSt n st = none ∧ nxOut n st = [] := by
  cases st with
  | none => exact ⟨rfl, rfl⟩
  | some l => simp [nxOk] at h; simp [nxSt, nxOut]; omega

theorem next_calls_v (g : Nat) (st : Option (List (BitVec 8))) (n : Nat) (v : Int) (hv : v = (n : Int)) (w : World) (h : RdS w g st) :
    Calls Try.prog 46 #[.pointer (some ⟨g, 0, none⟩), .int .i64 v] w fun e w' => e = .returned (.tuple #[.string (sOf (nxOut n st)), .bool (nxOk n st)]) ∧ RdS w' g (nxSt n st) ∧ Only g w w' := by
  subst hv; exact next_calls g st n w h

set_option maxHeartbeats 800000 in
theorem rint_nil (w : World) : Calls Try.prog 23 #[.pointer none] w fun e w' => e = .returned (.int .i64 0) ∧ w = w' := by
  go_enter Try.func23, Try.ntmps23
  go_wp2_with fail
  refine (next_nil _ _).mono ?_
  rintro e w' ⟨rfl, rfl⟩
  go_wp2_with fail
  refine (value_calls _ _ (by simp)).mono ?_
  rintro e w' ⟨rfl, rfl⟩
  rw [vI_nil]
  go_wp2
  go_ret
  exact ⟨rfl, rfl⟩

set_option maxHeartbeats 800000 in
theorem rint_calls (g : Nat) (st : Option (List (BitVec 8))) (w : World) (h : RdS w g st) :
    Calls Try.prog 23 #[.pointer (some ⟨g, 0, none⟩)] w fun e w' => e = .returned (.int .i64 (rI st)) ∧ RdS w' g (nxSt 8 st) ∧ Only g w w' := by
  go_enter Try.func23, Try.ntmps23
  go_wp2_with fail
  refine (next_calls g st 8 _ h).mono ?_
  rintro e w1 ⟨rfl, h1, o1⟩
  have hl := nxOut_len 8 st
  go_wp2_with fail
  refine (value_calls _ _ (by omega)).mono ?_
  rintro e w' ⟨rfl, rfl⟩
  go_wp2
  go_ret
  exact ⟨rfl, h1, o1⟩

set_option maxHeartbeats 800000 in
theorem rtext_nil (most : Int) (w : World) : Calls Try.prog 25 #[.pointer none, .int .i64 most] w fun e w' => e = .returned (.string (sOf [])) ∧ w = w' := by
  go_enter Try.func25, Try.ntmps25
  go_wp2_with fail
  refine (next_nil _ _).mono ?_
  rintro e w' ⟨rfl, rfl⟩
  go_wp2
  go_ret
  exact ⟨rfl, rfl⟩

set_option maxHeartbeats 1600000 in
theorem rtext_calls (g : Nat) (st : Option (List (BitVec 8))) (most : Int) (w : World) (h : RdS w g st) :
    Calls Try.prog 25 #[.pointer (some ⟨g, 0, none⟩), .int .i64 most] w fun e w' => e = .returned (.string (sOf (rT most st))) ∧ RdS w' g (rTs most st) ∧ Only g w w' := by
  go_enter Try.func25, Try.ntmps25
  go_wp2_with fail
  refine (next_calls g st 2 _ h).mono ?_
  rintro e w1 ⟨rfl, h1, o1⟩
  have hl := nxOut_len 2 st
  have hv := vI2 st
  have Hl := nx_lost 2 st
  have hT : rT most st = if nxOk 2 st && decide (vI (nxOut 2 st) ≤ most) then nxOut (vI (nxOut 2 st)).toNat (nxSt 2 st) else [] := rfl
  have hTs : rTs most st = if nxOk 2 st && decide (vI (nxOut 2 st) ≤ most) then nxSt (vI (nxOut 2 st)).toNat (nxSt 2 st) else none := rfl
  cases hok : nxOk 2 st
  · obtain ⟨e1, e2⟩ := Hl hok
    rw [hok] at hT hTs
    have HT := Lib.hid hT
    have HTs := Lib.hid hTs
    rw [e1] at h1
    have HH := Lib.hid h1
    clear hT hTs Hl hok e1 e2 hl hv h1
    go_wp2
    go_ret
    exact ⟨by rw [HT.out]; rfl, by rw [HTs.out]; exact HH.out, o1⟩
  · rw [hok] at hT hTs
    simp only [Bool.true_and, decide_eq_true_eq] at hT hTs
    have HT := Lib.hid hT
    have HTs := Lib.hid hTs
    have HH := Lib.hid h1
    clear hT hTs Hl hok h1
    go_wp2_with fail
    refine (value_calls _ _ (by omega)).mono ?_
    rintro e w' ⟨rfl, rfl⟩
    rw [show wrap64 (n64 (vN (nxOut 2 st))) = vI (nxOut 2 st) from rfl]
    by_cases hm : vI (nxOut 2 st) ≤ most
    · have hT := HT.out
      have hTs := HTs.out
      rw [if_pos hm] at hT hTs
      have HT := Lib.hid hT
      have HTs := Lib.hid hTs
      clear hT hTs
      go_wp2_with fail
      refine (value_calls _ _ (by omega)).mono ?_
      rintro e w' ⟨rfl, rfl⟩
      rw [show wrap64 (n64 (vN (nxOut 2 st))) = vI (nxOut 2 st) from rfl]
      go_wp2_with fail
      refine (next_calls_v g (nxSt 2 st) (vI (nxOut 2 st)).toNat _ (by omega) _ HH.out).mono ?_
      rintro e w2 ⟨rfl, h2, o2⟩
      go_wp2
      go_ret
      exact ⟨by rw [HT.out]; rfl, by rw [HTs.out]; exact h2, o1.trans o2⟩
    · have hT := HT.out
      have hTs := HTs.out
      rw [if_neg hm] at hT hTs
      have HT := Lib.hid hT
      have HTs := Lib.hid hTs
      clear hT hTs
      obtain ⟨l2, lost2, hg2, hl2, -⟩ := HH.out
      have c1 := cell_of_row w1 g 1 _ _ _ hg2
      simp only [List.getElem?_toArray, List.getElem?_cons_zero, List.getElem?_cons_succ] at c1
      have f1 := frozen_of_row w1 g 1 _ _ hg2
      have HG := Lib.hid hg2
      clear hg2
      go_wp2
      go_ret
      refine ⟨by rw [HT.out]; rfl, ⟨l2, true, ?_, hl2, by rw [HTs.out]; rfl⟩, o1.trans (Only.setCell w1 ⟨g, 1, none⟩ _)⟩
      rw [heap_setCell_same _ _ _ _ _ _ HG.out]; rfl

set_option maxHeartbeats 800000 in
theorem rleft_nil (w : World) : Calls Try.prog 26 #[.pointer none] w fun e w' => e = .returned (.int .i64 0) ∧ w = w' := by
  go_enter Try.func26, Try.ntmps26
  go_wp2
  go_ret
  exact ⟨rfl, rfl⟩
theorem rend_nil (w : World) : Calls Try.prog 27 #[.pointer none] w fun e w' => e = .returned (.bool false) ∧ w = w' := by
  go_enter Try.func27, Try.ntmps27
  go_wp2
  go_ret
  exact ⟨rfl, rfl⟩
def rLeft : Option (List (BitVec 8)) → Int
  | none => 0
  | some l => l.length
def rEnd : Option (List (BitVec 8)) → Bool
  | none => false
  | some l => decide (l = [])
set_option maxHeartbeats 800000 in
theorem rleft_calls (g : Nat) (st : Option (List (BitVec 8))) (w : World) (h : RdS w g st) :
    Calls Try.prog 26 #[.pointer (some ⟨g, 0, none⟩)] w fun e w' => e = .returned (.int .i64 (rLeft st)) ∧ w = w' := by
  obtain ⟨l, lost, hg, hl, rfl⟩ := h
  have c0 := cell_of_row w g 0 _ _ _ hg
  have c1 := cell_of_row w g 1 _ _ _ hg
  simp only [List.getElem?_toArray, List.getElem?_cons_zero, List.getElem?_cons_succ] at c0 c1
  have hz := sOf_size l
  clear hg
  cases lost
  all_goals
    go_enter Try.func26, Try.ntmps26
    go_wp2
    go_ret
    exact ⟨rfl, rfl⟩
set_option maxHeartbeats 800000 in
theorem rend_calls (g : Nat) (st : Option (List (BitVec 8))) (w : World) (h : RdS w g st) :
    Calls Try.prog 27 #[.pointer (some ⟨g, 0, none⟩)] w fun e w' => e = .returned (.bool (rEnd st)) ∧ w = w' := by
  obtain ⟨l, lost, hg, hl, rfl⟩ := h
  have c0 := cell_of_row w g 0 _ _ _ hg
  have c1 := cell_of_row w g 1 _ _ _ hg
  simp only [List.getElem?_toArray, List.getElem?_cons_zero, List.getElem?_cons_succ] at c0 c1
  clear hg
  have he : (sOf l).toList = [] ↔ l = [] := sOf_toList_nil l
  cases lost
  · by_cases h0 : l = []
    · have h1 : (sOf l).toList = [] := he.2 h0
      have h2 : Hid (rEnd (some l) = true) := Lib.hid (by simp [rEnd, h0])
      clear he h0
      go_enter Try.func27, Try.ntmps27
      go_wp2
      go_ret
      exact ⟨by rw [h2.out]; rfl, rfl⟩
    · have h1 : ¬ (sOf l).toList = [] := fun h => h0 (he.1 h)
      have h1' : (sOf l).toList.isEmpty = false := by simpa using h1
      have h2 : Hid (rEnd (some l) = false) := Lib.hid (by simp [rEnd, h0])
      clear he h0
      go_enter Try.func27, Try.ntmps27
      go_wp2
      go_ret
      exact ⟨by rw [h2.out]; rfl, rfl⟩
  · go_enter Try.func27, Try.ntmps27
    go_wp2
    go_ret
    exact ⟨rfl, rfl⟩

theorem onew_calls (l : List (BitVec 8)) (v : Value) (w : World) (h : Rd w v (B8 l)) (hl : l.length ≤ 1000000000) :
    Calls Try.prog 21 #[v] w fun e w' => ∃ g, e = .returned (.pointer (some ⟨g, 0, none⟩)) ∧ RdS w' g (some l) ∧ w.heap.size ≤ g ∧ Below w.heap.size w w' := by
  have hs := run_str h Try.underlying22 Try.underlying5 Try.underlying9
  go_enter Try.func21, Try.ntmps21
  go_wp2
  go_ret
  exact ⟨w.heap.size, rfl, ⟨l, false, heap_alloc_new _ _, hl, rfl⟩, Nat.le_refl _, (Below.refl _ _).alloc (Nat.le_refl _) _⟩

end Go.Proofs.Ytmlgpibjhegdeaa
