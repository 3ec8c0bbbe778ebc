import Derived.Test.YtbnjheiailkimaaProg
import Derived.Test.YtbnjheiailkimaaBoxTab
import Derived.Deep.RegionHeld3
import Derived.Below
import Derived.Deep.Draws
import Derived.OwnWalk
import Derived.Tactics
import Derived.WalkKit
import Derived.KernelRfl
import Derived.RowKit3
import Derived.Deep.LoopGhost
import Derived.Deep.QuietTactic
import Derived.BigQuiet
import Derived.WideLaws
import Derived.Deep.DeepCutAuto
import Derived.Deep.CutBlock
import Derived.Laws.Rows
import Derived.Outline
import Derived.Lib.Hide
namespace Go.Proofs.Ytbnjheiailkimaa
open Go.RowKit
set_option linter.unusedVariables false
set_option linter.unusedSimpArgs false


theorem cell_below {w w' : World} {p : Addr} {x : Value} (hb : Below w.heap.size w w') (h : w.cell? p = some x) : w'.cell? p = some x := by
  rw [hb.cell (lt_of_cell h)]; exact h
theorem held_keep {w0 w w' : World} {p q r s : Addr} {x y : Value} (h : w.cell? p = some x ∧ w.cell? q = some y ∧ w.cell? r = some x ∧ w.cell? s = some y ∧ Below w0.heap.size w0 w) (hb : Below w.heap.size w w') :
    w'.cell? p = some x ∧ w'.cell? q = some y ∧ w'.cell? r = some x ∧ w'.cell? s = some y ∧ Below w0.heap.size w0 w' :=
  ⟨cell_below hb h.1, cell_below hb h.2.1, cell_below hb h.2.2.1, cell_below hb h.2.2.2.1, h.2.2.2.2.trans (hb.mono h.2.2.2.2.size)⟩
theorem below_tr {w0 w w' : World} (h : Below w0.heap.size w0 w) (hb : Below w.heap.size w w') : Below w0.heap.size w0 w' := h.trans (hb.mono h.size)

set_option maxHeartbeats 1600000 in
set_option maxRecDepth 100000 in
theorem law_BoxTables (a : BitVec 8) (w : World) :
    Calls Try.prog 8 #[.int .u8 (n8 a)] w fun e w' => e = .returned (.bool true) ∧ Below w.heap.size w w' := by
  have hz := zero256
  go_enter Try.func8, Try.ntmps8
  go_wp2_with fail
  refine (tables_calls _).mono ?_
  rintro e w1 ⟨rfl, b1⟩
  have s1 : (Try.prog.info? 35).map (·.size) = some (A8 256 fun j => sbox (BitVec.ofNat 8 j)).size := by rw [A8_size]; exact cells256
  have s2 : (Try.prog.info? 35).map (·.size) = some (A8 256 fun j => ibox (BitVec.ofNat 8 j)).size := by rw [A8_size]; exact cells256
  have q1 := A8_one 256 fun j => sbox (BitVec.ofNat 8 j)
  have q2 := A8_one 256 fun j => ibox (BitVec.ofNat 8 j)
  have e1 : (A8 256 fun j => sbox (BitVec.ofNat 8 j))[(n8 a).toNat]? = some (.int .u8 (n8 (sbox a))) := by
    rw [A8_get _ _ _ (by have := n8_hi a; have := n8_lo a; omega), ofNat_n8]
  have e2 : (A8 256 fun j => ibox (BitVec.ofNat 8 j))[(n8 a).toNat]? = some (.int .u8 (n8 (ibox a))) := by
    rw [A8_get _ _ _ (by have := n8_hi a; have := n8_lo a; omega), ofNat_n8]
  have E1 := Lib.hid e1
  have E2 := Lib.hid e2
  have z1 := A8_size 256 fun j => sbox (BitVec.ofNat 8 j)
  have z2 := A8_size 256 fun j => ibox (BitVec.ofNat 8 j)
  clear e1 e2
  generalize hT1 : (A8 256 fun j => sbox (BitVec.ofNat 8 j)) = T1 at *
  generalize hT2 : (A8 256 fun j => ibox (BitVec.ofNat 8 j)) = T2 at *
  have HT1 := Lib.hid hT1
  have HT2 := Lib.hid hT2
  clear hT1 hT2
  go_wp2_with (first
    | (refine wpList_store_agg rfl 35 (.tmp 3) (.tmp 9) rfl w1.heap.size T1 rfl rfl _ _ (heap_alloc2_old _ _ _) s1 (by rw [A8_size, z1]) q1 ?_; intro w2 f1 f2 f3)
    | (refine wpList_store_agg rfl 35 (.tmp 4) (.tmp 10) rfl (w1.heap.size + 1) T2 rfl rfl _ _ ((f2 _ (by omega)).trans (heap_alloc2_new _ _ _)) s2 (by rw [A8_size, z2]) q2 ?_; intro w3 g1 g2 g3; replace f1 := Lib.hid ((g2 _ (by omega)).trans f1); replace g1 := Lib.hid g1; replace f3 := Lib.hid (g3 _ _ (f3 _ _ ((b1.alloc b1.size _).alloc (by have := b1.size; simp; omega) _) (by have := b1.size; omega)) (by have := b1.size; omega)); clear f2 g2 g3 hz s1 s2 z1 z2 q1 q2)
    | fail)
  refine (rtables_calls _).mono ?_
  rintro e w4 ⟨h1, h2, rfl, k1, k2, b4⟩
  have l1 : w1.heap.size < w3.heap.size := (Array.getElem?_eq_some_iff.1 f1.out).1
  have l2 : w1.heap.size + 1 < w3.heap.size := (Array.getElem?_eq_some_iff.1 g1.out).1
  have c1 : w4.cell? ⟨w1.heap.size, (n8 a).toNat, none⟩ = some (.int .u8 (n8 (sbox a))) := by
    rw [b4.cell (p := ⟨w1.heap.size, (n8 a).toNat, none⟩) l1, cell_of_row w3 _ _ _ _ _ f1.out]; exact E1.out
  have c2 : w4.cell? ⟨w1.heap.size + 1, (n8 a).toNat, none⟩ = some (.int .u8 (n8 (ibox a))) := by
    rw [b4.cell (p := ⟨w1.heap.size + 1, (n8 a).toNat, none⟩) l2, cell_of_row w3 _ _ _ _ _ g1.out]; exact E2.out
  rw [HT1.out] at k1
  rw [HT2.out] at k2
  have c3 : w4.cell? ⟨h1, (n8 a).toNat, none⟩ = some (.int .u8 (n8 (sbox a))) := by rw [cell_of_row w4 _ _ _ _ _ k1]; exact E1.out
  have c4 : w4.cell? ⟨h2, (n8 a).toNat, none⟩ = some (.int .u8 (n8 (ibox a))) := by rw [cell_of_row w4 _ _ _ _ _ k2]; exact E2.out
  have r0 := n8_lo a
  have r1 := n8_hi a
  have hwr : IntKind.i64.wrap (n8 a) = n8 a := by rw [IntKind.wrap_i64]; omega
  have HB := Lib.hid (f3.out.trans (b4.mono f3.out.size))
  clear k1 k2 E1 E2 HT1 HT2 f1 g1 f3 b1 b4
  go_wp2_with fail
  go_region_held3 (fun w' => w'.cell? ⟨w1.heap.size, (n8 a).toNat, none⟩ = some (.int .u8 (n8 (sbox a))) ∧ w'.cell? ⟨w1.heap.size + 1, (n8 a).toNat, none⟩ = some (.int .u8 (n8 (ibox a))) ∧ w'.cell? ⟨h1, (n8 a).toNat, none⟩ = some (.int .u8 (n8 (sbox a))) ∧ w'.cell? ⟨h2, (n8 a).toNat, none⟩ = some (.int .u8 (n8 (ibox a))) ∧ Below w.heap.size w w')
    (first | exact ⟨c1, c2, c3, c4, HB.out.drew⟩ | (apply held_keep <;> assumption))
    (first | (go_at_call 16; refine (awake03_calls _).mono ?_; rintro e w5 ⟨rfl, b5⟩))
  have hfin : Below w.heap.size w w5 := by
    rename_i hh
    exact hh.2.2.2.2
  go_wp2
  go_ret
  exact ⟨rfl, hfin⟩

end Go.Proofs.Ytbnjheiailkimaa
