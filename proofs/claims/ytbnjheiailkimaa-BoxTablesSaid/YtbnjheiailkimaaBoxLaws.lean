import Derived.Test.YtbnjheiailkimaaProg
import Derived.Test.YtbnjheiailkimaaBox
import Derived.Below
import Derived.Deep.Draws
import Derived.OwnWalk
import Derived.Tactics
import Derived.WalkKit
import Derived.KernelRfl
import Derived.RowKit3
import Derived.Deep.LoopGhost
import Derived.Deep.QuietTactic
import Derived.BigQuiet
import Derived.WideLaws
import Derived.Deep.DeepCutAuto
import Derived.Deep.CutBlock
import Derived.Laws.Rows
import Derived.Outline
import Derived.Lib.Hide
namespace Go.Proofs.Ytbnjheiailkimaa
open Go.RowKit
set_option linter.unusedVariables false
set_option linter.unusedSimpArgs false


attribute [local go_sem] bxor8

theorem mul_calls_v (a b : BitVec 8) (u v : Int) (hu : u = n8 a) (hv : v = n8 b) (w : World) :
    Calls Try.prog 17 #[.int .u8 u, .int .u8 v] w fun e w' => e = .returned (.int .u8 (n8 (gmul a b))) ∧ w = w' := by
  subst hu hv; exact mul_calls a b w

theorem ofNat_n8 (x : BitVec 8) : BitVec.ofNat 8 (n8 x).toNat = x := by unfold n8; simp

theorem aw1 : n8 (gmul 0x57#8 0x83#8) = 193 := by decide +kernel
theorem aw2 : n8 (ginv 0#8) = 0 := by decide +kernel
theorem aw3 : n8 (ginv 0x53#8) = 202 := by decide +kernel
theorem aw4 : n8 (sbox (BitVec.ofNat 8 0)) = 99 := by decide +kernel
theorem aw5 : n8 (sbox (BitVec.ofNat 8 83)) = 237 := by decide +kernel
theorem aw6 : n8 (ibox (BitVec.ofNat 8 99)) = 0 := by decide +kernel

set_option maxHeartbeats 800000 in
theorem awake03_calls (w : World) :
    Calls Try.prog 16 #[] w fun e w' => e = .returned (.bool true) ∧ Below w.heap.size w w' := by
  have hz := zero256
  go_enter Try.func16, Try.ntmps16
  go_wp2_with fail
  refine (tables_calls _).mono ?_
  rintro e w1 ⟨rfl, b1⟩
  have s1 : (Try.prog.info? 35).map (·.size) = some (A8 256 fun j => sbox (BitVec.ofNat 8 j)).size := by rw [A8_size]; exact cells256
  have s2 : (Try.prog.info? 35).map (·.size) = some (A8 256 fun j => ibox (BitVec.ofNat 8 j)).size := by rw [A8_size]; exact cells256
  have q1 := A8_one 256 fun j => sbox (BitVec.ofNat 8 j)
  have q2 := A8_one 256 fun j => ibox (BitVec.ofNat 8 j)
  have e1 := A8_get 256 (fun j => sbox (BitVec.ofNat 8 j)) 0 (by omega)
  have e2 := A8_get 256 (fun j => sbox (BitVec.ofNat 8 j)) 83 (by omega)
  have e3 := A8_get 256 (fun j => ibox (BitVec.ofNat 8 j)) 99 (by omega)
  have z1 := A8_size 256 fun j => sbox (BitVec.ofNat 8 j)
  have z2 := A8_size 256 fun j => ibox (BitVec.ofNat 8 j)
  rw [aw4] at e1
  rw [aw5] at e2
  rw [aw6] at e3
  generalize (A8 256 fun j => sbox (BitVec.ofNat 8 j)) = T1 at *
  generalize (A8 256 fun j => ibox (BitVec.ofNat 8 j)) = T2 at *
  go_wp2_with (first
    | (refine wpList_store_agg rfl 35 (.tmp 1) (.tmp 5) rfl w1.heap.size T1 rfl rfl _ _ (heap_alloc2_old _ _ _) s1 (by rw [A8_size, z1]) q1 ?_; intro w2 f1 f2 f3)
    | (refine wpList_store_agg rfl 35 (.tmp 2) (.tmp 6) rfl (w1.heap.size + 1) T2 rfl rfl _ _ ((f2 _ (by omega)).trans (heap_alloc2_new _ _ _)) s2 (by rw [A8_size, z2]) q2 ?_; intro w3 g1 g2 g3; replace f1 := (g2 _ (by omega)).trans f1; replace f3 := g3 _ _ (f3 _ _ ((b1.alloc b1.size _).alloc (by have := b1.size; simp; omega) _) (by have := b1.size; omega)) (by have := b1.size; omega); clear f2 g2 g3 hz s1 s2 z1 z2 q1 q2; have c1 := (cell_of_row w3 _ 0 _ _ _ f1).trans e1; have c2 := (cell_of_row w3 _ 83 _ _ _ f1).trans e2; have c3 := (cell_of_row w3 _ 99 _ _ _ g1).trans e3; clear e1 e2 e3 f1 g1)
    | fail)
  refine (mul_calls_v 0x57#8 0x83#8 _ _ rfl rfl _).mono ?_
  rintro e w' ⟨rfl, hw⟩
  rw [aw1, ← hw]; clear hw
  go_wp2_with fail
  refine (inv_calls_v 0#8 _ rfl _).mono ?_
  rintro e w' ⟨rfl, hw⟩
  rw [aw2, ← hw]; clear hw
  go_wp2_with fail
  refine (inv_calls_v 0x53#8 _ rfl _).mono ?_
  rintro e w' ⟨rfl, hw⟩
  rw [aw3, ← hw]; clear hw
  go_wp2
  go_ret
  exact ⟨rfl, f3⟩

set_option maxHeartbeats 800000 in
theorem law_BoxFields (a b c : BitVec 8) (w : World) :
    Calls Try.prog 10 #[.int .u8 (n8 a), .int .u8 (n8 b), .int .u8 (n8 c)] w fun e w' => e = .returned (.bool true) ∧ Below w.heap.size w w' := by
  go_enter Try.func10, Try.ntmps10
  go_wp2_with fail
  refine (awake03_calls _).mono ?_
  rintro e w1 ⟨rfl, b1⟩
  go_wp2_with fail
  refine (mul_calls _ _ _).mono ?_
  rintro e w' ⟨rfl, rfl⟩
  go_wp2_with fail
  refine (mul_calls _ _ _).mono ?_
  rintro e w' ⟨rfl, rfl⟩
  rw [gmul_comm b a]
  go_wp2_with fail
  refine (mul_calls _ _ _).mono ?_
  rintro e w' ⟨rfl, rfl⟩
  go_wp2_with fail
  refine (mul_calls _ _ _).mono ?_
  rintro e w' ⟨rfl, rfl⟩
  rw [gmul_assoc a b c]
  go_wp2_with fail
  refine (mul_calls _ _ _).mono ?_
  rintro e w' ⟨rfl, rfl⟩
  go_wp2_with fail
  refine (mul_calls _ _ _).mono ?_
  rintro e w' ⟨rfl, rfl⟩
  go_wp2_with fail
  refine (mul_calls _ _ _).mono ?_
  rintro e w' ⟨rfl, rfl⟩
  rw [gmul_xor_right a b c]
  go_wp2_with fail
  refine (mul_calls _ _ _).mono ?_
  rintro e w' ⟨rfl, rfl⟩
  go_wp2_with fail
  refine (mul_calls _ _ _).mono ?_
  rintro e w' ⟨rfl, rfl⟩
  go_wp2_with fail
  refine (mul_calls_v a 1#8 _ _ rfl rfl _).mono ?_
  rintro e w' ⟨rfl, rfl⟩
  rw [gmul_one a]
  go_wp2
  go_ret
  exact ⟨by simp, b1⟩

set_option maxHeartbeats 800000 in
theorem law_BoxInverts (a : BitVec 8) (w : World) :
    Calls Try.prog 9 #[.int .u8 (n8 a)] w fun e w' => e = .returned (.bool true) ∧ Below w.heap.size w w' := by
  have hz := zero256
  go_enter Try.func9, Try.ntmps9
  go_wp2_with fail
  refine (tables_calls _).mono ?_
  rintro e w1 ⟨rfl, b1⟩
  have s1 : (Try.prog.info? 35).map (·.size) = some (A8 256 fun j => sbox (BitVec.ofNat 8 j)).size := by rw [A8_size]; exact cells256
  have s2 : (Try.prog.info? 35).map (·.size) = some (A8 256 fun j => ibox (BitVec.ofNat 8 j)).size := by rw [A8_size]; exact cells256
  have q1 := A8_one 256 fun j => sbox (BitVec.ofNat 8 j)
  have q2 := A8_one 256 fun j => ibox (BitVec.ofNat 8 j)
  have e1 : ∀ x : BitVec 8, (A8 256 fun j => sbox (BitVec.ofNat 8 j))[(n8 x).toNat]? = some (.int .u8 (n8 (sbox x))) := fun x => by
    rw [A8_get _ _ _ (by have := n8_hi x; have := n8_lo x; omega), ofNat_n8]
  have e2 : ∀ x : BitVec 8, (A8 256 fun j => ibox (BitVec.ofNat 8 j))[(n8 x).toNat]? = some (.int .u8 (n8 (ibox x))) := fun x => by
    rw [A8_get _ _ _ (by have := n8_hi x; have := n8_lo x; omega), ofNat_n8]
  have z1 := A8_size 256 fun j => sbox (BitVec.ofNat 8 j)
  have z2 := A8_size 256 fun j => ibox (BitVec.ofNat 8 j)
  generalize (A8 256 fun j => sbox (BitVec.ofNat 8 j)) = T1 at *
  generalize (A8 256 fun j => ibox (BitVec.ofNat 8 j)) = T2 at *
  replace e1 := Lib.hid e1
  replace e2 := Lib.hid e2
  have h0 : (n8 a == 0) = decide (a = 0#8) := by
    rw [show (0 : Int) = n8 0#8 from rfl]
    by_cases h : a = 0#8
    · subst h; simp
    · rw [decide_eq_false h]; simp [n8_inj, h]
  have H0 := Lib.hid h0
  clear h0
  go_wp2_with (first
    | (refine wpList_store_agg rfl 35 (.tmp 3) (.tmp 8) rfl w1.heap.size T1 rfl rfl _ _ (heap_alloc2_old _ _ _) s1 (by rw [A8_size, z1]) q1 ?_; intro w2 f1 f2 f3)
    | (refine wpList_store_agg rfl 35 (.tmp 4) (.tmp 9) rfl (w1.heap.size + 1) T2 rfl rfl _ _ ((f2 _ (by omega)).trans (heap_alloc2_new _ _ _)) s2 (by rw [A8_size, z2]) q2 ?_; intro w3 g1 g2 g3; replace f1 := Lib.hid ((g2 _ (by omega)).trans f1); replace g1 := Lib.hid g1; replace f3 := Lib.hid (g3 _ _ (f3 _ _ ((b1.alloc b1.size _).alloc (by have := b1.size; simp; omega) _) (by have := b1.size; omega)) (by have := b1.size; omega)); clear f2 g2 g3 hz s1 s2 z1 z2 q1 q2)
    | fail)
  all_goals
    refine (awake03_calls _).mono ?_
    rintro e w4 ⟨rfl, b4⟩
    go_wp2_with fail
    refine (inv_calls _ _).mono ?_
    rintro e w' ⟨rfl, rfl⟩
    go_wp2_with fail
    refine (mul_calls _ _ _).mono ?_
    rintro e w' ⟨rfl, rfl⟩
    have hm := ginv_mul a
    have l1 : w1.heap.size < w3.heap.size := (Array.getElem?_eq_some_iff.1 f1.out).1
    have l2 : w1.heap.size + 1 < w3.heap.size := (Array.getElem?_eq_some_iff.1 g1.out).1
    have c1 : ∀ x : BitVec 8, w4.cell? ⟨w1.heap.size, (n8 x).toNat, none⟩ = some (.int .u8 (n8 (sbox x))) := fun x => by
      rw [b4.cell (p := ⟨w1.heap.size, (n8 x).toNat, none⟩) l1, cell_of_row w3 _ _ _ _ _ f1.out]; exact e1.out x
    have c2 : ∀ x : BitVec 8, w4.cell? ⟨w1.heap.size + 1, (n8 x).toNat, none⟩ = some (.int .u8 (n8 (ibox x))) := fun x => by
      rw [b4.cell (p := ⟨w1.heap.size + 1, (n8 x).toNat, none⟩) l2, cell_of_row w3 _ _ _ _ _ g1.out]; exact e2.out x
    have C1 := Lib.hid c1
    have C2 := Lib.hid c2
    clear c1 c2
    have d1 := C1.out a
    have d2 := C2.out (sbox a)
    rw [ibox_sbox] at d2
    have d3 := C2.out a
    have d4 := C1.out (ibox a)
    rw [sbox_ibox] at d4
    have r0 := n8_lo a; have r1 := n8_hi a; have r2 := n8_lo (sbox a); have r3 := n8_hi (sbox a); have r4 := n8_lo (ibox a); have r5 := n8_hi (ibox a)
    have hne : (n8 (sbox a) == n8 a) = false := by
      rw [beq_eq_false_iff_ne]; intro h; exact sbox_ne a (n8_inj.1 h)
    have htest := H0.out
    first
      | (have ht : (n8 a == 0) = true := by assumption
         rw [ht] at htest
         rw [if_pos (of_decide_eq_true htest.symm)] at hm
         rw [hm, show n8 0#8 = 0 from rfl])
      | (have ht : (n8 a == 0) = false := by assumption
         rw [ht] at htest
         rw [if_neg (of_decide_eq_false htest.symm)] at hm
         rw [hm, show n8 1#8 = 1 from rfl])
    clear htest hm C1 C2
    go_wp2
    go_ret
    exact ⟨by simp [bne, hne], f3.out.trans (b4.mono f3.out.size)⟩

end Go.Proofs.Ytbnjheiailkimaa
