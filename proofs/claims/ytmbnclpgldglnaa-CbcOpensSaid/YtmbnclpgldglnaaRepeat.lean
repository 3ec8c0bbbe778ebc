import Derived.Test.YtmbnclpgldglnaaMul64
import Derived.Test.YtmbnclpgldglnaaOctInt
import Derived.Test.YtmbnclpgldglnaaAvHand
import Derived.Lib.MakeNoZero
import Derived.Laws.Bits64b
import Derived.Laws.IdiomCopy
import Derived.Deep.RegionLaw
namespace Go.Proofs.Ytmbnclpgldglnaa
open Go.RowKit Go.Lib
set_option linter.unusedVariables false
set_option linter.unusedSimpArgs false
set_option maxRecDepth 20000
attribute [local go_sem] Oper.semAt_some
set_option maxHeartbeats 1000000 in
theorem mulw_calls (x y : Nat) (hx : x < 18446744073709551616) (hy : y < 18446744073709551616) (w : World) :
    Calls Try.prog 78 #[.int .u64 x, .int .u64 y] w fun e w' => e = .returned (.tuple #[.int .u64 ((x * y / 18446744073709551616 : Nat) : Int), .int .u64 ((x * y % 18446744073709551616 : Nat) : Int)]) ∧ w' = w := by
  have c64 := mul64_calls x y hx hy w
  go_enter Try.func78, Try.ntmps78
  go_wp2_with (go_at_call 107; refine c64.mono ?_; rintro e w' ⟨rfl, hw⟩; rw [hw])
  go_ret2
  exact ⟨rfl, rfl⟩
theorem wpList_cp2 {P : Program} {w w' : World} {ops : Array Oper} {rest : List Oper} {o : Oper} {a : Act} {Q : Exit → Act → World → Prop} (hgd : o.guard = none) (d s : Operand) (t t' : TypeId)
    (ho : o.op = .call { callee := .builtin .copy, args := #[d, s], argTypes := #[t, t'] }) {v u v' : Value} (hd : a.eval d = v) (hs : a.eval s = u) (hr : (Builtin.copy_ #[t, t'] o.type #[v, u]).run P w = .ok v' w')
    (h : wpList P ops Q rest (a.put o.dst v') w') : wpList P ops Q (o :: rest) a w := by
  refine wpList_plain hgd fun K hK => ?_
  unfold Oper.wp execOp
  simp only [ho, resolve, invoke, builtin, Sem.run_bind, Sem.run_pure, Result.andThen_ok, List.map_toArray, List.map_cons, List.map_nil, hd, hs, hr]
  exact hK _ _ h
theorem step_cp2 {P : Program} {ops : Array Oper} {o : Oper} {a : Act} {w w' : World} {K : Act → World → Prop} {Q : Exit → Act → World → Prop} {E : Prop} (hg : o.guard = none) (d x : Operand) (dT sT : TypeId)
    (hop : o.op = Op.call { callee := Callee.builtin Builtin.copy, args := #[d, x], argTypes := #[dT, sT] }) {v u v' : Value} (hd : a.eval d = v) (hx : a.eval x = u) (hr : (Builtin.copy_ #[dT, sT] o.type #[v, u]).run P w = .ok v' w') (hK : K (a.put o.dst v') w') :
    if Region.wanted o (yielded ops a.tmps) = true then Oper.wp P o a w K Q else E := by
  have hw : Region.wanted o (yielded ops a.tmps) = true := by simp [Region.wanted, hg]
  rw [if_pos hw]
  unfold Oper.wp
  simp [execOp, hop, resolve, invoke, builtin, hd, hx, hr, Result.andThen]
  exact hK
set_option maxHeartbeats 8000000 in
set_option maxRecDepth 100000 in
theorem repeat_run (b o c : Nat) (x : Int) (n : Nat) (w : World) (hc : w.cell? ⟨b, o, none⟩ = some (.int .u8 x)) (hb : b < w.heap.size) (h1 : 1 ≤ n) (h2 : n ≤ 16) :
    Calls Try.prog 43 #[.slice (some ⟨b, o, none⟩) 1 c, .int .i64 n] w fun e w' => e = .returned (.slice (some ⟨w.heap.size, 0, none⟩) n n) ∧ ∃ arr : Array Value, w'.heap[w.heap.size]? = some (.cells arr 5 (0, 0)) ∧ n ≤ arr.size ∧ arr.toList.take n = List.replicate n (.int .u8 x) ∧ Below w.heap.size w w' := by
  obtain ⟨cs, hrun, hle, hmx⟩ := Lib.run_makeNoZero (P := Try.prog) w #[3] 22 5 Try.underlying22 n (by omega)
  obtain ⟨w1, hw1⟩ : ∃ w1, w1 = w.drew.drew.alloc (.cells cs 5) := ⟨_, rfl⟩
  have hmk : (callFunc 79 #[.int .i64 n]).run Try.prog w = .ok (.value (.slice (some ⟨w.heap.size, 0, none⟩) n cs.size)) w1 := by
    rw [run_callFunc_extern Try.func79 (by kernel_rfl) (by kernel_rfl) (by kernel_rfl) (e := Extern.BytealgMakeNoZero.makeNoZero #[3] #[22]) (by kernel_rfl), hrun, hw1]
    rfl
  go_enter Try.func43, Try.ntmps43
  have e1 : (1 : Nat) * n / 18446744073709551616 = 0 := by omega
  have e2 : (1 : Nat) * n % 18446744073709551616 = n := by omega
  have cm := mulw_calls 1 n (by omega) (by omega) w
  rw [e1, e2] at cm
  have hn0 : ¬ (n : Int) = 0 := by omega
  have hn1 : ¬ (n : Int) < 0 := by omega
  have HM := Lib.hid hmk
  have hw64 : IntKind.u64.wrap (n : Int) = n := m64_wrap n (by omega)
  have hwi : IntKind.i64.wrap (n : Int) = n := IntWalk.i64_in _ ⟨by omega, by omega⟩
  have hn2 : ¬ (9223372036854775807 : Int) < (n : Int) := by omega
  have hn3 : ¬ (8192 : Int) < (n : Int) := by omega
  have hbelo : Below w.heap.size w w1 := by rw [hw1]; exact (Below.refl _ _).drew.drew.alloc (Nat.le_refl _) _
  have hgo : w1.heap[w.heap.size]? = some (.cells cs 5 (0, 0)) := by rw [hw1]; exact heap_alloc_new w.drew.drew _
  have hco : w1.cell? ⟨b, o, none⟩ = some (.int .u8 x) := by
    rw [World.cell?_of_block (a := ⟨b, o, none⟩) (hbelo.block b hb)]; exact hc
  have hsz : (Try.prog.info? 5).map (·.size) = some 1 := by kernel_rfl
  have HL := Lib.hid hle
  have HSZ := Lib.hid hsz
  clear hmk hle hmx hrun hw1 e1 e2 hsz
  go_upto_region 17 with (first | (go_at_call 78; refine cm.mono ?_; rintro e w' ⟨rfl, hw⟩; rw [hw]; clear hw w') | simp only [HM.out])
  obtain ⟨A1, hA1⟩ : ∃ A1 : Array Value, A1 = (cs.toList.take 0 ++ [Value.int .u8 x] ++ cs.toList.drop (0 + 1)).toArray := ⟨_, rfl⟩
  have hcp1 : ∀ ty, (Builtin.copy_ #[22, 22] ty #[.slice (some ⟨w.heap.size, 0, none⟩) n n, .slice (some ⟨b, o, none⟩) 1 c]).run Try.prog w1 = .ok (goInt 1) (w1.setRow w.heap.size A1) := fun ty => by
    have := run_copy_row (P := Try.prog) w1 22 22 ty 5 w.heap.size 0 n n ⟨b, o, none⟩ 1 c cs 5 [.int .u8 x] Try.underlying22 HSZ.out hgo (by simp only [Nat.min_def]; split <;> simp <;> omega) (fun j u hu => by
      cases j with
      | zero => simp at hu; subst hu; exact hco
      | succ j => simp at hu) (by have := HL.out; simp; omega) (by simp [Value.oneCell'])
    rw [hA1]; exact this
  have hA1s : A1.size = cs.size := by have := HL.out; rw [hA1]; simp; omega
  have hA1t : A1.toList.take 1 = List.replicate 1 (.int .u8 x) := by rw [hA1]; simp
  have hg1 : (w1.setRow w.heap.size A1).heap[w.heap.size]? = some (.cells A1 5 (0, 0)) := setRow_heap w1 _ cs A1 _ _ hgo
  have hb1 : Below w.heap.size w (w1.setRow w.heap.size A1) := below_setRow hbelo (Nat.le_refl _) _
  have HC1 := Lib.hid hcp1
  have HS1 := Lib.hid hA1s
  have HT1 := Lib.hid hA1t
  have HG1 := Lib.hid hg1
  have HB1 := Lib.hid hb1
  clear hcp1 hA1s hA1t hg1 hb1 hbelo hgo hco hA1
  go_wp2_with (refine wpList_cp2 (o := ⟨some 60, _, _, _, _, _⟩) rfl _ _ 22 22 rfl rfl rfl (HC1.out _) ?_)
  go_loopw [10] (fun i wr => ∃ (k : Nat) (arr : Array Value), 1 ≤ k ∧ k ≤ n ∧ i = .int .i64 k ∧ wr.heap[w.heap.size]? = some (.cells arr 5 (0, 0)) ∧ arr.size = cs.size ∧ arr.toList.take k = List.replicate k (.int .u8 x) ∧ Below w.heap.size w wr) (fun i _ => n - (intOf i).toNat)
  case atStart => exact ⟨1, A1, Nat.le_refl _, h1, rfl, HG1.out, HS1.out, HT1.out, HB1.out⟩
  case round =>
    obtain ⟨k, arr, h1k, hkn, rfl, hg, hs, htk, hbel⟩ := hrel
    have hHG := Lib.hid hg
    have hHS := Lib.hid hs
    have hHT := Lib.hid htk
    have hHB := Lib.hid hbel
    clear hg hs htk hbel
    by_cases hlt : k < n
    · have hkm : min (k : Int) (n : Int) = (k : Int) := by omega
      obtain ⟨r, hr⟩ : ∃ r, r = min (n - k) k := ⟨_, rfl⟩
      obtain ⟨A2, hA2⟩ : ∃ A2 : Array Value, A2 = (arr.toList.take k ++ List.replicate r (Value.int .u8 x) ++ arr.toList.drop (k + r)).toArray := ⟨_, rfl⟩
      have hcp2 : ∀ ty dc sc, (Builtin.copy_ #[22, 22] ty #[.slice (some ⟨w.heap.size, k, none⟩) (n - k) dc, .slice (some ⟨w.heap.size, 0, none⟩) k sc]).run Try.prog wr.drew = .ok (goInt r) (wr.drew.setRow w.heap.size A2) := fun ty dc sc => by
        have := run_copy_row (P := Try.prog) wr.drew 22 22 ty 5 w.heap.size k (n - k) dc ⟨w.heap.size, 0, none⟩ k sc arr 5 (List.replicate r (Value.int .u8 x)) Try.underlying22 HSZ.out hHG.out (by rw [List.length_replicate, hr]; simp only [Nat.min_def]; split <;> split <;> omega) (fun j u hu => by
          rw [List.getElem?_replicate] at hu
          split at hu
          · rename_i hj
            injection hu with hu; subst hu
            have hg : wr.drew.heap[w.heap.size]? = some (.cells arr 5 (0, 0)) := hHG.out
            rw [show (⟨w.heap.size, 0, none⟩ : Addr).add j = ⟨w.heap.size, 0 + j, none⟩ by unfold Addr.add; split <;> simp_all, cell_of_row wr.drew _ (0 + j) arr _ _ hg, Nat.zero_add]
            have hjk : j < k := by omega
            have := congrArg (fun l => l[j]?) hHT.out
            simp only [List.getElem?_take, hjk, if_true, List.getElem?_replicate, Array.getElem?_toList] at this
            exact this
          · cases hu) (by have := HL.out; have := hHS.out; rw [List.length_replicate]; omega) (by intro u hu; rw [List.eq_of_mem_replicate hu]; rfl)
        rw [List.length_replicate] at this
        rw [hA2]; exact this
      have hA2s : A2.size = cs.size := by have := HL.out; have := hHS.out; rw [hA2]; simp; omega
      have hA2t : A2.toList.take (k + r) = List.replicate (k + r) (.int .u8 x) := by
        have hl : (arr.toList.take k ++ List.replicate r (Value.int .u8 x)).length = k + r := by have := HL.out; have := hHS.out; simp; omega
        rw [hA2]
        show List.take (k + r) (arr.toList.take k ++ List.replicate r (Value.int .u8 x) ++ arr.toList.drop (k + r)) = _
        rw [List.take_left' hl, hHT.out, List.replicate_append_replicate]
      have hg2 : (wr.drew.setRow w.heap.size A2).heap[w.heap.size]? = some (.cells A2 5 (0, 0)) := setRow_heap wr.drew _ arr A2 _ _ hHG.out
      have hb2 : Below w.heap.size w (wr.drew.setRow w.heap.size A2) := below_setRow hHB.out.drew (Nat.le_refl _) _
      have hrk : 1 ≤ r ∧ k + r ≤ n := by omega
      have HC2 := Lib.hid hcp2
      have HS2 := Lib.hid hA2s
      have HT2 := Lib.hid hA2t
      have HG2 := Lib.hid hg2
      have HB2 := Lib.hid hb2
      have HRK := Lib.hid hrk
      have hnk : ¬ (n : Int) < (k : Int) := by omega
      have hnk2 : ¬ n = k := by omega
      clear hcp2 hA2s hA2t hg2 hb2 hA2 hr hrk
      go_upto_region 20 with fail
      go_region_law (refine step_cp2 (v := .slice (some ⟨w.heap.size, k, none⟩) (n - k) (n - k)) (u := .slice (some ⟨w.heap.size, 0, none⟩) k n) rfl _ _ 22 22 rfl (by simp [Act.eval, Act.put]) (by simp [Act.eval, Act.put]) (HC2.out _ _ _) ?_)
      all_goals
        go_wp2_with fail
        go_roundw
        case rel => exact ⟨k + r, by have := HRK.out; omega, HRK.out.2, by have := HRK.out; rw [IntWalk.i64_in _ ⟨by omega, by omega⟩]; push_cast; rfl, A2, HG2.out, HS2.out, HT2.out, HB2.out⟩
        case measure =>
          have := HRK.out
          have hw : IntKind.i64.wrap ((k : Int) + (r : Int)) = (k : Int) + r := IntWalk.i64_in _ ⟨by omega, by omega⟩
          simp only [intOf, hw]
          omega
    · have hke := Lib.hid (show k = n by omega)
      go_wp2_with fail
      go_ret
      have hkn' := hke.out
      subst hkn'
      exact ⟨rfl, arr, hHG.out, by rw [hHS.out]; exact HL.out, hHT.out, hHB.out⟩
end Go.Proofs.Ytmbnclpgldglnaa
