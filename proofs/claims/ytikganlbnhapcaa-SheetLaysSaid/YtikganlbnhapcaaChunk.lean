import Derived.Test.YtikganlbnhapcaaAvHand
import Derived.WalkKit
import Derived.OwnWalkIn
import Derived.TacticsInMore
import Derived.RegionIn
import Derived.LoopNIn
import Derived.LoopIn
import Derived.Lib.Hide
namespace Go.Proofs.Ytikganlbnhapcaa
open Go.RowKit
set_option linter.unusedVariables false
set_option linter.unusedSimpArgs false
set_option maxRecDepth 20000
attribute [local go_sem] Oper.semAt_some
theorem chunk_run (a : Option Addr) (n c : Nat) (k : Int) (w : World) (hk : 1 ≤ k) : Calls Try.prog 46 #[.slice a n c, .int .i64 k] w fun e w' =>
    e = .returned (.func (.func 73) #[] #[.pointer (some ⟨w.heap.size, 0, none⟩), .pointer (some ⟨w.heap.size + 1, 0, none⟩)]) ∧ w' = (w.alloc (.cells #[.slice a n c] 22)).alloc (.cells #[.int .i64 k] 3) := by
  go_enter Try.func46, Try.ntmps46
  go_wp2_with fail
  go_ret
  exact ⟨rfl, rfl⟩
/-- the k-th part -/
def chV (b o len k i : Nat) : Value := .slice (some ⟨b, o + i * k, none⟩) (min k (len - i * k)) (min k (len - i * k))
def chN (len k : Nat) : Nat := (len + k - 1) / k
theorem chN_lt {len k i : Nat} (hk : 0 < k) : i < chN len k ↔ i * k < len := by
  unfold chN
  rw [Nat.lt_div_iff_mul_lt hk]
  have : i * k + k = (i + 1) * k := by rw [Nat.add_mul, Nat.one_mul]
  constructor <;> intro h <;> omega
set_option maxHeartbeats 4000000 in
theorem chunk1_in (n : Nat) (K : Kd) (l b1 o1 b2 o2 : Nat) (b o len cap k : Nat) (hk : 0 < k) (hlc : len ≤ cap) (hcm : cap ≤ maxLen) (hk2 : k ≤ 65536) (hl2 : len ≤ 1000000000) (i1 : K.In b1 o1 1) (i2 : K.In b2 o2 1) (v1 : K.val b1 o1 = .slice (some ⟨b, o, none⟩) len cap) (v2 : K.val b2 o2 = .int .i64 k)
    (J Jx : List (Fin (chN len k)) → World → Prop)
    (hY : ∀ (pre : List (Fin (chN len k))) (x : Fin (chN len k)) (W : World), J pre W → pre.length < chN len k → YieldAt Fence.wide (n - 1) Try.prog l #[chV b o len k x.val] W fun e W' => (e = .returned (.bool true) ∧ J (pre ++ [x]) W' ∧ (KOk K W → KOk K W')) ∨ (e = .returned (.bool false) ∧ Jx (pre ++ [x]) W'))
    (W : World) (hA : AbidesFrom W.heap.size J) (hK : KOk K W) (h0 : J [] W) :
    CallsIn Fence.wide n Try.prog 73 #[.func (.yield l) #[] #[], .pointer (some ⟨b1, o1, none⟩), .pointer (some ⟨b2, o2, none⟩)] W fun e W' => (∃ v, e = .returned v) ∧
      ((∃ xs : List (Fin (chN len k)), xs.map (·.val) = List.range (chN len k) ∧ J xs W') ∨ (∃ pre, True ∧ Jx pre W')) := by
  refine callsIn_of_wp Try.func73 rfl trivial ?_ rfl
  simp only [Try.ntmps73, List.size_toArray, List.length_cons, List.length_nil, Nat.reduceAdd, Nat.reduceSub, Array.replicate_succ, Array.replicate_zero, List.push_toArray, List.append_toArray, List.nil_append, List.cons_append]
  have c1 : ∀ wr, KOk K wr → wr.cell? ⟨b1, o1, none⟩ = some (.slice (some ⟨b, o, none⟩) len cap) := fun wr h => by have := (h.at_ i1 (i := 0) (by omega)).1; rw [Nat.add_zero, v1] at this; exact this
  have c2 : ∀ wr, KOk K wr → wr.cell? ⟨b2, o2, none⟩ = some (.int .i64 k) := fun wr h => by have := (h.at_ i2 (i := 0) (by omega)).1; rw [Nat.add_zero, v2] at this; exact this
  gi_wp2
  gi_loopw [4] (fun i wr => ∃ (pre : List (Fin (chN len k))), i = .int .i64 ((pre.length * k : Nat) : Int) ∧ pre.map (·.val) = List.range pre.length ∧ pre.length ≤ chN len k ∧ J pre wr ∧ KOk K wr)
    (fun i wr => (len + k - intOf i).toNat)
  case atStart => exact ⟨[], by simp, rfl, Nat.zero_le _, h0, hK⟩
  case round =>
    obtain ⟨pre, rfl, hp, hpl, hJ, hKr⟩ := hrel
    have d1 := c1 wr hKr
    have d2 := c2 wr hKr
    by_cases hlt : pre.length * k < len
    · have hltN := (chN_lt hk).2 hlt
      have hJ2 : J pre wr.drew := hA _ _ _ none hJ ⟨rfl, rfl, rfl, Nat.le_refl _, fun _ _ _ => rfl⟩ (fun r e => by cases e)
      have hK2 : KOk K wr.drew := hKr
      have e1 := c1 wr.drew hK2
      have e2 := c2 wr.drew hK2
      generalize hq : pre.length * k = q at *
      have hlt' : (q : Int) < len := by omega
      gi_wp2
      gi_region
      obtain ⟨m, hm⟩ : ∃ m : Nat, m = min k (len - q) := ⟨_, rfl⟩
      have hm1 : (if len - q < k then ((len - q : Nat) : Int) else (k : Int)) = (m : Int) := by split <;> omega
      simp only [hm1]
      obtain ⟨fn, tmps, assign, body, hy, hR⟩ := hY pre ⟨pre.length, hltN⟩ wr.drew hJ2 hltN
      have hch : chV b o len k pre.length = .slice (some ⟨b, o + q, none⟩) m m := by unfold chV; rw [hq, hm]
      rw [show chV b o len k (Fin.val ⟨pre.length, hltN⟩) = .slice (some ⟨b, o + q, none⟩) m m from hch] at hy
      have hm2 : (q : Int) + m ≤ cap := by omega
      have hm3 : 1 ≤ m := by omega
      have hm4 : m ≤ k := by omega
      have hq' : Hid (pre.length * k = q) := Lib.hid hq
      clear hm1 hm hq hch
      gi_wp2
      refine ⟨(fun h => by cases h), hR.mono ?_⟩
      rintro e W3 (⟨rfl, hJ3, hk3⟩ | ⟨rfl, hJx3⟩)
      · have f2 := c2 W3 (hk3 hK2)
        gi_wp2
        go_roundw
        case rel => exact ⟨pre ++ [⟨pre.length, hltN⟩], by simp [Nat.add_mul, hq'.out], by simp [hp, List.range_succ], by simp; omega, hJ3, hk3 hK2⟩
        case measure => simp only [intOf]; omega
      · gi_wp2
        refine bodyPost_ret (results_none rfl _ _ _) rfl ?_
        exact ⟨⟨_, rfl⟩, .inr ⟨_, trivial, hJx3⟩⟩
    · have hN : pre.length = chN len k := by
        have := mt (chN_lt (i := pre.length) hk).1 hlt
        omega
      generalize hq : pre.length * k = q at *
      gi_wp2
      go_end0
      exact ⟨⟨_, rfl⟩, .inl ⟨pre, by rw [hp, hN], hJ⟩⟩
set_option maxHeartbeats 4000000 in
theorem chunk_spec (full : Bool) (n : Nat) (cs : List AV) (k : Nat) (hk : 1 ≤ k) : Spec Try.prog 46 [.sl full n cs, .int .i64 k] (.k (.fn 73 [.cp [.sl full n cs], .cp [.int .i64 k]])) := by
  refine spec_calls ⟨_, Try.func46, rfl, rfl⟩ fun K w vs hk0 ha => ?_
  obtain ⟨u, v, rfl, g0, g1⟩ := args2 ha
  rw [kint_inv g1]
  obtain ⟨a, c, rfl, _⟩ := ksl_inv g0
  refine (chunk_run a n c k w (by omega)).mono ?_
  rintro e w' ⟨rfl, rfl⟩
  have hb : Below w.heap.size w ((w.alloc (.cells #[.slice a n c] 22)).alloc (.cells #[.int .i64 k] 3)) := ((Below.refl _ _).alloc (Nat.le_refl _) _).alloc (by simp) _
  refine ⟨_, rfl, hb, krep_fn2 ?_ ?_⟩
  · have hc : ((w.alloc (.cells #[.slice a n c] 22)).alloc (.cells #[.int .i64 k] 3)).cell? ⟨w.heap.size, 0, none⟩ = some (.slice a n c) := by
      rw [cell_of_row _ _ 0 _ _ _ ((heap_alloc_old _ _ (by simp : w.heap.size < (w.alloc _).heap.size)).trans (heap_alloc_new w _))]; rfl
    have h1 := hw_of hc
    have hN : ¬ w.heap.size < w.heap.size := by omega
    refine .cp _ _ _ ⟨by simp only [Kd.wide, hN, if_false, List.length_cons, List.length_nil]; omega, fun i hi => ?_⟩ fun i x hx => ?_
    · obtain rfl : i = 0 := by simpa using hi
      simp only [Kd.wide, hN, if_false]
      rw [val_of hc]; rfl
    · match i with
      | 0 =>
        simp at hx; subst hx
        simp only [Kd.wide, hN, if_false]
        rw [val_of hc]
        exact g0.mono (wide_le hk0)
      | i + 1 => simp at hx
  · have hc : ((w.alloc (.cells #[.slice a n c] 22)).alloc (.cells #[.int .i64 k] 3)).cell? ⟨w.heap.size + 1, 0, none⟩ = some (.int .i64 k) := by
      have h := heap_alloc_new (w.alloc (.cells #[.slice a n c] 22)) (.cells #[.int .i64 k] 3)
      rw [show (w.alloc (.cells #[.slice a n c] 22)).heap.size = w.heap.size + 1 by simp] at h
      rw [cell_of_row _ _ 0 _ _ _ h]; rfl
    have h1 := hw_of hc
    have hN : ¬ w.heap.size + 1 < w.heap.size := by omega
    refine .cp _ _ _ ⟨by simp only [Kd.wide, hN, if_false, List.length_cons, List.length_nil]; omega, fun i hi => ?_⟩ fun i x hx => ?_
    · obtain rfl : i = 0 := by simpa using hi
      simp only [Kd.wide, hN, if_false]
      rw [val_of hc]; rfl
    · match i with
      | 0 =>
        simp at hx; subst hx
        simp only [Kd.wide, hN, if_false]
        rw [val_of hc]
        exact .int _ _
      | i + 1 => simp at hx
theorem enters_ {P : Program} {f : FuncId} (h : Callable P f) (args : Array Value) (w : World) : (callFunc f args).run P w = .ok (.enter f args) w := by
  obtain ⟨fn, hfn, hname, hbody⟩ := h
  have hname' : ¬ fn.name = "runtime.NumGoroutine" := by simpa using hname
  have hbody' : ¬ fn.body = none := fun q => by rw [q] at hbody; cases hbody
  simp [callFunc, hfn, hname', hbody']
/-- the parts -/
def chunkL (k : Nat) (cs : List AV) : List (List AV) := (List.range (chN cs.length k)).map fun j => [.sl true (min k (cs.length - j * k)) ((cs.drop (j * k)).take k)]
theorem chunks_len (k : Nat) (cs : List AV) : (chunkL k cs).length = chN cs.length k := by simp [chunkL]
theorem chunk_iter (full : Bool) (cs : List AV) (k : Nat) (hk : 0 < k) (hk2 : k ≤ 65536) (h0 : cs ≠ []) (hl : cs.length ≤ 1000000000) : Iter Try.prog 73 [.cp [.sl full cs.length cs], .cp [.int .i64 k]] (chunkL k cs) := by
  refine ⟨fun args w => enters_ ⟨_, Try.func73, rfl, rfl⟩ args w, fun K w vs hK ha => ?_⟩
  obtain ⟨p1, p2, rfl, g0, g1⟩ := args2 ha
  obtain ⟨b1, o1, rfl, i1, v1⟩ := kcp1_inv g0
  obtain ⟨b2, o2, rfl, i2, v2⟩ := kcp1_inv g1
  obtain ⟨a, c, e1, hlc, hcm, _, hsl⟩ := ksl_inv v1
  rcases hsl with ⟨q, _⟩ | ⟨b, o, rfl, hin, hcs⟩
  · exact absurd (List.eq_nil_of_length_eq_zero q) h0
  refine ⟨fun i => #[chV b o cs.length k i], fun i x hx => ?_, fun n l J Jx W hW hA hAx hY hJ => ?_⟩
  · have hi : i < chN cs.length k := by have := getq_lt hx; rw [chunks_len] at this; exact this
    simp only [chunkL, List.getElem?_map, List.getElem?_range hi, Option.map_some, Option.some.injEq] at hx
    subst hx
    have hlt := (chN_lt hk).1 hi
    refine argsR1 ?_
    have hlen : ((cs.drop (i * k)).take k).length = min k (cs.length - i * k) := by simp
    unfold chV
    refine .sl _ _ _ _ _ _ (Nat.le_refl _) (Nat.le_trans (by omega) hcm) (fun _ => rfl) (by rw [hlen]; exact In_sub hin _ _ (by omega)) fun j y hy => ?_
    rw [List.getElem?_take] at hy
    split at hy
    · rw [List.getElem?_drop] at hy
      rw [Nat.add_assoc]
      exact hcs _ _ hy
    · cases hy
  · have hKW : KOk K W := hK.after hW
    have hlenF : (chunkL k cs).length = chN cs.length k := chunks_len k cs
    revert J Jx
    rw [hlenF]
    intro J Jx hA hAx hY hJ
    exact chunk1_in n K l b1 o1 b2 o2 b o cs.length c k hk hlc hcm hk2 hl i1 i2 e1 (kint_inv v2) J Jx hY W hA hKW hJ
theorem chunks_mem {k : Nat} {cs : List AV} {x : List AV} (hk : 0 < k) (h : x ∈ chunkL k cs) : ∃ m ds, x = [.sl true m ds] ∧ ds.length = m ∧ 1 ≤ m ∧ m ≤ k ∧ m ≤ cs.length := by
  simp only [chunkL, List.mem_map, List.mem_range] at h
  obtain ⟨j, hj, rfl⟩ := h
  have := (chN_lt hk).1 hj
  exact ⟨_, _, rfl, by simp, by omega, by omega, by omega⟩
theorem chN_le (n k : Nat) (hk : 0 < k) : chN n k ≤ n + 1 := by
  unfold chN
  have := Nat.div_le_self (n + k - 1) k
  by_cases h : n = 0
  · subst h; rw [Nat.div_eq_of_lt (by omega)]; omega
  · have : (n + k - 1) / k ≤ n := by
      rw [Nat.div_le_iff_le_mul_add_pred hk]
      have : n ≤ k * n := Nat.le_mul_of_pos_left n hk
      omega
    omega
end Go.Proofs.Ytikganlbnhapcaa
