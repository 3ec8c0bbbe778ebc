import Derived.Test.YtmbnclpgldglnaaAvHand
import Derived.Test.YtmbnclpgldglnaaConcat
import Derived.Lib.Overlaps
import Derived.Deep.RegionLaw
import Derived.Laws.IdiomCopy
namespace Go.Proofs.Ytmbnclpgldglnaa
open Go.RowKit
set_option linter.unusedVariables false
set_option linter.unusedSimpArgs false
set_option maxRecDepth 20000
attribute [local go_sem] Oper.semAt_some
/-! slices.Insert(s, 0, x) at [][]byte -/
theorem wpList_cp {P : Program} {w w' : World} {ops : Array Oper} {rest : List Oper} {o : Oper} {a : Act} {Q : Exit → Act → World → Prop} (hgd : o.guard = none) (d s : Operand) (t t' : TypeId)
    (ho : o.op = .call { callee := .builtin .copy, args := #[d, s], argTypes := #[t, t'] }) {v u v' : Value} (hd : a.eval d = v) (hs : a.eval s = u) (hr : (Builtin.copy_ #[t, t'] o.type #[v, u]).run P w = .ok v' w')
    (h : wpList P ops Q rest (a.put o.dst v') w') : wpList P ops Q (o :: rest) a w := by
  refine wpList_plain hgd fun K hK => ?_
  unfold Oper.wp execOp
  simp only [ho, resolve, invoke, builtin, Sem.run_bind, Sem.run_pure, Result.andThen_ok, List.map_toArray, List.map_cons, List.map_nil, hd, hs, hr]
  exact hK _ _ h
theorem step_cp {P : Program} {ops : Array Oper} {o : Oper} {a : Act} {w w' : World} {K : Act → World → Prop} {Q : Exit → Act → World → Prop} {E : Prop} (hg : o.guard = none) (d x : Operand) (dT sT : TypeId)
    (hop : o.op = Op.call { callee := Callee.builtin Builtin.copy, args := #[d, x], argTypes := #[dT, sT] }) {v u v' : Value} (hd : a.eval d = v) (hx : a.eval x = u) (hr : (Builtin.copy_ #[dT, sT] o.type #[v, u]).run P w = .ok v' w') (hK : K (a.put o.dst v') w') :
    if Region.wanted o (yielded ops a.tmps) = true then Oper.wp P o a w K Q else E := by
  have hw : Region.wanted o (yielded ops a.tmps) = true := by simp [Region.wanted, hg]
  rw [if_pos hw]
  unfold Oper.wp
  simp [execOp, hop, resolve, invoke, builtin, hd, hx, hr, Result.andThen]
  exact hK
theorem getv {arr : Array Value} {w : World} {b : Nat} {T : TypeId} {fz : Nat × Nat} (hb : w.heap[b]? = some (.cells arr T fz)) {l : List Value} {n : Nat} (h : arr.toList.take n = l) {off : Nat} (j : Nat) (u : Value) (hu : (l.drop off)[j]? = some u) : w.cell? ((⟨b, off, none⟩ : Addr).add j) = some u := by
  rw [show (⟨b, off, none⟩ : Addr).add j = ⟨b, off + j, none⟩ by unfold Addr.add; split <;> simp_all]
  rw [cell_of_row w b (off + j) arr T _ hb]
  rw [List.getElem?_drop, ← h, List.getElem?_take] at hu
  split at hu
  · rwa [Array.getElem?_toList] at hu
  · cases hu
set_option maxHeartbeats 8000000 in
set_option maxRecDepth 100000 in
theorem ins_room (b n c vb vc : Nat) (cur curv : Array Value) (cs : List Value) (v : Value) (w : World) (hn : 0 < n) (hroom : n + 1 ≤ c) (hc : c ≤ 9223372036854775807) (hvb : vb ≠ b)
    (hb : w.heap[b]? = some (.cells cur 22 (0, 0))) (hcur : cur.size = c) (htk : cur.toList.take n = cs) (hb2 : w.heap[vb]? = some (.cells curv 22 (0, 0))) (hv : curv[0]? = some v) (h1c : ∀ x ∈ cs, x.oneCell' = true) (h1v : v.oneCell' = true) :
    Calls Try.prog 62 #[.slice (some ⟨b, 0, none⟩) n c, .int .i64 0, .slice (some ⟨vb, 0, none⟩) 1 vc] w fun e w' =>
      e = .returned (.slice (some ⟨b, 0, none⟩) (n + 1) c) ∧ ∃ r : List Value, w' = (w.drew.setRow b (cur.toList.take 1 ++ cs ++ cur.toList.drop (1 + n)).toArray).setRow b (v :: cs ++ r).toArray := by
  have hcl : cs.length = n := by rw [← htk, List.length_take, Array.length_toList]; omega
  have hsz : (Try.prog.info? 22).map (·.size) = some 1 := by kernel_rfl
  obtain ⟨i, z, d, hi, hz, hzs, hz1, hszz, hbe, hzr, hd⟩ := ti_ok (P := Try.prog) (t := 22) (by kernel_rfl)
  have hs1 : ∀ w, (Go.sizeOf 22).run Try.prog w = .ok 1 w := fun w => by
    rw [run_sizeOf' hi]
    rw [hi] at hsz
    simp only [Option.map_some, Option.some.injEq] at hsz
    rw [hsz]
  have hsa : w.shape? vb = some (22, curv.size) := by unfold World.shape?; rw [hb2]
  have hsb : w.shape? b = some (22, cur.size) := by unfold World.shape?; rw [hb]
  have hfa : ∀ k, w.frozen? ⟨vb, k, none⟩ = false := fun k => by unfold World.frozen?; simp [hb2]
  have hov : ∀ lb cb, (callFunc 95 #[.slice (some ⟨vb, 0, none⟩) 1 vc, .slice (some ⟨b, 1, none⟩) lb cb]).run Try.prog w = .ok (.value (.bool false)) w := fun lb cb => by
    rw [run_callFunc_extern Try.func95 (by kernel_rfl) (by kernel_rfl) (by kernel_rfl) (e := Extern.SlicesOverlaps.overlaps #[79, 79] #[4]) (by kernel_rfl),
      Lib.run_overlaps_apart w 79 4 22 Try.underlying79 1 hs1 ⟨vb, 0, none⟩ ⟨b, 1, none⟩ 1 vc lb cb hvb _ _ _ _ hsa hsb (by omega) (hfa _) (hfa _)]
    rfl
  have hcp1 : ∀ ty dc sc, (Builtin.copy_ #[79, 79] ty #[.slice (some ⟨b, 1, none⟩) n dc, .slice (some ⟨b, 0, none⟩) (n + 1) sc]).run Try.prog w.drew = .ok (goInt cs.length) (w.drew.setRow b (cur.toList.take 1 ++ cs ++ cur.toList.drop (1 + n)).toArray) := fun ty dc sc => by
    have := run_copy_row (P := Try.prog) w.drew 79 79 ty 22 b 1 n dc ⟨b, 0, none⟩ (n + 1) sc cur 22 cs Try.underlying79 hsz hb (by simp only [Nat.min_def]; split <;> omega) (fun j u hu => getv hb htk j u (by simpa using hu)) (by omega) h1c
    rw [hcl] at this
    rw [hcl]; exact this
  obtain ⟨A1, hA1⟩ : ∃ A1, A1 = (cur.toList.take 1 ++ cs ++ cur.toList.drop (1 + n)).toArray := ⟨_, rfl⟩
  have hA1s : A1.size = c := by rw [hA1]; simp; omega
  rw [← hA1] at hcp1 ⊢
  have hcp2 : ∀ (W : World), W.heap = (w.drew.setRow b A1).heap → ∀ ty dc, (Builtin.copy_ #[79, 79] ty #[.slice (some ⟨b, 0, none⟩) (n + 1) dc, .slice (some ⟨vb, 0, none⟩) 1 vc]).run Try.prog W = .ok (goInt 1) (W.setRow b (v :: cs ++ A1.toList.drop (1 + n)).toArray) := fun W hW ty dc => by
    have e1 : W.heap[b]? = some (.cells A1 22 (0, 0)) := by rw [hW]; exact setRow_heap w.drew b cur A1 _ _ hb
    have e2 : W.heap[vb]? = some (.cells curv 22 (0, 0)) := by rw [hW, setRow_other w.drew b vb A1 hvb]; exact hb2
    have := run_copy_row (P := Try.prog) W 79 79 ty 22 b 0 (n + 1) dc ⟨vb, 0, none⟩ 1 vc A1 22 [v] Try.underlying79 hsz e1 (by simp only [Nat.min_def]; split <;> simp; omega) (fun j u hu => by
      cases j with
      | zero => simp at hu; subst hu; rw [show (⟨vb, 0, none⟩ : Addr).add 0 = ⟨vb, 0, none⟩ from rfl, cell_of_row W vb 0 curv _ _ e2]; exact hv
      | succ j => simp at hu) (by simp; omega) (by simpa using h1v)
    have e3 : (A1.toList.take 0 ++ [v] ++ A1.toList.drop (0 + [v].length)) = v :: cs ++ A1.toList.drop (1 + n) := by
      have e4 : A1.toList = cur.toList.take 1 ++ cs ++ cur.toList.drop (1 + n) := by rw [hA1]
      have l1 : (cur.toList.take 1).length = 1 := by simp; omega
      have h5 : A1.toList.drop 1 = cs ++ cur.toList.drop (1 + n) := by rw [e4, List.append_assoc]; exact List.drop_left' l1
      have h6 : A1.toList.drop (1 + n) = cur.toList.drop (1 + n) := by rw [e4]; exact List.drop_left' (by rw [List.length_append, l1, hcl])
      rw [h6, List.take_zero, List.nil_append, List.length_singleton, Nat.zero_add, h5]; rfl
    rw [e3] at this
    exact this
  have H1 := Lib.hid hcp1
  have H2 := Lib.hid hcp2
  have HO := Lib.hid hov
  clear hcp1 hcp2 hov hA1 htk hzr hz1 hzs hz hbe hi hd hs1
  have hz1 : ¬ ((0 : Int) = (n : Int)) := by omega
  have hw1 : IntKind.i64.wrap 1 = (1 : Int) := by decide
  have hb2 : ¬ (c = 1) := by omega
  have hb3 : (1 : Int) ≤ (n : Int) + 1 := by omega
  have hb4 : ¬ (c = 0) := by omega
  have hb5 : (0 : Int) ≤ (n : Int) + 1 := by omega
  go_enter Try.func62, Try.ntmps62
  go_wp2_with (simp only [HO.out])
  go_region_law (refine step_cp (v := .slice (some ⟨b, 1, none⟩) n (c - 1)) (u := .slice (some ⟨b, 0, none⟩) (n + 1) c) rfl _ _ 79 79 rfl (by simp [Act.eval, Act.put]) (by simp [Act.eval, Act.put]) (H1.out _ _ _) ?_)
  go_wp2_with (refine wpList_cp (o := ⟨some 82, _, _, _, _, _⟩) (v := .slice (some ⟨b, 0, none⟩) (n + 1) c) (u := .slice (some ⟨vb, 0, none⟩) 1 vc) rfl _ _ 79 79 rfl rfl rfl (H2.out (w.drew.setRow b A1) rfl _ _) ?_)
  go_ret
  exact ⟨rfl, _, rfl⟩
set_option maxHeartbeats 8000000 in
set_option maxRecDepth 100000 in
theorem ins_new (b n vb vc : Nat) (cur curv : Array Value) (cs : List Value) (v : Value) (w : World) (hn : 0 < n) (hc : n ≤ 1000000) (hvb : vb ≠ b)
    (hb : w.heap[b]? = some (.cells cur 22 (0, 0))) (htk : cur.toList.take n = cs) (hcl : cs.length = n) (hb2 : w.heap[vb]? = some (.cells curv 22 (0, 0))) (hv : curv[0]? = some v) (h1c : ∀ x ∈ cs, x.oneCell' = true) (h1v : v.oneCell' = true) :
    Calls Try.prog 62 #[.slice (some ⟨b, 0, none⟩) n n, .int .i64 0, .slice (some ⟨vb, 0, none⟩) 1 vc] w fun e w' =>
      ∃ (cap : Nat) (A0 A1 : Array Value) (r : List Value), e = .returned (.slice (some ⟨w.heap.size, 0, none⟩) (n + 1) cap) ∧ n + 1 ≤ cap ∧ cap ≤ maxLen ∧ A0.size = cap ∧ (v :: cs ++ r).length = cap ∧ w' = ((w.drew.alloc (.cells A0 22)).setRow w.heap.size A1).drew.setRow w.heap.size (v :: cs ++ r).toArray := by
  have hsz : (Try.prog.info? 22).map (·.size) = some 1 := by kernel_rfl
  obtain ⟨i, z, d, hi, hz, hzs, hz1, hszz, hbe, hzr, hd⟩ := ti_ok (P := Try.prog) (t := 22) (by kernel_rfl)
  have s1 : i.size = 1 := by rw [← hszz]; kernel_rfl
  have b1 : i.bytes = 24 := by rw [← hbe]; kernel_rfl
  have hone : ∀ u ∈ (Builtin.zeroCells z.cells (n + 1)).toList, u.oneCell' = true := fun u hu => by
    obtain ⟨j, hj⟩ := List.getElem?_of_mem hu
    rw [Array.getElem?_toList] at hj
    exact (zeros_rep ⟨fun _ _ => .bool true, fun _ => 0, fun _ _ _ => none, 0, fun _ _ _ _ => rfl⟩ (n + 1) i.size z.cells hzs (by omega) hz1).2.1 j u (by rw [← hzs]; exact hj)
  have src := ASrc.ofZeros (w := w) (t' := 3) hi hz hzs hone Try.underlying3 (by omega) (m := n + 1) (by omega) (by rw [b1]; omega) .i64
  have hfc : (Builtin.firstCells i.size 0 (.slice (some ⟨b, 0, none⟩) 0 n)).run Try.prog w.drew = .ok ([] : List Value).toArray w.drew := run_firstCells_some w.drew i.size 0 ⟨b, 0, none⟩ 0 n [] (by simp) (fun j u hu => by simp at hu)
  have hrun := src.grow 79 79 (some ⟨b, 0, none⟩) 0 n [] Try.underlying79 hfc (by omega) (by omega) (by omega) (by rw [b1]; omega)
  have hcm : grownCap w (0 + (n + 1)) n 22 ≤ maxLen := grownCap_le_maxLen w _ n 22 (by unfold maxLen; omega)
  have hge := grownCap_ge w (0 + (n + 1)) n 22
  have hcs0 : ((([] : List Value).toArray ++ (Builtin.zeroCells z.cells (n + 1)).toList.toArray ++ Builtin.zeroCells z.cells (grownCap w (0 + (n + 1)) n 22 - (0 + (n + 1))))).size = grownCap w (0 + (n + 1)) n 22 := by
    simp only [Array.size_append, size_zeroCells, hzs, s1, List.size_toArray, Array.length_toList, List.length_nil]; omega
  generalize (([] : List Value).toArray ++ (Builtin.zeroCells z.cells (n + 1)).toList.toArray ++ Builtin.zeroCells z.cells (grownCap w (0 + (n + 1)) n 22 - (0 + (n + 1)))) = A0 at hrun hcs0
  generalize grownCap w (0 + (n + 1)) n 22 = cap at *
  rw [Nat.zero_add] at hrun hge
  have hN : b ≠ w.heap.size := by have := (Array.getElem?_eq_some_iff.1 hb).1; omega
  have hN2 : vb ≠ w.heap.size := by have := (Array.getElem?_eq_some_iff.1 hb2).1; omega
  obtain ⟨W1, hW1⟩ : ∃ W1, W1 = w.drew.alloc (.cells A0 22) := ⟨_, rfl⟩
  have k0 : W1.heap[w.heap.size]? = some (.cells A0 22 (0, 0)) := by rw [hW1]; exact heap_alloc_new w.drew _
  have k1 : W1.heap[b]? = some (.cells cur 22 (0, 0)) := by rw [hW1]; exact (Below.heap_alloc w.drew _ b (Array.getElem?_eq_some_iff.1 hb).1).trans hb
  have k2 : W1.heap[vb]? = some (.cells curv 22 (0, 0)) := by rw [hW1]; exact (Below.heap_alloc w.drew _ vb (Array.getElem?_eq_some_iff.1 hb2).1).trans hb2
  rw [← hW1, show ((n + 1 : Nat) : Int) = (n : Int) + 1 by omega] at hrun
  obtain ⟨A1, hA1⟩ : ∃ A1, A1 = (v :: A0.toList.drop 1).toArray := ⟨_, rfl⟩
  have hA1s : A1.size = cap := by rw [hA1]; simp; omega
  have hcp1 : ∀ ty dc, (Builtin.copy_ #[79, 79] ty #[.slice (some ⟨w.heap.size, 0, none⟩) (n + 1) dc, .slice (some ⟨vb, 0, none⟩) 1 vc]).run Try.prog W1 = .ok (goInt 1) (W1.setRow w.heap.size A1) := fun ty dc => by
    have := run_copy_row (P := Try.prog) W1 79 79 ty 22 w.heap.size 0 (n + 1) dc ⟨vb, 0, none⟩ 1 vc A0 22 [v] Try.underlying79 hsz k0 (by simp only [Nat.min_def]; split <;> simp; omega) (fun j u hu => by
      cases j with
      | zero => simp at hu; subst hu; rw [show (⟨vb, 0, none⟩ : Addr).add 0 = ⟨vb, 0, none⟩ from rfl, cell_of_row W1 vb 0 curv _ _ k2]; exact hv
      | succ j => simp at hu) (by simp; omega) (by simpa using h1v)
    rw [show (A0.toList.take 0 ++ [v] ++ A0.toList.drop (0 + [v].length)).toArray = A1 by rw [hA1]; simp] at this
    exact this
  obtain ⟨W2, hW2⟩ : ∃ W2, W2 = W1.setRow w.heap.size A1 := ⟨_, rfl⟩
  rw [← hW2] at hcp1
  have q0 : W2.heap[w.heap.size]? = some (.cells A1 22 (0, 0)) := by rw [hW2]; exact setRow_heap W1 _ A0 A1 _ _ k0
  have q1 : W2.heap[b]? = some (.cells cur 22 (0, 0)) := by rw [hW2, setRow_other W1 _ b A1 hN]; exact k1
  have hcp2 : ∀ ty dc sc, (Builtin.copy_ #[79, 79] ty #[.slice (some ⟨w.heap.size, 1, none⟩) n dc, .slice (some ⟨b, 0, none⟩) n sc]).run Try.prog W2.drew = .ok (goInt cs.length) (W2.drew.setRow w.heap.size (v :: cs ++ A1.toList.drop (1 + n)).toArray) := fun ty dc sc => by
    have := run_copy_row (P := Try.prog) W2.drew 79 79 ty 22 w.heap.size 1 n dc ⟨b, 0, none⟩ n sc A1 22 cs Try.underlying79 hsz q0 (by simp only [Nat.min_def]; split <;> omega) (fun j u hu => by
      exact getv (w := W2.drew) (off := 0) q1 htk j u (by simpa using hu)) (by omega) h1c
    rw [hcl] at this
    rw [show A1.toList.take 1 ++ cs ++ A1.toList.drop (1 + n) = v :: cs ++ A1.toList.drop (1 + n) by rw [hA1]; simp] at this
    rw [hcl]; exact this
  have hfin : (v :: cs ++ A1.toList.drop (1 + n)).length = cap := by simp [hcl]; omega
  have H0 := Lib.hid hrun
  have H1 := Lib.hid hcp1
  have H2 := Lib.hid hcp2
  have HF := Lib.hid hfin
  have HW1 := Lib.hid hW1
  have HW2 := Lib.hid hW2
  clear hW1 hW2 hrun hcp1 hcp2 hA1 htk hzr hz1 hzs hz hbe hi hd hone src hfc hfin
  have hz1 : ¬ ((0 : Int) = (n : Int)) := by omega
  have hw1 : IntKind.i64.wrap 1 = (1 : Int) := by decide
  have hb3 : (1 : Int) ≤ (n : Int) + 1 := by omega
  have hb5 : (0 : Int) ≤ (n : Int) + 1 := by omega
  have hb6 : ¬ (n = 0) := by omega
  have hb7 : ¬ (cap = 0) := by omega
  have hb8 : ¬ (cap = 1) := by omega
  go_enter Try.func62, Try.ntmps62
  go_wp2_with (first | (at_builtin; refine wpList_bi (o := ⟨some 40, _, _, _, _, _⟩) rfl _ _ 79 3 rfl rfl rfl H0.out ?_) | (refine wpList_cp (o := ⟨some 45, _, _, _, _, _⟩) (v := .slice (some ⟨w.heap.size, 0, none⟩) (n + 1) cap) (u := .slice (some ⟨vb, 0, none⟩) 1 vc) rfl _ _ 79 79 rfl rfl rfl (H1.out _ _) ?_))
  go_region_law (refine step_cp (v := .slice (some ⟨w.heap.size, 1, none⟩) n (cap - 1)) (u := .slice (some ⟨b, 0, none⟩) n n) rfl _ _ 79 79 rfl (by simp [Act.eval, Act.put]) (by simp [Act.eval, Act.put]) (H2.out _ _ _) ?_)
  go_wp2_with fail
  go_ret
  exact ⟨cap, A0, A1, _, rfl, hge, hcm, hcs0, HF.out, by rw [HW2.out, HW1.out]⟩
end Go.Proofs.Ytmbnclpgldglnaa
