import Derived.Test.YtikganlbnhapcaaChunk
namespace Go.Proofs.Ytikganlbnhapcaa
open Go.RowKit
set_option linter.unusedVariables false
set_option linter.unusedSimpArgs false
set_option maxRecDepth 20000
attribute [local go_sem] Oper.semAt_some
theorem spec_own {P : Program} {f : FuncId} {args : List AV} {e : TypeId} (hf : Callable P f) (h : ∀ (K : Kd) (w : World) (vs : Array Value), KOk K w → ArgsR K args vs →
    Calls P f vs w fun x w' => ∃ v, x = .returned v ∧ Below w.heap.size w w' ∧ w'.ownsRow w.heap.size e (tiOf P e).sz v 0 []) : Spec P f args (.own 0 e []) := by
  refine ⟨hf, fun K w vs hk ha => (h K w vs hk ha).mono ?_⟩
  rintro x w' ⟨v, rfl, hb, ho⟩
  exact ⟨v, K, rfl, hb, .refl _, hk.after hb, fun _ _ => rfl, fun _ _ _ _ => rfl, [], ho, fun b q => hk.hw0 (World.ownsRow.lt ho b q).1, (fun x hx => by cases hx), rfl, fun i x u hx => by simp at hx⟩
/-- a builtin, by its own law -/
theorem wpList_bi {P : Program} {w w' : World} {ops : Array Oper} {rest : List Oper} {o : Oper} {a : Act} {Q : Exit → Act → World → Prop} (hw : Region.wanted o (yielded ops a.tmps) = true)
    (s x : Operand) (t t' : TypeId) (ho : o.op = .call { callee := .builtin .append, args := #[s, x], argTypes := #[t, t'] }) {v u r : Value} (hs : a.eval s = v) (hx : a.eval x = u) (hr : (Builtin.append_ #[t, t'] o.type #[v, u]).run P w = .ok r w')
    (h : wpList P ops Q rest (a.put o.dst r) w') : wpList P ops Q (o :: rest) a w := by
  refine wpList_step fun K hK => ?_
  rw [if_pos hw]
  unfold Oper.wp execOp
  simp only [ho, resolve, invoke, builtin, Sem.run_bind, Sem.run_pure, Result.andThen_ok, List.map_toArray, List.map_cons, List.map_nil, hs, hx, hr]
  exact hK _ _ h
set_option maxHeartbeats 4000000 in
theorem grow_run (a : Option Addr) (n : Nat) (w : World) (h0 : 0 < n) (hn : n ≤ 1000000000) : Calls Try.prog 81 #[.slice a 0 0, .int .i64 n] w fun e w' =>
    ∃ cap cs, e = .returned (.slice (some ⟨w.heap.size, 0, none⟩) 0 cap) ∧ cs.size = cap ∧ cap ≤ maxLen ∧ w' = w.drew.alloc (.cells cs 5) := by
  obtain ⟨i, z, d, hi, hz, hzs, hz1, hsz, hbe, hzr, hd⟩ := ti_ok (P := Try.prog) (t := 5) (by kernel_rfl)
  have s1 : i.size = 1 := by rw [← hsz]; kernel_rfl
  have b1 : i.bytes = 1 := by rw [← hbe]; kernel_rfl
  have hone : ∀ u ∈ (Builtin.zeroCells z.cells n).toList, u.oneCell' = true := fun u hu => by
    obtain ⟨j, hj⟩ := List.getElem?_of_mem hu
    rw [Array.getElem?_toList] at hj
    exact (zeros_rep ⟨fun _ _ => .bool true, fun _ => 0, fun _ _ _ => none, 0, fun _ _ _ _ => rfl⟩ n i.size z.cells hzs (by omega) hz1).2.1 j u (by rw [← hzs]; exact hj)
  have src := ASrc.ofZeros (w := w) (t' := 3) hi hz hzs hone Try.underlying3 (by omega) (m := n) (by omega) (by rw [b1]; omega) .i64
  have hfc : (Builtin.firstCells i.size 0 (.slice a 0 0)).run Try.prog w.drew = .ok ([] : List Value).toArray w.drew := by
    cases a with
    | none => exact run_firstCells_none w.drew i.size 0 0 0
    | some p => exact run_firstCells_some w.drew i.size 0 p 0 0 [] (by simp) (fun j u hu => by simp at hu)
  have hrun := src.grow 22 22 a 0 0 [] Try.underlying22 hfc h0 (by omega) (by omega) (by rw [b1]; omega)
  have hcs : ((([] : List Value).toArray ++ (Builtin.zeroCells z.cells n).toList.toArray ++ Builtin.zeroCells z.cells (grownCap w (0 + n) 0 5 - (0 + n)))).size = grownCap w (0 + n) 0 5 := by
    have hge := grownCap_ge w (0 + n) 0 5
    simp only [Array.size_append, size_zeroCells, hzs, s1, List.size_toArray, Array.length_toList, List.length_nil]; omega
  have hcm : grownCap w (0 + n) 0 5 ≤ maxLen := grownCap_le_maxLen w (0 + n) 0 5 (by unfold maxLen; omega)
  have hge := grownCap_ge w (0 + n) 0 5
  generalize (([] : List Value).toArray ++ (Builtin.zeroCells z.cells n).toList.toArray ++ Builtin.zeroCells z.cells (grownCap w (0 + n) 0 5 - (0 + n))) = cs at hrun hcs
  generalize grownCap w (0 + n) 0 5 = cap at *
  rw [Nat.zero_add] at hrun hge
  clear hone hzr hz1 hzs hz hsz hbe hi src hfc hd
  go_enter Try.func81, Try.ntmps81
  have HR := Lib.hid hrun
  clear hrun
  go_wp2_with (at_builtin; refine wpList_bi (o := ⟨some 22, _, _, _, _, _⟩) rfl _ _ 22 3 rfl rfl rfl HR.out ?_)
  go_ret
  exact ⟨cap, cs, rfl, hcs, hcm, rfl⟩
theorem grow_spec (n : Nat) (h0 : 0 < n) (hn : n ≤ 1000000000) : Spec Try.prog 81 [.sl true 0 [], .int .i64 n] (.own 0 5 []) := by
  refine spec_own ⟨_, Try.func81, rfl, rfl⟩ fun K w vs hk ha => ?_
  obtain ⟨u, v, rfl, g0, g1⟩ := args2 ha
  rw [kint_inv g1]
  obtain ⟨a, c, rfl, _, _, hc, _⟩ := ksl_inv g0
  rw [hc rfl]
  refine (grow_run a n w h0 hn).mono ?_
  rintro e w' ⟨cap, cs, rfl, h1, h2, rfl⟩
  have hsz : (tiOf Try.prog 5).sz = 1 := by kernel_rfl
  refine ⟨_, rfl, (Below.refl _ _).drew.alloc (Nat.le_refl _) _, ?_⟩
  rw [hsz]
  exact ⟨by simp, .inr ⟨w.heap.size, cap, cs, rfl, Nat.le_refl _, heap_alloc_new w.drew _, Nat.zero_le _, h2, by rw [h1]; simp, by simp⟩⟩
abbrev Part := Bool × List AV
def Part.av (p : Part) : AV := .sl p.1 p.2.length p.2
def pCells (ps : List Part) : List AV := ps.map Part.av
def pAll (ps : List Part) : List AV := ps.flatMap (·.2)
theorem pCells_len (ps : List Part) : (pCells ps).length = ps.length := by simp [pCells]
theorem pAll_take {ps : List Part} {i : Nat} {p : Part} (h : ps[i]? = some p) : pAll (ps.take (i + 1)) = pAll (ps.take i) ++ p.2 := by
  rw [take_succ' h]; simp [pAll]
theorem pAll_le (ps : List Part) (i : Nat) : (pAll (ps.take i)).length ≤ (pAll ps).length := by
  conv => rhs; rw [← List.take_append_drop i ps]
  simp only [pAll, List.flatMap_append, List.length_append]; omega
set_option maxHeartbeats 8000000 in
theorem concat_spec (full : Bool) (ps : List Part) (h0 : 0 < (pAll ps).length) (hb : (pAll ps).length ≤ 100000000) (hN : ps.length ≤ 1000000) : Spec Try.prog 57 [.sl full ps.length (pCells ps)] (.k (.sl false (pAll ps).length (pAll ps))) := by
  refine spec_of (fun _ => false) (by kernel_rfl) Try.func57 rfl rfl (by simp [Try.ntmps57]) (by decide) ?_
  intro δ
  rw [init1]
  have hlen := pCells_len ps
  repeat (first | with_reducible (first | refine aWp_seq ?_ | refine seq_normal ?_ | refine seq_ret ?_ | refine seq_exit ?_ | refine blk_normal ?_ | refine blk_ret ?_ | refine blk_hit ?_ | refine blk_miss rfl ?_ | refine aWp_ret ?_ | refine aWp_skip ?_ | refine aWp_block ?_ | refine aWp_exit ?_ | refine end_ret ?_ | refine end_normal ?_) | ((refine rgA ?_); intro ν) | ((with_reducible apply cndT); exact rfl; (first | rfl | assumption)) | ((with_reducible apply cndF); exact rfl; (first | rfl | assumption)))
  refine aWp_loop (fun m s => ∃ F T ν i, m = ps.length - i ∧ i ≤ ps.length ∧ s = ⟨F, T, ν, ⟨fun _ => false, δ, false⟩⟩ ∧
    F 0 = .k (.sl full ps.length (pCells ps)) ∧ F 9 = .k (.sl full ps.length (pCells ps)) ∧ F 10 = .k (.int .i64 (ps.length : Nat)) ∧ F 11 = .k (.int .i64 (i : Nat)) ∧ F 3 = .k (.int .i64 ((pAll (ps.take i)).length : Nat))) ps.length ⟨_, _, _, 0, rfl, Nat.zero_le _, rfl, rfl, rfl, rfl, rfl, rfl⟩ ?_
  rintro m s ⟨F, T, ν, i, rfl, hi, rfl, f0, f9, f10, f11, f3⟩
  rw [has5 f0 f9 f10 f11 f3]
  repeat with_reducible (first | refine aWp_seq ?_ | refine seq_normal ?_ | refine seq_ret ?_ | refine seq_exit ?_ | refine blk_normal ?_ | refine blk_ret ?_ | refine blk_hit ?_ | refine blk_miss rfl ?_ | refine aWp_ret ?_ | refine aWp_skip ?_ | refine aWp_block ?_ | refine aWp_exit ?_ | refine end_ret ?_ | refine end_normal ?_)
  by_cases hlt : i < ps.length
  · obtain ⟨p, hp⟩ : ∃ p, ps[i]? = some p := ⟨ps[i], by simp [hlt]⟩
    have hld : ldAgg (.sl 5) 1 (List.drop i (pCells ps)) = some p.av := by
      have : (pCells ps)[i]? = some p.av := by simp [pCells, hp]
      have hl : i < (pCells ps).length := by omega
      rw [List.drop_eq_getElem_cons hl]
      rw [List.getElem?_eq_getElem hl] at this
      injection this with this
      rw [this]; rfl
    have hpt := pAll_take hp
    have hle := pAll_le ps (i + 1)
    rw [hpt, List.length_append] at hle
    repeat (first | with_reducible (first | refine aWp_seq ?_ | refine seq_normal ?_ | refine seq_ret ?_ | refine seq_exit ?_ | refine blk_normal ?_ | refine blk_ret ?_ | refine blk_hit ?_ | refine blk_miss rfl ?_ | refine aWp_ret ?_ | refine aWp_skip ?_ | refine aWp_block ?_ | refine aWp_exit ?_ | refine end_ret ?_ | refine end_normal ?_) | ((refine rgA ?_); intro ν) | ((with_reducible apply cndT); exact rfl; (first | rfl | assumption)) | ((with_reducible apply cndF); exact rfl; (first | rfl | assumption)))
    refine ⟨ps.length - (i + 1), by omega, _, _, _, i + 1, rfl, by omega, rfl, rfl, rfl, rfl, rfl, ?_⟩
    show (SV.k (.int .i64 (((pAll (ps.take i)).length : Int) + (p.2.length : Int))) : SV) = _
    rw [hpt, List.length_append]; push_cast; rfl
  · have hie : i = ps.length := by omega
    subst hie
    rw [List.take_length]
    have hg := grow_spec (pAll ps).length h0 (by omega)
    repeat (first | with_reducible (first | refine aWp_seq ?_ | refine seq_normal ?_ | refine seq_ret ?_ | refine seq_exit ?_ | refine blk_normal ?_ | refine blk_ret ?_ | refine blk_hit ?_ | refine blk_miss rfl ?_ | refine aWp_ret ?_ | refine aWp_skip ?_ | refine aWp_block ?_ | refine aWp_exit ?_ | refine end_ret ?_ | refine end_normal ?_) | ((refine rgA ?_); intro ν) | ((with_reducible apply cndT); exact rfl; (first | rfl | assumption)) | ((with_reducible apply cndF); exact rfl; (first | rfl | assumption)))
    refine rg fun K hK => ?_
    refine stA ?_
    (first | with_reducible refine g0 ?_ | ((with_reducible refine g1 ?_ ?_); (with_reducible apply gt_); exact rfl; exact rfl; (first | rfl | assumption | (simp [*] <;> done)))); refine scA (h2 := (hg)) (hk := ?_)
    refine stA ?_
    with_reducible refine rz ?_
    refine hK _ _ _ ?_
    clear hK K; intro ν
    repeat (first | with_reducible (first | refine aWp_seq ?_ | refine seq_normal ?_ | refine seq_ret ?_ | refine seq_exit ?_ | refine blk_normal ?_ | refine blk_ret ?_ | refine blk_hit ?_ | refine blk_miss rfl ?_ | refine aWp_ret ?_ | refine aWp_skip ?_ | refine aWp_block ?_ | refine aWp_exit ?_ | refine end_ret ?_ | refine end_normal ?_) | ((refine rgA ?_); intro ν) | ((with_reducible apply cndT); exact rfl; (first | rfl | assumption)) | ((with_reducible apply cndF); exact rfl; (first | rfl | assumption)))
    refine aWp_loop (fun m s => ∃ F T ν i x, m = ps.length - i ∧ i ≤ ps.length ∧ s = ⟨F, T, ν, ⟨fun _ => false, δ, false⟩⟩ ∧
      F 25 = .k (.sl full ps.length (pCells ps)) ∧ F 26 = .k (.int .i64 (ps.length : Nat)) ∧ F 27 = .k (.int .i64 (i : Nat)) ∧ F 6 = x ∧ AccO 5 [24, 33] T x (pAll (ps.take i)).length (pAll (ps.take i))) ps.length ⟨_, _, _, 0, _, rfl, Nat.zero_le _, rfl, rfl, rfl, rfl, rfl, .ow (by simp) rfl rfl rfl⟩ ?_
    rintro m s ⟨F, T, ν, i, x, rfl, hi, rfl, f25, f26, f27, f6, hacc⟩
    rw [has4 f25 f26 f27 f6]
    repeat with_reducible (first | refine aWp_seq ?_ | refine seq_normal ?_ | refine seq_ret ?_ | refine seq_exit ?_ | refine blk_normal ?_ | refine blk_ret ?_ | refine blk_hit ?_ | refine blk_miss rfl ?_ | refine aWp_ret ?_ | refine aWp_skip ?_ | refine aWp_block ?_ | refine aWp_exit ?_ | refine end_ret ?_ | refine end_normal ?_)
    by_cases hlt : i < ps.length
    · obtain ⟨p, hp⟩ : ∃ p, ps[i]? = some p := ⟨ps[i], by simp [hlt]⟩
      have hld : ldAgg (.sl 5) 1 (List.drop i (pCells ps)) = some p.av := by
        have : (pCells ps)[i]? = some p.av := by simp [pCells, hp]
        have hl : i < (pCells ps).length := by omega
        rw [List.drop_eq_getElem_cons hl]
        rw [List.getElem?_eq_getElem hl] at this
        injection this with this
        rw [this]; rfl
      have hpt := pAll_take hp
      have hle := pAll_le ps (i + 1)
      rw [hpt, List.length_append] at hle
      obtain ⟨d, g, hd, rfl, hT⟩ := hacc
      simp only [List.mem_cons, List.not_mem_nil, or_false] at hd
      rw [upd_self hT]
      rcases hd with rfl | rfl
      iterate 2
        · repeat (first | with_reducible (first | refine aWp_seq ?_ | refine seq_normal ?_ | refine seq_ret ?_ | refine seq_exit ?_ | refine blk_normal ?_ | refine blk_ret ?_ | refine blk_hit ?_ | refine blk_miss rfl ?_ | refine aWp_ret ?_ | refine aWp_skip ?_ | refine aWp_block ?_ | refine aWp_exit ?_ | refine end_ret ?_ | refine end_normal ?_) | ((refine rgA ?_); intro ν) | ((with_reducible apply cndT); exact rfl; (first | rfl | assumption)) | ((with_reducible apply cndF); exact rfl; (first | rfl | assumption)))
          refine ⟨ps.length - (i + 1), by omega, _, _, _, i + 1, _, rfl, by omega, rfl, rfl, rfl, rfl, rfl, .ow (by simp) rfl ?_ ?_⟩
          · rw [hpt, List.length_append]
          · rw [hpt]
    · have hie : i = ps.length := by omega
      subst hie
      rw [List.take_length] at hacc
      obtain ⟨d, g, hd, rfl, hT⟩ := hacc
      simp only [List.mem_cons, List.not_mem_nil, or_false] at hd
      rw [upd_self hT]
      rcases hd with rfl | rfl
      iterate 2
        · repeat (first | with_reducible (first | refine aWp_seq ?_ | refine seq_normal ?_ | refine seq_ret ?_ | refine seq_exit ?_ | refine blk_normal ?_ | refine blk_ret ?_ | refine blk_hit ?_ | refine blk_miss rfl ?_ | refine aWp_ret ?_ | refine aWp_skip ?_ | refine aWp_block ?_ | refine aWp_exit ?_ | refine end_ret ?_ | refine end_normal ?_) | ((refine rgA ?_); intro ν) | ((with_reducible apply cndT); exact rfl; (first | rfl | assumption)) | ((with_reducible apply cndF); exact rfl; (first | rfl | assumption)))
          (first | with_reducible refine end_r ?_ | with_reducible refine end_n ?_); refine en1 ?_
          rfl
end Go.Proofs.Ytikganlbnhapcaa
