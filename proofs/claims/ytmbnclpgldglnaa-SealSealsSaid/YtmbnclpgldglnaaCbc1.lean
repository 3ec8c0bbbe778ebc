import Derived.Test.YtmbnclpgldglnaaMg1
namespace Go.Proofs.Ytmbnclpgldglnaa
open Go.RowKit
set_option linter.unusedVariables false
set_option linter.unusedSimpArgs false
set_option maxRecDepth 20000
/-! one byte so many times; a slice without room; equal bytes; two blocks -/
theorem repeat_spec (full : Bool) (x : UInt8) (n : Nat) (h1 : 1 ≤ n) (h2 : n ≤ 16) : Spec Try.prog 43 [.sl full 1 [.int .u8 (x.toNat : Int)], .int .i64 n] (.k (.sl false n (aOfBytes (List.replicate n x)))) := by
  refine spec_calls ⟨_, Try.func43, rfl, rfl⟩ fun K w vs hk ha => ?_
  obtain ⟨u, v, rfl, g0, g1⟩ := args2 ha
  rw [kint_inv g1]
  obtain ⟨a, c, rfl, _, _, _, hm⟩ := ksl_inv g0
  rcases hm with ⟨h, _⟩ | ⟨b, o, rfl, hin, hx⟩
  · omega
  have hc := (hk.at_ hin (i := 0) (by simp)).1
  rw [kint_inv (hx 0 _ rfl)] at hc
  refine (repeat_run b o c x.toNat n w hc (cell_lt hc) h1 h2).mono ?_
  rintro e w' ⟨rfl, arr, hg, hs, ht, hb⟩
  refine ⟨_, rfl, hb, ?_⟩
  have hr : Rd w' (.slice (some ⟨w.heap.size, 0, none⟩) n n) (B8 (List.replicate n x.toBitVec)) := by
    refine ⟨some ⟨w.heap.size, 0, none⟩, n, by rw [B8_len, List.length_replicate], by rw [B8_len, List.length_replicate]; exact Nat.le_refl _, by omega, .inr ⟨w.heap.size, 0, rfl, fun i hi => ?_⟩⟩
    rw [B8_len, List.length_replicate] at hi
    rw [cell_of_row w' _ (0 + i) arr _ _ hg, Nat.zero_add, B8_getD _ _ (by rw [List.length_replicate]; exact hi)]
    have := congrArg (fun l => l[i]?) ht
    simp only [List.getElem?_take, hi, if_true, List.getElem?_replicate, Array.getElem?_toList] at this
    rw [this]
    simp [List.getD_eq_getElem?_getD, List.getElem?_replicate, hi, n8]
  have hk2 := k_of_rd (K := K) (N := w.heap.size) hr (fun _ _ _ e => by injection e with e _ _; injection e with e; rw [← e]; exact Nat.le_refl _)
  have e : fb (List.replicate n x.toBitVec) = List.replicate n x := by simp [fb]
  rw [e, List.length_replicate] at hk2
  exact hk2
theorem clip_spec (full : Bool) (n : Nat) (cs : List AV) (hl : cs.length = n) : Spec Try.prog 46 [.sl full n cs] (.k (.sl true n cs)) := by
  refine spec_of (fun _ => false) (by kernel_rfl) Try.func46 rfl rfl (by simp [Try.ntmps46]) (by decide) ?_
  intro δ
  rw [init1]
  repeat (first | with_reducible (first | refine aWp_seq ?_ | refine seq_normal ?_ | refine seq_ret ?_ | refine seq_exit ?_ | refine blk_normal ?_ | refine blk_ret ?_ | refine blk_hit ?_ | refine blk_miss rfl ?_ | refine aWp_ret ?_ | refine aWp_skip ?_ | refine aWp_block ?_ | refine aWp_exit ?_ | refine end_ret ?_ | refine end_normal ?_) | ((refine rgA ?_); intro ν) | ((with_reducible apply cndT); exact rfl; (first | rfl | assumption)) | ((with_reducible apply cndF); exact rfl; (first | rfl | assumption)))
  (first | with_reducible refine end_r ?_ | with_reducible refine end_n ?_); refine en1 ?_
  simp [List.take_of_length_le (Nat.le_of_eq hl)]
theorem bequal_spec (fa fb : Bool) (a b : List UInt8) : Spec Try.prog 48 [.sl fa a.length (aOfBytes a), .sl fb b.length (aOfBytes b)] (.k (.bool (decide (a = b)))) := by
  have haa := aOfBytes_len a
  have hba := aOfBytes_len b
  refine spec_of (fun _ => false) (by kernel_rfl) Try.func48 rfl rfl (by simp [Try.ntmps48]) (by decide) ?_
  intro δ
  rw [init2]
  by_cases h : a = b
  · rw [decide_eq_true h]
    repeat (first | with_reducible (first | refine aWp_seq ?_ | refine seq_normal ?_ | refine seq_ret ?_ | refine seq_exit ?_ | refine blk_normal ?_ | refine blk_ret ?_ | refine blk_hit ?_ | refine blk_miss rfl ?_ | refine aWp_ret ?_ | refine aWp_skip ?_ | refine aWp_block ?_ | refine aWp_exit ?_ | refine end_ret ?_ | refine end_normal ?_) | ((refine rgA ?_); intro ν) | ((with_reducible apply cndT); exact rfl; (first | rfl | assumption)) | ((with_reducible apply cndF); exact rfl; (first | rfl | assumption)))
    (first | with_reducible refine end_r ?_ | with_reducible refine end_n ?_); refine en1 ?_
    rfl
  · rw [decide_eq_false h]
    repeat (first | with_reducible (first | refine aWp_seq ?_ | refine seq_normal ?_ | refine seq_ret ?_ | refine seq_exit ?_ | refine blk_normal ?_ | refine blk_ret ?_ | refine blk_hit ?_ | refine blk_miss rfl ?_ | refine aWp_ret ?_ | refine aWp_skip ?_ | refine aWp_block ?_ | refine aWp_exit ?_ | refine end_ret ?_ | refine end_normal ?_) | ((refine rgA ?_); intro ν) | ((with_reducible apply cndT); exact rfl; (first | rfl | assumption)) | ((with_reducible apply cndF); exact rfl; (first | rfl | assumption)))
    (first | with_reducible refine end_r ?_ | with_reducible refine end_n ?_); refine en1 ?_
    rfl
def xorB (a b : List UInt8) : List UInt8 := (List.range 16).map fun i => a.getD i 0 ^^^ b.getD i 0
theorem xorB_len (a b : List UInt8) : (xorB a b).length = 16 := by simp [xorB]
set_option maxHeartbeats 8000000 in
theorem xor_spec (a b : List UInt8) (ha : a.length = 16) (hb : b.length = 16) : Spec Try.prog 45 [.agg (aOfBytes a), .agg (aOfBytes b)] (.k (.agg (aOfBytes (xorB a b)))) := by
  have haa := aOfBytes_len a
  have hba := aOfBytes_len b
  obtain ⟨f, hf⟩ : ∃ f : Nat → UInt8, f = fun i => a.getD i 0 ^^^ b.getD i 0 := ⟨_, rfl⟩
  have hX : xorB a b = (List.range 16).map f := by rw [hf]; rfl
  have hXl := xorB_len a b
  have hXa := aOfBytes_len (xorB a b)
  have he := setN_all f a 16 ha
  rw [← hX] at he
  generalize xorB a b = X at *
  have lX := ld_arr (n := 16) (e := 5) (aOfBytes X) (sz := 16) (by omega)
  refine spec_of (fun _ => false) (by kernel_rfl) Try.func45 rfl rfl (by simp [Try.ntmps45]) (by decide) ?_
  intro δ
  rw [init2]
  repeat (first | with_reducible (first | refine aWp_seq ?_ | refine seq_normal ?_ | refine seq_ret ?_ | refine seq_exit ?_ | refine blk_normal ?_ | refine blk_ret ?_ | refine blk_hit ?_ | refine blk_miss rfl ?_ | refine aWp_ret ?_ | refine aWp_skip ?_ | refine aWp_block ?_ | refine aWp_exit ?_ | refine end_ret ?_ | refine end_normal ?_) | ((refine rgA ?_); intro ν) | ((with_reducible apply cndT); exact rfl; (first | rfl | assumption)) | ((with_reducible apply cndF); exact rfl; (first | rfl | assumption)))
  refine aWp_loop (fun m s => ∃ F T ν i g2 g3 g4, m = 16 - i ∧ i ≤ 16 ∧ s = ⟨F, T, ν, ⟨fun _ => false, δ, false⟩⟩ ∧
    F 2 = .ob 2 g2 0 ∧ F 3 = .ob 3 g3 0 ∧ F 4 = .ob 4 g4 0 ∧ F 6 = .k (.int .i64 (i : Nat)) ∧ T 2 = some (g2, .obj (aOfBytes (setN f a i))) ∧ T 3 = some (g3, .obj (aOfBytes b)) ∧ T 4 = some (g4, .obj (List.replicate 16 (.int .u8 0)))) 16 ⟨_, _, _, 0, _, _, _, rfl, Nat.zero_le _, rfl, rfl, rfl, rfl, rfl, rfl, rfl, rfl⟩ ?_
  rintro m s ⟨F, T, ν, i, g2, g3, g4, rfl, hi, rfl, f2, f3, f4, f6, t2, t3, t4⟩
  rw [has4 f2 f3 f4 f6, has3 t2 t3 t4]
  have hsl := setN_len f a i
  have hsa := aOfBytes_len (setN f a i)
  by_cases hlt : i < 16
  · have l1 := ld_b (setN f a i) i (by omega)
    rw [setN_get f a i i (Nat.le_refl _)] at l1
    have l2 := ld_b b i (by omega)
    have hst := set_b (setN f a i) (f i) i (by omega)
    have hfi : f i = a.getD i 0 ^^^ b.getD i 0 := by rw [hf]
    rw [hfi] at hst
    have hnx : setN f a (i + 1) = (setN f a i).set i (a.getD i 0 ^^^ b.getD i 0) := by rw [setN, hfi]
    rw [← hnx] at hst
    clear hf hX he
    repeat (first | with_reducible (first | refine aWp_seq ?_ | refine seq_normal ?_ | refine seq_ret ?_ | refine seq_exit ?_ | refine blk_normal ?_ | refine blk_ret ?_ | refine blk_hit ?_ | refine blk_miss rfl ?_ | refine aWp_ret ?_ | refine aWp_skip ?_ | refine aWp_block ?_ | refine aWp_exit ?_ | refine end_ret ?_ | refine end_normal ?_) | ((refine rgA ?_); intro ν) | ((with_reducible apply cndT); exact rfl; (first | rfl | assumption)) | ((with_reducible apply cndF); exact rfl; (first | rfl | assumption)))
    refine rgxA [(2,[2],[]),(5,[3],[]),(8,[2],[2])] ?_
    intro ν
    repeat (first | with_reducible (first | refine aWp_seq ?_ | refine seq_normal ?_ | refine seq_ret ?_ | refine seq_exit ?_ | refine blk_normal ?_ | refine blk_ret ?_ | refine blk_hit ?_ | refine blk_miss rfl ?_ | refine aWp_ret ?_ | refine aWp_skip ?_ | refine aWp_block ?_ | refine aWp_exit ?_ | refine end_ret ?_ | refine end_normal ?_) | ((refine rgA ?_); intro ν) | ((with_reducible apply cndT); exact rfl; (first | rfl | assumption)) | ((with_reducible apply cndF); exact rfl; (first | rfl | assumption)))
    refine ⟨16 - (i + 1), by omega, _, _, _, i + 1, g2, g3, g4, rfl, by omega, rfl, rfl, rfl, rfl, ?_, ?_, rfl, rfl⟩
    · show (SV.k (.int .i64 ((i : Int) + 1)) : SV) = _
      rw [Int.natCast_succ]
    · rw [upd_same]
      exact congrArg (fun q => some (g2, Ent.obj q)) hst
  · have hie : i = 16 := by omega
    subst hie
    rw [he]
    clear t2 hsl hsa he hX hf
    repeat (first | with_reducible (first | refine aWp_seq ?_ | refine seq_normal ?_ | refine seq_ret ?_ | refine seq_exit ?_ | refine blk_normal ?_ | refine blk_ret ?_ | refine blk_hit ?_ | refine blk_miss rfl ?_ | refine aWp_ret ?_ | refine aWp_skip ?_ | refine aWp_block ?_ | refine aWp_exit ?_ | refine end_ret ?_ | refine end_normal ?_) | ((refine rgA ?_); intro ν) | ((with_reducible apply cndT); exact rfl; (first | rfl | assumption)) | ((with_reducible apply cndF); exact rfl; (first | rfl | assumption)))
    rw [drop_rep, List.append_nil]
    (first | with_reducible refine end_r ?_ | with_reducible refine end_n ?_); refine en1c ?_
    rfl
end Go.Proofs.Ytmbnclpgldglnaa
