import Derived.Test.YtikganlbnhapcaaSha5
import Derived.Test.YtikganlbnhapcaaAvCut
namespace Go.Proofs.Ytikganlbnhapcaa
open Go.RowKit
set_option linter.unusedVariables false
set_option linter.unusedSimpArgs false
set_option maxRecDepth 20000
def eI (n : Int) : List UInt8 := pI [] n
theorem eI_len (n : Int) : (eI n).length = 8 := by rw [eI, pI_len]; rfl
/-! keys out of what chance says -/
def drawB (what : UInt8) (id gen : Int) (d : List UInt8) : List UInt8 := what :: (eI id ++ (eI gen ++ d))
def drawnB (what : UInt8) (id gen : Int) (d : List UInt8) : List UInt8 := shaB (drawB what id gen d)
theorem drawnB_len (what : UInt8) (id gen : Int) (d : List UInt8) : (drawnB what id gen d).length = 32 := shaB_len _
theorem drawn_spec (what : UInt8) (id gen : Int) (full : Bool) (d : List UInt8) (hd : d.length ≤ 800000) : Spec Try.prog 71 [.int .u8 (what.toNat : Int), .int .i64 id, .int .i64 gen, .sl full d.length (aOfBytes d)] (.k (.agg (aOfBytes (drawnB what id gen d)))) := by
  have s1 := aInt_spec true [] id (by simp)
  have s2 := aInt_spec true [] gen (by simp)
  have l1 := eI_len id
  have l2 := eI_len gen
  have s3 := of_spec false [(false, [what]), (false, eI id), (false, eI gen), (full, d)] (by simp [l1, l2]; omega) (by simp)
  have hb := aOfBytes_len (drawnB what id gen d)
  have hl := drawnB_len what id gen d
  have e0 : aOfBytes [what] = [.int .u8 (what.toNat : Int)] := rfl
  have e4 : aOfBytes [] = [] := rfl
  have e5 : shaB (what :: (eI id ++ (eI gen ++ d))) = drawnB what id gen d := rfl
  simp only [List.map_cons, List.map_nil, pCells, pB, Part.av, List.flatMap_cons, List.flatMap_nil, List.append_nil, List.nil_append, List.cons_append, List.length_cons, List.length_nil, Nat.reduceAdd, aOfBytes_len, e0, e5] at s3
  rw [e4] at s1 s2
  change Spec _ _ _ (.k (.sl false (eI id).length (aOfBytes (eI id)))) at s1
  change Spec _ _ _ (.k (.sl false (eI gen).length (aOfBytes (eI gen)))) at s2
  simp only [List.length_nil] at s1 s2
  generalize drawnB what id gen d = D at *
  refine spec_of (fun _ => false) (by kernel_rfl) Try.func71 rfl rfl (by simp [Try.ntmps71]) (by decide) ?_
  intro δ
  rw [init4]
  have la := ld_arr (n := 32) (e := 5) (aOfBytes D) (sz := 32) (by omega)
  repeat (first | with_reducible (first | refine aWp_seq ?_ | refine seq_normal ?_ | refine seq_ret ?_ | refine seq_exit ?_ | refine blk_normal ?_ | refine blk_ret ?_ | refine blk_hit ?_ | refine blk_miss rfl ?_ | refine aWp_ret ?_ | refine aWp_skip ?_ | refine aWp_block ?_ | refine aWp_exit ?_ | refine end_ret ?_ | refine end_normal ?_) | ((refine rgA ?_); intro ν) | ((with_reducible apply cndT); exact rfl; (first | rfl | assumption)) | ((with_reducible apply cndF); exact rfl; (first | rfl | assumption)))
  refine rg fun K hK => ?_
  refine stA ?_
  (first | with_reducible refine g0 ?_ | ((with_reducible refine g1 ?_ ?_); (with_reducible apply gt_); exact rfl; exact rfl; (first | rfl | assumption | (simp [*] <;> done)))); refine scA (h2 := (s1)) (hk := ?_)
  refine stA ?_
  (first | with_reducible refine g0 ?_ | ((with_reducible refine g1 ?_ ?_); (with_reducible apply gt_); exact rfl; exact rfl; (first | rfl | assumption | (simp [*] <;> done)))); refine scA (h2 := (s2)) (hk := ?_)
  refine stA ?_
  (first | with_reducible refine g0 ?_ | ((with_reducible refine g1 ?_ ?_); (with_reducible apply gt_); exact rfl; exact rfl; (first | rfl | assumption | (simp [*] <;> done)))); refine scA (h2 := (s3)) (hk := ?_)
  refine stA ?_
  with_reducible refine rz ?_
  refine hK _ _ _ ?_
  clear hK K; intro ν
  rw [drop_rep, List.append_nil]
  repeat (first | with_reducible (first | refine aWp_seq ?_ | refine seq_normal ?_ | refine seq_ret ?_ | refine seq_exit ?_ | refine blk_normal ?_ | refine blk_ret ?_ | refine blk_hit ?_ | refine blk_miss rfl ?_ | refine aWp_ret ?_ | refine aWp_skip ?_ | refine aWp_block ?_ | refine aWp_exit ?_ | refine end_ret ?_ | refine end_normal ?_) | ((refine rgA ?_); intro ν) | ((with_reducible apply cndT); exact rfl; (first | rfl | assumption)) | ((with_reducible apply cndF); exact rfl; (first | rfl | assumption)))
  (first | with_reducible refine end_r ?_ | with_reducible refine end_n ?_); refine en1c ?_
  rfl
def keysB (id gen : Int) (d : List UInt8) : List UInt8 := drawnB 1 id gen d ++ drawnB 2 id gen d
theorem keysB_len (id gen : Int) (d : List UInt8) : (keysB id gen d).length = 64 := by simp [keysB, drawnB_len]
theorem ld_st {fs : List (Nat × Nat)} {sz : Nat} (cs : List AV) (h : cs.length = sz) : ldAgg (.st fs) sz (List.drop 0 cs) = some (.agg cs) := by
  rw [List.drop_zero]
  simp only [ldAgg]
  rw [if_pos (by omega), List.take_of_length_le (by omega)]
theorem fill2 (A B : List AV) (z : AV) (h1 : A.length = 32) (h2 : B.length = 32) : aFill (fun j => [((0 : Nat), (32 : Nat)), (32, 32)][j]?) (List.replicate 64 z) [(0, .agg A), (1, .agg B)] = some (A ++ B) := by
  simp only [aFill, List.getElem?_cons_zero, List.getElem?_cons_succ, AV.flat, AV.cells, true_and, List.length_replicate]
  rw [if_pos ⟨h1, by omega⟩, if_pos ⟨h2, by simp; omega⟩]
  congr 1
  simp [h1, List.take_append, List.drop_append]
theorem keys_spec (id gen : Int) (full : Bool) (d : List UInt8) (hd : d.length ≤ 800000) : Spec Try.prog 41 [.int .i64 id, .int .i64 gen, .sl full d.length (aOfBytes d)] (.k (.agg (aOfBytes (keysB id gen d)))) := by
  have s1 := drawn_spec 1 id gen full d hd
  have s2 := drawn_spec 2 id gen full d hd
  have h1 := drawnB_len 1 id gen d
  have h2 := drawnB_len 2 id gen d
  unfold keysB
  generalize drawnB 1 id gen d = D1 at *
  generalize drawnB 2 id gen d = D2 at *
  have a1 := aOfBytes_len D1
  have a2 := aOfBytes_len D2
  refine spec_of (fun _ => false) (by kernel_rfl) Try.func41 rfl rfl (by simp [Try.ntmps41]) (by decide) ?_
  intro δ
  rw [init3]
  have hlen : (aOfBytes D1 ++ aOfBytes D2).length = 64 := by rw [List.length_append]; omega
  have hfl := fill2 (aOfBytes D1) (aOfBytes D2) (.int .u8 0) (by omega) (by omega)
  rw [aOfBytes_append]
  have ls := ld_st (fs := [(0, 32), (32, 32)]) (aOfBytes D1 ++ aOfBytes D2) hlen
  generalize aOfBytes D1 ++ aOfBytes D2 = D at *
  repeat (first | with_reducible (first | refine aWp_seq ?_ | refine seq_normal ?_ | refine seq_ret ?_ | refine seq_exit ?_ | refine blk_normal ?_ | refine blk_ret ?_ | refine blk_hit ?_ | refine blk_miss rfl ?_ | refine aWp_ret ?_ | refine aWp_skip ?_ | refine aWp_block ?_ | refine aWp_exit ?_ | refine end_ret ?_ | refine end_normal ?_) | ((refine rgA ?_); intro ν) | ((with_reducible apply cndT); exact rfl; (first | rfl | assumption)) | ((with_reducible apply cndF); exact rfl; (first | rfl | assumption)))
  refine rg fun K hK => ?_
  refine stA ?_
  (first | with_reducible refine g0 ?_ | ((with_reducible refine g1 ?_ ?_); (with_reducible apply gt_); exact rfl; exact rfl; (first | rfl | assumption | (simp [*] <;> done)))); refine scA (h2 := (s1)) (hk := ?_)
  refine stA ?_
  (first | with_reducible refine g0 ?_ | ((with_reducible refine g1 ?_ ?_); (with_reducible apply gt_); exact rfl; exact rfl; (first | rfl | assumption | (simp [*] <;> done)))); refine scA (h2 := (s2)) (hk := ?_)
  refine stA ?_
  with_reducible refine rz ?_
  refine hK _ _ _ ?_
  clear hK K; intro ν
  rw [drop_rep, List.append_nil]
  repeat (first | with_reducible (first | refine aWp_seq ?_ | refine seq_normal ?_ | refine seq_ret ?_ | refine seq_exit ?_ | refine blk_normal ?_ | refine blk_ret ?_ | refine blk_hit ?_ | refine blk_miss rfl ?_ | refine aWp_ret ?_ | refine aWp_skip ?_ | refine aWp_block ?_ | refine aWp_exit ?_ | refine end_ret ?_ | refine end_normal ?_) | ((refine rgA ?_); intro ν) | ((with_reducible apply cndT); exact rfl; (first | rfl | assumption)) | ((with_reducible apply cndF); exact rfl; (first | rfl | assumption)))
  (first | with_reducible refine end_r ?_ | with_reducible refine end_n ?_); refine en1c ?_
  rfl
def ivB (id gen : Int) (d : List UInt8) : List UInt8 := (drawnB 3 id gen d).take 16
theorem ivB_len (id gen : Int) (d : List UInt8) : (ivB id gen d).length = 16 := by simp [ivB, drawnB_len]
theorem ld_arrT {n : Nat} {e : TypeId} {sz : Nat} (cs : List AV) (h : cs.length = sz) : ldAgg (.arr n e) sz cs = some (.agg cs) := by
  have := ld_arr (n := n) (e := e) cs h
  rwa [List.drop_zero] at this
theorem iv_spec (id gen : Int) (full : Bool) (d : List UInt8) (hd : d.length ≤ 800000) : Spec Try.prog 39 [.int .i64 id, .int .i64 gen, .sl full d.length (aOfBytes d)] (.k (.agg (aOfBytes (ivB id gen d)))) := by
  have s1 := drawn_spec 3 id gen full d hd
  have h1 := drawnB_len 3 id gen d
  unfold ivB
  generalize drawnB 3 id gen d = D at *
  have a1 := aOfBytes_len D
  have e1 := bytes_take D 16
  have hl : (D.take 16).length = 16 := by simp; omega
  have hla := aOfBytes_len (D.take 16)
  have ls : ldAgg (.arr 16 5) 16 (List.drop 0 (aOfBytes D)) = some (.agg (aOfBytes (D.take 16))) := by
    rw [List.drop_zero, e1]
    simp only [ldAgg]
    rw [if_pos (by omega)]
  have lt := ld_arr (n := 16) (e := 5) (aOfBytes (D.take 16)) (sz := 16) (by omega)
  generalize D.take 16 = E at *
  refine spec_of (fun _ => false) (by kernel_rfl) Try.func39 rfl rfl (by simp [Try.ntmps39]) (by decide) ?_
  intro δ
  rw [init3]
  repeat (first | with_reducible (first | refine aWp_seq ?_ | refine seq_normal ?_ | refine seq_ret ?_ | refine seq_exit ?_ | refine blk_normal ?_ | refine blk_ret ?_ | refine blk_hit ?_ | refine blk_miss rfl ?_ | refine aWp_ret ?_ | refine aWp_skip ?_ | refine aWp_block ?_ | refine aWp_exit ?_ | refine end_ret ?_ | refine end_normal ?_) | ((refine rgA ?_); intro ν) | ((with_reducible apply cndT); exact rfl; (first | rfl | assumption)) | ((with_reducible apply cndF); exact rfl; (first | rfl | assumption)))
  refine rg fun K hK => ?_
  refine stA ?_
  (first | with_reducible refine g0 ?_ | ((with_reducible refine g1 ?_ ?_); (with_reducible apply gt_); exact rfl; exact rfl; (first | rfl | assumption | (simp [*] <;> done)))); refine scA (h2 := (s1)) (hk := ?_)
  refine stA ?_
  with_reducible refine rz ?_
  refine hK _ _ _ ?_
  clear hK K; intro ν
  rw [drop_rep, List.append_nil]
  repeat (first | with_reducible (first | refine aWp_seq ?_ | refine seq_normal ?_ | refine seq_ret ?_ | refine seq_exit ?_ | refine blk_normal ?_ | refine blk_ret ?_ | refine blk_hit ?_ | refine blk_miss rfl ?_ | refine aWp_ret ?_ | refine aWp_skip ?_ | refine aWp_block ?_ | refine aWp_exit ?_ | refine end_ret ?_ | refine end_normal ?_) | ((refine rgA ?_); intro ν) | ((with_reducible apply cndT); exact rfl; (first | rfl | assumption)) | ((with_reducible apply cndF); exact rfl; (first | rfl | assumption)))
  rw [drop_rep, List.append_nil]
  (first | with_reducible refine end_r ?_ | with_reducible refine end_n ?_); refine en1c ?_
  rfl
end Go.Proofs.Ytikganlbnhapcaa
