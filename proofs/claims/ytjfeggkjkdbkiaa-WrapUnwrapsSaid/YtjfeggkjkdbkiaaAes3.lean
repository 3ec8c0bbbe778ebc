import Derived.Test.YtjfeggkjkdbkiaaAes2
namespace Go.Proofs.Ytjfeggkjkdbkiaa
open Go.RowKit
set_option linter.unusedVariables false
set_option linter.unusedSimpArgs false
set_option maxRecDepth 20000
/-! each byte stood for, and moved -/
def shIdx (way : Int) (i : Nat) : Nat := (((i : Int) / 4 + way * ((i : Int) % 4) + 16) % 4 * 4 + (i : Int) % 4).toNat
def shiftF (T b : List UInt8) (way : Int) (i : Nat) : UInt8 := T.getD (b.getD (shIdx way i) 0).toNat 0
def shiftB (T b : List UInt8) (way : Int) : List UInt8 := (List.range 16).map (shiftF T b way)
theorem shiftB_len (T b : List UInt8) (way : Int) : (shiftB T b way).length = 16 := by simp [shiftB]
theorem shIdx_lt {way : Int} (hw : way = 1 ∨ way = -1) (i : Nat) : shIdx way i < 16 := by unfold shIdx; rcases hw with rfl | rfl <;> omega
set_option maxHeartbeats 8000000 in
theorem shift_spec (T b : List UInt8) (D : List AV) (way : Int) (hw : way = 1 ∨ way = -1) (hD : 256 ≤ D.length) (hT : ∀ i, i < 256 → ldAgg (.int .u8) 1 (List.drop i D) = some (.int .u8 ((T.getD i 0).toNat : Int))) (hb : b.length = 16) :
    Spec Try.prog 76 [.agg (aOfBytes b), .cp D, .int .i64 way] (.k (.agg (aOfBytes (shiftB T b way)))) := by
  refine spec_of (fun _ => false) (by kernel_rfl) Try.func76 rfl rfl (by simp [Try.ntmps76]) (by decide) ?_
  intro δ
  rw [init3]
  have hba := aOfBytes_len b
  repeat (first | with_reducible (first | refine aWp_seq ?_ | refine seq_normal ?_ | refine seq_ret ?_ | refine seq_exit ?_ | refine blk_normal ?_ | refine blk_ret ?_ | refine blk_hit ?_ | refine blk_miss rfl ?_ | refine aWp_ret ?_ | refine aWp_skip ?_ | refine aWp_block ?_ | refine aWp_exit ?_ | refine end_ret ?_ | refine end_normal ?_) | ((refine rgA ?_); intro ν) | ((with_reducible apply cndT); exact rfl; (first | rfl | assumption)) | ((with_reducible apply cndF); exact rfl; (first | rfl | assumption)))
  refine aWp_loop (fun m s => ∃ F Tb ν i g3 g6 g7, m = 16 - i ∧ i ≤ 16 ∧ s = ⟨F, Tb, ν, ⟨fun _ => false, δ, false⟩⟩ ∧
    F 1 = .k (.cp D) ∧ F 2 = .k (.int .i64 way) ∧ F 3 = .ob 3 g3 0 ∧ F 6 = .ob 6 g6 0 ∧ F 7 = .ob 7 g7 0 ∧ F 11 = .k (.int .i64 (i : Nat)) ∧ Tb 3 = some (g3, .obj (aOfBytes b)) ∧ Tb 6 = some (g6, .obj (List.replicate 16 (.int .u8 0))) ∧ Tb 7 = some (g7, .obj (aOfBytes ((List.range i).map (shiftF T b way)) ++ List.replicate (16 - i) (.int .u8 0)))) 16 ⟨_, _, _, 0, _, _, _, rfl, Nat.zero_le _, rfl, rfl, rfl, rfl, rfl, rfl, rfl, rfl, rfl, rfl⟩ ?_
  rintro m s ⟨F, Tb, ν, i, g3, g6, g7, rfl, hi, rfl, f1, f2, f3, f6, f7, f11, t3, t6, t7⟩
  rw [has6 f1 f2 f3 f6 f7 f11, has3 t3 t6 t7]
  have hsl := rng_len (shiftF T b way) i
  have hsa := aOfBytes_len ((List.range i).map (shiftF T b way))
  have hlen : (aOfBytes ((List.range i).map (shiftF T b way)) ++ List.replicate (16 - i) (AV.int .u8 0)).length = 16 := by rw [List.length_append, hsa, hsl, List.length_replicate]; omega
  by_cases hlt : i < 16
  · have hst := fill_next (xs := aOfBytes ((List.range i).map (shiftF T b way))) (z := AV.int .u8 0) (v := .int .u8 ((shiftF T b way i).toNat : Int)) (t := i) (n := 16) (by omega) hlt
    have l1 := ld_b b (shIdx way i) (by have := shIdx_lt hw i; omega)
    have l2 := hT (b.getD (shIdx way i) 0).toNat (by have := (b.getD (shIdx way i) 0).toNat_lt; omega)
    have e1 : T.getD (b.getD (shIdx way i) 0).toNat 0 = shiftF T b way i := rfl
    rw [e1] at l2
    have hx := (b.getD (shIdx way i) 0).toNat_lt
    unfold shIdx at l1 l2 hx
    rcases hw with rfl | rfl
    iterate 2
      · repeat (first | with_reducible (first | refine aWp_seq ?_ | refine seq_normal ?_ | refine seq_ret ?_ | refine seq_exit ?_ | refine blk_normal ?_ | refine blk_ret ?_ | refine blk_hit ?_ | refine blk_miss rfl ?_ | refine aWp_ret ?_ | refine aWp_skip ?_ | refine aWp_block ?_ | refine aWp_exit ?_ | refine end_ret ?_ | refine end_normal ?_) | ((refine rgA ?_); intro ν) | ((with_reducible apply cndT); exact rfl; (first | rfl | assumption)) | ((with_reducible apply cndF); exact rfl; (first | rfl | assumption)))
        refine rgxA [(13,[3],[]),(18,[7],[7])] ?_
        intro ν
        repeat (first | with_reducible (first | refine aWp_seq ?_ | refine seq_normal ?_ | refine seq_ret ?_ | refine seq_exit ?_ | refine blk_normal ?_ | refine blk_ret ?_ | refine blk_hit ?_ | refine blk_miss rfl ?_ | refine aWp_ret ?_ | refine aWp_skip ?_ | refine aWp_block ?_ | refine aWp_exit ?_ | refine end_ret ?_ | refine end_normal ?_) | ((refine rgA ?_); intro ν) | ((with_reducible apply cndT); exact rfl; (first | rfl | assumption)) | ((with_reducible apply cndF); exact rfl; (first | rfl | assumption)))
        refine ⟨16 - (i + 1), by omega, _, _, _, i + 1, g3, g6, g7, rfl, by omega, rfl, rfl, rfl, rfl, rfl, rfl, ?_, rfl, rfl, ?_⟩
        · show (SV.k (.int .i64 ((i : Int) + 1)) : SV) = _
          rw [Int.natCast_succ]
        · rw [upd_same]
          exact congrArg (fun q => some (g7, Ent.obj q)) (hst.trans (by rw [rng_next, aOfBytes_append]; rfl))
  · have hie : i = 16 := by omega
    subst hie
    rw [Nat.sub_self, List.replicate_zero, List.append_nil] at hlen ⊢
    clear t7
    rw [shiftB]
    generalize (List.range 16).map (shiftF T b way) = out at *
    have e2 := ld_arr (n := 16) (e := 5) (aOfBytes out) (sz := 16) (by omega)
    repeat (first | with_reducible (first | refine aWp_seq ?_ | refine seq_normal ?_ | refine seq_ret ?_ | refine seq_exit ?_ | refine blk_normal ?_ | refine blk_ret ?_ | refine blk_hit ?_ | refine blk_miss rfl ?_ | refine aWp_ret ?_ | refine aWp_skip ?_ | refine aWp_block ?_ | refine aWp_exit ?_ | refine end_ret ?_ | refine end_normal ?_) | ((refine rgA ?_); intro ν) | ((with_reducible apply cndT); exact rfl; (first | rfl | assumption)) | ((with_reducible apply cndF); exact rfl; (first | rfl | assumption)))
    rw [drop_rep, List.append_nil]
    (first | with_reducible refine end_r ?_ | with_reducible refine end_n ?_); refine en1c ?_
    rfl
/-! each column, by four numbers -/
def mixAcc (b c : List UInt8) (i : Nat) : Nat → UInt8
  | 0 => 0
  | k + 1 => mixAcc b c i k ^^^ mulB (b.getD (i / 4 * 4 + (i + k) % 4) 0) (c.getD k 0)
def mixF (b c : List UInt8) (i : Nat) : UInt8 := mixAcc b c i 4
def mixB (b c : List UInt8) : List UInt8 := (List.range 16).map (mixF b c)
theorem mixB_len (b c : List UInt8) : (mixB b c).length = 16 := by simp [mixB]
def mixO (b c : List UInt8) (i k : Nat) : List UInt8 := (List.range i).map (mixF b c) ++ mixAcc b c i k :: List.replicate (15 - i) 0
theorem mixO_len (b c : List UInt8) (i k : Nat) (h : i < 16) : (mixO b c i k).length = 16 := by simp [mixO]; omega
theorem mixO_get (b c : List UInt8) (i k : Nat) : (mixO b c i k).getD i 0 = mixAcc b c i k := by
  unfold mixO
  rw [List.getD_eq_getElem?_getD, List.getElem?_append_right (by simp)]
  simp
theorem mixO_next (b c : List UInt8) (i k : Nat) : (mixO b c i k).set i (mixAcc b c i (k + 1)) = mixO b c i (k + 1) := by
  unfold mixO
  rw [List.set_append_right _ _ (by simp)]
  simp
theorem mixO_0 (b c : List UInt8) (i : Nat) (h : i < 16) : aOfBytes ((List.range i).map (mixF b c)) ++ List.replicate (16 - i) (AV.int .u8 0) = aOfBytes (mixO b c i 0) := by
  unfold mixO
  rw [aOfBytes_append]
  congr 1
  rw [show 16 - i = (15 - i) + 1 by omega, List.replicate_succ]
  simp [aOfBytes, mixAcc]
theorem mixO_4 (b c : List UInt8) (i : Nat) (h : i < 16) : aOfBytes (mixO b c i 4) = aOfBytes ((List.range (i + 1)).map (mixF b c)) ++ List.replicate (16 - (i + 1)) (AV.int .u8 0) := by
  unfold mixO
  rw [rng_next, aOfBytes_append, aOfBytes_append, List.append_assoc]
  congr 1
  rw [show 16 - (i + 1) = 15 - i by omega]
  simp [aOfBytes, mixF]
set_option maxHeartbeats 8000000 in
theorem mix_spec (b c : List UInt8) (hb : b.length = 16) (hc : c.length = 4) : Spec Try.prog 77 [.agg (aOfBytes b), .agg (aOfBytes c)] (.k (.agg (aOfBytes (mixB b c)))) := by
  refine spec_of (fun _ => false) (by kernel_rfl) Try.func77 rfl rfl (by simp [Try.ntmps77]) (by decide) ?_
  intro δ
  rw [init2]
  have hba := aOfBytes_len b
  have hca := aOfBytes_len c
  have lc := ld_arr (n := 4) (e := 5) (aOfBytes c) (sz := 4) (by omega)
  repeat (first | with_reducible (first | refine aWp_seq ?_ | refine seq_normal ?_ | refine seq_ret ?_ | refine seq_exit ?_ | refine blk_normal ?_ | refine blk_ret ?_ | refine blk_hit ?_ | refine blk_miss rfl ?_ | refine aWp_ret ?_ | refine aWp_skip ?_ | refine aWp_block ?_ | refine aWp_exit ?_ | refine end_ret ?_ | refine end_normal ?_) | ((refine rgA ?_); intro ν) | ((with_reducible apply cndT); exact rfl; (first | rfl | assumption)) | ((with_reducible apply cndF); exact rfl; (first | rfl | assumption)))
  refine aWp_loop (fun m s => ∃ F Tb ν i g2 g3 g4 g5, m = 16 - i ∧ i ≤ 16 ∧ s = ⟨F, Tb, ν, ⟨fun _ => false, δ, false⟩⟩ ∧
    F 2 = .ob 2 g2 0 ∧ F 3 = .ob 3 g3 0 ∧ F 4 = .ob 4 g4 0 ∧ F 5 = .ob 5 g5 0 ∧ F 9 = .k (.int .i64 (i : Nat)) ∧ Tb 2 = some (g2, .obj (aOfBytes b)) ∧ Tb 3 = some (g3, .obj (aOfBytes c)) ∧ Tb 4 = some (g4, .obj (List.replicate 16 (.int .u8 0))) ∧ Tb 5 = some (g5, .obj (aOfBytes ((List.range i).map (mixF b c)) ++ List.replicate (16 - i) (.int .u8 0)))) 16 ⟨_, _, _, 0, _, _, _, _, rfl, Nat.zero_le _, rfl, rfl, rfl, rfl, rfl, rfl, rfl, rfl, rfl, rfl⟩ ?_
  rintro m s ⟨F, Tb, ν, i, g2, g3, g4, g5, rfl, hi, rfl, f2, f3, f4, f5, f9, t2, t3, t4, t5⟩
  rw [has5 f2 f3 f4 f5 f9, has4 t2 t3 t4 t5]
  have hsl := rng_len (mixF b c) i
  have hsa := aOfBytes_len ((List.range i).map (mixF b c))
  by_cases hlt : i < 16
  · rw [mixO_0 b c i hlt]
    repeat (first | with_reducible (first | refine aWp_seq ?_ | refine seq_normal ?_ | refine seq_ret ?_ | refine seq_exit ?_ | refine blk_normal ?_ | refine blk_ret ?_ | refine blk_hit ?_ | refine blk_miss rfl ?_ | refine aWp_ret ?_ | refine aWp_skip ?_ | refine aWp_block ?_ | refine aWp_exit ?_ | refine end_ret ?_ | refine end_normal ?_) | ((refine rgA ?_); intro ν) | ((with_reducible apply cndT); exact rfl; (first | rfl | assumption)) | ((with_reducible apply cndF); exact rfl; (first | rfl | assumption)))
    refine aWp_loop (fun m s => ∃ F Tb ν k g2 g3 g4 g5, m = 4 - k ∧ k ≤ 4 ∧ s = ⟨F, Tb, ν, ⟨fun _ => false, δ, false⟩⟩ ∧
      F 2 = .ob 2 g2 0 ∧ F 3 = .ob 3 g3 0 ∧ F 4 = .ob 4 g4 0 ∧ F 5 = .ob 5 g5 0 ∧ F 6 = .k (.int .i64 (i : Nat)) ∧ F 9 = .k (.int .i64 (i : Nat)) ∧ F 12 = .k (.agg (aOfBytes c)) ∧ F 13 = .k (.int .i64 (k : Nat)) ∧ Tb 2 = some (g2, .obj (aOfBytes b)) ∧ Tb 3 = some (g3, .obj (aOfBytes c)) ∧ Tb 4 = some (g4, .obj (List.replicate 16 (.int .u8 0))) ∧ Tb 5 = some (g5, .obj (aOfBytes (mixO b c i k)))) 4 ⟨_, _, _, 0, _, _, _, _, rfl, Nat.zero_le _, rfl, rfl, rfl, rfl, rfl, rfl, rfl, rfl, rfl, rfl, rfl, rfl, rfl⟩ ?_
    rintro m s ⟨F, Tb, ν, k, g2, g3, g4, g5, rfl, hk, rfl, f2, f3, f4, f5, f6, f9, f12, f13, t2, t3, t4, t5⟩
    rw [has8 f2 f3 f4 f5 f6 f9 f12 f13, has4 t2 t3 t4 t5]
    have hol := mixO_len b c i k hlt
    have hoa := aOfBytes_len (mixO b c i k)
    by_cases hlk : k < 4
    · have l0 := ld_b (mixO b c i k) i (by omega)
      rw [mixO_get] at l0
      have l1 := ld_b b (((i : Int) / 4 * 4 + ((i : Int) + (k : Int)) % 4).toNat) (by omega)
      have lw : ldAgg (.int .u8) 1 (List.drop ((k : Int).toNat * 1) (aOfBytes c)) = some (.int .u8 ((c.getD k 0).toNat : Int)) := by
        rw [Int.toNat_natCast, Nat.mul_one]; exact ld_b c k (by omega)
      have s1 := mulB_spec (b.getD (((i : Int) / 4 * 4 + ((i : Int) + (k : Int)) % 4).toNat) 0) (c.getD k 0)
      have e1 : mixAcc b c i k ^^^ mulB (b.getD (((i : Int) / 4 * 4 + ((i : Int) + (k : Int)) % 4).toNat) 0) (c.getD k 0) = mixAcc b c i (k + 1) := by
        rw [show ((i : Int) / 4 * 4 + ((i : Int) + (k : Int)) % 4).toNat = i / 4 * 4 + (i + k) % 4 by omega]; rfl
      have hst := set_b (mixO b c i k) (mixAcc b c i (k + 1)) i (by omega)
      rw [mixO_next, ← e1] at hst
      repeat (first | with_reducible (first | refine aWp_seq ?_ | refine seq_normal ?_ | refine seq_ret ?_ | refine seq_exit ?_ | refine blk_normal ?_ | refine blk_ret ?_ | refine blk_hit ?_ | refine blk_miss rfl ?_ | refine aWp_ret ?_ | refine aWp_skip ?_ | refine aWp_block ?_ | refine aWp_exit ?_ | refine end_ret ?_ | refine end_normal ?_) | ((refine rgA ?_); intro ν) | ((with_reducible apply cndT); exact rfl; (first | rfl | assumption)) | ((with_reducible apply cndF); exact rfl; (first | rfl | assumption)))
      refine rgx [(2,[5],[]),(12,[2],[]),(17,[5],[5])] (by kernel_rfl) fun K hK => ?_
      refine stxA ?_
      ((first | ((with_reducible refine x0 ?_ ?_); exact rfl) | ((with_reducible refine x1 ?_ ?_ ?_); exact rfl; (with_reducible apply gt_); exact rfl; exact rfl; (first | rfl | assumption | (simp [*] <;> done)))); refine xcA (h2 := (s1)) (hk := ?_))
      refine stxA ?_
      with_reducible refine xz ?_
      refine hK _ _ _ ?_
      clear hK K; intro ν
      repeat (first | with_reducible (first | refine aWp_seq ?_ | refine seq_normal ?_ | refine seq_ret ?_ | refine seq_exit ?_ | refine blk_normal ?_ | refine blk_ret ?_ | refine blk_hit ?_ | refine blk_miss rfl ?_ | refine aWp_ret ?_ | refine aWp_skip ?_ | refine aWp_block ?_ | refine aWp_exit ?_ | refine end_ret ?_ | refine end_normal ?_) | ((refine rgA ?_); intro ν) | ((with_reducible apply cndT); exact rfl; (first | rfl | assumption)) | ((with_reducible apply cndF); exact rfl; (first | rfl | assumption)))
      refine ⟨4 - (k + 1), by omega, _, _, _, k + 1, g2, g3, g4, g5, rfl, by omega, rfl, rfl, rfl, rfl, rfl, rfl, rfl, rfl, ?_, rfl, rfl, rfl, ?_⟩
      · show (SV.k (.int .i64 ((k : Int) + 1)) : SV) = _
        rw [Int.natCast_succ]
      · rw [upd_same]
        exact congrArg (fun q => some (g5, Ent.obj q)) hst
    · have hke : k = 4 := by omega
      subst hke
      rw [mixO_4 b c i hlt]
      repeat (first | with_reducible (first | refine aWp_seq ?_ | refine seq_normal ?_ | refine seq_ret ?_ | refine seq_exit ?_ | refine blk_normal ?_ | refine blk_ret ?_ | refine blk_hit ?_ | refine blk_miss rfl ?_ | refine aWp_ret ?_ | refine aWp_skip ?_ | refine aWp_block ?_ | refine aWp_exit ?_ | refine end_ret ?_ | refine end_normal ?_) | ((refine rgA ?_); intro ν) | ((with_reducible apply cndT); exact rfl; (first | rfl | assumption)) | ((with_reducible apply cndF); exact rfl; (first | rfl | assumption)))
      refine ⟨16 - (i + 1), by omega, _, _, _, i + 1, g2, g3, g4, g5, rfl, by omega, rfl, rfl, rfl, rfl, rfl, ?_, rfl, rfl, rfl, rfl⟩
      show (SV.k (.int .i64 ((i : Int) + 1)) : SV) = _
      rw [Int.natCast_succ]
  · have hie : i = 16 := by omega
    subst hie
    rw [Nat.sub_self, List.replicate_zero, List.append_nil]
    clear t5
    rw [mixB]
    generalize (List.range 16).map (mixF b c) = out at *
    have e2 := ld_arr (n := 16) (e := 5) (aOfBytes out) (sz := 16) (by omega)
    repeat (first | with_reducible (first | refine aWp_seq ?_ | refine seq_normal ?_ | refine seq_ret ?_ | refine seq_exit ?_ | refine blk_normal ?_ | refine blk_ret ?_ | refine blk_hit ?_ | refine blk_miss rfl ?_ | refine aWp_ret ?_ | refine aWp_skip ?_ | refine aWp_block ?_ | refine aWp_exit ?_ | refine end_ret ?_ | refine end_normal ?_) | ((refine rgA ?_); intro ν) | ((with_reducible apply cndT); exact rfl; (first | rfl | assumption)) | ((with_reducible apply cndF); exact rfl; (first | rfl | assumption)))
    rw [drop_rep, List.append_nil]
    (first | with_reducible refine end_r ?_ | with_reducible refine end_n ?_); refine en1c ?_
    rfl
end Go.Proofs.Ytjfeggkjkdbkiaa
