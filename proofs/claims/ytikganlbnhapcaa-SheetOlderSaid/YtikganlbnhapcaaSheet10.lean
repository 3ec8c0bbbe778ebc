import Derived.Test.YtikganlbnhapcaaSheet9
namespace Go.Proofs.Ytikganlbnhapcaa
open Go.RowKit
set_option linter.unusedVariables false
set_option linter.unusedSimpArgs false
set_option maxRecDepth 20000
set_option maxHeartbeats 32000000 in
theorem older_c (e q e2 q2 : Nat) (b w : List UInt8) (wh : Nat) (ct : UInt8) (he : e < 2 ^ 32) (hq : q < 2 ^ 32) (he2 : e2 < 2 ^ 32) (hq2 : q2 < 2 ^ 32) (hwh : wh < 2 ^ 64) (c1 : e = e2) (c2 : q = q2) :
    Spec Try.prog 13 [.int .u32 (e : Nat), .int .u32 (q : Nat), .int .u32 (e2 : Nat), .int .u32 (q2 : Nat), .sl false b.length (aOfBytes b), .sl false w.length (aOfBytes w), .int .u64 (wh : Nat), .int .u8 (ct.toNat : Int)] (.k (.bool true)) := by
  have hB : (b.take 300).length ≤ 300 := by simp; omega
  have hW : (w.take 300).length ≤ 300 := by simp; omega
  have s1 := short15_spec b
  have s3 := short15_spec w
  generalize b.take 300 = B at *
  generalize w.take 300 = W at *
  have s2 := lay_spec false (e : Int) (q : Int) B (by omega) (by omega) (by omega)
  have s4 := lay_spec false (e2 : Int) (q2 : Int) W (by omega) (by omega) (by omega)
  have hL := layB_len e q B
  have hO := layB_len e2 q2 W
  have hN : 0 < chN (B.length + 6) 24 := chN_pos _ _ (by omega) (by omega)
  have hN2 : 0 < chN (W.length + 6) 24 := chN_pos _ _ (by omega) (by omega)
  have hNb := chN_bound (B.length + 6)
  have hNb2 := chN_bound (W.length + 6)
  obtain ⟨w1, w2, w3, w4, w5⟩ := lift_of e q B [] he hq (by omega)
  rw [List.append_nil] at w1 w2 w3 w4 w5
  have hct := ct.toNat_lt
  have older' := fun c hc hne hb hz hok => older e q e2 q2 he hq he2 hq2 B W (by omega) (by omega) c hc (bitB wh) hne hb hz hok
  have hLa := aOfBytes_len (layB e q B)
  have hOa := aOfBytes_len (layB e2 q2 W)
  generalize chN (B.length + 6) 24 = N at *
  generalize chN (W.length + 6) 24 = N2 at *
  generalize layB e q B = L at *
  generalize layB e2 q2 W = O at *
  obtain ⟨c, hc⟩ : ∃ c, c = ct.toNat % 25 := ⟨_, rfl⟩
  have hcI : (ct.toNat : Int) % 25 = (c : Int) := by omega
  refine spec_of (fun t => t == 67 || t == 69) (by kernel_rfl) Try.func13 rfl rfl (by simp [Try.ntmps13]) (by decide) ?_
  intro δ
  rw [init8]
  repeat (first | with_reducible (first | refine aWp_seq ?_ | refine seq_normal ?_ | refine seq_ret ?_ | refine seq_exit ?_ | refine blk_normal ?_ | refine blk_ret ?_ | refine blk_hit ?_ | refine blk_miss rfl ?_ | refine aWp_ret ?_ | refine aWp_skip ?_ | refine aWp_block ?_ | refine aWp_exit ?_ | refine end_ret ?_ | refine end_normal ?_) | ((refine rgA ?_); intro ν) | ((with_reducible apply cndT); exact rfl; (first | rfl | assumption)) | ((with_reducible apply cndF); exact rfl; (first | rfl | assumption)))
  refine rg fun K hK => ?_
  refine stA ?_
  (first | with_reducible refine g0 ?_ | ((with_reducible refine g1 ?_ ?_); (with_reducible apply gt_); exact rfl; exact rfl; (first | rfl | assumption | (simp [*] <;> done)))); refine scA (h2 := (s1)) (hk := ?_)
  refine stA ?_
  (first | with_reducible refine g0 ?_ | ((with_reducible refine g1 ?_ ?_); (with_reducible apply gt_); exact rfl; exact rfl; (first | rfl | assumption | (simp [*] <;> done)))); refine scA (h2 := (s2)) (hk := ?_)
  refine stA ?_
  with_reducible refine rz ?_
  refine hK _ _ _ ?_
  clear hK K; intro ν
  repeat (first | with_reducible (first | refine aWp_seq ?_ | refine seq_normal ?_ | refine seq_ret ?_ | refine seq_exit ?_ | refine blk_normal ?_ | refine blk_ret ?_ | refine blk_hit ?_ | refine blk_miss rfl ?_ | refine aWp_ret ?_ | refine aWp_skip ?_ | refine aWp_block ?_ | refine aWp_exit ?_ | refine end_ret ?_ | refine end_normal ?_) | ((refine rgA ?_); intro ν) | ((with_reducible apply cndT); exact rfl; (first | rfl | assumption)) | ((with_reducible apply cndF); exact rfl; (first | rfl | assumption)))
  refine rg fun K hK => ?_
  refine stA ?_
  (first | with_reducible refine g0 ?_ | ((with_reducible refine g1 ?_ ?_); (with_reducible apply gt_); exact rfl; exact rfl; (first | rfl | assumption | (simp [*] <;> done)))); refine scA (h2 := (s3)) (hk := ?_)
  refine stA ?_
  (first | with_reducible refine g0 ?_ | ((with_reducible refine g1 ?_ ?_); (with_reducible apply gt_); exact rfl; exact rfl; (first | rfl | assumption | (simp [*] <;> done)))); refine scA (h2 := (s4)) (hk := ?_)
  refine stA ?_
  with_reducible refine rz ?_
  refine hK _ _ _ ?_
  clear hK K; intro ν
  repeat (first | with_reducible (first | refine aWp_seq ?_ | refine seq_normal ?_ | refine seq_ret ?_ | refine seq_exit ?_ | refine blk_normal ?_ | refine blk_ret ?_ | refine blk_hit ?_ | refine blk_miss rfl ?_ | refine aWp_ret ?_ | refine aWp_skip ?_ | refine aWp_block ?_ | refine aWp_exit ?_ | refine end_ret ?_ | refine end_normal ?_) | ((refine rgA ?_); intro ν) | ((with_reducible apply cndT); exact rfl; (first | rfl | assumption)) | ((with_reducible apply cndF); exact rfl; (first | rfl | assumption)))
  refine rg fun K hK => ?_
  refine stA ?_
  (first | with_reducible refine g0 ?_ | ((with_reducible refine g1 ?_ ?_); (with_reducible apply gt_); exact rfl; exact rfl; (first | rfl | assumption | (simp [*] <;> done)))); refine scA (h2 := (awake15_spec)) (hk := ?_)
  refine stA ?_
  with_reducible refine rz ?_
  refine hK _ _ _ ?_
  clear hK K; intro ν
  repeat (first | with_reducible (first | refine aWp_seq ?_ | refine seq_normal ?_ | refine seq_ret ?_ | refine seq_exit ?_ | refine blk_normal ?_ | refine blk_ret ?_ | refine blk_hit ?_ | refine blk_miss rfl ?_ | refine aWp_ret ?_ | refine aWp_skip ?_ | refine aWp_block ?_ | refine aWp_exit ?_ | refine end_ret ?_ | refine end_normal ?_) | ((refine rgA ?_); intro ν) | ((with_reducible apply cndT); exact rfl; (first | rfl | assumption)) | ((with_reducible apply cndF); exact rfl; (first | rfl | assumption)))
  (first | with_reducible refine end_r ?_ | with_reducible refine end_n ?_); refine en1 ?_
  rfl
theorem wf_u64 {n : Int} (h : (Lit.int .u64 n).wf = true) : 0 ≤ n ∧ n ≤ 18446744073709551615 := by
  simp [Lit.wf, IntKind.min, IntKind.max, IntKind.signed, IntKind.bits] at h
  omega
theorem argsR8 {K : Kd} {x0 x1 x2 x3 x4 x5 x6 x7 : AV} {v0 v1 v2 v3 v4 v5 v6 v7 : Value} (h0 : KRep K x0 v0) (h1 : KRep K x1 v1) (h2 : KRep K x2 v2) (h3 : KRep K x3 v3) (h4 : KRep K x4 v4) (h5 : KRep K x5 v5) (h6 : KRep K x6 v6) (h7 : KRep K x7 v7) : ArgsR K [x0, x1, x2, x3, x4, x5, x6, x7] #[v0, v1, v2, v3, v4, v5, v6, v7] := ⟨rfl, fun i x v q1 q2 => by
  match i with
  | 0 => simp at q1 q2; subst q1 q2; exact h0
  | 1 => simp at q1 q2; subst q1 q2; exact h1
  | 2 => simp at q1 q2; subst q1 q2; exact h2
  | 3 => simp at q1 q2; subst q1 q2; exact h3
  | 4 => simp at q1 q2; subst q1 q2; exact h4
  | 5 => simp at q1 q2; subst q1 q2; exact h5
  | 6 => simp at q1 q2; subst q1 q2; exact h6
  | 7 => simp at q1 q2; subst q1 q2; exact h7
  | i + 8 => simp at q1⟩
theorem law_SheetOlder (e q e2 q2 : Nat) (b w : List UInt8) (wh : Nat) (ct : UInt8) (he : e < 2 ^ 32) (hq : q < 2 ^ 32) (he2 : e2 < 2 ^ 32) (hq2 : q2 < 2 ^ 32) (hwh : wh < 2 ^ 64) :
    Spec Try.prog 13 [.int .u32 (e : Nat), .int .u32 (q : Nat), .int .u32 (e2 : Nat), .int .u32 (q2 : Nat), .sl false b.length (aOfBytes b), .sl false w.length (aOfBytes w), .int .u64 (wh : Nat), .int .u8 (ct.toNat : Int)] (.k (.bool true)) := by
  by_cases c1 : e = e2
  · by_cases c2 : q = q2
    · exact older_c e q e2 q2 b w wh ct he hq he2 hq2 hwh c1 c2
    · exact older_b e q e2 q2 b w wh ct he hq he2 hq2 hwh c1 c2
  · exact older_a e q e2 q2 b w wh ct he hq he2 hq2 hwh c1
end Go.Proofs.Ytikganlbnhapcaa
