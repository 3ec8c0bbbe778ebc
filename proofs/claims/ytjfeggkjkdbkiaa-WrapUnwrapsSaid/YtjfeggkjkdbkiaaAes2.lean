import Derived.Test.YtjfeggkjkdbkiaaAes1
namespace Go.Proofs.Ytjfeggkjkdbkiaa
open Go.RowKit
set_option linter.unusedVariables false
set_option linter.unusedSimpArgs false
set_option maxRecDepth 20000
/-! a cipher's cells -/
def cph (T B K : List UInt8) (R : Nat) : List AV := aOfBytes T ++ (aOfBytes B ++ [.sl false R (aOfBytes K)])
theorem cph_len {T B K : List UInt8} {R : Nat} (h1 : T.length = 256) (h2 : B.length = 256) : (cph T B K R).length = 513 := by simp [cph, aOfBytes, h1, h2]
theorem cph_T {T B K : List UInt8} {R : Nat} (h1 : T.length = 256) (i : Nat) (h : i < 256) : ldAgg (.int .u8) 1 (List.drop i (cph T B K R)) = some (.int .u8 ((T.getD i 0).toNat : Int)) := by
  unfold cph
  rw [List.drop_append_of_le_length (by rw [aOfBytes_len]; omega)]
  have := ld_b T i (by omega)
  simp only [ldAgg] at this ⊢
  rw [List.head?_append, this]; rfl
theorem cph_B {T B K : List UInt8} {R : Nat} (h1 : T.length = 256) (h2 : B.length = 256) (i : Nat) (h : i < 256) : ldAgg (.int .u8) 1 (List.drop i (List.drop 256 (cph T B K R))) = some (.int .u8 ((B.getD i 0).toNat : Int)) := by
  unfold cph
  rw [List.drop_left' (by rw [aOfBytes_len, h1]), List.drop_append_of_le_length (by rw [aOfBytes_len]; omega)]
  have := ld_b B i (by omega)
  simp only [ldAgg] at this ⊢
  rw [List.head?_append, this]; rfl
theorem cph_K {T B K : List UInt8} {R : Nat} (h1 : T.length = 256) (h2 : B.length = 256) (e : TypeId) : ldAgg (.sl e) 1 (List.drop 512 (cph T B K R)) = some (.sl false R (aOfBytes K)) := by
  unfold cph
  rw [← List.append_assoc, List.drop_left' (by rw [List.length_append, aOfBytes_len, aOfBytes_len, h1, h2])]; rfl
theorem initM3 (x y z : MA) (k : Nat) (cs : List AV) (md : Md) : initM [x, y, z] k cs md = ⟨upd (upd (upd (fun _ => .k .any) 0 (x.sv k)) 1 (y.sv k)) 2 (z.sv k), upd (fun _ => none) k (some (0, .obj cs)), 1, md⟩ := by
  unfold initM; congr 1; funext t
  match t with
  | 0 => rfl
  | 1 => rfl
  | 2 => rfl
  | t + 3 => simp [upd]
/-- the end of a walk that turned an object -/
theorem enM0 {P : Program} {rs : List ResultVar} {tys : List TypeId} {k : Nat} {F : Nat → SV} {T : Nat → Option (Nat × Ent)} {ν : Nat} {md : Md} {cs cs' : List AV} (h1 : rs = []) (ht : T k = some (0, .obj cs)) (hc : cs' = cs) : aEndM P rs tys k ⟨F, T, ν, md⟩ cs' (.tup []) := by
  subst h1
  exact ⟨Wk.of_eq rfl, cs, ht, WkL.of_eq hc⟩
/-! a round's key -/
def addF (K b : List UInt8) (r i : Nat) : UInt8 := b.getD i 0 ^^^ K.getD (r * 16 + i) 0
def addK (K b : List UInt8) (r : Nat) : List UInt8 := (List.range 16).map (addF K b r)
theorem addK_len (K b : List UInt8) (r : Nat) : (addK K b r).length = 16 := by simp [addK]
set_option maxHeartbeats 8000000 in
theorem add_spec (T B K b : List UInt8) (R r : Nat) (h1 : T.length = 256) (h2 : B.length = 256) (hK : K.length = R * 16) (hR : R ≤ 1000) (hr : r < R) (hb : b.length = 16) :
    MSpec Try.prog 75 [.k (.cp (cph T B K R)), .ob 0, .k (.int .i64 (r : Nat))] (aOfBytes b) (some (aOfBytes (addK K b r))) (.tup []) := by
  refine mspec_of 1 (fun _ => false) false (by kernel_rfl) Try.func75 rfl rfl (by simp [Try.ntmps75]) (by decide) rfl ?_
  intro δ
  rw [initM3]
  simp only [MA.sv]
  have hC := cph_len (K := K) (R := R) h1 h2
  have hCK := cph_K (K := K) (R := R) h1 h2 66
  generalize cph T B K R = C at *
  have hKa := aOfBytes_len K
  repeat (first | with_reducible (first | refine aWp_seq ?_ | refine seq_normal ?_ | refine seq_ret ?_ | refine seq_exit ?_ | refine blk_normal ?_ | refine blk_ret ?_ | refine blk_hit ?_ | refine blk_miss rfl ?_ | refine aWp_ret ?_ | refine aWp_skip ?_ | refine aWp_block ?_ | refine aWp_exit ?_ | refine end_ret ?_ | refine end_normal ?_) | ((refine rgA ?_); intro ν) | ((with_reducible apply cndT); exact rfl; (first | rfl | assumption)) | ((with_reducible apply cndF); exact rfl; (first | rfl | assumption)))
  refine aWp_loop (fun m s => ∃ F T ν i, m = 16 - i ∧ i ≤ 16 ∧ s = ⟨F, T, ν, ⟨fun _ => false, δ, false⟩⟩ ∧
    F 0 = .k (.cp C) ∧ F 1 = .ob 1 0 0 ∧ F 2 = .k (.int .i64 (r : Nat)) ∧ F 7 = .k (.int .i64 (i : Nat)) ∧ T 1 = some (0, .obj (aOfBytes (setN (addF K b r) b i)))) 16 ⟨_, _, _, 0, rfl, Nat.zero_le _, rfl, rfl, rfl, rfl, rfl, rfl⟩ ?_
  rintro m s ⟨F, T, ν, i, rfl, hi, rfl, f0, f1, f2, f7, t1⟩
  rw [has4 f0 f1 f2 f7, has1 t1]
  have hsl := setN_len (addF K b r) b i
  have hsa := aOfBytes_len (setN (addF K b r) b i)
  by_cases hlt : i < 16
  · have l1 := ld_b (setN (addF K b r) b i) i (by omega)
    rw [setN_get (addF K b r) b i i (Nat.le_refl _)] at l1
    have l2 := ld_b K (r * 16 + i) (by omega)
    rw [← List.drop_drop] at l2
    have hst := set_b (setN (addF K b r) b i) (addF K b r i) i (by omega)
    repeat (first | with_reducible (first | refine aWp_seq ?_ | refine seq_normal ?_ | refine seq_ret ?_ | refine seq_exit ?_ | refine blk_normal ?_ | refine blk_ret ?_ | refine blk_hit ?_ | refine blk_miss rfl ?_ | refine aWp_ret ?_ | refine aWp_skip ?_ | refine aWp_block ?_ | refine aWp_exit ?_ | refine end_ret ?_ | refine end_normal ?_) | ((refine rgA ?_); intro ν) | ((with_reducible apply cndT); exact rfl; (first | rfl | assumption)) | ((with_reducible apply cndF); exact rfl; (first | rfl | assumption)))
    refine rgxA [(4,[1],[]),(17,[1],[1])] ?_
    intro ν
    repeat (first | with_reducible (first | refine aWp_seq ?_ | refine seq_normal ?_ | refine seq_ret ?_ | refine seq_exit ?_ | refine blk_normal ?_ | refine blk_ret ?_ | refine blk_hit ?_ | refine blk_miss rfl ?_ | refine aWp_ret ?_ | refine aWp_skip ?_ | refine aWp_block ?_ | refine aWp_exit ?_ | refine end_ret ?_ | refine end_normal ?_) | ((refine rgA ?_); intro ν) | ((with_reducible apply cndT); exact rfl; (first | rfl | assumption)) | ((with_reducible apply cndF); exact rfl; (first | rfl | assumption)))
    refine ⟨16 - (i + 1), by omega, _, _, _, i + 1, rfl, by omega, rfl, rfl, rfl, rfl, ?_, ?_⟩
    · show (SV.k (.int .i64 ((i : Int) + 1)) : SV) = _
      rw [Int.natCast_succ]
    · rw [upd_same]
      exact congrArg (fun q => some (0, Ent.obj q)) hst
  · have hie : i = 16 := by omega
    subst hie
    have he := setN_all (addF K b r) b 16 hb
    repeat (first | with_reducible (first | refine aWp_seq ?_ | refine seq_normal ?_ | refine seq_ret ?_ | refine seq_exit ?_ | refine blk_normal ?_ | refine blk_ret ?_ | refine blk_hit ?_ | refine blk_miss rfl ?_ | refine aWp_ret ?_ | refine aWp_skip ?_ | refine aWp_block ?_ | refine aWp_exit ?_ | refine end_ret ?_ | refine end_normal ?_) | ((refine rgA ?_); intro ν) | ((with_reducible apply cndT); exact rfl; (first | rfl | assumption)) | ((with_reducible apply cndF); exact rfl; (first | rfl | assumption)))
    (first | with_reducible refine end_r ?_ | with_reducible refine end_n ?_)
    refine enM0 rfl rfl ?_
    rw [he]; rfl
end Go.Proofs.Ytjfeggkjkdbkiaa
