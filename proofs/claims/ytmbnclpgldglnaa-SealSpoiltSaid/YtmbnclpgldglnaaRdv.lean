import Derived.Test.YtmbnclpgldglnaaProg
import Derived.Test.YtmbnclpgldglnaaAvCut
import Derived.Test.YtmbnclpgldglnaaAvBytes
import Derived.RegionTactic
import Derived.ChangeAlike
import Derived.Below
import Derived.Deep.Draws
import Derived.OwnWalk
import Derived.Tactics
import Derived.WalkKit
import Derived.KernelRfl
import Derived.RowKit3
import Derived.Deep.LoopGhost
import Derived.Deep.QuietTactic
import Derived.BigQuiet
import Derived.WideLaws
import Derived.Deep.DeepCutAuto
import Derived.Deep.CutBlock
import Derived.Laws.Rows
import Derived.Outline
import Derived.Lib.Hide
namespace Go.Proofs.Ytmbnclpgldglnaa
open Go.RowKit
set_option linter.unusedVariables false
set_option linter.unusedSimpArgs false


/-! eight bytes as a number -/
theorem fold_snoc {α β : Type} (f : β → α → β) (d : α) (s : β) (l : List α) (k : Nat) (h : k < l.length) :
    (l.take (k + 1)).foldl f s = f ((l.take k).foldl f s) (l.getD k d) := by
  rw [List.take_succ_eq_append_getElem h, List.foldl_append]
  simp [h]
def vN (l : List (BitVec 8)) : BitVec 64 := l.foldl (fun n b => n <<< 8 + b.setWidth 64) 0#64
theorem vN_step (x : BitVec 64) (b : BitVec 8) : IntKind.u64.wrap (IntKind.u64.wrap (n64 x * 256) + IntKind.u64.wrap (n8 b)) = n64 (x <<< 8 + b.setWidth 64) := by
  rw [IntKind.wrap_u64, IntKind.wrap_u64, IntKind.wrap_u64]
  unfold n64 n8
  rw [BitVec.toNat_add, BitVec.toNat_shiftLeft, BitVec.toNat_setWidth, Nat.shiftLeft_eq]
  have := b.isLt
  rw [Nat.mod_eq_of_lt (by omega : b.toNat < 2 ^ 64)]
  simp
set_option maxHeartbeats 800000 in
theorem value_calls (l : List (BitVec 8)) (w : World) (hl : l.length ≤ 1000000000) :
    Calls Try.prog 88 #[.string (sOf l)] w fun e w' => e = .returned (.int .i64 (wrap64 (n64 (vN l)))) ∧ w = w' := by
  have hz := sOf_size l
  go_enter Try.func88, Try.ntmps88
  go_wp2
  go_loop [3, 7] (fun n i => ∃ k : Nat, k ≤ l.length ∧ i = .int .i64 k ∧ n = .int .u64 (n64 (vN (l.take k)))) (fun _ i => l.length - (intOf i).toNat)
  case atStart => exact ⟨0, by omega, rfl, rfl⟩
  case round =>
    obtain ⟨k, hk, rfl, rfl⟩ := hrel
    by_cases hlt : k < l.length
    · have hlt2 : k < (sOf l).size := by omega
      have hg := sOf_get l k hlt2
      go_wp2
      go_round
      case rel =>
        refine ⟨k + 1, by omega, by go_num, ?_⟩
        rw [vN_step]; unfold vN; rw [fold_snoc _ 0 _ _ _ hlt]; simp [hlt]
      case measure => simp only [intOf]; omega
    · have em : Hid (k = l.length) := Lib.hid (by omega)
      go_wp2
      go_ret
      exact ⟨by rw [em.out, List.take_length]; rfl, rfl⟩
def vI (l : List (BitVec 8)) : Int := wrap64 (n64 (vN l))
theorem vN_snoc (l : List (BitVec 8)) (b : BitVec 8) : vN (l ++ [b]) = vN l <<< 8 + b.setWidth 64 := by simp [vN]
theorem ser_snoc (x : BitVec 64) (k : Nat) : ser x (k + 1) = ser (x >>> 8) k ++ [x.setWidth 8] := by
  apply List.ext_getElem?
  intro i
  by_cases h1 : i < k
  · rw [List.getElem?_append_left (by simp [ser]; omega)]
    simp only [ser, List.getElem?_map, List.getElem?_range (show i < k + 1 by omega), List.getElem?_range h1, Option.map_some]
    rw [← BitVec.shiftRight_add, show 8 * (k + 1 - 1 - i) = 8 + 8 * (k - 1 - i) by omega]
  · rw [List.getElem?_append_right (by simp [ser]; omega), ser_len]
    by_cases h2 : i = k
    · subst h2
      simp [ser, List.getElem?_range (show i < i + 1 by omega)]
    · rw [List.getElem?_eq_none (by simp [ser]; omega), List.getElem?_eq_none (by simp; omega)]
theorem vN_ser (k : Nat) (hk : k ≤ 8) (x : BitVec 64) : (vN (ser x k)).toNat = x.toNat % 2 ^ (8 * k) := by
  induction k generalizing x with
  | zero => simp [ser, vN, Nat.mod_one]
  | succ k ih =>
    rw [ser_snoc, vN_snoc, BitVec.toNat_add, BitVec.toNat_shiftLeft, ih (by omega)]
    have hm : 2 ^ (8 * (k + 1)) = 256 * 2 ^ (8 * k) := by rw [show 8 * (k + 1) = 8 + 8 * k by omega, Nat.pow_add]
    have hp : 2 ^ (8 * k) ≤ 2 ^ 56 := Nat.pow_le_pow_right (by omega) (by omega)
    rw [hm, Nat.mod_mul]
    have hlt : x.toNat / 256 % 2 ^ (8 * k) < 2 ^ (8 * k) := Nat.mod_lt _ (Nat.pow_pos (by omega))
    simp only [BitVec.toNat_ushiftRight, Nat.shiftRight_eq_div_pow, Nat.shiftLeft_eq, BitVec.toNat_setWidth]
    rw [show (2 : Nat) ^ 8 = 256 by rfl]
    generalize x.toNat / 256 % 2 ^ (8 * k) = q at *
    omega
theorem vI_encI (n : Int) (h1 : -9223372036854775808 ≤ n) (h2 : n ≤ 9223372036854775807) : vI (encI n) = n := by
  have : vN (encI n) = BitVec.ofInt 64 n := BitVec.eq_of_toNat_eq (by
    rw [encI, vN_ser 8 (by omega)]
    have := (BitVec.ofInt 64 n).isLt
    omega)
  unfold vI
  rw [this, ← u64_of]
  simp only [wrap64, IntKind.wrap, IntKind.bits, IntKind.signed]
  simp
  omega
/-- bytes as a number -/
def vB (l : List UInt8) : Int := vI (tb l)
theorem tb_app (a b : List UInt8) : tb (a ++ b) = tb a ++ tb b := by simp [tb]
theorem fb_app (a b : List (BitVec 8)) : fb (a ++ b) = fb a ++ fb b := by simp [fb]
theorem pI_app (l : List UInt8) (n : Int) : pI l n = l ++ fb (encI n) := by rw [pI, fb_app, fb_tb]
theorem vB_enc (n : Int) (h1 : -9223372036854775808 ≤ n) (h2 : n ≤ 9223372036854775807) : vB (fb (encI n)) = n := by rw [vB, tb_fb, vI_encI n h1 h2]
theorem value_spec (l : List UInt8) (hl : l.length ≤ 1000000) : Spec Try.prog 88 [.str (sB l)] (.k (.int .i64 (vB l))) := by
  refine spec_calls ⟨_, Try.func88, rfl, rfl⟩ fun K w vs hk ha => ?_
  obtain ⟨u, rfl, hu⟩ := args1 ha
  rw [kstr_inv hu, sB_tb]
  refine (value_calls (tb l) w (by rw [tb_len]; omega)).mono ?_
  rintro e w' ⟨rfl, rfl⟩
  exact ⟨_, rfl, Below.refl _ _, .int _ _⟩
theorem sB_ext (l : List UInt8) (a b : Nat) : (sB l).extract a b = sB ((l.take b).drop a) := by
  apply ByteArray.ext
  rw [ByteArray.data_extract]
  apply Array.toList_inj.1
  have e : ∀ (l : List UInt8), ((l.drop a).take (b - a)) = (l.take b).drop a := fun l => by rw [List.drop_take]
  simp only [sB, Array.toList_extract, List.extract, List.map_id', e]
theorem res_new {F : Nat → SV} {T : Nat → Option (Nat × Ent)} {ν γ d : Nat} {md : Md} {cs : List AV} : St.res ⟨F, T, ν, md⟩ (some d) γ (.new cs) = some ⟨upd F d (.ob d γ 0), upd T d (some (γ, .obj cs)), ν, md⟩ := rfl
/-! a reader of bytes -/
theorem onew_spec (full : Bool) (l : List UInt8) : Spec Try.prog 57 [.sl full l.length (aOfBytes l)] (.new [.str (sB l), .bool false]) := by
  have hla := aOfBytes_len l
  refine spec_of_new (fun _ => false) (by kernel_rfl) Try.func57 rfl rfl (by simp [Try.ntmps57]) (by decide) ?_
  intro δ
  rw [init1]
  repeat (first | with_reducible (first | refine aWp_seq ?_ | refine seq_normal ?_ | refine seq_ret ?_ | refine seq_exit ?_ | refine blk_normal ?_ | refine blk_ret ?_ | refine blk_hit ?_ | refine blk_miss rfl ?_ | refine aWp_ret ?_ | refine aWp_skip ?_ | refine aWp_block ?_ | refine aWp_exit ?_ | refine end_ret ?_ | refine end_normal ?_) | ((refine rgA ?_); intro ν) | ((with_reducible apply cndT); exact rfl; (first | rfl | assumption)) | ((with_reducible apply cndF); exact rfl; (first | rfl | assumption)))
  (first | with_reducible refine end_r ?_ | with_reducible refine end_n ?_)
  exact ⟨_, _, _, rfl, rfl, rfl⟩
theorem initM2 (x y : MA) (k : Nat) (cs : List AV) (md : Md) : initM [x, y] k cs md = ⟨upd (upd (fun _ => .k .any) 0 (x.sv k)) 1 (y.sv k), upd (fun _ => none) k (some (0, .obj cs)), 1, md⟩ := by
  unfold initM; congr 1; funext t
  match t with
  | 0 => rfl
  | 1 => rfl
  | t + 2 => simp [upd]
theorem initM1 (x : MA) (k : Nat) (cs : List AV) (md : Md) : initM [x] k cs md = ⟨upd (fun _ => .k .any) 0 (x.sv k), upd (fun _ => none) k (some (0, .obj cs)), 1, md⟩ := by
  unfold initM; congr 1; funext t
  match t with
  | 0 => rfl
  | t + 1 => simp [upd]
theorem next_spec (l : List UInt8) (hl : 8 ≤ l.length) (hb : l.length ≤ 100000) : MSpec Try.prog 87 [.ob 0, .k (.int .i64 8)] [.str (sB l), .bool false] (some [.str (sB (l.drop 8)), .bool false]) (.tup [.str (sB (l.take 8)), .bool true]) := by
  refine mspec_of 0 (fun _ => false) false (by kernel_rfl) Try.func87 rfl rfl (by simp [Try.ntmps87]) (by decide) rfl ?_
  intro δ
  rw [initM2]
  simp only [MA.sv]
  have hs := sB_size l
  have e1 := sB_ext l 0 8
  have e2 := sB_ext l 8 (sB l).size
  rw [List.drop_zero] at e1
  rw [hs, List.take_length] at e2
  rw [← e1, ← e2]
  generalize sB l = b at *
  repeat (first | with_reducible (first | refine aWp_seq ?_ | refine seq_normal ?_ | refine seq_ret ?_ | refine seq_exit ?_ | refine blk_normal ?_ | refine blk_ret ?_ | refine blk_hit ?_ | refine blk_miss rfl ?_ | refine aWp_ret ?_ | refine aWp_skip ?_ | refine aWp_block ?_ | refine aWp_exit ?_ | refine end_ret ?_ | refine end_normal ?_) | ((refine rgA ?_); intro ν) | ((with_reducible apply cndT); exact rfl; (first | rfl | assumption)) | ((with_reducible apply cndF); exact rfl; (first | rfl | assumption)))
  refine rgxA [(4,[0],[]),(10,[0],[]),(16,[0],[0])] ?_
  intro ν
  repeat (first | with_reducible (first | refine aWp_seq ?_ | refine seq_normal ?_ | refine seq_ret ?_ | refine seq_exit ?_ | refine blk_normal ?_ | refine blk_ret ?_ | refine blk_hit ?_ | refine blk_miss rfl ?_ | refine aWp_ret ?_ | refine aWp_skip ?_ | refine aWp_block ?_ | refine aWp_exit ?_ | refine end_ret ?_ | refine end_normal ?_) | ((refine rgA ?_); intro ν) | ((with_reducible apply cndT); exact rfl; (first | rfl | assumption)) | ((with_reducible apply cndF); exact rfl; (first | rfl | assumption)))
  (first | with_reducible refine end_r ?_ | with_reducible refine end_n ?_)
  refine ⟨?_, _, rfl, WkL.of_eq (by rw [hs])⟩
  refine en2 ?_
  rfl
theorem rint_spec (l : List UInt8) (hl : 8 ≤ l.length) (hb : l.length ≤ 100000) : MSpec Try.prog 58 [.ob 0] [.str (sB l), .bool false] (some [.str (sB (l.drop 8)), .bool false]) (.int .i64 (vB (l.take 8))) := by
  have s1 := next_spec l hl hb
  have s2 := value_spec (l.take 8) (by simp; omega)
  refine mspec_of 0 (fun _ => false) false (by kernel_rfl) Try.func58 rfl rfl (by simp [Try.ntmps58]) (by decide) rfl ?_
  intro δ
  rw [initM1]
  simp only [MA.sv]
  generalize sB l = b0 at *
  generalize sB (l.drop 8) = b1 at *
  generalize sB (l.take 8) = b2 at *
  repeat with_reducible (first | refine aWp_seq ?_ | refine seq_normal ?_ | refine seq_ret ?_ | refine seq_exit ?_ | refine blk_normal ?_ | refine blk_ret ?_ | refine blk_hit ?_ | refine blk_miss rfl ?_ | refine aWp_ret ?_ | refine aWp_skip ?_ | refine aWp_block ?_ | refine aWp_exit ?_ | refine end_ret ?_ | refine end_normal ?_)
  refine rgA ?_
  intro ν
  repeat with_reducible (first | refine aWp_seq ?_ | refine seq_normal ?_ | refine seq_ret ?_ | refine seq_exit ?_ | refine blk_normal ?_ | refine blk_ret ?_ | refine blk_hit ?_ | refine blk_miss rfl ?_ | refine aWp_ret ?_ | refine aWp_skip ?_ | refine aWp_block ?_ | refine aWp_exit ?_ | refine end_ret ?_ | refine end_normal ?_)
  refine rg fun K hK => ?_
  refine stA ?_
  (first | with_reducible refine g0 ?_ | ((with_reducible refine g1 ?_ ?_); (with_reducible apply gt_); exact rfl; exact rfl; (first | rfl | assumption | (simp [*] <;> done)))); (first | refine smA (h2 := (s1)) (e := 0) (hk := ?_) | refine smA0 (h2 := (s1)) (e := 0) (hk := ?_) | refine smN (h2 := (s1)) (e := 0) (hk := ?_))
  refine stA ?_
  with_reducible refine rz ?_
  refine hK _ _ _ ?_
  clear hK K; intro ν
  repeat with_reducible (first | refine aWp_seq ?_ | refine seq_normal ?_ | refine seq_ret ?_ | refine seq_exit ?_ | refine blk_normal ?_ | refine blk_ret ?_ | refine blk_hit ?_ | refine blk_miss rfl ?_ | refine aWp_ret ?_ | refine aWp_skip ?_ | refine aWp_block ?_ | refine aWp_exit ?_ | refine end_ret ?_ | refine end_normal ?_)
  refine rg fun K hK => ?_
  refine stA ?_
  (first | with_reducible refine g0 ?_ | ((with_reducible refine g1 ?_ ?_); (with_reducible apply gt_); exact rfl; exact rfl; (first | rfl | assumption | (simp [*] <;> done)))); refine scA (h2 := (s2)) (hk := ?_)
  refine stA ?_
  with_reducible refine rz ?_
  refine hK _ _ _ ?_
  clear hK K; intro ν
  repeat (first | with_reducible (first | refine aWp_seq ?_ | refine seq_normal ?_ | refine seq_ret ?_ | refine seq_exit ?_ | refine blk_normal ?_ | refine blk_ret ?_ | refine blk_hit ?_ | refine blk_miss rfl ?_ | refine aWp_ret ?_ | refine aWp_skip ?_ | refine aWp_block ?_ | refine aWp_exit ?_ | refine end_ret ?_ | refine end_normal ?_) | ((refine rgA ?_); intro ν) | ((with_reducible apply cndT); exact rfl; (first | rfl | assumption)) | ((with_reducible apply cndF); exact rfl; (first | rfl | assumption)))
  (first | with_reducible refine end_r ?_ | with_reducible refine end_n ?_)
  refine ⟨?_, _, rfl, WkL.of_eq rfl⟩
  refine en1 ?_
  rfl
end Go.Proofs.Ytmbnclpgldglnaa
