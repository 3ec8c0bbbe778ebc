import Derived.Test.YtmbnclpgldglnaaRcbc2
import Derived.Test.YtmbnclpgldglnaaRefA7
import Derived.Test.YtmbnclpgldglnaaCbc4
namespace Go.Proofs.Ytmbnclpgldglnaa
open Go.RowKit
set_option linter.unusedVariables false
set_option linter.unusedSimpArgs false
set_option maxRecDepth 20000
theorem rKey_cp (key : List UInt8) : ∃ cs, rKey key = .cp cs := ⟨_, rfl⟩
theorem rseal_key {key : List UInt8} (h : aesOk key) (fk fi fb : Bool) (iv b : List UInt8) (hiv : iv.length = 16) (hb : b.length ≤ 100000) :
    Spec Try.prog 14 [.sl fk key.length (aOfBytes key), .sl fi 16 (aOfBytes iv), .sl fb b.length (aOfBytes b)] (.k (.tup [.sl false (sealB (cbcE key) iv b).length (aOfBytes (sealB (cbcE key) iv b)), .int .i64 0])) := by
  have s1 := rnewK key fk h
  have s2 := fun f x hx => renc_key h f x hx
  obtain ⟨cs, e⟩ := rKey_cp key
  rw [e] at s1 s2
  exact rseal_walk fk fi fb key iv b cs (cbcE key) (cbcE_len key) hiv hb s1 s2
theorem ropen_key {key : List UInt8} (h : aesOk key) (fk fi fb : Bool) (iv b : List UInt8) (hiv : iv.length = 16) (hb : b.length ≤ 100000) :
    Spec Try.prog 17 [.sl fk key.length (aOfBytes key), .sl fi 16 (aOfBytes iv), .sl fb b.length (aOfBytes b)] (.k (ropenR (openB (cbcD key) iv b))) := by
  have s1 := rnewK key fk h
  have s2 := fun f x hx => rdec_keyN h f x hx
  obtain ⟨cs, e⟩ := rKey_cp key
  rw [e] at s1 s2
  exact ropen_walk fk fi fb key iv b cs (cbcD key) (cbcD_len key) hiv hb s1 s2
theorem rseal_none {key : List UInt8} (h : ¬ aesOk key) (fk fi fb : Bool) (iv b : List UInt8) (hk : key.length ≤ 9223372036854775807) :
    Spec Try.prog 14 [.sl fk key.length (aOfBytes key), .sl fi 16 (aOfBytes iv), .sl fb b.length (aOfBytes b)] (.k (.tup [.sl true 0 [], .int .i64 1])) := by
  have s1 := rnew_none key fk h hk
  refine spec_of (fun _ => false) (by kernel_rfl) Try.func14 rfl rfl (by simp [Try.ntmps14]) (by decide) ?_
  intro δ
  rw [init3]
  repeat (first | with_reducible (first | refine aWp_seq ?_ | refine seq_normal ?_ | refine seq_ret ?_ | refine seq_exit ?_ | refine blk_normal ?_ | refine blk_ret ?_ | refine blk_hit ?_ | refine blk_miss rfl ?_ | refine aWp_ret ?_ | refine aWp_skip ?_ | refine aWp_block ?_ | refine aWp_exit ?_ | refine end_ret ?_ | refine end_normal ?_) | ((refine rgA ?_); intro ν) | ((with_reducible apply cndT); exact rfl; (first | rfl | assumption)) | ((with_reducible apply cndF); exact rfl; (first | rfl | assumption)))
  refine rg fun K hK => ?_
  refine stA ?_
  (first | with_reducible refine g0 ?_ | ((with_reducible refine g1 ?_ ?_); (with_reducible apply gt_); exact rfl; exact rfl; (first | rfl | assumption | (simp [*] <;> done)))); refine scA (h2 := (s1)) (hk := ?_)
  refine stA ?_
  with_reducible refine rz ?_
  refine hK _ _ _ ?_
  clear hK K; intro ν
  repeat (first | with_reducible (first | refine aWp_seq ?_ | refine seq_normal ?_ | refine seq_ret ?_ | refine seq_exit ?_ | refine blk_normal ?_ | refine blk_ret ?_ | refine blk_hit ?_ | refine blk_miss rfl ?_ | refine aWp_ret ?_ | refine aWp_skip ?_ | refine aWp_block ?_ | refine aWp_exit ?_ | refine end_ret ?_ | refine end_normal ?_) | ((refine rgA ?_); intro ν) | ((with_reducible apply cndT); exact rfl; (first | rfl | assumption)) | ((with_reducible apply cndF); exact rfl; (first | rfl | assumption)))
  (first | with_reducible refine end_r ?_ | with_reducible refine end_n ?_); refine en2 ?_
  rfl
theorem ropen_none {key : List UInt8} (h : ¬ aesOk key) (fk fi fb : Bool) (iv b : List UInt8) (hk : key.length ≤ 9223372036854775807) :
    Spec Try.prog 17 [.sl fk key.length (aOfBytes key), .sl fi 16 (aOfBytes iv), .sl fb b.length (aOfBytes b)] (.k (.tup [.sl true 0 [], .int .i64 1])) := by
  have s1 := rnew_none key fk h hk
  refine spec_of (fun _ => false) (by kernel_rfl) Try.func17 rfl rfl (by simp [Try.ntmps17]) (by decide) ?_
  intro δ
  rw [init3]
  repeat (first | with_reducible (first | refine aWp_seq ?_ | refine seq_normal ?_ | refine seq_ret ?_ | refine seq_exit ?_ | refine blk_normal ?_ | refine blk_ret ?_ | refine blk_hit ?_ | refine blk_miss rfl ?_ | refine aWp_ret ?_ | refine aWp_skip ?_ | refine aWp_block ?_ | refine aWp_exit ?_ | refine end_ret ?_ | refine end_normal ?_) | ((refine rgA ?_); intro ν) | ((with_reducible apply cndT); exact rfl; (first | rfl | assumption)) | ((with_reducible apply cndF); exact rfl; (first | rfl | assumption)))
  refine rg fun K hK => ?_
  refine stA ?_
  (first | with_reducible refine g0 ?_ | ((with_reducible refine g1 ?_ ?_); (with_reducible apply gt_); exact rfl; exact rfl; (first | rfl | assumption | (simp [*] <;> done)))); refine scA (h2 := (s1)) (hk := ?_)
  refine stA ?_
  with_reducible refine rz ?_
  refine hK _ _ _ ?_
  clear hK K; intro ν
  repeat (first | with_reducible (first | refine aWp_seq ?_ | refine seq_normal ?_ | refine seq_ret ?_ | refine seq_exit ?_ | refine blk_normal ?_ | refine blk_ret ?_ | refine blk_hit ?_ | refine blk_miss rfl ?_ | refine aWp_ret ?_ | refine aWp_skip ?_ | refine aWp_block ?_ | refine aWp_exit ?_ | refine end_ret ?_ | refine end_normal ?_) | ((refine rgA ?_); intro ν) | ((with_reducible apply cndT); exact rfl; (first | rfl | assumption)) | ((with_reducible apply cndF); exact rfl; (first | rfl | assumption)))
  (first | with_reducible refine end_r ?_ | with_reducible refine end_n ?_); refine en2 ?_
  rfl
set_option maxHeartbeats 8000000 in
theorem law_CbcSeals (key iv b : List UInt8) (hiv : iv.length = 16) (hk : key.length ≤ 9223372036854775807) : Spec Try.prog 3 [.sl false key.length (aOfBytes key), .agg (aOfBytes iv), .sl false b.length (aOfBytes b)] (.k (.bool true)) := by
  have s1 := short07_spec b
  have hb : (b.take 200).length ≤ 200 := by simp; omega
  generalize b.take 200 = x at *
  have hka := aOfBytes_len key
  have hia := aOfBytes_len iv
  have hxa := aOfBytes_len x
  have hit : List.take 16 (aOfBytes iv) = aOfBytes iv := List.take_of_length_le (by omega)
  have li := ld_arrT' (n := 16) (e := 5) (aOfBytes iv) (sz := 16) (by omega)
  have main : ∀ (r : List UInt8) (e : Int) (f1 f2 : Bool), Spec Try.prog 12 [.sl false key.length (aOfBytes key), .agg (aOfBytes iv), .sl false x.length (aOfBytes x)] (.k (.tup [.sl f1 r.length (aOfBytes r), .int .i64 e])) →
      Spec Try.prog 14 [.sl false key.length (aOfBytes key), .sl true 16 (aOfBytes iv), .sl false x.length (aOfBytes x)] (.k (.tup [.sl f2 r.length (aOfBytes r), .int .i64 e])) → Spec Try.prog 3 [.sl false key.length (aOfBytes key), .agg (aOfBytes iv), .sl false b.length (aOfBytes b)] (.k (.bool true)) := by
    intro r e f1 f2 s2 s3
    have hra := aOfBytes_len r
    rw [← hit] at s3
    refine spec_of (fun _ => false) (by kernel_rfl) Try.func3 rfl rfl (by simp [Try.ntmps3]) (by decide) ?_
    intro δ
    rw [init3]
    repeat with_reducible (first | refine aWp_seq ?_ | refine seq_normal ?_ | refine seq_ret ?_ | refine seq_exit ?_ | refine blk_normal ?_ | refine blk_ret ?_ | refine blk_hit ?_ | refine blk_miss rfl ?_ | refine aWp_ret ?_ | refine aWp_skip ?_ | refine aWp_block ?_ | refine aWp_exit ?_ | refine end_ret ?_ | refine end_normal ?_)
    refine rg fun K hK => ?_
    refine stA ?_
    refine rzp (t := 4) rfl rfl ?_
    refine hK _ _ _ ?_
    clear hK K; intro ν
    repeat with_reducible (first | refine aWp_seq ?_ | refine seq_normal ?_ | refine seq_ret ?_ | refine seq_exit ?_ | refine blk_normal ?_ | refine blk_ret ?_ | refine blk_hit ?_ | refine blk_miss rfl ?_ | refine aWp_ret ?_ | refine aWp_skip ?_ | refine aWp_block ?_ | refine aWp_exit ?_ | refine end_ret ?_ | refine end_normal ?_)
    refine rgx [] (by kernel_rfl) fun K hK => ?_
    refine stxA ?_
    ((first | ((with_reducible refine x0 ?_ ?_); exact rfl) | ((with_reducible refine x1 ?_ ?_ ?_); exact rfl; (with_reducible apply gt_); exact rfl; exact rfl; (first | rfl | assumption | (simp [*] <;> done)))); refine xcA (h2 := (s1)) (hk := ?_))
    refine stxA ?_
    ((first | ((with_reducible refine x0 ?_ ?_); exact rfl) | ((with_reducible refine x1 ?_ ?_ ?_); exact rfl; (with_reducible apply gt_); exact rfl; exact rfl; (first | rfl | assumption | (simp [*] <;> done)))); refine xcA (h2 := (s2)) (hk := ?_))
    refine stxA ?_
    with_reducible refine xz ?_
    refine hK _ _ _ ?_
    clear hK K; intro ν
    repeat with_reducible (first | refine aWp_seq ?_ | refine seq_normal ?_ | refine seq_ret ?_ | refine seq_exit ?_ | refine blk_normal ?_ | refine blk_ret ?_ | refine blk_hit ?_ | refine blk_miss rfl ?_ | refine aWp_ret ?_ | refine aWp_skip ?_ | refine aWp_block ?_ | refine aWp_exit ?_ | refine end_ret ?_ | refine end_normal ?_)
    refine rgx [] (by kernel_rfl) fun K hK => ?_
    refine stxA ?_
    ((first | ((with_reducible refine x0 ?_ ?_); exact rfl) | ((with_reducible refine x1 ?_ ?_ ?_); exact rfl; (with_reducible apply gt_); exact rfl; exact rfl; (first | rfl | assumption | (simp [*] <;> done)))); refine xcA (h2 := (s1)) (hk := ?_))
    refine stxA ?_
    ((first | ((with_reducible refine x0 ?_ ?_); exact rfl) | ((with_reducible refine x1 ?_ ?_ ?_); exact rfl; (with_reducible apply gt_); exact rfl; exact rfl; (first | rfl | assumption | (simp [*] <;> done)))); refine xcA (h2 := (s3)) (hk := ?_))
    refine stxA ?_
    with_reducible refine xz ?_
    refine hK _ _ _ ?_
    clear hK K; intro ν
    repeat with_reducible (first | refine aWp_seq ?_ | refine seq_normal ?_ | refine seq_ret ?_ | refine seq_exit ?_ | refine blk_normal ?_ | refine blk_ret ?_ | refine blk_hit ?_ | refine blk_miss rfl ?_ | refine aWp_ret ?_ | refine aWp_skip ?_ | refine aWp_block ?_ | refine aWp_exit ?_ | refine end_ret ?_ | refine end_normal ?_)
    refine rg fun K hK => ?_
    refine stA ?_
    (first | with_reducible refine g0 ?_ | ((with_reducible refine g1 ?_ ?_); (with_reducible apply gt_); exact rfl; exact rfl; (first | rfl | assumption | (simp [*] <;> done)))); refine scA (h2 := (awake07_spec)) (hk := ?_)
    refine stA ?_
    with_reducible refine rz ?_
    refine hK _ _ _ ?_
    clear hK K; intro ν
    repeat (first | with_reducible (first | refine aWp_seq ?_ | refine seq_normal ?_ | refine seq_ret ?_ | refine seq_exit ?_ | refine blk_normal ?_ | refine blk_ret ?_ | refine blk_hit ?_ | refine blk_miss rfl ?_ | refine aWp_ret ?_ | refine aWp_skip ?_ | refine aWp_block ?_ | refine aWp_exit ?_ | refine end_ret ?_ | refine end_normal ?_) | ((refine rgA ?_); intro ν) | ((with_reducible apply cndT); exact rfl; (first | rfl | assumption)) | ((with_reducible apply cndF); exact rfl; (first | rfl | assumption)))
    (first | with_reducible refine end_r ?_ | with_reducible refine end_n ?_); refine en1 ?_
    rfl
  by_cases h : aesOk key
  · exact main _ 0 _ _ (seal_spec false false key iv x h hiv (by omega)) (rseal_key h false true false iv x hiv (by omega))
  · exact main [] 1 _ _ (seal_none false false key iv x hiv hk h) (rseal_none h false true false iv x hk)
set_option maxHeartbeats 8000000 in
theorem law_CbcOpens (key iv b : List UInt8) (hiv : iv.length = 16) (hk : key.length ≤ 9223372036854775807) : Spec Try.prog 4 [.sl false key.length (aOfBytes key), .agg (aOfBytes iv), .sl false b.length (aOfBytes b)] (.k (.bool true)) := by
  have s1 := short07_spec b
  have hb : (b.take 200).length ≤ 200 := by simp; omega
  generalize b.take 200 = x at *
  have hka := aOfBytes_len key
  have hia := aOfBytes_len iv
  have hxa := aOfBytes_len x
  have hit : List.take 16 (aOfBytes iv) = aOfBytes iv := List.take_of_length_le (by omega)
  have li := ld_arrT' (n := 16) (e := 5) (aOfBytes iv) (sz := 16) (by omega)
  have main : ∀ (r : List UInt8) (e : Int) (f1 f2 : Bool), Spec Try.prog 16 [.sl false key.length (aOfBytes key), .agg (aOfBytes iv), .sl false x.length (aOfBytes x)] (.k (.tup [.sl f1 r.length (aOfBytes r), .int .i64 e])) →
      Spec Try.prog 17 [.sl false key.length (aOfBytes key), .sl true 16 (aOfBytes iv), .sl false x.length (aOfBytes x)] (.k (.tup [.sl f2 r.length (aOfBytes r), .int .i64 e])) → Spec Try.prog 4 [.sl false key.length (aOfBytes key), .agg (aOfBytes iv), .sl false b.length (aOfBytes b)] (.k (.bool true)) := by
    intro r e f1 f2 s2 s3
    have hra := aOfBytes_len r
    rw [← hit] at s3
    refine spec_of (fun _ => false) (by kernel_rfl) Try.func4 rfl rfl (by simp [Try.ntmps4]) (by decide) ?_
    intro δ
    rw [init3]
    repeat with_reducible (first | refine aWp_seq ?_ | refine seq_normal ?_ | refine seq_ret ?_ | refine seq_exit ?_ | refine blk_normal ?_ | refine blk_ret ?_ | refine blk_hit ?_ | refine blk_miss rfl ?_ | refine aWp_ret ?_ | refine aWp_skip ?_ | refine aWp_block ?_ | refine aWp_exit ?_ | refine end_ret ?_ | refine end_normal ?_)
    refine rg fun K hK => ?_
    refine stA ?_
    refine rzp (t := 4) rfl rfl ?_
    refine hK _ _ _ ?_
    clear hK K; intro ν
    repeat with_reducible (first | refine aWp_seq ?_ | refine seq_normal ?_ | refine seq_ret ?_ | refine seq_exit ?_ | refine blk_normal ?_ | refine blk_ret ?_ | refine blk_hit ?_ | refine blk_miss rfl ?_ | refine aWp_ret ?_ | refine aWp_skip ?_ | refine aWp_block ?_ | refine aWp_exit ?_ | refine end_ret ?_ | refine end_normal ?_)
    refine rgx [] (by kernel_rfl) fun K hK => ?_
    refine stxA ?_
    ((first | ((with_reducible refine x0 ?_ ?_); exact rfl) | ((with_reducible refine x1 ?_ ?_ ?_); exact rfl; (with_reducible apply gt_); exact rfl; exact rfl; (first | rfl | assumption | (simp [*] <;> done)))); refine xcA (h2 := (s1)) (hk := ?_))
    refine stxA ?_
    ((first | ((with_reducible refine x0 ?_ ?_); exact rfl) | ((with_reducible refine x1 ?_ ?_ ?_); exact rfl; (with_reducible apply gt_); exact rfl; exact rfl; (first | rfl | assumption | (simp [*] <;> done)))); refine xcA (h2 := (s2)) (hk := ?_))
    refine stxA ?_
    with_reducible refine xz ?_
    refine hK _ _ _ ?_
    clear hK K; intro ν
    repeat with_reducible (first | refine aWp_seq ?_ | refine seq_normal ?_ | refine seq_ret ?_ | refine seq_exit ?_ | refine blk_normal ?_ | refine blk_ret ?_ | refine blk_hit ?_ | refine blk_miss rfl ?_ | refine aWp_ret ?_ | refine aWp_skip ?_ | refine aWp_block ?_ | refine aWp_exit ?_ | refine end_ret ?_ | refine end_normal ?_)
    refine rgx [] (by kernel_rfl) fun K hK => ?_
    refine stxA ?_
    ((first | ((with_reducible refine x0 ?_ ?_); exact rfl) | ((with_reducible refine x1 ?_ ?_ ?_); exact rfl; (with_reducible apply gt_); exact rfl; exact rfl; (first | rfl | assumption | (simp [*] <;> done)))); refine xcA (h2 := (s1)) (hk := ?_))
    refine stxA ?_
    ((first | ((with_reducible refine x0 ?_ ?_); exact rfl) | ((with_reducible refine x1 ?_ ?_ ?_); exact rfl; (with_reducible apply gt_); exact rfl; exact rfl; (first | rfl | assumption | (simp [*] <;> done)))); refine xcA (h2 := (s3)) (hk := ?_))
    refine stxA ?_
    with_reducible refine xz ?_
    refine hK _ _ _ ?_
    clear hK K; intro ν
    repeat with_reducible (first | refine aWp_seq ?_ | refine seq_normal ?_ | refine seq_ret ?_ | refine seq_exit ?_ | refine blk_normal ?_ | refine blk_ret ?_ | refine blk_hit ?_ | refine blk_miss rfl ?_ | refine aWp_ret ?_ | refine aWp_skip ?_ | refine aWp_block ?_ | refine aWp_exit ?_ | refine end_ret ?_ | refine end_normal ?_)
    refine rg fun K hK => ?_
    refine stA ?_
    (first | with_reducible refine g0 ?_ | ((with_reducible refine g1 ?_ ?_); (with_reducible apply gt_); exact rfl; exact rfl; (first | rfl | assumption | (simp [*] <;> done)))); refine scA (h2 := (awake07_spec)) (hk := ?_)
    refine stA ?_
    with_reducible refine rz ?_
    refine hK _ _ _ ?_
    clear hK K; intro ν
    repeat (first | with_reducible (first | refine aWp_seq ?_ | refine seq_normal ?_ | refine seq_ret ?_ | refine seq_exit ?_ | refine blk_normal ?_ | refine blk_ret ?_ | refine blk_hit ?_ | refine blk_miss rfl ?_ | refine aWp_ret ?_ | refine aWp_skip ?_ | refine aWp_block ?_ | refine aWp_exit ?_ | refine end_ret ?_ | refine end_normal ?_) | ((refine rgA ?_); intro ν) | ((with_reducible apply cndT); exact rfl; (first | rfl | assumption)) | ((with_reducible apply cndF); exact rfl; (first | rfl | assumption)))
    (first | with_reducible refine end_r ?_ | with_reducible refine end_n ?_); refine en1 ?_
    rfl
  by_cases h : aesOk key
  · have s2 := open_spec false false key iv x h hiv (by omega)
    have s3 := ropen_key h false true false iv x hiv (by omega)
    cases hop : openB (cbcD key) iv x with
    | none =>
      rw [hop] at s2 s3
      exact main [] 12 _ _ s2 s3
    | some z =>
      rw [hop] at s2 s3
      exact main z 0 _ _ s2 s3
  · exact main [] 1 _ _ (open_none false false key iv x hiv hk h) (ropen_none h false true false iv x hk)
end Go.Proofs.Ytmbnclpgldglnaa
