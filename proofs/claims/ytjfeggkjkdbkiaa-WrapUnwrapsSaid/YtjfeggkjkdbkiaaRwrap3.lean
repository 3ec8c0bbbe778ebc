import Derived.Test.YtjfeggkjkdbkiaaRwrap1
import Derived.Test.YtjfeggkjkdbkiaaRefA7
import Derived.Test.YtjfeggkjkdbkiaaWrap5
namespace Go.Proofs.Ytjfeggkjkdbkiaa
open Go.RowKit
set_option linter.unusedVariables false
set_option linter.unusedSimpArgs false
set_option maxRecDepth 20000
/-! the document's refusals -/
theorem rKey_cp8 (key : List UInt8) : ∃ cs, rKey key = .cp cs := ⟨_, rfl⟩
set_option maxHeartbeats 8000000 in
theorem rwrap_bad (fk fb : Bool) (key b : List UInt8) (hk : key.length ≤ 9223372036854775807) (hb : b.length ≤ 300) (h : ¬ aesOk key ∨ partsN b.length 0 = 0) : Spec Try.prog 24 [.sl fk key.length (aOfBytes key), .sl fb b.length (aOfBytes b)] (.k (.tup [.sl true 0 [], .int .i64 1])) := by
  obtain ⟨n, hn⟩ : ∃ n : Int, n = (b.length : Int) / 8 := ⟨_, rfl⟩
  have hba := aOfBytes_len b
  have hnl : 0 ≤ n ∧ n ≤ 100 := by omega
  have walk : ∀ (v : AV) (o : Bool), (o = true → ¬ ((b.length : Int) = 8 * n) ∨ n < 2 ∨ 32 < n) → Spec Try.prog 50 [.sl fk key.length (aOfBytes key)] (.k (.tup [v, .bool o])) → Spec Try.prog 24 [.sl fk key.length (aOfBytes key), .sl fb b.length (aOfBytes b)] (.k (.tup [.sl true 0 [], .int .i64 1])) := by
    intro v o ho s1
    refine spec_of (fun t => t == 41 || t == 42 || t == 44 || t == 66) (by kernel_rfl) Try.func24 rfl rfl (by simp [Try.ntmps24]) (by decide) ?_
    intro δ
    rw [init2]
    cases o
    · repeat (first | with_reducible (first | refine aWp_seq ?_ | refine seq_normal ?_ | refine seq_ret ?_ | refine seq_exit ?_ | refine blk_normal ?_ | refine blk_ret ?_ | refine blk_hit ?_ | refine blk_miss rfl ?_ | refine aWp_ret ?_ | refine aWp_skip ?_ | refine aWp_block ?_ | refine aWp_exit ?_ | refine end_ret ?_ | refine end_normal ?_) | ((refine rgA ?_); intro ν) | ((with_reducible apply cndT); exact rfl; (first | rfl | assumption)) | ((with_reducible apply cndF); exact rfl; (first | rfl | assumption)))
      refine rg fun K hK => ?_
      refine stA ?_
      (first | with_reducible refine g0 ?_ | ((with_reducible refine g1 ?_ ?_); (with_reducible apply gt_); exact rfl; exact rfl; (first | rfl | assumption | (simp [*] <;> done)))); refine scA (h2 := (s1)) (hk := ?_)
      refine stA ?_
      with_reducible refine rz ?_
      refine hK _ _ _ ?_
      clear hK K; intro ν
      repeat with_reducible (first | refine aWp_seq ?_ | refine seq_normal ?_ | refine seq_ret ?_ | refine seq_exit ?_ | refine blk_normal ?_ | refine blk_ret ?_ | refine blk_hit ?_ | refine blk_miss rfl ?_ | refine aWp_ret ?_ | refine aWp_skip ?_ | refine aWp_block ?_ | refine aWp_exit ?_ | refine end_ret ?_ | refine end_normal ?_)
      refine rgA ?_
      intro ν
      rw [← hn]
      repeat (first | with_reducible (first | refine aWp_seq ?_ | refine seq_normal ?_ | refine seq_ret ?_ | refine seq_exit ?_ | refine blk_normal ?_ | refine blk_ret ?_ | refine blk_hit ?_ | refine blk_miss rfl ?_ | refine aWp_ret ?_ | refine aWp_skip ?_ | refine aWp_block ?_ | refine aWp_exit ?_ | refine end_ret ?_ | refine end_normal ?_) | ((refine rgA ?_); intro ν) | ((with_reducible apply cndT); exact rfl; (first | rfl | assumption)) | ((with_reducible apply cndF); exact rfl; (first | rfl | assumption)))
      (first | with_reducible refine end_r ?_ | with_reducible refine end_n ?_); refine en2 ?_
      rfl
    · rcases ho rfl with h1 | h1
      · repeat (first | with_reducible (first | refine aWp_seq ?_ | refine seq_normal ?_ | refine seq_ret ?_ | refine seq_exit ?_ | refine blk_normal ?_ | refine blk_ret ?_ | refine blk_hit ?_ | refine blk_miss rfl ?_ | refine aWp_ret ?_ | refine aWp_skip ?_ | refine aWp_block ?_ | refine aWp_exit ?_ | refine end_ret ?_ | refine end_normal ?_) | ((refine rgA ?_); intro ν) | ((with_reducible apply cndT); exact rfl; (first | rfl | assumption)) | ((with_reducible apply cndF); exact rfl; (first | rfl | assumption)))
        refine rg fun K hK => ?_
        refine stA ?_
        (first | with_reducible refine g0 ?_ | ((with_reducible refine g1 ?_ ?_); (with_reducible apply gt_); exact rfl; exact rfl; (first | rfl | assumption | (simp [*] <;> done)))); refine scA (h2 := (s1)) (hk := ?_)
        refine stA ?_
        with_reducible refine rz ?_
        refine hK _ _ _ ?_
        clear hK K; intro ν
        repeat with_reducible (first | refine aWp_seq ?_ | refine seq_normal ?_ | refine seq_ret ?_ | refine seq_exit ?_ | refine blk_normal ?_ | refine blk_ret ?_ | refine blk_hit ?_ | refine blk_miss rfl ?_ | refine aWp_ret ?_ | refine aWp_skip ?_ | refine aWp_block ?_ | refine aWp_exit ?_ | refine end_ret ?_ | refine end_normal ?_)
        refine rgA ?_
        intro ν
        rw [← hn]
        repeat (first | with_reducible (first | refine aWp_seq ?_ | refine seq_normal ?_ | refine seq_ret ?_ | refine seq_exit ?_ | refine blk_normal ?_ | refine blk_ret ?_ | refine blk_hit ?_ | refine blk_miss rfl ?_ | refine aWp_ret ?_ | refine aWp_skip ?_ | refine aWp_block ?_ | refine aWp_exit ?_ | refine end_ret ?_ | refine end_normal ?_) | ((refine rgA ?_); intro ν) | ((with_reducible apply cndT); exact rfl; (first | rfl | assumption)) | ((with_reducible apply cndF); exact rfl; (first | rfl | assumption)))
        (first | with_reducible refine end_r ?_ | with_reducible refine end_n ?_); refine en2 ?_
        rfl
      · by_cases h2 : (b.length : Int) = 8 * n
        · rcases h1 with h1 | h1
          · repeat (first | with_reducible (first | refine aWp_seq ?_ | refine seq_normal ?_ | refine seq_ret ?_ | refine seq_exit ?_ | refine blk_normal ?_ | refine blk_ret ?_ | refine blk_hit ?_ | refine blk_miss rfl ?_ | refine aWp_ret ?_ | refine aWp_skip ?_ | refine aWp_block ?_ | refine aWp_exit ?_ | refine end_ret ?_ | refine end_normal ?_) | ((refine rgA ?_); intro ν) | ((with_reducible apply cndT); exact rfl; (first | rfl | assumption)) | ((with_reducible apply cndF); exact rfl; (first | rfl | assumption)))
            refine rg fun K hK => ?_
            refine stA ?_
            (first | with_reducible refine g0 ?_ | ((with_reducible refine g1 ?_ ?_); (with_reducible apply gt_); exact rfl; exact rfl; (first | rfl | assumption | (simp [*] <;> done)))); refine scA (h2 := (s1)) (hk := ?_)
            refine stA ?_
            with_reducible refine rz ?_
            refine hK _ _ _ ?_
            clear hK K; intro ν
            repeat with_reducible (first | refine aWp_seq ?_ | refine seq_normal ?_ | refine seq_ret ?_ | refine seq_exit ?_ | refine blk_normal ?_ | refine blk_ret ?_ | refine blk_hit ?_ | refine blk_miss rfl ?_ | refine aWp_ret ?_ | refine aWp_skip ?_ | refine aWp_block ?_ | refine aWp_exit ?_ | refine end_ret ?_ | refine end_normal ?_)
            refine rgA ?_
            intro ν
            rw [← hn]
            repeat (first | with_reducible (first | refine aWp_seq ?_ | refine seq_normal ?_ | refine seq_ret ?_ | refine seq_exit ?_ | refine blk_normal ?_ | refine blk_ret ?_ | refine blk_hit ?_ | refine blk_miss rfl ?_ | refine aWp_ret ?_ | refine aWp_skip ?_ | refine aWp_block ?_ | refine aWp_exit ?_ | refine end_ret ?_ | refine end_normal ?_) | ((refine rgA ?_); intro ν) | ((with_reducible apply cndT); exact rfl; (first | rfl | assumption)) | ((with_reducible apply cndF); exact rfl; (first | rfl | assumption)))
            (first | with_reducible refine end_r ?_ | with_reducible refine end_n ?_); refine en2 ?_
            rfl
          · have h3 : ¬ n < 2 := by omega
            repeat (first | with_reducible (first | refine aWp_seq ?_ | refine seq_normal ?_ | refine seq_ret ?_ | refine seq_exit ?_ | refine blk_normal ?_ | refine blk_ret ?_ | refine blk_hit ?_ | refine blk_miss rfl ?_ | refine aWp_ret ?_ | refine aWp_skip ?_ | refine aWp_block ?_ | refine aWp_exit ?_ | refine end_ret ?_ | refine end_normal ?_) | ((refine rgA ?_); intro ν) | ((with_reducible apply cndT); exact rfl; (first | rfl | assumption)) | ((with_reducible apply cndF); exact rfl; (first | rfl | assumption)))
            refine rg fun K hK => ?_
            refine stA ?_
            (first | with_reducible refine g0 ?_ | ((with_reducible refine g1 ?_ ?_); (with_reducible apply gt_); exact rfl; exact rfl; (first | rfl | assumption | (simp [*] <;> done)))); refine scA (h2 := (s1)) (hk := ?_)
            refine stA ?_
            with_reducible refine rz ?_
            refine hK _ _ _ ?_
            clear hK K; intro ν
            repeat with_reducible (first | refine aWp_seq ?_ | refine seq_normal ?_ | refine seq_ret ?_ | refine seq_exit ?_ | refine blk_normal ?_ | refine blk_ret ?_ | refine blk_hit ?_ | refine blk_miss rfl ?_ | refine aWp_ret ?_ | refine aWp_skip ?_ | refine aWp_block ?_ | refine aWp_exit ?_ | refine end_ret ?_ | refine end_normal ?_)
            refine rgA ?_
            intro ν
            rw [← hn]
            repeat (first | with_reducible (first | refine aWp_seq ?_ | refine seq_normal ?_ | refine seq_ret ?_ | refine seq_exit ?_ | refine blk_normal ?_ | refine blk_ret ?_ | refine blk_hit ?_ | refine blk_miss rfl ?_ | refine aWp_ret ?_ | refine aWp_skip ?_ | refine aWp_block ?_ | refine aWp_exit ?_ | refine end_ret ?_ | refine end_normal ?_) | ((refine rgA ?_); intro ν) | ((with_reducible apply cndT); exact rfl; (first | rfl | assumption)) | ((with_reducible apply cndF); exact rfl; (first | rfl | assumption)))
            (first | with_reducible refine end_r ?_ | with_reducible refine end_n ?_); refine en2 ?_
            rfl
        · repeat (first | with_reducible (first | refine aWp_seq ?_ | refine seq_normal ?_ | refine seq_ret ?_ | refine seq_exit ?_ | refine blk_normal ?_ | refine blk_ret ?_ | refine blk_hit ?_ | refine blk_miss rfl ?_ | refine aWp_ret ?_ | refine aWp_skip ?_ | refine aWp_block ?_ | refine aWp_exit ?_ | refine end_ret ?_ | refine end_normal ?_) | ((refine rgA ?_); intro ν) | ((with_reducible apply cndT); exact rfl; (first | rfl | assumption)) | ((with_reducible apply cndF); exact rfl; (first | rfl | assumption)))
          refine rg fun K hK => ?_
          refine stA ?_
          (first | with_reducible refine g0 ?_ | ((with_reducible refine g1 ?_ ?_); (with_reducible apply gt_); exact rfl; exact rfl; (first | rfl | assumption | (simp [*] <;> done)))); refine scA (h2 := (s1)) (hk := ?_)
          refine stA ?_
          with_reducible refine rz ?_
          refine hK _ _ _ ?_
          clear hK K; intro ν
          repeat with_reducible (first | refine aWp_seq ?_ | refine seq_normal ?_ | refine seq_ret ?_ | refine seq_exit ?_ | refine blk_normal ?_ | refine blk_ret ?_ | refine blk_hit ?_ | refine blk_miss rfl ?_ | refine aWp_ret ?_ | refine aWp_skip ?_ | refine aWp_block ?_ | refine aWp_exit ?_ | refine end_ret ?_ | refine end_normal ?_)
          refine rgA ?_
          intro ν
          rw [← hn]
          repeat (first | with_reducible (first | refine aWp_seq ?_ | refine seq_normal ?_ | refine seq_ret ?_ | refine seq_exit ?_ | refine blk_normal ?_ | refine blk_ret ?_ | refine blk_hit ?_ | refine blk_miss rfl ?_ | refine aWp_ret ?_ | refine aWp_skip ?_ | refine aWp_block ?_ | refine aWp_exit ?_ | refine end_ret ?_ | refine end_normal ?_) | ((refine rgA ?_); intro ν) | ((with_reducible apply cndT); exact rfl; (first | rfl | assumption)) | ((with_reducible apply cndF); exact rfl; (first | rfl | assumption)))
          (first | with_reducible refine end_r ?_ | with_reducible refine end_n ?_); refine en2 ?_
          rfl
  by_cases q : aesOk key
  · refine walk _ true (fun _ => ?_) (rnewK key fk q)
    have hp : partsN b.length 0 = 0 := by rcases h with h | h; exact absurd q h; exact h
    unfold partsN at hp
    split at hp
    · omega
    · omega
  · exact walk _ false (by simp) (rnew_none key fk q hk)
theorem rwrap_ok (fk fb : Bool) (key b : List UInt8) (h : aesOk key) (hp : partsN b.length 0 ≠ 0) : Spec Try.prog 24 [.sl fk key.length (aOfBytes key), .sl fb b.length (aOfBytes b)] (.k (.tup [.sl false (wrapB (wE key) b).length (aOfBytes (wrapB (wE key) b)), .int .i64 0])) := by
  have s1 := rnewK key fk h
  have s2 := fun f x hx => renc_keyN h f x hx
  obtain ⟨cs, e⟩ := rKey_cp8 key
  rw [e] at s1 s2
  exact rwrap_walk fk fb key b cs (wE key) (wE_len key) hp s1 s2
set_option maxHeartbeats 8000000 in
theorem law_WrapWraps (key b : List UInt8) (hk : key.length ≤ 9223372036854775807) : Spec Try.prog 8 [.sl false key.length (aOfBytes key), .sl false b.length (aOfBytes b)] (.k (.bool true)) := by
  have s1 := short08_spec b
  have hb : (b.take 300).length ≤ 300 := by rw [List.length_take]; omega
  generalize b.take 300 = x at *
  have hka := aOfBytes_len key
  have hxa := aOfBytes_len x
  have main : ∀ (r : List UInt8) (e : Int) (f1 f2 : Bool), Spec Try.prog 22 [.sl false key.length (aOfBytes key), .sl false x.length (aOfBytes x)] (.k (.tup [.sl f1 r.length (aOfBytes r), .int .i64 e])) →
      Spec Try.prog 24 [.sl false key.length (aOfBytes key), .sl false x.length (aOfBytes x)] (.k (.tup [.sl f2 r.length (aOfBytes r), .int .i64 e])) → Spec Try.prog 8 [.sl false key.length (aOfBytes key), .sl false b.length (aOfBytes b)] (.k (.bool true)) := by
    intro r e f1 f2 s2 s3
    have hra := aOfBytes_len r
    refine spec_of (fun _ => false) (by kernel_rfl) Try.func8 rfl rfl (by simp [Try.ntmps8]) (by decide) ?_
    intro δ
    rw [init2]
    repeat (first | with_reducible (first | refine aWp_seq ?_ | refine seq_normal ?_ | refine seq_ret ?_ | refine seq_exit ?_ | refine blk_normal ?_ | refine blk_ret ?_ | refine blk_hit ?_ | refine blk_miss rfl ?_ | refine aWp_ret ?_ | refine aWp_skip ?_ | refine aWp_block ?_ | refine aWp_exit ?_ | refine end_ret ?_ | refine end_normal ?_) | ((refine rgA ?_); intro ν) | ((with_reducible apply cndT); exact rfl; (first | rfl | assumption)) | ((with_reducible apply cndF); exact rfl; (first | rfl | assumption)))
    refine rg fun K hK => ?_
    refine stA ?_
    (first | with_reducible refine g0 ?_ | ((with_reducible refine g1 ?_ ?_); (with_reducible apply gt_); exact rfl; exact rfl; (first | rfl | assumption | (simp [*] <;> done)))); refine scA (h2 := (s1)) (hk := ?_)
    refine stA ?_
    (first | with_reducible refine g0 ?_ | ((with_reducible refine g1 ?_ ?_); (with_reducible apply gt_); exact rfl; exact rfl; (first | rfl | assumption | (simp [*] <;> done)))); refine scA (h2 := (s2)) (hk := ?_)
    refine stA ?_
    with_reducible refine rz ?_
    refine hK _ _ _ ?_
    clear hK K; intro ν
    repeat (first | with_reducible (first | refine aWp_seq ?_ | refine seq_normal ?_ | refine seq_ret ?_ | refine seq_exit ?_ | refine blk_normal ?_ | refine blk_ret ?_ | refine blk_hit ?_ | refine blk_miss rfl ?_ | refine aWp_ret ?_ | refine aWp_skip ?_ | refine aWp_block ?_ | refine aWp_exit ?_ | refine end_ret ?_ | refine end_normal ?_) | ((refine rgA ?_); intro ν) | ((with_reducible apply cndT); exact rfl; (first | rfl | assumption)) | ((with_reducible apply cndF); exact rfl; (first | rfl | assumption)))
    refine rg fun K hK => ?_
    refine stA ?_
    (first | with_reducible refine g0 ?_ | ((with_reducible refine g1 ?_ ?_); (with_reducible apply gt_); exact rfl; exact rfl; (first | rfl | assumption | (simp [*] <;> done)))); refine scA (h2 := (s1)) (hk := ?_)
    refine stA ?_
    (first | with_reducible refine g0 ?_ | ((with_reducible refine g1 ?_ ?_); (with_reducible apply gt_); exact rfl; exact rfl; (first | rfl | assumption | (simp [*] <;> done)))); refine scA (h2 := (s3)) (hk := ?_)
    refine stA ?_
    with_reducible refine rz ?_
    refine hK _ _ _ ?_
    clear hK K; intro ν
    repeat (first | with_reducible (first | refine aWp_seq ?_ | refine seq_normal ?_ | refine seq_ret ?_ | refine seq_exit ?_ | refine blk_normal ?_ | refine blk_ret ?_ | refine blk_hit ?_ | refine blk_miss rfl ?_ | refine aWp_ret ?_ | refine aWp_skip ?_ | refine aWp_block ?_ | refine aWp_exit ?_ | refine end_ret ?_ | refine end_normal ?_) | ((refine rgA ?_); intro ν) | ((with_reducible apply cndT); exact rfl; (first | rfl | assumption)) | ((with_reducible apply cndF); exact rfl; (first | rfl | assumption)))
    refine rg fun K hK => ?_
    refine stA ?_
    (first | with_reducible refine g0 ?_ | ((with_reducible refine g1 ?_ ?_); (with_reducible apply gt_); exact rfl; exact rfl; (first | rfl | assumption | (simp [*] <;> done)))); refine scA (h2 := (awake08_spec)) (hk := ?_)
    refine stA ?_
    with_reducible refine rz ?_
    refine hK _ _ _ ?_
    clear hK K; intro ν
    repeat (first | with_reducible (first | refine aWp_seq ?_ | refine seq_normal ?_ | refine seq_ret ?_ | refine seq_exit ?_ | refine blk_normal ?_ | refine blk_ret ?_ | refine blk_hit ?_ | refine blk_miss rfl ?_ | refine aWp_ret ?_ | refine aWp_skip ?_ | refine aWp_block ?_ | refine aWp_exit ?_ | refine end_ret ?_ | refine end_normal ?_) | ((refine rgA ?_); intro ν) | ((with_reducible apply cndT); exact rfl; (first | rfl | assumption)) | ((with_reducible apply cndF); exact rfl; (first | rfl | assumption)))
    (first | with_reducible refine end_r ?_ | with_reducible refine end_n ?_); refine en1 ?_
    rfl
  by_cases h : aesOk key ∧ partsN x.length 0 ≠ 0
  · exact main _ 0 _ _ (wrap_ok false false key x h.1 h.2) (rwrap_ok false false key x h.1 h.2)
  · have h' : ¬ aesOk key ∨ partsN x.length 0 = 0 := by
      by_cases q : aesOk key
      · exact .inr (Classical.byContradiction fun w => h ⟨q, w⟩)
      · exact .inl q
    exact main [] 1 _ _ (wrap_bad false false key x hk (by omega) h') (rwrap_bad false false key x hk hb h')
end Go.Proofs.Ytjfeggkjkdbkiaa
