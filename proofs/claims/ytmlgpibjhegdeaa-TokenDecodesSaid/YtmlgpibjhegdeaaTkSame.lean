import Derived.Test.YtmlgpibjhegdeaaTkMod
namespace Go.Proofs.Ytmlgpibjhegdeaa
open Go.RowKit
set_option linter.unusedVariables false
set_option linter.unusedSimpArgs false
set_option maxRecDepth 20000
def TkV.key (t : TkV) : List UInt8 × Int × Int := (t.lit, t.len, t.dist)
def sameB (xs ys : List TkV) : Bool := decide (xs.map TkV.key = ys.map TkV.key)
theorem tok_at {ts : List TkV} {i : Nat} {t : TkV} (h : ts[i]? = some t) : ∃ r, List.drop (i * 3) (tkCells ts) = .sl t.full t.lit.length (aOfBytes t.lit) :: .int .i64 t.len :: .int .i64 t.dist :: r := ⟨_, tkCells_drop ts i t h⟩
set_option maxHeartbeats 4000000 in
theorem same_spec (f1 f2 : Bool) (xs ys : List TkV) (hb : xs.length ≤ 65536) : Spec Try.prog 35 [.sl f1 xs.length (tkCells xs), .sl f2 ys.length (tkCells ys)] (.k (.bool (sameB xs ys))) := by
  refine spec_of (fun _ => false) (by kernel_rfl) Try.func35 rfl rfl (by simp [Try.ntmps35]) (by decide) ?_
  intro δ
  rw [init2]
  have hla := tkCells_len xs
  have hlb := tkCells_len ys
  by_cases hl : xs.length = ys.length
  · repeat (first | with_reducible (first | refine aWp_seq ?_ | refine seq_normal ?_ | refine seq_ret ?_ | refine seq_exit ?_ | refine blk_normal ?_ | refine blk_ret ?_ | refine blk_hit ?_ | refine blk_miss rfl ?_ | refine aWp_ret ?_ | refine aWp_skip ?_ | refine aWp_block ?_ | refine aWp_exit ?_ | refine end_ret ?_ | refine end_normal ?_) | ((refine rgA ?_); intro ν) | ((with_reducible apply cndT); exact rfl; (first | rfl | assumption)) | ((with_reducible apply cndF); exact rfl; (first | rfl | assumption)))
    refine aWp_loop (fun m s => ∃ F T ν i, m = xs.length - i ∧ i ≤ xs.length ∧ (xs.take i).map TkV.key = (ys.take i).map TkV.key ∧ s = ⟨F, T, ν, ⟨fun _ => false, δ, false⟩⟩ ∧
      F 0 = .k (.sl f1 xs.length (tkCells xs)) ∧ F 1 = .k (.sl f2 ys.length (tkCells ys)) ∧ F 5 = .k (.int .i64 (i : Nat))) xs.length ⟨_, _, _, 0, rfl, Nat.zero_le _, rfl, rfl, rfl, rfl, rfl⟩ ?_
    rintro m s ⟨F, T, ν, i, rfl, hi, hk, rfl, h0, h1, h5⟩
    rw [has3 h0 h1 h5]
    repeat with_reducible (first | refine aWp_seq ?_ | refine seq_normal ?_ | refine seq_ret ?_ | refine seq_exit ?_ | refine blk_normal ?_ | refine blk_ret ?_ | refine blk_hit ?_ | refine blk_miss rfl ?_ | refine aWp_ret ?_ | refine aWp_skip ?_ | refine aWp_block ?_ | refine aWp_exit ?_ | refine end_ret ?_ | refine end_normal ?_)
    by_cases hlt : i < xs.length
    · obtain ⟨t, ht⟩ : ∃ t, xs[i]? = some t := ⟨xs[i], by simp [hlt]⟩
      obtain ⟨u, hu⟩ : ∃ u, ys[i]? = some u := ⟨ys[i]'(by omega), by simp⟩
      obtain ⟨r1, e1⟩ := tok_at ht
      obtain ⟨r2, e2⟩ := tok_at hu
      have ha1 : ldAgg (.sl 5) 1 (List.drop (i * 3) (tkCells xs)) = some (.sl t.full t.lit.length (aOfBytes t.lit)) := by rw [e1]; rfl
      have ha2 : ldAgg (.int .i64) 1 (List.drop 1 (List.drop (i * 3) (tkCells xs))) = some (.int .i64 t.len) := by rw [e1]; rfl
      have ha3 : ldAgg (.int .i64) 1 (List.drop 2 (List.drop (i * 3) (tkCells xs))) = some (.int .i64 t.dist) := by rw [e1]; rfl
      have hb1 : ldAgg (.sl 5) 1 (List.drop (i * 3) (tkCells ys)) = some (.sl u.full u.lit.length (aOfBytes u.lit)) := by rw [e2]; rfl
      have hb2 : ldAgg (.int .i64) 1 (List.drop 1 (List.drop (i * 3) (tkCells ys))) = some (.int .i64 u.len) := by rw [e2]; rfl
      have hb3 : ldAgg (.int .i64) 1 (List.drop 2 (List.drop (i * 3) (tkCells ys))) = some (.int .i64 u.dist) := by rw [e2]; rfl
      have hl1 := aOfBytes_len t.lit
      have hl2 := aOfBytes_len u.lit
      have ta : xs.take (i + 1) = xs.take i ++ [t] := take_succ' ht
      have tb : ys.take (i + 1) = ys.take i ++ [u] := take_succ' hu
      have bad : t.key ≠ u.key → sameB xs ys = false := fun hne => decide_eq_false (fun hc => hne (by
        have q := congrArg (fun q : List (List UInt8 × Int × Int) => q[i]?) hc
        simp only [List.getElem?_map, ht, hu, Option.map_some, Option.some.injEq] at q
        exact q))
      repeat (first | with_reducible (first | refine aWp_seq ?_ | refine seq_normal ?_ | refine seq_ret ?_ | refine seq_exit ?_ | refine blk_normal ?_ | refine blk_ret ?_ | refine blk_hit ?_ | refine blk_miss rfl ?_ | refine aWp_ret ?_ | refine aWp_skip ?_ | refine aWp_block ?_ | refine aWp_exit ?_ | refine end_ret ?_ | refine end_normal ?_) | ((refine rgA ?_); intro ν) | ((with_reducible apply cndT); exact rfl; (first | rfl | assumption)) | ((with_reducible apply cndF); exact rfl; (first | rfl | assumption)))
      by_cases q1 : t.lit = u.lit
      · by_cases q2 : t.len = u.len
        · by_cases q3 : t.dist = u.dist
          · refine rgxA [] ?_
            intro ν
            repeat (first | with_reducible (first | refine aWp_seq ?_ | refine seq_normal ?_ | refine seq_ret ?_ | refine seq_exit ?_ | refine blk_normal ?_ | refine blk_ret ?_ | refine blk_hit ?_ | refine blk_miss rfl ?_ | refine aWp_ret ?_ | refine aWp_skip ?_ | refine aWp_block ?_ | refine aWp_exit ?_ | refine end_ret ?_ | refine end_normal ?_) | ((refine rgA ?_); intro ν) | ((with_reducible apply cndT); exact rfl; (first | rfl | assumption)) | ((with_reducible apply cndF); exact rfl; (first | rfl | assumption)))
            refine ⟨xs.length - (i + 1), by omega, _, _, _, i + 1, rfl, by omega, ?_, rfl, rfl, rfl, rfl⟩
            rw [ta, tb, List.map_append, List.map_append, hk]
            simp [TkV.key, q1, q2, q3]
          · refine rgxA [] ?_
            intro ν
            repeat (first | with_reducible (first | refine aWp_seq ?_ | refine seq_normal ?_ | refine seq_ret ?_ | refine seq_exit ?_ | refine blk_normal ?_ | refine blk_ret ?_ | refine blk_hit ?_ | refine blk_miss rfl ?_ | refine aWp_ret ?_ | refine aWp_skip ?_ | refine aWp_block ?_ | refine aWp_exit ?_ | refine end_ret ?_ | refine end_normal ?_) | ((refine rgA ?_); intro ν) | ((with_reducible apply cndT); exact rfl; (first | rfl | assumption)) | ((with_reducible apply cndF); exact rfl; (first | rfl | assumption)))
            (first | with_reducible refine end_r ?_ | with_reducible refine end_n ?_); refine en1 ?_
            exact congrArg AV.bool <| bad (fun hc => q3 (by simp [TkV.key] at hc; exact hc.2.2))
        · refine rgxA [] ?_
          intro ν
          repeat (first | with_reducible (first | refine aWp_seq ?_ | refine seq_normal ?_ | refine seq_ret ?_ | refine seq_exit ?_ | refine blk_normal ?_ | refine blk_ret ?_ | refine blk_hit ?_ | refine blk_miss rfl ?_ | refine aWp_ret ?_ | refine aWp_skip ?_ | refine aWp_block ?_ | refine aWp_exit ?_ | refine end_ret ?_ | refine end_normal ?_) | ((refine rgA ?_); intro ν) | ((with_reducible apply cndT); exact rfl; (first | rfl | assumption)) | ((with_reducible apply cndF); exact rfl; (first | rfl | assumption)))
          (first | with_reducible refine end_r ?_ | with_reducible refine end_n ?_); refine en1 ?_
          exact congrArg AV.bool <| bad (fun hc => q2 (by simp [TkV.key] at hc; exact hc.2.1))
      · refine rgxA [] ?_
        intro ν
        repeat (first | with_reducible (first | refine aWp_seq ?_ | refine seq_normal ?_ | refine seq_ret ?_ | refine seq_exit ?_ | refine blk_normal ?_ | refine blk_ret ?_ | refine blk_hit ?_ | refine blk_miss rfl ?_ | refine aWp_ret ?_ | refine aWp_skip ?_ | refine aWp_block ?_ | refine aWp_exit ?_ | refine end_ret ?_ | refine end_normal ?_) | ((refine rgA ?_); intro ν) | ((with_reducible apply cndT); exact rfl; (first | rfl | assumption)) | ((with_reducible apply cndF); exact rfl; (first | rfl | assumption)))
        (first | with_reducible refine end_r ?_ | with_reducible refine end_n ?_); refine en1 ?_
        exact congrArg AV.bool <| bad (fun hc => q1 (by simp [TkV.key] at hc; exact hc.1))
    · have hie : i = xs.length := by omega
      subst hie
      rw [List.take_length, List.take_of_length_le (by omega)] at hk
      repeat (first | with_reducible (first | refine aWp_seq ?_ | refine seq_normal ?_ | refine seq_ret ?_ | refine seq_exit ?_ | refine blk_normal ?_ | refine blk_ret ?_ | refine blk_hit ?_ | refine blk_miss rfl ?_ | refine aWp_ret ?_ | refine aWp_skip ?_ | refine aWp_block ?_ | refine aWp_exit ?_ | refine end_ret ?_ | refine end_normal ?_) | ((refine rgA ?_); intro ν) | ((with_reducible apply cndT); exact rfl; (first | rfl | assumption)) | ((with_reducible apply cndF); exact rfl; (first | rfl | assumption)))
      (first | with_reducible refine end_r ?_ | with_reducible refine end_n ?_); refine en1 ?_
      exact congrArg AV.bool (decide_eq_true hk)
  · repeat (first | with_reducible (first | refine aWp_seq ?_ | refine seq_normal ?_ | refine seq_ret ?_ | refine seq_exit ?_ | refine blk_normal ?_ | refine blk_ret ?_ | refine blk_hit ?_ | refine blk_miss rfl ?_ | refine aWp_ret ?_ | refine aWp_skip ?_ | refine aWp_block ?_ | refine aWp_exit ?_ | refine end_ret ?_ | refine end_normal ?_) | ((refine rgA ?_); intro ν) | ((with_reducible apply cndT); exact rfl; (first | rfl | assumption)) | ((with_reducible apply cndF); exact rfl; (first | rfl | assumption)))
    (first | with_reducible refine end_r ?_ | with_reducible refine end_n ?_); refine en1 ?_
    exact congrArg AV.bool (decide_eq_false (fun hc => hl (by have := congrArg List.length hc; simpa using this)))
end Go.Proofs.Ytmlgpibjhegdeaa
