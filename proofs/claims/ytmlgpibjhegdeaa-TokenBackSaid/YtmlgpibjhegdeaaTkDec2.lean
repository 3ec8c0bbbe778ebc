import Derived.Test.YtmlgpibjhegdeaaTkDec
namespace Go.Proofs.Ytmlgpibjhegdeaa
open Go.RowKit
set_option linter.unusedVariables false
set_option linter.unusedSimpArgs false
set_option maxRecDepth 20000
theorem tokOne_shape (l : List UInt8) : ∃ f m cs a b, (tokOne l).1 = [.sl f m cs, .int .i64 a, .int .i64 b] ∧ cs.length = m ∧ m ≤ 129 ∧ 0 ≤ (tokOne l).2 ∧ (tokOne l).2 ≤ l.length := by
  unfold tokOne
  split
  · exact ⟨true, 0, [], 0, 0, rfl, rfl, by omega, by simp, by simp⟩
  · rename_i b0 l
    split
    · split
      · refine ⟨_, _, _, _, _, rfl, ?_, ?_, ?_, ?_⟩
        · rw [aOfBytes_len, List.length_take]; omega
        · omega
        · simp only; omega
        · simp only [List.length_cons]; omega
      · exact ⟨true, 0, [], 0, 0, rfl, rfl, by omega, by simp, by simp only [List.length_cons]; omega⟩
    · split
      · split
        · refine ⟨_, _, _, _, _, rfl, rfl, by omega, ?_, ?_⟩
          · simp
          · simp only [List.length_cons]; omega
        · exact ⟨true, 0, [], 0, 0, rfl, rfl, by omega, by simp, by simp only [List.length_cons]; omega⟩
      · exact ⟨true, 0, [], 0, 0, rfl, rfl, by omega, by simp, by simp only [List.length_cons]; omega⟩
def clipTok : List AV → List AV
  | .sl _ n cs :: r => .sl true n cs :: r
  | x => x
def decF : Nat → List UInt8 → Option (List (List AV))
  | 0, _ => some []
  | f + 1, l => if l = [] then some [] else if (tokOne l).2 = 0 then none else (decF f (l.drop (tokOne l).2.toNat)).map ((clipTok (tokOne l).1) :: ·)
theorem decF_fuel : ∀ (f g : Nat) (l : List UInt8), l.length ≤ f → l.length ≤ g → decF f l = decF g l
  | 0, 0, l, _, _ => rfl
  | 0, g + 1, l, h, _ => by
    have : l = [] := List.length_eq_zero_iff.1 (by omega)
    subst this; simp [decF]
  | f + 1, 0, l, _, h => by
    have : l = [] := List.length_eq_zero_iff.1 (by omega)
    subst this; simp [decF]
  | f + 1, g + 1, l, h1, h2 => by
    simp only [decF]
    split
    · rfl
    · split
      · rfl
      · rename_i hn hz
        obtain ⟨_, _, _, _, _, _, _, _, h3, h4⟩ := tokOne_shape l
        rw [decF_fuel f g _ (by rw [List.length_drop]; omega) (by rw [List.length_drop]; omega)]
theorem decF_none {l : List UInt8} (h : l ≠ []) (hz : (tokOne l).2 = 0) : decF l.length l = none := by
  cases l with
  | nil => exact absurd rfl h
  | cons b l => simp [decF, hz]
theorem decF_some {l : List UInt8} (h : l ≠ []) (hz : (tokOne l).2 ≠ 0) : decF l.length l = (decF (l.drop (tokOne l).2.toNat).length (l.drop (tokOne l).2.toNat)).map (clipTok (tokOne l).1 :: ·) := by
  obtain ⟨_, _, _, _, _, _, _, _, h3, h4⟩ := tokOne_shape l
  cases l with
  | nil => exact absurd rfl h
  | cons b l =>
    rw [List.length_cons, decF, if_neg (by simp), if_neg hz]
    rw [decF_fuel _ _ _ (by rw [List.length_drop, List.length_cons]; omega) (Nat.le_refl _)]
theorem flat3 : ∀ {acc : List (List AV)}, (∀ t ∈ acc, t.length = 3) → acc.flatten.length = acc.length * 3
  | [], _ => rfl
  | t :: acc, h => by
    rw [List.flatten_cons, List.length_append, flat3 (fun x hx => h x (by simp [hx])), h t (by simp), List.length_cons]; omega
def decR (l : List UInt8) : AV := match decF l.length l with
  | some ts => .tup [.sl true ts.length ts.flatten, .int .i64 0]
  | none => .tup [.sl true 0 [], .int .i64 12]
def DecI (δ : Nat) (l0 : List UInt8) (n : Nat) (s : St) : Prop := ∃ F T ν full l acc x4, n = l.length ∧ acc.length + l.length ≤ l0.length ∧ decF l0.length l0 = (decF l.length l).map (acc ++ ·) ∧ (∀ t ∈ acc, t.length = 3) ∧
  ((acc = [] ∧ x4 = .k (.sl true 0 [])) ∨ (∃ g T0, T = upd T0 24 (some (g, .tag)) ∧ x4 = .ow 24 g acc.length 63 acc.flatten)) ∧ s = ⟨upd (upd F 0 (.k (.sl full l.length (aOfBytes l)))) 4 x4, T, ν, ⟨fun _ => false, δ, false⟩⟩
theorem decI_mk {δ : Nat} {l0 l : List UInt8} {C : Nat → SV} {T : Nat → Option (Nat × Ent)} {ν n g : Nat} {full : Bool} {acc : List (List AV)} {cells : List AV} (h0 : C 0 = .k (.sl full l.length (aOfBytes l))) (h4 : C 4 = .ow 24 g n 63 cells) (hT : T 24 = some (g, .tag)) (hn : n = acc.length) (hc : cells = acc.flatten)
    (hle : acc.length + l.length ≤ l0.length) (hdec : decF l0.length l0 = (decF l.length l).map (acc ++ ·)) (hacc : ∀ t ∈ acc, t.length = 3) : DecI δ l0 l.length ⟨C, T, ν, ⟨fun _ => false, δ, false⟩⟩ := by
  subst hn; subst hc
  refine ⟨C, T, ν, full, l, acc, _, rfl, hle, hdec, hacc, .inr ⟨g, T, upd_self hT, rfl⟩, ?_⟩
  rw [← upd_self h0, ← upd_self h4]
set_option maxHeartbeats 4000000 in
theorem decode_spec (full : Bool) (l : List UInt8) (hb : l.length ≤ 16777216) : Spec Try.prog 32 [.sl full l.length (aOfBytes l)] (.k (decR l)) := by
  refine spec_of (fun _ => false) (by kernel_rfl) Try.func32 rfl rfl (by simp [Try.ntmps32]) (by decide) ?_
  intro δ
  rw [init1]
  repeat with_reducible (first | refine aWp_seq ?_ | refine seq_normal ?_ | refine seq_ret ?_ | refine seq_exit ?_ | refine blk_normal ?_ | refine blk_ret ?_ | refine blk_hit ?_ | refine blk_miss rfl ?_ | refine aWp_ret ?_ | refine aWp_skip ?_ | refine aWp_block ?_ | refine aWp_exit ?_ | refine end_ret ?_ | refine end_normal ?_)
  refine rg fun K hK => ?_
  repeat (first | ((with_reducible refine rf ?_ ?_); (with_reducible apply gf_); exact rfl; exact rfl; (first | rfl | assumption | (simp [*] <;> done))) | ((with_reducible refine rf0 ?_ ?_); (with_reducible apply gf_); exact rfl; exact rfl; (first | rfl | assumption | (simp [*] <;> done))) | ((first | with_reducible refine g0 ?_ | ((with_reducible refine g1 ?_ ?_); (with_reducible apply gt_); exact rfl; exact rfl; (first | rfl | assumption | (simp [*] <;> done)))); (with_reducible apply sd); exact det_))
  with_reducible refine rz ?_
  refine hK _ _ _ ?_
  clear hK K; intro ν
  repeat with_reducible (first | refine aWp_seq ?_ | refine seq_normal ?_ | refine seq_ret ?_ | refine seq_exit ?_ | refine blk_normal ?_ | refine blk_ret ?_ | refine blk_hit ?_ | refine blk_miss rfl ?_ | refine aWp_ret ?_ | refine aWp_skip ?_ | refine aWp_block ?_ | refine aWp_exit ?_ | refine end_ret ?_ | refine end_normal ?_)
  refine rg fun K hK => ?_
  repeat (first | ((with_reducible refine rf ?_ ?_); (with_reducible apply gf_); exact rfl; exact rfl; (first | rfl | assumption | (simp [*] <;> done))) | ((with_reducible refine rf0 ?_ ?_); (with_reducible apply gf_); exact rfl; exact rfl; (first | rfl | assumption | (simp [*] <;> done))) | ((first | with_reducible refine g0 ?_ | ((with_reducible refine g1 ?_ ?_); (with_reducible apply gt_); exact rfl; exact rfl; (first | rfl | assumption | (simp [*] <;> done)))); (with_reducible apply sd); exact det_))
  with_reducible refine rz ?_
  refine hK _ _ _ ?_
  clear hK K; intro ν
  repeat with_reducible (first | refine aWp_seq ?_ | refine seq_normal ?_ | refine seq_ret ?_ | refine seq_exit ?_ | refine blk_normal ?_ | refine blk_ret ?_ | refine blk_hit ?_ | refine blk_miss rfl ?_ | refine aWp_ret ?_ | refine aWp_skip ?_ | refine aWp_block ?_ | refine aWp_exit ?_ | refine end_ret ?_ | refine end_normal ?_)
  refine aWp_loop (DecI δ l) l.length ⟨_, _, _, full, l, [], _, rfl, (by simp), ?_, ?_, .inl ⟨rfl, rfl⟩, congrArg (fun q => (⟨upd q 4 _, _, _, _⟩ : St)) (upd_self rfl)⟩ ?_
  · simp
  · simp
  rintro n s ⟨F, T, ν, full, l', acc, x4, rfl, hle, hdec, hacc, hx4, rfl⟩
  have hlen := aOfBytes_len l'
  repeat with_reducible (first | refine aWp_seq ?_ | refine seq_normal ?_ | refine seq_ret ?_ | refine seq_exit ?_ | refine blk_normal ?_ | refine blk_ret ?_ | refine blk_hit ?_ | refine blk_miss rfl ?_ | refine aWp_ret ?_ | refine aWp_skip ?_ | refine aWp_block ?_ | refine aWp_exit ?_ | refine end_ret ?_ | refine end_normal ?_)
  by_cases h0 : l' = []
  · subst h0
    simp only [List.length_nil]
    refine rg fun K hK => ?_
    repeat (first | ((with_reducible refine rf ?_ ?_); (with_reducible apply gf_); exact rfl; exact rfl; (first | rfl | assumption | (simp [*] <;> done))) | ((with_reducible refine rf0 ?_ ?_); (with_reducible apply gf_); exact rfl; exact rfl; (first | rfl | assumption | (simp [*] <;> done))) | ((first | with_reducible refine g0 ?_ | ((with_reducible refine g1 ?_ ?_); (with_reducible apply gt_); exact rfl; exact rfl; (first | rfl | assumption | (simp [*] <;> done)))); (with_reducible apply sd); exact det_))
    with_reducible refine rz ?_
    refine hK _ _ _ ?_
    clear hK K; intro ν
    repeat with_reducible (first | refine aWp_seq ?_ | refine seq_normal ?_ | refine seq_ret ?_ | refine seq_exit ?_ | refine blk_normal ?_ | refine blk_ret ?_ | refine blk_hit ?_ | refine blk_miss rfl ?_ | refine aWp_ret ?_ | refine aWp_skip ?_ | refine aWp_block ?_ | refine aWp_exit ?_ | refine end_ret ?_ | refine end_normal ?_)
    (with_reducible apply cndF); exact rfl; (first | rfl | assumption | (simp [*] <;> done))
    repeat with_reducible (first | refine aWp_seq ?_ | refine seq_normal ?_ | refine seq_ret ?_ | refine seq_exit ?_ | refine blk_normal ?_ | refine blk_ret ?_ | refine blk_hit ?_ | refine blk_miss rfl ?_ | refine aWp_ret ?_ | refine aWp_skip ?_ | refine aWp_block ?_ | refine aWp_exit ?_ | refine end_ret ?_ | refine end_normal ?_)
    have hd : decR l = .tup [.sl true acc.length acc.flatten, .int .i64 0] := by simp [decR, hdec, decF]
    rcases hx4 with ⟨rfl, rfl⟩ | ⟨g, T0, rfl, rfl⟩
    · refine rg fun K hK => ?_
      repeat (first | ((with_reducible refine rf ?_ ?_); (with_reducible apply gf_); exact rfl; exact rfl; (first | rfl | assumption | (simp [*] <;> done))) | ((with_reducible refine rf0 ?_ ?_); (with_reducible apply gf_); exact rfl; exact rfl; (first | rfl | assumption | (simp [*] <;> done))) | ((first | with_reducible refine g0 ?_ | ((with_reducible refine g1 ?_ ?_); (with_reducible apply gt_); exact rfl; exact rfl; (first | rfl | assumption | (simp [*] <;> done)))); (with_reducible apply sd); exact det_))
      ((first | with_reducible refine g0 ?_ | ((with_reducible refine g1 ?_ ?_); (with_reducible apply gt_); exact rfl; exact rfl; (first | rfl | assumption | (simp [*] <;> done)))); (with_reducible apply sc); (repeat (first | exact args_nil | ((apply args_cons); (exact arg_)))); exact (clipT_spec _ _ _ (by simp)); (first | exact .inr rfl | exact .inl rfl); (first | exact res_k | exact res_k0 | ((with_reducible apply res_ow); exact w_MD) | ((with_reducible apply res_os); exact w_MD; exact w_LEN)))
      repeat (first | ((with_reducible refine rf ?_ ?_); (with_reducible apply gf_); exact rfl; exact rfl; (first | rfl | assumption | (simp [*] <;> done))) | ((with_reducible refine rf0 ?_ ?_); (with_reducible apply gf_); exact rfl; exact rfl; (first | rfl | assumption | (simp [*] <;> done))) | ((first | with_reducible refine g0 ?_ | ((with_reducible refine g1 ?_ ?_); (with_reducible apply gt_); exact rfl; exact rfl; (first | rfl | assumption | (simp [*] <;> done)))); (with_reducible apply sd); exact det_))
      with_reducible refine rz ?_
      refine hK _ _ _ ?_
      clear hK K; intro ν
      repeat with_reducible (first | refine aWp_seq ?_ | refine seq_normal ?_ | refine seq_ret ?_ | refine seq_exit ?_ | refine blk_normal ?_ | refine blk_ret ?_ | refine blk_hit ?_ | refine blk_miss rfl ?_ | refine aWp_ret ?_ | refine aWp_skip ?_ | refine aWp_block ?_ | refine aWp_exit ?_ | refine end_ret ?_ | refine end_normal ?_)
      (first | with_reducible refine end_r ?_ | with_reducible refine end_n ?_); (with_reducible apply end2); exact rfl; exact rfl; (exact arg_); (exact arg_)
      exact hd
    · refine rg fun K hK => ?_
      repeat (first | ((with_reducible refine rf ?_ ?_); (with_reducible apply gf_); exact rfl; exact rfl; (first | rfl | assumption | (simp [*] <;> done))) | ((with_reducible refine rf0 ?_ ?_); (with_reducible apply gf_); exact rfl; exact rfl; (first | rfl | assumption | (simp [*] <;> done))) | ((first | with_reducible refine g0 ?_ | ((with_reducible refine g1 ?_ ?_); (with_reducible apply gt_); exact rfl; exact rfl; (first | rfl | assumption | (simp [*] <;> done)))); (with_reducible apply sd); exact det_))
      ((first | with_reducible refine g0 ?_ | ((with_reducible refine g1 ?_ ?_); (with_reducible apply gt_); exact rfl; exact rfl; (first | rfl | assumption | (simp [*] <;> done)))); (with_reducible apply sc); (repeat (first | exact args_nil | ((apply args_cons); (exact arg_)))); exact (clipT_spec _ _ _ (flat3 hacc)); (first | exact .inr rfl | exact .inl rfl); (first | exact res_k | exact res_k0 | ((with_reducible apply res_ow); exact w_MD) | ((with_reducible apply res_os); exact w_MD; exact w_LEN)))
      repeat (first | ((with_reducible refine rf ?_ ?_); (with_reducible apply gf_); exact rfl; exact rfl; (first | rfl | assumption | (simp [*] <;> done))) | ((with_reducible refine rf0 ?_ ?_); (with_reducible apply gf_); exact rfl; exact rfl; (first | rfl | assumption | (simp [*] <;> done))) | ((first | with_reducible refine g0 ?_ | ((with_reducible refine g1 ?_ ?_); (with_reducible apply gt_); exact rfl; exact rfl; (first | rfl | assumption | (simp [*] <;> done)))); (with_reducible apply sd); exact det_))
      with_reducible refine rz ?_
      refine hK _ _ _ ?_
      clear hK K; intro ν
      repeat with_reducible (first | refine aWp_seq ?_ | refine seq_normal ?_ | refine seq_ret ?_ | refine seq_exit ?_ | refine blk_normal ?_ | refine blk_ret ?_ | refine blk_hit ?_ | refine blk_miss rfl ?_ | refine aWp_ret ?_ | refine aWp_skip ?_ | refine aWp_block ?_ | refine aWp_exit ?_ | refine end_ret ?_ | refine end_normal ?_)
      (first | with_reducible refine end_r ?_ | with_reducible refine end_n ?_); (with_reducible apply end2); exact rfl; exact rfl; (exact arg_); (exact arg_)
      exact hd
  · have h0' : 0 < l'.length := List.length_pos_iff.2 h0
    obtain ⟨tf, tm, tcs, ta, tb, htok, htl, htm, hk0, hk1⟩ := tokOne_shape l'
    have hone := one_spec full l' h0 (by omega)
    rw [htok] at hone
    generalize hkk : (tokOne l').2 = k at hone hk0 hk1
    refine rg fun K hK => ?_
    repeat (first | ((with_reducible refine rf ?_ ?_); (with_reducible apply gf_); exact rfl; exact rfl; (first | rfl | assumption | (simp [*] <;> done))) | ((with_reducible refine rf0 ?_ ?_); (with_reducible apply gf_); exact rfl; exact rfl; (first | rfl | assumption | (simp [*] <;> done))) | ((first | with_reducible refine g0 ?_ | ((with_reducible refine g1 ?_ ?_); (with_reducible apply gt_); exact rfl; exact rfl; (first | rfl | assumption | (simp [*] <;> done)))); (with_reducible apply sd); exact det_))
    with_reducible refine rz ?_
    refine hK _ _ _ ?_
    clear hK K; intro ν
    repeat with_reducible (first | refine aWp_seq ?_ | refine seq_normal ?_ | refine seq_ret ?_ | refine seq_exit ?_ | refine blk_normal ?_ | refine blk_ret ?_ | refine blk_hit ?_ | refine blk_miss rfl ?_ | refine aWp_ret ?_ | refine aWp_skip ?_ | refine aWp_block ?_ | refine aWp_exit ?_ | refine end_ret ?_ | refine end_normal ?_)
    (with_reducible apply cndT); exact rfl; (first | rfl | assumption | (simp [*] <;> done))
    repeat with_reducible (first | refine aWp_seq ?_ | refine seq_normal ?_ | refine seq_ret ?_ | refine seq_exit ?_ | refine blk_normal ?_ | refine blk_ret ?_ | refine blk_hit ?_ | refine blk_miss rfl ?_ | refine aWp_ret ?_ | refine aWp_skip ?_ | refine aWp_block ?_ | refine aWp_exit ?_ | refine end_ret ?_ | refine end_normal ?_)
    refine rg fun K hK => ?_
    repeat (first | ((with_reducible refine rf ?_ ?_); (with_reducible apply gf_); exact rfl; exact rfl; (first | rfl | assumption | (simp [*] <;> done))) | ((with_reducible refine rf0 ?_ ?_); (with_reducible apply gf_); exact rfl; exact rfl; (first | rfl | assumption | (simp [*] <;> done))) | ((first | with_reducible refine g0 ?_ | ((with_reducible refine g1 ?_ ?_); (with_reducible apply gt_); exact rfl; exact rfl; (first | rfl | assumption | (simp [*] <;> done)))); (with_reducible apply sd); exact det_))
    ((first | with_reducible refine g0 ?_ | ((with_reducible refine g1 ?_ ?_); (with_reducible apply gt_); exact rfl; exact rfl; (first | rfl | assumption | (simp [*] <;> done)))); (with_reducible apply sc); (repeat (first | exact args_nil | ((apply args_cons); (exact arg_)))); exact (hone); (first | exact .inr rfl | exact .inl rfl); (first | exact res_k | exact res_k0 | ((with_reducible apply res_ow); exact w_MD) | ((with_reducible apply res_os); exact w_MD; exact w_LEN)))
    repeat (first | ((with_reducible refine rf ?_ ?_); (with_reducible apply gf_); exact rfl; exact rfl; (first | rfl | assumption | (simp [*] <;> done))) | ((with_reducible refine rf0 ?_ ?_); (with_reducible apply gf_); exact rfl; exact rfl; (first | rfl | assumption | (simp [*] <;> done))) | ((first | with_reducible refine g0 ?_ | ((with_reducible refine g1 ?_ ?_); (with_reducible apply gt_); exact rfl; exact rfl; (first | rfl | assumption | (simp [*] <;> done)))); (with_reducible apply sd); exact det_))
    with_reducible refine rz ?_
    refine hK _ _ _ ?_
    clear hK K; intro ν
    repeat with_reducible (first | refine aWp_seq ?_ | refine seq_normal ?_ | refine seq_ret ?_ | refine seq_exit ?_ | refine blk_normal ?_ | refine blk_ret ?_ | refine blk_hit ?_ | refine blk_miss rfl ?_ | refine aWp_ret ?_ | refine aWp_skip ?_ | refine aWp_block ?_ | refine aWp_exit ?_ | refine end_ret ?_ | refine end_normal ?_)
    by_cases hz : k = 0
    · refine rg fun K hK => ?_
      repeat (first | ((with_reducible refine rf ?_ ?_); (with_reducible apply gf_); exact rfl; exact rfl; (first | rfl | assumption | (simp [*] <;> done))) | ((with_reducible refine rf0 ?_ ?_); (with_reducible apply gf_); exact rfl; exact rfl; (first | rfl | assumption | (simp [*] <;> done))) | ((first | with_reducible refine g0 ?_ | ((with_reducible refine g1 ?_ ?_); (with_reducible apply gt_); exact rfl; exact rfl; (first | rfl | assumption | (simp [*] <;> done)))); (with_reducible apply sd); exact det_))
      with_reducible refine rz ?_
      refine hK _ _ _ ?_
      clear hK K; intro ν
      repeat with_reducible (first | refine aWp_seq ?_ | refine seq_normal ?_ | refine seq_ret ?_ | refine seq_exit ?_ | refine blk_normal ?_ | refine blk_ret ?_ | refine blk_hit ?_ | refine blk_miss rfl ?_ | refine aWp_ret ?_ | refine aWp_skip ?_ | refine aWp_block ?_ | refine aWp_exit ?_ | refine end_ret ?_ | refine end_normal ?_)
      (with_reducible apply cndT); exact rfl; (first | rfl | assumption | (simp [*] <;> done))
      repeat with_reducible (first | refine aWp_seq ?_ | refine seq_normal ?_ | refine seq_ret ?_ | refine seq_exit ?_ | refine blk_normal ?_ | refine blk_ret ?_ | refine blk_hit ?_ | refine blk_miss rfl ?_ | refine aWp_ret ?_ | refine aWp_skip ?_ | refine aWp_block ?_ | refine aWp_exit ?_ | refine end_ret ?_ | refine end_normal ?_)
      refine rg fun K hK => ?_
      repeat (first | ((with_reducible refine rf ?_ ?_); (with_reducible apply gf_); exact rfl; exact rfl; (first | rfl | assumption | (simp [*] <;> done))) | ((with_reducible refine rf0 ?_ ?_); (with_reducible apply gf_); exact rfl; exact rfl; (first | rfl | assumption | (simp [*] <;> done))) | ((first | with_reducible refine g0 ?_ | ((with_reducible refine g1 ?_ ?_); (with_reducible apply gt_); exact rfl; exact rfl; (first | rfl | assumption | (simp [*] <;> done)))); (with_reducible apply sd); exact det_))
      with_reducible refine rz ?_
      refine hK _ _ _ ?_
      clear hK K; intro ν
      repeat with_reducible (first | refine aWp_seq ?_ | refine seq_normal ?_ | refine seq_ret ?_ | refine seq_exit ?_ | refine blk_normal ?_ | refine blk_ret ?_ | refine blk_hit ?_ | refine blk_miss rfl ?_ | refine aWp_ret ?_ | refine aWp_skip ?_ | refine aWp_block ?_ | refine aWp_exit ?_ | refine end_ret ?_ | refine end_normal ?_)
      (first | with_reducible refine end_r ?_ | with_reducible refine end_n ?_); (with_reducible apply end2); exact rfl; exact rfl; (exact arg_); (exact arg_)
      simp [decR, hdec, decF_none h0 (hkk.trans hz)]
    · refine rg fun K hK => ?_
      repeat (first | ((with_reducible refine rf ?_ ?_); (with_reducible apply gf_); exact rfl; exact rfl; (first | rfl | assumption | (simp [*] <;> done))) | ((with_reducible refine rf0 ?_ ?_); (with_reducible apply gf_); exact rfl; exact rfl; (first | rfl | assumption | (simp [*] <;> done))) | ((first | with_reducible refine g0 ?_ | ((with_reducible refine g1 ?_ ?_); (with_reducible apply gt_); exact rfl; exact rfl; (first | rfl | assumption | (simp [*] <;> done)))); (with_reducible apply sd); exact det_))
      with_reducible refine rz ?_
      refine hK _ _ _ ?_
      clear hK K; intro ν
      repeat with_reducible (first | refine aWp_seq ?_ | refine seq_normal ?_ | refine seq_ret ?_ | refine seq_exit ?_ | refine blk_normal ?_ | refine blk_ret ?_ | refine blk_hit ?_ | refine blk_miss rfl ?_ | refine aWp_ret ?_ | refine aWp_skip ?_ | refine aWp_block ?_ | refine aWp_exit ?_ | refine end_ret ?_ | refine end_normal ?_)
      (with_reducible apply cndF); exact rfl; (first | rfl | assumption | (simp [*] <;> done))
      repeat with_reducible (first | refine aWp_seq ?_ | refine seq_normal ?_ | refine seq_ret ?_ | refine seq_exit ?_ | refine blk_normal ?_ | refine blk_ret ?_ | refine blk_hit ?_ | refine blk_miss rfl ?_ | refine aWp_ret ?_ | refine aWp_skip ?_ | refine aWp_block ?_ | refine aWp_exit ?_ | refine end_ret ?_ | refine end_normal ?_)
      refine rg fun K hK => ?_
      repeat (first | ((with_reducible refine rf ?_ ?_); (with_reducible apply gf_); exact rfl; exact rfl; (first | rfl | assumption | (simp [*] <;> done))) | ((with_reducible refine rf0 ?_ ?_); (with_reducible apply gf_); exact rfl; exact rfl; (first | rfl | assumption | (simp [*] <;> done))) | ((first | with_reducible refine g0 ?_ | ((with_reducible refine g1 ?_ ?_); (with_reducible apply gt_); exact rfl; exact rfl; (first | rfl | assumption | (simp [*] <;> done)))); (with_reducible apply sd); exact det_))
      ((first | with_reducible refine g0 ?_ | ((with_reducible refine g1 ?_ ?_); (with_reducible apply gt_); exact rfl; exact rfl; (first | rfl | assumption | (simp [*] <;> done)))); (with_reducible apply sc); (repeat (first | exact args_nil | ((apply args_cons); (exact arg_)))); exact (clip_spec _ _ _ htl); (first | exact .inr rfl | exact .inl rfl); (first | exact res_k | exact res_k0 | ((with_reducible apply res_ow); exact w_MD) | ((with_reducible apply res_os); exact w_MD; exact w_LEN)))
      repeat (first | ((with_reducible refine rf ?_ ?_); (with_reducible apply gf_); exact rfl; exact rfl; (first | rfl | assumption | (simp [*] <;> done))) | ((with_reducible refine rf0 ?_ ?_); (with_reducible apply gf_); exact rfl; exact rfl; (first | rfl | assumption | (simp [*] <;> done))) | ((first | with_reducible refine g0 ?_ | ((with_reducible refine g1 ?_ ?_); (with_reducible apply gt_); exact rfl; exact rfl; (first | rfl | assumption | (simp [*] <;> done)))); (with_reducible apply sd); exact det_))
      with_reducible refine rz ?_
      refine hK _ _ _ ?_
      clear hK K; intro ν
      repeat with_reducible (first | refine aWp_seq ?_ | refine seq_normal ?_ | refine seq_ret ?_ | refine seq_exit ?_ | refine blk_normal ?_ | refine blk_ret ?_ | refine blk_hit ?_ | refine blk_miss rfl ?_ | refine aWp_ret ?_ | refine aWp_skip ?_ | refine aWp_block ?_ | refine aWp_exit ?_ | refine end_ret ?_ | refine end_normal ?_)
      have hlT : (tokOne l').1.length = 3 := by rw [htok]; rfl
      have hne : (tokOne l').2 ≠ 0 := by rw [hkk]; exact hz
      have hfl := flat3 hacc
      have hmeas : (l'.drop k.toNat).length < l'.length := by rw [List.length_drop]; omega
      have hA : List.drop k.toNat (List.take l'.length (aOfBytes l')) = aOfBytes (l'.drop k.toNat) := by
        rw [List.take_of_length_le (by omega)]; simp [aOfBytes, List.map_drop]
      have hlA : l'.length - k.toNat = (l'.drop k.toNat).length := by rw [List.length_drop]
      have hdec2 : decF l.length l = (decF (l'.drop k.toNat).length (l'.drop k.toNat)).map ((acc ++ [clipTok (tokOne l').1]) ++ ·) := by
        rw [hdec, decF_some h0 hne, hkk]
        cases decF (l'.drop k.toNat).length (l'.drop k.toNat) <;> simp
      have hacc2 : ∀ t ∈ acc ++ [clipTok (tokOne l').1], t.length = 3 := by
        intro t ht
        rcases List.mem_append.1 ht with ht | ht
        · exact hacc t ht
        · rw [List.mem_singleton.1 ht, htok]; rfl
      have hfl2 : (acc ++ [clipTok (tokOne l').1]).flatten = acc.flatten ++ [.sl true tm tcs, .int .i64 ta, .int .i64 tb] := by
        rw [List.flatten_append, htok]; simp [clipTok]
      rcases hx4 with ⟨rfl, rfl⟩ | ⟨g, T0, rfl, rfl⟩
      · refine rgxA [(1, [5], []), (3, [24, 23], [24, 23])] ?_
        intro ν
        simp only [hA, hlA]
        repeat with_reducible (first | refine aWp_seq ?_ | refine seq_normal ?_ | refine seq_ret ?_ | refine seq_exit ?_ | refine blk_normal ?_ | refine blk_ret ?_ | refine blk_hit ?_ | refine blk_miss rfl ?_ | refine aWp_ret ?_ | refine aWp_skip ?_ | refine aWp_block ?_ | refine aWp_exit ?_ | refine end_ret ?_ | refine end_normal ?_)
        refine ⟨_, hmeas, decI_mk (acc := _ ++ [clipTok (tokOne l').1]) rfl rfl rfl (by simp) hfl2.symm (by simp only [List.length_append, List.length_cons, List.length_nil] at hle ⊢; omega) hdec2 hacc2⟩
      · refine rgxA [(1, [5], []), (3, [24, 23], [24, 23])] ?_
        intro ν
        simp only [hA, hlA]
        repeat with_reducible (first | refine aWp_seq ?_ | refine seq_normal ?_ | refine seq_ret ?_ | refine seq_exit ?_ | refine blk_normal ?_ | refine blk_ret ?_ | refine blk_hit ?_ | refine blk_miss rfl ?_ | refine aWp_ret ?_ | refine aWp_skip ?_ | refine aWp_block ?_ | refine aWp_exit ?_ | refine end_ret ?_ | refine end_normal ?_)
        refine ⟨_, hmeas, decI_mk (acc := _ ++ [clipTok (tokOne l').1]) rfl rfl rfl (by simp) hfl2.symm (by simp only [List.length_append, List.length_cons, List.length_nil] at hle ⊢; omega) hdec2 hacc2⟩
end Go.Proofs.Ytmlgpibjhegdeaa
