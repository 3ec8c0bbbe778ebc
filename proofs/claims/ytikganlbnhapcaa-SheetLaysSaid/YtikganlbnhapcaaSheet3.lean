import Derived.Test.YtikganlbnhapcaaSheet2
namespace Go.Proofs.Ytikganlbnhapcaa
open Go.RowKit
set_option linter.unusedVariables false
set_option linter.unusedSimpArgs false
set_option maxRecDepth 20000
theorem chunks_mem2 {k : Nat} {cs : List AV} {x : List AV} (hk : 0 < k) (h : x ∈ chunkL k cs) : ∃ j, j * k < cs.length ∧ x = [.sl true (min k (cs.length - j * k)) ((cs.drop (j * k)).take k)] := by
  simp only [chunkL, List.mem_map, List.mem_range] at h
  obtain ⟨j, hj, rfl⟩ := h
  exact ⟨j, (chN_lt hk).1 hj, rfl⟩
def liftG (s : List UInt8) : Nat := numB (s.take 2)
def liftN (s : List UInt8) : Nat := chN (liftG s + 6) 24
def liftE (s : List UInt8) : Int := (numB ((s.take 28).drop 24) : Nat)
def liftQ (s : List UInt8) : Int := (numB ((s.take 32).drop 28) : Nat)
def liftM (s : List UInt8) : List UInt8 := (List.range (liftN s)).flatMap fun j => (s.drop (j * 32)).take 24
def liftB (s : List UInt8) : List UInt8 := ((liftM s).take (2 + (liftG s : Int)).toNat).drop 2
def liftA (s : List UInt8) : List UInt8 := layB (liftE s) (liftQ s) (liftB s)
def liftBad : AV := .tup [.int .i64 0, .int .i64 0, .sl true 0 [], .int .i64 0, .int .i64 3]
def liftOk (s : List UInt8) : Bool := decide (32 ≤ s.length) && (decide (32 * liftN s ≤ s.length) && decide (liftA s = s.take (liftA s).length))
def liftR (s : List UInt8) : AV := if liftOk s = true then .tup [.int .i64 (liftE s), .int .i64 (liftQ s), .sl true (liftB s).length (aOfBytes (liftB s)), .int .i64 (liftN s : Nat), .int .i64 0] else liftBad
theorem liftG_lt (s : List UInt8) (h : 32 ≤ s.length) : liftG s < 65536 := by have := numB_lt 2 (s.take 2) (by simp; omega); unfold liftG; omega
theorem liftE_lt (s : List UInt8) (h : 32 ≤ s.length) : 0 ≤ liftE s ∧ liftE s ≤ 4294967295 := by have := numB_lt 4 ((s.take 28).drop 24) (by simp; omega); unfold liftE; omega
theorem liftQ_lt (s : List UInt8) (h : 32 ≤ s.length) : 0 ≤ liftQ s ∧ liftQ s ≤ 4294967295 := by have := numB_lt 4 ((s.take 32).drop 28) (by simp; omega); unfold liftQ; omega
theorem chN_pos (n k : Nat) (hk : 0 < k) (hn : 0 < n) : 0 < chN n k := (chN_lt hk).2 (by omega)
theorem chN_bound (n : Nat) : n ≤ 24 * chN n 24 ∧ 24 * chN n 24 ≤ n + 23 := by unfold chN; omega
theorem liftM_len (s : List UInt8) (h : 32 * liftN s ≤ s.length) : (liftM s).length = 24 * liftN s := by
  have key : ∀ n, 32 * n ≤ s.length → ((List.range n).flatMap fun j => (s.drop (j * 32)).take 24).length = 24 * n := by
    intro n
    induction n with
    | zero => intro _; rfl
    | succ n ih =>
      intro hn
      rw [List.range_succ, List.flatMap_append, List.length_append, ih (by omega)]
      simp; omega
  exact key _ h
/-- what a round takes up -/
def secM : List AV → List AV
  | [.sl _ n cs] => cs.take 24
  | _ => []
theorem secM_all (s : List UInt8) (n : Nat) (h : 32 * n ≤ s.length) : (chunkL 32 (aOfBytes (s.take (32 * n)))).flatMap secM = aOfBytes ((List.range n).flatMap fun j => (s.drop (j * 32)).take 24) := by
  have hl : (s.take (32 * n)).length = 32 * n := by simp; omega
  have hc : chN (32 * n) 32 = n := by unfold chN; omega
  have key : ∀ l : List Nat, (∀ j ∈ l, j < n) → (l.map fun j => [AV.sl true (min 32 ((aOfBytes (s.take (32 * n))).length - j * 32)) (((aOfBytes (s.take (32 * n))).drop (j * 32)).take 32)]).flatMap secM = aOfBytes (l.flatMap fun j => (s.drop (j * 32)).take 24) := by
    intro l hj
    induction l with
    | nil => rfl
    | cons j l ih =>
      have h1 := hj j (by simp)
      rw [List.map_cons, List.flatMap_cons, ih (fun i hi => hj i (by simp [hi])), List.flatMap_cons, aOfBytes_append]
      congr 1
      simp only [secM, aOfBytes_drop, aOfBytes_take]
      congr 1
      rw [List.drop_take, List.take_take, List.take_take]
      congr 1
      omega
  unfold chunkL
  rw [aOfBytes_len, hl, hc]
  have := key (List.range n) (fun j hj => List.mem_range.1 hj)
  rw [aOfBytes_len, hl] at this
  exact this
set_option maxHeartbeats 16000000 in
theorem lift_spec (full : Bool) (s : List UInt8) (hs : s.length ≤ 1000000) : Spec Try.prog 37 [.sl full s.length (aOfBytes s)] (.k (liftR s)) := by
  refine spec_of' (fun _ => false) true (by kernel_rfl) Try.func37 rfl rfl (by simp [Try.ntmps37]) (by decide) ?_
  intro δ
  rw [init1]
  have hlen := aOfBytes_len s
  by_cases h32 : 32 ≤ s.length
  · have hg := liftG_lt s h32
    have he := liftE_lt s h32
    have hq := liftQ_lt s h32
    have hN : 1 ≤ liftN s := chN_pos _ _ (by omega) (by omega)
    have hNb := chN_bound (liftG s + 6)
    have s1 := number_spec (full && decide ((2 : Int) = (s.length : Int))) (s.take 2) (by simp; omega)
    have s2 := number_spec (full && decide ((28 : Int) = (s.length : Int))) ((s.take 28).drop 24) (by simp; omega)
    have s3 := number_spec (full && decide ((32 : Int) = (s.length : Int))) ((s.take 32).drop 28) (by simp; omega)
    have hg' : numB (s.take 2) < 65536 := hg
    have s4 := count_spec (numB (s.take 2)) (by omega)
    obtain ⟨N, hNe⟩ : ∃ N, N = liftN s := ⟨_, rfl⟩
    rw [show chN (numB (s.take 2) + 6) 24 = N from hNe.symm] at s4
    rw [← hNe] at hN
    have hNb2 : numB (s.take 2) + 6 ≤ 24 * N ∧ 24 * N ≤ numB (s.take 2) + 29 := by rw [hNe]; exact hNb
    clear hNb
    have l1 : (s.take 2).length = 2 := by simp; omega
    have l2 : ((s.take 28).drop 24).length = 4 := by simp; omega
    have l3 : ((s.take 32).drop 28).length = 4 := by simp; omega
    rw [l1, ← aOfBytes_take] at s1
    rw [l2, ← aOfBytes_drop, ← aOfBytes_take] at s2
    rw [l3, ← aOfBytes_drop, ← aOfBytes_take] at s3
    repeat (first | with_reducible (first | refine aWp_seq ?_ | refine seq_normal ?_ | refine seq_ret ?_ | refine seq_exit ?_ | refine blk_normal ?_ | refine blk_ret ?_ | refine blk_hit ?_ | refine blk_miss rfl ?_ | refine aWp_ret ?_ | refine aWp_skip ?_ | refine aWp_block ?_ | refine aWp_exit ?_ | refine end_ret ?_ | refine end_normal ?_) | ((refine rgA ?_); intro ν) | ((with_reducible apply cndT); exact rfl; (first | rfl | assumption)) | ((with_reducible apply cndF); exact rfl; (first | rfl | assumption)))
    refine rg fun K hK => ?_
    refine stA ?_
    (first | with_reducible refine g0 ?_ | ((with_reducible refine g1 ?_ ?_); (with_reducible apply gt_); exact rfl; exact rfl; (first | rfl | assumption | (simp [*] <;> done)))); refine scA (h2 := (s1)) (hk := ?_)
    refine stA ?_
    with_reducible refine rz ?_
    refine hK _ _ _ ?_
    clear hK K; intro ν
    repeat (first | with_reducible (first | refine aWp_seq ?_ | refine seq_normal ?_ | refine seq_ret ?_ | refine seq_exit ?_ | refine blk_normal ?_ | refine blk_ret ?_ | refine blk_hit ?_ | refine blk_miss rfl ?_ | refine aWp_ret ?_ | refine aWp_skip ?_ | refine aWp_block ?_ | refine aWp_exit ?_ | refine end_ret ?_ | refine end_normal ?_) | ((refine rgA ?_); intro ν) | ((with_reducible apply cndT); exact rfl; (first | rfl | assumption)) | ((with_reducible apply cndF); exact rfl; (first | rfl | assumption)))
    refine rgx [] (by kernel_rfl) fun K hK => ?_
    refine stxA ?_
    ((first | ((with_reducible refine x0 ?_ ?_); exact rfl) | ((with_reducible refine x1 ?_ ?_ ?_); exact rfl; (with_reducible apply gt_); exact rfl; exact rfl; (first | rfl | assumption | (simp [*] <;> done)))); refine xcA (h2 := (s2)) (hk := ?_))
    refine stxA ?_
    ((first | ((with_reducible refine x0 ?_ ?_); exact rfl) | ((with_reducible refine x1 ?_ ?_ ?_); exact rfl; (with_reducible apply gt_); exact rfl; exact rfl; (first | rfl | assumption | (simp [*] <;> done)))); refine xcA (h2 := (s3)) (hk := ?_))
    refine stxA ?_
    with_reducible refine xz ?_
    refine hK _ _ _ ?_
    clear hK K; intro ν
    repeat (first | with_reducible (first | refine aWp_seq ?_ | refine seq_normal ?_ | refine seq_ret ?_ | refine seq_exit ?_ | refine blk_normal ?_ | refine blk_ret ?_ | refine blk_hit ?_ | refine blk_miss rfl ?_ | refine aWp_ret ?_ | refine aWp_skip ?_ | refine aWp_block ?_ | refine aWp_exit ?_ | refine end_ret ?_ | refine end_normal ?_) | ((refine rgA ?_); intro ν) | ((with_reducible apply cndT); exact rfl; (first | rfl | assumption)) | ((with_reducible apply cndF); exact rfl; (first | rfl | assumption)))
    refine rg fun K hK => ?_
    refine stA ?_
    (first | with_reducible refine g0 ?_ | ((with_reducible refine g1 ?_ ?_); (with_reducible apply gt_); exact rfl; exact rfl; (first | rfl | assumption | (simp [*] <;> done)))); refine scA (h2 := (s4)) (hk := ?_)
    refine stA ?_
    with_reducible refine rz ?_
    refine hK _ _ _ ?_
    clear hK K; intro ν
    by_cases h2 : 32 * N ≤ s.length
    · have hl4 : (s.take (32 * N)).length = 32 * N := by simp; omega
      have s5 := chunk_spec (full && decide ((N : Int) * 32 = (s.length : Int))) (32 * N) (aOfBytes (s.take (32 * N))) 32 (by omega)
      have hit := chunk_iter (full && decide ((N : Int) * 32 = (s.length : Int))) (aOfBytes (s.take (32 * N))) 32 (by omega) (by omega) (by intro h; have := congrArg List.length h; rw [aOfBytes_len, hl4] at this; simp at this; omega) (by rw [aOfBytes_len, hl4]; omega)
      rw [aOfBytes_len, hl4] at hit
      rw [← aOfBytes_take] at s5 hit
      have hX : 32 * N = ((N : Int) * 32).toNat := by omega
      rw [hX] at s5 hit
      repeat (first | with_reducible (first | refine aWp_seq ?_ | refine seq_normal ?_ | refine seq_ret ?_ | refine seq_exit ?_ | refine blk_normal ?_ | refine blk_ret ?_ | refine blk_hit ?_ | refine blk_miss rfl ?_ | refine aWp_ret ?_ | refine aWp_skip ?_ | refine aWp_block ?_ | refine aWp_exit ?_ | refine end_ret ?_ | refine end_normal ?_) | ((refine rgA ?_); intro ν) | ((with_reducible apply cndT); exact rfl; (first | rfl | assumption)) | ((with_reducible apply cndF); exact rfl; (first | rfl | assumption)))
      refine rg fun K hK => ?_
      refine stA ?_
      (first | with_reducible refine g0 ?_ | ((with_reducible refine g1 ?_ ?_); (with_reducible apply gt_); exact rfl; exact rfl; (first | rfl | assumption | (simp [*] <;> done)))); refine scA (h2 := (s5)) (hk := ?_)
      refine stA ?_
      with_reducible refine rz ?_
      refine hK _ _ _ ?_
      clear hK K; intro ν
      repeat (first | with_reducible (first | refine aWp_seq ?_ | refine seq_normal ?_ | refine seq_ret ?_ | refine seq_exit ?_ | refine blk_normal ?_ | refine blk_ret ?_ | refine blk_hit ?_ | refine blk_miss rfl ?_ | refine aWp_ret ?_ | refine aWp_skip ?_ | refine aWp_block ?_ | refine aWp_exit ?_ | refine end_ret ?_ | refine end_normal ?_) | ((refine rgA ?_); intro ν) | ((with_reducible apply cndT); exact rfl; (first | rfl | assumption)) | ((with_reducible apply cndF); exact rfl; (first | rfl | assumption)))
      have hsm := secM_all s N h2
      rw [hX, ← aOfBytes_take] at hsm
      have hcn : (chunkL 32 (List.take ((N : Int) * 32).toNat (aOfBytes s))).length = N := by
        rw [chunks_len, ← hX, aOfBytes_take, aOfBytes_len, hl4]; unfold chN; omega
      refine aWp_range2 (k1 := 8) (k2 := 8) rfl hit (fun x hx => by obtain ⟨j, _, rfl⟩ := chunks_mem2 (by omega) hx; rfl) rfl rfl rfl
        (fun g8 _ pre T => (pre = [] ∧ T 8 = some (g8, .obj [.sl true 0 []])) ∨ ∃ g, T 8 = some (g8, .obj [.ow δ 40 g (24 * pre.length) 5 (pre.flatMap secM)]) ∧ T 40 = some (g, .tag))
        (.inl ⟨rfl, rfl⟩) ?_ ?_
      · rintro pre x T ν h8 hlt hpre hx
        obtain ⟨j, q1, rfl⟩ := chunks_mem2 (by omega) hx
        have hL : (List.take ((N : Int) * 32).toNat (aOfBytes s)).length = 32 * N := by rw [← hX, aOfBytes_take, aOfBytes_len, hl4]
        have hm32 : min 32 ((List.take ((N : Int) * 32).toNat (aOfBytes s)).length - j * 32) = 32 := by rw [hL] at q1 ⊢; omega
        have hdl : (List.take 32 (List.drop (j * 32) (List.take ((N : Int) * 32).toNat (aOfBytes s)))).length = 32 := by rw [List.length_take, List.length_drop, hm32]
        rw [hcn] at hlt
        rw [hm32] at hx ⊢
        generalize List.take 32 (List.drop (j * 32) (List.take ((N : Int) * 32).toNat (aOfBytes s))) = ds at hx hdl ⊢
        have hsec : secM [.sl true 32 ds] = ds.take 24 := rfl
        have mk : ∀ (g10 : Nat) (T : Nat → Option (Nat × Ent)) (g n : Nat) (cs : List AV), T 8 = some (g10, .obj [.ow δ 40 g n 5 cs]) → T 40 = some (g, .tag) → n = 24 * (pre ++ [[AV.sl true 32 ds]]).length → cs = (pre ++ [[AV.sl true 32 ds]]).flatMap secM →
            ∃ g, T 8 = some (g10, .obj [.ow δ 40 g (24 * (pre ++ [[AV.sl true 32 ds]]).length) 5 ((pre ++ [[AV.sl true 32 ds]]).flatMap secM)]) ∧ T 40 = some (g, .tag) := by
          intro g10 T g n cs k1 k2 k3 k4; subst k3 k4; exact ⟨g, k1, k2⟩
        dsimp only [putPs, runAs]
        rw [upd_same]
        rcases h8 with ⟨rfl, h8⟩ | ⟨g, h8, h40⟩
        · rw [upd_self h8]
          repeat with_reducible (first | refine aWp_seq ?_ | refine seq_normal ?_ | refine seq_ret ?_ | refine seq_exit ?_ | refine blk_normal ?_ | refine blk_ret ?_ | refine blk_hit ?_ | refine blk_miss rfl ?_ | refine aWp_ret ?_ | refine aWp_skip ?_ | refine aWp_block ?_ | refine aWp_exit ?_ | refine end_ret ?_ | refine end_normal ?_)
          refine rgxA [(0,[8],[]),(3,[],[40]),(4,[8,40],[8,40])] ?_
          intro ν
          repeat (first | with_reducible (first | refine aWp_seq ?_ | refine seq_normal ?_ | refine seq_ret ?_ | refine seq_exit ?_ | refine blk_normal ?_ | refine blk_ret ?_ | refine blk_hit ?_ | refine blk_miss rfl ?_ | refine aWp_ret ?_ | refine aWp_skip ?_ | refine aWp_block ?_ | refine aWp_exit ?_ | refine end_ret ?_ | refine end_normal ?_) | ((refine rgA ?_); intro ν) | ((with_reducible apply cndT); exact rfl; (first | rfl | assumption)) | ((with_reducible apply cndF); exact rfl; (first | rfl | assumption)))
          refine ⟨rfl, .inr (mk _ _ _ _ _ rfl rfl ?_ ?_)⟩
          · simp
          · simp [hsec]
        · rw [has2 h8 h40]
          repeat with_reducible (first | refine aWp_seq ?_ | refine seq_normal ?_ | refine seq_ret ?_ | refine seq_exit ?_ | refine blk_normal ?_ | refine blk_ret ?_ | refine blk_hit ?_ | refine blk_miss rfl ?_ | refine aWp_ret ?_ | refine aWp_skip ?_ | refine aWp_block ?_ | refine aWp_exit ?_ | refine end_ret ?_ | refine end_normal ?_)
          refine rgxA [(0,[8,40],[]),(3,[40],[40]),(4,[8,40],[8,40])] ?_
          intro ν
          repeat (first | with_reducible (first | refine aWp_seq ?_ | refine seq_normal ?_ | refine seq_ret ?_ | refine seq_exit ?_ | refine blk_normal ?_ | refine blk_ret ?_ | refine blk_hit ?_ | refine blk_miss rfl ?_ | refine aWp_ret ?_ | refine aWp_skip ?_ | refine aWp_block ?_ | refine aWp_exit ?_ | refine end_ret ?_ | refine end_normal ?_) | ((refine rgA ?_); intro ν) | ((with_reducible apply cndT); exact rfl; (first | rfl | assumption)) | ((with_reducible apply cndF); exact rfl; (first | rfl | assumption)))
          refine ⟨rfl, .inr (mk _ _ _ _ _ rfl rfl ?_ ?_)⟩
          · simp; omega
          · simp [hsec]
      · intro T ν h8
        rcases h8 with ⟨q, _⟩ | ⟨g, h8, h40⟩
        · rw [q] at hcn; simp at hcn; omega
        have hMe : ((List.range N).flatMap fun j => (s.drop (j * 32)).take 24) = liftM s := by rw [hNe]; rfl
        rw [hcn, hsm, hMe] at h8
        have hMl : (liftM s).length = 24 * N := by rw [liftM_len s (by rw [← hNe]; exact h2), hNe]
        have hMa := aOfBytes_len (liftM s)
        have hBl : (liftB s).length = numB (s.take 2) := by
          unfold liftB
          rw [List.length_drop, List.length_take, hMl, show liftG s = numB (s.take 2) from rfl]; omega
        have hBa := aOfBytes_len (liftB s)
        have hBe : List.drop 2 (List.take (2 + (numB (s.take 2) : Int)).toNat (aOfBytes (liftM s))) = aOfBytes (liftB s) := by rw [aOfBytes_take, aOfBytes_drop]; rfl
        obtain ⟨fl, s6⟩ : ∃ fl, Spec Try.prog 69 [.sl false ((2 + (numB (s.take 2) : Int)).toNat - 2) (List.drop 2 (List.take (2 + (numB (s.take 2) : Int)).toNat (aOfBytes (liftM s))))] (.k (.sl fl (liftB s).length (aOfBytes (liftB s)))) := by
          rw [hBe]
          by_cases h0 : numB (s.take 2) = 0
          · have hB0 : liftB s = [] := List.eq_nil_of_length_eq_zero (by omega)
            refine ⟨true, ?_⟩
            rw [hB0]
            exact clone0_spec2 _ _ _ (by omega) rfl
          · refine ⟨false, ?_⟩
            have := clone_spec false (liftB s).length (aOfBytes (liftB s)) (by omega) hBa (by omega)
            rw [show (2 + (numB (s.take 2) : Int)).toNat - 2 = (liftB s).length by omega]
            exact this
        have s7 : Spec Try.prog 31 [.int .i64 (numB (List.drop 24 (List.take 28 s)) : Nat), .int .i64 (numB (List.drop 28 (List.take 32 s)) : Nat), .sl fl (liftB s).length (aOfBytes (liftB s))] (.k (.tup [.sl true (liftA s).length (aOfBytes (liftA s)), .int .i64 0])) :=
          lay_spec fl (liftE s) (liftQ s) (liftB s) he hq (by omega)
        have hAl : (liftA s).length = 32 * N := by
          unfold liftA layB
          rw [secsB_len (markB_len _ _), matB_len, hBl, hNe]; rfl
        have hAa := aOfBytes_len (liftA s)
        have s8 := equal_spec true (full && decide (((liftA s).length : Int) = (s.length : Int))) (liftA s) (s.take (liftA s).length)
        rw [List.length_take, Nat.min_eq_left (by omega : (liftA s).length ≤ s.length), ← aOfBytes_take] at s8
        have s9 := clip_spec fl (liftB s).length (aOfBytes (liftB s)) hBa
        rw [has2 h8 h40]
        by_cases heq : liftA s = s.take (liftA s).length
        · rw [decide_eq_true heq] at s8
          repeat (first | with_reducible (first | refine aWp_seq ?_ | refine seq_normal ?_ | refine seq_ret ?_ | refine seq_exit ?_ | refine blk_normal ?_ | refine blk_ret ?_ | refine blk_hit ?_ | refine blk_miss rfl ?_ | refine aWp_ret ?_ | refine aWp_skip ?_ | refine aWp_block ?_ | refine aWp_exit ?_ | refine end_ret ?_ | refine end_normal ?_) | ((refine rgA ?_); intro ν) | ((with_reducible apply cndT); exact rfl; (first | rfl | assumption)) | ((with_reducible apply cndF); exact rfl; (first | rfl | assumption)))
          refine rg fun K hK => ?_
          refine stA ?_
          (first | with_reducible refine g0 ?_ | ((with_reducible refine g1 ?_ ?_); (with_reducible apply gt_); exact rfl; exact rfl; (first | rfl | assumption | (simp [*] <;> done)))); refine scA (h2 := (s6)) (hk := ?_)
          refine stA ?_
          with_reducible refine rz ?_
          refine hK _ _ _ ?_
          clear hK K; intro ν
          repeat (first | with_reducible (first | refine aWp_seq ?_ | refine seq_normal ?_ | refine seq_ret ?_ | refine seq_exit ?_ | refine blk_normal ?_ | refine blk_ret ?_ | refine blk_hit ?_ | refine blk_miss rfl ?_ | refine aWp_ret ?_ | refine aWp_skip ?_ | refine aWp_block ?_ | refine aWp_exit ?_ | refine end_ret ?_ | refine end_normal ?_) | ((refine rgA ?_); intro ν) | ((with_reducible apply cndT); exact rfl; (first | rfl | assumption)) | ((with_reducible apply cndF); exact rfl; (first | rfl | assumption)))
          refine rg fun K hK => ?_
          refine stA ?_
          (first | with_reducible refine g0 ?_ | ((with_reducible refine g1 ?_ ?_); (with_reducible apply gt_); exact rfl; exact rfl; (first | rfl | assumption | (simp [*] <;> done)))); refine scA (h2 := (s7)) (hk := ?_)
          refine stA ?_
          with_reducible refine rz ?_
          refine hK _ _ _ ?_
          clear hK K; intro ν
          repeat (first | with_reducible (first | refine aWp_seq ?_ | refine seq_normal ?_ | refine seq_ret ?_ | refine seq_exit ?_ | refine blk_normal ?_ | refine blk_ret ?_ | refine blk_hit ?_ | refine blk_miss rfl ?_ | refine aWp_ret ?_ | refine aWp_skip ?_ | refine aWp_block ?_ | refine aWp_exit ?_ | refine end_ret ?_ | refine end_normal ?_) | ((refine rgA ?_); intro ν) | ((with_reducible apply cndT); exact rfl; (first | rfl | assumption)) | ((with_reducible apply cndF); exact rfl; (first | rfl | assumption)))
          refine rg fun K hK => ?_
          refine stA ?_
          (first | with_reducible refine g0 ?_ | ((with_reducible refine g1 ?_ ?_); (with_reducible apply gt_); exact rfl; exact rfl; (first | rfl | assumption | (simp [*] <;> done)))); refine scA (h2 := (s8)) (hk := ?_)
          refine stA ?_
          with_reducible refine rz ?_
          refine hK _ _ _ ?_
          clear hK K; intro ν
          repeat (first | with_reducible (first | refine aWp_seq ?_ | refine seq_normal ?_ | refine seq_ret ?_ | refine seq_exit ?_ | refine blk_normal ?_ | refine blk_ret ?_ | refine blk_hit ?_ | refine blk_miss rfl ?_ | refine aWp_ret ?_ | refine aWp_skip ?_ | refine aWp_block ?_ | refine aWp_exit ?_ | refine end_ret ?_ | refine end_normal ?_) | ((refine rgA ?_); intro ν) | ((with_reducible apply cndT); exact rfl; (first | rfl | assumption)) | ((with_reducible apply cndF); exact rfl; (first | rfl | assumption)))
          refine rg fun K hK => ?_
          refine stA ?_
          (first | with_reducible refine g0 ?_ | ((with_reducible refine g1 ?_ ?_); (with_reducible apply gt_); exact rfl; exact rfl; (first | rfl | assumption | (simp [*] <;> done)))); refine scA (h2 := (s9)) (hk := ?_)
          refine stA ?_
          with_reducible refine rz ?_
          refine hK _ _ _ ?_
          clear hK K; intro ν
          repeat (first | with_reducible (first | refine aWp_seq ?_ | refine seq_normal ?_ | refine seq_ret ?_ | refine seq_exit ?_ | refine blk_normal ?_ | refine blk_ret ?_ | refine blk_hit ?_ | refine blk_miss rfl ?_ | refine aWp_ret ?_ | refine aWp_skip ?_ | refine aWp_block ?_ | refine aWp_exit ?_ | refine end_ret ?_ | refine end_normal ?_) | ((refine rgA ?_); intro ν) | ((with_reducible apply cndT); exact rfl; (first | rfl | assumption)) | ((with_reducible apply cndF); exact rfl; (first | rfl | assumption)))
          (first | with_reducible refine end_r ?_ | with_reducible refine end_n ?_); refine en5 ?_
          rw [liftR, if_pos (by simp only [liftOk, ← hNe, h32, h2, decide_true, Bool.true_and]; exact decide_eq_true heq), hNe]; rfl
        · rw [decide_eq_false heq] at s8
          repeat (first | with_reducible (first | refine aWp_seq ?_ | refine seq_normal ?_ | refine seq_ret ?_ | refine seq_exit ?_ | refine blk_normal ?_ | refine blk_ret ?_ | refine blk_hit ?_ | refine blk_miss rfl ?_ | refine aWp_ret ?_ | refine aWp_skip ?_ | refine aWp_block ?_ | refine aWp_exit ?_ | refine end_ret ?_ | refine end_normal ?_) | ((refine rgA ?_); intro ν) | ((with_reducible apply cndT); exact rfl; (first | rfl | assumption)) | ((with_reducible apply cndF); exact rfl; (first | rfl | assumption)))
          refine rg fun K hK => ?_
          refine stA ?_
          (first | with_reducible refine g0 ?_ | ((with_reducible refine g1 ?_ ?_); (with_reducible apply gt_); exact rfl; exact rfl; (first | rfl | assumption | (simp [*] <;> done)))); refine scA (h2 := (s6)) (hk := ?_)
          refine stA ?_
          with_reducible refine rz ?_
          refine hK _ _ _ ?_
          clear hK K; intro ν
          repeat (first | with_reducible (first | refine aWp_seq ?_ | refine seq_normal ?_ | refine seq_ret ?_ | refine seq_exit ?_ | refine blk_normal ?_ | refine blk_ret ?_ | refine blk_hit ?_ | refine blk_miss rfl ?_ | refine aWp_ret ?_ | refine aWp_skip ?_ | refine aWp_block ?_ | refine aWp_exit ?_ | refine end_ret ?_ | refine end_normal ?_) | ((refine rgA ?_); intro ν) | ((with_reducible apply cndT); exact rfl; (first | rfl | assumption)) | ((with_reducible apply cndF); exact rfl; (first | rfl | assumption)))
          refine rg fun K hK => ?_
          refine stA ?_
          (first | with_reducible refine g0 ?_ | ((with_reducible refine g1 ?_ ?_); (with_reducible apply gt_); exact rfl; exact rfl; (first | rfl | assumption | (simp [*] <;> done)))); refine scA (h2 := (s7)) (hk := ?_)
          refine stA ?_
          with_reducible refine rz ?_
          refine hK _ _ _ ?_
          clear hK K; intro ν
          repeat (first | with_reducible (first | refine aWp_seq ?_ | refine seq_normal ?_ | refine seq_ret ?_ | refine seq_exit ?_ | refine blk_normal ?_ | refine blk_ret ?_ | refine blk_hit ?_ | refine blk_miss rfl ?_ | refine aWp_ret ?_ | refine aWp_skip ?_ | refine aWp_block ?_ | refine aWp_exit ?_ | refine end_ret ?_ | refine end_normal ?_) | ((refine rgA ?_); intro ν) | ((with_reducible apply cndT); exact rfl; (first | rfl | assumption)) | ((with_reducible apply cndF); exact rfl; (first | rfl | assumption)))
          refine rg fun K hK => ?_
          refine stA ?_
          (first | with_reducible refine g0 ?_ | ((with_reducible refine g1 ?_ ?_); (with_reducible apply gt_); exact rfl; exact rfl; (first | rfl | assumption | (simp [*] <;> done)))); refine scA (h2 := (s8)) (hk := ?_)
          refine stA ?_
          with_reducible refine rz ?_
          refine hK _ _ _ ?_
          clear hK K; intro ν
          repeat (first | with_reducible (first | refine aWp_seq ?_ | refine seq_normal ?_ | refine seq_ret ?_ | refine seq_exit ?_ | refine blk_normal ?_ | refine blk_ret ?_ | refine blk_hit ?_ | refine blk_miss rfl ?_ | refine aWp_ret ?_ | refine aWp_skip ?_ | refine aWp_block ?_ | refine aWp_exit ?_ | refine end_ret ?_ | refine end_normal ?_) | ((refine rgA ?_); intro ν) | ((with_reducible apply cndT); exact rfl; (first | rfl | assumption)) | ((with_reducible apply cndF); exact rfl; (first | rfl | assumption)))
          (first | with_reducible refine end_r ?_ | with_reducible refine end_n ?_); refine en5 ?_
          rw [liftR, if_neg (by simp only [liftOk, ← hNe, h32, h2, decide_true, Bool.true_and]; rw [decide_eq_false heq]; simp)]; rfl
    · repeat (first | with_reducible (first | refine aWp_seq ?_ | refine seq_normal ?_ | refine seq_ret ?_ | refine seq_exit ?_ | refine blk_normal ?_ | refine blk_ret ?_ | refine blk_hit ?_ | refine blk_miss rfl ?_ | refine aWp_ret ?_ | refine aWp_skip ?_ | refine aWp_block ?_ | refine aWp_exit ?_ | refine end_ret ?_ | refine end_normal ?_) | ((refine rgA ?_); intro ν) | ((with_reducible apply cndT); exact rfl; (first | rfl | assumption)) | ((with_reducible apply cndF); exact rfl; (first | rfl | assumption)))
      (first | with_reducible refine end_r ?_ | with_reducible refine end_n ?_); refine en5 ?_
      rw [liftR, if_neg (by simp [liftOk, ← hNe, h2])]; rfl
  · repeat (first | with_reducible (first | refine aWp_seq ?_ | refine seq_normal ?_ | refine seq_ret ?_ | refine seq_exit ?_ | refine blk_normal ?_ | refine blk_ret ?_ | refine blk_hit ?_ | refine blk_miss rfl ?_ | refine aWp_ret ?_ | refine aWp_skip ?_ | refine aWp_block ?_ | refine aWp_exit ?_ | refine end_ret ?_ | refine end_normal ?_) | ((refine rgA ?_); intro ν) | ((with_reducible apply cndT); exact rfl; (first | rfl | assumption)) | ((with_reducible apply cndF); exact rfl; (first | rfl | assumption)))
    (first | with_reducible refine end_r ?_ | with_reducible refine end_n ?_); refine en5 ?_
    rw [liftR, if_neg (by simp [liftOk, h32])]; rfl
end Go.Proofs.Ytikganlbnhapcaa
