import Derived.Test.YtmbnclpgldglnaaSha4
namespace Go.Proofs.Ytmbnclpgldglnaa
open Go.RowKit
set_option linter.unusedVariables false
set_option linter.unusedSimpArgs false
set_option maxRecDepth 20000
/-! the digest -/
def stepA (ks h : List (BitVec 32)) (x : List AV) : List (BitVec 32) :=
  match x with
  | [.sl _ _ cs] => press ks h ((aBytes cs).getD [])
  | _ => h
def blocksB (m : List UInt8) : List (List UInt8) := (List.range (chN m.length 64)).map fun j => (m.drop (j * 64)).take 64
def digW (l : List UInt8) : List (BitVec 32) := (blocksB (msgB l)).foldl (press wordsK) startH
def outF (h : List (BitVec 32)) (q : Nat) : UInt8 := UInt8.ofBitVec ((h.getD (q / 4) 0 >>> (24 - 8 * (q % 4))).setWidth 8)
def outN (h : List (BitVec 32)) (n : Nat) : List UInt8 := (List.range n).map (outF h)
def shaB (l : List UInt8) : List UInt8 := outN (digW l) 32
theorem outN_len (h : List (BitVec 32)) (n : Nat) : (outN h n).length = n := by simp [outN]
theorem shaB_len (l : List UInt8) : (shaB l).length = 32 := outN_len _ _
theorem outN_next (h : List (BitVec 32)) (n : Nat) : outN h (n + 1) = outN h n ++ [outF h n] := by simp [outN, List.range_succ]
theorem stepA_len (ks h : List (BitVec 32)) (x : List AV) : (stepA ks h x).length = h.length := by
  unfold stepA; split
  · exact press_len _ _ _
  · rfl
theorem foldA_len (ks : List (BitVec 32)) (pre : List (List AV)) : ∀ h : List (BitVec 32), (pre.foldl (stepA ks) h).length = h.length := by
  induction pre with
  | nil => intro h; rfl
  | cons x pre ih => intro h; rw [List.foldl_cons, ih, stepA_len]
theorem bytes_take (l : List UInt8) (n : Nat) : aOfBytes (l.take n) = (aOfBytes l).take n := by simp [aOfBytes]
theorem bytes_drop (l : List UInt8) (n : Nat) : aOfBytes (l.drop n) = (aOfBytes l).drop n := by simp [aOfBytes]
theorem stepA_eq (ks h : List (BitVec 32)) (f : Bool) (n : Nat) (b : List UInt8) : stepA ks h [.sl f n (aOfBytes b)] = press ks h b := by
  simp only [stepA, aBytes_of', Option.getD_some]
theorem foldA_eq (ks : List (BitVec 32)) (m : List UInt8) (h : List (BitVec 32)) : (chunkL 64 (aOfBytes m)).foldl (stepA ks) h = (blocksB m).foldl (press ks) h := by
  unfold chunkL blocksB
  rw [aOfBytes_len]
  generalize List.range (chN m.length 64) = l
  induction l generalizing h with
  | nil => rfl
  | cons j l ih => rw [List.map_cons, List.map_cons, List.foldl_cons, List.foldl_cons, ← bytes_drop, ← bytes_take, stepA_eq, ih]
theorem chunks_64 {m : List UInt8} {x : List AV} (hm : m.length % 64 = 0) (h : x ∈ chunkL 64 (aOfBytes m)) : ∃ b : List UInt8, b.length = 64 ∧ x = [.sl true 64 (aOfBytes b)] := by
  simp only [chunkL, List.mem_map, List.mem_range] at h
  obtain ⟨j, hj, rfl⟩ := h
  have hj := (chN_lt (by omega)).1 hj
  rw [aOfBytes_len] at hj
  refine ⟨(m.drop (j * 64)).take 64, by simp; omega, ?_⟩
  rw [bytes_take, bytes_drop, aOfBytes_len, show min 64 (m.length - j * 64) = 64 by omega]
set_option maxHeartbeats 16000000 in
theorem of_spec (full : Bool) (ps : List (Bool × List UInt8)) (hb : (ps.flatMap (·.2)).length ≤ 900000) (hN : ps.length ≤ 1000000) :
    Spec Try.prog 61 [.sl full ps.length (pCells (ps.map pB))] (.k (.agg (aOfBytes (shaB (ps.flatMap (·.2)))))) := by
  have s3 := message_spec full ps hb hN
  have s1 := start_spec
  have s2 := words_spec
  unfold shaB digW
  have hm := msgB_mod (ps.flatMap (·.2))
  have hml : 0 < (msgB (ps.flatMap (·.2))).length ∧ (msgB (ps.flatMap (·.2))).length ≤ 900100 := by
    rw [msgB_len]; have := padN_lt (ps.flatMap (·.2)).length; omega
  have h8 : startH.length = 8 := rfl
  have hk : wordsK.length = 64 := rfl
  generalize msgB (ps.flatMap (·.2)) = M at *
  generalize startH = h0 at *
  generalize wordsK = ks at *
  have s4 := chunk_spec false M.length (aOfBytes M) 64 (by omega)
  have hMa := aOfBytes_len M
  have hha := aOfW_len h0
  have hka := aOfW_len ks
  rw [← foldA_eq]
  refine spec_of (fun _ => false) (by kernel_rfl) Try.func61 rfl rfl (by simp [Try.ntmps61]) (by decide) ?_
  intro δ
  rw [init1]
  repeat (first | with_reducible (first | refine aWp_seq ?_ | refine seq_normal ?_ | refine seq_ret ?_ | refine seq_exit ?_ | refine blk_normal ?_ | refine blk_ret ?_ | refine blk_hit ?_ | refine blk_miss rfl ?_ | refine aWp_ret ?_ | refine aWp_skip ?_ | refine aWp_block ?_ | refine aWp_exit ?_ | refine end_ret ?_ | refine end_normal ?_) | ((refine rgA ?_); intro ν) | ((with_reducible apply cndT); exact rfl; (first | rfl | assumption)) | ((with_reducible apply cndF); exact rfl; (first | rfl | assumption)))
  refine rg fun K hK => ?_
  refine stA ?_
  (first | with_reducible refine g0 ?_ | ((with_reducible refine g1 ?_ ?_); (with_reducible apply gt_); exact rfl; exact rfl; (first | rfl | assumption | (simp [*] <;> done)))); refine scA (h2 := (s1)) (hk := ?_)
  refine stA ?_
  (first | with_reducible refine g0 ?_ | ((with_reducible refine g1 ?_ ?_); (with_reducible apply gt_); exact rfl; exact rfl; (first | rfl | assumption | (simp [*] <;> done)))); refine scA (h2 := (s2)) (hk := ?_)
  refine stA ?_
  with_reducible refine rz ?_
  refine hK _ _ _ ?_
  clear hK K; intro ν
  repeat (first | with_reducible (first | refine aWp_seq ?_ | refine seq_normal ?_ | refine seq_ret ?_ | refine seq_exit ?_ | refine blk_normal ?_ | refine blk_ret ?_ | refine blk_hit ?_ | refine blk_miss rfl ?_ | refine aWp_ret ?_ | refine aWp_skip ?_ | refine aWp_block ?_ | refine aWp_exit ?_ | refine end_ret ?_ | refine end_normal ?_) | ((refine rgA ?_); intro ν) | ((with_reducible apply cndT); exact rfl; (first | rfl | assumption)) | ((with_reducible apply cndF); exact rfl; (first | rfl | assumption)))
  refine rg fun K hK => ?_
  refine stA ?_
  (first | with_reducible refine g0 ?_ | ((with_reducible refine g1 ?_ ?_); (with_reducible apply gt_); exact rfl; exact rfl; (first | rfl | assumption | (simp [*] <;> done)))); refine scA (h2 := (s3)) (hk := ?_)
  refine stA ?_
  (first | with_reducible refine g0 ?_ | ((with_reducible refine g1 ?_ ?_); (with_reducible apply gt_); exact rfl; exact rfl; (first | rfl | assumption | (simp [*] <;> done)))); refine scA (h2 := (s4)) (hk := ?_)
  refine stA ?_
  with_reducible refine rz ?_
  refine hK _ _ _ ?_
  clear hK K; intro ν
  repeat (first | with_reducible (first | refine aWp_seq ?_ | refine seq_normal ?_ | refine seq_ret ?_ | refine seq_exit ?_ | refine blk_normal ?_ | refine blk_ret ?_ | refine blk_hit ?_ | refine blk_miss rfl ?_ | refine aWp_ret ?_ | refine aWp_skip ?_ | refine aWp_block ?_ | refine aWp_exit ?_ | refine end_ret ?_ | refine end_normal ?_) | ((refine rgA ?_); intro ν) | ((with_reducible apply cndT); exact rfl; (first | rfl | assumption)) | ((with_reducible apply cndF); exact rfl; (first | rfl | assumption)))
  have hit := chunk_iter false (aOfBytes M) 64 (by omega) (by omega) (by intro h; rw [h] at hMa; simp at hMa; omega) (by omega)
  rw [hMa] at hit
  refine aWp_range2 (k1 := 3) (k2 := 4) rfl hit (fun x hx => by obtain ⟨b, _, rfl⟩ := chunks_64 hm hx; rfl) rfl rfl rfl
    (fun g3 g4 pre T => T 3 = some (g3, .obj (aOfW (pre.foldl (stepA ks) h0))) ∧ T 4 = some (g4, .obj (aOfW ks)) ∧ T 2 = some (0 + 0, .obj (List.replicate 32 (.int .u8 0)))) ?_ ?_ ?_
  · refine ⟨?_, ?_, rfl⟩
    · first | rfl | (rw [upd_ne _ _ _ _ (by omega), upd_same])
    · dsimp only; rw [upd_same, drop_rep, List.append_nil]
  · rintro pre x T ν ⟨t3, t4, t2⟩ hlt hpre hx
    obtain ⟨b, hb64, rfl⟩ := chunks_64 hm hx
    dsimp only [putPs, runAs]
    rw [upd_same, List.foldl_append]
    have hf8 := (foldA_len ks pre h0).trans h8
    generalize pre.foldl (stepA ks) h0 = h at *
    have hfa := aOfW_len h
    rw [List.foldl_cons, List.foldl_nil, stepA_eq]
    have hp8 := (press_len ks h b).trans hf8
    have s5 := round_spec true h ks b hf8 hk hb64
    generalize press ks h b = h2 at *
    have hpa := aOfW_len h2
    have e1 := ld_arr (n := 8) (e := 85) (aOfW h) (sz := 8) (by omega)
    have e2 : List.drop 8 (aOfW h) = [] := List.drop_of_length_le (by omega)
    rw [has3 t3 t4 t2]
    repeat (first | with_reducible (first | refine aWp_seq ?_ | refine seq_normal ?_ | refine seq_ret ?_ | refine seq_exit ?_ | refine blk_normal ?_ | refine blk_ret ?_ | refine blk_hit ?_ | refine blk_miss rfl ?_ | refine aWp_ret ?_ | refine aWp_skip ?_ | refine aWp_block ?_ | refine aWp_exit ?_ | refine end_ret ?_ | refine end_normal ?_) | ((refine rgA ?_); intro ν) | ((with_reducible apply cndT); exact rfl; (first | rfl | assumption)) | ((with_reducible apply cndF); exact rfl; (first | rfl | assumption)))
    refine rg fun K hK => ?_
    refine stA ?_
    (first | with_reducible refine g0 ?_ | ((with_reducible refine g1 ?_ ?_); (with_reducible apply gt_); exact rfl; exact rfl; (first | rfl | assumption | (simp [*] <;> done)))); refine scA (h2 := (s5)) (hk := ?_)
    refine stA ?_
    with_reducible refine rz ?_
    refine hK _ _ _ ?_
    clear hK K; intro ν
    repeat (first | with_reducible (first | refine aWp_seq ?_ | refine seq_normal ?_ | refine seq_ret ?_ | refine seq_exit ?_ | refine blk_normal ?_ | refine blk_ret ?_ | refine blk_hit ?_ | refine blk_miss rfl ?_ | refine aWp_ret ?_ | refine aWp_skip ?_ | refine aWp_block ?_ | refine aWp_exit ?_ | refine end_ret ?_ | refine end_normal ?_) | ((refine rgA ?_); intro ν) | ((with_reducible apply cndT); exact rfl; (first | rfl | assumption)) | ((with_reducible apply cndF); exact rfl; (first | rfl | assumption)))
    refine ⟨rfl, ?_, rfl, rfl⟩
    dsimp only; rw [upd_same, e2, List.append_nil]
  · rintro T ν ⟨t3, t4, t2⟩
    have hf8 := (foldA_len ks (chunkL 64 (aOfBytes M)) h0).trans h8
    generalize (chunkL 64 (aOfBytes M)).foldl (stepA ks) h0 = h at *
    have hfa := aOfW_len h
    have e1 := ld_arr (n := 8) (e := 85) (aOfW h) (sz := 8) (by omega)
    rw [has3 t3 t4 t2]
    repeat (first | with_reducible (first | refine aWp_seq ?_ | refine seq_normal ?_ | refine seq_ret ?_ | refine seq_exit ?_ | refine blk_normal ?_ | refine blk_ret ?_ | refine blk_hit ?_ | refine blk_miss rfl ?_ | refine aWp_ret ?_ | refine aWp_skip ?_ | refine aWp_block ?_ | refine aWp_exit ?_ | refine end_ret ?_ | refine end_normal ?_) | ((refine rgA ?_); intro ν) | ((with_reducible apply cndT); exact rfl; (first | rfl | assumption)) | ((with_reducible apply cndF); exact rfl; (first | rfl | assumption)))
    refine aWp_loop (fun m s => ∃ F T ν i g2 g6, m = 8 - i ∧ i ≤ 8 ∧ s = ⟨F, T, ν, ⟨fun _ => false, δ, false⟩⟩ ∧
      F 2 = .ob 2 g2 0 ∧ F 6 = .ob 6 g6 0 ∧ F 19 = .k (.agg (aOfW h)) ∧ F 20 = .k (.int .i64 (i : Nat)) ∧ T 2 = some (g2, .obj (List.replicate 32 (.int .u8 0))) ∧ T 6 = some (g6, .obj (aOfBytes (outN h (4 * i)) ++ List.replicate (32 - 4 * i) (.int .u8 0)))) 8 ⟨_, _, _, 0, _, _, rfl, Nat.zero_le _, rfl, rfl, rfl, rfl, rfl, rfl, rfl⟩ ?_
    rintro m s ⟨F, T, ν, i, g2, g6, rfl, hi, rfl, f2, f6, f19, f20, t2, t6⟩
    rw [has4 f2 f6 f19 f20, has2 t2 t6]
    by_cases hlt : i < 8
    · have lw : ldAgg (.int .u32) 1 (List.drop ((i : Int).toNat * 1) (aOfW h)) = some (.int .u32 (n32 (h.getD i 0))) := by
        rw [Int.toNat_natCast, Nat.mul_one]; exact ld_w0 h i (by omega)
      repeat (first | with_reducible (first | refine aWp_seq ?_ | refine seq_normal ?_ | refine seq_ret ?_ | refine seq_exit ?_ | refine blk_normal ?_ | refine blk_ret ?_ | refine blk_hit ?_ | refine blk_miss rfl ?_ | refine aWp_ret ?_ | refine aWp_skip ?_ | refine aWp_block ?_ | refine aWp_exit ?_ | refine end_ret ?_ | refine end_normal ?_) | ((refine rgA ?_); intro ν) | ((with_reducible apply cndT); exact rfl; (first | rfl | assumption)) | ((with_reducible apply cndF); exact rfl; (first | rfl | assumption)))
      refine aWp_loop (fun m s => ∃ F T ν j g2 g6, m = 4 - j ∧ j ≤ 4 ∧ s = ⟨F, T, ν, ⟨fun _ => false, δ, false⟩⟩ ∧
        F 2 = .ob 2 g2 0 ∧ F 6 = .ob 6 g6 0 ∧ F 7 = .k (.int .i64 (i : Nat)) ∧ F 8 = .k (.int .u32 (n32 (h.getD i 0))) ∧ F 19 = .k (.agg (aOfW h)) ∧ F 20 = .k (.int .i64 (i : Nat)) ∧ F 24 = .k (.int .i64 (j : Nat)) ∧ T 2 = some (g2, .obj (List.replicate 32 (.int .u8 0))) ∧ T 6 = some (g6, .obj (aOfBytes (outN h (4 * i + j)) ++ List.replicate (32 - (4 * i + j)) (.int .u8 0)))) 4 ⟨_, _, _, 0, _, _, rfl, Nat.zero_le _, rfl, rfl, rfl, rfl, rfl, rfl, rfl, rfl, rfl, rfl⟩ ?_
      rintro m s ⟨F, T, ν, j, g2, g6, rfl, hj, rfl, f2, f6, f7, f8, f19, f20, f24, t2, t6⟩
      rw [has7 f2 f6 f7 f8 f19 f20 f24, has2 t2 t6]
      have hol := outN_len h (4 * i + j)
      have hoa := aOfBytes_len (outN h (4 * i + j))
      have hlen : (aOfBytes (outN h (4 * i + j)) ++ List.replicate (32 - (4 * i + j)) (AV.int .u8 0)).length = 32 := by rw [List.length_append, hoa, hol, List.length_replicate]; omega
      by_cases hlj : j < 4
      · have hst := fill_next (xs := aOfBytes (outN h (4 * i + j))) (z := AV.int .u8 0) (v := .int .u8 ((outF h (4 * i + j)).toNat : Int)) (t := 4 * i + j) (n := 32) (by omega) (by omega)
        have e5 : (4 * (i : Int) + (j : Int)).toNat = 4 * i + j := by omega
        have e6 : (24 - 8 * (j : Int)).toNat = 24 - 8 * j := by omega
        have e7 : (4 * i + j) / 4 = i := by omega
        have e8 : (4 * i + j) % 4 = j := by omega
        repeat (first | with_reducible (first | refine aWp_seq ?_ | refine seq_normal ?_ | refine seq_ret ?_ | refine seq_exit ?_ | refine blk_normal ?_ | refine blk_ret ?_ | refine blk_hit ?_ | refine blk_miss rfl ?_ | refine aWp_ret ?_ | refine aWp_skip ?_ | refine aWp_block ?_ | refine aWp_exit ?_ | refine end_ret ?_ | refine end_normal ?_) | ((refine rgA ?_); intro ν) | ((with_reducible apply cndT); exact rfl; (first | rfl | assumption)) | ((with_reducible apply cndF); exact rfl; (first | rfl | assumption)))
        refine ⟨4 - (j + 1), by omega, _, _, _, j + 1, g2, g6, rfl, by omega, rfl, rfl, rfl, rfl, rfl, rfl, rfl, ?_, rfl, ?_⟩
        · show (SV.k (.int .i64 ((j : Int) + 1)) : SV) = _
          rw [Int.natCast_succ]
        · rw [upd_same]
          rw [e5]
          rw [show 4 * i + (j + 1) = (4 * i + j) + 1 by omega, outN_next, aOfBytes_append]
          rw [show aOfBytes [outF h (4 * i + j)] = [.int .u8 ((outF h (4 * i + j)).toNat : Int)] from rfl, ← hst, outF, e7, e8, e6]
      · have hje : j = 4 := by omega
        subst hje
        repeat (first | with_reducible (first | refine aWp_seq ?_ | refine seq_normal ?_ | refine seq_ret ?_ | refine seq_exit ?_ | refine blk_normal ?_ | refine blk_ret ?_ | refine blk_hit ?_ | refine blk_miss rfl ?_ | refine aWp_ret ?_ | refine aWp_skip ?_ | refine aWp_block ?_ | refine aWp_exit ?_ | refine end_ret ?_ | refine end_normal ?_) | ((refine rgA ?_); intro ν) | ((with_reducible apply cndT); exact rfl; (first | rfl | assumption)) | ((with_reducible apply cndF); exact rfl; (first | rfl | assumption)))
        refine ⟨8 - (i + 1), by omega, _, _, _, i + 1, g2, g6, rfl, by omega, rfl, rfl, rfl, rfl, ?_, rfl, rfl⟩
        show (SV.k (.int .i64 ((i : Int) + 1)) : SV) = _
        rw [Int.natCast_succ]
    · have hie : i = 8 := by omega
      subst hie
      have hol := outN_len h 32
      have hoa := aOfBytes_len (outN h 32)
      rw [Nat.sub_self, List.replicate_zero, List.append_nil]
      clear t2 t6
      rw [show 4 * 8 = 32 from rfl]
      generalize outN h 32 = out at *
      have e2 := ld_arr (n := 32) (e := 5) (aOfBytes out) (sz := 32) (by omega)
      repeat (first | with_reducible (first | refine aWp_seq ?_ | refine seq_normal ?_ | refine seq_ret ?_ | refine seq_exit ?_ | refine blk_normal ?_ | refine blk_ret ?_ | refine blk_hit ?_ | refine blk_miss rfl ?_ | refine aWp_ret ?_ | refine aWp_skip ?_ | refine aWp_block ?_ | refine aWp_exit ?_ | refine end_ret ?_ | refine end_normal ?_) | ((refine rgA ?_); intro ν) | ((with_reducible apply cndT); exact rfl; (first | rfl | assumption)) | ((with_reducible apply cndF); exact rfl; (first | rfl | assumption)))
      rw [drop_rep, List.append_nil]
      (first | with_reducible refine end_r ?_ | with_reducible refine end_n ?_); refine en1c ?_
      rfl
end Go.Proofs.Ytmbnclpgldglnaa
