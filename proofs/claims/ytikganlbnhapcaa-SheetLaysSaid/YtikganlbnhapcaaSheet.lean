import Derived.Test.YtikganlbnhapcaaConcat
import Derived.Test.YtikganlbnhapcaaAvBytes
import Derived.Test.YtikganlbnhapcaaCrcPure
namespace Go.Proofs.Ytikganlbnhapcaa
open Go.RowKit
set_option linter.unusedVariables false
set_option linter.unusedSimpArgs false
set_option maxRecDepth 20000
theorem pI_len (l : List UInt8) (n : Int) : (pI l n).length = l.length + 8 := by simp [pI, fb_len, tb_len, encI_len]
def lastB (n : Int) (many : Nat) : List UInt8 := (pI [] n).drop (8 - many)
theorem lastB_len (n : Int) (many : Nat) (h : many ≤ 8) : (lastB n many).length = many := by simp [lastB, pI_len]; omega
theorem aOfBytes_drop (l : List UInt8) (k : Nat) : (aOfBytes l).drop k = aOfBytes (l.drop k) := by simp [aOfBytes, List.map_drop]
theorem aOfBytes_take (l : List UInt8) (k : Nat) : (aOfBytes l).take k = aOfBytes (l.take k) := by simp [aOfBytes, List.map_take]
theorem last_spec (n : Int) (many : Nat) (h : many ≤ 8) : Spec Try.prog 63 [.int .i64 n, .int .i64 many] (.k (.sl false many (aOfBytes (lastB n many)))) := by
  refine spec_of (fun _ => false) (by kernel_rfl) Try.func63 rfl rfl (by simp [Try.ntmps63]) (by decide) ?_
  intro δ
  rw [init2]
  have s1 := aInt_spec true [] n (by simp)
  rw [show aOfBytes [] = [] from rfl, List.length_nil] at s1
  have hl := aOfBytes_len (pI [] n)
  have hp := pI_len [] n
  rw [List.length_nil] at hp
  repeat (first | with_reducible (first | refine aWp_seq ?_ | refine seq_normal ?_ | refine seq_ret ?_ | refine seq_exit ?_ | refine blk_normal ?_ | refine blk_ret ?_ | refine blk_hit ?_ | refine blk_miss rfl ?_ | refine aWp_ret ?_ | refine aWp_skip ?_ | refine aWp_block ?_ | refine aWp_exit ?_ | refine end_ret ?_ | refine end_normal ?_) | ((refine rgA ?_); intro ν) | ((with_reducible apply cndT); exact rfl; (first | rfl | assumption)) | ((with_reducible apply cndF); exact rfl; (first | rfl | assumption)))
  refine rg fun K hK => ?_
  refine stA ?_
  (first | with_reducible refine g0 ?_ | ((with_reducible refine g1 ?_ ?_); (with_reducible apply gt_); exact rfl; exact rfl; (first | rfl | assumption | (simp [*] <;> done)))); refine scA (h2 := (s1)) (hk := ?_)
  refine stA ?_
  with_reducible refine rz ?_
  refine hK _ _ _ ?_
  clear hK K; intro ν
  repeat (first | with_reducible (first | refine aWp_seq ?_ | refine seq_normal ?_ | refine seq_ret ?_ | refine seq_exit ?_ | refine blk_normal ?_ | refine blk_ret ?_ | refine blk_hit ?_ | refine blk_miss rfl ?_ | refine aWp_ret ?_ | refine aWp_skip ?_ | refine aWp_block ?_ | refine aWp_exit ?_ | refine end_ret ?_ | refine end_normal ?_) | ((refine rgA ?_); intro ν) | ((with_reducible apply cndT); exact rfl; (first | rfl | assumption)) | ((with_reducible apply cndF); exact rfl; (first | rfl | assumption)))
  (first | with_reducible refine end_r ?_ | with_reducible refine end_n ?_); refine en1 ?_
  rw [show (8 - (many : Int)).toNat = 8 - many by omega, aOfBytes_take, List.take_length, aOfBytes_drop, lastB]
  simp only [Bool.false_and]
  congr 1
  omega
def markB (e s : Int) : List UInt8 := lastB e 4 ++ lastB s 4
theorem markB_len (e s : Int) : (markB e s).length = 8 := by simp [markB, lastB_len]
def pB (p : Bool × List UInt8) : Part := (p.1, aOfBytes p.2)
theorem pB_all (ps : List (Bool × List UInt8)) : pAll (ps.map pB) = aOfBytes (ps.flatMap (·.2)) := by
  induction ps with
  | nil => rfl
  | cons p ps ih => simp only [List.map_cons, pAll, List.flatMap_cons, aOfBytes_append] at ih ⊢; rw [ih]; rfl
theorem concatB_spec (full : Bool) (ps : List (Bool × List UInt8)) (h0 : 0 < (ps.flatMap (·.2)).length) (hb : (ps.flatMap (·.2)).length ≤ 100000000) (hN : ps.length ≤ 1000000) : Spec Try.prog 57 [.sl full ps.length (pCells (ps.map pB))] (.k (.sl false (ps.flatMap (·.2)).length (aOfBytes (ps.flatMap (·.2))))) := by
  have h := concat_spec full (ps.map pB) (by rw [pB_all, aOfBytes_len]; exact h0) (by rw [pB_all, aOfBytes_len]; exact hb) (by simpa using hN)
  rw [pB_all, aOfBytes_len, List.length_map] at h
  exact h
theorem marked_spec (e s : Int) : Spec Try.prog 62 [.int .i64 e, .int .i64 s] (.k (.sl false 8 (aOfBytes (markB e s)))) := by
  refine spec_of (fun _ => false) (by kernel_rfl) Try.func62 rfl rfl (by simp [Try.ntmps62]) (by decide) ?_
  intro δ
  rw [init2]
  have s1 := last_spec e 4 (by omega)
  have s2 := last_spec s 4 (by omega)
  have hl1 := lastB_len e 4 (by omega)
  have hl2 := lastB_len s 4 (by omega)
  have s3 := concatB_spec false [(false, lastB e 4), (false, lastB s 4)] (by simp [hl1, hl2]) (by simp [hl1, hl2]) (by simp)
  simp only [List.map_cons, List.map_nil, pCells, pB, Part.av, List.flatMap_cons, List.flatMap_nil, List.append_nil, aOfBytes_len, List.length_append, hl1, hl2, List.length_cons, List.length_nil, Nat.reduceAdd] at s3
  repeat (first | with_reducible (first | refine aWp_seq ?_ | refine seq_normal ?_ | refine seq_ret ?_ | refine seq_exit ?_ | refine blk_normal ?_ | refine blk_ret ?_ | refine blk_hit ?_ | refine blk_miss rfl ?_ | refine aWp_ret ?_ | refine aWp_skip ?_ | refine aWp_block ?_ | refine aWp_exit ?_ | refine end_ret ?_ | refine end_normal ?_) | ((refine rgA ?_); intro ν) | ((with_reducible apply cndT); exact rfl; (first | rfl | assumption)) | ((with_reducible apply cndF); exact rfl; (first | rfl | assumption)))
  refine rg fun K hK => ?_
  refine stA ?_
  (first | with_reducible refine g0 ?_ | ((with_reducible refine g1 ?_ ?_); (with_reducible apply gt_); exact rfl; exact rfl; (first | rfl | assumption | (simp [*] <;> done)))); refine scA (h2 := (s1)) (hk := ?_)
  refine stA ?_
  (first | with_reducible refine g0 ?_ | ((with_reducible refine g1 ?_ ?_); (with_reducible apply gt_); exact rfl; exact rfl; (first | rfl | assumption | (simp [*] <;> done)))); refine scA (h2 := (s2)) (hk := ?_)
  refine stA ?_
  (first | with_reducible refine g0 ?_ | ((with_reducible refine g1 ?_ ?_); (with_reducible apply gt_); exact rfl; exact rfl; (first | rfl | assumption | (simp [*] <;> done)))); refine scA (h2 := (s3)) (hk := ?_)
  refine stA ?_
  with_reducible refine rz ?_
  refine hK _ _ _ ?_
  clear hK K; intro ν
  repeat (first | with_reducible (first | refine aWp_seq ?_ | refine seq_normal ?_ | refine seq_ret ?_ | refine seq_exit ?_ | refine blk_normal ?_ | refine blk_ret ?_ | refine blk_hit ?_ | refine blk_miss rfl ?_ | refine aWp_ret ?_ | refine aWp_skip ?_ | refine aWp_block ?_ | refine aWp_exit ?_ | refine end_ret ?_ | refine end_normal ?_) | ((refine rgA ?_); intro ν) | ((with_reducible apply cndT); exact rfl; (first | rfl | assumption)) | ((with_reducible apply cndF); exact rfl; (first | rfl | assumption)))
  (first | with_reducible refine end_r ?_ | with_reducible refine end_n ?_); refine en1 ?_
  rfl
def crcI (ls : List (List UInt8)) : Int := n32 (crcOf (ls.map tb))
theorem crcI_lo (ls : List (List UInt8)) : 0 ≤ crcI ls := n32_lo _
theorem crcI_hi (ls : List (List UInt8)) : crcI ls ≤ 4294967295 := by have := n32_hi (crcOf (ls.map tb)); unfold crcI; omega
theorem crc_spec (full : Bool) (ps : List (Bool × List UInt8)) : Spec Try.prog 64 [.sl full ps.length (pCells (ps.map pB))] (.k (.int .u32 (crcI (ps.map (·.2))))) := by
  refine spec_calls ⟨_, Try.func64, rfl, rfl⟩ fun K w vs hk ha => ?_
  obtain ⟨u, rfl, g0⟩ := args1 ha
  have hl : (pCells (ps.map pB)).length = ps.length := by simp [pCells]
  refine (crc_of_calls ((ps.map (·.2)).map tb) u w ?_).mono ?_
  · obtain ⟨a, c, rfl, h1, h2, _, h3⟩ := ksl_inv g0
    rcases h3 with ⟨q, _⟩ | ⟨b, o, rfl, h3, h4⟩
    · have : ps = [] := List.eq_nil_of_length_eq_zero q
      subst this
      exact ⟨[], rfl, ⟨_, _, rfl, Nat.zero_le _, h2, .inl rfl⟩, fun i hi => absurd hi (Nat.not_lt_zero i)⟩
    · rw [hl] at h3
      refine ⟨(List.range ps.length).map fun i => K.val b (o + i), by simp, ⟨some ⟨b, o, none⟩, c, by simp, by simpa using h1, h2, .inr ⟨b, o, rfl, fun i hi => ?_⟩⟩, fun i hi => ?_⟩
      · have hi : i < ps.length := by simpa using hi
        rw [(hk.at_ h3 hi).1]; simp [hi]
      · have hi : i < ps.length := by simpa using hi
        have hx : (pCells (ps.map pB))[i]? = some (Part.av (pB ps[i])) := by simp [pCells, hi]
        have := rd_of_k hk (l := ps[i].2) (full := ps[i].1) (v := K.val b (o + i)) (by have := h4 i _ hx; simpa [Part.av, pB, aOfBytes_len] using this)
        simpa [hi] using this
  · rintro e w' ⟨rfl, rfl⟩
    exact ⟨_, rfl, Below.refl _ _, .int _ _⟩
theorem aZeros8 (n : Nat) : aZeros n 1 [.int .u8 0] = List.replicate n (.int .u8 0) := by
  simp only [aZeros, Nat.mul_one, Nat.mod_one, List.getD_cons_zero]
  apply List.ext_getElem
  · simp
  · intro i h1 h2; simp
theorem clip_spec (full : Bool) (n : Nat) (cs : List AV) (hl : cs.length = n) : Spec Try.prog 65 [.sl full n cs] (.k (.sl true n cs)) := by
  refine spec_of (fun _ => false) (by kernel_rfl) Try.func65 rfl rfl (by simp [Try.ntmps65]) (by decide) ?_
  intro δ
  rw [init1]
  repeat (first | with_reducible (first | refine aWp_seq ?_ | refine seq_normal ?_ | refine seq_ret ?_ | refine seq_exit ?_ | refine blk_normal ?_ | refine blk_ret ?_ | refine blk_hit ?_ | refine blk_miss rfl ?_ | refine aWp_ret ?_ | refine aWp_skip ?_ | refine aWp_block ?_ | refine aWp_exit ?_ | refine end_ret ?_ | refine end_normal ?_) | ((refine rgA ?_); intro ν) | ((with_reducible apply cndT); exact rfl; (first | rfl | assumption)) | ((with_reducible apply cndF); exact rfl; (first | rfl | assumption)))
  (first | with_reducible refine end_r ?_ | with_reducible refine end_n ?_); refine en1 ?_
  simp [← hl]
/-- a part's sector -/
def secB (m d : List UInt8) (j : Nat) : List UInt8 := let p := (d.drop (j * 24)).take 24; p ++ List.replicate (24 - p.length) 0 ++ m
def matB (e s : Int) (b : List UInt8) : List UInt8 := lastB b.length 2 ++ b ++ lastB (crcI [markB e s, lastB b.length 2 ++ b]) 4
def secsB (m d : List UInt8) (k : Nat) : List UInt8 := (List.range k).flatMap (secB m d)
def layB (e s : Int) (b : List UInt8) : List UInt8 := secsB (markB e s) (matB e s b) (chN (matB e s b).length 24)
theorem matB_len (e s : Int) (b : List UInt8) : (matB e s b).length = b.length + 6 := by simp [matB, lastB_len]; omega
/-- what a round puts down -/
def secA (m : List AV) : List AV → List AV
  | [.sl _ n cs] => cs ++ List.replicate (24 - n) (.int .u8 0) ++ m
  | _ => []
theorem secB_len {m d : List UInt8} {j : Nat} (hm : m.length = 8) : (secB m d j).length = 32 := by
  simp only [secB, List.length_append, List.length_replicate, List.length_take]; omega
theorem secsB_len {m d : List UInt8} {k : Nat} (hm : m.length = 8) : (secsB m d k).length = 32 * k := by
  induction k with
  | zero => rfl
  | succ k ih =>
    unfold secsB at ih ⊢
    rw [List.range_succ, List.flatMap_append, List.length_append, ih]
    simp [secB_len hm]; omega
theorem aOfBytes_zeros (n : Nat) : aOfBytes (List.replicate n 0) = List.replicate n (.int .u8 0) := by simp [aOfBytes]
theorem secs_eq (m d : List UInt8) : (chunkL 24 (aOfBytes d)).flatMap (secA (aOfBytes m)) = aOfBytes (secsB m d (chN d.length 24)) := by
  have key : ∀ l : List Nat, (l.map fun j => [AV.sl true (min 24 ((aOfBytes d).length - j * 24)) (((aOfBytes d).drop (j * 24)).take 24)]).flatMap (secA (aOfBytes m)) = aOfBytes (l.flatMap (secB m d)) := by
    intro l
    induction l with
    | nil => rfl
    | cons j l ih =>
      rw [List.map_cons, List.flatMap_cons, ih, List.flatMap_cons, aOfBytes_append]
      congr 1
      simp only [secA, secB, aOfBytes_append, aOfBytes_drop, aOfBytes_take, aOfBytes_zeros, aOfBytes_len, List.length_take, List.length_drop]
  unfold chunkL secsB
  rw [key, aOfBytes_len]
set_option maxHeartbeats 8000000 in
theorem lay_spec (full : Bool) (e s : Int) (b : List UInt8) (he : 0 ≤ e ∧ e ≤ 4294967295) (hs : 0 ≤ s ∧ s ≤ 4294967295) (hb : b.length ≤ 65535) : Spec Try.prog 31 [.int .i64 e, .int .i64 s, .sl full b.length (aOfBytes b)] (.k (.tup [.sl true (layB e s b).length (aOfBytes (layB e s b)), .int .i64 0])) := by
  refine spec_of' (fun _ => false) true (by kernel_rfl) Try.func31 rfl rfl (by simp [Try.ntmps31]) (by decide) ?_
  intro δ
  rw [init3]
  have s1 := marked_spec e s
  have s2 := last_spec b.length 2 (by omega)
  have hl2 := lastB_len b.length 2 (by omega)
  have s3 := concatB_spec false [(false, lastB b.length 2), (full, b)] (by simp [hl2]; omega) (by simp [hl2]; omega) (by simp)
  have s4 := crc_spec false [(false, markB e s), (false, lastB b.length 2 ++ b)]
  have s5 := last_spec (crcI [markB e s, lastB b.length 2 ++ b]) 4 (by omega)
  have hl5 := lastB_len (crcI [markB e s, lastB b.length 2 ++ b]) 4 (by omega)
  have s6 := concatB_spec false [(false, lastB b.length 2 ++ b), (false, lastB (crcI [markB e s, lastB b.length 2 ++ b]) 4)] (by simp [hl2]; omega) (by simp [hl2, hl5]; omega) (by simp)
  have hm := markB_len e s
  have hml := matB_len e s b
  have hma := aOfBytes_len (matB e s b)
  simp only [List.map_cons, List.map_nil, pCells, pB, Part.av, List.flatMap_cons, List.flatMap_nil, List.append_nil, aOfBytes_len, List.length_append, hl2, hl5, hm, List.length_cons, List.length_nil, Nat.reduceAdd] at s3 s4 s6
  have h1 : 0 ≤ min e s := by omega
  have h2 : max e s ≤ 4294967295 := by omega
  repeat (first | with_reducible (first | refine aWp_seq ?_ | refine seq_normal ?_ | refine seq_ret ?_ | refine seq_exit ?_ | refine blk_normal ?_ | refine blk_ret ?_ | refine blk_hit ?_ | refine blk_miss rfl ?_ | refine aWp_ret ?_ | refine aWp_skip ?_ | refine aWp_block ?_ | refine aWp_exit ?_ | refine end_ret ?_ | refine end_normal ?_) | ((refine rgA ?_); intro ν) | ((with_reducible apply cndT); exact rfl; (first | rfl | assumption)) | ((with_reducible apply cndF); exact rfl; (first | rfl | assumption)))
  refine rg fun K hK => ?_
  refine stA ?_
  (first | with_reducible refine g0 ?_ | ((with_reducible refine g1 ?_ ?_); (with_reducible apply gt_); exact rfl; exact rfl; (first | rfl | assumption | (simp [*] <;> done)))); refine scA (h2 := (s1)) (hk := ?_)
  refine stA ?_
  with_reducible refine rz ?_
  refine hK _ _ _ ?_
  clear hK K; intro ν
  repeat (first | with_reducible (first | refine aWp_seq ?_ | refine seq_normal ?_ | refine seq_ret ?_ | refine seq_exit ?_ | refine blk_normal ?_ | refine blk_ret ?_ | refine blk_hit ?_ | refine blk_miss rfl ?_ | refine aWp_ret ?_ | refine aWp_skip ?_ | refine aWp_block ?_ | refine aWp_exit ?_ | refine end_ret ?_ | refine end_normal ?_) | ((refine rgA ?_); intro ν) | ((with_reducible apply cndT); exact rfl; (first | rfl | assumption)) | ((with_reducible apply cndF); exact rfl; (first | rfl | assumption)))
  refine rg fun K hK => ?_
  refine stA ?_
  (first | with_reducible refine g0 ?_ | ((with_reducible refine g1 ?_ ?_); (with_reducible apply gt_); exact rfl; exact rfl; (first | rfl | assumption | (simp [*] <;> done)))); refine scA (h2 := (s2)) (hk := ?_)
  refine stA ?_
  (first | with_reducible refine g0 ?_ | ((with_reducible refine g1 ?_ ?_); (with_reducible apply gt_); exact rfl; exact rfl; (first | rfl | assumption | (simp [*] <;> done)))); refine scA (h2 := (s3)) (hk := ?_)
  refine stA ?_
  with_reducible refine rz ?_
  refine hK _ _ _ ?_
  clear hK K; intro ν
  have c0 := crcI_lo [markB e s, lastB b.length 2 ++ b]
  have c1 := crcI_hi [markB e s, lastB b.length 2 ++ b]
  have hmt : lastB b.length 2 ++ b ++ lastB (crcI [markB e s, lastB b.length 2 ++ b]) 4 = matB e s b := rfl
  rw [hmt, show 2 + b.length + 4 = (matB e s b).length by omega] at s6
  repeat (first | with_reducible (first | refine aWp_seq ?_ | refine seq_normal ?_ | refine seq_ret ?_ | refine seq_exit ?_ | refine blk_normal ?_ | refine blk_ret ?_ | refine blk_hit ?_ | refine blk_miss rfl ?_ | refine aWp_ret ?_ | refine aWp_skip ?_ | refine aWp_block ?_ | refine aWp_exit ?_ | refine end_ret ?_ | refine end_normal ?_) | ((refine rgA ?_); intro ν) | ((with_reducible apply cndT); exact rfl; (first | rfl | assumption)) | ((with_reducible apply cndF); exact rfl; (first | rfl | assumption)))
  refine rg fun K hK => ?_
  refine stA ?_
  (first | with_reducible refine g0 ?_ | ((with_reducible refine g1 ?_ ?_); (with_reducible apply gt_); exact rfl; exact rfl; (first | rfl | assumption | (simp [*] <;> done)))); refine scA (h2 := (s4)) (hk := ?_)
  refine stA ?_
  (first | with_reducible refine g0 ?_ | ((with_reducible refine g1 ?_ ?_); (with_reducible apply gt_); exact rfl; exact rfl; (first | rfl | assumption | (simp [*] <;> done)))); refine scA (h2 := (s5)) (hk := ?_)
  refine stA ?_
  (first | with_reducible refine g0 ?_ | ((with_reducible refine g1 ?_ ?_); (with_reducible apply gt_); exact rfl; exact rfl; (first | rfl | assumption | (simp [*] <;> done)))); refine scA (h2 := (s6)) (hk := ?_)
  refine stA ?_
  with_reducible refine rz ?_
  refine hK _ _ _ ?_
  clear hK K; intro ν
  repeat (first | with_reducible (first | refine aWp_seq ?_ | refine seq_normal ?_ | refine seq_ret ?_ | refine seq_exit ?_ | refine blk_normal ?_ | refine blk_ret ?_ | refine blk_hit ?_ | refine blk_miss rfl ?_ | refine aWp_ret ?_ | refine aWp_skip ?_ | refine aWp_block ?_ | refine aWp_exit ?_ | refine end_ret ?_ | refine end_normal ?_) | ((refine rgA ?_); intro ν) | ((with_reducible apply cndT); exact rfl; (first | rfl | assumption)) | ((with_reducible apply cndF); exact rfl; (first | rfl | assumption)))
  refine rg fun K hK => ?_
  refine stA ?_
  (first | with_reducible refine g0 ?_ | ((with_reducible refine g1 ?_ ?_); (with_reducible apply gt_); exact rfl; exact rfl; (first | rfl | assumption | (simp [*] <;> done)))); refine scA (h2 := (chunk_spec false (matB e s b).length (aOfBytes (matB e s b)) 24 (by omega))) (hk := ?_)
  refine stA ?_
  with_reducible refine rz ?_
  refine hK _ _ _ ?_
  clear hK K; intro ν
  repeat (first | with_reducible (first | refine aWp_seq ?_ | refine seq_normal ?_ | refine seq_ret ?_ | refine seq_exit ?_ | refine blk_normal ?_ | refine blk_ret ?_ | refine blk_hit ?_ | refine blk_miss rfl ?_ | refine aWp_ret ?_ | refine aWp_skip ?_ | refine aWp_block ?_ | refine aWp_exit ?_ | refine end_ret ?_ | refine end_normal ?_) | ((refine rgA ?_); intro ν) | ((with_reducible apply cndT); exact rfl; (first | rfl | assumption)) | ((with_reducible apply cndF); exact rfl; (first | rfl | assumption)))
  have hit := chunk_iter false (aOfBytes (matB e s b)) 24 (by omega) (by omega) (by intro h; rw [h] at hma; simp at hma; omega) (by omega)
  rw [hma] at hit
  refine aWp_range2 (k1 := 8) (k2 := 10) rfl hit (fun x hx => by obtain ⟨m, ds, rfl, _⟩ := chunks_mem (by omega) hx; rfl) rfl rfl rfl
    (fun g8 g10 pre T => T 8 = some (g8, .obj [.sl false 8 (aOfBytes (markB e s))]) ∧ ((pre = [] ∧ T 10 = some (g10, .obj [.sl true 0 []])) ∨ ∃ g, T 10 = some (g10, .obj [.ow δ 58 g (32 * pre.length) 5 (pre.flatMap (secA (aOfBytes (markB e s))))]) ∧ T 58 = some (g, .tag)))
    ⟨rfl, .inl ⟨rfl, rfl⟩⟩ ?_ ?_
  · rintro pre x T ν ⟨h8, h10⟩ hlt hpre hx
    obtain ⟨m, ds, rfl, q1, q2, q3, q4⟩ := chunks_mem (by omega) hx
    dsimp only [putPs, runAs]
    rw [upd_same]
    have hcl : (chunkL 24 (aOfBytes (matB e s b))).length ≤ 65600 := by
      have := chN_le (matB e s b).length 24 (by omega)
      rw [chunks_len, hma]; omega
    have hmk := aOfBytes_len (markB e s)
    rw [hm] at hmk
    have hsec : secA (aOfBytes (markB e s)) [.sl true m ds] = ds ++ List.replicate (24 - m) (.int .u8 0) ++ aOfBytes (markB e s) := rfl
    have mk : ∀ (g10 : Nat) (T : Nat → Option (Nat × Ent)) (g n : Nat) (cs : List AV), T 10 = some (g10, .obj [.ow δ 58 g n 5 cs]) → T 58 = some (g, .tag) → n = 32 * (pre ++ [[AV.sl true m ds]]).length → cs = (pre ++ [[AV.sl true m ds]]).flatMap (secA (aOfBytes (markB e s))) →
        ∃ g, T 10 = some (g10, .obj [.ow δ 58 g (32 * (pre ++ [[AV.sl true m ds]]).length) 5 ((pre ++ [[AV.sl true m ds]]).flatMap (secA (aOfBytes (markB e s))))]) ∧ T 58 = some (g, .tag) := by
      intro g10 T g n cs k1 k2 k3 k4; subst k3 k4; exact ⟨g, k1, k2⟩
    rcases h10 with ⟨rfl, h10⟩ | ⟨g, h10, h58⟩
    · rw [has2 h8 h10]
      repeat (first | with_reducible (first | refine aWp_seq ?_ | refine seq_normal ?_ | refine seq_ret ?_ | refine seq_exit ?_ | refine blk_normal ?_ | refine blk_ret ?_ | refine blk_hit ?_ | refine blk_miss rfl ?_ | refine aWp_ret ?_ | refine aWp_skip ?_ | refine aWp_block ?_ | refine aWp_exit ?_ | refine end_ret ?_ | refine end_normal ?_) | ((refine rgA ?_); intro ν) | ((with_reducible apply cndT); exact rfl; (first | rfl | assumption)) | ((with_reducible apply cndF); exact rfl; (first | rfl | assumption)))
      refine ⟨rfl, rfl, .inr (mk _ _ _ _ _ rfl rfl ?_ ?_)⟩
      · simp; omega
      · simp [hsec, aZeros8]
    · rw [has3 h8 h10 h58]
      repeat (first | with_reducible (first | refine aWp_seq ?_ | refine seq_normal ?_ | refine seq_ret ?_ | refine seq_exit ?_ | refine blk_normal ?_ | refine blk_ret ?_ | refine blk_hit ?_ | refine blk_miss rfl ?_ | refine aWp_ret ?_ | refine aWp_skip ?_ | refine aWp_block ?_ | refine aWp_exit ?_ | refine end_ret ?_ | refine end_normal ?_) | ((refine rgA ?_); intro ν) | ((with_reducible apply cndT); exact rfl; (first | rfl | assumption)) | ((with_reducible apply cndF); exact rfl; (first | rfl | assumption)))
      refine ⟨rfl, rfl, .inr (mk _ _ _ _ _ rfl rfl ?_ ?_)⟩
      · simp; omega
      · simp [hsec, aZeros8]
  · intro T ν ⟨h8, h10⟩
    have hcl0 : (chunkL 24 (aOfBytes (matB e s b))) ≠ [] := fun h => by
      have := chunks_len 24 (aOfBytes (matB e s b))
      rw [h, hma] at this
      have h2 := (chN_lt (len := (matB e s b).length) (k := 24) (i := 0) (by omega)).2 (by omega)
      simp at this; omega
    rcases h10 with ⟨q, _⟩ | ⟨g, h10, h58⟩
    · exact absurd q hcl0
    have hll : (layB e s b).length = 32 * (chunkL 24 (aOfBytes (matB e s b))).length := by rw [layB, secsB_len hm, chunks_len, hma]
    rw [secs_eq, ← hll] at h10
    have hs7 := clip_spec false (layB e s b).length (aOfBytes (layB e s b)) (aOfBytes_len _)
    rw [has3 h8 h10 h58]
    repeat (first | with_reducible (first | refine aWp_seq ?_ | refine seq_normal ?_ | refine seq_ret ?_ | refine seq_exit ?_ | refine blk_normal ?_ | refine blk_ret ?_ | refine blk_hit ?_ | refine blk_miss rfl ?_ | refine aWp_ret ?_ | refine aWp_skip ?_ | refine aWp_block ?_ | refine aWp_exit ?_ | refine end_ret ?_ | refine end_normal ?_) | ((refine rgA ?_); intro ν) | ((with_reducible apply cndT); exact rfl; (first | rfl | assumption)) | ((with_reducible apply cndF); exact rfl; (first | rfl | assumption)))
    refine rg fun K hK => ?_
    refine stA ?_
    (first | with_reducible refine g0 ?_ | ((with_reducible refine g1 ?_ ?_); (with_reducible apply gt_); exact rfl; exact rfl; (first | rfl | assumption | (simp [*] <;> done)))); refine scA (h2 := (hs7)) (hk := ?_)
    refine stA ?_
    with_reducible refine rz ?_
    refine hK _ _ _ ?_
    clear hK K; intro ν
    repeat (first | with_reducible (first | refine aWp_seq ?_ | refine seq_normal ?_ | refine seq_ret ?_ | refine seq_exit ?_ | refine blk_normal ?_ | refine blk_ret ?_ | refine blk_hit ?_ | refine blk_miss rfl ?_ | refine aWp_ret ?_ | refine aWp_skip ?_ | refine aWp_block ?_ | refine aWp_exit ?_ | refine end_ret ?_ | refine end_normal ?_) | ((refine rgA ?_); intro ν) | ((with_reducible apply cndT); exact rfl; (first | rfl | assumption)) | ((with_reducible apply cndF); exact rfl; (first | rfl | assumption)))
    (first | with_reducible refine end_r ?_ | with_reducible refine end_n ?_); refine en2 ?_
    rfl
end Go.Proofs.Ytikganlbnhapcaa
