import Derived.Test.YtmbnclpgldglnaaCbc1
import Derived.Test.YtmbnclpgldglnaaAes6
namespace Go.Proofs.Ytmbnclpgldglnaa
open Go.RowKit
set_option linter.unusedVariables false
set_option linter.unusedSimpArgs false
set_option maxRecDepth 20000
/-! blocks in a chain -/
theorem aWp_range3 {P : Program} {g : Operand} {ps : Array Nat} {asg body : Code} {Q : AEx → St → Prop} {s : St} {gf : Nat} {caps : List AV} {els : List (List AV)} {l : List (Nat × Nat)} {k1 k2 k3 g1 g2 g3 : Nat} {e1 e2 e3 : Ent} (hg : s.ev g = .k (.fn gf caps)) (hit : Iter P gf caps els) (hl : ∀ x ∈ els, x.length = ps.size) (ha : asgC asg = some l)
    (h1 : s.tb k1 = some (g1, e1)) (h2 : s.tb k2 = some (g2, e2)) (h3 : s.tb k3 = some (g3, e3)) (I : Nat → Nat → Nat → List (List AV) → (Nat → Option (Nat × Ent)) → Prop) (h0 : I g1 g2 g3 [] s.tb)
    (hstep : ∀ pre x T ν, I g1 g2 g3 pre T → pre.length < els.length → (∀ y ∈ pre, y ∈ els) → x ∈ els → aWp P body (fun e s'' => match e with
        | .normal => s''.md = s.md ∧ I g1 g2 g3 (pre ++ [x]) s''.tb
        | e => s''.md = s.md ∧ Q e ⟨s.fr, s''.tb, s''.nx, s.md⟩) ⟨runAs (putPs s.fr ps.toList x) l, T, ν, s.md⟩)
    (hend : ∀ T ν, I g1 g2 g3 els T → Q .normal ⟨s.fr, T, ν, s.md⟩) : aWp P (.rangeFunc g ps asg body) Q s :=
  ⟨gf, caps, els, fun pre s' => I g1 g2 g3 pre s'.tb, l, hg, hit, hl, ha, h0, fun pre x s' hI h3 h4 h5 => hstep pre x _ _ hI h3 h4 h5, fun s' hI => hend _ _ hI⟩
def padN16 (b : List UInt8) : Nat := 16 - b.length % 16
def padM (b : List UInt8) : List UInt8 := b ++ List.replicate (padN16 b) (UInt8.ofNat (padN16 b))
def blocks16 (m : List UInt8) : List (List UInt8) := (List.range (chN m.length 16)).map fun j => (m.drop (j * 16)).take 16
def sealS (E : List UInt8 → List UInt8) (s : List UInt8 × List UInt8) (x : List UInt8) : List UInt8 × List UInt8 := (E (xorB x s.1), s.2 ++ E (xorB x s.1))
def sealA (E : List UInt8 → List UInt8) (s : List UInt8 × List UInt8) (x : List AV) : List UInt8 × List UInt8 :=
  match x with
  | [.sl _ _ cs] => sealS E s ((aBytes cs).getD [])
  | _ => s
def sealB (E : List UInt8 → List UInt8) (iv b : List UInt8) : List UInt8 := ((blocks16 (padM b)).foldl (sealS E) (iv, [])).2
theorem sealA_eq (E : List UInt8 → List UInt8) (s : List UInt8 × List UInt8) (f : Bool) (n : Nat) (b : List UInt8) : sealA E s [.sl f n (aOfBytes b)] = sealS E s b := by
  simp only [sealA, aBytes_of', Option.getD_some]
theorem cut_take (l : List UInt8) (n : Nat) : aOfBytes (l.take n) = (aOfBytes l).take n := by simp [aOfBytes]
theorem cut_drop (l : List UInt8) (n : Nat) : aOfBytes (l.drop n) = (aOfBytes l).drop n := by simp [aOfBytes]
theorem sealA_fold (E : List UInt8 → List UInt8) (m : List UInt8) (s : List UInt8 × List UInt8) : (chunkL 16 (aOfBytes m)).foldl (sealA E) s = (blocks16 m).foldl (sealS E) s := by
  unfold chunkL blocks16
  rw [aOfBytes_len]
  generalize List.range (chN m.length 16) = l
  induction l generalizing s with
  | nil => rfl
  | cons j l ih => rw [List.map_cons, List.map_cons, List.foldl_cons, List.foldl_cons, ← cut_drop, ← cut_take, sealA_eq, ih]
theorem chunks_16 {m : List UInt8} {x : List AV} (hm : m.length % 16 = 0) (h : x ∈ chunkL 16 (aOfBytes m)) : ∃ b : List UInt8, b.length = 16 ∧ x = [.sl true 16 (aOfBytes b)] := by
  simp only [chunkL, List.mem_map, List.mem_range] at h
  obtain ⟨j, hj, rfl⟩ := h
  have hj := (chN_lt (by omega)).1 hj
  rw [aOfBytes_len] at hj
  refine ⟨(m.drop (j * 16)).take 16, by simp; omega, ?_⟩
  rw [cut_take, cut_drop, aOfBytes_len, show min 16 (m.length - j * 16) = 16 by omega]
theorem padM_len (b : List UInt8) : (padM b).length = b.length + padN16 b := by simp [padM]
theorem padM_mod (b : List UInt8) : (padM b).length % 16 = 0 := by rw [padM_len]; unfold padN16; omega
/-- what a fold of blocks leaves is of whole blocks -/
def SOk (s : List UInt8 × List UInt8) (n : Nat) : Prop := s.1.length = 16 ∧ s.2.length = 16 * n
theorem sealA_okN {E : List UInt8 → List UInt8} (hE : ∀ x, x.length = 16 → (E x).length = 16) {m : List UInt8} (hm : m.length % 16 = 0) : ∀ (pre : List (List AV)) (s : List UInt8 × List UInt8) (k : Nat), SOk s k → (∀ y ∈ pre, y ∈ chunkL 16 (aOfBytes m)) → SOk (pre.foldl (sealA E) s) (k + pre.length) := by
  intro pre
  induction pre with
  | nil => intro s k h _; exact h
  | cons x pre ih =>
    rintro s k ⟨h1, h2⟩ h
    obtain ⟨b, hb, rfl⟩ := chunks_16 hm (h x (by simp))
    rw [List.foldl_cons, sealA_eq]
    have hx := hE _ (xorB_len b s.1)
    have h3 : SOk (sealS E s b) (k + 1) := by
      refine ⟨hx, ?_⟩
      show (s.2 ++ E (xorB b s.1)).length = _
      rw [List.length_append, h2, hx]; omega
    have := ih _ _ h3 (fun y hy => h y (by simp [hy]))
    rw [List.length_cons, show k + (pre.length + 1) = k + 1 + pre.length by omega]
    exact this
theorem sealA_ok {E : List UInt8 → List UInt8} (hE : ∀ x, x.length = 16 → (E x).length = 16) {m : List UInt8} (hm : m.length % 16 = 0) {iv : List UInt8} (hiv : iv.length = 16) (pre : List (List AV)) (h : ∀ y ∈ pre, y ∈ chunkL 16 (aOfBytes m)) : SOk (pre.foldl (sealA E) (iv, [])) pre.length := by
  have := sealA_okN hE hm pre (iv, []) 0 ⟨hiv, rfl⟩ h
  rwa [Nat.zero_add] at this
theorem ld_arrT' {n : Nat} {e : TypeId} {sz : Nat} (cs : List AV) (h : cs.length = sz) : ldAgg (.arr n e) sz cs = some (.agg cs) := by
  have := ld_arr (n := n) (e := e) cs h
  rwa [List.drop_zero] at this
set_option maxHeartbeats 16000000 in
theorem seal_walk (fk fb : Bool) (key iv b : List UInt8) (C : List AV) (E : List UInt8 → List UInt8) (hE : ∀ x, x.length = 16 → (E x).length = 16) (hiv : iv.length = 16) (hb : b.length ≤ 100000)
    (s1 : Spec Try.prog 40 [.sl fk key.length (aOfBytes key)] (.k (.tup [.cp C, .int .i64 0])))
    (s2 : ∀ x, x.length = 16 → Spec Try.prog 44 [.cp C, .agg (aOfBytes x)] (.k (.agg (aOfBytes (E x))))) :
    Spec Try.prog 12 [.sl fk key.length (aOfBytes key), .agg (aOfBytes iv), .sl fb b.length (aOfBytes b)] (.k (.tup [.sl true (sealB E iv b).length (aOfBytes (sealB E iv b)), .int .i64 0])) := by
  have hba := aOfBytes_len b
  have hia := aOfBytes_len iv
  obtain ⟨n, hn⟩ : ∃ n, n = padN16 b := ⟨_, rfl⟩
  have hnb : 1 ≤ n ∧ n ≤ 16 := by rw [hn]; unfold padN16; omega
  have hnI : (16 : Int) - (b.length : Int) % 16 = (n : Int) := by rw [hn]; unfold padN16; omega
  have s3 := repeat_spec false (UInt8.ofNat n) n hnb.1 hnb.2
  have hrl : (List.replicate n (UInt8.ofNat n)).length = n := by simp
  have hra := aOfBytes_len (List.replicate n (UInt8.ofNat n))
  have s4 := concat_spec false [(fb, aOfBytes b), (false, aOfBytes (List.replicate n (UInt8.ofNat n)))] (by simp [pAll, aOfBytes_len]; omega) (by simp [pAll, aOfBytes_len]; omega) (by simp)
  have hM : aOfBytes (padM b) = aOfBytes b ++ aOfBytes (List.replicate n (UInt8.ofNat n)) := by rw [padM, aOfBytes_append, hn]
  simp only [pCells, pAll, Part.av, List.map_cons, List.map_nil, List.flatMap_cons, List.flatMap_nil, List.append_nil, List.length_cons, List.length_nil, Nat.reduceAdd, ← hM, hba, hra, hrl] at s4
  have hMl := padM_len b
  have hMm := padM_mod b
  have hMa := aOfBytes_len (padM b)
  have hsok := fun pre h => sealA_ok hE hMm hiv pre h
  have hfold : sealB E iv b = ((chunkL 16 (aOfBytes (padM b))).foldl (sealA E) (iv, [])).2 := by rw [sealA_fold]; rfl
  rw [← hn] at hMl
  have hwn : ((UInt8.ofNat n).toNat : Int) = (n : Int) := by
    rw [UInt8.toNat_ofNat']; omega
  rw [hwn] at s3
  generalize sealB E iv b = S at *
  generalize padM b = M at *
  have s5 := chunk_spec false M.length (aOfBytes M) 16 (by omega)
  refine spec_of' (fun _ => false) true (by kernel_rfl) Try.func12 rfl rfl (by simp [Try.ntmps12]) (by decide) ?_
  intro δ
  rw [init3]
  repeat (first | with_reducible (first | refine aWp_seq ?_ | refine seq_normal ?_ | refine seq_ret ?_ | refine seq_exit ?_ | refine blk_normal ?_ | refine blk_ret ?_ | refine blk_hit ?_ | refine blk_miss rfl ?_ | refine aWp_ret ?_ | refine aWp_skip ?_ | refine aWp_block ?_ | refine aWp_exit ?_ | refine end_ret ?_ | refine end_normal ?_) | ((refine rgA ?_); intro ν) | ((with_reducible apply cndT); exact rfl; (first | rfl | assumption)) | ((with_reducible apply cndF); exact rfl; (first | rfl | assumption)))
  refine rg fun K hK => ?_
  refine stA ?_
  (first | with_reducible refine g0 ?_ | ((with_reducible refine g1 ?_ ?_); (with_reducible apply gt_); exact rfl; exact rfl; (first | rfl | assumption | (simp [*] <;> done)))); refine scA (h2 := (s1)) (hk := ?_)
  refine stA ?_
  with_reducible refine rz ?_
  refine hK _ _ _ ?_
  clear hK K; intro ν
  repeat (first | with_reducible (first | refine aWp_seq ?_ | refine seq_normal ?_ | refine seq_ret ?_ | refine seq_exit ?_ | refine blk_normal ?_ | refine blk_ret ?_ | refine blk_hit ?_ | refine blk_miss rfl ?_ | refine aWp_ret ?_ | refine aWp_skip ?_ | refine aWp_block ?_ | refine aWp_exit ?_ | refine end_ret ?_ | refine end_normal ?_) | ((refine rgA ?_); intro ν) | ((with_reducible apply cndT); exact rfl; (first | rfl | assumption)) | ((with_reducible apply cndF); exact rfl; (first | rfl | assumption)))
  rw [hnI]
  rw [hMa] at s4
  refine rg fun K hK => ?_
  refine stA ?_
  (first | with_reducible refine g0 ?_ | ((with_reducible refine g1 ?_ ?_); (with_reducible apply gt_); exact rfl; exact rfl; (first | rfl | assumption | (simp [*] <;> done)))); refine scA (h2 := (s3)) (hk := ?_)
  refine stA ?_
  (first | with_reducible refine g0 ?_ | ((with_reducible refine g1 ?_ ?_); (with_reducible apply gt_); exact rfl; exact rfl; (first | rfl | assumption | (simp [*] <;> done)))); refine scA (h2 := (s4)) (hk := ?_)
  refine stA ?_
  (first | with_reducible refine g0 ?_ | ((with_reducible refine g1 ?_ ?_); (with_reducible apply gt_); exact rfl; exact rfl; (first | rfl | assumption | (simp [*] <;> done)))); refine scA (h2 := (s5)) (hk := ?_)
  refine stA ?_
  with_reducible refine rz ?_
  refine hK _ _ _ ?_
  clear hK K; intro ν
  repeat (first | with_reducible (first | refine aWp_seq ?_ | refine seq_normal ?_ | refine seq_ret ?_ | refine seq_exit ?_ | refine blk_normal ?_ | refine blk_ret ?_ | refine blk_hit ?_ | refine blk_miss rfl ?_ | refine aWp_ret ?_ | refine aWp_skip ?_ | refine aWp_block ?_ | refine aWp_exit ?_ | refine end_ret ?_ | refine end_normal ?_) | ((refine rgA ?_); intro ν) | ((with_reducible apply cndT); exact rfl; (first | rfl | assumption)) | ((with_reducible apply cndF); exact rfl; (first | rfl | assumption)))
  have hit := chunk_iter false (aOfBytes M) 16 (by omega) (by omega) (by intro h; rw [h] at hMa; simp at hMa; omega) (by omega)
  rw [hMa] at hit
  have hcl : (chunkL 16 (aOfBytes M)).length ≤ 100000 := by
    rw [chunks_len, hMa]; unfold chN; omega
  refine aWp_range3 (k1 := 4) (k2 := 8) (k3 := 11) rfl hit (fun x hx => by obtain ⟨b, _, rfl⟩ := chunks_16 hMm hx; rfl) rfl rfl rfl rfl
    (fun g4 g8 g11 pre T => (∀ y ∈ pre, y ∈ chunkL 16 (aOfBytes M)) ∧ T 4 = some (g4, .obj (aOfBytes (pre.foldl (sealA E) (iv, [])).1)) ∧ T 8 = some (g8, .obj [.cp C]) ∧ ∃ x, T 11 = some (g11, .obj [x]) ∧
      ((pre.length = 0 ∧ x = .sl true 0 []) ∨ ∃ g2, 0 < pre.length ∧ x = .ow δ 49 g2 (pre.foldl (sealA E) (iv, [])).2.length 5 (aOfBytes (pre.foldl (sealA E) (iv, [])).2) ∧ T 49 = some (g2, .tag))) ?_ ?_ ?_
  · exact ⟨fun y hy => (by cases hy), rfl, rfl, _, rfl, .inl ⟨rfl, rfl⟩⟩
  · rintro pre x T ν ⟨hall, t4, t8, y, t11, hy⟩ hlt hpre hx
    obtain ⟨hk1, hk2⟩ := hsok pre hall
    have hall2 : ∀ z ∈ pre ++ [x], z ∈ chunkL 16 (aOfBytes M) := fun z hz => by
      rcases List.mem_append.1 hz with h | h
      · exact hall z h
      · rw [List.mem_singleton.1 h]; exact hx
    obtain ⟨c, hc16, rfl⟩ := chunks_16 hMm hx
    have hca := aOfBytes_len c
    have hlp : (pre ++ [[AV.sl true 16 (aOfBytes c)]]).length = pre.length + 1 := by simp
    rw [List.foldl_append, List.foldl_cons, List.foldl_nil, sealA_eq]
    have hpl : pre.length ≤ 100000 := by omega
    generalize pre.foldl (sealA E) (iv, []) = s at *
    obtain ⟨v, out⟩ := s
    dsimp only [sealS] at *
    have hva := aOfBytes_len v
    have hoa := aOfBytes_len out
    have s6 := xor_spec c v hc16 hk1
    have hX := xorB_len c v
    have s7 := s2 _ hX
    have hZ := hE _ hX
    generalize xorB c v = X at *
    have hXa := aOfBytes_len X
    generalize E X = Z at *
    have hZa := aOfBytes_len Z
    have lc := ld_arrT' (n := 16) (e := 5) (aOfBytes c) (sz := 16) (by omega)
    have lv := ld_arr (n := 16) (e := 5) (aOfBytes v) (sz := 16) (by omega)
    have e1 : List.drop 16 (aOfBytes v) = [] := List.drop_of_length_le (by omega)
    have eZ : List.take 16 (aOfBytes Z) = aOfBytes Z := List.take_of_length_le (by omega)
    have hzl : (out ++ Z).length = out.length + 16 := by rw [List.length_append, hZ]
    rcases hy with ⟨h0, rfl⟩ | ⟨g2, h0, rfl, t49⟩
    · have ho : out = [] := List.eq_nil_of_length_eq_zero (by omega)
      subst ho
      rw [has3 t4 t8 t11]
      dsimp only [putPs, runAs]
      repeat (first | with_reducible (first | refine aWp_seq ?_ | refine seq_normal ?_ | refine seq_ret ?_ | refine seq_exit ?_ | refine blk_normal ?_ | refine blk_ret ?_ | refine blk_hit ?_ | refine blk_miss rfl ?_ | refine aWp_ret ?_ | refine aWp_skip ?_ | refine aWp_block ?_ | refine aWp_exit ?_ | refine end_ret ?_ | refine end_normal ?_) | ((refine rgA ?_); intro ν) | ((with_reducible apply cndT); exact rfl; (first | rfl | assumption)) | ((with_reducible apply cndF); exact rfl; (first | rfl | assumption)))
      refine rgx [(0,[8],[]),(4,[4],[]),(7,[4],[4])] (by kernel_rfl) fun K hK => ?_
      refine stxA ?_
      ((first | ((with_reducible refine x0 ?_ ?_); exact rfl) | ((with_reducible refine x1 ?_ ?_ ?_); exact rfl; (with_reducible apply gt_); exact rfl; exact rfl; (first | rfl | assumption | (simp [*] <;> done)))); refine xcA (h2 := (s6)) (hk := ?_))
      refine stxA ?_
      ((first | ((with_reducible refine x0 ?_ ?_); exact rfl) | ((with_reducible refine x1 ?_ ?_ ?_); exact rfl; (with_reducible apply gt_); exact rfl; exact rfl; (first | rfl | assumption | (simp [*] <;> done)))); refine xcA (h2 := (s7)) (hk := ?_))
      refine stxA ?_
      with_reducible refine xz ?_
      refine hK _ _ _ ?_
      clear hK K; intro ν
      rw [e1, List.append_nil]
      repeat (first | with_reducible (first | refine aWp_seq ?_ | refine seq_normal ?_ | refine seq_ret ?_ | refine seq_exit ?_ | refine blk_normal ?_ | refine blk_ret ?_ | refine blk_hit ?_ | refine blk_miss rfl ?_ | refine aWp_ret ?_ | refine aWp_skip ?_ | refine aWp_block ?_ | refine aWp_exit ?_ | refine end_ret ?_ | refine end_normal ?_) | ((refine rgA ?_); intro ν) | ((with_reducible apply cndT); exact rfl; (first | rfl | assumption)) | ((with_reducible apply cndF); exact rfl; (first | rfl | assumption)))
      refine rgxA [(0,[11],[]),(2,[4,49],[4,49]),(3,[11,49],[11,49])] ?_
      intro ν
      repeat (first | with_reducible (first | refine aWp_seq ?_ | refine seq_normal ?_ | refine seq_ret ?_ | refine seq_exit ?_ | refine blk_normal ?_ | refine blk_ret ?_ | refine blk_hit ?_ | refine blk_miss rfl ?_ | refine aWp_ret ?_ | refine aWp_skip ?_ | refine aWp_block ?_ | refine aWp_exit ?_ | refine end_ret ?_ | refine end_normal ?_) | ((refine rgA ?_); intro ν) | ((with_reducible apply cndT); exact rfl; (first | rfl | assumption)) | ((with_reducible apply cndF); exact rfl; (first | rfl | assumption)))
      refine ⟨rfl, hall2, rfl, rfl, _, rfl, .inr ⟨_, by rw [hlp]; omega, ?_, rfl⟩⟩
      rw [hzl, eZ]
      rfl
    · rw [has3 t4 t8 t11, upd_self t49]
      dsimp only [putPs, runAs]
      repeat (first | with_reducible (first | refine aWp_seq ?_ | refine seq_normal ?_ | refine seq_ret ?_ | refine seq_exit ?_ | refine blk_normal ?_ | refine blk_ret ?_ | refine blk_hit ?_ | refine blk_miss rfl ?_ | refine aWp_ret ?_ | refine aWp_skip ?_ | refine aWp_block ?_ | refine aWp_exit ?_ | refine end_ret ?_ | refine end_normal ?_) | ((refine rgA ?_); intro ν) | ((with_reducible apply cndT); exact rfl; (first | rfl | assumption)) | ((with_reducible apply cndF); exact rfl; (first | rfl | assumption)))
      refine rgx [(0,[8],[]),(4,[4],[]),(7,[4],[4])] (by kernel_rfl) fun K hK => ?_
      refine stxA ?_
      ((first | ((with_reducible refine x0 ?_ ?_); exact rfl) | ((with_reducible refine x1 ?_ ?_ ?_); exact rfl; (with_reducible apply gt_); exact rfl; exact rfl; (first | rfl | assumption | (simp [*] <;> done)))); refine xcA (h2 := (s6)) (hk := ?_))
      refine stxA ?_
      ((first | ((with_reducible refine x0 ?_ ?_); exact rfl) | ((with_reducible refine x1 ?_ ?_ ?_); exact rfl; (with_reducible apply gt_); exact rfl; exact rfl; (first | rfl | assumption | (simp [*] <;> done)))); refine xcA (h2 := (s7)) (hk := ?_))
      refine stxA ?_
      with_reducible refine xz ?_
      refine hK _ _ _ ?_
      clear hK K; intro ν
      rw [e1, List.append_nil]
      repeat (first | with_reducible (first | refine aWp_seq ?_ | refine seq_normal ?_ | refine seq_ret ?_ | refine seq_exit ?_ | refine blk_normal ?_ | refine blk_ret ?_ | refine blk_hit ?_ | refine blk_miss rfl ?_ | refine aWp_ret ?_ | refine aWp_skip ?_ | refine aWp_block ?_ | refine aWp_exit ?_ | refine end_ret ?_ | refine end_normal ?_) | ((refine rgA ?_); intro ν) | ((with_reducible apply cndT); exact rfl; (first | rfl | assumption)) | ((with_reducible apply cndF); exact rfl; (first | rfl | assumption)))
      refine rgxA [(0,[11],[]),(2,[4,49],[4,49]),(3,[11,49],[11,49])] ?_
      intro ν
      repeat (first | with_reducible (first | refine aWp_seq ?_ | refine seq_normal ?_ | refine seq_ret ?_ | refine seq_exit ?_ | refine blk_normal ?_ | refine blk_ret ?_ | refine blk_hit ?_ | refine blk_miss rfl ?_ | refine aWp_ret ?_ | refine aWp_skip ?_ | refine aWp_block ?_ | refine aWp_exit ?_ | refine end_ret ?_ | refine end_normal ?_) | ((refine rgA ?_); intro ν) | ((with_reducible apply cndT); exact rfl; (first | rfl | assumption)) | ((with_reducible apply cndF); exact rfl; (first | rfl | assumption)))
      refine ⟨rfl, hall2, rfl, rfl, _, rfl, .inr ⟨_, by rw [hlp]; omega, ?_, rfl⟩⟩
      rw [hzl, eZ, aOfBytes_append]
  · rintro T ν ⟨hall, t4, t8, y, t11, hy⟩
    obtain ⟨hk1, hk2⟩ := hsok _ hall
    have hc0 : 0 < (chunkL 16 (aOfBytes M)).length := by rw [chunks_len, hMa]; exact (chN_lt (i := 0) (by omega)).2 (by omega)
    rw [← hfold] at hk2 hy
    obtain ⟨g2, _, rfl, t49⟩ : ∃ g2, 0 < (chunkL 16 (aOfBytes M)).length ∧ y = .ow δ 49 g2 S.length 5 (aOfBytes S) ∧ T 49 = some (g2, .tag) := by
      rcases hy with ⟨h, _⟩ | h
      · omega
      · exact h
    have hSa := aOfBytes_len S
    have s8 := clip_spec false S.length (aOfBytes S) hSa
    clear hfold hall t4 t8 hsok hit
    rw [has1 t11, upd_self t49]
    repeat (first | with_reducible (first | refine aWp_seq ?_ | refine seq_normal ?_ | refine seq_ret ?_ | refine seq_exit ?_ | refine blk_normal ?_ | refine blk_ret ?_ | refine blk_hit ?_ | refine blk_miss rfl ?_ | refine aWp_ret ?_ | refine aWp_skip ?_ | refine aWp_block ?_ | refine aWp_exit ?_ | refine end_ret ?_ | refine end_normal ?_) | ((refine rgA ?_); intro ν) | ((with_reducible apply cndT); exact rfl; (first | rfl | assumption)) | ((with_reducible apply cndF); exact rfl; (first | rfl | assumption)))
    refine rg fun K hK => ?_
    refine stA ?_
    (first | with_reducible refine g0 ?_ | ((with_reducible refine g1 ?_ ?_); (with_reducible apply gt_); exact rfl; exact rfl; (first | rfl | assumption | (simp [*] <;> done)))); refine scA (h2 := (s8)) (hk := ?_)
    refine stA ?_
    with_reducible refine rz ?_
    refine hK _ _ _ ?_
    clear hK K; intro ν
    repeat (first | with_reducible (first | refine aWp_seq ?_ | refine seq_normal ?_ | refine seq_ret ?_ | refine seq_exit ?_ | refine blk_normal ?_ | refine blk_ret ?_ | refine blk_hit ?_ | refine blk_miss rfl ?_ | refine aWp_ret ?_ | refine aWp_skip ?_ | refine aWp_block ?_ | refine aWp_exit ?_ | refine end_ret ?_ | refine end_normal ?_) | ((refine rgA ?_); intro ν) | ((with_reducible apply cndT); exact rfl; (first | rfl | assumption)) | ((with_reducible apply cndF); exact rfl; (first | rfl | assumption)))
    (first | with_reducible refine end_r ?_ | with_reducible refine end_n ?_); refine en2 ?_
    rfl
end Go.Proofs.Ytmbnclpgldglnaa
