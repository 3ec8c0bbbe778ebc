import Derived.Test.YtmbnclpgldglnaaCbc2
namespace Go.Proofs.Ytmbnclpgldglnaa
open Go.RowKit
set_option linter.unusedVariables false
set_option linter.unusedSimpArgs false
set_option maxRecDepth 20000
def openS (D : List UInt8 → List UInt8) (s : List UInt8 × List UInt8) (x : List UInt8) : List UInt8 × List UInt8 := (x, s.2 ++ xorB (D x) s.1)
def openA (D : List UInt8 → List UInt8) (s : List UInt8 × List UInt8) (x : List AV) : List UInt8 × List UInt8 :=
  match x with
  | [.sl _ _ cs] => openS D s ((aBytes cs).getD [])
  | _ => s
def openF (D : List UInt8 → List UInt8) (iv b : List UInt8) : List UInt8 := ((blocks16 b).foldl (openS D) (iv, [])).2
def openT (S : List UInt8) : Option (List UInt8) :=
  if 1 ≤ (S.getD (S.length - 1) 0).toNat ∧ (S.getD (S.length - 1) 0).toNat ≤ 16 ∧ S.drop (S.length - (S.getD (S.length - 1) 0).toNat) = List.replicate (S.getD (S.length - 1) 0).toNat (S.getD (S.length - 1) 0) then some (S.take (S.length - (S.getD (S.length - 1) 0).toNat)) else none
def openB (D : List UInt8 → List UInt8) (iv b : List UInt8) : Option (List UInt8) := if b.length = 0 ∨ b.length % 16 ≠ 0 then none else openT (openF D iv b)
def openR : Option (List UInt8) → AV
  | some x => .tup [.sl true x.length (aOfBytes x), .int .i64 0]
  | none => .tup [.sl true 0 [], .int .i64 12]
theorem openA_eq (D : List UInt8 → List UInt8) (s : List UInt8 × List UInt8) (f : Bool) (n : Nat) (b : List UInt8) : openA D s [.sl f n (aOfBytes b)] = openS D s b := by
  simp only [openA, aBytes_of', Option.getD_some]
theorem openA_fold (D : List UInt8 → List UInt8) (m : List UInt8) (s : List UInt8 × List UInt8) : (chunkL 16 (aOfBytes m)).foldl (openA D) s = (blocks16 m).foldl (openS D) s := by
  unfold chunkL blocks16
  rw [aOfBytes_len]
  generalize List.range (chN m.length 16) = l
  induction l generalizing s with
  | nil => rfl
  | cons j l ih => rw [List.map_cons, List.map_cons, List.foldl_cons, List.foldl_cons, ← cut_drop, ← cut_take, openA_eq, ih]
theorem openA_okN {D : List UInt8 → List UInt8} {m : List UInt8} (hm : m.length % 16 = 0) : ∀ (pre : List (List AV)) (s : List UInt8 × List UInt8) (k : Nat), SOk s k → (∀ y ∈ pre, y ∈ chunkL 16 (aOfBytes m)) → SOk (pre.foldl (openA D) s) (k + pre.length) := by
  intro pre
  induction pre with
  | nil => intro s k h _; exact h
  | cons x pre ih =>
    rintro s k ⟨h1, h2⟩ h
    obtain ⟨b, hb, rfl⟩ := chunks_16 hm (h x (by simp))
    rw [List.foldl_cons, openA_eq]
    have h3 : SOk (openS D s b) (k + 1) := by
      refine ⟨hb, ?_⟩
      show (s.2 ++ xorB (D b) s.1).length = _
      rw [List.length_append, h2, xorB_len]; omega
    have := ih _ _ h3 (fun y hy => h y (by simp [hy]))
    rw [List.length_cons, show k + (pre.length + 1) = k + 1 + pre.length by omega]
    exact this
theorem openA_ok {D : List UInt8 → List UInt8} {m : List UInt8} (hm : m.length % 16 = 0) {iv : List UInt8} (hiv : iv.length = 16) (pre : List (List AV)) (h : ∀ y ∈ pre, y ∈ chunkL 16 (aOfBytes m)) : SOk (pre.foldl (openA D) (iv, [])) pre.length := by
  have := openA_okN (D := D) hm pre (iv, []) 0 ⟨hiv, rfl⟩ h
  rwa [Nat.zero_add] at this
set_option maxHeartbeats 16000000 in
theorem open_walk (fk fb : Bool) (key iv b : List UInt8) (C : List AV) (D : List UInt8 → List UInt8) (hD : ∀ x, x.length = 16 → (D x).length = 16) (hiv : iv.length = 16) (hb : b.length ≤ 100000)
    (s1 : Spec Try.prog 40 [.sl fk key.length (aOfBytes key)] (.k (.tup [.cp C, .int .i64 0])))
    (s2 : ∀ x, x.length = 16 → Spec Try.prog 47 [.cp C, .agg (aOfBytes x)] (.k (.agg (aOfBytes (D x))))) :
    Spec Try.prog 16 [.sl fk key.length (aOfBytes key), .agg (aOfBytes iv), .sl fb b.length (aOfBytes b)] (.k (openR (openB D iv b))) := by
  have hba := aOfBytes_len b
  have hia := aOfBytes_len iv
  refine spec_of' (fun _ => false) true (by kernel_rfl) Try.func16 rfl rfl (by simp [Try.ntmps16]) (by decide) ?_
  intro δ
  rw [init3]
  by_cases h0 : b.length = 0
  · rw [openB, if_pos (.inl h0)]
    repeat (first | with_reducible (first | refine aWp_seq ?_ | refine seq_normal ?_ | refine seq_ret ?_ | refine seq_exit ?_ | refine blk_normal ?_ | refine blk_ret ?_ | refine blk_hit ?_ | refine blk_miss rfl ?_ | refine aWp_ret ?_ | refine aWp_skip ?_ | refine aWp_block ?_ | refine aWp_exit ?_ | refine end_ret ?_ | refine end_normal ?_) | ((refine rgA ?_); intro ν) | ((with_reducible apply cndT); exact rfl; (first | rfl | assumption)) | ((with_reducible apply cndF); exact rfl; (first | rfl | assumption)))
    refine rg fun K hK => ?_
    refine stA ?_
    (first | with_reducible refine g0 ?_ | ((with_reducible refine g1 ?_ ?_); (with_reducible apply gt_); exact rfl; exact rfl; (first | rfl | assumption | (simp [*] <;> done)))); refine scA (h2 := (s1)) (hk := ?_)
    refine stA ?_
    with_reducible refine rz ?_
    refine hK _ _ _ ?_
    clear hK K; intro ν
    repeat (first | with_reducible (first | refine aWp_seq ?_ | refine seq_normal ?_ | refine seq_ret ?_ | refine seq_exit ?_ | refine blk_normal ?_ | refine blk_ret ?_ | refine blk_hit ?_ | refine blk_miss rfl ?_ | refine aWp_ret ?_ | refine aWp_skip ?_ | refine aWp_block ?_ | refine aWp_exit ?_ | refine end_ret ?_ | refine end_normal ?_) | ((refine rgA ?_); intro ν) | ((with_reducible apply cndT); exact rfl; (first | rfl | assumption)) | ((with_reducible apply cndF); exact rfl; (first | rfl | assumption)))
    (first | with_reducible refine end_r ?_ | with_reducible refine end_n ?_); refine en2 ?_
    rfl
  by_cases hm : b.length % 16 = 0
  · rw [openB, if_neg (by omega)]
    have hsok := fun pre h => openA_ok (D := D) hm hiv pre h
    have hfold : openF D iv b = ((chunkL 16 (aOfBytes b)).foldl (openA D) (iv, [])).2 := by rw [openA_fold]; rfl
    generalize openF D iv b = S at *
    have s5 := chunk_spec fb b.length (aOfBytes b) 16 (by omega)
    have hmI : (b.length : Int) % 16 = 0 := by omega
    repeat (first | with_reducible (first | refine aWp_seq ?_ | refine seq_normal ?_ | refine seq_ret ?_ | refine seq_exit ?_ | refine blk_normal ?_ | refine blk_ret ?_ | refine blk_hit ?_ | refine blk_miss rfl ?_ | refine aWp_ret ?_ | refine aWp_skip ?_ | refine aWp_block ?_ | refine aWp_exit ?_ | refine end_ret ?_ | refine end_normal ?_) | ((refine rgA ?_); intro ν) | ((with_reducible apply cndT); exact rfl; (first | rfl | assumption)) | ((with_reducible apply cndF); exact rfl; (first | rfl | assumption)))
    refine rg fun K hK => ?_
    refine stA ?_
    (first | with_reducible refine g0 ?_ | ((with_reducible refine g1 ?_ ?_); (with_reducible apply gt_); exact rfl; exact rfl; (first | rfl | assumption | (simp [*] <;> done)))); refine scA (h2 := (s1)) (hk := ?_)
    refine stA ?_
    with_reducible refine rz ?_
    refine hK _ _ _ ?_
    clear hK K; intro ν
    repeat (first | with_reducible (first | refine aWp_seq ?_ | refine seq_normal ?_ | refine seq_ret ?_ | refine seq_exit ?_ | refine blk_normal ?_ | refine blk_ret ?_ | refine blk_hit ?_ | refine blk_miss rfl ?_ | refine aWp_ret ?_ | refine aWp_skip ?_ | refine aWp_block ?_ | refine aWp_exit ?_ | refine end_ret ?_ | refine end_normal ?_) | ((refine rgA ?_); intro ν) | ((with_reducible apply cndT); exact rfl; (first | rfl | assumption)) | ((with_reducible apply cndF); exact rfl; (first | rfl | assumption)))
    refine rg fun K hK => ?_
    refine stA ?_
    (first | with_reducible refine g0 ?_ | ((with_reducible refine g1 ?_ ?_); (with_reducible apply gt_); exact rfl; exact rfl; (first | rfl | assumption | (simp [*] <;> done)))); refine scA (h2 := (s5)) (hk := ?_)
    refine stA ?_
    with_reducible refine rz ?_
    refine hK _ _ _ ?_
    clear hK K; intro ν
    repeat (first | with_reducible (first | refine aWp_seq ?_ | refine seq_normal ?_ | refine seq_ret ?_ | refine seq_exit ?_ | refine blk_normal ?_ | refine blk_ret ?_ | refine blk_hit ?_ | refine blk_miss rfl ?_ | refine aWp_ret ?_ | refine aWp_skip ?_ | refine aWp_block ?_ | refine aWp_exit ?_ | refine end_ret ?_ | refine end_normal ?_) | ((refine rgA ?_); intro ν) | ((with_reducible apply cndT); exact rfl; (first | rfl | assumption)) | ((with_reducible apply cndF); exact rfl; (first | rfl | assumption)))
    have hit := chunk_iter fb (aOfBytes b) 16 (by omega) (by omega) (by intro h; rw [h] at hba; simp at hba; omega) (by omega)
    rw [hba] at hit
    have hcl : (chunkL 16 (aOfBytes b)).length ≤ 100000 := by
      rw [chunks_len, hba]; unfold chN; omega
    refine aWp_range3 (k1 := 4) (k2 := 8) (k3 := 10) rfl hit (fun x hx => by obtain ⟨b, _, rfl⟩ := chunks_16 hm hx; rfl) rfl rfl rfl rfl
      (fun g4 g8 g11 pre T => (∀ y ∈ pre, y ∈ chunkL 16 (aOfBytes b)) ∧ T 4 = some (g4, .obj (aOfBytes (pre.foldl (openA D) (iv, [])).1)) ∧ T 8 = some (g8, .obj [.cp C]) ∧ ∃ x, T 10 = some (g11, .obj [x]) ∧
        ((pre.length = 0 ∧ x = .sl true 0 []) ∨ ∃ g2, 0 < pre.length ∧ x = .ow δ 46 g2 (pre.foldl (openA D) (iv, [])).2.length 5 (aOfBytes (pre.foldl (openA D) (iv, [])).2) ∧ T 46 = some (g2, .tag))) ?_ ?_ ?_
    · exact ⟨fun y hy => (by cases hy), rfl, rfl, _, rfl, .inl ⟨rfl, rfl⟩⟩
    · rintro pre x T ν ⟨hall, t4, t8, y, t10, hy⟩ hlt hpre hx
      obtain ⟨hk1, hk2⟩ := hsok pre hall
      have hall2 : ∀ z ∈ pre ++ [x], z ∈ chunkL 16 (aOfBytes b) := fun z hz => by
        rcases List.mem_append.1 hz with h | h
        · exact hall z h
        · rw [List.mem_singleton.1 h]; exact hx
      obtain ⟨c, hc16, rfl⟩ := chunks_16 hm hx
      have hca := aOfBytes_len c
      have hlp : (pre ++ [[AV.sl true 16 (aOfBytes c)]]).length = pre.length + 1 := by simp
      rw [List.foldl_append, List.foldl_cons, List.foldl_nil, openA_eq]
      have hpl : pre.length ≤ 100000 := by omega
      generalize pre.foldl (openA D) (iv, []) = s at *
      obtain ⟨v, out⟩ := s
      dsimp only [openS] at *
      have hva := aOfBytes_len v
      have hoa := aOfBytes_len out
      have s7 := s2 _ hc16
      have hZ := hD _ hc16
      generalize D c = Z at *
      have hZa := aOfBytes_len Z
      have s6 := xor_spec Z v hZ hk1
      have hX := xorB_len Z v
      generalize xorB Z v = X at *
      have hXa := aOfBytes_len X
      have lc := ld_arrT' (n := 16) (e := 5) (aOfBytes c) (sz := 16) (by omega)
      have lv := ld_arr (n := 16) (e := 5) (aOfBytes v) (sz := 16) (by omega)
      have e1 : List.drop 16 (aOfBytes v) = [] := List.drop_of_length_le (by omega)
      have eX : List.take 16 (aOfBytes X) = aOfBytes X := List.take_of_length_le (by omega)
      have hzl : (out ++ X).length = out.length + 16 := by rw [List.length_append, hX]
      rcases hy with ⟨h0', rfl⟩ | ⟨g2, h0', rfl, t46⟩
      · have ho : out = [] := List.eq_nil_of_length_eq_zero (by omega)
        subst ho
        rw [has3 t4 t8 t10]
        dsimp only [putPs, runAs]
        repeat (first | with_reducible (first | refine aWp_seq ?_ | refine seq_normal ?_ | refine seq_ret ?_ | refine seq_exit ?_ | refine blk_normal ?_ | refine blk_ret ?_ | refine blk_hit ?_ | refine blk_miss rfl ?_ | refine aWp_ret ?_ | refine aWp_skip ?_ | refine aWp_block ?_ | refine aWp_exit ?_ | refine end_ret ?_ | refine end_normal ?_) | ((refine rgA ?_); intro ν) | ((with_reducible apply cndT); exact rfl; (first | rfl | assumption)) | ((with_reducible apply cndF); exact rfl; (first | rfl | assumption)))
        refine rgx [(0,[8],[]),(5,[4],[]),(7,[12],[12]),(8,[12],[12])] (by kernel_rfl) fun K hK => ?_
        refine stxA ?_
        ((first | ((with_reducible refine x0 ?_ ?_); exact rfl) | ((with_reducible refine x1 ?_ ?_ ?_); exact rfl; (with_reducible apply gt_); exact rfl; exact rfl; (first | rfl | assumption | (simp [*] <;> done)))); refine xcA (h2 := (s7)) (hk := ?_))
        refine stxA ?_
        ((first | ((with_reducible refine x0 ?_ ?_); exact rfl) | ((with_reducible refine x1 ?_ ?_ ?_); exact rfl; (with_reducible apply gt_); exact rfl; exact rfl; (first | rfl | assumption | (simp [*] <;> done)))); refine xcA (h2 := (s6)) (hk := ?_))
        refine stxA ?_
        with_reducible refine xz ?_
        refine hK _ _ _ ?_
        clear hK K; intro ν
        rw [drop_rep, List.append_nil]
        repeat (first | with_reducible (first | refine aWp_seq ?_ | refine seq_normal ?_ | refine seq_ret ?_ | refine seq_exit ?_ | refine blk_normal ?_ | refine blk_ret ?_ | refine blk_hit ?_ | refine blk_miss rfl ?_ | refine aWp_ret ?_ | refine aWp_skip ?_ | refine aWp_block ?_ | refine aWp_exit ?_ | refine end_ret ?_ | refine end_normal ?_) | ((refine rgA ?_); intro ν) | ((with_reducible apply cndT); exact rfl; (first | rfl | assumption)) | ((with_reducible apply cndF); exact rfl; (first | rfl | assumption)))
        refine rgxA [(0,[10],[]),(2,[12,46],[12,46]),(3,[10,46],[10,46])] ?_
        intro ν
        repeat (first | with_reducible (first | refine aWp_seq ?_ | refine seq_normal ?_ | refine seq_ret ?_ | refine seq_exit ?_ | refine blk_normal ?_ | refine blk_ret ?_ | refine blk_hit ?_ | refine blk_miss rfl ?_ | refine aWp_ret ?_ | refine aWp_skip ?_ | refine aWp_block ?_ | refine aWp_exit ?_ | refine end_ret ?_ | refine end_normal ?_) | ((refine rgA ?_); intro ν) | ((with_reducible apply cndT); exact rfl; (first | rfl | assumption)) | ((with_reducible apply cndF); exact rfl; (first | rfl | assumption)))
        rw [e1, List.append_nil]
        refine ⟨rfl, hall2, rfl, rfl, _, rfl, .inr ⟨_, by rw [hlp]; omega, ?_, rfl⟩⟩
        rw [hzl, eX]
        rfl
      · rw [has3 t4 t8 t10, upd_self t46]
        dsimp only [putPs, runAs]
        repeat (first | with_reducible (first | refine aWp_seq ?_ | refine seq_normal ?_ | refine seq_ret ?_ | refine seq_exit ?_ | refine blk_normal ?_ | refine blk_ret ?_ | refine blk_hit ?_ | refine blk_miss rfl ?_ | refine aWp_ret ?_ | refine aWp_skip ?_ | refine aWp_block ?_ | refine aWp_exit ?_ | refine end_ret ?_ | refine end_normal ?_) | ((refine rgA ?_); intro ν) | ((with_reducible apply cndT); exact rfl; (first | rfl | assumption)) | ((with_reducible apply cndF); exact rfl; (first | rfl | assumption)))
        refine rgx [(0,[8],[]),(5,[4],[]),(7,[12],[12]),(8,[12],[12])] (by kernel_rfl) fun K hK => ?_
        refine stxA ?_
        ((first | ((with_reducible refine x0 ?_ ?_); exact rfl) | ((with_reducible refine x1 ?_ ?_ ?_); exact rfl; (with_reducible apply gt_); exact rfl; exact rfl; (first | rfl | assumption | (simp [*] <;> done)))); refine xcA (h2 := (s7)) (hk := ?_))
        refine stxA ?_
        ((first | ((with_reducible refine x0 ?_ ?_); exact rfl) | ((with_reducible refine x1 ?_ ?_ ?_); exact rfl; (with_reducible apply gt_); exact rfl; exact rfl; (first | rfl | assumption | (simp [*] <;> done)))); refine xcA (h2 := (s6)) (hk := ?_))
        refine stxA ?_
        with_reducible refine xz ?_
        refine hK _ _ _ ?_
        clear hK K; intro ν
        rw [drop_rep, List.append_nil]
        repeat (first | with_reducible (first | refine aWp_seq ?_ | refine seq_normal ?_ | refine seq_ret ?_ | refine seq_exit ?_ | refine blk_normal ?_ | refine blk_ret ?_ | refine blk_hit ?_ | refine blk_miss rfl ?_ | refine aWp_ret ?_ | refine aWp_skip ?_ | refine aWp_block ?_ | refine aWp_exit ?_ | refine end_ret ?_ | refine end_normal ?_) | ((refine rgA ?_); intro ν) | ((with_reducible apply cndT); exact rfl; (first | rfl | assumption)) | ((with_reducible apply cndF); exact rfl; (first | rfl | assumption)))
        refine rgxA [(0,[10],[]),(2,[12,46],[12,46]),(3,[10,46],[10,46])] ?_
        intro ν
        repeat (first | with_reducible (first | refine aWp_seq ?_ | refine seq_normal ?_ | refine seq_ret ?_ | refine seq_exit ?_ | refine blk_normal ?_ | refine blk_ret ?_ | refine blk_hit ?_ | refine blk_miss rfl ?_ | refine aWp_ret ?_ | refine aWp_skip ?_ | refine aWp_block ?_ | refine aWp_exit ?_ | refine end_ret ?_ | refine end_normal ?_) | ((refine rgA ?_); intro ν) | ((with_reducible apply cndT); exact rfl; (first | rfl | assumption)) | ((with_reducible apply cndF); exact rfl; (first | rfl | assumption)))
        rw [e1, List.append_nil]
        refine ⟨rfl, hall2, rfl, rfl, _, rfl, .inr ⟨_, by rw [hlp]; omega, ?_, rfl⟩⟩
        rw [hzl, eX, aOfBytes_append]
    · rintro T ν ⟨hall, t4, t8, y, t10, hy⟩
      obtain ⟨hk1, hk2⟩ := hsok _ hall
      have hc0 : 0 < (chunkL 16 (aOfBytes b)).length := by rw [chunks_len, hba]; exact (chN_lt (i := 0) (by omega)).2 (by omega)
      rw [← hfold] at hk2 hy
      obtain ⟨g2, _, rfl, t46⟩ : ∃ g2, 0 < (chunkL 16 (aOfBytes b)).length ∧ y = .ow δ 46 g2 S.length 5 (aOfBytes S) ∧ T 46 = some (g2, .tag) := by
        rcases hy with ⟨h, _⟩ | h
        · omega
        · exact h
      have hSa := aOfBytes_len S
      have hS16 : 16 ≤ S.length ∧ S.length ≤ 2000000 := by omega
      clear hfold hall t4 t8 hsok hit hk2 hc0 hcl hy
      have l1 := ld_b S (S.length - 1) (by omega)
      unfold openT
      generalize S.getD (S.length - 1) 0 = f at *
      have hf255 : f.toNat ≤ 255 := by have := f.toNat_lt; omega
      obtain ⟨F, hF⟩ : ∃ F, F = f.toNat := ⟨_, rfl⟩
      have s9 : 1 ≤ F → F ≤ 16 → Spec _ _ _ _ := fun h1 h2 => repeat_spec false f F h1 h2
      rw [← hF] at s9 hf255 l1 ⊢
      have hl1 : ((S.length : Int) - 1).toNat = S.length - 1 := by omega
      rw [← hl1] at l1
      have hff : (S.length : Int) - ((S.length : Int) - (F : Int)) = (F : Int) := by omega
      dsimp only
      rw [has1 t10, upd_self t46]
      repeat (first | with_reducible (first | refine aWp_seq ?_ | refine seq_normal ?_ | refine seq_ret ?_ | refine seq_exit ?_ | refine blk_normal ?_ | refine blk_ret ?_ | refine blk_hit ?_ | refine blk_miss rfl ?_ | refine aWp_ret ?_ | refine aWp_skip ?_ | refine aWp_block ?_ | refine aWp_exit ?_ | refine end_ret ?_ | refine end_normal ?_) | ((refine rgA ?_); intro ν) | ((with_reducible apply cndT); exact rfl; (first | rfl | assumption)) | ((with_reducible apply cndF); exact rfl; (first | rfl | assumption)))
      refine rgxA [(0,[10],[]),(2,[10],[]),(3,[10],[])] ?_
      intro ν
      repeat (first | with_reducible (first | refine aWp_seq ?_ | refine seq_normal ?_ | refine seq_ret ?_ | refine seq_exit ?_ | refine blk_normal ?_ | refine blk_ret ?_ | refine blk_hit ?_ | refine blk_miss rfl ?_ | refine aWp_ret ?_ | refine aWp_skip ?_ | refine aWp_block ?_ | refine aWp_exit ?_ | refine end_ret ?_ | refine end_normal ?_) | ((refine rgA ?_); intro ν) | ((with_reducible apply cndT); exact rfl; (first | rfl | assumption)) | ((with_reducible apply cndF); exact rfl; (first | rfl | assumption)))
      rw [hff]
      by_cases q1 : F < 1
      · rw [if_neg (by omega)]
        repeat (first | with_reducible (first | refine aWp_seq ?_ | refine seq_normal ?_ | refine seq_ret ?_ | refine seq_exit ?_ | refine blk_normal ?_ | refine blk_ret ?_ | refine blk_hit ?_ | refine blk_miss rfl ?_ | refine aWp_ret ?_ | refine aWp_skip ?_ | refine aWp_block ?_ | refine aWp_exit ?_ | refine end_ret ?_ | refine end_normal ?_) | ((refine rgA ?_); intro ν) | ((with_reducible apply cndT); exact rfl; (first | rfl | assumption)) | ((with_reducible apply cndF); exact rfl; (first | rfl | assumption)))
        refine rgxA [(7,[10],[])] ?_
        intro ν
        repeat (first | with_reducible (first | refine aWp_seq ?_ | refine seq_normal ?_ | refine seq_ret ?_ | refine seq_exit ?_ | refine blk_normal ?_ | refine blk_ret ?_ | refine blk_hit ?_ | refine blk_miss rfl ?_ | refine aWp_ret ?_ | refine aWp_skip ?_ | refine aWp_block ?_ | refine aWp_exit ?_ | refine end_ret ?_ | refine end_normal ?_) | ((refine rgA ?_); intro ν) | ((with_reducible apply cndT); exact rfl; (first | rfl | assumption)) | ((with_reducible apply cndF); exact rfl; (first | rfl | assumption)))
        (first | with_reducible refine end_r ?_ | with_reducible refine end_n ?_); refine en2 ?_
        rfl
      by_cases q2 : 16 < F
      · rw [if_neg (by omega)]
        repeat (first | with_reducible (first | refine aWp_seq ?_ | refine seq_normal ?_ | refine seq_ret ?_ | refine seq_exit ?_ | refine blk_normal ?_ | refine blk_ret ?_ | refine blk_hit ?_ | refine blk_miss rfl ?_ | refine aWp_ret ?_ | refine aWp_skip ?_ | refine aWp_block ?_ | refine aWp_exit ?_ | refine end_ret ?_ | refine end_normal ?_) | ((refine rgA ?_); intro ν) | ((with_reducible apply cndT); exact rfl; (first | rfl | assumption)) | ((with_reducible apply cndF); exact rfl; (first | rfl | assumption)))
        refine rgxA [(7,[10],[])] ?_
        intro ν
        repeat (first | with_reducible (first | refine aWp_seq ?_ | refine seq_normal ?_ | refine seq_ret ?_ | refine seq_exit ?_ | refine blk_normal ?_ | refine blk_ret ?_ | refine blk_hit ?_ | refine blk_miss rfl ?_ | refine aWp_ret ?_ | refine aWp_skip ?_ | refine aWp_block ?_ | refine aWp_exit ?_ | refine end_ret ?_ | refine end_normal ?_) | ((refine rgA ?_); intro ν) | ((with_reducible apply cndT); exact rfl; (first | rfl | assumption)) | ((with_reducible apply cndF); exact rfl; (first | rfl | assumption)))
        (first | with_reducible refine end_r ?_ | with_reducible refine end_n ?_); refine en2 ?_
        rfl
      replace s9 := s9 (by omega) (by omega)
      obtain ⟨q, hq⟩ : ∃ q, q = S.length - F := ⟨_, rfl⟩
      have hqI : (S.length : Int) - (F : Int) = (q : Int) := by omega
      rw [← hq, hqI]
      have hrl : (List.replicate F f).length = F := by simp
      have s10 := bequal_spec false false (S.drop q) (List.replicate F f)
      have hdl : (S.drop q).length = S.length - q := by simp
      have htl : List.take S.length (aOfBytes S) = aOfBytes S := List.take_of_length_le (by omega)
      rw [hdl, hrl, cut_drop, ← htl] at s10
      have hql : q ≤ S.length := by omega
      have s11 := clip_spec false q (List.take q (aOfBytes S)) (by rw [List.length_take]; omega)
      have hcq : (S.take q).length = q := by simp; omega
      have hra := aOfBytes_len (List.replicate F f)
      by_cases q3 : S.drop q = List.replicate F f
      · rw [if_pos ⟨by omega, by omega, q3⟩, openR, hcq, cut_take]
        rw [decide_eq_true q3] at s10
        clear q3
        generalize List.replicate F f = RF at *
        repeat (first | with_reducible (first | refine aWp_seq ?_ | refine seq_normal ?_ | refine seq_ret ?_ | refine seq_exit ?_ | refine blk_normal ?_ | refine blk_ret ?_ | refine blk_hit ?_ | refine blk_miss rfl ?_ | refine aWp_ret ?_ | refine aWp_skip ?_ | refine aWp_block ?_ | refine aWp_exit ?_ | refine end_ret ?_ | refine end_normal ?_) | ((refine rgA ?_); intro ν) | ((with_reducible apply cndT); exact rfl; (first | rfl | assumption)) | ((with_reducible apply cndF); exact rfl; (first | rfl | assumption)))
        refine rgx [(7,[10],[]),(14,[76],[78])] (by kernel_rfl) fun K hK => ?_
        refine stxA ?_
        ((first | ((with_reducible refine x0 ?_ ?_); exact rfl) | ((with_reducible refine x1 ?_ ?_ ?_); exact rfl; (with_reducible apply gt_); exact rfl; exact rfl; (first | rfl | assumption | (simp [*] <;> done)))); refine xcA (h2 := (s9)) (hk := ?_))
        refine stxA ?_
        ((first | ((with_reducible refine x0 ?_ ?_); exact rfl) | ((with_reducible refine x1 ?_ ?_ ?_); exact rfl; (with_reducible apply gt_); exact rfl; exact rfl; (first | rfl | assumption | (simp [*] <;> done)))); refine xcA (h2 := (s10)) (hk := ?_))
        refine stxA ?_
        with_reducible refine xz ?_
        refine hK _ _ _ ?_
        clear hK K; intro ν
        repeat (first | with_reducible (first | refine aWp_seq ?_ | refine seq_normal ?_ | refine seq_ret ?_ | refine seq_exit ?_ | refine blk_normal ?_ | refine blk_ret ?_ | refine blk_hit ?_ | refine blk_miss rfl ?_ | refine aWp_ret ?_ | refine aWp_skip ?_ | refine aWp_block ?_ | refine aWp_exit ?_ | refine end_ret ?_ | refine end_normal ?_) | ((refine rgA ?_); intro ν) | ((with_reducible apply cndT); exact rfl; (first | rfl | assumption)) | ((with_reducible apply cndF); exact rfl; (first | rfl | assumption)))
        refine rg fun K hK => ?_
        refine stA ?_
        (first | with_reducible refine g0 ?_ | ((with_reducible refine g1 ?_ ?_); (with_reducible apply gt_); exact rfl; exact rfl; (first | rfl | assumption | (simp [*] <;> done)))); refine scA (h2 := (s11)) (hk := ?_)
        refine stA ?_
        with_reducible refine rz ?_
        refine hK _ _ _ ?_
        clear hK K; intro ν
        repeat (first | with_reducible (first | refine aWp_seq ?_ | refine seq_normal ?_ | refine seq_ret ?_ | refine seq_exit ?_ | refine blk_normal ?_ | refine blk_ret ?_ | refine blk_hit ?_ | refine blk_miss rfl ?_ | refine aWp_ret ?_ | refine aWp_skip ?_ | refine aWp_block ?_ | refine aWp_exit ?_ | refine end_ret ?_ | refine end_normal ?_) | ((refine rgA ?_); intro ν) | ((with_reducible apply cndT); exact rfl; (first | rfl | assumption)) | ((with_reducible apply cndF); exact rfl; (first | rfl | assumption)))
        (first | with_reducible refine end_r ?_ | with_reducible refine end_n ?_); refine en2 ?_
        rfl
      · rw [if_neg (fun h => q3 h.2.2)]
        rw [decide_eq_false q3] at s10
        clear q3
        generalize List.replicate F f = RF at *
        repeat (first | with_reducible (first | refine aWp_seq ?_ | refine seq_normal ?_ | refine seq_ret ?_ | refine seq_exit ?_ | refine blk_normal ?_ | refine blk_ret ?_ | refine blk_hit ?_ | refine blk_miss rfl ?_ | refine aWp_ret ?_ | refine aWp_skip ?_ | refine aWp_block ?_ | refine aWp_exit ?_ | refine end_ret ?_ | refine end_normal ?_) | ((refine rgA ?_); intro ν) | ((with_reducible apply cndT); exact rfl; (first | rfl | assumption)) | ((with_reducible apply cndF); exact rfl; (first | rfl | assumption)))
        refine rgx [(7,[10],[]),(14,[76],[78])] (by kernel_rfl) fun K hK => ?_
        refine stxA ?_
        ((first | ((with_reducible refine x0 ?_ ?_); exact rfl) | ((with_reducible refine x1 ?_ ?_ ?_); exact rfl; (with_reducible apply gt_); exact rfl; exact rfl; (first | rfl | assumption | (simp [*] <;> done)))); refine xcA (h2 := (s9)) (hk := ?_))
        refine stxA ?_
        ((first | ((with_reducible refine x0 ?_ ?_); exact rfl) | ((with_reducible refine x1 ?_ ?_ ?_); exact rfl; (with_reducible apply gt_); exact rfl; exact rfl; (first | rfl | assumption | (simp [*] <;> done)))); refine xcA (h2 := (s10)) (hk := ?_))
        refine stxA ?_
        with_reducible refine xz ?_
        refine hK _ _ _ ?_
        clear hK K; intro ν
        repeat (first | with_reducible (first | refine aWp_seq ?_ | refine seq_normal ?_ | refine seq_ret ?_ | refine seq_exit ?_ | refine blk_normal ?_ | refine blk_ret ?_ | refine blk_hit ?_ | refine blk_miss rfl ?_ | refine aWp_ret ?_ | refine aWp_skip ?_ | refine aWp_block ?_ | refine aWp_exit ?_ | refine end_ret ?_ | refine end_normal ?_) | ((refine rgA ?_); intro ν) | ((with_reducible apply cndT); exact rfl; (first | rfl | assumption)) | ((with_reducible apply cndF); exact rfl; (first | rfl | assumption)))
        (first | with_reducible refine end_r ?_ | with_reducible refine end_n ?_); refine en2 ?_
        rfl
  · rw [openB, if_pos (.inr hm)]
    have hmI : ¬ (b.length : Int) % 16 = 0 := by omega
    repeat (first | with_reducible (first | refine aWp_seq ?_ | refine seq_normal ?_ | refine seq_ret ?_ | refine seq_exit ?_ | refine blk_normal ?_ | refine blk_ret ?_ | refine blk_hit ?_ | refine blk_miss rfl ?_ | refine aWp_ret ?_ | refine aWp_skip ?_ | refine aWp_block ?_ | refine aWp_exit ?_ | refine end_ret ?_ | refine end_normal ?_) | ((refine rgA ?_); intro ν) | ((with_reducible apply cndT); exact rfl; (first | rfl | assumption)) | ((with_reducible apply cndF); exact rfl; (first | rfl | assumption)))
    refine rg fun K hK => ?_
    refine stA ?_
    (first | with_reducible refine g0 ?_ | ((with_reducible refine g1 ?_ ?_); (with_reducible apply gt_); exact rfl; exact rfl; (first | rfl | assumption | (simp [*] <;> done)))); refine scA (h2 := (s1)) (hk := ?_)
    refine stA ?_
    with_reducible refine rz ?_
    refine hK _ _ _ ?_
    clear hK K; intro ν
    repeat (first | with_reducible (first | refine aWp_seq ?_ | refine seq_normal ?_ | refine seq_ret ?_ | refine seq_exit ?_ | refine blk_normal ?_ | refine blk_ret ?_ | refine blk_hit ?_ | refine blk_miss rfl ?_ | refine aWp_ret ?_ | refine aWp_skip ?_ | refine aWp_block ?_ | refine aWp_exit ?_ | refine end_ret ?_ | refine end_normal ?_) | ((refine rgA ?_); intro ν) | ((with_reducible apply cndT); exact rfl; (first | rfl | assumption)) | ((with_reducible apply cndF); exact rfl; (first | rfl | assumption)))
    (first | with_reducible refine end_r ?_ | with_reducible refine end_n ?_); refine en2 ?_
    rfl
end Go.Proofs.Ytmbnclpgldglnaa
