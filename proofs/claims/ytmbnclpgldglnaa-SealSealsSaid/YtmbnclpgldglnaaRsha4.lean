import Derived.Test.YtmbnclpgldglnaaRsha3
import Derived.Test.YtmbnclpgldglnaaMg3
namespace Go.Proofs.Ytmbnclpgldglnaa
open Go.RowKit
set_option linter.unusedVariables false
set_option linter.unusedSimpArgs false
set_option maxRecDepth 20000
/-! the document's digest -/
theorem right_spec (x : BitVec 32) (n : Nat) (hn : n < 32) (h0 : 0 < n) : Spec Try.prog 90 [.int .u32 (n32 x), .int .i64 n] (.k (.int .u32 (n32 (x.rotateRight n)))) := by
  have e : x.rotateRight n = x >>> n ||| x <<< (32 - n) := by rw [BitVec.rotateRight_def, Nat.mod_eq_of_lt hn]
  have e2 : ((32 : Int) - (n : Int)).toNat = 32 - n := by omega
  rw [e]
  refine spec_of (fun _ => false) (by kernel_rfl) Try.func90 rfl rfl (by simp [Try.ntmps90]) (by decide) ?_
  intro δ
  rw [init2]
  repeat (first | with_reducible (first | refine aWp_seq ?_ | refine seq_normal ?_ | refine seq_ret ?_ | refine seq_exit ?_ | refine blk_normal ?_ | refine blk_ret ?_ | refine blk_hit ?_ | refine blk_miss rfl ?_ | refine aWp_ret ?_ | refine aWp_skip ?_ | refine aWp_block ?_ | refine aWp_exit ?_ | refine end_ret ?_ | refine end_normal ?_) | ((refine rgA ?_); intro ν) | ((with_reducible apply cndT); exact rfl; (first | rfl | assumption)) | ((with_reducible apply cndF); exact rfl; (first | rfl | assumption)))
  (first | with_reducible refine end_r ?_ | with_reducible refine end_n ?_); refine en1 ?_
  rw [e2]
def hsF (ks h0 : List (BitVec 32)) (M : List UInt8) : Nat → List (BitVec 32)
  | 0 => h0
  | q + 1 => press ks (hsF ks h0 M q) ((M.drop (q * 64)).take 64)
theorem hsF_len (ks h0 : List (BitVec 32)) (M : List UInt8) (q : Nat) : (hsF ks h0 M q).length = h0.length := by
  induction q with
  | zero => rfl
  | succ q ih => rw [hsF, press_len, ih]
theorem hsF_fold (ks h0 : List (BitVec 32)) (M : List UInt8) (q : Nat) : hsF ks h0 M q = ((List.range q).map fun j => (M.drop (j * 64)).take 64).foldl (press ks) h0 := by
  induction q with
  | zero => rfl
  | succ q ih => rw [hsF, ih, List.range_succ, List.map_append, List.foldl_append]; rfl
theorem or_sum {a b c d : Nat} (ha : a < 256) (hb : b < 256) (hc : c < 256) (hd : d < 256) : ((a <<< 24 ||| b <<< 16) ||| c <<< 8) ||| d = a * 16777216 + b * 65536 + c * 256 + d := by
  rw [Nat.or_assoc, Nat.or_assoc, ← Nat.shiftLeft_add_eq_or_of_lt (show d < 2 ^ 8 by omega), ← Nat.shiftLeft_add_eq_or_of_lt (show c <<< 8 + d < 2 ^ 16 by rw [Nat.shiftLeft_eq]; omega), ← Nat.shiftLeft_add_eq_or_of_lt (show b <<< 16 + (c <<< 8 + d) < 2 ^ 24 by simp only [Nat.shiftLeft_eq]; omega)]
  simp only [Nat.shiftLeft_eq]; omega
theorem n32_w8 (b : UInt8) : n32 (b.toBitVec.setWidth 32) = (b.toNat : Int) := by
  have := b.toNat_lt
  show ((b.toBitVec.setWidth 32).toNat : Int) = _
  rw [BitVec.toNat_setWidth]
  show ((b.toNat % 2 ^ 32 : Nat) : Int) = _
  omega
theorem beW_sum (b : List UInt8) (t : Nat) : n32 (beW b t) = ((b.getD (4 * t) 0).toNat : Int) * 16777216 + ((b.getD (4 * t + 1) 0).toNat : Int) * 65536 + ((b.getD (4 * t + 2) 0).toNat : Int) * 256 + ((b.getD (4 * t + 3) 0).toNat : Int) := by
  unfold beW
  generalize b.getD (4 * t) 0 = x
  generalize b.getD (4 * t + 1) 0 = y
  generalize b.getD (4 * t + 2) 0 = z
  generalize b.getD (4 * t + 3) 0 = u
  have h1 := x.toNat_lt
  have h2 := y.toNat_lt
  have h3 := z.toNat_lt
  have h4 := u.toNat_lt
  have h := or_sum (a := x.toNat) (b := y.toNat) (c := z.toNat) (d := u.toNat) (by omega) (by omega) (by omega) (by omega)
  have e : ∀ (v : UInt8) (k : Nat), k ≤ 24 → (v.toBitVec.setWidth 32 <<< k).toNat = v.toNat <<< k := fun v k hk => by
    have hv := v.toNat_lt
    rw [BitVec.toNat_shiftLeft, BitVec.toNat_setWidth, Nat.shiftLeft_eq, Nat.shiftLeft_eq]
    show v.toNat % 2 ^ 32 * 2 ^ k % 2 ^ 32 = _
    have hk2 : 2 ^ k ≤ 2 ^ 24 := Nat.pow_le_pow_right (by omega) hk
    have hm : v.toNat * 2 ^ k ≤ 255 * 2 ^ 24 := Nat.mul_le_mul (by omega) hk2
    rw [Nat.mod_eq_of_lt (show v.toNat < 2 ^ 32 by omega), Nat.mod_eq_of_lt (by omega)]
  show (((_ ||| _) ||| _ ||| _ : BitVec 32).toNat : Int) = _
  rw [BitVec.toNat_or, BitVec.toNat_or, BitVec.toNat_or, e x 24 (by omega), e y 16 (by omega), e z 8 (by omega)]
  have e0 : (u.toBitVec.setWidth 32).toNat = u.toNat := by
    rw [BitVec.toNat_setWidth]; show u.toNat % 2 ^ 32 = _; omega
  rw [e0, h, Int.natCast_add, Int.natCast_add, Int.natCast_add, Int.natCast_mul, Int.natCast_mul, Int.natCast_mul]; rfl
theorem sub_not (e : BitVec 32) : (4294967295 : Int) - n32 e = n32 (~~~e) := by
  have := e.isLt
  show (4294967295 : Int) - (e.toNat : Int) = ((~~~e).toNat : Int)
  rw [BitVec.toNat_not]; omega
theorem ch_eq (e f g : BitVec 32) : Go.bits .xor .u32 (n32 (e &&& f)) (Go.bits .and .u32 (4294967295 - n32 e) (n32 g)) = n32 (e &&& f ^^^ ~~~e &&& g) := by
  rw [sub_not, band32, bxor32]
theorem aWp_abs {P : Program} {c : Code} {Q : AEx → St → Prop} {F : Nat → SV} {T : Nat → Option (Nat × Ent)} {ν : Nat} {md : Md} (M : (Nat → SV) → Prop) (hM : M F) (h : ∀ F', M F' → aWp P c Q ⟨F', T, ν, md⟩) : aWp P c Q ⟨F, T, ν, md⟩ := h F hM
theorem fill_one (k : IntKind) (l1 l2 : List AV) (y : AV) (x : Int) (r : List (Nat × AV)) (i : Nat) (h : l1.length = i) : aFill (fun j => some (j * 1, 1)) (l1 ++ y :: l2) ((i, .int k x) :: r) = aFill (fun j => some (j * 1, 1)) (l1 ++ .int k x :: l2) r := by
  subst h
  have e : List.take (l1.length * 1) (l1 ++ y :: l2) ++ (AV.int k x).cells ++ List.drop (l1.length * 1 + 1) (l1 ++ y :: l2) = l1 ++ .int k x :: l2 := by
    rw [Nat.mul_one, List.take_left, List.drop_append, List.drop_of_length_le (by omega), List.nil_append, Nat.add_sub_cancel_left]
    simp [AV.cells]
  rw [aFill]
  show (if _ then aFill _ _ r else none) = _
  rw [if_pos ⟨rfl, rfl, by simp⟩, e]
theorem fill8 (k : IntKind) (a b c d e f g h : Int) (z : AV) : aFill (fun j => some (j * 1, 1)) (aZeros 8 1 [z]) [(0, .int k a), (1, .int k b), (2, .int k c), (3, .int k d), (4, .int k e), (5, .int k f), (6, .int k g), (7, .int k h)] = some [.int k a, .int k b, .int k c, .int k d, .int k e, .int k f, .int k g, .int k h] := by
  rw [show aZeros 8 1 [z] = [] ++ z :: [z, z, z, z, z, z, z] from rfl]
  rw [fill_one k [] [z, z, z, z, z, z, z] z a _ 0 rfl]
  rw [show ([] ++ .int k a :: [z, z, z, z, z, z, z] : List AV) = [.int k a] ++ z :: [z, z, z, z, z, z] from rfl]
  rw [fill_one k [.int k a] [z, z, z, z, z, z] z b _ 1 rfl]
  rw [show ([.int k a] ++ .int k b :: [z, z, z, z, z, z] : List AV) = [.int k a, .int k b] ++ z :: [z, z, z, z, z] from rfl]
  rw [fill_one k [.int k a, .int k b] [z, z, z, z, z] z c _ 2 rfl]
  rw [show ([.int k a, .int k b] ++ .int k c :: [z, z, z, z, z] : List AV) = [.int k a, .int k b, .int k c] ++ z :: [z, z, z, z] from rfl]
  rw [fill_one k [.int k a, .int k b, .int k c] [z, z, z, z] z d _ 3 rfl]
  rw [show ([.int k a, .int k b, .int k c] ++ .int k d :: [z, z, z, z] : List AV) = [.int k a, .int k b, .int k c, .int k d] ++ z :: [z, z, z] from rfl]
  rw [fill_one k [.int k a, .int k b, .int k c, .int k d] [z, z, z] z e _ 4 rfl]
  rw [show ([.int k a, .int k b, .int k c, .int k d] ++ .int k e :: [z, z, z] : List AV) = [.int k a, .int k b, .int k c, .int k d, .int k e] ++ z :: [z, z] from rfl]
  rw [fill_one k [.int k a, .int k b, .int k c, .int k d, .int k e] [z, z] z f _ 5 rfl]
  rw [show ([.int k a, .int k b, .int k c, .int k d, .int k e] ++ .int k f :: [z, z] : List AV) = [.int k a, .int k b, .int k c, .int k d, .int k e, .int k f] ++ z :: [z] from rfl]
  rw [fill_one k [.int k a, .int k b, .int k c, .int k d, .int k e, .int k f] [z] z g _ 6 rfl]
  rw [show ([.int k a, .int k b, .int k c, .int k d, .int k e, .int k f] ++ .int k g :: [z] : List AV) = [.int k a, .int k b, .int k c, .int k d, .int k e, .int k f, .int k g] ++ z :: [] from rfl]
  rw [fill_one k [.int k a, .int k b, .int k c, .int k d, .int k e, .int k f, .int k g] [] z h _ 7 rfl]
  rfl
theorem all_scB (l : List UInt8) : (aOfBytes l).all AV.sc = true := by simp [aOfBytes, AV.sc]
set_option maxHeartbeats 32000000 in
theorem rof_spec (full : Bool) (l : List UInt8) (hl : l.length ≤ 100000) : Spec Try.prog 60 [sumsA, .sl full l.length (aOfBytes l)] (.own 32 5 (aOfBytes (shaB l))) := by
  have s1 := rmessage_spec full l hl
  have hMm := msgB_mod l
  have hMl := msgB_len l
  have hpl := padN_lt l.length
  have hM2 : (msgB l).length ≤ 100100 := by omega
  obtain ⟨Q, hQ⟩ : ∃ Q, Q = (msgB l).length / 64 := ⟨_, rfl⟩
  have hdig : digW l = hsF wordsK startH (msgB l) Q := by
    rw [hsF_fold, digW, blocksB]
    have : chN (msgB l).length 64 = Q := by unfold chN; omega
    rw [this]
  rw [shaB, hdig, sumsA]
  have hk : wordsK.length = 64 := rfl
  have h8 : startH.length = 8 := rfl
  clear hMl hdig
  generalize msgB l = M at *
  generalize wordsK = ks at *
  generalize startH = h0 at *
  have hMa := aOfBytes_len M
  have hka := aOfW_len ks
  have hha := aOfW_len h0
  have hQM : 64 * Q = M.length := by omega
  refine spec_of_own (fun t => t == 30 || t == 33 || t == 42 || t == 129 || t == 237) (by kernel_rfl) Try.func60 rfl rfl (by simp [Try.ntmps60]) (by decide) ?_
  intro δ
  rw [init2]
  repeat (first | with_reducible (first | refine aWp_seq ?_ | refine seq_normal ?_ | refine seq_ret ?_ | refine seq_exit ?_ | refine blk_normal ?_ | refine blk_ret ?_ | refine blk_hit ?_ | refine blk_miss rfl ?_ | refine aWp_ret ?_ | refine aWp_skip ?_ | refine aWp_block ?_ | refine aWp_exit ?_ | refine end_ret ?_ | refine end_normal ?_) | ((refine rgA ?_); intro ν) | ((with_reducible apply cndT); exact rfl; (first | rfl | assumption)) | ((with_reducible apply cndF); exact rfl; (first | rfl | assumption)))
  refine rg fun K hK => ?_
  refine stA ?_
  (first | with_reducible refine g0 ?_ | ((with_reducible refine g1 ?_ ?_); (with_reducible apply gt_); exact rfl; exact rfl; (first | rfl | assumption | (simp [*] <;> done)))); refine scA (h2 := (s1)) (hk := ?_)
  refine stA ?_
  with_reducible refine rz ?_
  refine hK _ _ _ ?_
  clear hK K; intro ν
  repeat (first | with_reducible (first | refine aWp_seq ?_ | refine seq_normal ?_ | refine seq_ret ?_ | refine seq_exit ?_ | refine blk_normal ?_ | refine blk_ret ?_ | refine blk_hit ?_ | refine blk_miss rfl ?_ | refine aWp_ret ?_ | refine aWp_skip ?_ | refine aWp_block ?_ | refine aWp_exit ?_ | refine end_ret ?_ | refine end_normal ?_) | ((refine rgA ?_); intro ν) | ((with_reducible apply cndT); exact rfl; (first | rfl | assumption)) | ((with_reducible apply cndF); exact rfl; (first | rfl | assumption)))
  refine aWp_loop (fun m s => ∃ F T ν q A ga gb h, m = Q - q ∧ q ≤ Q ∧ A = 64 * q ∧ h = hsF ks h0 M q ∧ s = ⟨F, T, ν, ⟨fun t => t == 30 || t == 33 || t == 42 || t == 129 || t == 237, δ, false⟩⟩ ∧ F 2 = .ob 2 ga 0 ∧ F 5 = .os 33 gb 0 8 8 ∧ F 6 = .k (.sl false M.length (aOfBytes M)) ∧ F 7 = .k (.int .i64 ((A : Nat) : Int)) ∧ T 2 = some (ga, .obj [.sl false 64 (aOfW ks), .sl false 8 (aOfW h0)]) ∧ T 33 = some (gb, .obj (aOfW h))) Q ⟨_, _, _, 0, 0, _, _, _, rfl, Nat.zero_le _, rfl, rfl, rfl, rfl, rfl, rfl, rfl, rfl, rfl⟩ ?_
  rintro m s ⟨F, T, ν, q, A, ga, gb, h, rfl, hq, hA, hh, rfl, f2, f5, f6, f7, t2, t33⟩
  rw [has4 f2 f5 f6 f7, has2 t2 t33]
  have hh8 : h.length = 8 := by rw [hh, hsF_len]; exact h8
  have hhw := aOfW_len h
  by_cases hlt : q < Q
  · have hblk : ∀ j, j < 64 → M.getD (A + j) 0 = ((M.drop (q * 64)).take 64).getD j 0 := fun j hj => by
      rw [List.getD_eq_getElem?_getD, List.getD_eq_getElem?_getD, List.getElem?_take, if_pos hj, List.getElem?_drop, hA, Nat.mul_comm]
    have hnext : hsF ks h0 M (q + 1) = press ks h ((M.drop (q * 64)).take 64) := by rw [hsF, hh]
    clear hh
    generalize (M.drop (q * 64)).take 64 = b at *
    repeat (first | with_reducible (first | refine aWp_seq ?_ | refine seq_normal ?_ | refine seq_ret ?_ | refine seq_exit ?_ | refine blk_normal ?_ | refine blk_ret ?_ | refine blk_hit ?_ | refine blk_miss rfl ?_ | refine aWp_ret ?_ | refine aWp_skip ?_ | refine aWp_block ?_ | refine aWp_exit ?_ | refine end_ret ?_ | refine end_normal ?_) | ((refine rgA ?_); intro ν) | ((with_reducible apply cndT); exact rfl; (first | rfl | assumption)) | ((with_reducible apply cndF); exact rfl; (first | rfl | assumption)))
    refine aWp_loop (fun m s => ∃ F T ν t ga gb x, m = 64 - t ∧ t ≤ 64 ∧ s = ⟨F, T, ν, ⟨fun t => t == 30 || t == 33 || t == 42 || t == 129 || t == 237, δ, false⟩⟩ ∧ F 2 = .ob 2 ga 0 ∧ F 5 = .os 33 gb 0 8 8 ∧ F 6 = .k (.sl false M.length (aOfBytes M)) ∧ F 7 = .k (.int .i64 ((A : Nat) : Int)) ∧ F 9 = .k (.int .i64 (t : Nat)) ∧ F 8 = x ∧ T 2 = some (ga, .obj [.sl false 64 (aOfW ks), .sl false 8 (aOfW h0)]) ∧ T 33 = some (gb, .obj (aOfW h)) ∧
      ((t = 0 ∧ x = .k (.sl true 0 [])) ∨ (∃ gx, 0 < t ∧ t ≤ 16 ∧ x = .ow 84 gx t 85 (aOfW (sched b t)) ∧ T 84 = some (gx, .tag)) ∨ (∃ gx, 16 < t ∧ x = .ow 128 gx t 85 (aOfW (sched b t)) ∧ T 128 = some (gx, .tag)))) 64 ⟨_, _, _, 0, _, _, _, rfl, Nat.zero_le _, rfl, rfl, rfl, rfl, rfl, rfl, rfl, rfl, rfl, .inl ⟨rfl, rfl⟩⟩ ?_
    rintro m s ⟨F, T, ν, t, ga, gb, x, rfl, ht, rfl, f2, f5, f6, f7, f9, f8, t2, t33, hx⟩
    rw [has6 f2 f5 f6 f7 f9 f8, has2 t2 t33]
    have hsl := sched_len b t
    have hsla := aOfW_len (sched b t)
    by_cases hlt1 : t < 64
    · as_aux_lemma =>
        skip
        have hsn : aOfW (sched b (t + 1)) = aOfW (sched b t) ++ [.int .u32 (n32 (schW b (sched b t) t))] := by rw [sched]; simp [aOfW]
        by_cases ht16 : t < 16
        · have hkI : (A : Int) + 4 * (t : Int) = ((A + 4 * t : Nat) : Int) := by push_cast; rfl
          have hAM : A + 64 ≤ M.length := by omega
          have q0 := ld_b M (A + 4 * t) (by omega)
          have q1 := ld_b M (A + 4 * t + 1) (by omega)
          have q2 := ld_b M (A + 4 * t + 2) (by omega)
          have q3 := ld_b M (A + 4 * t + 3) (by omega)
          rw [hblk (4 * t) (by omega)] at q0
          rw [Nat.add_assoc, hblk (4 * t + 1) (by omega)] at q1
          rw [Nat.add_assoc, hblk (4 * t + 2) (by omega)] at q2
          rw [Nat.add_assoc, hblk (4 * t + 3) (by omega)] at q3
          have hbe := beW_sum b t
          have hsch : schW b (sched b t) t = beW b t := by rw [schW, if_pos ht16]
          rw [hsch, hbe] at hsn
          have c0 := n32_w8 (b.getD (4 * t) 0)
          have c1 := n32_w8 (b.getD (4 * t + 1) 0)
          have c2 := n32_w8 (b.getD (4 * t + 2) 0)
          have c3 := n32_w8 (b.getD (4 * t + 3) 0)
          have d0 := (b.getD (4 * t) 0).toNat_lt
          have d1 := (b.getD (4 * t + 1) 0).toNat_lt
          have d2 := (b.getD (4 * t + 2) 0).toNat_lt
          have d3 := (b.getD (4 * t + 3) 0).toNat_lt
          rw [← c0, ← c1, ← c2, ← c3] at hsn
          have B0 : 0 ≤ n32 ((b.getD (4 * t) 0).toBitVec.setWidth 32) ∧ n32 ((b.getD (4 * t) 0).toBitVec.setWidth 32) ≤ 255 := by rw [c0]; omega
          have B1 : 0 ≤ n32 ((b.getD (4 * t + 1) 0).toBitVec.setWidth 32) ∧ n32 ((b.getD (4 * t + 1) 0).toBitVec.setWidth 32) ≤ 255 := by rw [c1]; omega
          have B2 : 0 ≤ n32 ((b.getD (4 * t + 2) 0).toBitVec.setWidth 32) ∧ n32 ((b.getD (4 * t + 2) 0).toBitVec.setWidth 32) ≤ 255 := by rw [c2]; omega
          have B3 : 0 ≤ n32 ((b.getD (4 * t + 3) 0).toBitVec.setWidth 32) ∧ n32 ((b.getD (4 * t + 3) 0).toBitVec.setWidth 32) ≤ 255 := by rw [c3]; omega
          clear hblk hbe hsch c0 c1 c2 c3 d0 d1 d2 d3
          generalize b.getD (4 * t) 0 = b0 at *
          generalize b.getD (4 * t + 1) 0 = b1 at *
          generalize b.getD (4 * t + 2) 0 = b2 at *
          generalize b.getD (4 * t + 3) 0 = b3 at *
          obtain ⟨k, hk2⟩ : ∃ k, k = A + 4 * t := ⟨_, rfl⟩
          rw [← Nat.add_assoc, ← hk2] at q1 q2 q3
          rw [← hk2] at q0 hkI
          have e1 : ((k : Int) + 1).toNat = k + 1 := by omega
          have e2 : ((k : Int) + 2).toNat = k + 2 := by omega
          have e3 : ((k : Int) + 3).toNat = k + 3 := by omega
          rw [← e1] at q1
          rw [← e2] at q2
          rw [← e3] at q3
          have hkM : k + 4 ≤ M.length := by omega
          have hkm : M.length ≤ 100100 := hM2
          clear e1 e2 e3 hk2 hAM hq hlt hA hMm hM2 hQ hk h8 hka hha hQM hh8 hhw hnext s1 hl hpl ht
          rcases hx with ⟨ht0, rfl⟩ | ⟨gx, ht0, _, rfl, tx⟩ | ⟨gx, h16, _⟩
          · as_aux_lemma =>
              repeat (first | with_reducible (first | refine aWp_seq ?_ | refine seq_normal ?_ | refine seq_ret ?_ | refine seq_exit ?_ | refine blk_normal ?_ | refine blk_ret ?_ | refine blk_hit ?_ | refine blk_miss rfl ?_ | refine aWp_ret ?_ | refine aWp_skip ?_ | refine aWp_block ?_ | refine aWp_exit ?_ | refine end_ret ?_ | refine end_normal ?_) | ((refine rgA ?_); intro ν) | ((with_reducible apply cndT); exact rfl; (first | rfl | assumption)) | ((with_reducible apply cndF); exact rfl; (first | rfl | assumption)))
              rw [hkI]
              refine rgxA [(31,[83,84],[83,84])] ?_
              intro ν
              repeat (first | with_reducible (first | refine aWp_seq ?_ | refine seq_normal ?_ | refine seq_ret ?_ | refine seq_exit ?_ | refine blk_normal ?_ | refine blk_ret ?_ | refine blk_hit ?_ | refine blk_miss rfl ?_ | refine aWp_ret ?_ | refine aWp_skip ?_ | refine aWp_block ?_ | refine aWp_exit ?_ | refine end_ret ?_ | refine end_normal ?_) | ((refine rgA ?_); intro ν) | ((with_reducible apply cndT); exact rfl; (first | rfl | assumption)) | ((with_reducible apply cndF); exact rfl; (first | rfl | assumption)))
              refine ⟨64 - (t + 1), by omega, _, _, _, t + 1, ga, gb, _, rfl, by omega, rfl, rfl, rfl, rfl, rfl, ?_, rfl, rfl, rfl, .inr (.inl ⟨_, by omega, by omega, ?_, rfl⟩)⟩
              · show (SV.k (.int .i64 ((t : Int) + 1)) : SV) = _
                rw [Int.natCast_succ]
              · rw [hsn]; subst ht0; rfl
          · as_aux_lemma =>
              rw [upd_self tx]
              repeat (first | with_reducible (first | refine aWp_seq ?_ | refine seq_normal ?_ | refine seq_ret ?_ | refine seq_exit ?_ | refine blk_normal ?_ | refine blk_ret ?_ | refine blk_hit ?_ | refine blk_miss rfl ?_ | refine aWp_ret ?_ | refine aWp_skip ?_ | refine aWp_block ?_ | refine aWp_exit ?_ | refine end_ret ?_ | refine end_normal ?_) | ((refine rgA ?_); intro ν) | ((with_reducible apply cndT); exact rfl; (first | rfl | assumption)) | ((with_reducible apply cndF); exact rfl; (first | rfl | assumption)))
              rw [hkI]
              refine rgxA [(31,[83,84],[83,84])] ?_
              intro ν
              repeat (first | with_reducible (first | refine aWp_seq ?_ | refine seq_normal ?_ | refine seq_ret ?_ | refine seq_exit ?_ | refine blk_normal ?_ | refine blk_ret ?_ | refine blk_hit ?_ | refine blk_miss rfl ?_ | refine aWp_ret ?_ | refine aWp_skip ?_ | refine aWp_block ?_ | refine aWp_exit ?_ | refine end_ret ?_ | refine end_normal ?_) | ((refine rgA ?_); intro ν) | ((with_reducible apply cndT); exact rfl; (first | rfl | assumption)) | ((with_reducible apply cndF); exact rfl; (first | rfl | assumption)))
              refine ⟨64 - (t + 1), by omega, _, _, _, t + 1, ga, gb, _, rfl, by omega, rfl, rfl, rfl, rfl, rfl, ?_, rfl, rfl, rfl, .inr (.inl ⟨_, by omega, by omega, ?_, rfl⟩)⟩
              · show (SV.k (.int .i64 ((t : Int) + 1)) : SV) = _
                rw [Int.natCast_succ]
              · rw [hsn]; try rfl
          · omega
        · have hsch : schW b (sched b t) t = sig1 ((sched b t).getD (t - 2) 0) + (sched b t).getD (t - 7) 0 + sig0 ((sched b t).getD (t - 15) 0) + (sched b t).getD (t - 16) 0 := by rw [schW, if_neg ht16]
          rw [hsch] at hsn
          have q2 := ld_w0 (sched b t) (t - 2) (by omega)
          have q7 := ld_w0 (sched b t) (t - 7) (by omega)
          have q15 := ld_w0 (sched b t) (t - 15) (by omega)
          have q16 := ld_w0 (sched b t) (t - 16) (by omega)
          have e2 : ((t : Int) - 2).toNat = t - 2 := by omega
          have e7 : ((t : Int) - 7).toNat = t - 7 := by omega
          have e15 : ((t : Int) - 15).toNat = t - 15 := by omega
          have e16 : ((t : Int) - 16).toNat = t - 16 := by omega
          generalize (sched b t).getD (t - 2) 0 = w2 at *
          generalize (sched b t).getD (t - 7) 0 = w7 at *
          generalize (sched b t).getD (t - 15) 0 = w15 at *
          generalize (sched b t).getD (t - 16) 0 = w16 at *
          rw [← e2] at q2
          rw [← e7] at q7
          rw [← e15] at q15
          rw [← e16] at q16
          clear hblk hsch e2 e7 e15 e16 hq hlt hA hMm hQ hk h8 hka hha hQM hh8 hhw hnext s1 hl hpl hM2
          unfold sig0 sig1 at hsn
          rcases hx with ⟨ht0, _⟩ | ⟨gx, ht0, _, rfl, tx⟩ | ⟨gx, h16, rfl, tx⟩
          · omega
          · as_aux_lemma =>
              rw [upd_self tx]
              repeat (first | with_reducible (first | refine aWp_seq ?_ | refine seq_normal ?_ | refine seq_ret ?_ | refine seq_exit ?_ | refine blk_normal ?_ | refine blk_ret ?_ | refine blk_hit ?_ | refine blk_miss rfl ?_ | refine aWp_ret ?_ | refine aWp_skip ?_ | refine aWp_block ?_ | refine aWp_exit ?_ | refine end_ret ?_ | refine end_normal ?_) | ((refine rgA ?_); intro ν) | ((with_reducible apply cndT); exact rfl; (first | rfl | assumption)) | ((with_reducible apply cndF); exact rfl; (first | rfl | assumption)))
              refine rgxA [] ?_
              intro ν
              repeat with_reducible (first | refine aWp_seq ?_ | refine seq_normal ?_ | refine seq_ret ?_ | refine seq_exit ?_ | refine blk_normal ?_ | refine blk_ret ?_ | refine blk_hit ?_ | refine blk_miss rfl ?_ | refine aWp_ret ?_ | refine aWp_skip ?_ | refine aWp_block ?_ | refine aWp_exit ?_ | refine end_ret ?_ | refine end_normal ?_)
              refine rg fun K hK => ?_
              refine stA ?_
              (first | with_reducible refine g0 ?_ | ((with_reducible refine g1 ?_ ?_); (with_reducible apply gt_); exact rfl; exact rfl; (first | rfl | assumption | (simp [*] <;> done)))); refine scA (h2 := (right_spec _ 17 (by omega) (by omega))) (hk := ?_)
              refine stA ?_
              (first | with_reducible refine g0 ?_ | ((with_reducible refine g1 ?_ ?_); (with_reducible apply gt_); exact rfl; exact rfl; (first | rfl | assumption | (simp [*] <;> done)))); refine scA (h2 := (right_spec _ 19 (by omega) (by omega))) (hk := ?_)
              refine stA ?_
              with_reducible refine rz ?_
              refine hK _ _ _ ?_
              clear hK K; intro ν
              repeat with_reducible (first | refine aWp_seq ?_ | refine seq_normal ?_ | refine seq_ret ?_ | refine seq_exit ?_ | refine blk_normal ?_ | refine blk_ret ?_ | refine blk_hit ?_ | refine blk_miss rfl ?_ | refine aWp_ret ?_ | refine aWp_skip ?_ | refine aWp_block ?_ | refine aWp_exit ?_ | refine end_ret ?_ | refine end_normal ?_)
              refine rg fun K hK => ?_
              refine stA ?_
              (first | with_reducible refine g0 ?_ | ((with_reducible refine g1 ?_ ?_); (with_reducible apply gt_); exact rfl; exact rfl; (first | rfl | assumption | (simp [*] <;> done)))); refine scA (h2 := (right_spec _ 7 (by omega) (by omega))) (hk := ?_)
              refine stA ?_
              (first | with_reducible refine g0 ?_ | ((with_reducible refine g1 ?_ ?_); (with_reducible apply gt_); exact rfl; exact rfl; (first | rfl | assumption | (simp [*] <;> done)))); refine scA (h2 := (right_spec _ 18 (by omega) (by omega))) (hk := ?_)
              refine stA ?_
              with_reducible refine rz ?_
              refine hK _ _ _ ?_
              clear hK K; intro ν
              repeat with_reducible (first | refine aWp_seq ?_ | refine seq_normal ?_ | refine seq_ret ?_ | refine seq_exit ?_ | refine blk_normal ?_ | refine blk_ret ?_ | refine blk_hit ?_ | refine blk_miss rfl ?_ | refine aWp_ret ?_ | refine aWp_skip ?_ | refine aWp_block ?_ | refine aWp_exit ?_ | refine end_ret ?_ | refine end_normal ?_)
              refine rgxA [(17,[127,84,128],[127,84,128])] ?_
              intro ν
              repeat (first | with_reducible (first | refine aWp_seq ?_ | refine seq_normal ?_ | refine seq_ret ?_ | refine seq_exit ?_ | refine blk_normal ?_ | refine blk_ret ?_ | refine blk_hit ?_ | refine blk_miss rfl ?_ | refine aWp_ret ?_ | refine aWp_skip ?_ | refine aWp_block ?_ | refine aWp_exit ?_ | refine end_ret ?_ | refine end_normal ?_) | ((refine rgA ?_); intro ν) | ((with_reducible apply cndT); exact rfl; (first | rfl | assumption)) | ((with_reducible apply cndF); exact rfl; (first | rfl | assumption)))
              refine ⟨64 - (t + 1), by omega, _, _, _, t + 1, ga, gb, _, rfl, by omega, rfl, rfl, rfl, rfl, rfl, ?_, rfl, rfl, rfl, .inr (.inr ⟨_, by omega, ?_, rfl⟩)⟩
              · show (SV.k (.int .i64 ((t : Int) + 1)) : SV) = _
                rw [Int.natCast_succ]
              · rw [hsn]; try rfl
          · as_aux_lemma =>
              rw [upd_self tx]
              repeat (first | with_reducible (first | refine aWp_seq ?_ | refine seq_normal ?_ | refine seq_ret ?_ | refine seq_exit ?_ | refine blk_normal ?_ | refine blk_ret ?_ | refine blk_hit ?_ | refine blk_miss rfl ?_ | refine aWp_ret ?_ | refine aWp_skip ?_ | refine aWp_block ?_ | refine aWp_exit ?_ | refine end_ret ?_ | refine end_normal ?_) | ((refine rgA ?_); intro ν) | ((with_reducible apply cndT); exact rfl; (first | rfl | assumption)) | ((with_reducible apply cndF); exact rfl; (first | rfl | assumption)))
              refine rgxA [] ?_
              intro ν
              repeat with_reducible (first | refine aWp_seq ?_ | refine seq_normal ?_ | refine seq_ret ?_ | refine seq_exit ?_ | refine blk_normal ?_ | refine blk_ret ?_ | refine blk_hit ?_ | refine blk_miss rfl ?_ | refine aWp_ret ?_ | refine aWp_skip ?_ | refine aWp_block ?_ | refine aWp_exit ?_ | refine end_ret ?_ | refine end_normal ?_)
              refine rg fun K hK => ?_
              refine stA ?_
              (first | with_reducible refine g0 ?_ | ((with_reducible refine g1 ?_ ?_); (with_reducible apply gt_); exact rfl; exact rfl; (first | rfl | assumption | (simp [*] <;> done)))); refine scA (h2 := (right_spec _ 17 (by omega) (by omega))) (hk := ?_)
              refine stA ?_
              (first | with_reducible refine g0 ?_ | ((with_reducible refine g1 ?_ ?_); (with_reducible apply gt_); exact rfl; exact rfl; (first | rfl | assumption | (simp [*] <;> done)))); refine scA (h2 := (right_spec _ 19 (by omega) (by omega))) (hk := ?_)
              refine stA ?_
              with_reducible refine rz ?_
              refine hK _ _ _ ?_
              clear hK K; intro ν
              repeat with_reducible (first | refine aWp_seq ?_ | refine seq_normal ?_ | refine seq_ret ?_ | refine seq_exit ?_ | refine blk_normal ?_ | refine blk_ret ?_ | refine blk_hit ?_ | refine blk_miss rfl ?_ | refine aWp_ret ?_ | refine aWp_skip ?_ | refine aWp_block ?_ | refine aWp_exit ?_ | refine end_ret ?_ | refine end_normal ?_)
              refine rg fun K hK => ?_
              refine stA ?_
              (first | with_reducible refine g0 ?_ | ((with_reducible refine g1 ?_ ?_); (with_reducible apply gt_); exact rfl; exact rfl; (first | rfl | assumption | (simp [*] <;> done)))); refine scA (h2 := (right_spec _ 7 (by omega) (by omega))) (hk := ?_)
              refine stA ?_
              (first | with_reducible refine g0 ?_ | ((with_reducible refine g1 ?_ ?_); (with_reducible apply gt_); exact rfl; exact rfl; (first | rfl | assumption | (simp [*] <;> done)))); refine scA (h2 := (right_spec _ 18 (by omega) (by omega))) (hk := ?_)
              refine stA ?_
              with_reducible refine rz ?_
              refine hK _ _ _ ?_
              clear hK K; intro ν
              repeat with_reducible (first | refine aWp_seq ?_ | refine seq_normal ?_ | refine seq_ret ?_ | refine seq_exit ?_ | refine blk_normal ?_ | refine blk_ret ?_ | refine blk_hit ?_ | refine blk_miss rfl ?_ | refine aWp_ret ?_ | refine aWp_skip ?_ | refine aWp_block ?_ | refine aWp_exit ?_ | refine end_ret ?_ | refine end_normal ?_)
              refine rgxA [(17,[127,128],[127,128])] ?_
              intro ν
              repeat (first | with_reducible (first | refine aWp_seq ?_ | refine seq_normal ?_ | refine seq_ret ?_ | refine seq_exit ?_ | refine blk_normal ?_ | refine blk_ret ?_ | refine blk_hit ?_ | refine blk_miss rfl ?_ | refine aWp_ret ?_ | refine aWp_skip ?_ | refine aWp_block ?_ | refine aWp_exit ?_ | refine end_ret ?_ | refine end_normal ?_) | ((refine rgA ?_); intro ν) | ((with_reducible apply cndT); exact rfl; (first | rfl | assumption)) | ((with_reducible apply cndF); exact rfl; (first | rfl | assumption)))
              refine ⟨64 - (t + 1), by omega, _, _, _, t + 1, ga, gb, _, rfl, by omega, rfl, rfl, rfl, rfl, rfl, ?_, rfl, rfl, rfl, .inr (.inr ⟨_, by omega, ?_, rfl⟩)⟩
              · show (SV.k (.int .i64 ((t : Int) + 1)) : SV) = _
                rw [Int.natCast_succ]
              · rw [hsn]; try rfl
    have hte : t = 64 := by omega
    subst hte
    obtain ⟨h, _⟩ | ⟨gx, _, h, _⟩ | ⟨gx, _, rfl, tx⟩ := hx
    · omega
    · omega
    have hpr : press ks h b = List.zipWith (· + ·) h (rnds ks (sched b 64) h 64) := rfl
    rw [hpr] at hnext
    clear hblk hpr
    generalize sched b 64 = ws at *
    rw [upd_self tx]
    repeat (first | with_reducible (first | refine aWp_seq ?_ | refine seq_normal ?_ | refine seq_ret ?_ | refine seq_exit ?_ | refine blk_normal ?_ | refine blk_ret ?_ | refine blk_hit ?_ | refine blk_miss rfl ?_ | refine aWp_ret ?_ | refine aWp_skip ?_ | refine aWp_block ?_ | refine aWp_exit ?_ | refine end_ret ?_ | refine end_normal ?_) | ((refine rgA ?_); intro ν) | ((with_reducible apply cndT); exact rfl; (first | rfl | assumption)) | ((with_reducible apply cndF); exact rfl; (first | rfl | assumption)))
    refine aWp_loop (fun m s => ∃ F T ν r ga gb gx gy y, m = 64 - r ∧ r ≤ 64 ∧ s = ⟨F, T, ν, ⟨fun t => t == 30 || t == 33 || t == 42 || t == 129 || t == 237, δ, false⟩⟩ ∧ F 2 = .ob 2 ga 0 ∧ F 5 = .os 33 gb 0 8 8 ∧ F 6 = .k (.sl false M.length (aOfBytes M)) ∧ F 7 = .k (.int .i64 ((A : Nat) : Int)) ∧ F 8 = .ow 128 gx 64 85 (aOfW ws) ∧ F 16 = .k (.int .i64 (r : Nat)) ∧ F 15 = y ∧ T 2 = some (ga, .obj [.sl false 64 (aOfW ks), .sl false 8 (aOfW h0)]) ∧ T 33 = some (gb, .obj (aOfW h)) ∧ T 128 = some (gx, .tag) ∧
      ((r = 0 ∧ y = .ow 131 gy 8 85 (aOfW (rnds ks ws h r)) ∧ T 131 = some (gy, .tag)) ∨ (0 < r ∧ y = .ow 222 gy 8 85 (aOfW (rnds ks ws h r)) ∧ T 222 = some (gy, .tag)))) 64 ⟨_, _, _, 0, _, _, _, _, _, rfl, Nat.zero_le _, rfl, rfl, rfl, rfl, rfl, rfl, rfl, rfl, rfl, rfl, rfl, .inl ⟨rfl, ?_, rfl⟩⟩ ?_
    · dsimp only [rnds]
      have ht8 : List.take 8 (aOfW h) = aOfW h := List.take_of_length_le (by omega)
      first | (show (SV.ow 131 _ 8 85 (List.take 8 (List.take 8 (aOfW h))) : SV) = _; rw [ht8, ht8]) | (show (SV.ow 131 _ 8 85 (List.take 8 (aOfW h)) : SV) = _; rw [ht8])
    rintro m s ⟨F, T, ν, r, ga, gb, gx, gy, y, rfl, hr, rfl, f2, f5, f6, f7, f8, f16, f15, t2, t33, t128, hy⟩
    rw [has7 f2 f5 f6 f7 f8 f16 f15, has3 t2 t33 t128]
    have hwa := aOfW_len ws
    by_cases hlt2 : r < 64
    · as_aux_lemma =>
        skip
        have lk := ld_w0 ks r (by omega)
        have lw := ld_w0 ws r (by omega)
        have hvl := (rnds_len ks ws h r).trans hh8
        have hn : rnds ks ws h (r + 1) = rnd (ks.getD r 0) (ws.getD r 0) (rnds ks ws h r) := rfl
        obtain ⟨a, b', c, d, e, f, g, i, he⟩ := eight hvl
        rw [he] at hn
        have hv8 : [a, b', c, d, e, f, g, i].length = 8 := rfl
        have v0 : ldAgg (.int .u32) 1 (List.drop 0 (aOfW [a, b', c, d, e, f, g, i])) = some (.int .u32 (n32 a)) := ld_w0 [a, b', c, d, e, f, g, i] 0 (by rw [hv8]; omega)
        have v1 : ldAgg (.int .u32) 1 (List.drop 1 (aOfW [a, b', c, d, e, f, g, i])) = some (.int .u32 (n32 b')) := ld_w0 [a, b', c, d, e, f, g, i] 1 (by rw [hv8]; omega)
        have v2 : ldAgg (.int .u32) 1 (List.drop 2 (aOfW [a, b', c, d, e, f, g, i])) = some (.int .u32 (n32 c)) := ld_w0 [a, b', c, d, e, f, g, i] 2 (by rw [hv8]; omega)
        have v3 : ldAgg (.int .u32) 1 (List.drop 3 (aOfW [a, b', c, d, e, f, g, i])) = some (.int .u32 (n32 d)) := ld_w0 [a, b', c, d, e, f, g, i] 3 (by rw [hv8]; omega)
        have v4 : ldAgg (.int .u32) 1 (List.drop 4 (aOfW [a, b', c, d, e, f, g, i])) = some (.int .u32 (n32 e)) := ld_w0 [a, b', c, d, e, f, g, i] 4 (by rw [hv8]; omega)
        have v5 : ldAgg (.int .u32) 1 (List.drop 5 (aOfW [a, b', c, d, e, f, g, i])) = some (.int .u32 (n32 f)) := ld_w0 [a, b', c, d, e, f, g, i] 5 (by rw [hv8]; omega)
        have v6 : ldAgg (.int .u32) 1 (List.drop 6 (aOfW [a, b', c, d, e, f, g, i])) = some (.int .u32 (n32 g)) := ld_w0 [a, b', c, d, e, f, g, i] 6 (by rw [hv8]; omega)
        have v7 : ldAgg (.int .u32) 1 (List.drop 7 (aOfW [a, b', c, d, e, f, g, i])) = some (.int .u32 (n32 i)) := ld_w0 [a, b', c, d, e, f, g, i] 7 (by rw [hv8]; omega)
        have hva := aOfW_len [a, b', c, d, e, f, g, i]
        have lo := n32_lo e
        have hi := n32_hi e
        have hch := ch_eq e f g
        have hfin : aOfW (rnds ks ws h (r + 1)) = [.int .u32 (n32 ((((((i + ((e.rotateRight 6 ^^^ e.rotateRight 11) ^^^ e.rotateRight 25)) + (e &&& f ^^^ ~~~e &&& g)) + ks.getD r 0) + ws.getD r 0) + (((a.rotateRight 2 ^^^ a.rotateRight 13) ^^^ a.rotateRight 22) + ((a &&& b' ^^^ a &&& c) ^^^ b' &&& c))))), .int .u32 (n32 a), .int .u32 (n32 b'), .int .u32 (n32 c), .int .u32 (n32 (d + ((((i + ((e.rotateRight 6 ^^^ e.rotateRight 11) ^^^ e.rotateRight 25)) + (e &&& f ^^^ ~~~e &&& g)) + ks.getD r 0) + ws.getD r 0))), .int .u32 (n32 e), .int .u32 (n32 f), .int .u32 (n32 g)] := by rw [hn]; simp only [rnd, aOfW_cons, aOfW_nil]
        generalize ks.getD r 0 = kk at *
        generalize ws.getD r 0 = ww at *
        have hkk : ks.length = 64 := hk
        clear hn hq hlt hA hMm hM2 hQ hk h8 hha hQM hh8 hhw hnext s1 hl hpl hr
        rcases hy with ⟨hr0, rfl, ty⟩ | ⟨hr0, rfl, ty⟩
        · as_aux_lemma =>
            rw [he]
            generalize aOfW [a, b', c, d, e, f, g, i] = VV at *
            rw [upd_self ty]
            repeat (first | with_reducible (first | refine aWp_seq ?_ | refine seq_normal ?_ | refine seq_ret ?_ | refine seq_exit ?_ | refine blk_normal ?_ | refine blk_ret ?_ | refine blk_hit ?_ | refine blk_miss rfl ?_ | refine aWp_ret ?_ | refine aWp_skip ?_ | refine aWp_block ?_ | refine aWp_exit ?_ | refine end_ret ?_ | refine end_normal ?_) | ((refine rgA ?_); intro ν) | ((with_reducible apply cndT); exact rfl; (first | rfl | assumption)) | ((with_reducible apply cndF); exact rfl; (first | rfl | assumption)))
            refine rgxA [] ?_
            intro ν
            repeat (first | with_reducible (first | refine aWp_seq ?_ | refine seq_normal ?_ | refine seq_ret ?_ | refine seq_exit ?_ | refine blk_normal ?_ | refine blk_ret ?_ | refine blk_hit ?_ | refine blk_miss rfl ?_ | refine aWp_ret ?_ | refine aWp_skip ?_ | refine aWp_block ?_ | refine aWp_exit ?_ | refine end_ret ?_ | refine end_normal ?_) | ((refine rgA ?_); intro ν) | ((with_reducible apply cndT); exact rfl; (first | rfl | assumption)) | ((with_reducible apply cndF); exact rfl; (first | rfl | assumption)))
            rw [hch]
            clear lo hi hch
            refine rgx [(15,[2],[])] (by kernel_rfl) fun K hK => ?_
            refine stxA ?_
            ((first | ((with_reducible refine x0 ?_ ?_); exact rfl) | ((with_reducible refine x1 ?_ ?_ ?_); exact rfl; (with_reducible apply gt_); exact rfl; exact rfl; (first | rfl | assumption | (simp [*] <;> done)))); refine xcA (h2 := (right_spec _ 6 (by omega) (by omega))) (hk := ?_))
            refine stxA ?_
            ((first | ((with_reducible refine x0 ?_ ?_); exact rfl) | ((with_reducible refine x1 ?_ ?_ ?_); exact rfl; (with_reducible apply gt_); exact rfl; exact rfl; (first | rfl | assumption | (simp [*] <;> done)))); refine xcA (h2 := (right_spec _ 11 (by omega) (by omega))) (hk := ?_))
            refine stxA ?_
            ((first | ((with_reducible refine x0 ?_ ?_); exact rfl) | ((with_reducible refine x1 ?_ ?_ ?_); exact rfl; (with_reducible apply gt_); exact rfl; exact rfl; (first | rfl | assumption | (simp [*] <;> done)))); refine xcA (h2 := (right_spec _ 25 (by omega) (by omega))) (hk := ?_))
            refine stxA ?_
            with_reducible refine xz ?_
            refine hK _ _ _ ?_
            clear hK K; intro ν
            repeat with_reducible (first | refine aWp_seq ?_ | refine seq_normal ?_ | refine seq_ret ?_ | refine seq_exit ?_ | refine blk_normal ?_ | refine blk_ret ?_ | refine blk_hit ?_ | refine blk_miss rfl ?_ | refine aWp_ret ?_ | refine aWp_skip ?_ | refine aWp_block ?_ | refine aWp_exit ?_ | refine end_ret ?_ | refine end_normal ?_)
            refine rg fun K hK => ?_
            refine stA ?_
            (first | with_reducible refine g0 ?_ | ((with_reducible refine g1 ?_ ?_); (with_reducible apply gt_); exact rfl; exact rfl; (first | rfl | assumption | (simp [*] <;> done)))); refine scA (h2 := (right_spec _ 2 (by omega) (by omega))) (hk := ?_)
            refine stA ?_
            (first | with_reducible refine g0 ?_ | ((with_reducible refine g1 ?_ ?_); (with_reducible apply gt_); exact rfl; exact rfl; (first | rfl | assumption | (simp [*] <;> done)))); refine scA (h2 := (right_spec _ 13 (by omega) (by omega))) (hk := ?_)
            refine stA ?_
            (first | with_reducible refine g0 ?_ | ((with_reducible refine g1 ?_ ?_); (with_reducible apply gt_); exact rfl; exact rfl; (first | rfl | assumption | (simp [*] <;> done)))); refine scA (h2 := (right_spec _ 22 (by omega) (by omega))) (hk := ?_)
            refine stA ?_
            with_reducible refine rz ?_
            refine hK _ _ _ ?_
            clear hK K; intro ν
            clear v0 v1 v2 v4 v5 v6 v7 lk lw
            repeat with_reducible (first | refine aWp_seq ?_ | refine seq_normal ?_ | refine seq_ret ?_ | refine seq_exit ?_ | refine blk_normal ?_ | refine blk_ret ?_ | refine blk_hit ?_ | refine blk_miss rfl ?_ | refine aWp_ret ?_ | refine aWp_skip ?_ | refine aWp_block ?_ | refine aWp_exit ?_ | refine end_ret ?_ | refine end_normal ?_)
            refine aWp_abs (fun F => F 2 = .ob 2 ga 0 ∧ F 5 = .os 33 gb 0 8 8 ∧ F 6 = .k (.sl false M.length (aOfBytes M)) ∧ F 7 = .k (.int .i64 ((A : Nat) : Int)) ∧ F 8 = .ow 128 gx 64 85 (aOfW ws) ∧ F 16 = .k (.int .i64 (r : Nat)) ∧ F 15 = .ow 131 gy 8 85 VV ∧ F 17 = .k (.int .u32 (n32 a)) ∧ F 18 = .k (.int .u32 (n32 b')) ∧ F 19 = .k (.int .u32 (n32 c)) ∧ F 20 = .k (.int .u32 (n32 e)) ∧ F 21 = .k (.int .u32 (n32 f)) ∧ F 22 = .k (.int .u32 (n32 g)) ∧ F 25 = .k (.int .u32 (n32 ((((i + ((e.rotateRight 6 ^^^ e.rotateRight 11) ^^^ e.rotateRight 25)) + (e &&& f ^^^ ~~~e &&& g)) + kk) + ww))) ∧ F 26 = .k (.int .u32 (n32 (((a.rotateRight 2 ^^^ a.rotateRight 13) ^^^ a.rotateRight 22) + ((a &&& b' ^^^ a &&& c) ^^^ b' &&& c))))) ⟨rfl, rfl, rfl, rfl, rfl, rfl, rfl, rfl, rfl, rfl, rfl, rfl, rfl, rfl, rfl⟩ ?_
            rintro F ⟨f2, f5, f6, f7, f8, f16, f15, f17, f18, f19, f20, f21, f22, f25, f26⟩
            generalize (((i + ((e.rotateRight 6 ^^^ e.rotateRight 11) ^^^ e.rotateRight 25)) + (e &&& f ^^^ ~~~e &&& g)) + kk) + ww = X1 at *
            generalize ((a.rotateRight 2 ^^^ a.rotateRight 13) ^^^ a.rotateRight 22) + ((a &&& b' ^^^ a &&& c) ^^^ b' &&& c) = Y1 at *
            rw [has7 f2 f5 f6 f7 f8 f16 f15, has8 f17 f18 f19 f20 f21 f22 f25 f26]
            refine rg fun K hK => ?_
            iterate 14 ((with_reducible refine g0 ?_); (with_reducible apply sd); exact det_)
            clear v3
            (with_reducible refine g0 ?_); (with_reducible apply sd)
            refine d_lit_ow (tiX rfl) (tiX rfl) (by decide) (by decide) (hp := ?_) (hc := fill8 .u32 (n32 (X1 + Y1)) (n32 a) (n32 b') (n32 c) (n32 (d + X1)) (n32 e) (n32 f) (n32 g) (.int .u32 0)) rfl
            · rfl
            refine stA ?_
            with_reducible refine rz ?_
            refine hK _ _ _ ?_
            clear hK K; intro ν
            repeat (first | with_reducible (first | refine aWp_seq ?_ | refine seq_normal ?_ | refine seq_ret ?_ | refine seq_exit ?_ | refine blk_normal ?_ | refine blk_ret ?_ | refine blk_hit ?_ | refine blk_miss rfl ?_ | refine aWp_ret ?_ | refine aWp_skip ?_ | refine aWp_block ?_ | refine aWp_exit ?_ | refine end_ret ?_ | refine end_normal ?_) | ((refine rgA ?_); intro ν) | ((with_reducible apply cndT); exact rfl; (first | rfl | assumption)) | ((with_reducible apply cndF); exact rfl; (first | rfl | assumption)))
            refine ⟨64 - (r + 1), by omega, _, _, _, r + 1, ga, gb, gx, _, _, rfl, by omega, rfl, rfl, rfl, rfl, rfl, rfl, ?_, rfl, rfl, rfl, rfl, .inr ⟨by omega, ?_, rfl⟩⟩
            · show (SV.k (.int .i64 ((r : Int) + 1)) : SV) = _
              rw [Int.natCast_succ]
            · rw [hfin]; try rfl
        · as_aux_lemma =>
            rw [he]
            generalize aOfW [a, b', c, d, e, f, g, i] = VV at *
            rw [upd_self ty]
            repeat (first | with_reducible (first | refine aWp_seq ?_ | refine seq_normal ?_ | refine seq_ret ?_ | refine seq_exit ?_ | refine blk_normal ?_ | refine blk_ret ?_ | refine blk_hit ?_ | refine blk_miss rfl ?_ | refine aWp_ret ?_ | refine aWp_skip ?_ | refine aWp_block ?_ | refine aWp_exit ?_ | refine end_ret ?_ | refine end_normal ?_) | ((refine rgA ?_); intro ν) | ((with_reducible apply cndT); exact rfl; (first | rfl | assumption)) | ((with_reducible apply cndF); exact rfl; (first | rfl | assumption)))
            refine rgxA [] ?_
            intro ν
            repeat (first | with_reducible (first | refine aWp_seq ?_ | refine seq_normal ?_ | refine seq_ret ?_ | refine seq_exit ?_ | refine blk_normal ?_ | refine blk_ret ?_ | refine blk_hit ?_ | refine blk_miss rfl ?_ | refine aWp_ret ?_ | refine aWp_skip ?_ | refine aWp_block ?_ | refine aWp_exit ?_ | refine end_ret ?_ | refine end_normal ?_) | ((refine rgA ?_); intro ν) | ((with_reducible apply cndT); exact rfl; (first | rfl | assumption)) | ((with_reducible apply cndF); exact rfl; (first | rfl | assumption)))
            rw [hch]
            clear lo hi hch
            refine rgx [(15,[2],[])] (by kernel_rfl) fun K hK => ?_
            refine stxA ?_
            ((first | ((with_reducible refine x0 ?_ ?_); exact rfl) | ((with_reducible refine x1 ?_ ?_ ?_); exact rfl; (with_reducible apply gt_); exact rfl; exact rfl; (first | rfl | assumption | (simp [*] <;> done)))); refine xcA (h2 := (right_spec _ 6 (by omega) (by omega))) (hk := ?_))
            refine stxA ?_
            ((first | ((with_reducible refine x0 ?_ ?_); exact rfl) | ((with_reducible refine x1 ?_ ?_ ?_); exact rfl; (with_reducible apply gt_); exact rfl; exact rfl; (first | rfl | assumption | (simp [*] <;> done)))); refine xcA (h2 := (right_spec _ 11 (by omega) (by omega))) (hk := ?_))
            refine stxA ?_
            ((first | ((with_reducible refine x0 ?_ ?_); exact rfl) | ((with_reducible refine x1 ?_ ?_ ?_); exact rfl; (with_reducible apply gt_); exact rfl; exact rfl; (first | rfl | assumption | (simp [*] <;> done)))); refine xcA (h2 := (right_spec _ 25 (by omega) (by omega))) (hk := ?_))
            refine stxA ?_
            with_reducible refine xz ?_
            refine hK _ _ _ ?_
            clear hK K; intro ν
            repeat with_reducible (first | refine aWp_seq ?_ | refine seq_normal ?_ | refine seq_ret ?_ | refine seq_exit ?_ | refine blk_normal ?_ | refine blk_ret ?_ | refine blk_hit ?_ | refine blk_miss rfl ?_ | refine aWp_ret ?_ | refine aWp_skip ?_ | refine aWp_block ?_ | refine aWp_exit ?_ | refine end_ret ?_ | refine end_normal ?_)
            refine rg fun K hK => ?_
            refine stA ?_
            (first | with_reducible refine g0 ?_ | ((with_reducible refine g1 ?_ ?_); (with_reducible apply gt_); exact rfl; exact rfl; (first | rfl | assumption | (simp [*] <;> done)))); refine scA (h2 := (right_spec _ 2 (by omega) (by omega))) (hk := ?_)
            refine stA ?_
            (first | with_reducible refine g0 ?_ | ((with_reducible refine g1 ?_ ?_); (with_reducible apply gt_); exact rfl; exact rfl; (first | rfl | assumption | (simp [*] <;> done)))); refine scA (h2 := (right_spec _ 13 (by omega) (by omega))) (hk := ?_)
            refine stA ?_
            (first | with_reducible refine g0 ?_ | ((with_reducible refine g1 ?_ ?_); (with_reducible apply gt_); exact rfl; exact rfl; (first | rfl | assumption | (simp [*] <;> done)))); refine scA (h2 := (right_spec _ 22 (by omega) (by omega))) (hk := ?_)
            refine stA ?_
            with_reducible refine rz ?_
            refine hK _ _ _ ?_
            clear hK K; intro ν
            clear v0 v1 v2 v4 v5 v6 v7 lk lw
            repeat with_reducible (first | refine aWp_seq ?_ | refine seq_normal ?_ | refine seq_ret ?_ | refine seq_exit ?_ | refine blk_normal ?_ | refine blk_ret ?_ | refine blk_hit ?_ | refine blk_miss rfl ?_ | refine aWp_ret ?_ | refine aWp_skip ?_ | refine aWp_block ?_ | refine aWp_exit ?_ | refine end_ret ?_ | refine end_normal ?_)
            refine aWp_abs (fun F => F 2 = .ob 2 ga 0 ∧ F 5 = .os 33 gb 0 8 8 ∧ F 6 = .k (.sl false M.length (aOfBytes M)) ∧ F 7 = .k (.int .i64 ((A : Nat) : Int)) ∧ F 8 = .ow 128 gx 64 85 (aOfW ws) ∧ F 16 = .k (.int .i64 (r : Nat)) ∧ F 15 = .ow 222 gy 8 85 VV ∧ F 17 = .k (.int .u32 (n32 a)) ∧ F 18 = .k (.int .u32 (n32 b')) ∧ F 19 = .k (.int .u32 (n32 c)) ∧ F 20 = .k (.int .u32 (n32 e)) ∧ F 21 = .k (.int .u32 (n32 f)) ∧ F 22 = .k (.int .u32 (n32 g)) ∧ F 25 = .k (.int .u32 (n32 ((((i + ((e.rotateRight 6 ^^^ e.rotateRight 11) ^^^ e.rotateRight 25)) + (e &&& f ^^^ ~~~e &&& g)) + kk) + ww))) ∧ F 26 = .k (.int .u32 (n32 (((a.rotateRight 2 ^^^ a.rotateRight 13) ^^^ a.rotateRight 22) + ((a &&& b' ^^^ a &&& c) ^^^ b' &&& c))))) ⟨rfl, rfl, rfl, rfl, rfl, rfl, rfl, rfl, rfl, rfl, rfl, rfl, rfl, rfl, rfl⟩ ?_
            rintro F ⟨f2, f5, f6, f7, f8, f16, f15, f17, f18, f19, f20, f21, f22, f25, f26⟩
            generalize (((i + ((e.rotateRight 6 ^^^ e.rotateRight 11) ^^^ e.rotateRight 25)) + (e &&& f ^^^ ~~~e &&& g)) + kk) + ww = X1 at *
            generalize ((a.rotateRight 2 ^^^ a.rotateRight 13) ^^^ a.rotateRight 22) + ((a &&& b' ^^^ a &&& c) ^^^ b' &&& c) = Y1 at *
            rw [has7 f2 f5 f6 f7 f8 f16 f15, has8 f17 f18 f19 f20 f21 f22 f25 f26]
            refine rg fun K hK => ?_
            iterate 14 ((with_reducible refine g0 ?_); (with_reducible apply sd); exact det_)
            clear v3
            (with_reducible refine g0 ?_); (with_reducible apply sd)
            refine d_lit_ow (tiX rfl) (tiX rfl) (by decide) (by decide) (hp := ?_) (hc := fill8 .u32 (n32 (X1 + Y1)) (n32 a) (n32 b') (n32 c) (n32 (d + X1)) (n32 e) (n32 f) (n32 g) (.int .u32 0)) rfl
            · rfl
            refine stA ?_
            with_reducible refine rz ?_
            refine hK _ _ _ ?_
            clear hK K; intro ν
            repeat (first | with_reducible (first | refine aWp_seq ?_ | refine seq_normal ?_ | refine seq_ret ?_ | refine seq_exit ?_ | refine blk_normal ?_ | refine blk_ret ?_ | refine blk_hit ?_ | refine blk_miss rfl ?_ | refine aWp_ret ?_ | refine aWp_skip ?_ | refine aWp_block ?_ | refine aWp_exit ?_ | refine end_ret ?_ | refine end_normal ?_) | ((refine rgA ?_); intro ν) | ((with_reducible apply cndT); exact rfl; (first | rfl | assumption)) | ((with_reducible apply cndF); exact rfl; (first | rfl | assumption)))
            refine ⟨64 - (r + 1), by omega, _, _, _, r + 1, ga, gb, gx, _, _, rfl, by omega, rfl, rfl, rfl, rfl, rfl, rfl, ?_, rfl, rfl, rfl, rfl, .inr ⟨by omega, ?_, rfl⟩⟩
            · show (SV.k (.int .i64 ((r : Int) + 1)) : SV) = _
              rw [Int.natCast_succ]
            · rw [hfin]; try rfl
    have hre : r = 64 := by omega
    subst hre
    obtain ⟨h, _⟩ | ⟨_, rfl, ty⟩ := hy
    · omega
    have hvl := (rnds_len ks ws h 64).trans hh8
    generalize rnds ks ws h 64 = v at *
    have hva := aOfW_len v
    rw [upd_self ty, ← mixAdd_all h v hh8 hvl] at *
    repeat (first | with_reducible (first | refine aWp_seq ?_ | refine seq_normal ?_ | refine seq_ret ?_ | refine seq_exit ?_ | refine blk_normal ?_ | refine blk_ret ?_ | refine blk_hit ?_ | refine blk_miss rfl ?_ | refine aWp_ret ?_ | refine aWp_skip ?_ | refine aWp_block ?_ | refine aWp_exit ?_ | refine end_ret ?_ | refine end_normal ?_) | ((refine rgA ?_); intro ν) | ((with_reducible apply cndT); exact rfl; (first | rfl | assumption)) | ((with_reducible apply cndF); exact rfl; (first | rfl | assumption)))
    refine aWp_loop (fun m s => ∃ F T ν i ga gb gy, m = 8 - i ∧ i ≤ 8 ∧ s = ⟨F, T, ν, ⟨fun t => t == 30 || t == 33 || t == 42 || t == 129 || t == 237, δ, false⟩⟩ ∧ F 2 = .ob 2 ga 0 ∧ F 5 = .os 33 gb 0 8 8 ∧ F 6 = .k (.sl false M.length (aOfBytes M)) ∧ F 7 = .k (.int .i64 ((A : Nat) : Int)) ∧ F 15 = .ow 222 gy 8 85 (aOfW v) ∧ F 27 = .k (.int .i64 (i : Nat)) ∧ T 2 = some (ga, .obj [.sl false 64 (aOfW ks), .sl false 8 (aOfW h0)]) ∧ T 33 = some (gb, .obj (aOfW (mixAdd h v i))) ∧ T 222 = some (gy, .tag)) 8 ⟨_, _, _, 0, _, _, _, rfl, Nat.zero_le _, rfl, rfl, rfl, rfl, rfl, rfl, rfl, rfl, rfl, rfl⟩ ?_
    rintro m s ⟨F, T, ν, i, ga, gb, gy, rfl, hi, rfl, f2, f5, f6, f7, f15, f27, t2, t33, ty⟩
    rw [has6 f2 f5 f6 f7 f15 f27, has3 t2 t33 ty]
    have hml := mixAdd_len h v i
    have hma := aOfW_len (mixAdd h v i)
    by_cases hlt3 : i < 8
    · as_aux_lemma =>
        skip
        have l1 := ld_w0 (mixAdd h v i) i (by omega)
        have l2 := ld_w0 v i (by omega)
        rw [mixAdd_get h v i i (Nat.le_refl _)] at l1
        have hst := set_w (mixAdd h v i) (h.getD i 0 + v.getD i 0) i (by omega)
        repeat (first | with_reducible (first | refine aWp_seq ?_ | refine seq_normal ?_ | refine seq_ret ?_ | refine seq_exit ?_ | refine blk_normal ?_ | refine blk_ret ?_ | refine blk_hit ?_ | refine blk_miss rfl ?_ | refine aWp_ret ?_ | refine aWp_skip ?_ | refine aWp_block ?_ | refine aWp_exit ?_ | refine end_ret ?_ | refine end_normal ?_) | ((refine rgA ?_); intro ν) | ((with_reducible apply cndT); exact rfl; (first | rfl | assumption)) | ((with_reducible apply cndF); exact rfl; (first | rfl | assumption)))
        refine rgxA [(3,[33],[]),(10,[33],[33])] ?_
        intro ν
        repeat (first | with_reducible (first | refine aWp_seq ?_ | refine seq_normal ?_ | refine seq_ret ?_ | refine seq_exit ?_ | refine blk_normal ?_ | refine blk_ret ?_ | refine blk_hit ?_ | refine blk_miss rfl ?_ | refine aWp_ret ?_ | refine aWp_skip ?_ | refine aWp_block ?_ | refine aWp_exit ?_ | refine end_ret ?_ | refine end_normal ?_) | ((refine rgA ?_); intro ν) | ((with_reducible apply cndT); exact rfl; (first | rfl | assumption)) | ((with_reducible apply cndF); exact rfl; (first | rfl | assumption)))
        refine ⟨8 - (i + 1), by omega, _, _, _, i + 1, ga, gb, gy, rfl, by omega, rfl, rfl, rfl, rfl, rfl, rfl, ?_, rfl, ?_, rfl⟩
        · show (SV.k (.int .i64 ((i : Int) + 1)) : SV) = _
          rw [Int.natCast_succ]
        · rw [upd_same]
          exact congrArg (fun q => some (gb, Ent.obj q)) hst
    have hie : i = 8 := by omega
    subst hie
    clear hml hma
    have hAI : (A : Int) + 64 = ((A + 64 : Nat) : Int) := by push_cast; rfl
    have hnx2 := hnext.symm
    generalize mixAdd h v 8 = h2 at *
    repeat (first | with_reducible (first | refine aWp_seq ?_ | refine seq_normal ?_ | refine seq_ret ?_ | refine seq_exit ?_ | refine blk_normal ?_ | refine blk_ret ?_ | refine blk_hit ?_ | refine blk_miss rfl ?_ | refine aWp_ret ?_ | refine aWp_skip ?_ | refine aWp_block ?_ | refine aWp_exit ?_ | refine end_ret ?_ | refine end_normal ?_) | ((refine rgA ?_); intro ν) | ((with_reducible apply cndT); exact rfl; (first | rfl | assumption)) | ((with_reducible apply cndF); exact rfl; (first | rfl | assumption)))
    refine ⟨Q - (q + 1), by omega, _, _, _, q + 1, A + 64, ga, gb, _, rfl, by omega, by omega, rfl, rfl, rfl, rfl, rfl, ?_, rfl, ?_⟩
    · rw [← hAI]; rfl
    · rw [← hnx2]; rfl
  · as_aux_lemma =>
      skip
      have hqe : q = Q := by omega
      subst hqe
      rw [← hh]
      clear hh
      repeat (first | with_reducible (first | refine aWp_seq ?_ | refine seq_normal ?_ | refine seq_ret ?_ | refine seq_exit ?_ | refine blk_normal ?_ | refine blk_ret ?_ | refine blk_hit ?_ | refine blk_miss rfl ?_ | refine aWp_ret ?_ | refine aWp_skip ?_ | refine aWp_block ?_ | refine aWp_exit ?_ | refine end_ret ?_ | refine end_normal ?_) | ((refine rgA ?_); intro ν) | ((with_reducible apply cndT); exact rfl; (first | rfl | assumption)) | ((with_reducible apply cndF); exact rfl; (first | rfl | assumption)))
      refine aWp_loop (fun m s => ∃ F T ν i gb x, m = 8 - i ∧ i ≤ 8 ∧ s = ⟨F, T, ν, ⟨fun t => t == 30 || t == 33 || t == 42 || t == 129 || t == 237, δ, false⟩⟩ ∧ F 5 = .os 33 gb 0 8 8 ∧ F 29 = .k (.int .i64 (i : Nat)) ∧ F 28 = x ∧ T 33 = some (gb, .obj (aOfW h)) ∧
        ((i = 0 ∧ x = .k (.sl true 0 [])) ∨ (∃ gx, 0 < i ∧ x = .ow 267 gx (4 * i) 5 (aOfBytes (outN h (4 * i))) ∧ T 267 = some (gx, .tag)))) 8 ⟨_, _, _, 0, _, _, rfl, Nat.zero_le _, rfl, rfl, rfl, rfl, rfl, .inl ⟨rfl, rfl⟩⟩ ?_
      rintro m s ⟨F, T, ν, i, gb, x, rfl, hi, rfl, f5, f29, f28, t33, hx⟩
      rw [has3 f5 f29 f28, has1 t33]
      have hol := outN_len h (4 * i)
      have hoa := aOfBytes_len (outN h (4 * i))
      by_cases hlt4 : i < 8
      · have l1 := ld_w0 h i (by omega)
        have hout : aOfBytes (outN h (4 * (i + 1))) = aOfBytes (outN h (4 * i)) ++ [.int .u8 ((UInt8.ofBitVec ((h.getD i 0 >>> 24).setWidth 8)).toNat : Int), .int .u8 ((UInt8.ofBitVec ((h.getD i 0 >>> 16).setWidth 8)).toNat : Int), .int .u8 ((UInt8.ofBitVec ((h.getD i 0 >>> 8).setWidth 8)).toNat : Int), .int .u8 ((UInt8.ofBitVec ((h.getD i 0).setWidth 8)).toNat : Int)] := by
          rw [show 4 * (i + 1) = 4 * i + 1 + 1 + 1 + 1 by omega, outN_next, outN_next, outN_next, outN_next]
          have e : ∀ r, r < 4 → outF h (4 * i + r) = UInt8.ofBitVec ((h.getD i 0 >>> (24 - 8 * r)).setWidth 8) := fun r hr => by
            unfold outF
            rw [show (4 * i + r) / 4 = i by omega, show (4 * i + r) % 4 = r by omega]
          rw [show outF h (4 * i) = _ from e 0 (by omega), e 1 (by omega), show 4 * i + 1 + 1 = 4 * i + 2 from rfl, e 2 (by omega), show 4 * i + 2 + 1 = 4 * i + 3 from rfl, e 3 (by omega)]
          simp [aOfBytes]
        generalize h.getD i 0 = w at *
        rcases hx with ⟨hi0, rfl⟩ | ⟨gx, hi0, rfl, tx⟩
        · as_aux_lemma =>
            repeat (first | with_reducible (first | refine aWp_seq ?_ | refine seq_normal ?_ | refine seq_ret ?_ | refine seq_exit ?_ | refine blk_normal ?_ | refine blk_ret ?_ | refine blk_hit ?_ | refine blk_miss rfl ?_ | refine aWp_ret ?_ | refine aWp_skip ?_ | refine aWp_block ?_ | refine aWp_exit ?_ | refine end_ret ?_ | refine end_normal ?_) | ((refine rgA ?_); intro ν) | ((with_reducible apply cndT); exact rfl; (first | rfl | assumption)) | ((with_reducible apply cndF); exact rfl; (first | rfl | assumption)))
            refine rgxA [(4,[33],[]),(10,[33],[]),(16,[33],[]),(22,[33],[]),(25,[266,267],[266,267])] ?_
            intro ν
            repeat (first | with_reducible (first | refine aWp_seq ?_ | refine seq_normal ?_ | refine seq_ret ?_ | refine seq_exit ?_ | refine blk_normal ?_ | refine blk_ret ?_ | refine blk_hit ?_ | refine blk_miss rfl ?_ | refine aWp_ret ?_ | refine aWp_skip ?_ | refine aWp_block ?_ | refine aWp_exit ?_ | refine end_ret ?_ | refine end_normal ?_) | ((refine rgA ?_); intro ν) | ((with_reducible apply cndT); exact rfl; (first | rfl | assumption)) | ((with_reducible apply cndF); exact rfl; (first | rfl | assumption)))
            refine ⟨8 - (i + 1), by omega, _, _, _, i + 1, gb, _, rfl, by omega, rfl, rfl, ?_, rfl, rfl, .inr ⟨_, by omega, ?_, rfl⟩⟩
            · show (SV.k (.int .i64 ((i : Int) + 1)) : SV) = _
              rw [Int.natCast_succ]
            · rw [hout]; subst hi0; rfl
        · as_aux_lemma =>
            rw [upd_self tx]
            repeat (first | with_reducible (first | refine aWp_seq ?_ | refine seq_normal ?_ | refine seq_ret ?_ | refine seq_exit ?_ | refine blk_normal ?_ | refine blk_ret ?_ | refine blk_hit ?_ | refine blk_miss rfl ?_ | refine aWp_ret ?_ | refine aWp_skip ?_ | refine aWp_block ?_ | refine aWp_exit ?_ | refine end_ret ?_ | refine end_normal ?_) | ((refine rgA ?_); intro ν) | ((with_reducible apply cndT); exact rfl; (first | rfl | assumption)) | ((with_reducible apply cndF); exact rfl; (first | rfl | assumption)))
            refine rgxA [(4,[33],[]),(10,[33],[]),(16,[33],[]),(22,[33],[]),(25,[266,267],[266,267])] ?_
            intro ν
            repeat (first | with_reducible (first | refine aWp_seq ?_ | refine seq_normal ?_ | refine seq_ret ?_ | refine seq_exit ?_ | refine blk_normal ?_ | refine blk_ret ?_ | refine blk_hit ?_ | refine blk_miss rfl ?_ | refine aWp_ret ?_ | refine aWp_skip ?_ | refine aWp_block ?_ | refine aWp_exit ?_ | refine end_ret ?_ | refine end_normal ?_) | ((refine rgA ?_); intro ν) | ((with_reducible apply cndT); exact rfl; (first | rfl | assumption)) | ((with_reducible apply cndF); exact rfl; (first | rfl | assumption)))
            refine ⟨8 - (i + 1), by omega, _, _, _, i + 1, gb, _, rfl, by omega, rfl, rfl, ?_, rfl, rfl, .inr ⟨_, by omega, ?_, rfl⟩⟩
            · show (SV.k (.int .i64 ((i : Int) + 1)) : SV) = _
              rw [Int.natCast_succ]
            · rw [hout, show 4 * (i + 1) = 4 * i + 4 by omega]; try rfl
      · have hie : i = 8 := by omega
        subst hie
        obtain ⟨h, _⟩ | ⟨gx, _, rfl, tx⟩ := hx
        · omega
        rw [upd_self tx]
        clear hol hoa
        rw [show 4 * 8 = 32 from rfl]
        repeat (first | with_reducible (first | refine aWp_seq ?_ | refine seq_normal ?_ | refine seq_ret ?_ | refine seq_exit ?_ | refine blk_normal ?_ | refine blk_ret ?_ | refine blk_hit ?_ | refine blk_miss rfl ?_ | refine aWp_ret ?_ | refine aWp_skip ?_ | refine aWp_block ?_ | refine aWp_exit ?_ | refine end_ret ?_ | refine end_normal ?_) | ((refine rgA ?_); intro ν) | ((with_reducible apply cndT); exact rfl; (first | rfl | assumption)) | ((with_reducible apply cndF); exact rfl; (first | rfl | assumption)))
        exact ⟨rfl, endO rfl rfl rfl (all_scB _)⟩
end Go.Proofs.Ytmbnclpgldglnaa
