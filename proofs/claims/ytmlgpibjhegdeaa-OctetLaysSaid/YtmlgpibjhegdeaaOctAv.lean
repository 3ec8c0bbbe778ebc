import Derived.Test.YtmlgpibjhegdeaaAvRow
import Derived.Test.YtmlgpibjhegdeaaOctRef
namespace Go.Proofs.Ytmlgpibjhegdeaa
open Go.RowKit
set_option linter.unusedVariables false
set_option linter.unusedSimpArgs false
set_option maxRecDepth 20000
/-! contracts that were proved by hand, as contracts of abstract values -/
/-- what was known, and all of the new blocks -/
def Kd.wide (K : Kd) (N : Nat) (w : World) : Kd := ⟨fun b i => if b < N then K.val b i else (Kd.of w).val b i, fun b => if b < N then K.hw b else (Kd.of w).hw b, K.rw, K.dp, K.fr⟩
theorem wide_le {K : Kd} {w0 w : World} (h : KOk K w0) : K.le (K.wide w0.heap.size w) := by
  refine ⟨fun b => ?_, fun b i hi => ?_, fun _ _ _ _ h => h, Nat.le_refl _⟩
  · by_cases hb : b < w0.heap.size
    · simp [Kd.wide, hb]
    · rw [h.hw0 (by omega)]; exact Nat.zero_le _
  · have hb : b < w0.heap.size := by
      by_cases hb : b < w0.heap.size
      · exact hb
      · rw [h.hw0 (by omega)] at hi; omega
    simp [Kd.wide, hb]
theorem wide_ok {K : Kd} {w0 w : World} (h : KOk K w0) (hb : Below w0.heap.size w0 w) : KOk (K.wide w0.heap.size w) w := by
  intro b i hi
  by_cases q : b < w0.heap.size
  · simp only [Kd.wide, q, if_true] at hi ⊢
    obtain ⟨⟨o, h1, h2⟩, h3⟩ := h b i hi
    have e := hb.block b q
    exact ⟨⟨o, e.trans h1, h2⟩, fun k => by rw [← h3 k]; simp only [World.cell?, e]⟩
  · simp only [Kd.wide, q, if_false] at hi ⊢
    exact kof_ok w b i hi
theorem spec_calls {P : Program} {f : FuncId} {args : List AV} {r : AV} (hf : Callable P f) (h : ∀ (K : Kd) (w : World) (vs : Array Value), KOk K w → ArgsR K args vs →
    Calls P f vs w fun e w' => ∃ v, e = .returned v ∧ Below w.heap.size w w' ∧ KRep (K.wide w.heap.size w') r v) : Spec P f args (.k r) := by
  refine ⟨hf, fun K w vs hk ha => (h K w vs hk ha).mono ?_⟩
  rintro e w' ⟨v, rfl, hb, hr⟩
  exact ⟨v, K.wide w.heap.size w', rfl, hb, wide_le hk, wide_ok hk hb, fun b q => by simp [Kd.wide, q], fun _ _ _ _ => rfl, hr⟩
def tb (l : List UInt8) : List (BitVec 8) := l.map UInt8.toBitVec
def fb (l : List (BitVec 8)) : List UInt8 := l.map UInt8.ofBitVec
theorem tb_fb (l : List (BitVec 8)) : tb (fb l) = l := by
  unfold tb fb; rw [List.map_map, show UInt8.toBitVec ∘ UInt8.ofBitVec = id from rfl]; simp
theorem tb_len (l : List UInt8) : (tb l).length = l.length := by simp [tb]
theorem fb_len (l : List (BitVec 8)) : (fb l).length = l.length := by simp [fb]
theorem fb_tb (l : List UInt8) : fb (tb l) = l := by
  unfold tb fb; rw [List.map_map, show UInt8.ofBitVec ∘ UInt8.toBitVec = id from rfl]; simp
theorem sB_fb (l : List (BitVec 8)) : sB (fb l) = sOf l := rfl
theorem sB_tb (l : List UInt8) : sB l = sOf (tb l) := by rw [← sB_fb, fb_tb]
theorem kint_inv {K : Kd} {k : IntKind} {n : Int} {v : Value} (h : KRep K (.int k n) v) : v = .int k n := by cases h; rfl
/-- bytes that are known are read -/
theorem rd_of_k {K : Kd} {w : World} (hk : KOk K w) {full : Bool} {l : List UInt8} {v : Value} (h : KRep K (.sl full l.length (aOfBytes l)) v) : Rd w v (B8 (tb l)) := by
  generalize hn : l.length = n at h
  generalize hc : aOfBytes l = cs at h
  cases h with
  | sl0 full a cap hm hf =>
    have : l = [] := List.eq_nil_of_length_eq_zero hn
    subst this
    exact ⟨a, cap, rfl, Nat.zero_le _, hm, .inl rfl⟩
  | sl full n cells b o cap h0 hm hf h1 h3 =>
    subst hc hn
    refine ⟨some ⟨b, o, none⟩, cap, by rw [B8_len, tb_len], by rw [B8_len, tb_len]; exact h0, hm, .inr ⟨b, o, rfl, fun i hi => ?_⟩⟩
    rw [B8_len, tb_len] at hi
    rw [(hk.at_ h1 (by rw [aOfBytes_len']; exact hi)).1]
    have hx : (aOfBytes l)[i]? = some (.int .u8 ((l[i]).toNat : Int)) := by simp [aOfBytes, hi]
    rw [kint_inv (h3 i _ hx)]
    congr 1
    rw [B8_getD _ _ (by rw [tb_len]; exact hi)]
    simp [tb, hi, n8]
/-- new bytes that are read are known -/
theorem k_of_rd {K : Kd} {w : World} {N : Nat} {l : List (BitVec 8)} {v : Value} (h : Rd w v (B8 l)) (hf : Fresh N v) : KRep (K.wide N w) (.sl false (fb l).length (aOfBytes (fb l))) v := by
  obtain ⟨a, cap, rfl, h1, h2, h3⟩ := h
  rw [B8_len] at h1 h3 ⊢
  rw [fb_len]
  by_cases h0 : l.length = 0
  · have : l = [] := List.eq_nil_of_length_eq_zero h0
    subst this
    exact .sl0 _ _ _ h2 (fun q => by cases q)
  · rcases h3 with h3 | ⟨b, o, rfl, h3⟩
    · exact absurd h3 h0
    · have hN : ¬ b < N := by have := hf _ _ _ rfl; simp only at this; omega
      have hl : (aOfBytes (fb l)).length = l.length := by rw [aOfBytes_len', fb_len]
      have hc : ∀ i, i < l.length → w.cell? ⟨b, o + i, none⟩ = some (.int .u8 (n8 (l.getD i 0))) := fun i hi => by
        rw [h3 i hi, B8_getD _ _ hi]
      have hv : ∀ i, i < l.length → (K.wide N w).val b (o + i) = .int .u8 (n8 (l.getD i 0)) := fun i hi => by
        simp only [Kd.wide, hN, if_false]; exact val_of (hc i hi)
      refine .sl _ _ _ _ _ _ h1 h2 (fun q => by cases q) ⟨?_, fun i hi => ?_⟩ fun i x hx => ?_
      · rw [hl]
        have := hw_of (hc (l.length - 1) (by omega))
        simp only [Kd.wide, hN, if_false]; omega
      · rw [hl] at hi; rw [hv i hi]; rfl
      · have hi : i < l.length := by have := getq_lt hx; rw [hl] at this; exact this
        rw [hv i hi]
        have : x = .int .u8 (n8 (l.getD i 0)) := by
          simp [aOfBytes, fb, hi] at hx
          rw [← hx]; simp [n8, hi]
        subst this
        exact .int _ _
theorem args2 {K : Kd} {x y : AV} {vs : Array Value} (h : ArgsR K [x, y] vs) : ∃ u v, vs = #[u, v] ∧ KRep K x u ∧ KRep K y v := by
  obtain ⟨h1, h2⟩ := h
  have h1 : vs.size = 2 := h1
  refine ⟨vs[0], vs[1], ?_, h2 0 _ _ rfl (by simp), h2 1 _ _ rfl (by simp)⟩
  apply Array.ext (by simpa using h1)
  intro i q1 q2
  match i with
  | 0 => rfl
  | 1 => rfl
  | i + 2 => omega
theorem kstr_inv {K : Kd} {s : ByteArray} {v : Value} (h : KRep K (.str s) v) : v = .string s := by cases h; rfl
def pI (l : List UInt8) (n : Int) : List UInt8 := fb (tb l ++ encI n)
def pT (l m : List UInt8) : List UInt8 := fb (tb l ++ encT (tb m))
theorem aInt_spec (full : Bool) (l : List UInt8) (n : Int) (hb : l.length ≤ 1000000) : Spec Try.prog 18 [.sl full l.length (aOfBytes l), .int .i64 n] (.k (.sl false (pI l n).length (aOfBytes (pI l n)))) := by
  refine spec_calls ⟨_, Try.func18, rfl, rfl⟩ fun K w vs hk ha => ?_
  obtain ⟨u, v, rfl, g0, g1⟩ := args2 ha
  rw [kint_inv g1]
  refine (oint_calls (tb l) n u w (rd_of_k hk g0) (by rw [tb_len]; omega)).mono ?_
  rintro e w' ⟨v', rfl, ho, b⟩
  exact ⟨v', rfl, b, k_of_rd ho.rd ho.fresh⟩
theorem aRefInt_spec (full : Bool) (l : List UInt8) (n : Int) (hb : l.length ≤ 1000000) : Spec Try.prog 19 [.sl full l.length (aOfBytes l), .int .i64 n] (.k (.sl false (pI l n).length (aOfBytes (pI l n)))) := by
  refine spec_calls ⟨_, Try.func19, rfl, rfl⟩ fun K w vs hk ha => ?_
  obtain ⟨u, v, rfl, g0, g1⟩ := args2 ha
  rw [kint_inv g1]
  refine (refint_callsF (tb l) n u w (rd_of_k hk g0) (by rw [tb_len]; omega)).mono ?_
  rintro e w' ⟨v', rfl, ⟨r, f⟩, b⟩
  exact ⟨v', rfl, b, k_of_rd r f⟩
theorem aRefText_spec (full : Bool) (l m : List UInt8) (hb : l.length ≤ 1000000) (hm : m.length ≤ 65535) : Spec Try.prog 20 [.sl full l.length (aOfBytes l), .str (sB m)] (.k (.sl false (pT l m).length (aOfBytes (pT l m)))) := by
  refine spec_calls ⟨_, Try.func20, rfl, rfl⟩ fun K w vs hk ha => ?_
  obtain ⟨u, v, rfl, g0, g1⟩ := args2 ha
  rw [kstr_inv g1, sB_tb]
  refine (reftext_callsF (tb l) (tb m) u w (rd_of_k hk g0) (by rw [tb_len]; omega) (by rw [tb_len]; exact hm)).mono ?_
  rintro e w' ⟨v', rfl, ⟨r, f⟩, b⟩
  exact ⟨v', rfl, b, k_of_rd r f⟩
theorem krep_pair {K : Kd} {x y : AV} {u v : Value} (h : KRep K x u) (k : KRep K y v) : KRep K (.tup [x, y]) (.tuple #[u, v]) := .tup _ _ rfl fun i z q h1 h2 => by
  match i with
  | 0 => simp at h1 h2; subst h1 h2; exact h
  | 1 => simp at h1 h2; subst h1 h2; exact k
  | i + 2 => simp at h1
theorem aText_spec (full : Bool) (l m : List UInt8) (hb : l.length ≤ 1000000) (hm : m.length ≤ 65535) : Spec Try.prog 15 [.sl full l.length (aOfBytes l), .str (sB m)] (.k (.tup [.sl false (pT l m).length (aOfBytes (pT l m)), .int .i64 0])) := by
  refine spec_calls ⟨_, Try.func15, rfl, rfl⟩ fun K w vs hk ha => ?_
  obtain ⟨u, v, rfl, g0, g1⟩ := args2 ha
  rw [kstr_inv g1, sB_tb]
  refine (otext_callsF (tb l) (tb m) u w (rd_of_k hk g0) (by rw [tb_len]; omega) (by rw [tb_len]; exact hm)).mono ?_
  rintro e w' ⟨v', rfl, ⟨r, f⟩, b⟩
  exact ⟨_, rfl, b, krep_pair (k_of_rd r f) (.int _ _)⟩
theorem aTextL_spec (full : Bool) (l m : List UInt8) (hm : 65535 < m.length) : Spec Try.prog 15 [.sl full l.length (aOfBytes l), .str (sB m)] (.k (.tup [.sl true 0 [], .int .i64 2])) := by
  refine spec_calls ⟨_, Try.func15, rfl, rfl⟩ fun K w vs hk ha => ?_
  obtain ⟨u, v, rfl, g0, g1⟩ := args2 ha
  rw [kstr_inv g1, sB_tb]
  refine (otext_long (tb l) (tb m) u w (by rw [tb_len]; exact hm)).mono ?_
  rintro e w' ⟨rfl, rfl⟩
  exact ⟨_, rfl, Below.refl _ _, krep_pair (.sl0 _ _ _ (Nat.zero_le _) (fun _ => rfl)) (.int _ _)⟩
theorem awake01_spec : Spec Try.prog 17 [] (.k (.bool true)) := by
  refine spec_calls ⟨_, Try.func17, rfl, rfl⟩ fun K w vs hk ha => ?_
  obtain rfl : vs = #[] := Array.eq_empty_of_size_eq_zero ha.1
  refine (awake01_calls w).mono ?_
  rintro e w' ⟨rfl, b⟩
  exact ⟨_, rfl, b, .bool _⟩
theorem aOfBytes_len (l : List UInt8) : (aOfBytes l).length = l.length := by simp [aOfBytes]
theorem short01_spec (l : List UInt8) : Spec Try.prog 16 [.sl false l.length (aOfBytes l)] (.k (.sl false (l.take 300).length (aOfBytes (l.take 300)))) := by
  refine spec_of (fun _ => false) (by kernel_rfl) Try.func16 rfl rfl (by simp [Try.ntmps16]) (by decide) ?_
  intro δ
  rw [init1]
  have hl := aOfBytes_len l
  by_cases h : 300 < l.length
  · repeat (first | with_reducible (first | refine aWp_seq ?_ | refine seq_normal ?_ | refine seq_ret ?_ | refine seq_exit ?_ | refine blk_normal ?_ | refine blk_ret ?_ | refine blk_hit ?_ | refine blk_miss rfl ?_ | refine aWp_ret ?_ | refine aWp_skip ?_ | refine aWp_block ?_ | refine aWp_exit ?_ | refine end_ret ?_ | refine end_normal ?_) | ((refine rgA ?_); intro ν) | ((with_reducible apply cndT); exact rfl; (first | rfl | assumption)) | ((with_reducible apply cndF); exact rfl; (first | rfl | assumption)))
    (first | with_reducible refine end_r ?_ | with_reducible refine end_n ?_); refine en1 ?_
    simp [aOfBytes, List.map_take]; omega
  · repeat (first | with_reducible (first | refine aWp_seq ?_ | refine seq_normal ?_ | refine seq_ret ?_ | refine seq_exit ?_ | refine blk_normal ?_ | refine blk_ret ?_ | refine blk_hit ?_ | refine blk_miss rfl ?_ | refine aWp_ret ?_ | refine aWp_skip ?_ | refine aWp_block ?_ | refine aWp_exit ?_ | refine end_ret ?_ | refine end_normal ?_) | ((refine rgA ?_); intro ν) | ((with_reducible apply cndT); exact rfl; (first | rfl | assumption)) | ((with_reducible apply cndF); exact rfl; (first | rfl | assumption)))
    (first | with_reducible refine end_r ?_ | with_reducible refine end_n ?_); refine en1 ?_
    rw [List.take_of_length_le (by omega)]
theorem aZeros_bytes (n : Nat) : aZeros n 1 [.int .u8 0] = aOfBytes (List.replicate n 0) := by
  simp [aZeros, aOfBytes]
  apply List.ext_getElem
  · simp
  · intro i h1 h2
    simp [Nat.mod_one]
set_option maxHeartbeats 8000000 in
theorem law_OctetLays (l m : List UInt8) (n : Int) (many : UInt8) : Spec Try.prog 3 [.sl false l.length (aOfBytes l), .int .i64 n, .str (sB m), .int .u8 (many.toNat : Int)] (.k (.bool true)) := by
  refine spec_of (fun t => t == 37) (by kernel_rfl) Try.func3 rfl rfl (by simp [Try.ntmps3]) (by decide) ?_
  intro δ
  rw [init4]
  have hM := many.toNat_lt
  have hl : (l.take 300).length ≤ 300 := by simp; omega
  have hsz := sB_size m
  by_cases hm : m.length ≤ 65535
  · have s1 := aText_spec false (l.take 300) m (by omega) hm
    repeat (first | with_reducible (first | refine aWp_seq ?_ | refine seq_normal ?_ | refine seq_ret ?_ | refine seq_exit ?_ | refine blk_normal ?_ | refine blk_ret ?_ | refine blk_hit ?_ | refine blk_miss rfl ?_ | refine aWp_ret ?_ | refine aWp_skip ?_ | refine aWp_block ?_ | refine aWp_exit ?_ | refine end_ret ?_ | refine end_normal ?_) | ((refine rgA ?_); intro ν) | ((with_reducible apply cndT); exact rfl; (first | rfl | assumption)) | ((with_reducible apply cndF); exact rfl; (first | rfl | assumption)))
    refine rg fun K hK => ?_
    refine stA ?_
    (first | with_reducible refine g0 ?_ | ((with_reducible refine g1 ?_ ?_); (with_reducible apply gt_); exact rfl; exact rfl; (first | rfl | assumption | (simp [*] <;> done)))); refine scA (h2 := (short01_spec _)) (hk := ?_)
    refine stA ?_
    (first | with_reducible refine g0 ?_ | ((with_reducible refine g1 ?_ ?_); (with_reducible apply gt_); exact rfl; exact rfl; (first | rfl | assumption | (simp [*] <;> done)))); refine scA (h2 := (s1)) (hk := ?_)
    refine stA ?_
    with_reducible refine rz ?_
    refine hK _ _ _ ?_
    clear hK K; intro ν
    have hz : aBytes (List.take (65500 + (many.toNat : Int)).toNat (aZeros (65500 + (many.toNat : Int)).toNat 1 [.int .u8 0])) = some (List.replicate (65500 + (many.toNat : Int)).toNat 0) := by
      rw [aZeros_bytes, List.take_of_length_le (by simp [aOfBytes]), aBytes_of']
    have ha1 := aOfBytes_len (pI (l.take 300) n)
    have ha2 := aOfBytes_len (pT (l.take 300) m)
    have hN := List.length_replicate (n := (65500 + (many.toNat : Int)).toNat) (a := (0 : UInt8))
    have s2 := aInt_spec false (l.take 300) n (by omega)
    have s3 := aRefInt_spec false (l.take 300) n (by omega)
    have s4 := aRefText_spec false (l.take 300) m (by omega) hm
    by_cases hN2 : 65500 + many.toNat ≤ 65535
    · have s5 := aText_spec true [] (List.replicate (65500 + (many.toNat : Int)).toNat 0) (by simp) (by omega)
      rw [show aOfBytes [] = [] from rfl, List.length_nil] at s5
      repeat (first | with_reducible (first | refine aWp_seq ?_ | refine seq_normal ?_ | refine seq_ret ?_ | refine seq_exit ?_ | refine blk_normal ?_ | refine blk_ret ?_ | refine blk_hit ?_ | refine blk_miss rfl ?_ | refine aWp_ret ?_ | refine aWp_skip ?_ | refine aWp_block ?_ | refine aWp_exit ?_ | refine end_ret ?_ | refine end_normal ?_) | ((refine rgA ?_); intro ν) | ((with_reducible apply cndT); exact rfl; (first | rfl | assumption)) | ((with_reducible apply cndF); exact rfl; (first | rfl | assumption)))
      refine rg fun K hK => ?_
      refine stA ?_
      (first | with_reducible refine g0 ?_ | ((with_reducible refine g1 ?_ ?_); (with_reducible apply gt_); exact rfl; exact rfl; (first | rfl | assumption | (simp [*] <;> done)))); refine scA (h2 := (s5)) (hk := ?_)
      refine stA ?_
      with_reducible refine rz ?_
      refine hK _ _ _ ?_
      clear hK K; intro ν
      repeat (first | with_reducible (first | refine aWp_seq ?_ | refine seq_normal ?_ | refine seq_ret ?_ | refine seq_exit ?_ | refine blk_normal ?_ | refine blk_ret ?_ | refine blk_hit ?_ | refine blk_miss rfl ?_ | refine aWp_ret ?_ | refine aWp_skip ?_ | refine aWp_block ?_ | refine aWp_exit ?_ | refine end_ret ?_ | refine end_normal ?_) | ((refine rgA ?_); intro ν) | ((with_reducible apply cndT); exact rfl; (first | rfl | assumption)) | ((with_reducible apply cndF); exact rfl; (first | rfl | assumption)))
      refine rgx [] (by kernel_rfl) fun K hK => ?_
      refine stxA ?_
      ((first | ((with_reducible refine x0 ?_ ?_); exact rfl) | ((with_reducible refine x1 ?_ ?_ ?_); exact rfl; (with_reducible apply gt_); exact rfl; exact rfl; (first | rfl | assumption | (simp [*] <;> done)))); refine xcA (h2 := (awake01_spec)) (hk := ?_))
      refine stxA ?_
      ((first | ((with_reducible refine x0 ?_ ?_); exact rfl) | ((with_reducible refine x1 ?_ ?_ ?_); exact rfl; (with_reducible apply gt_); exact rfl; exact rfl; (first | rfl | assumption | (simp [*] <;> done)))); refine xcA (h2 := (short01_spec _)) (hk := ?_))
      refine stxA ?_
      ((first | ((with_reducible refine x0 ?_ ?_); exact rfl) | ((with_reducible refine x1 ?_ ?_ ?_); exact rfl; (with_reducible apply gt_); exact rfl; exact rfl; (first | rfl | assumption | (simp [*] <;> done)))); refine xcA (h2 := (s2)) (hk := ?_))
      refine stxA ?_
      ((first | ((with_reducible refine x0 ?_ ?_); exact rfl) | ((with_reducible refine x1 ?_ ?_ ?_); exact rfl; (with_reducible apply gt_); exact rfl; exact rfl; (first | rfl | assumption | (simp [*] <;> done)))); refine xcA (h2 := (short01_spec _)) (hk := ?_))
      refine stxA ?_
      ((first | ((with_reducible refine x0 ?_ ?_); exact rfl) | ((with_reducible refine x1 ?_ ?_ ?_); exact rfl; (with_reducible apply gt_); exact rfl; exact rfl; (first | rfl | assumption | (simp [*] <;> done)))); refine xcA (h2 := (s3)) (hk := ?_))
      refine stxA ?_
      ((first | ((with_reducible refine x0 ?_ ?_); exact rfl) | ((with_reducible refine x1 ?_ ?_ ?_); exact rfl; (with_reducible apply gt_); exact rfl; exact rfl; (first | rfl | assumption | (simp [*] <;> done)))); refine xcA (h2 := (short01_spec _)) (hk := ?_))
      refine stxA ?_
      ((first | ((with_reducible refine x0 ?_ ?_); exact rfl) | ((with_reducible refine x1 ?_ ?_ ?_); exact rfl; (with_reducible apply gt_); exact rfl; exact rfl; (first | rfl | assumption | (simp [*] <;> done)))); refine xcA (h2 := (s4)) (hk := ?_))
      refine stxA ?_
      with_reducible refine xz ?_
      refine hK _ _ _ ?_
      clear hK K; intro ν
      repeat (first | with_reducible (first | refine aWp_seq ?_ | refine seq_normal ?_ | refine seq_ret ?_ | refine seq_exit ?_ | refine blk_normal ?_ | refine blk_ret ?_ | refine blk_hit ?_ | refine blk_miss rfl ?_ | refine aWp_ret ?_ | refine aWp_skip ?_ | refine aWp_block ?_ | refine aWp_exit ?_ | refine end_ret ?_ | refine end_normal ?_) | ((refine rgA ?_); intro ν) | ((with_reducible apply cndT); exact rfl; (first | rfl | assumption)) | ((with_reducible apply cndF); exact rfl; (first | rfl | assumption)))
      (first | with_reducible refine end_r ?_ | with_reducible refine end_n ?_); refine en1 ?_
      rfl
    · have s5 := aTextL_spec true [] (List.replicate (65500 + (many.toNat : Int)).toNat 0) (by omega)
      rw [show aOfBytes [] = [] from rfl, List.length_nil] at s5
      repeat (first | with_reducible (first | refine aWp_seq ?_ | refine seq_normal ?_ | refine seq_ret ?_ | refine seq_exit ?_ | refine blk_normal ?_ | refine blk_ret ?_ | refine blk_hit ?_ | refine blk_miss rfl ?_ | refine aWp_ret ?_ | refine aWp_skip ?_ | refine aWp_block ?_ | refine aWp_exit ?_ | refine end_ret ?_ | refine end_normal ?_) | ((refine rgA ?_); intro ν) | ((with_reducible apply cndT); exact rfl; (first | rfl | assumption)) | ((with_reducible apply cndF); exact rfl; (first | rfl | assumption)))
      refine rg fun K hK => ?_
      refine stA ?_
      (first | with_reducible refine g0 ?_ | ((with_reducible refine g1 ?_ ?_); (with_reducible apply gt_); exact rfl; exact rfl; (first | rfl | assumption | (simp [*] <;> done)))); refine scA (h2 := (s5)) (hk := ?_)
      refine stA ?_
      with_reducible refine rz ?_
      refine hK _ _ _ ?_
      clear hK K; intro ν
      repeat (first | with_reducible (first | refine aWp_seq ?_ | refine seq_normal ?_ | refine seq_ret ?_ | refine seq_exit ?_ | refine blk_normal ?_ | refine blk_ret ?_ | refine blk_hit ?_ | refine blk_miss rfl ?_ | refine aWp_ret ?_ | refine aWp_skip ?_ | refine aWp_block ?_ | refine aWp_exit ?_ | refine end_ret ?_ | refine end_normal ?_) | ((refine rgA ?_); intro ν) | ((with_reducible apply cndT); exact rfl; (first | rfl | assumption)) | ((with_reducible apply cndF); exact rfl; (first | rfl | assumption)))
      refine rgx [] (by kernel_rfl) fun K hK => ?_
      refine stxA ?_
      ((first | ((with_reducible refine x0 ?_ ?_); exact rfl) | ((with_reducible refine x1 ?_ ?_ ?_); exact rfl; (with_reducible apply gt_); exact rfl; exact rfl; (first | rfl | assumption | (simp [*] <;> done)))); refine xcA (h2 := (awake01_spec)) (hk := ?_))
      refine stxA ?_
      ((first | ((with_reducible refine x0 ?_ ?_); exact rfl) | ((with_reducible refine x1 ?_ ?_ ?_); exact rfl; (with_reducible apply gt_); exact rfl; exact rfl; (first | rfl | assumption | (simp [*] <;> done)))); refine xcA (h2 := (short01_spec _)) (hk := ?_))
      refine stxA ?_
      ((first | ((with_reducible refine x0 ?_ ?_); exact rfl) | ((with_reducible refine x1 ?_ ?_ ?_); exact rfl; (with_reducible apply gt_); exact rfl; exact rfl; (first | rfl | assumption | (simp [*] <;> done)))); refine xcA (h2 := (s2)) (hk := ?_))
      refine stxA ?_
      ((first | ((with_reducible refine x0 ?_ ?_); exact rfl) | ((with_reducible refine x1 ?_ ?_ ?_); exact rfl; (with_reducible apply gt_); exact rfl; exact rfl; (first | rfl | assumption | (simp [*] <;> done)))); refine xcA (h2 := (short01_spec _)) (hk := ?_))
      refine stxA ?_
      ((first | ((with_reducible refine x0 ?_ ?_); exact rfl) | ((with_reducible refine x1 ?_ ?_ ?_); exact rfl; (with_reducible apply gt_); exact rfl; exact rfl; (first | rfl | assumption | (simp [*] <;> done)))); refine xcA (h2 := (s3)) (hk := ?_))
      refine stxA ?_
      ((first | ((with_reducible refine x0 ?_ ?_); exact rfl) | ((with_reducible refine x1 ?_ ?_ ?_); exact rfl; (with_reducible apply gt_); exact rfl; exact rfl; (first | rfl | assumption | (simp [*] <;> done)))); refine xcA (h2 := (short01_spec _)) (hk := ?_))
      refine stxA ?_
      ((first | ((with_reducible refine x0 ?_ ?_); exact rfl) | ((with_reducible refine x1 ?_ ?_ ?_); exact rfl; (with_reducible apply gt_); exact rfl; exact rfl; (first | rfl | assumption | (simp [*] <;> done)))); refine xcA (h2 := (s4)) (hk := ?_))
      refine stxA ?_
      with_reducible refine xz ?_
      refine hK _ _ _ ?_
      clear hK K; intro ν
      repeat (first | with_reducible (first | refine aWp_seq ?_ | refine seq_normal ?_ | refine seq_ret ?_ | refine seq_exit ?_ | refine blk_normal ?_ | refine blk_ret ?_ | refine blk_hit ?_ | refine blk_miss rfl ?_ | refine aWp_ret ?_ | refine aWp_skip ?_ | refine aWp_block ?_ | refine aWp_exit ?_ | refine end_ret ?_ | refine end_normal ?_) | ((refine rgA ?_); intro ν) | ((with_reducible apply cndT); exact rfl; (first | rfl | assumption)) | ((with_reducible apply cndF); exact rfl; (first | rfl | assumption)))
      (first | with_reducible refine end_r ?_ | with_reducible refine end_n ?_); refine en1 ?_
      rfl
  · have s1 := aTextL_spec false (l.take 300) m (by omega)
    repeat (first | with_reducible (first | refine aWp_seq ?_ | refine seq_normal ?_ | refine seq_ret ?_ | refine seq_exit ?_ | refine blk_normal ?_ | refine blk_ret ?_ | refine blk_hit ?_ | refine blk_miss rfl ?_ | refine aWp_ret ?_ | refine aWp_skip ?_ | refine aWp_block ?_ | refine aWp_exit ?_ | refine end_ret ?_ | refine end_normal ?_) | ((refine rgA ?_); intro ν) | ((with_reducible apply cndT); exact rfl; (first | rfl | assumption)) | ((with_reducible apply cndF); exact rfl; (first | rfl | assumption)))
    refine rg fun K hK => ?_
    refine stA ?_
    (first | with_reducible refine g0 ?_ | ((with_reducible refine g1 ?_ ?_); (with_reducible apply gt_); exact rfl; exact rfl; (first | rfl | assumption | (simp [*] <;> done)))); refine scA (h2 := (short01_spec _)) (hk := ?_)
    refine stA ?_
    (first | with_reducible refine g0 ?_ | ((with_reducible refine g1 ?_ ?_); (with_reducible apply gt_); exact rfl; exact rfl; (first | rfl | assumption | (simp [*] <;> done)))); refine scA (h2 := (s1)) (hk := ?_)
    refine stA ?_
    with_reducible refine rz ?_
    refine hK _ _ _ ?_
    clear hK K; intro ν
    repeat (first | with_reducible (first | refine aWp_seq ?_ | refine seq_normal ?_ | refine seq_ret ?_ | refine seq_exit ?_ | refine blk_normal ?_ | refine blk_ret ?_ | refine blk_hit ?_ | refine blk_miss rfl ?_ | refine aWp_ret ?_ | refine aWp_skip ?_ | refine aWp_block ?_ | refine aWp_exit ?_ | refine end_ret ?_ | refine end_normal ?_) | ((refine rgA ?_); intro ν) | ((with_reducible apply cndT); exact rfl; (first | rfl | assumption)) | ((with_reducible apply cndF); exact rfl; (first | rfl | assumption)))
    refine rg fun K hK => ?_
    refine stA ?_
    (first | with_reducible refine g0 ?_ | ((with_reducible refine g1 ?_ ?_); (with_reducible apply gt_); exact rfl; exact rfl; (first | rfl | assumption | (simp [*] <;> done)))); refine scA (h2 := (awake01_spec)) (hk := ?_)
    refine stA ?_
    with_reducible refine rz ?_
    refine hK _ _ _ ?_
    clear hK K; intro ν
    repeat (first | with_reducible (first | refine aWp_seq ?_ | refine seq_normal ?_ | refine seq_ret ?_ | refine seq_exit ?_ | refine blk_normal ?_ | refine blk_ret ?_ | refine blk_hit ?_ | refine blk_miss rfl ?_ | refine aWp_ret ?_ | refine aWp_skip ?_ | refine aWp_block ?_ | refine aWp_exit ?_ | refine end_ret ?_ | refine end_normal ?_) | ((refine rgA ?_); intro ν) | ((with_reducible apply cndT); exact rfl; (first | rfl | assumption)) | ((with_reducible apply cndF); exact rfl; (first | rfl | assumption)))
    (first | with_reducible refine end_r ?_ | with_reducible refine end_n ?_); refine en1 ?_
    rfl
end Go.Proofs.Ytmlgpibjhegdeaa
