import Derived.Test.YtikganlbnhapcaaRs2
import Derived.Test.YtikganlbnhapcaaAvTail
import Derived.Test.YtikganlbnhapcaaAvCut
import Derived.Test.YtikganlbnhapcaaShaPure
namespace Go.Proofs.Ytikganlbnhapcaa
open Go.RowKit
set_option linter.unusedVariables false
set_option linter.unusedSimpArgs false
set_option maxRecDepth 20000
attribute [local go_sem] Oper.semAt_some
/-! the document's laying -/
/-- the rest of a function, walked over abstract values, no object handed on -/
theorem av_tail0 {P : Program} {fn : Func} {c : Code} {args : List AV} {vs : Array Value} {R : Ending → World → Prop} {K : Kd} {w : World} {r : AV} (os : Nat → Bool) (hmo : P.follows .mixedOrders = true) (hok : codeOk vs.size true c = true) (hk : KOk K w) (ha : ArgsR K args vs)
    (h : aWp P c (fun e s => e.fin = true ∧ aEndK P fn.results.toList fn.resultTypes.toList s r) (initSt args ⟨os, K.dp, false⟩))
    (hR : ∀ v w' K', Below w.heap.size w w' → K.le K' → KOk K' w' → (∀ x, x < w.heap.size → K'.hw x = K.hw x) → (∀ δ, δ < K.dp → ∀ d g, K'.rw δ d g = K.rw δ d g) → KRep K' r v → R (.returned v) w') : c.wp P (bodyPostM Fence.wide 5 P fn R) { tmps := vs, defers := [] } w := by
  have hreal := init_real (P := P) (os := os) (nest := false) hk ha vs.size
  rw [Nat.sub_self, Array.replicate_zero, Array.append_empty] at hreal
  refine wpIn_wide.1 (wpIn_mono (n := 5) (aWp_sound (N := vs.size) hmo c true Fence.wide 5 _ _ _ _ _ w _ .wide (fun _ => rfl) hok h hreal rfl) ?_)
  rintro e a' w' ⟨e', s', G', rfl, k1, k2, k3⟩
  have hl := leaves (fn := fn) (R := R) a'.defers _ G' a' w' rfl k2 fun A G2 a2 w2 q1 q2 _ q4 q5 q6 => by
    obtain ⟨v, h1, h6⟩ := finish q6 k1.2
    rw [q2] at h1
    have hkle : K.le G2.K := by have := q6.kle; rw [q1] at this; exact this
    refine ⟨v, h1, hR v w2 (lendK s' G2 w2) q6.below.below (hkle.trans (lend_le q6)) (lend_ok q6) (fun b2 hb2 => (lend_below q6 hb2).trans (by have := q6.kold b2 hb2; rw [q1] at this; exact this)) (fun δ hδ d g => ?_) h6⟩
    have := q6.kro δ (by rw [q1]; exact hδ) d g
    rw [q1] at this; exact this
  have := k1.1
  cases e' with
  | normal => exact hl
  | ret => exact hl
  | exit id => cases this
theorem aWp_assoc15 {P : Program} {a b c : Code} {Q : AEx → St → Prop} {s : St} (h : aWp P (.seq (.seq a b) c) Q s) : aWp P (.seq a (.seq b c)) Q s :=
  aWp_mono a (fun e s he => by
    cases e with
    | normal => exact he
    | exit id => exact he
    | ret => exact he) h
theorem args_set3 {K : Kd} {vs : Array Value} {n a b c : Nat} {x y z : AV} {u v q : Value} (hn : vs.size = n) (ha : vs[a]? = some u) (hb : vs[b]? = some v) (hc : vs[c]? = some q) (hx : KRep K x u) (hy : KRep K y v) (hz : KRep K z q) :
    ArgsR K ((((List.replicate n AV.any).set a x).set b y).set c z) vs := by
  refine ⟨by simp [hn], fun i r p h1 h2 => ?_⟩
  rw [List.getElem?_set, List.getElem?_set, List.getElem?_set] at h1
  by_cases e1 : c = i
  · subst e1
    rw [hc] at h2; injection h2 with h2; subst h2
    rw [if_pos rfl] at h1
    split at h1
    · injection h1 with h1; subst h1; exact hz
    · cases h1
  · rw [if_neg e1] at h1
    by_cases e2 : b = i
    · subst e2
      rw [hb] at h2; injection h2 with h2; subst h2
      rw [if_pos rfl] at h1
      split at h1
      · injection h1 with h1; subst h1; exact hy
      · cases h1
    · rw [if_neg e2] at h1
      by_cases e3 : a = i
      · subst e3
        rw [ha] at h2; injection h2 with h2; subst h2
        rw [if_pos rfl] at h1
        split at h1
        · injection h1 with h1; subst h1; exact hx
        · cases h1
      · rw [if_neg e3, List.getElem?_replicate] at h1
        split at h1
        · injection h1 with h1; subst h1; exact .any _
        · cases h1
theorem lastB2_cells (n : Nat) (h : n ≤ 65535) : aOfBytes (lastB (n : Int) 2) = [.int .u8 ((n : Int) / 256), .int .u8 ((n : Int) % 256)] := by
  rw [lastB, pI_bytes n (by omega)]
  show [AV.int .u8 ((UInt8.ofNat (n / 2 ^ 8 % 256)).toNat : Int), AV.int .u8 ((UInt8.ofNat (n % 256)).toNat : Int)] = _
  rw [u8n, u8n]
  have e1 : ((n / 2 ^ 8 % 256 : Nat) : Int) = (n : Int) / 256 := by omega
  have e2 : ((n % 256 : Nat) : Int) = (n : Int) % 256 := by omega
  rw [e1, e2]
theorem padC_get (D : List UInt8) (i j : Nat) (hj : j < 24) : (padC D i).getD j 0 = if 24 * i + j < D.length then D.getD (24 * i + j) 0 else 0 := by
  unfold padC
  rw [List.getD_eq_getElem?_getD, List.getElem?_append, List.length_take, List.length_drop]
  by_cases h : 24 * i + j < D.length
  · rw [if_pos (by omega), if_pos h, List.getElem?_take, if_pos hj, List.getElem?_drop, List.getD_eq_getElem?_getD, show i * 24 + j = 24 * i + j by omega]
  · rw [if_neg (by omega), if_neg h, List.getElem?_replicate]
    split <;> rfl
theorem padC_next (D : List UInt8) (i j : Nat) (hj : j < 24) : aOfBytes ((padC D i).take (j + 1)) = aOfBytes ((padC D i).take j) ++ [.int .u8 (((padC D i).getD j 0).toNat : Int)] := by
  have hl : j < (padC D i).length := by rw [padC_len]; exact hj
  rw [List.take_add_one, List.getElem?_eq_getElem hl, aOfBytes_append, List.getD_eq_getElem?_getD, List.getElem?_eq_getElem hl]
  rfl
theorem secsB_next (m D : List UInt8) (i : Nat) : secsB m D (i + 1) = secsB m D i ++ padC D i ++ m := by
  unfold secsB
  rw [List.range_succ, List.flatMap_append, List.flatMap_singleton, secB_pad, List.append_assoc]
theorem cells_of_take {cur : Array Value} {l : List (BitVec 8)} (h : cur.toList.take 8 = B8 l) : ∀ j u, (B8 (l.drop 4))[j]? = some u → cur[4 + j]? = some u := fun j u hj => by
  have e1 : B8 (l.drop 4) = (cur.toList.take 8).drop 4 := by rw [h]; simp [B8, List.map_drop]
  rw [e1, List.getElem?_drop, List.getElem?_take] at hj
  split at hj
  · rwa [Array.getElem?_toList] at hj
  · cases hj
theorem args3 {K : Kd} {x y z : AV} {vs : Array Value} (h : ArgsR K [x, y, z] vs) : ∃ u v q, vs = #[u, v, q] ∧ KRep K x u ∧ KRep K y v ∧ KRep K z q := by
  obtain ⟨h1, h2⟩ := h
  have h1 : vs.size = 3 := h1
  refine ⟨vs[0], vs[1], vs[2], ?_, h2 0 _ _ rfl (by simp), h2 1 _ _ rfl (by simp), h2 2 _ _ rfl (by simp)⟩
  apply Array.ext (by simpa using h1)
  intro i q1 q2
  match i with
  | 0 => rfl
  | 1 => rfl
  | 2 => rfl
  | i + 3 => omega
set_option maxHeartbeats 16000000 in
set_option maxRecDepth 100000 in
theorem rlay_spec (full : Bool) (e s : Int) (b : List UInt8) (he : 0 ≤ e ∧ e ≤ 4294967295) (hs : 0 ≤ s ∧ s ≤ 4294967295) (hb : b.length ≤ 65535) : Spec Try.prog 33 [.int .i64 e, .int .i64 s, .sl full b.length (aOfBytes b)] (.k (.tup [.sl false (layB e s b).length (aOfBytes (layB e s b)), .int .i64 0])) := by
  refine ⟨⟨_, Try.func33, rfl, rfl⟩, fun K w vs hK ha => ?_⟩
  obtain ⟨u0, u1, u2, rfl, gA, gB, gC⟩ := args3 ha
  rw [kint_inv gA, kint_inv gB]
  obtain ⟨aB, cB, rfl, hc1, hc2, _, _⟩ := ksl_inv gC
  obtain ⟨R, hR⟩ : ∃ R : Ending → World → Prop, R = (fun x w' => ∃ v K', x = .returned v ∧ Below w.heap.size w w' ∧ K.le K' ∧ KOk K' w' ∧ (∀ b, b < w.heap.size → K'.hw b = K.hw b) ∧ (∀ δ, δ < K.dp → ∀ d g, K'.rw δ d g = K.rw δ d g) ∧ RRep Try.prog K' w.heap.size w' (.k (.tup [.sl false (layB e s b).length (aOfBytes (layB e s b)), .int .i64 0])) v) := ⟨_, rfl⟩
  have HRR := Lib.hid hR
  suffices main : Calls Try.prog 33 #[.int .i64 e, .int .i64 s, .slice aB b.length cB] w R by rw [hR] at main; exact main
  clear hR
  obtain ⟨he0, he1⟩ := he
  obtain ⟨hs0, hs1⟩ := hs
  have hc5 : (b.length : Int) ≤ 65535 := by omega
  have HC1 := Lib.hid hc1
  have HC2 := Lib.hid hc2
  clear hc1 hc2
  refine callsIn_wide.1 (callsIn_of_wp_marks (n := 5) Try.func33 rfl trivial (wpIn_wide.2 ?_))
  simp only [Try.ntmps33, List.size_toArray, List.length_cons, List.length_nil, Nat.reduceAdd, Nat.reduceSub, Array.replicate_succ, Array.replicate_zero, List.push_toArray, List.append_toArray, List.nil_append, List.cons_append]
  go_upto_region 6 with fail
  go_cut [2, 8, 9] from 10 (fun s2 s8 s9 wx => s2 = .slice aB b.length cB ∧ s8 = .int .i64 b.length ∧ Rd wx s9 (B8 ((encI e).drop 4) ++ B8 ((encI s).drop 4)) ∧ Fresh w.heap.size s9 ∧ Below w.heap.size w wx)
  case first =>
    go_wp2_with (first
      | (go_at_call 66; refine (four_calls e _).mono ?_; rintro x w1 ⟨g1, c1, cur1, rfl, p1, p2, p3, p4, p5, p6, bel1⟩
         have P2 := Lib.hid p2
         have P3 := Lib.hid p3
         have P5 := Lib.hid p5
         have P6 := Lib.hid p6
         have P1 := Lib.hid p1
         have B1 := Lib.hid bel1
         clear p1 p2 p3 p5 p6 bel1)
      | (go_at_call 66; refine (four_calls s _).mono ?_; rintro x w2 ⟨g2, c2, cur2, rfl, q1, q2, q3, q4, q5, q6, bel2⟩
         have Q2 := Lib.hid q2
         have Q3 := Lib.hid q3
         have Q5 := Lib.hid q5
         have Q6 := Lib.hid q6
         have Q1 := Lib.hid q1
         have B2 := Lib.hid bel2
         clear q1 q2 q3 q5 q6 bel2)
      | (at_builtin
         refine wpList_append_tail (W0 := w) (o := ⟨some 36, _, _, _, _, _⟩) rfl _ _ 22 rfl slT8 g1 4 4 c1 g2 4 4 c2 (B8 ((encI e).drop 4)) (B8 ((encI s).drop 4)) cur1 cur2 _ _ rfl rfl (B1.out.trans (B2.out.mono B1.out.size)) P1.out ((B2.out.block g1 (Array.getElem?_eq_some_iff.1 P2.out).1).trans P2.out) Q2.out P3.out p4 (by have := P5.out; omega) (by rw [B8_len, List.length_drop, encI_len]) (by rw [B8_len, List.length_drop, encI_len]) (cells_of_take P6.out) (cells_of_take Q6.out) (B8_one _) (by omega) (by unfold maxLen; omega) (by omega) ?_
         intro v3 w3 r3 f3 bel3
         have R3 := Lib.hid r3
         have F3 := Lib.hid f3
         have B3 := Lib.hid bel3
         clear r3 f3 bel3)
      | fail)
    go_meet
    case rel => exact ⟨rfl, rfl, R3.out, F3.out, B3.out⟩
  case rest =>
-- TAIL
    obtain ⟨rfl, rfl, r3, f3, bel3⟩ := hcut
    have hK3 := wide_ok hK bel3
    have le3 : K.le (K.wide w.heap.size wc) := wide_le hK
    have km : KRep (K.wide w.heap.size wc) (.sl false 8 (aOfBytes (markB e s))) u9 := by
      rw [← B8_append] at r3
      have := k_of_rd (K := K) r3 f3
      have em : fb ((encI e).drop 4 ++ (encI s).drop 4) = markB e s := by
        have : ∀ a b : List (BitVec 8), fb (a ++ b) = fb a ++ fb b := fun a b => by simp [fb]
        rw [this, markB, lastB_eq, lastB_eq]
      rw [em, markB_len] at this
      exact this
    go_step
    refine av_tail0 (fn := Try.f33) (r := .tup [.sl false (layB e s b).length (aOfBytes (layB e s b)), .int .i64 0]) (os := fun _ => false) (R := R) (by kernel_rfl) (by show codeOk 88 true _ = true; kernel_rfl) hK3 (args_set3 (K := K.wide w.heap.size wc) (n := 88) (a := 2) (b := 8) (c := 9) (x := .sl full b.length (aOfBytes b)) (y := .int .i64 (b.length : Nat)) (z := .sl false 8 (aOfBytes (markB e s))) rfl rfl rfl rfl (gC.mono le3) (.int _ _) km) ?_ ?_
    rotate_left
    · rintro v w' K' h1 h2 h3 h4 h5 h6
      rw [HRR.out]
      have hbs := bel3.size
      refine ⟨v, K', rfl, bel3.trans (h1.mono hbs), le3.trans h2, h3, fun b hb => ?_, fun δ hδ d g => ?_, h6⟩
      · rw [h4 b (by omega)]; simp [Kd.wide, hb]
      · rw [h5 δ (Nat.lt_of_lt_of_le hδ le3.dp) d g]; rfl
    clear hK3 le3 km r3 f3 bel3 HRR hK gA gB gC ha
    generalize Kd.dp _ = δ
    obtain ⟨F, hF, f2, f8, f9⟩ : ∃ F : Nat → SV, initSt ((((List.replicate 88 AV.any).set 2 (AV.sl full b.length (aOfBytes b))).set 8 (AV.int IntKind.i64 (b.length : Nat))).set 9 (AV.sl false 8 (aOfBytes (markB e s)))) ⟨fun _ => false, δ, false⟩ = ⟨F, fun _ => none, 0, ⟨fun _ => false, δ, false⟩⟩ ∧ F 2 = .k (.sl full b.length (aOfBytes b)) ∧ F 8 = .k (.int .i64 (b.length : Nat)) ∧ F 9 = .k (.sl false 8 (aOfBytes (markB e s))) := ⟨_, rfl, rfl, rfl, rfl⟩
    rw [hF]
    clear hF
    rw [has3 f2 f8 f9]
    have hml := markB_len e s
    have hma := aOfBytes_len (markB e s)
    have hba := aOfBytes_len b
    have hl2 := lastB_len b.length 2 (by omega)
    have h2c := lastB2_cells b.length hb
    have hDl := matB_len e s b
    obtain ⟨d0, hd0⟩ : ∃ d0, d0 = lastB b.length 2 ++ b := ⟨_, rfl⟩
    have hd0l : d0.length = 2 + b.length := by rw [hd0, List.length_append, hl2]
    have hd0c : AV.int .u8 ((b.length : Int) / 256) :: AV.int .u8 ((b.length : Int) % 256) :: aOfBytes b = aOfBytes d0 := by rw [hd0, aOfBytes_append, h2c]; rfl
    have m1 := rmore_spec false 0#32 (markB e s) (by omega)
    have m2 := fun f => rmore_spec f (crcMore 0#32 (tb (markB e s))) d0 (by omega)
    have hz : crcI [markB e s, lastB b.length 2 ++ b] = n32 (crcMore (crcMore 0#32 (tb (markB e s))) (tb d0)) := by rw [hd0]; rfl
    have hD : matB e s b = d0 ++ lastB (n32 (crcMore (crcMore 0#32 (tb (markB e s))) (tb d0))) 4 := by rw [matB, hz, hd0]
    have hL : layB e s b = secsB (markB e s) (matB e s b) (chN (b.length + 6) 24) := by unfold layB; rw [hDl]
    have hLl : (layB e s b).length = 32 * chN (b.length + 6) 24 := by rw [hL, secsB_len hml]
    rw [hLl, hL]
    have hzl := n32_lo (crcMore (crcMore 0#32 (tb (markB e s))) (tb d0))
    have hzh := n32_hi (crcMore (crcMore 0#32 (tb (markB e s))) (tb d0))
    generalize hZ : n32 (crcMore (crcMore 0#32 (tb (markB e s))) (tb d0)) = Z at *
    have hY1 := n32_lo (crcMore 0#32 (tb (markB e s)))
    have hY2 := n32_hi (crcMore 0#32 (tb (markB e s)))
    generalize n32 (crcMore 0#32 (tb (markB e s))) = Y at *
    have m3 := four_spec Z
    have m4 := rcount_spec (b.length : Int)
    rw [cntN_pos b.length hb] at m4
    have hl4 := lastB_len Z 4 (by omega)
    have hl4a := aOfBytes_len (lastB Z 4)
    have hDc : aOfBytes d0 ++ aOfBytes (lastB Z 4) = aOfBytes (matB e s b) := by rw [hD, aOfBytes_append]
    have hN0 : 1 ≤ chN (b.length + 6) 24 := by have := (chN_bound (b.length + 6)).1; omega
    have hNb := chN_bound (b.length + 6)
    have e00 : n32 0#32 = 0 := rfl
    rw [e00, hml] at m1
    rw [hd0l] at m2
    have hnx := fun i => secsB_next (markB e s) (matB e s b) i
    have hsl := fun i => secsB_len (m := markB e s) (d := matB e s b) (k := i) hml
    have hs0 : secsB (markB e s) (matB e s b) 0 = [] := rfl
    generalize markB e s = mk at *
    generalize lastB Z 4 = l4 at *
    generalize matB e s b = D at *
    generalize chN (b.length + 6) 24 = N at *
    generalize secsB mk D = sc at *
    have hDa := aOfBytes_len D
    have hd0a := aOfBytes_len d0
    refine aWp_assoc15 (aWp_seq ?_)
    refine aWp_cut (fun s => ∃ F T ν gg, s = ⟨F, T, ν, ⟨fun _ => false, δ, false⟩⟩ ∧ F 8 = .k (.int .i64 (b.length : Nat)) ∧ F 9 = .k (.sl false 8 (aOfBytes mk)) ∧ F 10 = .ow 53 gg (b.length + 6) 5 (aOfBytes D) ∧ T 53 = some (gg, .tag)) ?_ ?_
    · repeat (first | with_reducible (first | refine aWp_seq ?_ | refine seq_normal ?_ | refine seq_ret ?_ | refine seq_exit ?_ | refine blk_normal ?_ | refine blk_ret ?_ | refine blk_hit ?_ | refine blk_miss rfl ?_ | refine aWp_ret ?_ | refine aWp_skip ?_ | refine aWp_block ?_ | refine aWp_exit ?_ | refine end_ret ?_ | refine end_normal ?_) | ((refine rgA ?_); intro ν) | ((with_reducible apply cndT); exact rfl; (first | rfl | assumption)) | ((with_reducible apply cndF); exact rfl; (first | rfl | assumption)))
      rw [hd0c]
      refine rg fun K hK => ?_
      refine stA ?_
      (first | with_reducible refine g0 ?_ | ((with_reducible refine g1 ?_ ?_); (with_reducible apply gt_); exact rfl; exact rfl; (first | rfl | assumption | (simp [*] <;> done)))); refine scA (h2 := (m1)) (hk := ?_)
      refine stA ?_
      (first | with_reducible refine g0 ?_ | ((with_reducible refine g1 ?_ ?_); (with_reducible apply gt_); exact rfl; exact rfl; (first | rfl | assumption | (simp [*] <;> done)))); refine scA (h2 := (m2 false)) (hk := ?_)
      refine stA ?_
      (first | with_reducible refine g0 ?_ | ((with_reducible refine g1 ?_ ?_); (with_reducible apply gt_); exact rfl; exact rfl; (first | rfl | assumption | (simp [*] <;> done)))); refine scA (h2 := (m3)) (hk := ?_)
      refine stA ?_
      with_reducible refine rz ?_
      refine hK _ _ _ ?_
      clear hK K; intro ν
      rw [hDc]
      repeat (first | with_reducible (first | refine aWp_seq ?_ | refine seq_normal ?_ | refine seq_ret ?_ | refine seq_exit ?_ | refine blk_normal ?_ | refine blk_ret ?_ | refine blk_hit ?_ | refine blk_miss rfl ?_ | refine aWp_ret ?_ | refine aWp_skip ?_ | refine aWp_block ?_ | refine aWp_exit ?_ | refine end_ret ?_ | refine end_normal ?_) | ((refine rgA ?_); intro ν) | ((with_reducible apply cndT); exact rfl; (first | rfl | assumption)) | ((with_reducible apply cndF); exact rfl; (first | rfl | assumption)))
      refine ⟨_, _, _, _, rfl, rfl, rfl, ?_, rfl⟩
      rw [show b.length + 6 = 2 + b.length + 4 by omega]; rfl
    rintro st ⟨F, T, ν, gg, rfl, f8, f9, f10, t53⟩
    rw [has3 f8 f9 f10]
    clear m1 m2 m3 hd0c hDc hd0l hd0a hd0 hD hz hZ
    repeat (first | with_reducible (first | refine aWp_seq ?_ | refine seq_normal ?_ | refine seq_ret ?_ | refine seq_exit ?_ | refine blk_normal ?_ | refine blk_ret ?_ | refine blk_hit ?_ | refine blk_miss rfl ?_ | refine aWp_ret ?_ | refine aWp_skip ?_ | refine aWp_block ?_ | refine aWp_exit ?_ | refine end_ret ?_ | refine end_normal ?_) | ((refine rgA ?_); intro ν) | ((with_reducible apply cndT); exact rfl; (first | rfl | assumption)) | ((with_reducible apply cndF); exact rfl; (first | rfl | assumption)))
    refine aWp_loop (fun q s => ∃ F T ν gg x i, q = N - i ∧ i ≤ N ∧ s = ⟨F, T, ν, ⟨fun _ => false, δ, false⟩⟩ ∧ F 8 = .k (.int .i64 (b.length : Nat)) ∧ F 9 = .k (.sl false 8 (aOfBytes mk)) ∧ F 10 = .ow 53 gg (b.length + 6) 5 (aOfBytes D) ∧ F 11 = x ∧ F 12 = .k (.int .i64 (i : Nat)) ∧ AccO 5 [54, 80, 83, 86] T x (32 * i) (aOfBytes (sc i))) N ⟨_, _, _, _, _, 0, rfl, Nat.zero_le _, rfl, rfl, rfl, rfl, rfl, rfl, ?_⟩ ?_
    · rw [hs0]; exact .ow (by simp) rfl rfl rfl
    clear f8 f9 f10 t53
    rintro q st ⟨F, T, ν, gg, x, i, rfl, hi, rfl, f8, f9, f10, f11, f12, hacc⟩
    rw [has5 f8 f9 f10 f11 f12]
    by_cases hlt : i < N
    · repeat with_reducible (first | refine aWp_seq ?_ | refine seq_normal ?_ | refine seq_ret ?_ | refine seq_exit ?_ | refine blk_normal ?_ | refine blk_ret ?_ | refine blk_hit ?_ | refine blk_miss rfl ?_ | refine aWp_ret ?_ | refine aWp_skip ?_ | refine aWp_block ?_ | refine aWp_exit ?_ | refine end_ret ?_ | refine end_normal ?_)
      refine rg fun K hK => ?_
      refine stA ?_
      (first | with_reducible refine g0 ?_ | ((with_reducible refine g1 ?_ ?_); (with_reducible apply gt_); exact rfl; exact rfl; (first | rfl | assumption | (simp [*] <;> done)))); refine scA (h2 := (m4)) (hk := ?_)
      refine stA ?_
      with_reducible refine rz ?_
      refine hK _ _ _ ?_
      clear hK K; intro ν
      repeat (first | with_reducible (first | refine aWp_seq ?_ | refine seq_normal ?_ | refine seq_ret ?_ | refine seq_exit ?_ | refine blk_normal ?_ | refine blk_ret ?_ | refine blk_hit ?_ | refine blk_miss rfl ?_ | refine aWp_ret ?_ | refine aWp_skip ?_ | refine aWp_block ?_ | refine aWp_exit ?_ | refine end_ret ?_ | refine end_normal ?_) | ((refine rgA ?_); intro ν) | ((with_reducible apply cndT); exact rfl; (first | rfl | assumption)) | ((with_reducible apply cndF); exact rfl; (first | rfl | assumption)))
      refine aWp_loop (fun q s => ∃ F T ν gg x k, q = 24 * i + 24 - k ∧ 24 * i ≤ k ∧ k ≤ 24 * i + 24 ∧ s = ⟨F, T, ν, ⟨fun _ => false, δ, false⟩⟩ ∧ F 8 = .k (.int .i64 (b.length : Nat)) ∧ F 9 = .k (.sl false 8 (aOfBytes mk)) ∧ F 10 = .ow 53 gg (b.length + 6) 5 (aOfBytes D) ∧ F 11 = x ∧ F 12 = .k (.int .i64 (i : Nat)) ∧ F 13 = .k (.int .i64 (k : Nat)) ∧ AccO 5 [54, 80, 83, 86] T x (32 * i + (k - 24 * i)) (aOfBytes (sc i ++ (padC D i).take (k - 24 * i)))) 24 ⟨_, _, _, _, _, 24 * i, by omega, Nat.le_refl _, by omega, rfl, rfl, rfl, rfl, rfl, rfl, ?_, ?_⟩ ?_
      · show (SV.k (.int .i64 (24 * (i : Int))) : SV) = _
        rw [show 24 * (i : Int) = ((24 * i : Nat) : Int) by omega]
      · rw [Nat.sub_self, List.take_zero, List.append_nil]; exact hacc
      clear f8 f9 f10 f11 f12 hacc
      rintro q st ⟨F, T, ν, gg, x, k, rfl, hk1, hk2, rfl, f8, f9, f10, f11, f12, f13, hacc⟩
      rw [has6 f8 f9 f10 f11 f12 f13]
      have hcl : (aOfBytes (sc i ++ (padC D i).take (k - 24 * i))).length = 32 * i + (k - 24 * i) := by rw [aOfBytes_len, List.length_append, hsl, List.length_take, padC_len]; omega
      by_cases hlk : k < 24 * i + 24
      · have hpn := padC_next D i (k - 24 * i) (by omega)
        have hpg := padC_get D i (k - 24 * i) (by omega)
        rw [show 24 * i + (k - 24 * i) = k by omega] at hpg
        have hkn : k + 1 - 24 * i = k - 24 * i + 1 := by omega
        by_cases hin : k < D.length
        · rw [if_pos hin] at hpg
          rw [hpg] at hpn
          clear hpg
          have l1 := ld_b D k hin
          obtain ⟨d, g, hd, rfl, hT⟩ := hacc
          simp only [List.mem_cons, List.not_mem_nil, or_false] at hd
          rw [upd_self hT]
          rcases hd with rfl | rfl | rfl | rfl
          iterate 4
            · repeat (first | with_reducible (first | refine aWp_seq ?_ | refine seq_normal ?_ | refine seq_ret ?_ | refine seq_exit ?_ | refine blk_normal ?_ | refine blk_ret ?_ | refine blk_hit ?_ | refine blk_miss rfl ?_ | refine aWp_ret ?_ | refine aWp_skip ?_ | refine aWp_block ?_ | refine aWp_exit ?_ | refine end_ret ?_ | refine end_normal ?_) | ((refine rgA ?_); intro ν) | ((with_reducible apply cndT); exact rfl; (first | rfl | assumption)) | ((with_reducible apply cndF); exact rfl; (first | rfl | assumption)))
              refine ⟨24 * i + 24 - (k + 1), by omega, _, _, _, gg, _, k + 1, rfl, by omega, by omega, rfl, rfl, rfl, rfl, rfl, rfl, ?_, .ow (by simp) rfl ?_ ?_⟩
              · show (SV.k (.int .i64 ((k : Int) + 1)) : SV) = _
                rw [Int.natCast_succ]
              · omega
              · rw [hkn, aOfBytes_append, aOfBytes_append, hpn, List.append_assoc]
        · rw [if_neg hin] at hpg
          rw [hpg] at hpn
          clear hpg
          change _ = _ ++ [AV.int .u8 0] at hpn
          obtain ⟨d, g, hd, rfl, hT⟩ := hacc
          simp only [List.mem_cons, List.not_mem_nil, or_false] at hd
          rw [upd_self hT]
          rcases hd with rfl | rfl | rfl | rfl
          iterate 4
            · repeat (first | with_reducible (first | refine aWp_seq ?_ | refine seq_normal ?_ | refine seq_ret ?_ | refine seq_exit ?_ | refine blk_normal ?_ | refine blk_ret ?_ | refine blk_hit ?_ | refine blk_miss rfl ?_ | refine aWp_ret ?_ | refine aWp_skip ?_ | refine aWp_block ?_ | refine aWp_exit ?_ | refine end_ret ?_ | refine end_normal ?_) | ((refine rgA ?_); intro ν) | ((with_reducible apply cndT); exact rfl; (first | rfl | assumption)) | ((with_reducible apply cndF); exact rfl; (first | rfl | assumption)))
              refine ⟨24 * i + 24 - (k + 1), by omega, _, _, _, gg, _, k + 1, rfl, by omega, by omega, rfl, rfl, rfl, rfl, rfl, rfl, ?_, .ow (by simp) rfl ?_ ?_⟩
              · show (SV.k (.int .i64 ((k : Int) + 1)) : SV) = _
                rw [Int.natCast_succ]
              · omega
              · rw [hkn, aOfBytes_append, aOfBytes_append, hpn, List.append_assoc]
      · have hke : k - 24 * i = 24 := by omega
        have hp24 : (padC D i).take 24 = padC D i := List.take_of_length_le (by rw [padC_len]; omega)
        have hnx := hnx i
        rw [hke, hp24] at hacc hcl
        obtain ⟨d, g, hd, rfl, hT⟩ := hacc
        simp only [List.mem_cons, List.not_mem_nil, or_false] at hd
        rw [upd_self hT]
        rcases hd with rfl | rfl | rfl | rfl
        iterate 4
          · repeat (first | with_reducible (first | refine aWp_seq ?_ | refine seq_normal ?_ | refine seq_ret ?_ | refine seq_exit ?_ | refine blk_normal ?_ | refine blk_ret ?_ | refine blk_hit ?_ | refine blk_miss rfl ?_ | refine aWp_ret ?_ | refine aWp_skip ?_ | refine aWp_block ?_ | refine aWp_exit ?_ | refine end_ret ?_ | refine end_normal ?_) | ((refine rgA ?_); intro ν) | ((with_reducible apply cndT); exact rfl; (first | rfl | assumption)) | ((with_reducible apply cndF); exact rfl; (first | rfl | assumption)))
            refine ⟨N - (i + 1), by omega, _, _, _, gg, _, i + 1, rfl, by omega, rfl, rfl, rfl, rfl, rfl, ?_, .ow (by simp) rfl ?_ ?_⟩
            · show (SV.k (.int .i64 ((i : Int) + 1)) : SV) = _
              rw [Int.natCast_succ]
            · omega
            · rw [hnx, aOfBytes_append (sc i ++ padC D i)]
    · have hie : i = N := by omega
      subst hie
      obtain ⟨d, g, hd, rfl, hT⟩ := hacc
      repeat with_reducible (first | refine aWp_seq ?_ | refine seq_normal ?_ | refine seq_ret ?_ | refine seq_exit ?_ | refine blk_normal ?_ | refine blk_ret ?_ | refine blk_hit ?_ | refine blk_miss rfl ?_ | refine aWp_ret ?_ | refine aWp_skip ?_ | refine aWp_block ?_ | refine aWp_exit ?_ | refine end_ret ?_ | refine end_normal ?_)
      refine rg fun K hK => ?_
      refine stA ?_
      (first | with_reducible refine g0 ?_ | ((with_reducible refine g1 ?_ ?_); (with_reducible apply gt_); exact rfl; exact rfl; (first | rfl | assumption | (simp [*] <;> done)))); refine scA (h2 := (m4)) (hk := ?_)
      refine stA ?_
      with_reducible refine rz ?_
      refine hK _ _ _ ?_
      clear hK K; intro ν
      repeat (first | with_reducible (first | refine aWp_seq ?_ | refine seq_normal ?_ | refine seq_ret ?_ | refine seq_exit ?_ | refine blk_normal ?_ | refine blk_ret ?_ | refine blk_hit ?_ | refine blk_miss rfl ?_ | refine aWp_ret ?_ | refine aWp_skip ?_ | refine aWp_block ?_ | refine aWp_exit ?_ | refine end_ret ?_ | refine end_normal ?_) | ((refine rgA ?_); intro ν) | ((with_reducible apply cndT); exact rfl; (first | rfl | assumption)) | ((with_reducible apply cndF); exact rfl; (first | rfl | assumption)))
      (first | with_reducible refine end_r ?_ | with_reducible refine end_n ?_); refine en2 ?_
      rfl
end Go.Proofs.Ytikganlbnhapcaa
