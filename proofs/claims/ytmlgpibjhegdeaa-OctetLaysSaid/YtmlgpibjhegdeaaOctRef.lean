import Derived.Test.YtmlgpibjhegdeaaProg
import Derived.Test.YtmlgpibjhegdeaaOctLaws
import Derived.RegionTactic
import Derived.ChangeAlike
import Derived.Below
import Derived.Deep.Draws
import Derived.OwnWalk
import Derived.Tactics
import Derived.WalkKit
import Derived.KernelRfl
import Derived.RowKit3
import Derived.Deep.LoopGhost
import Derived.Deep.QuietTactic
import Derived.BigQuiet
import Derived.WideLaws
import Derived.Deep.DeepCutAuto
import Derived.Deep.CutBlock
import Derived.Laws.Rows
import Derived.Outline
import Derived.Lib.Hide
namespace Go.Proofs.Ytmlgpibjhegdeaa
open Go.RowKit
set_option linter.unusedVariables false
set_option linter.unusedSimpArgs false


theorem slT8' : SlT Try.prog 22 5 (.int .u8 0) 1 := slT8
theorem div256 (x : BitVec 64) (k : Nat) : n64 (x >>> (8 * k)) / (256 : Int) = n64 (x >>> (8 * (k + 1))) := by
  unfold n64
  rw [BitVec.toNat_ushiftRight, BitVec.toNat_ushiftRight, Nat.shiftRight_eq_div_pow, Nat.shiftRight_eq_div_pow, Nat.mul_add, Nat.pow_add, ← Nat.div_div_eq_div_mul]
  simp
theorem tdiv256 (y : BitVec 64) : IntKind.u64.wrap ((n64 y).tdiv 256) = n64 y / 256 := by
  have h0 := n64_lo y
  have h1 := n64_hi y
  rw [IntKind.wrap_u64, Int.tdiv_eq_ediv_of_nonneg h0]; omega
theorem mod256 (x : BitVec 64) : n64 x % (256 : Int) = n8 (x.setWidth 8) := by
  unfold n64 n8; rw [BitVec.toNat_setWidth]; simp
def bk (x : BitVec 64) (k : Nat) : List (BitVec 8) := (List.range 8).map fun i => if 7 - i < k then (x >>> (8 * (7 - i))).setWidth 8 else 0#8
theorem bk_zero (x : BitVec 64) : bk x 0 = List.replicate 8 0#8 := by simp [bk, List.map_const']
theorem bk_all (x : BitVec 64) : bk x 8 = ser x 8 := by
  unfold bk ser
  exact List.map_congr_left fun i hi => by rw [if_pos (by omega)]
theorem bk_set (x : BitVec 64) (k : Nat) (h : k < 8) : (bk x k).set (7 - k) ((x >>> (8 * k)).setWidth 8) = bk x (k + 1) := by
  apply List.ext_getElem (by simp [bk])
  intro i h1 h2
  have h3 : i < 8 := by simpa [bk] using h2
  simp only [bk, List.getElem_set, List.getElem_map, List.getElem_range]
  by_cases e : 7 - k = i
  · subst e; rw [if_pos rfl, if_pos (by omega)]; rw [show 7 - (7 - k) = k by omega]
  · rw [if_neg e]
    by_cases e2 : 7 - i < k
    · rw [if_pos e2, if_pos (by omega)]
    · rw [if_neg e2, if_neg (by omega)]

set_option maxHeartbeats 1600000 in
set_option maxRecDepth 100000 in
theorem refint_callsF (bs : List (BitVec 8)) (n : Int) (v : Value) (w : World) (h : Rd w v (B8 bs)) (hb : bs.length ≤ 1000000000) :
    Calls Try.prog 19 #[v, .int .i64 n] w fun e w' => ∃ v', e = .returned v' ∧ (Rd w' v' (B8 (bs ++ encI n)) ∧ Fresh w.heap.size v') ∧ Below w.heap.size w w' := by
  have hu := u64_of n
  have hmk : ∀ w : World, (Instr.makeSlice 22 (.int .i64 8) (.int .i64 8)).run Try.prog w = .ok (.slice (some ⟨w.heap.size, 0, none⟩) 8 8) (w.alloc (.cells (B8 (List.replicate 8 0#8)).toArray 5)) := fun w => make8 slT8 8 (by decide) w
  go_enter Try.func19, Try.ntmps19
  go_wp2_with fail
  clear hmk hu
  have Hx : Hid (encI n = ser (BitVec.ofInt 64 n) 8) := Lib.hid rfl
  generalize BitVec.ofInt 64 n = x at Hx
  go_loopw [6, 7] (fun u i wr => ∃ k : Nat, k ≤ 8 ∧ i = .int .i64 k ∧ u = .int .u64 (n64 (x >>> (8 * k))) ∧ wr.heap[w.heap.size]? = some (.cells (B8 (bk x k)).toArray 5 (0, 0)) ∧ Below w.heap.size w wr) (fun _ i _ => 8 - (intOf i).toNat)
  case atStart => exact ⟨0, by omega, rfl, by simp, by rw [bk_zero]; exact heap_alloc_new _ _, (Below.refl _ _).alloc (Nat.le_refl _) _⟩
  case round =>
    obtain ⟨k, hk, rfl, rfl, G, hB⟩ := hrel
    have HG := Lib.hid G
    have HB := Lib.hid hB
    by_cases hlt : k < 8
    · have c1 := cell_of_row wr _ (7 - k) _ _ _ G
      rw [B8_at _ _ (by simp [bk]; omega)] at c1
      generalize (bk x k).getD (7 - k) 0 = q at c1
      have f1 := frozen_of_row wr _ (7 - k) _ _ G
      have hq : Hid (n64 (x >>> (8 * k)) / (256 : Int) = n64 (x >>> (8 * (k + 1)))) := Lib.hid (div256 x k)
      have hm : Hid (n64 (x >>> (8 * k)) % (256 : Int) = n8 ((x >>> (8 * k)).setWidth 8)) := Lib.hid (mod256 _)
      have hs : Hid ((bk x k).set (7 - k) ((x >>> (8 * k)).setWidth 8) = bk x (k + 1)) := Lib.hid (bk_set x k hlt)
      clear G hB
      generalize x >>> (8 * k) = y at hq hm hs
      have y0 := n64_lo y
      go_wp2
      go_roundw
      case rel =>
        refine ⟨k + 1, by omega, by go_num, ?_, ?_, HB.out.setCell (Nat.le_refl _) _⟩
        · rw [← hq.out, tdiv256]
        · rw [hm.out, heap_setCell_same _ _ _ _ _ _ HG.out, List.setIfInBounds_toArray, B8_set, hs.out]
      case measure => simp only [intOf]; omega
    · have em : Hid (k = 8) := Lib.hid (by omega)
      have r1 : Hid (Rd wr (.slice (some ⟨w.heap.size, 0, none⟩) 8 8) (B8 (encI n))) := Lib.hid (by
        rw [em.out, bk_all, ← Hx.out] at G
        have := Rd.block (n := 8) (cap := 8) _ G (by simp [B8_len, encI_len]) (Nat.le_refl _) (by omega)
        rwa [List.toList_toArray, List.take_of_length_le (by rw [B8_len, encI_len]; omega)] at this)
      clear G hB HG
      go_wp2_with (first
        | (at_builtin; refine wpList_append_bd (W0 := wr) (o := ⟨some 26, _, _, _, _, _⟩) rfl _ _ 22 rfl slT8 (.slice (some ⟨wr.heap.size, 0, none⟩) 0 0) v [] (B8 bs) rfl rfl ((Below.refl _ _).alloc (Nat.le_refl _) _) (by exact Own.made #[] 0 (Nat.le_refl _) rfl (by decide) _ rfl) (h.below (HB.out.alloc HB.out.size _)) (B8_one _) (by simp [B8_len, maxLen]; omega) (by simp [B8_len]; omega) ?_; intro u1 w1 o1 b1 g1; rw [List.nil_append] at o1)
        | (at_builtin; refine wpList_append_bd (o := ⟨some 28, _, _, _, _, _⟩) rfl _ _ 22 rfl slT8 u1 _ _ (B8 (encI n)) rfl rfl b1 o1 (r1.out.below b1) (B8_one _) (by simp [B8_len, maxLen, encI_len]; omega) (by simp [B8_len, encI_len]; omega) ?_; intro u2 w2 o2 b2 g2)
        | fail)
      go_ret
      exact ⟨_, rfl, ⟨by rw [B8_append]; exact o2.rd, fun a n c e => Nat.le_trans HB.out.size (o2.fresh a n c e)⟩, HB.out.trans (b2.mono HB.out.size)⟩

theorem refint_calls (bs : List (BitVec 8)) (n : Int) (v : Value) (w : World) (h : Rd w v (B8 bs)) (hb : bs.length ≤ 1000000000) :
    Calls Try.prog 19 #[v, .int .i64 n] w fun e w' => ∃ v', e = .returned v' ∧ Rd w' v' (B8 (bs ++ encI n)) ∧ Below w.heap.size w w' := by
  refine (refint_callsF bs n v w h hb).mono ?_
  rintro e w' ⟨v', rfl, ⟨r, _⟩, b⟩
  exact ⟨v', rfl, r, b⟩


theorem two_bytes (n : Nat) (h : n ≤ 65535) : ser (BitVec.ofNat 64 n) 2 = [BitVec.ofNat 8 (n / 256), BitVec.ofNat 8 (n % 256)] := by
  have e : ser (BitVec.ofNat 64 n) 2 = [(BitVec.ofNat 64 n >>> 8).setWidth 8, (BitVec.ofNat 64 n >>> 0).setWidth 8] := rfl
  rw [e]
  congr 1
  · apply BitVec.eq_of_toNat_eq
    simp [BitVec.toNat_ushiftRight, Nat.shiftRight_eq_div_pow]; omega
  · congr 1
    apply BitVec.eq_of_toNat_eq
    simp
theorem nat8 (n : Nat) (h : n < 256) : ((n : Nat) : Int) = n8 (BitVec.ofNat 8 n) := by unfold n8; simp; omega

set_option maxHeartbeats 1600000 in
set_option maxRecDepth 100000 in
theorem reftext_callsF (bs l : List (BitVec 8)) (v : Value) (w : World) (h : Rd w v (B8 bs)) (hb : bs.length ≤ 1000000000) (hl : l.length ≤ 65535) :
    Calls Try.prog 20 #[v, .string (sOf l)] w fun e w' => ∃ v', e = .returned v' ∧ (Rd w' v' (B8 (bs ++ encT l)) ∧ Fresh w.heap.size v') ∧ Below w.heap.size w w' := by
  have hz := sOf_size l
  have hd : (((sOf l).size : Nat) : Int) / 256 = n8 (BitVec.ofNat 8 (l.length / 256)) := by
    rw [hz, ← nat8 _ (by omega)]; omega
  have hm : (((sOf l).size : Nat) : Int) % 256 = n8 (BitVec.ofNat 8 (l.length % 256)) := by
    rw [hz, ← nat8 _ (by omega)]; omega
  have hs2 : (((sOf l).size : Nat) : Int) ≤ 65535 := by omega
  have H2 : Hid (encT l = [BitVec.ofNat 8 (l.length / 256), BitVec.ofNat 8 (l.length % 256)] ++ l) := Lib.hid (by unfold encT; rw [two_bytes _ hl])
  clear hz
  generalize BitVec.ofNat 8 (l.length / 256) = p at hd H2
  generalize BitVec.ofNat 8 (l.length % 256) = q at hm H2
  have hp1 := n8_hi p
  have hq1 := n8_hi q
  have hp0 := n8_lo p
  have hq0 := n8_lo q
  go_enter Try.func20, Try.ntmps20
  go_wp2_with (first
    | (at_builtin; refine wpList_append_bd (W0 := w) (o := ⟨some 10, _, _, _, _, _⟩) rfl _ _ 22 rfl slT8 (.slice (some ⟨w.heap.size, 0, none⟩) 0 0) v [] (B8 bs) rfl rfl ((Below.refl _ _).alloc (Nat.le_refl _) _) (by exact Own.made #[] 0 (Nat.le_refl _) rfl (by decide) _ rfl) (h.alloc _) (B8_one _) (by simp [B8_len, maxLen]; omega) (by simp [B8_len]; omega) ?_; intro u1 w1 o1 b1 g1; rw [List.nil_append] at o1)
    | (at_builtin; refine wpList_append_bd (W0 := w) (o := ⟨some 18, _, _, _, _, _⟩) rfl _ _ 22 rfl slT8 u1 _ (B8 bs) (B8 [p, q]) rfl rfl (b1.alloc b1.size _) (o1.alloc _) (by exact Rd.new _ _ (B8 [p, q]).toArray 2 _ rfl rfl (by decide)) (B8_one _) (by simp [B8_len, maxLen]; omega) (by simp [B8_len]; omega) ?_; intro u2 w2 o2 b2 g2)
    | (at_builtin; refine wpList_append_str (W0 := w) (o := ⟨some 20, _, _, _, _, _⟩) rfl _ _ 22 9 rfl slT8 Try.underlying9 u2 _ l rfl rfl b2 o2 (by simp [B8_len]; omega) ?_; intro u3 w3 o3 b3 g3)
    | fail)
  go_ret
  exact ⟨_, rfl, ⟨by rw [H2.out, ← List.append_assoc, B8_append, B8_append]; exact o3.rd, o3.fresh⟩, b3⟩

theorem reftext_calls (bs l : List (BitVec 8)) (v : Value) (w : World) (h : Rd w v (B8 bs)) (hb : bs.length ≤ 1000000000) (hl : l.length ≤ 65535) :
    Calls Try.prog 20 #[v, .string (sOf l)] w fun e w' => ∃ v', e = .returned v' ∧ Rd w' v' (B8 (bs ++ encT l)) ∧ Below w.heap.size w w' := by
  refine (reftext_callsF bs l v w h hb hl).mono ?_
  rintro e w' ⟨v', rfl, ⟨r, _⟩, b⟩
  exact ⟨v', rfl, r, b⟩


set_option maxHeartbeats 1600000 in
theorem number_lost (x : List (BitVec 8)) (v : Value) (w : World) (h : Rd w v (B8 x)) :
    Calls Try.prog 22 #[v, .int .i64 (-1)] w fun e w' => e = .returned (.tuple #[.int .i64 0, .int .i64 (-1)]) ∧ w = w' := by
  go_enter Try.func22, Try.ntmps22
  go_wp2
  go_ret2
  exact ⟨rfl, rfl⟩
set_option maxHeartbeats 1600000 in
theorem number_short (x : List (BitVec 8)) (v : Value) (k : Nat) (w : World) (h : Rd w v (B8 x)) (hk : k ≤ x.length) (hp : x.length < k + 8) :
    Calls Try.prog 22 #[v, .int .i64 (k : Int)] w fun e w' => e = .returned (.tuple #[.int .i64 0, .int .i64 (-1)]) ∧ w = w' := by
  obtain ⟨a, c, rfl, hc1, hc2⟩ := h.slice
  rw [B8_len] at *
  have h1 : (x.length : Int) - k < 8 := by omega
  have h2 : ¬ ((k : Int) < 0) := by omega
  clear h
  go_enter Try.func22, Try.ntmps22
  go_wp2
  go_ret2
  exact ⟨rfl, rfl⟩
theorem vN_get (x : List (BitVec 8)) (k m : Nat) (h : k + m < x.length) : IntKind.u64.wrap (IntKind.u64.wrap (256 * n64 (vN ((x.drop k).take m))) + n8 (x.getD (k + m) 0)) = n64 (vN ((x.drop k).take (m + 1))) := by
  have e : vN ((x.drop k).take (m + 1)) = vN ((x.drop k).take m) <<< 8 + (x.getD (k + m) 0).setWidth 64 := by
    unfold vN; rw [fold_snoc _ 0 _ _ _ (by simp; omega)]; simp [List.getD, List.getElem?_drop]
  rw [e, ← vN_step, Int.mul_comm]
  congr 2
  have h0 := n8_lo (x.getD (k + m) 0)
  have h1 := n8_hi (x.getD (k + m) 0)
  rw [IntKind.wrap_u64]; omega
set_option maxHeartbeats 1600000 in
set_option maxRecDepth 100000 in
theorem number_calls (x : List (BitVec 8)) (v : Value) (k : Nat) (w : World) (h : Rd w v (B8 x)) (hp : k + 8 ≤ x.length) (hx : x.length ≤ 1000000000) :
    Calls Try.prog 22 #[v, .int .i64 (k : Int)] w fun e w' => e = .returned (.tuple #[.int .i64 (vI ((x.drop k).take 8)), .int .i64 ((k : Int) + 8)]) ∧ w = w' := by
  obtain ⟨b, off, c, rfl, hc1, hc2, hcell⟩ := h.cell 0 (by rw [B8_len]; omega)
  rw [B8_len] at *
  have h1 : ¬ ((x.length : Int) - k < 8) := by omega
  have h2 : ¬ ((k : Int) < 0) := by omega
  have c0 := hcell k (by omega)
  rw [B8_getD _ _ (by omega)] at c0
  have Hc := Lib.hid hcell
  have HX : Hid (n8 (x.getD k 0) = n64 (vN ((x.drop k).take 1))) := Lib.hid (by
    have : (x.drop k).take 1 = [x.getD k 0] := by
      rw [List.take_one]; simp [List.getD]
      rw [List.getElem?_eq_getElem (by omega)]; rfl
    rw [this]; simp [vN, n64, n8]
    have := (x.getD k 0).isLt; omega)
  have b0 := n8_lo (x.getD k 0)
  have b1 := n8_hi (x.getD k 0)
  generalize hb : x.getD k 0 = bb at c0 b0 b1 HX
  clear h hcell hb hx
  go_enter Try.func22, Try.ntmps22
  go_wp2
  clear c0
  go_loop [6, 7] (fun u i => ∃ m : Nat, 1 ≤ m ∧ m ≤ 8 ∧ i = .int .i64 m ∧ u = .int .u64 (n64 (vN ((x.drop k).take m)))) (fun _ i => 8 - (intOf i).toNat)
  case atStart => exact ⟨1, by omega, by omega, rfl, by rw [HX.out]⟩
  case round =>
    obtain ⟨m, hm1, hm, rfl, rfl⟩ := hrel
    by_cases hlt : m < 8
    · have c1 := Hc.out (k + m) (by omega)
      rw [B8_getD _ _ (by omega)] at c1
      have hv := Lib.hid (vN_get x k m (by omega))
      have d0 := n8_lo (x.getD (k + m) 0)
      have d1 := n8_hi (x.getD (k + m) 0)
      generalize x.getD (k + m) 0 = dd at c1 hv d0 d1
      go_wp2
      go_round
      case rel => exact ⟨m + 1, by omega, by omega, by go_num, by rw [← hv.out]⟩
      case measure => simp only [intOf]; omega
    · have em : Hid (m = 8) := Lib.hid (by omega)
      go_wp2
      go_ret2
      exact ⟨by rw [em.out]; rfl, rfl⟩

set_option maxHeartbeats 1600000 in
theorem word_lost (x : List (BitVec 8)) (v : Value) (most : Int) (w : World) (h : Rd w v (B8 x)) :
    Calls Try.prog 24 #[v, .int .i64 (-1), .int .i64 most] w fun e w' => e = .returned (.tuple #[.string (sOf []), .int .i64 (-1)]) ∧ w = w' := by
  go_enter Try.func24, Try.ntmps24
  go_wp2
  go_ret2
  exact ⟨rfl, rfl⟩
set_option maxHeartbeats 1600000 in
theorem word_short (x : List (BitVec 8)) (v : Value) (k : Nat) (most : Int) (w : World) (h : Rd w v (B8 x)) (hk : k ≤ x.length) (hp : x.length < k + 2) :
    Calls Try.prog 24 #[v, .int .i64 (k : Int), .int .i64 most] w fun e w' => e = .returned (.tuple #[.string (sOf []), .int .i64 (-1)]) ∧ w = w' := by
  obtain ⟨a, c, rfl, hc1, hc2⟩ := h.slice
  rw [B8_len] at *
  have h1 : (x.length : Int) - k < 2 := by omega
  have h2 : ¬ ((k : Int) < 0) := by omega
  clear h
  go_enter Try.func24, Try.ntmps24
  go_wp2
  go_ret2
  exact ⟨rfl, rfl⟩
set_option maxHeartbeats 1600000 in
set_option maxRecDepth 100000 in
theorem word_no (x : List (BitVec 8)) (v : Value) (k : Nat) (most : Int) (w : World) (h : Rd w v (B8 x)) (hp : k + 2 ≤ x.length) (n : Nat) (hn : n = 256 * (x.getD k 0).toNat + (x.getD (k + 1) 0).toNat)
    (hno : ¬ ((n : Int) ≤ most ∧ k + 2 + n ≤ x.length)) :
    Calls Try.prog 24 #[v, .int .i64 (k : Int), .int .i64 most] w fun e w' => w' = w.drew ∧ e = .returned (.tuple #[.string (sOf []), .int .i64 (-1)]) := by
  obtain ⟨b, off, c, rfl, hc1, hc2, hcell⟩ := h.cell 0 (by rw [B8_len]; omega)
  rw [B8_len] at *
  have h1 : ¬ ((x.length : Int) - k < 2) := by omega
  have h2 : ¬ ((k : Int) < 0) := by omega
  have c0 := hcell k (by omega)
  rw [B8_getD _ _ (by omega)] at c0
  have c1 := hcell (k + 1) (by omega)
  rw [B8_getD _ _ (by omega)] at c1
  have hn2 : 256 * n8 (x.getD k 0) + n8 (x.getD (k + 1) 0) = (n : Int) := by rw [hn]; unfold n8; omega
  have HR := Lib.hid h
  generalize x.getD k 0 = p at c0 hn2
  generalize x.getD (k + 1) 0 = q at c1 hn2
  have p0 := n8_lo p
  have p1 := n8_hi p
  have q0 := n8_lo q
  have q1 := n8_hi q
  have n1 : (n : Int) < 65536 := by omega
  clear h hcell hn
  go_enter Try.func24, Try.ntmps24
  go_upto_region 3 with fail
  go_cut [8] (fun s wx => s = .int .i64 n ∧ wx = w.drew)
  case first =>
    go_region
    all_goals
      go_wp2_with fail
      go_meet
      exact ⟨by first | rfl | simp, rfl⟩
  case rest =>
    obtain ⟨rfl, rfl⟩ := hcut
    clear c0 c1 hn2 p0 p1 q0 q1
    by_cases hm : (n : Int) ≤ most
    · have hl2 : (x.length : Int) - k - 2 < n := by omega
      clear hno
      go_wp2
      go_ret2
      exact ⟨rfl, rfl⟩
    · clear hno
      go_wp2
      go_ret2
      exact ⟨rfl, rfl⟩

set_option maxHeartbeats 1600000 in
set_option maxRecDepth 100000 in
theorem word_yes (x : List (BitVec 8)) (v : Value) (k : Nat) (most : Int) (w : World) (h : Rd w v (B8 x)) (hp : k + 2 ≤ x.length) (n : Nat) (hn : n = 256 * (x.getD k 0).toNat + (x.getD (k + 1) 0).toNat)
    (hm : (n : Int) ≤ most) (hl : k + 2 + n ≤ x.length) :
    Calls Try.prog 24 #[v, .int .i64 (k : Int), .int .i64 most] w fun e w' => w' = w.drew ∧ e = .returned (.tuple #[.string (sOf ((x.drop (k + 2)).take n)), .int .i64 ((k : Int) + 2 + n)]) := by
  obtain ⟨b, off, c, rfl, hc1, hc2, hcell⟩ := h.cell 0 (by rw [B8_len]; omega)
  rw [B8_len] at *
  have h1 : ¬ ((x.length : Int) - k < 2) := by omega
  have h2 : ¬ ((k : Int) < 0) := by omega
  have c0 := hcell k (by omega)
  rw [B8_getD _ _ (by omega)] at c0
  have c1 := hcell (k + 1) (by omega)
  rw [B8_getD _ _ (by omega)] at c1
  have hn2 : 256 * n8 (x.getD k 0) + n8 (x.getD (k + 1) 0) = (n : Int) := by rw [hn]; unfold n8; omega
  have HR := Lib.hid h
  generalize x.getD k 0 = p at c0 hn2
  generalize x.getD (k + 1) 0 = q at c1 hn2
  have p0 := n8_lo p
  have p1 := n8_hi p
  have q0 := n8_lo q
  have q1 := n8_hi q
  have n1 : (n : Int) < 65536 := by omega
  clear h hcell hn
  go_enter Try.func24, Try.ntmps24
  go_upto_region 3 with fail
  go_cut [8] (fun s wx => s = .int .i64 n ∧ wx = w.drew)
  case first =>
    go_region
    all_goals
      go_wp2_with fail
      go_meet
      exact ⟨by first | rfl | simp, rfl⟩
  case rest =>
    obtain ⟨rfl, rfl⟩ := hcut
    clear c0 c1 hn2 p0 p1 q0 q1
    have hl2 : ¬ ((x.length : Int) - k - 2 < n) := by omega
    have HR2 : Rd w.drew (.slice (some ⟨b, off, none⟩) x.length c) (B8 x) := HR.out
    have r3 := Lib.hid ((HR2.take (k + 2 + n) (by rw [B8_len]; exact hl)).drop (k + 2) (by omega))
    have hl3 : (k : Int) + 2 + n ≤ c := by omega
    have hl4 : (k : Int) + 2 ≤ (k : Int) + 2 + n := by omega
    have hl5 : (0 : Int) ≤ (k : Int) + 2 := by omega
    have HL := Lib.hid hl
    clear HR2 hl
    have e1 : ((k + 2 : Nat) : Int) = (k : Int) + 2 := by omega
    have e2 : ((k + 2 + n : Nat) : Int) = (k : Int) + 2 + n := by omega
    have E1 := Lib.hid e1
    have E2 := Lib.hid e2
    clear e1 e2 r3 hl3 hl4 hl5
    have HT : Hid (((B8 x).take (k + 2 + n)).drop (k + 2) = B8 ((x.drop (k + 2)).take n)) := Lib.hid (by
      rw [List.drop_take, show k + 2 + n - (k + 2) = n by omega, B8, B8, List.map_take, List.map_drop])
    go_upto_region 4 with fail
    go_cut [42] (fun s wx => s = .bool false ∧ wx = w.drew)
    case first =>
      clear E1 E2 HT HR
      go_wp2_with fail
      go_meet
      exact ⟨congrArg Value.bool (decide_eq_false (by omega)), rfl⟩
    case rest =>
      obtain ⟨rfl, rfl⟩ := hcut
      have hw : wrap64 ((k : Int) + 2 + n) = (k : Int) + 2 + n := by simp only [wrap64]; omega
      have hl := HL.out
      clear hl2 h1 h2 n1 hm
      have g1 : (0 : Int) ≤ (k : Int) + 2 + n := by omega
      have g2 : (k : Int) + 2 + n ≤ c := by omega
      have g3 : (0 : Int) ≤ (k : Int) + 2 := by omega
      have g4 : (k : Int) + 2 ≤ (k : Int) + 2 + n := by omega
      have r3 := (show Rd w.drew (.slice (some ⟨b, off, none⟩) x.length c) (B8 x) from HR.out).cut (k + 2) (k + 2 + n) (by omega) hl
      rw [HT.out] at r3
      have r4 := run_str (P := Try.prog) (src := 22) (e := 5) (dst := 9) r3 Try.underlying22 Try.underlying5 Try.underlying9
      rw [show k + 2 + n - (k + 2) = n by omega] at r4
      clear r3 HR HT E1 E2 hl HL
      by_cases hc : c = k + 2
      · rw [if_pos hc] at r4
        subst hc
        rw [Nat.sub_self] at r4
        go_wp2_with fail
        go_ret2
        exact ⟨rfl, rfl⟩
      · rw [if_neg hc] at r4
        simp only [Option.map, Addr.add, if_neg (show ¬ (k + 2 = 0) by omega)] at r4
        go_wp2_with fail
        go_ret2
        exact ⟨rfl, rfl⟩

end Go.Proofs.Ytmlgpibjhegdeaa
