import Derived.Test.YtjfeggkjkdbkiaaProg
import Derived.Test.YtjfeggkjkdbkiaaOwn
import Derived.Test.YtjfeggkjkdbkiaaGf
import Derived.Below
import Derived.Deep.Draws
import Derived.OwnWalk
import Derived.Tactics
import Derived.WalkKit
import Derived.KernelRfl
import Derived.RowKit3
import Derived.Deep.LoopGhost
import Derived.Deep.QuietTactic
import Derived.BigQuiet
import Derived.WideLaws
import Derived.Deep.DeepCutAuto
import Derived.Deep.CutBlock
import Derived.StillTactics
import Derived.Laws.Rows
import Derived.Outline
import Derived.Lib.Hide
namespace Go.Proofs.Ytjfeggkjkdbkiaa
open Go.RowKit
set_option linter.unusedVariables false
set_option linter.unusedSimpArgs false


theorem band8_1 (x : BitVec 8) : Go.bits .and .u8 (n8 x) 1 = n8 (x &&& 1#8) := band8 x 1#8
theorem bit0_8 (x : BitVec 8) : (n8 (x &&& 1#8) == 1) = x.getLsbD 0 := by
  rw [BitVec.and_one_eq_setWidth_ofBool_getLsbD]
  cases x.getLsbD 0 <;> rfl
theorem bdiv2_8 (x : BitVec 8) : (n8 x / (2 : Int)) = n8 (x >>> 1) := by
  unfold n8; rw [BitVec.toNat_ushiftRight, Nat.shiftRight_eq_div_pow]; simp
theorem xtime_n (a : BitVec 8) : Go.bits .xor .u8 (n8 a * 2 % 256) (n8 a / 128 * 27 % 256) = n8 (xtime a) := by
  have h1 : n8 a * (2 : Int) % (256 : Int) = n8 (a <<< 1) := by
    unfold n8; rw [BitVec.toNat_shiftLeft, Nat.shiftLeft_eq]; simp
  have h2 : n8 a / (128 : Int) * (27 : Int) % (256 : Int) = n8 ((a >>> 7) * 27#8) := by
    unfold n8; rw [BitVec.toNat_mul, BitVec.toNat_ushiftRight, Nat.shiftRight_eq_div_pow]; simp
  rw [h1, h2, bxor8]; rfl
theorem gmulAux_b0 (n : Nat) (o a : BitVec 8) : gmulAux n o a 0#8 = o := by
  induction n generalizing o a with
  | zero => rfl
  | succ n ih => simp only [gmulAux]; simpa using ih o (xtime a)
theorem rotl8_n (a : BitVec 8) (n : Nat) (hn : n < 8) : Go.bits .or .u8 (n8 a * (2 : Int) ^ n % (256 : Int)) (n8 a / (2 : Int) ^ (8 - n)) = n8 (rotl8 a n) := by
  have h1 : n8 a * (2 : Int) ^ n % (256 : Int) = n8 (a <<< n) := by
    unfold n8; rw [BitVec.toNat_shiftLeft, Nat.shiftLeft_eq]; simp
  have h2 : n8 a / (2 : Int) ^ (8 - n) = n8 (a >>> (8 - n)) := by
    unfold n8; rw [BitVec.toNat_ushiftRight, Nat.shiftRight_eq_div_pow]; simp
  rw [h1, h2, bor8]; rfl
attribute [local go_sem] bxor8 band8_1 bit0_8

set_option maxHeartbeats 400000 in
theorem mul_calls (a b : BitVec 8) (w : World) :
    Calls Try.prog 95 #[.int .u8 (n8 a), .int .u8 (n8 b)] w fun e w' => e = .returned (.int .u8 (n8 (gmul a b))) ∧ w = w' := by
  go_enter Try.func95, Try.ntmps95
  go_wp2
  go_loop [0, 1, 5] (fun u v o => ∃ (k : Nat) (x y q : BitVec 8), k ≤ 8 ∧ y.toNat < 2 ^ k ∧ u = .int .u8 (n8 x) ∧ v = .int .u8 (n8 y) ∧ o = .int .u8 (n8 q) ∧ gmulAux k q x y = gmul a b) (fun _ v _ => (intOf v).toNat)
  case atStart => exact ⟨8, a, b, 0#8, by omega, b.isLt, rfl, rfl, rfl, rfl⟩
  case round =>
    obtain ⟨k, x, y, q, hk, hy, rfl, rfl, rfl, hr⟩ := hrel
    have Hr := Lib.hid hr
    clear hr
    by_cases h0 : y = 0#8
    · subst h0
      have e : n8 0#8 = 0 := rfl
      rw [e]
      go_wp2
      go_ret
      exact ⟨by rw [← Hr.out, gmulAux_b0]; rfl, rfl⟩
    · have hpos : 0 < n8 y := by
        have := n8_lo y
        have h2 : n8 y ≠ 0 := fun h => h0 (n8_inj.1 (h.trans (show (0 : Int) = n8 0#8 from rfl)))
        omega
      obtain ⟨k, rfl⟩ : ∃ m, k = m + 1 := ⟨k - 1, by
        cases k with
        | zero => exfalso; apply h0; apply BitVec.eq_of_toNat_eq; simp at hy; simpa using hy
        | succ k => simp⟩
      have hh : (y >>> 1).toNat < 2 ^ k := by
        rw [BitVec.toNat_ushiftRight, Nat.shiftRight_eq_div_pow]; simp at hy ⊢; omega
      have Hh := Lib.hid hh
      have Hk := Lib.hid hk
      have h0' : Hid (0 < n8 y) := Lib.hid hpos
      clear hh hk hy h0
      cases hb : y.getLsbD 0
      all_goals
        have hbb := bit0_8 y
        rw [hb] at hbb
        have Hb := Lib.hid hb
        clear hb
        go_wp2
        go_round
        case rel =>
          rw [xtime_n, bdiv2_8]
          refine ⟨k, xtime x, y >>> 1, _, by have := Hk.out; omega, Hh.out, rfl, rfl, rfl, ?_⟩
          rw [← Hr.out, gmulAux, Hb.out]; rfl
        case measure => have := h0'.out; simp only [intOf]; omega

set_option maxHeartbeats 400000 in
theorem inv_calls (a : BitVec 8) (w : World) :
    Calls Try.prog 93 #[.int .u8 (n8 a)] w fun e w' => e = .returned (.int .u8 (n8 (ginv a))) ∧ w = w' := by
  go_enter Try.func93, Try.ntmps93
  go_wp2
  go_loop [0, 3, 4] (fun u o i => ∃ (k : Nat) (x q : BitVec 8), k ≤ 7 ∧ i = .int .i64 k ∧ u = .int .u8 (n8 x) ∧ o = .int .u8 (n8 q) ∧ ginvAux (7 - k) q x = ginv a) (fun _ _ i => 7 - (intOf i).toNat)
  case atStart => exact ⟨0, a, 1#8, by omega, rfl, rfl, rfl, rfl⟩
  case round =>
    obtain ⟨k, x, q, hk, rfl, rfl, rfl, hr⟩ := hrel
    have Hr := Lib.hid hr
    clear hr
    by_cases hlt : k < 7
    · go_wp2_with fail
      refine (mul_calls _ _ _).mono ?_
      rintro e w' ⟨rfl, rfl⟩
      go_wp2_with fail
      refine (mul_calls _ _ _).mono ?_
      rintro e w' ⟨rfl, rfl⟩
      go_wp2
      go_round
      case rel =>
        refine ⟨k + 1, _, _, by omega, by go_num, rfl, rfl, ?_⟩
        rw [← Hr.out, show 7 - k = (7 - (k + 1)) + 1 by omega, ginvAux]
      case measure => simp only [intOf]; omega
    · have em : Hid (k = 7) := Lib.hid (by omega)
      go_wp2
      go_ret
      refine ⟨?_, rfl⟩
      rw [← Hr.out, em.out]; rfl

set_option maxHeartbeats 400000 in
theorem rot_calls (a : BitVec 8) (n : Nat) (hn : n < 8) (w : World) :
    Calls Try.prog 94 #[.int .u8 (n8 a), .int .i64 (n : Int)] w fun e w' => e = .returned (.int .u8 (n8 (rotl8 a n))) ∧ w = w' := by
  have h7 : Go.bits .and .u64 (n : Int) 7 = n := by
    have : n = 0 ∨ n = 1 ∨ n = 2 ∨ n = 3 ∨ n = 4 ∨ n = 5 ∨ n = 6 ∨ n = 7 := by omega
    rcases this with rfl | rfl | rfl | rfl | rfl | rfl | rfl | rfl <;> rfl
  go_enter Try.func94, Try.ntmps94
  go_wp2
  go_ret
  exact ⟨by rw [← rotl8_n a n hn]; rfl, rfl⟩

theorem inv_calls_v (a : BitVec 8) (v : Int) (hv : v = n8 a) (w : World) :
    Calls Try.prog 93 #[.int .u8 v] w fun e w' => e = .returned (.int .u8 (n8 (ginv a))) ∧ w = w' := by
  subst hv; exact inv_calls a w
theorem rot_calls_v (a : BitVec 8) (n : Nat) (v : Int) (hv : v = (n : Int)) (hn : n < 8) (w : World) :
    Calls Try.prog 94 #[.int .u8 (n8 a), .int .i64 v] w fun e w' => e = .returned (.int .u8 (n8 (rotl8 a n))) ∧ w = w' := by
  subst hv; exact rot_calls a n hn w
def sPart (c : BitVec 8) : Nat → BitVec 8
  | 0 => c ^^^ 99#8
  | n + 1 => sPart c n ^^^ rotl8 c (n + 1)
theorem bxor99 (c : BitVec 8) : Go.bits .xor .u8 (n8 c) 99 = n8 (c ^^^ 99#8) := bxor8 c 99#8

def A8 (n : Nat) (f : Nat → BitVec 8) : Array Value := ((List.range n).map fun i => Value.int .u8 (n8 (f i))).toArray
theorem A8_size (n : Nat) (f : Nat → BitVec 8) : (A8 n f).size = n := by simp [A8]
theorem A8_get (n : Nat) (f : Nat → BitVec 8) (i : Nat) (h : i < n) : (A8 n f)[i]? = some (.int .u8 (n8 (f i))) := by simp [A8, h]
theorem A8_congr {n : Nat} {f f' : Nat → BitVec 8} (h : ∀ j, j < n → f j = f' j) : A8 n f = A8 n f' := by
  unfold A8; congr 1
  exact List.map_congr_left fun i hi => by rw [h i (by simpa using hi)]
theorem A8_set (n : Nat) (f : Nat → BitVec 8) (i : Nat) (b : BitVec 8) : (A8 n f).setIfInBounds i (.int .u8 (n8 b)) = A8 n (fun j => if j = i then b else f j) := by
  apply Array.ext_getElem?
  intro j
  by_cases hj : j < n
  · rw [A8_get _ _ _ hj, Array.getElem?_setIfInBounds]
    by_cases e : i = j
    · subst e; simp [A8_size, hj]
    · simp [e, A8_get _ _ _ hj, Ne.symm e]
  · have h1 : (A8 n fun j => if j = i then b else f j)[j]? = none := by rw [Array.getElem?_eq_none]; rw [A8_size]; omega
    rw [h1, Array.getElem?_eq_none]; rw [Array.size_setIfInBounds, A8_size]; omega

theorem still_load_row {P : Program} {o : Oper} {a : Act} {w : World} {K : Act → Prop} (ty : TypeId) (x : Operand) (ho : o.op = .load ty x)
    (g : Nat) (hx : a.eval x = .pointer (some ⟨g, 0, none⟩)) (t : TypeId) (cs : Array Value) (fr : Nat × Nat) (d : TypeDesc) (hg : w.heap[g]? = some (.cells cs t fr))
    (hu : P.underlying ty = some d) (hd : (match d with | .struct _ | .array _ _ => true | _ => false) = true) (hi : (P.info? ty).map (·.size) = some cs.size)
    (h : K (a.put o.dst (.agg cs))) : o.still P a w K := by
  have hr := run_loadVar_row (P := P) w g _ _ cs fr d hg hu hd hi
  have he : (execOp a.eval o).run P w = .ok (.value (.agg cs)) w := by
    unfold execOp
    simp only [ho, hx, Instr.loadAt, Instr.sureAddr, Sem.run_bind, Sem.run_pure, Result.andThen_ok, hr]
  unfold Oper.still
  rw [he]
  exact ⟨rfl, h⟩
theorem setRow_same (w : World) (g : Nat) (cs : Array Value) (t : TypeId) (fr : Nat × Nat) (hg : w.heap[g]? = some (.cells cs t fr)) : w.setRow g cs = w := by
  have e : (w.setRow g cs).heap = w.heap := by
    apply Array.ext_getElem?
    intro i
    by_cases h : i = g
    · subst h; rw [setRow_heap w i cs cs t fr hg, hg]
    · exact setRow_other w g i cs h
  cases w
  simp only [World.setRow] at e ⊢
  rw [e]
theorem still_store_row {P : Program} {o : Oper} {a : Act} {w : World} {K : Act → Prop} (ty : TypeId) (x y : Operand) (ho : o.op = .store ty x y)
    (g : Nat) (cs : Array Value) (hx : a.eval x = .pointer (some ⟨g, 0, none⟩)) (hy : a.eval y = .agg cs) (t : TypeId) (hg : w.heap[g]? = some (.cells cs t (0, 0)))
    (hi : (P.info? ty).map (·.size) = some cs.size) (h1 : cs.all (·.oneCell') = true) (h : K (a.put o.dst undef)) : o.still P a w K := by
  have hr := run_storeVar_row (P := P) w g _ _ cs cs hg hi rfl h1
  rw [setRow_same w g cs t (0, 0) hg] at hr
  have he : (execOp a.eval o).run P w = .ok .skip w := by
    unfold execOp
    simp only [ho, hx, hy, Instr.storeAt, Instr.sureAddr, Sem.run_bind, Sem.run_pure, Result.andThen_ok, hr]
  unfold Oper.still
  rw [he]
  exact ⟨rfl, h⟩
theorem A8_one (n : Nat) (f : Nat → BitVec 8) : (A8 n f).all (·.oneCell') = true := by
  rw [Array.all_eq_true]
  intro i hi
  simp [A8]; rfl

theorem results_two_rows {P : Program} {fn : Func} {p q : Tmp} {ty : TypeId} (h : fn.results = #[.cell p ty, .cell q ty]) (tmps : Array Value) (w : World) (g1 g2 : Nat) (t1 t2 : TypeId) (d : TypeDesc) (c1 c2 : Array Value) (f1 f2 : Nat × Nat)
    (hp : tmps.getD p undef = .pointer (some ⟨g1, 0, none⟩)) (hq : tmps.getD q undef = .pointer (some ⟨g2, 0, none⟩)) (hg1 : w.heap[g1]? = some (.cells c1 t1 f1)) (hg2 : w.heap[g2]? = some (.cells c2 t2 f2))
    (hu : P.underlying ty = some d) (hd : (match d with | .struct _ | .array _ _ => true | _ => false) = true) (h1 : (P.info? ty).map (·.size) = some c1.size) (h2 : (P.info? ty).map (·.size) = some c2.size) :
    (results fn tmps).run P w = .ok (.tuple #[.agg c1, .agg c2]) w := by
  have hp' : tmps[p]?.getD undef = .pointer (some ⟨g1, 0, none⟩) := by simpa using hp
  have hq' : tmps[q]?.getD undef = .pointer (some ⟨g2, 0, none⟩) := by simpa using hq
  have r1 := run_loadVar_row (P := P) w g1 _ _ c1 f1 d hg1 hu hd h1
  have r2 := run_loadVar_row (P := P) w g2 _ _ c2 f2 d hg2 hu hd h2
  simp [results, h, hp', hq', asAddr, r1, r2]
theorem zero256 (w : World) : (zeroValue 103).run Try.prog w = .ok (.agg (A8 256 fun _ => 0#8)) w := by
  have h : (Try.prog.info? 103).map (·.zero) = some (some (.agg (A8 256 fun _ => 0#8))) := by kernel_rfl
  obtain ⟨i, hi, hz⟩ := Option.map_eq_some_iff.1 h
  simp [zeroValue, typeInfo, hi, hz]
theorem cells256 : (Try.prog.info? 103).map (·.size) = some 256 := by kernel_rfl

set_option maxHeartbeats 800000 in
set_option maxRecDepth 100000 in
theorem tables_calls (w : World) :
    Calls Try.prog 72 #[] w fun e w' => e = .returned (.tuple #[.agg (A8 256 fun i => sbox (BitVec.ofNat 8 i)), .agg (A8 256 fun i => ibox (BitVec.ofNat 8 i))]) ∧ Below w.heap.size w w' := by
  go_enter Try.func72, Try.ntmps72
  have hz := zero256
  go_wp2_with fail
  clear hz
  go_loopw [6] (fun i wr => ∃ k : Nat, k ≤ 256 ∧ i = .int .i64 k ∧ wr.heap[w.heap.size]? = some (.cells (A8 256 fun j => if j < k then sbox (BitVec.ofNat 8 j) else 0#8) 103 (0, 0))
    ∧ wr.heap[w.heap.size + 1]? = some (.cells (A8 256 fun j => if (ibox (BitVec.ofNat 8 j)).toNat < k then ibox (BitVec.ofNat 8 j) else 0#8) 103 (0, 0)) ∧ Below w.heap.size w wr) (fun i _ => 256 - (intOf i).toNat)
  case atStart => exact ⟨0, by omega, rfl, heap_alloc2_old _ _ _, heap_alloc2_new _ _ _, ((Below.refl _ _).alloc (Nat.le_refl _) _).alloc (by simp) _⟩
  case round =>
    obtain ⟨k, hk, rfl, G1, G2, hB⟩ := hrel
    have HG1 := Lib.hid G1
    have HG2 := Lib.hid G2
    have HB := Lib.hid hB
    by_cases hlt : k < 256
    · have hkv : (k : Int) = n8 (BitVec.ofNat 8 k) := by simp [n8]; omega
      have Hkv := Lib.hid hkv
      have hc1 := cell_of_row wr _ k _ _ _ G1
      rw [A8_get _ _ _ hlt] at hc1
      have hf1 := frozen_of_row wr _ k _ _ G1
      have Hc1 := Lib.hid hc1
      have Hf1 := Lib.hid hf1
      clear hkv G1 G2 hB hc1 hf1
      go_wp2_with fail
      refine (inv_calls_v (BitVec.ofNat 8 k) _ Hkv.out _).mono ?_
      rintro e w' ⟨rfl, rfl⟩
      generalize hc : ginv (BitVec.ofNat 8 k) = c
      have Hc := Lib.hid hc
      clear hc
      go_wp2_with fail
      go_loop [4, 5] (fun s i => ∃ m : Nat, m ≤ 4 ∧ i = .int .i64 ((m : Int) + 1) ∧ s = .int .u8 (n8 (sPart c m))) (fun _ i => 5 - (intOf i).toNat)
      case atStart => exact ⟨0, by omega, rfl, by rw [bxor99]; rfl⟩
      case round =>
        obtain ⟨m, hm, rfl, rfl⟩ := hrel
        by_cases hlt2 : m < 4
        · go_wp2_with fail
          refine (rot_calls_v _ (m + 1) _ (by simp) (by omega) _).mono ?_
          rintro e w' ⟨rfl, rfl⟩
          go_wp2
          go_round
          case rel => exact ⟨m + 1, by omega, by go_num, rfl⟩
          case measure => simp only [intOf]; omega
        · have em : Hid (m = 4) := Lib.hid (by omega)
          have hs : Hid (sPart c m = sbox (BitVec.ofNat 8 k)) := Lib.hid (by rw [em.out, ← sbox_is, Hc.out]; rfl)
          generalize sPart c m = s at hs
          have s0 := n8_lo s
          have s1 := n8_hi s
          have hc1 := Hc1.out
          have hf1 := Hf1.out
          have hc2 := cell_of_row wr _ (n8 s).toNat _ _ _ HG2.out
          rw [A8_get _ _ _ (by omega)] at hc2
          have hf2 := frozen_of_row wr _ (n8 s).toNat _ _ HG2.out
          go_wp2
          go_roundw
          case measure => simp only [intOf]; omega
          case rel =>
            have hB := HB.out
            refine ⟨k + 1, by omega, by go_num, ?_, ?_, (hB.setCell (by simp) _).setCell (by simp) _⟩
            · rw [heap_setCell_other _ _ _ _ (by simp), heap_setCell_same _ _ _ _ _ _ HG1.out, A8_set]
              congr 2
              refine A8_congr fun j hj => ?_
              by_cases e : j = k
              · subst e; rw [if_pos rfl, if_pos (by omega), hs.out]
              · rw [if_neg e]
                by_cases e2 : j < k
                · rw [if_pos e2, if_pos (by omega)]
                · rw [if_neg e2, if_neg (by omega)]
            · rw [Hkv.out, heap_setCell_same _ _ _ _ _ _ ((heap_setCell_other _ _ _ _ (by simp)).trans HG2.out), A8_set]
              congr 2
              refine A8_congr fun j hj => ?_
              have hk8 : (BitVec.ofNat 8 k).toNat = k := by simp; omega
              by_cases e : j = (n8 s).toNat
              · rw [if_pos e]
                have e2 : BitVec.ofNat 8 j = s := by rw [e]; unfold n8; simp
                rw [e2, hs.out, ibox_sbox, if_pos (by rw [hk8]; omega)]
              · rw [if_neg e]
                have e3 : (ibox (BitVec.ofNat 8 j)).toNat ≠ k := by
                  intro h
                  apply e
                  have h2 : ibox (BitVec.ofNat 8 j) = BitVec.ofNat 8 k := BitVec.eq_of_toNat_eq (by rw [h, hk8])
                  have h3 : BitVec.ofNat 8 j = s := by rw [hs.out, ← h2, sbox_ibox]
                  rw [← h3]; unfold n8; simp; omega
                by_cases e2 : (ibox (BitVec.ofNat 8 j)).toNat < k
                · rw [if_pos e2, if_pos (by omega)]
                · rw [if_neg e2, if_neg (by omega)]
    · have em : k = 256 := by omega
      have hA1 : (A8 256 fun j => if j < k then sbox (BitVec.ofNat 8 j) else 0#8) = A8 256 fun j => sbox (BitVec.ofNat 8 j) := A8_congr fun j hj => if_pos (by omega)
      have hA2 : (A8 256 fun j => if (ibox (BitVec.ofNat 8 j)).toNat < k then ibox (BitVec.ofNat 8 j) else 0#8) = A8 256 fun j => ibox (BitVec.ofNat 8 j) := A8_congr fun j hj => if_pos (by rw [em]; exact (ibox _).isLt)
      rw [hA1] at HG1
      rw [hA2] at HG2
      clear G1 G2 hB hA1 hA2
      have Em := Lib.hid em
      clear em
      generalize hT1 : (A8 256 fun j => sbox (BitVec.ofNat 8 j)) = T1 at HG1
      generalize hT2 : (A8 256 fun j => ibox (BitVec.ofNat 8 j)) = T2 at HG2
      have HT1 := Lib.hid hT1
      have HT2 := Lib.hid hT2
      clear hT1 hT2
      go_wp2_with fail
      have s1 : (Try.prog.info? 103).map (·.size) = some T1.size := by rw [← HT1.out, A8_size]; exact cells256
      have s2 : (Try.prog.info? 103).map (·.size) = some T2.size := by rw [← HT2.out, A8_size]; exact cells256
      refine wp_region_still_lit (by kernel_rfl) (by kernel_rfl) ?_
      refine wpStill_step fun K hK => still_load_row 103 _ rfl _ rfl _ T1 _ _ HG1.out Try.underlying103 rfl s1 ?_
      refine hK _ ?_
      clear hK K
      simp only [Act.put, List.setIfInBounds_toArray, List.set_cons_succ, List.set_cons_zero]
      refine wpStill_step fun K hK => still_load_row 103 _ rfl _ rfl _ T2 _ _ HG2.out Try.underlying103 rfl s2 ?_
      refine hK _ ?_
      clear hK K
      simp only [Act.put, List.setIfInBounds_toArray, List.set_cons_succ, List.set_cons_zero]
      refine wpStill_step fun K hK => still_store_row 103 _ _ rfl _ T1 rfl rfl _ HG1.out s1 (by rw [← HT1.out]; exact A8_one _ _) ?_
      refine hK _ ?_
      clear hK K
      simp only [Act.put, List.setIfInBounds_toArray, List.set_cons_succ, List.set_cons_zero]
      refine wpStill_step fun K hK => still_store_row 103 _ _ rfl _ T2 rfl rfl _ HG2.out s2 (by rw [← HT2.out]; exact A8_one _ _) ?_
      refine hK _ ?_
      clear hK K
      simp only [Act.put, List.setIfInBounds_toArray, List.set_cons_succ, List.set_cons_zero]
      refine wpStill_nil ?_
      go_wp2
      refine bodyPost_ret (v := .tuple #[.agg T1, .agg T2]) ?_ rfl ⟨by rw [HT1.out, HT2.out], HB.out.drew⟩
      exact results_two_rows rfl _ _ _ _ _ _ _ T1 T2 _ _ rfl rfl HG1.out HG2.out Try.underlying103 rfl s1 s2

end Go.Proofs.Ytjfeggkjkdbkiaa
