import Derived.Test.YtmlgpibjhegdeaaProg
import Derived.Test.YtmlgpibjhegdeaaOctLaws
import Derived.Test.YtmlgpibjhegdeaaOctPure
import Derived.Below
import Derived.Deep.Draws
import Derived.OwnWalk
import Derived.Tactics
import Derived.WalkKit
import Derived.KernelRfl
import Derived.RowKit3
import Derived.Deep.LoopGhost
import Derived.Deep.RegionHeld3
import Derived.Deep.QuietTactic
import Derived.BigQuiet
import Derived.WideLaws
import Derived.Deep.DeepCutAuto
import Derived.Deep.CutBlock
import Derived.Laws.Rows
import Derived.Outline
import Derived.Lib.Hide
namespace Go.Proofs.Ytmlgpibjhegdeaa
open Go.RowKit
set_option linter.unusedVariables false
set_option linter.unusedSimpArgs false




def NumRow (w : World) (a : Option Addr) (len : Nat) (Ni : Nat → Int) : Prop :=
  len = 0 ∨ ∃ b off, a = some ⟨b, off, none⟩ ∧ ∀ i, i < len → w.cell? ⟨b, off + i, none⟩ = some (.int .i64 (Ni i))
theorem NumRow.below {w w' : World} {a : Option Addr} {len : Nat} {Ni : Nat → Int} (h : NumRow w a len Ni) (hb : Below w.heap.size w w') : NumRow w' a len Ni := by
  rcases h with h | ⟨b, off, rfl, h⟩
  · exact .inl h
  · refine .inr ⟨b, off, rfl, fun i hi => ?_⟩
    have h1 := h i hi
    have hbl := hb.block b (lt_of_cell h1)
    rw [← h1]; simp only [World.cell?, hbl]
def StrRow (w : World) (a : Option Addr) (len : Nat) (Ts : Nat → List (BitVec 8)) : Prop :=
  len = 0 ∨ ∃ b off, a = some ⟨b, off, none⟩ ∧ ∀ i, i < len → w.cell? ⟨b, off + i, none⟩ = some (.string (sOf (Ts i)))
theorem StrRow.below {w w' : World} {a : Option Addr} {len : Nat} {Ts : Nat → List (BitVec 8)} (h : StrRow w a len Ts) (hb : Below w.heap.size w w') : StrRow w' a len Ts := by
  rcases h with h | ⟨b, off, rfl, h⟩
  · exact .inl h
  · refine .inr ⟨b, off, rfl, fun i hi => ?_⟩
    have h1 := h i hi
    have hbl := hb.block b (lt_of_cell h1)
    rw [← h1]; simp only [World.cell?, hbl]
def seg (Ni : Nat → Int) (l1 : Nat) (Ts : Nat → List (BitVec 8)) (i : Nat) : List (BitVec 8) :=
  encI (Ni i) ++ (if i < l1 ∧ (Ts i).length ≤ 200 then encT (Ts i) else [])
def segs (Ni : Nat → Int) (l1 : Nat) (Ts : Nat → List (BitVec 8)) (n k : Nat) : List (BitVec 8) := (List.range' n k).flatMap (seg Ni l1 Ts)
theorem seg_len (Ni : Nat → Int) (l1 : Nat) (Ts : Nat → List (BitVec 8)) (i : Nat) : (seg Ni l1 Ts i).length ≤ 210 := by
  unfold seg
  split <;> simp [encI_len, encT_len]; omega
theorem segs_snoc (Ni : Nat → Int) (l1 : Nat) (Ts : Nat → List (BitVec 8)) (n : Nat) : segs Ni l1 Ts 0 (n + 1) = segs Ni l1 Ts 0 n ++ seg Ni l1 Ts n := by
  unfold segs
  rw [List.range'_concat]; simp
theorem segs_cons (Ni : Nat → Int) (l1 : Nat) (Ts : Nat → List (BitVec 8)) (n k : Nat) : segs Ni l1 Ts n (k + 1) = seg Ni l1 Ts n ++ segs Ni l1 Ts (n + 1) k := by
  unfold segs
  rw [List.range'_succ]; simp
theorem segs_len (Ni : Nat → Int) (l1 : Nat) (Ts : Nat → List (BitVec 8)) (n : Nat) : (segs Ni l1 Ts 0 n).length ≤ 210 * n := by
  induction n with
  | zero => simp [segs]
  | succ n ih =>
    have := seg_len Ni l1 Ts n
    rw [segs_snoc, List.length_append]; omega

set_option maxHeartbeats 8000000 in
set_option maxRecDepth 100000 in
theorem law_OctetRound (a0 : Option Addr) (l0 c0 : Nat) (Ni : Nat → Int) (a1 : Option Addr) (l1 c1 : Nat) (Ts : Nat → List (BitVec 8)) (w : World) (h0 : l0 ≤ c0) (h0' : c0 ≤ 9223372036854775807) (h1 : l1 ≤ c1) (h1' : c1 ≤ 9223372036854775807)
    (hN : NumRow w a0 l0 Ni) (hR : ∀ i, i < l0 → -9223372036854775808 ≤ Ni i ∧ Ni i ≤ 9223372036854775807) (hT : StrRow w a1 l1 Ts) :
    Calls Try.prog 5 #[.slice a0 l0 c0, .slice a1 l1 c1] w fun e w' => e = .returned (.bool true) ∧ Below w.heap.size w w' := by
  have HN := Lib.hid hN
  have HR := Lib.hid hR
  have HT := Lib.hid hT
  clear hN hR hT
  go_enter Try.func5, Try.ntmps5
  go_wp2_with fail
  go_loopw [5, 6] (fun bv i wr => ∃ n : Nat, n ≤ l0 ∧ n ≤ 20 ∧ i = .int .i64 n ∧ Rd wr bv (B8 (segs Ni l1 Ts 0 n)) ∧ Below w.heap.size w wr) (fun _ i _ => 20 - (intOf i).toNat)
  case atStart => exact ⟨0, by omega, by omega, rfl, by exact Rd.new _ _ #[] 0 _ rfl rfl (by omega), (Below.refl _ _).alloc (Nat.le_refl _) _⟩
  case round =>
    obtain ⟨n, hn1, hn2, rfl, hb, B⟩ := hrel
    obtain ⟨wo, rfl⟩ : ∃ wo : World, wo = wr := ⟨_, rfl⟩
    have HB := Lib.hid B
    have N2 := HN.out.below B
    have T2 := HT.out.below B
    have hws := B.size
    clear B
    have Hsl := Lib.hid (segs_len Ni l1 Ts n)
    by_cases hlt : n < l0 ∧ n < 20
    · obtain ⟨hlt1, hlt2⟩ := hlt
      rcases N2 with q | ⟨nb, noff, rfl, q⟩
      · omega
      have q0 := q n hlt1
      clear q
      have Hb := Lib.hid hb
      clear hb
      go_wp2_with fail
      refine (oint_calls (segs Ni l1 Ts 0 n) (Ni n) _ _ Hb.out (by have := Hsl.out; omega)).mono ?_
      rintro e w3 ⟨v3, rfl, o3, b3⟩
      have R3 := Lib.hid o3.rd
      have HB3 := Lib.hid (HB.out.trans (b3.mono HB.out.size))
      have T3 := T2.below b3
      clear o3 b3 HB q0 T2 Hb
      by_cases ht : n < l1
      · rcases T3 with q | ⟨tb, toff, rfl, q⟩
        · omega
        have q1 := q n ht
        clear q
        have hz := sOf_size (Ts n)
        by_cases hs : (Ts n).length ≤ 200
        · have hse : Hid (seg Ni l1 Ts n = encI (Ni n) ++ encT (Ts n)) := Lib.hid (by unfold seg; rw [if_pos ⟨ht, hs⟩])
          have hs2 : (sOf (Ts n)).size ≤ 200 := by omega
          go_wp2_with fail
          refine (otext_calls (segs Ni l1 Ts 0 n ++ encI (Ni n)) (Ts n) _ _ R3.out (by have := Hsl.out; simp [encI_len]; omega) (by omega)).mono ?_
          rintro e w4 ⟨v4, rfl, r4, b4⟩
          have HB4 := Lib.hid (HB3.out.trans (b4.mono HB3.out.size))
          have R4 := Lib.hid r4
          clear b4 r4 q1 hz hs2 R3 HB3
          go_wp2_with fail
          go_roundw
          case rel => exact ⟨n + 1, by omega, by omega, by go_num, by rw [segs_snoc, hse.out, ← List.append_assoc]; exact R4.out, HB4.out⟩
          case measure => simp only [intOf]; omega
        · have hse : Hid (seg Ni l1 Ts n = encI (Ni n) ++ []) := Lib.hid (by unfold seg; rw [if_neg (fun h => hs h.2)])
          have hs2 : ¬ (sOf (Ts n)).size ≤ 200 := by omega
          go_wp2_with fail
          go_roundw
          case rel => exact ⟨n + 1, by omega, by omega, by go_num, by rw [segs_snoc, hse.out, List.append_nil]; exact R3.out, HB3.out⟩
          case measure => simp only [intOf]; omega
      · have hse : Hid (seg Ni l1 Ts n = encI (Ni n) ++ []) := Lib.hid (by unfold seg; rw [if_neg (fun h => ht h.1)])
        clear T3
        have ht2 : ¬ ((n : Int) < l1) := by omega
        go_wp2_with fail
        go_roundw
        case rel => exact ⟨n + 1, by omega, by omega, by go_num, by rw [segs_snoc, hse.out, List.append_nil]; exact R3.out, HB3.out⟩
        case measure => simp only [intOf]; omega
    · obtain ⟨m, hm⟩ : ∃ m, m = n := ⟨_, rfl⟩
      have hmin : Hid (m ≤ l0 ∧ m ≤ 20 ∧ ¬ (m < l0 ∧ m < 20)) := Lib.hid (by omega)
      clear N2 T2
      have Hb := Lib.hid hb
      clear hb hlt
      subst hm
      go_upto_region 3 with fail
      go_cut [19] (fun s wx => s = .bool false ∧ wx = wo)
      case first =>
        by_cases hl : (m : Int) < l0
        · have hmm : ¬ (m : Int) < 20 := by have := hmin.out; omega
          go_wp2_with fail
          go_meet
          exact ⟨rfl, rfl⟩
        · go_wp2_with fail
          go_meet
          exact ⟨rfl, rfl⟩
      case rest =>
        obtain ⟨rfl, rfl⟩ := hcut
        go_wp2_with fail
        refine (onew_calls (segs Ni l1 Ts 0 m) _ _ Hb.out (by have := Hsl.out; omega)).mono ?_
        rintro e w4 ⟨g, rfl, s4, hg, b4⟩
        have HB4 := Lib.hid (HB.out.trans (b4.mono HB.out.size))
        have HS4 := Lib.hid s4
        clear b4 s4 HB Hsl Hb
        go_wp2_with fail
        go_loopw [10] (fun i wr => ∃ n : Nat, n ≤ m ∧ i = .int .i64 n ∧ RdS wr g (some (segs Ni l1 Ts n (m - n))) ∧ Below w.heap.size w wr) (fun i _ => 20 - (intOf i).toNat)
        case atStart => exact ⟨0, by omega, rfl, HS4.out, HB4.out⟩
        case round =>
          obtain ⟨n, hn1, rfl, S, B⟩ := hrel
          obtain ⟨wp, rfl⟩ : ∃ wp : World, wp = wr := ⟨_, rfl⟩
          have HBP := Lib.hid B
          have N2 := HN.out.below B
          have T2 := HT.out.below B
          have hws2 := B.size
          have S2 := Lib.hid S
          clear B HS4 HB4 S
          by_cases hlt : n < m
          · have hn20 : (n : Int) < 20 := by omega
            have hnl : (n : Int) < l0 := by omega
            clear hn1 hn2
            clear N2
            rcases HN.out with q | ⟨nb, noff, rfl, q⟩
            · omega
            have qw := q n (by omega)
            have hnb : nb < w.heap.size := lt_of_cell qw
            have q0 : wp.cell? ⟨nb, noff + n, none⟩ = some (.int .i64 (Ni n)) := by
              rw [← qw]; simp only [World.cell?, HBP.out.block nb hnb]
            clear qw
            have hr := HR.out n (by omega)
            have hrest : Hid (segs Ni l1 Ts n (m - n) = seg Ni l1 Ts n ++ segs Ni l1 Ts (n + 1) (m - (n + 1))) := Lib.hid (by
              rw [show m - n = (m - (n + 1)) + 1 by omega, segs_cons])
            clear q
            obtain ⟨X, hX⟩ : ∃ X, X = (if n < l1 ∧ (Ts n).length ≤ 200 then encT (Ts n) else []) := ⟨_, rfl⟩
            obtain ⟨rest, hrs⟩ : ∃ rest, rest = segs Ni l1 Ts (n + 1) (m - (n + 1)) := ⟨_, rfl⟩
            have hz : segs Ni l1 Ts n (m - n) = encI (Ni n) ++ (X ++ rest) := by
              rw [hrest.out, ← hrs]; unfold seg; rw [← hX, List.append_assoc]
            obtain ⟨e1, e2⟩ := rd_int (Ni n) (X ++ rest) hr.1 hr.2
            have E1 := Lib.hid e1
            have E2 := Lib.hid e2
            have HX := Lib.hid hX
            have HRS := Lib.hid hrs
            have S3 : Hid (RdS wp g (some (encI (Ni n) ++ (X ++ rest)))) := Lib.hid (by rw [← hz]; exact S2.out)
            clear e1 e2 hX hrs hz S2 hrest hr
            go_upto_region 15 with fail
            go_cut [70] (fun s wx => s = .bool false ∧ RdS wx g (some (X ++ rest)) ∧ Below w.heap.size w wx)
            case first =>
              have S4 : RdS wp.drew g (some (encI (Ni n) ++ (X ++ rest))) := S3.out.below ((Below.refl _ _).drew)
              have qD : wp.drew.cell? ⟨nb, noff + n, none⟩ = some (.int .i64 (Ni n)) := q0
              have BD := Lib.hid HBP.out.drew
              have hlt0 := hlt
              clear q0 hlt
              go_region_held3 (fun w' => w'.cell? ⟨nb, noff + n, none⟩ = some (.int .i64 (Ni n)) ∧ Below w.heap.size w w')
                (first | exact ⟨q5, B5.out⟩ | exact ⟨qD, BD.out⟩)
                (first | (go_at_call 23; refine (rint_calls g _ _ S4).mono ?_; rintro e w5 ⟨rfl, s5, o5⟩; rw [E1.out]; rw [E2.out] at s5; have q5 : w5.cell? ⟨nb, noff + n, none⟩ = some (.int .i64 (Ni n)) := (by have hsame := o5.same nb (by intro hc; omega); rw [← qD]; simp only [World.cell?, hsame]); have B5 := Lib.hid (o5.below _ _ BD.out (by omega))))
              all_goals
                go_wp2_with fail
                go_meet
                exact ⟨rfl, s5, B5.out⟩
            case rest =>
              obtain ⟨rfl, S5, B5⟩ := hcut
              have HS5 := Lib.hid S5
              have HB5 := Lib.hid B5
              have T5 := HT.out.below B5
              have hws5 := B5.size
              clear S5 B5 T2 E1 E2 S3 HBP q0 hnb
              by_cases ht : n < l1
              · clear T5
                rcases HT.out with q | ⟨tb, toff, rfl, q⟩
                · omega
                have qw := q n ht
                have htb : tb < w.heap.size := lt_of_cell qw
                have q1 : wc.cell? ⟨tb, toff + n, none⟩ = some (.string (sOf (Ts n))) := by
                  rw [← qw]; simp only [World.cell?, HB5.out.block tb htb]
                clear qw q
                have hz := sOf_size (Ts n)
                by_cases hs : (Ts n).length ≤ 200
                · have hX : X = encT (Ts n) := by rw [HX.out, if_pos ⟨ht, hs⟩]
                  have hs2 : (sOf (Ts n)).size ≤ 200 := by omega
                  have hs3 : ((Ts n).length : Int) ≤ 200 := by omega
                  have ht3 : (n : Int) < l1 := by omega
                  obtain ⟨e1, e2⟩ := rd_text (Ts n) rest (Ts n).length (by omega) (Int.le_refl _)
                  have E1 := Lib.hid e1
                  have E2 := Lib.hid e2
                  have S6 : Hid (RdS wc g (some (encT (Ts n) ++ rest))) := Lib.hid (by rw [← hX]; exact HS5.out)
                  clear hX HX HS5 e1 e2
                  go_upto_region 17 with fail
                  go_cut [96] (fun s wx => s = .bool false ∧ RdS wx g (some rest) ∧ Below w.heap.size w wx)
                  case first =>
                    have S7 : RdS wc.drew g (some (encT (Ts n) ++ rest)) := S6.out.below ((Below.refl _ _).drew)
                    have qD : wc.drew.cell? ⟨tb, toff + n, none⟩ = some (.string (sOf (Ts n))) := q1
                    have BD := Lib.hid HB5.out.drew
                    clear q1
                    go_region_held3 (fun w' => w'.cell? ⟨tb, toff + n, none⟩ = some (.string (sOf (Ts n))) ∧ Below w.heap.size w w')
                      (first | exact ⟨q5, B5.out⟩ | exact ⟨qD, BD.out⟩)
                      (first | (go_at_call 25; refine (rtext_calls g _ (Ts n).length _ S7).mono ?_; rintro e w5 ⟨rfl, s5, o5⟩; rw [E1.out]; rw [E2.out] at s5; have q5 : w5.cell? ⟨tb, toff + n, none⟩ = some (.string (sOf (Ts n))) := (by have hsame := o5.same tb (by intro hc; omega); rw [← qD]; simp only [World.cell?, hsame]); have B5 := Lib.hid (o5.below _ _ BD.out (by omega))))
                    all_goals
                      go_wp2_with fail
                      go_meet
                      exact ⟨rfl, s5, B5.out⟩
                  case rest =>
                    obtain ⟨rfl, S8, B8'⟩ := hcut
                    have HS8 := Lib.hid S8
                    have HB8 := Lib.hid B8'
                    clear S8 B8'
                    go_wp2_with fail
                    go_roundw
                    case rel => exact ⟨n + 1, by omega, by go_num, by rw [← HRS.out]; exact HS8.out, HB8.out⟩
                    case measure => simp only [intOf]; omega
                · have hX : X = [] := by rw [HX.out, if_neg (fun h => hs h.2)]
                  have hs2 : ¬ (sOf (Ts n)).size ≤ 200 := by omega
                  have hs3 : ¬ ((Ts n).length : Int) ≤ 200 := by omega
                  have ht3 : (n : Int) < l1 := by omega
                  have S6 : Hid (RdS wc g (some (segs Ni l1 Ts (n + 1) (m - (n + 1))))) := Lib.hid (by have := HS5.out; rw [hX, HRS.out] at this; exact this)
                  clear hX HX HS5
                  go_upto_region 17 with fail
                  go_cut [96] (fun s wx => s = .bool false ∧ wx = wc.drew)
                  case first =>
                    go_region
                    all_goals
                      go_wp2_with fail
                      go_meet
                      exact ⟨rfl, rfl⟩
                  case rest =>
                    obtain ⟨rfl, rfl⟩ := hcut
                    have HS8 := Lib.hid (S6.out.below ((Below.refl _ _).drew))
                    have HB8 := Lib.hid HB5.out.drew
                    go_wp2_with fail
                    go_roundw
                    case rel => exact ⟨n + 1, by omega, by go_num, HS8.out, HB8.out⟩
                    case measure => simp only [intOf]; omega
              · have hX : X = [] := by rw [HX.out, if_neg (fun h => ht h.1)]
                have S6 : Hid (RdS wc g (some (segs Ni l1 Ts (n + 1) (m - (n + 1))))) := Lib.hid (by have := HS5.out; rw [hX, HRS.out] at this; exact this)
                have ht2 : ¬ ((n : Int) < l1) := by omega
                clear T5 hX HX HS5
                go_upto_region 17 with fail
                go_cut [96] (fun s wx => s = .bool false ∧ wx = wc.drew)
                case first =>
                  go_region
                  all_goals
                    go_wp2_with fail
                    go_meet
                    exact ⟨rfl, rfl⟩
                case rest =>
                  obtain ⟨rfl, rfl⟩ := hcut
                  have HS8 := Lib.hid (S6.out.below ((Below.refl _ _).drew))
                  have HB8 := Lib.hid HB5.out.drew
                  go_wp2_with fail
                  go_roundw
                  case rel => exact ⟨n + 1, by omega, by go_num, HS8.out, HB8.out⟩
                  case measure => simp only [intOf]; omega
          · clear N2 T2
            have hnl : ¬ ((n : Int) < l0 ∧ (n : Int) < 20) := by have := hmin.out; omega
            have hrest : Hid (segs Ni l1 Ts n (m - n) = []) := Lib.hid (by rw [show m - n = 0 by omega]; rfl)
            have HS2 := Lib.hid (show RdS wp g (some []) by have := S2.out; rw [hrest.out] at this; exact this)
            clear S2 hrest
            by_cases hl3 : n < l0
            · have hl4 : ¬ ((n : Int) < 20) := by omega
              clear hnl
              go_wp2_with fail
              refine (awake01_calls _).mono ?_
              rintro e w5 ⟨rfl, b5⟩
              have S5 := HS2.out.below b5
              have HB5 := Lib.hid (HBP.out.trans (b5.mono HBP.out.size))
              clear b5 HS2
              go_wp2_with fail
              refine (rend_calls g _ _ S5).mono ?_
              rintro e w' ⟨rfl, rfl⟩
              rw [show rEnd (some []) = true from rfl]
              go_wp2_with fail
              refine (rleft_calls g _ _ S5).mono ?_
              rintro e w' ⟨rfl, rfl⟩
              rw [show rLeft (some []) = 0 from rfl]
              go_wp2
              go_ret
              exact ⟨rfl, HB5.out⟩
            · clear hnl
              go_wp2_with fail
              refine (awake01_calls _).mono ?_
              rintro e w5 ⟨rfl, b5⟩
              have S5 := HS2.out.below b5
              have HB5 := Lib.hid (HBP.out.trans (b5.mono HBP.out.size))
              clear b5 HS2
              go_wp2_with fail
              refine (rend_calls g _ _ S5).mono ?_
              rintro e w' ⟨rfl, rfl⟩
              rw [show rEnd (some []) = true from rfl]
              go_wp2_with fail
              refine (rleft_calls g _ _ S5).mono ?_
              rintro e w' ⟨rfl, rfl⟩
              rw [show rLeft (some []) = 0 from rfl]
              go_wp2
              go_ret
              exact ⟨rfl, HB5.out⟩

end Go.Proofs.Ytmlgpibjhegdeaa
