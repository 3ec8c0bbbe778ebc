import Derived.Test.YtmbnclpgldglnaaMac0
import Derived.Test.YtmbnclpgldglnaaMac1
namespace Go.Proofs.Ytmbnclpgldglnaa
open Go.RowKit
set_option linter.unusedVariables false
set_option linter.unusedSimpArgs false
set_option maxRecDepth 20000
attribute [local go_sem] Oper.semAt_some
/-! the code of parts, under a key -/
def macI (k b : List UInt8) : List UInt8 := shaB (mixK k 0x36 ++ b)
def macB (k b : List UInt8) : List UInt8 := shaB (mixK k 0x5c ++ macI k b)
theorem macI_len (k b : List UInt8) : (macI k b).length = 32 := shaB_len _
theorem macB_len (k b : List UInt8) : (macB k b).length = 32 := shaB_len _
theorem args_1 {K : Kd} {x : AV} {v : Value} (h : KRep K x v) : ArgsR K [x] #[v] := ⟨rfl, fun i y u h1 h2 => by
  match i with
  | 0 => simp at h1 h2; subst h1 h2; exact h
  | i + 1 => simp at h1⟩
theorem args_2 {K : Kd} {x y : AV} {u v : Value} (h : KRep K x u) (k : KRep K y v) : ArgsR K [x, y] #[u, v] := ⟨rfl, fun i z q h1 h2 => by
  match i with
  | 0 => simp at h1 h2; subst h1 h2; exact h
  | 1 => simp at h1 h2; subst h1 h2; exact k
  | i + 2 => simp at h1⟩
theorem kagg_inv {K : Kd} {cs : List AV} {v : Value} (h : KRep K (.agg cs) v) : ∃ vs : Array Value, v = .agg vs ∧ vs.size = cs.length ∧ (∀ (i : Nat) (u : Value), vs[i]? = some u → u.oneCell' = true) ∧ ∀ (i : Nat) (x : AV) (u : Value), cs[i]? = some x → vs[i]? = some u → KRep K x u := by
  cases h with
  | agg cells vs hl h1 h => exact ⟨vs, rfl, hl, h1, h⟩
/-- what has been put down is known from now on -/
theorem ins_known {K : Kd} {w w11 : World} {V : Value} {b B : Nat} {cs : List AV} {xs r : List Value} {cap n : Nat} (hK : KOk K w) (hb : K.hw b = 0) (h1 : w11.heap[B]? = some (.cells (xs ++ r).toArray 22 (0, 0))) (hB : B = b ∨ w.heap.size + 1 ≤ B) (hkp : (Base.but (w.alloc (.cells #[V] 22)) b).Kp w11)
    (hV : V = V) (hl : cs.length = n + 1) (hx : xs.length = n + 1) (h1x : ∀ x ∈ xs, x.oneCell' = true) (hc1 : n + 1 ≤ cap) (hc2 : cap ≤ maxLen) (hrep : ∀ (i : Nat) (x : AV) (u : Value), cs[i]? = some x → xs[i]? = some u → KRep K x u) :
    ∃ K11, KOk K11 w11 ∧ K.le K11 ∧ (∀ x, x < w.heap.size → x ≠ b → K11.hw x = K.hw x) ∧ (∀ δ d g, K11.rw δ d g = K.rw δ d g) ∧ KRep K11 (.sl false (n + 1) cs) (.slice (some ⟨B, 0, none⟩) (n + 1) cap) := by
  have hB0 : K.hw B = 0 := by
    rcases hB with rfl | hB
    · exact hb
    · exact hK.hw0 (by omega)
  have hK2 : KOk K w11 := hK.below fun b2 h2 => by
    have hlt : b2 < w.heap.size := by
      by_cases q : b2 < w.heap.size
      · exact q
      · exact absurd (hK.hw0 (by omega)) h2
    exact (hkp.block b2 ⟨by show b2 < (w.alloc _).heap.size; simp; omega, fun e => h2 (by rw [e]; exact hb)⟩).trans (Below.heap_alloc w _ b2 hlt)
  have hle : K.le (K.ext B (n + 1) xs) := Kd.ext_le (by omega) fun i hi => by omega
  have hcell : ∀ i, i < n + 1 → w11.cell? ⟨B, i, none⟩ = some (xs.getD i undef) := fun i hi => by
    rw [cell_of_row w11 B i _ _ _ h1]
    simp [List.getElem?_append_left (show i < xs.length by omega), List.getD_eq_getElem?_getD, show i < xs.length by omega]
  refine ⟨K.ext B (n + 1) xs, hK2.ext (by omega) h1x hcell, hle, fun x h2 h3 => ?_, fun _ _ _ => rfl, .sl _ _ _ _ _ _ hc1 hc2 (fun q => by cases q) ⟨?_, fun i hi => ?_⟩ fun i x hxi => ?_⟩
  · show (if x = B then n + 1 else K.hw x) = K.hw x
    rw [if_neg (by rcases hB with rfl | hB <;> omega)]
  · show 0 + cs.length ≤ (if B = B then n + 1 else K.hw B)
    rw [if_pos rfl]; omega
  · show (if B = B then xs.getD (0 + i) undef else K.val B (0 + i)).oneCell' = true
    rw [if_pos rfl, Nat.zero_add]
    have hi' : i < xs.length := by omega
    rw [List.getD_eq_getElem?_getD, List.getElem?_eq_getElem hi', Option.getD_some]
    exact h1x _ (List.getElem_mem hi')
  · have hi' : i < xs.length := by have := getq_lt hxi; omega
    have e : (K.ext B (n + 1) xs).val B (0 + i) = xs[i] := by
      show (if B = B then xs.getD (0 + i) undef else K.val B (0 + i)) = xs[i]
      rw [if_pos rfl, Nat.zero_add, List.getD_eq_getElem?_getD, List.getElem?_eq_getElem hi', Option.getD_some]
    rw [e]
    exact (hrep i x _ hxi (List.getElem?_eq_getElem hi')).mono hle
theorem arr_known {K : Kd} {w w' : World} {b n : Nat} {t : TypeId} {cs : List AV} {vs : Array Value} (hK : KOk K w) (h1 : w'.heap[b]? = some (.cells vs t (0, 0))) (hb : w.heap.size ≤ b) (hs : vs.size = n) (one : ∀ (i : Nat) (u : Value), vs[i]? = some u → u.oneCell' = true) (hbel : Below w.heap.size w w') (hl : cs.length = n)
    (hrep : ∀ (i : Nat) (x : AV) (u : Value), cs[i]? = some x → vs[i]? = some u → KRep K x u) :
    ∃ K', KOk K' w' ∧ K.le K' ∧ (∀ x, x ≠ b → K'.hw x = K.hw x) ∧ (∀ δ d g, K'.rw δ d g = K.rw δ d g) ∧ KRep K' (.cp cs) (.pointer (some ⟨b, 0, none⟩)) := by
  have hB0 : K.hw b = 0 := hK.hw0 hb
  have hK2 : KOk K w' := hK.after hbel
  have hle : K.le (K.ext b n vs.toList) := Kd.ext_le (by omega) fun i hi => by omega
  have one' : ∀ x ∈ vs.toList, x.oneCell' = true := fun x hx => by
    obtain ⟨j, hj⟩ := List.getElem?_of_mem hx
    rw [Array.getElem?_toList] at hj
    exact one j x hj
  have hcell : ∀ i, i < n → w'.cell? ⟨b, i, none⟩ = some (vs.toList.getD i undef) := fun i hi => by
    rw [cell_of_row w' b i _ _ _ h1]
    simp [List.getD_eq_getElem?_getD, show i < vs.size by omega]
  have hval : ∀ i, (hi : i < vs.size) → (K.ext b n vs.toList).val b (0 + i) = vs[i] := fun i hi => by
    show (if b = b then vs.toList.getD (0 + i) undef else K.val b (0 + i)) = vs[i]
    rw [if_pos rfl, Nat.zero_add, List.getD_eq_getElem?_getD]
    simp [hi]
  refine ⟨K.ext b n vs.toList, hK2.ext (by simp; omega) one' hcell, hle, fun x h3 => ?_, fun _ _ _ => rfl, .cp _ _ _ ⟨?_, fun i hi => ?_⟩ fun i x hxi => ?_⟩
  · show (if x = b then n else K.hw x) = K.hw x
    rw [if_neg h3]
  · show 0 + cs.length ≤ (if b = b then n else K.hw b)
    rw [if_pos rfl]; omega
  · have hi' : i < vs.size := by omega
    rw [hval i hi']
    exact one i _ (Array.getElem?_eq_getElem hi')
  · have hi' : i < vs.size := by have := getq_lt hxi; omega
    rw [hval i hi']
    exact (hrep i x _ hxi (Array.getElem?_eq_getElem hi')).mono hle
theorem initM_18 {k : Nat} {cs : List AV} {md : Md} {x y : AV} : initM [.k x, .k .any, .k .any, .k .any, .ob 0, .k y, .k .any, .k .any, .k .any, .k .any, .k .any, .k .any, .k .any, .k .any, .k .any, .k .any, .k .any, .k .any] k cs md = ⟨upd (upd (upd (fun _ => .k .any) 0 (.k x)) 4 (.ob k 0 0)) 5 (.k y), upd (fun _ => none) k (some (0, .obj cs)), 1, md⟩ := by
  show (⟨_, _, _, _⟩ : St) = _
  congr 1
  funext t
  match t with
  | 0 | 1 | 2 | 3 | 4 | 5 | 6 | 7 | 8 | 9 | 10 | 11 | 12 | 13 | 14 | 15 | 16 | 17 => rfl
  | t + 18 => rfl
set_option maxHeartbeats 16000000 in
theorem macOf_spec (fk fp : Bool) (k : List UInt8) (hk : k.length ≤ 100000) (ps : List (Bool × List UInt8)) (h0 : 0 < ps.length) (hN : ps.length ≤ 1000) (hb : (ps.flatMap (·.2)).length ≤ 100000) :
    Spec Try.prog 30 [.sl fk k.length (aOfBytes k), .sl fp ps.length (pCells (ps.map pB))] (.k (.agg (aOfBytes (macB k (ps.flatMap (·.2)))))) := by
  have smix := fun full x => mixed_spec full k (by omega) x
  have sof := of_spec false ((false, mixK k 0x36) :: ps) (by rw [List.flatMap_cons, List.length_append, mixK_len]; omega) (by simp; omega)
  have hml := mixK_len k 0x36
  have hma := aOfBytes_len (mixK k 0x36)
  simp only [List.map_cons, pCells, pB, Part.av, List.flatMap_cons, List.length_cons, hma, hml] at sof
  have ecs : List.map Part.av (List.map pB ps) = pCells (ps.map pB) := rfl
  have hcl : (pCells (ps.map pB)).length = ps.length := by simp [pCells]
  generalize hcs : pCells (ps.map pB) = cs at *
  refine ⟨⟨_, Try.func30, rfl, rfl⟩, fun K w vs hK ha => ?_⟩
  obtain ⟨u, v, rfl, g0, g1⟩ := args2 ha
  obtain ⟨R, hR⟩ : ∃ R : Ending → World → Prop, R = (fun x w' => ∃ v K', x = .returned v ∧ Below w.heap.size w w' ∧ K.le K' ∧ KOk K' w' ∧ (∀ b, b < w.heap.size → K'.hw b = K.hw b) ∧ (∀ δ, δ < K.dp → ∀ d g, K'.rw δ d g = K.rw δ d g) ∧ RRep Try.prog K' w.heap.size w' (.k (.agg (aOfBytes (macB k (ps.flatMap (·.2)))))) v) := ⟨_, rfl⟩
  have HRR := Lib.hid hR
  suffices main : Calls Try.prog 30 #[u, v] w R by rw [hR] at main; exact main
  clear hR
  refine callsIn_wide.1 (callsIn_of_wp_marks (n := 5) Try.func30 rfl trivial (wpIn_wide.2 ?_))
  simp only [Try.ntmps30, List.size_toArray, List.length_cons, List.length_nil, Nat.reduceAdd, Nat.reduceSub, Array.replicate_succ, Array.replicate_zero, List.push_toArray, List.append_toArray, List.nil_append, List.cons_append]
  rw [ecs] at sof
  go_upto_region 1 with fail
  obtain ⟨arr4, harr4⟩ : ∃ a : Array Value, a = (List.replicate 32 (Value.int .u8 0)).toArray := ⟨_, rfl⟩
  obtain ⟨w1, hw1⟩ : ∃ w1, w1 = w.alloc (.cells arr4 37) := ⟨_, rfl⟩
  have hbel1 : Below w.heap.size w w1 := by rw [hw1]; exact (Below.refl _ _).alloc (Nat.le_refl _) _
  have hs1 : w1.heap.size = w.heap.size + 1 := by rw [hw1]; simp
  have hg1 : w1.heap[w.heap.size]? = some (.cells arr4 37 (0, 0)) := by rw [hw1]; exact heap_alloc_new w _
  have hK1 : KOk K w1 := hK.after hbel1
  rw [show (#[Value.int .u8 0, Value.int .u8 0, Value.int .u8 0, Value.int .u8 0, Value.int .u8 0, Value.int .u8 0, Value.int .u8 0, Value.int .u8 0, Value.int .u8 0, Value.int .u8 0, Value.int .u8 0, Value.int .u8 0, Value.int .u8 0, Value.int .u8 0, Value.int .u8 0, Value.int .u8 0, Value.int .u8 0, Value.int .u8 0, Value.int .u8 0, Value.int .u8 0, Value.int .u8 0, Value.int .u8 0, Value.int .u8 0, Value.int .u8 0, Value.int .u8 0, Value.int .u8 0, Value.int .u8 0, Value.int .u8 0, Value.int .u8 0, Value.int .u8 0, Value.int .u8 0, Value.int .u8 0] : Array Value) = arr4 by rw [harr4]; rfl, ← hw1]
  have HE := Lib.hid harr4
  have HW1 := Lib.hid hw1
  have hcl' := Lib.hid hcl
  clear harr4 hw1 ecs hcs hml hma hcl
  go_upto_region 2 with (first
    | (go_at_call 63; refine (clone_calls hK1 g1 h0 (by omega) hcl'.out).mono ?_; rintro e w7 ⟨B7, cap7, arr7, xs7, rfl, q1, q2, q3, q4, q5, q6, q7, bel7, q8, q9⟩; have hK7 := hK1.after bel7)
    | (go_at_call 64; refine ((smix fk 0x36).2 K _ _ hK7 (args_2 g0 (.int _ _))).mono ?_; rintro e w9 ⟨v9, K9, rfl, bel9, le9, hK9, hw9, rw9, r9⟩; obtain ⟨a9, c9, rfl, c91, c92, _, c93⟩ := ksl_inv r9)
    | (go_at_call 62
       have l7 : B7 < w7.heap.size := (Array.getElem?_eq_some_iff.1 q2).1
       refine (insert_calls B7 ps.length cap7 w9.heap.size 1 arr7 #[.slice a9 64 c9] xs7 (.slice a9 64 c9) _ h0 (by omega) q4 q5 (by have := bel9.size; omega) ((Below.heap_alloc w9 _ B7 (Nat.lt_of_lt_of_le l7 bel9.size)).trans ((bel9.block B7 l7).trans q2)) q3 q6 (heap_alloc_new w9 _) rfl q8 rfl).mono ?_
       rintro e w11 ⟨B11, cap11, r11, rfl, p1, p2, p3, p4, p5⟩
       obtain ⟨K11, hK11, le11, hw11, rw11, rk11⟩ := ins_known hK9 (cs := .sl false 64 (aOfBytes (mixK k 0x36)) :: cs) (xs := .slice a9 64 c9 :: xs7) (b := B7) (by rw [hw9 B7 l7, hK.hw0 (by omega)]) p3 (by simpa using p4) p5 rfl (by simp [hcl'.out, q7]) (by simp [q7]) (by simpa using ⟨rfl, q8⟩) p1 p2 (fun i x u h1 h2 => by
         cases i with
         | zero => simp at h1 h2; subst h1 h2; exact r9
         | succ i => simp at h1 h2; exact (q9 i x u h1 h2).mono le9))
    | (go_at_call 61; refine (sof.2 K11 _ _ hK11 (args_1 rk11)).mono ?_; rintro e w12 ⟨v12, K12, rfl, bel12, le12, hK12, hw12, rw12, r12⟩; obtain ⟨vs12, rfl, s12, one12, rep12⟩ := kagg_inv r12; rw [aOfBytes_len, shaB_len] at s12)
    | (refine wpList_store_agg (o := ⟨none, .store 37 (.tmp 5) (.tmp 12), _, _, _, _⟩) rfl _ _ _ rfl w12.heap.size vs12 rfl rfl _ _ (heap_alloc_new w12 _) (by rw [s12]; kernel_rfl) (by rw [s12]; rfl) (by rw [Array.all_eq_true]; intro i hi; exact one12 i _ (Array.getElem?_eq_getElem hi)) ?_; rintro w13 h13 o13 b13))
  have hrg := aOfBytes_len (macI k (ps.flatMap (·.2)))
  have hil := macI_len k (ps.flatMap (·.2))
  have smo := smix fk 0x5c
  have sof2 := of_spec false [(false, mixK k 0x5c), (true, macI k (ps.flatMap (·.2)))] (by simp [mixK_len, macI_len]) (by simp)
  have hm2 := mixK_len k 0x5c
  have hm2a := aOfBytes_len (mixK k 0x5c)
  simp only [List.map_cons, List.map_nil, pCells, pB, Part.av, List.flatMap_cons, List.flatMap_nil, List.append_nil, List.length_cons, List.length_nil, Nat.reduceAdd, hm2a, hm2, hrg, hil] at sof2
  have e12 : K12.dp = K12.dp := rfl
  have l7 : B7 < w7.heap.size := (Array.getElem?_eq_some_iff.1 q2).1
  have b7s := bel7.size
  have b9s := bel9.size
  have p5s : w9.heap.size + 1 ≤ w11.heap.size := by have := p5.size; simpa [Base.but] using this
  have b12s := bel12.size
  have hBig : Below w1.heap.size w1 w13 := by
    refine b13 _ _ ?_ (by omega)
    have k1 : Below w1.heap.size w1 (w9.alloc (.cells #[.slice a9 64 c9] 22)) := (bel7.trans (bel9.mono (by omega))).alloc (by omega) _
    have k2 : Below w1.heap.size (w9.alloc (.cells #[.slice a9 64 c9] 22)) w11 := ⟨p5.os, p5.tape, p5.output, p5.size, fun b hb => p5.block b ⟨by show b < (w9.alloc _).heap.size; simp; omega, by omega⟩⟩
    exact ((k1.trans k2).trans (bel12.mono (by omega))).alloc (by omega) _
  have hSmall : Below w.heap.size w w13 := hbel1.trans (hBig.mono (by omega))
  have k0 : K12.hw w.heap.size = 0 := by
    rw [hw12 _ (by omega), hw11 _ (by omega) (by omega), hw9 _ (by omega)]
    exact hK.hw0 (Nat.le_refl _)
  have kold : ∀ b, b < w.heap.size → K12.hw b = K.hw b := fun b hb => by
    rw [hw12 _ (by omega), hw11 _ (by omega) (by omega), hw9 _ (by omega)]
  have kdp9 := le9.dp
  have kdp11 := le11.dp
  have krw : ∀ δ, δ < K.dp → ∀ d g, K12.rw δ d g = K.rw δ d g := fun δ hδ d g => by
    rw [rw12 δ (by omega), rw11, rw9 δ hδ]
  have le12' : K.le K12 := (le9.trans le11).trans le12
  obtain ⟨K13, hK13, le13, hw13, rw13, rk13⟩ := arr_known hK12 (b := w12.heap.size) (w' := w13) (vs := vs12) (n := 32) h13 (Nat.le_refl _) s12 one12 (b13 _ _ ((Below.refl w12.heap.size w12).alloc (Nat.le_refl _) _) (Nat.le_refl _)) (by rw [aOfBytes_len, shaB_len]) rep12
  have hok : OkB K13 w13 w.heap.size (List.replicate 32 (.int .u8 0)) := by
    refine ⟨arr4, _, (hBig.block _ (by omega)).trans hg1, ?_, ?_, fun i v hi hv => ?_, fun i x v hx hv => ?_⟩
    · rw [hw13 _ (by omega)]; exact k0
    · rw [HE.out]; simp
    · rw [HE.out, List.getElem?_toArray, List.getElem?_replicate] at hv
      split at hv
      · injection hv with hv; subst hv; rfl
      · cases hv
    · rw [HE.out, List.getElem?_toArray, List.getElem?_replicate] at hv
      rw [List.getElem?_replicate] at hx
      split at hv
      · rename_i q; rw [if_pos q] at hx; injection hv with hv; injection hx with hx; subst hv hx; exact .int _ _
      · cases hv
  have hma : MArgs Try.prog w13 K13 w.heap.size [.k (.sl fk k.length (aOfBytes k)), .k .any, .k .any, .k .any, .ob 0, .k (.cp (aOfBytes (macI k (ps.flatMap (·.2))))), .k .any, .k .any, .k .any, .k .any, .k .any, .k .any, .k .any, .k .any, .k .any, .k .any, .k .any, .k .any] #[u, v, undef, undef, .pointer (some ⟨w.heap.size, 0, none⟩), .pointer (some ⟨w12.heap.size, 0, none⟩), v, .slice (some ⟨B7, 0, none⟩) ps.length cap7, u, .slice a9 64 c9, .slice (some ⟨w9.heap.size, 0, none⟩) 1 1, .slice (some ⟨B11, 0, none⟩) (ps.length + 1) cap11, .agg vs12, undef, undef, undef, undef, undef] := by
    refine ⟨rfl, fun i x v h1 h2 => ?_⟩
    match i with
    | 0 => simp at h1 h2; subst h1 h2; exact .k _ _ (g0.mono (le12'.trans le13))
    | 4 => simp at h1 h2; subst h1 h2; exact .ob 0
    | 5 => simp at h1 h2; subst h1 h2; exact .k _ _ rk13
    | 1 | 2 | 3 | 6 | 7 | 8 | 9 | 10 | 11 | 12 | 13 | 14 | 15 | 16 | 17 => simp at h1 h2; subst h1; exact .k _ _ (.any _)
    | i + 18 => simp at h1
  refine av_tailQ (fn := Try.f30) (k := 4) (os := fun _ => false) (R := R) (by kernel_rfl) (by show codeOk 18 true _ = true; kernel_rfl) hK13 hok hma (r := .agg (aOfBytes (macB k (ps.flatMap (·.2))))) ?_ ?_ ?_
  · rw [initM_18]
    have e12 := ld_arr (n := 32) (e := 5) (aOfBytes (shaB (mixK k 0x5c ++ macI k (ps.flatMap (·.2))))) (sz := 32) (by rw [aOfBytes_len, shaB_len])
    refine rgx [(4,[16],[17]),(5,[4],[4])] (by kernel_rfl) fun K hK => ?_
    refine stxA ?_
    ((first | ((with_reducible refine x0 ?_ ?_); exact rfl) | ((with_reducible refine x1 ?_ ?_ ?_); exact rfl; (with_reducible apply gt_); exact rfl; exact rfl; (first | rfl | assumption | (simp [*] <;> done)))); refine xcA (h2 := (smo)) (hk := ?_))
    refine stxA ?_
    ((first | ((with_reducible refine x0 ?_ ?_); exact rfl) | ((with_reducible refine x1 ?_ ?_ ?_); exact rfl; (with_reducible apply gt_); exact rfl; exact rfl; (first | rfl | assumption | (simp [*] <;> done)))); refine xcA (h2 := (sof2)) (hk := ?_))
    refine stxA ?_
    with_reducible refine xz ?_
    refine hK _ _ _ ?_
    clear hK K; intro ν
    rw [drop_rep, List.append_nil]
    refine ⟨rfl, ?_⟩
    refine en1c ?_
    rfl
  · rintro v w' K' h1 h2 h3 h4 h5 h6
    have s13 := hBig.size
    have d13 := le13.dp
    have d12 := le12'.dp
    rw [HRR.out]
    exact ⟨v, K', rfl, hSmall.trans ⟨h1.os, h1.tape, h1.output, h1.size, fun b hb => h1.block b ⟨by show b < w13.heap.size; omega, by omega⟩⟩, (le12'.trans le13).trans h2, h3, fun b hb => by rw [h4 b (by omega) (by omega), hw13 b (by omega), kold b hb], fun δ hδ d g => by rw [h5 δ (by omega), rw13, krw δ hδ], h6⟩
  · intro a' w' hl
    simp only [Exit.then]
    go_wp2_with fail
    exact hl
end Go.Proofs.Ytmbnclpgldglnaa
