import Derived.Test.YtmbnclpgldglnaaInsert
import Derived.Test.YtmbnclpgldglnaaAvTail
namespace Go.Proofs.Ytmbnclpgldglnaa
open Go.RowKit
set_option linter.unusedVariables false
set_option linter.unusedSimpArgs false
set_option maxRecDepth 20000
attribute [local go_sem] Oper.semAt_some
/-! slices of parts: copied, one put before -/
theorem kvals {K : Kd} {w : World} (hk : KOk K w) {b o : Nat} {cs : List AV} (hin : K.In b o cs.length) (hx : ∀ (i : Nat) (x : AV), cs[i]? = some x → KRep K x (K.val b (o + i))) :
    ∃ vs : List Value, vs.length = cs.length ∧ (∀ (j : Nat) (u : Value), vs[j]? = some u → w.cell? ((⟨b, o, none⟩ : Addr).add j) = some u) ∧ (∀ q ∈ vs, q.oneCell' = true) ∧ ∀ (j : Nat) (x : AV) (u : Value), cs[j]? = some x → vs[j]? = some u → KRep K x u := by
  have hg : ∀ (j : Nat) (u : Value), ((List.range cs.length).map fun i => K.val b (o + i))[j]? = some u → j < cs.length ∧ u = K.val b (o + j) := fun j u hu => by
    have hj : j < cs.length := by have := getq_lt hu; simpa using this
    refine ⟨hj, ?_⟩
    simp [hj] at hu; exact hu.symm
  refine ⟨(List.range cs.length).map fun i => K.val b (o + i), by simp, fun j u hu => ?_, fun q hq => ?_, fun j x u h1 h2 => ?_⟩
  · obtain ⟨hj, rfl⟩ := hg j u hu
    rw [show (⟨b, o, none⟩ : Addr).add j = ⟨b, o + j, none⟩ by unfold Addr.add; split <;> simp_all]
    exact (hk.at_ hin hj).1
  · obtain ⟨j, hj⟩ := List.getElem?_of_mem hq
    obtain ⟨hj2, rfl⟩ := hg j q hj
    exact (hk.at_ hin hj2).2
  · obtain ⟨hj, rfl⟩ := hg j u h2
    exact hx j x h1
set_option maxHeartbeats 8000000 in
theorem clone_calls {K : Kd} {w : World} {full : Bool} {n : Nat} {cs : List AV} {v : Value} (hk : KOk K w) (hv : KRep K (.sl full n cs) v) (h0 : 0 < n) (hn : n ≤ 1000000) (hl : cs.length = n) : Calls Try.prog 63 #[v] w fun e w' =>
    ∃ (B cap : Nat) (arr : Array Value) (xs : List Value), e = .returned (.slice (some ⟨B, 0, none⟩) n cap) ∧ w.heap.size ≤ B ∧ w'.heap[B]? = some (.cells arr 22 (0, 0)) ∧ arr.size = cap ∧ n ≤ cap ∧ cap ≤ maxLen ∧ arr.toList.take n = xs ∧ xs.length = n ∧
      Below w.heap.size w w' ∧ (∀ x ∈ xs, x.oneCell' = true) ∧ ∀ (i : Nat) (x : AV) (u : Value), cs[i]? = some x → xs[i]? = some u → KRep K x u := by
  obtain ⟨a, c, rfl, hc1, hc2, _, hm⟩ := ksl_inv hv
  rcases hm with ⟨h, _⟩ | ⟨b, o, rfl, hin, hx⟩
  · omega
  obtain ⟨xs, k1, k2, k3, k4⟩ := kvals hk hin hx
  rw [hl] at k1
  obtain ⟨i, z, d, hi, hz, hzs, hz1, hsz, hbe, hzr, hd⟩ := ti_ok (P := Try.prog) (t := 22) (by kernel_rfl)
  have s1 : i.size = 1 := by rw [← hsz]; kernel_rfl
  have b1 : i.bytes = 24 := by rw [← hbe]; kernel_rfl
  clear hv hin hx
  obtain ⟨W, hW⟩ : ∃ W, W = w.alloc (.cells #[] 22) := ⟨_, rfl⟩
  have hlt : b < w.heap.size := cell_lt (k2 0 xs[0] (by simp [k1, h0]))
  have hWc : ∀ (j : Nat) (u : Value), xs[j]? = some u → W.cell? ((⟨b, o, none⟩ : Addr).add j) = some u := fun j u hu => by
    rw [hW]
    have e := k2 j u hu
    rw [show (⟨b, o, none⟩ : Addr).add j = ⟨b, o + j, none⟩ by unfold Addr.add; split <;> simp_all] at e ⊢
    rw [World.cell?_of_block (a := ⟨b, o + j, none⟩) (Below.heap_alloc w _ b hlt)]
    exact e
  have src := ASrc.ofSrc hi hz (Src.ofSlice W Try.underlying79 ⟨b, o, none⟩ n c xs (by rw [k1, s1]; omega) hWc k3)
  obtain ⟨cap, hge, hcm, hrun⟩ := run_app_full (P := Try.prog) (ty := 79) Try.underlying79 (some ⟨w.heap.size, 0, none⟩) 0 [] (by simp) (.inr ⟨_, rfl, fun j u hu => by simp at hu⟩) src h0 (by unfold maxLen; omega) (by rw [b1]; omega)
  obtain ⟨arr, harr⟩ : ∃ arr, arr = (([] : List Value).toArray ++ xs.toArray ++ Builtin.zeroCells z.cells (cap - (0 + n))) := ⟨_, rfl⟩
  rw [← harr, Nat.zero_add] at hrun
  rw [Nat.zero_add] at hge
  have hsz2 : arr.size = cap := by
    rw [harr]; simp only [Array.size_append, size_zeroCells, hzs, s1, List.size_toArray, List.length_nil, k1]; omega
  have htk : arr.toList.take n = xs := by
    rw [harr]; simp only [Array.toList_append, List.nil_append]; rw [← k1]; exact List.take_left
  have hnil := run_eql_slice_nil' (P := Try.prog) w 79 22 (some ⟨b, o, none⟩) n c 0 0 Try.underlying79
  have hWs : W.heap.size = w.heap.size + 1 := by rw [hW]; simp
  have hbel : Below w.heap.size w (W.drew.alloc (.cells arr 22)) := by
    rw [hW]; exact ((Below.refl _ _).alloc (Nat.le_refl _) _).drew.alloc (by simp) _
  have hnew : (W.drew.alloc (.cells arr 22)).heap[W.heap.size]? = some (.cells arr 22 (0, 0)) := heap_alloc_new W.drew _
  have HS := Lib.hid hWs
  have HR := Lib.hid hrun
  have HW := Lib.hid hW
  have HB := Lib.hid hbel
  have HN := Lib.hid hnew
  clear hWs hrun hW hbel hnew src harr hWc hzr hz1 hzs hz hsz hbe hi hd
  go_enter Try.func63, Try.ntmps63
  go_wp2_with (at_builtin; rw [← HW.out]; refine wpList_bi (o := ⟨some 7, _, _, _, _, _⟩) rfl _ _ 79 79 rfl rfl rfl HR.out ?_)
  go_ret
  have hWs := HS.out
  exact ⟨W.heap.size, cap, arr, xs, by rw [hWs]; rfl, by omega, HN.out, hsz2, hge, hcm, htk, k1, HB.out, k3, k4⟩
theorem insert_calls (b n c vb vc : Nat) (cur curv : Array Value) (cs : List Value) (v : Value) (w : World) (hn : 0 < n) (hn2 : n ≤ 1000000) (hnc : n ≤ c) (hc : c ≤ maxLen) (hvb : vb ≠ b)
    (hb : w.heap[b]? = some (.cells cur 22 (0, 0))) (hcur : cur.size = c) (htk : cur.toList.take n = cs) (hb2 : w.heap[vb]? = some (.cells curv 22 (0, 0))) (hv : curv[0]? = some v) (h1c : ∀ x ∈ cs, x.oneCell' = true) (h1v : v.oneCell' = true) :
    Calls Try.prog 62 #[.slice (some ⟨b, 0, none⟩) n c, .int .i64 0, .slice (some ⟨vb, 0, none⟩) 1 vc] w fun e w' =>
      ∃ (B cap : Nat) (r : List Value), e = .returned (.slice (some ⟨B, 0, none⟩) (n + 1) cap) ∧ n + 1 ≤ cap ∧ cap ≤ maxLen ∧ w'.heap[B]? = some (.cells (v :: cs ++ r).toArray 22 (0, 0)) ∧ (B = b ∨ w.heap.size ≤ B) ∧ (Base.but w b).Kp w' := by
  have hcl : cs.length = n := by
    rw [← htk, List.length_take, Array.length_toList]; omega
  have hm : maxLen ≤ 9223372036854775807 := by unfold maxLen; omega
  by_cases hroom : n + 1 ≤ c
  · refine (ins_room b n c vb vc cur curv cs v w hn hroom (by omega) hvb hb hcur htk hb2 hv h1c h1v).mono ?_
    rintro e w' ⟨rfl, r, rfl⟩
    refine ⟨b, c, r, rfl, hroom, hc, ?_, .inl rfl, ⟨rfl, rfl, rfl, ?_, fun k hk => ?_⟩⟩
    · exact setRow_heap _ b _ _ _ _ (setRow_heap w.drew b cur _ _ _ hb)
    · show w.heap.size ≤ _
      simp [World.setRow]
    · rw [setRow_other _ b k _ hk.2, setRow_other _ b k _ hk.2]; rfl
  · have hce : c = n := by omega
    subst hce
    refine (ins_new b c vb vc cur curv cs v w hn hn2 hvb hb htk hcl hb2 hv h1c h1v).mono ?_
    rintro e w' ⟨cap, A0, A1, r, rfl, h1, h2, h3, h4, rfl⟩
    have k0 : (w.drew.alloc (.cells A0 22)).heap[w.heap.size]? = some (.cells A0 22 (0, 0)) := heap_alloc_new w.drew _
    refine ⟨w.heap.size, cap, r, rfl, h1, h2, ?_, .inr (Nat.le_refl _), ⟨rfl, rfl, rfl, ?_, fun k hk => ?_⟩⟩
    · exact setRow_heap _ w.heap.size _ _ _ _ (setRow_heap _ w.heap.size A0 _ _ _ k0)
    · show w.heap.size ≤ _
      simp [World.setRow]
    · have hk1 : k < w.heap.size := hk.1
      rw [setRow_other _ _ k _ (by omega)]
      show ((w.drew.alloc (.cells A0 22)).setRow w.heap.size A1).heap[k]? = _
      rw [setRow_other _ _ k _ (by omega)]
      exact Below.heap_alloc w.drew _ k hk1
end Go.Proofs.Ytmbnclpgldglnaa
