import Derived.Test.YtjfeggkjkdbkiaaAvCut
import Derived.Test.YtjfeggkjkdbkiaaAvHand
namespace Go.Proofs.Ytjfeggkjkdbkiaa
open Go.RowKit
set_option linter.unusedVariables false
set_option linter.unusedSimpArgs false
set_option maxRecDepth 20000
/-- a new slice, known from now on -/
theorem Spec.news_k {P : Program} {f : FuncId} {args : List AV} {n : Nat} {cells : List AV} (hn : cells.length = n) (h : Spec P f args (.news n cells)) : Spec P f args (.k (.sl false n cells)) := by
  refine ⟨h.1, fun K w vs hk ha => (h.2 K w vs hk ha).mono ?_⟩
  rintro e w' ⟨v, K', rfl, hbel, hle, hok, hhw, hrw, b, c, arr, ty, rfl, hnc, hcm, hB, hg, hh, hsz, hone, hkk⟩
  have hxl : (arr.toList.take n).length = n := by simp; omega
  have hxg : ∀ i, (hi : i < n) → (arr.toList.take n)[i]? = arr[i]? := fun i hi => by
    rw [List.getElem?_take, if_pos hi, Array.getElem?_toList]
  have hle2 : K'.le (K'.ext b n (arr.toList.take n)) := Kd.ext_le (by omega) fun i hi => by omega
  have one' : ∀ x ∈ arr.toList.take n, x.oneCell' = true := fun x hx => by
    obtain ⟨j, hj⟩ := List.getElem?_of_mem hx
    have hjn : j < n := by have := getq_lt hj; omega
    rw [hxg j hjn] at hj
    exact hone j x (by omega) hj
  have hgd : ∀ i, (hi : i < n) → arr[i]? = some ((arr.toList.take n).getD i undef) := fun i hi => by
    rw [List.getD_eq_getElem?_getD, hxg i hi]
    have : i < arr.size := by omega
    simp [this]
  have hcell : ∀ i, i < n → w'.cell? ⟨b, i, none⟩ = some ((arr.toList.take n).getD i undef) := fun i hi => by
    rw [World.cell?]
    simp only [hg]
    exact hgd i hi
  have hval : ∀ i, i < n → (K'.ext b n (arr.toList.take n)).val b (0 + i) = (arr.toList.take n).getD i undef := fun i hi => by
    show (if b = b then (arr.toList.take n).getD (0 + i) undef else K'.val b (0 + i)) = _
    rw [if_pos rfl, Nat.zero_add]
  refine ⟨_, K'.ext b n (arr.toList.take n), rfl, hbel, hle.trans hle2, hok.ext (by omega) one' hcell, fun b2 hb2 => ?_, hrw, .sl _ _ _ _ _ _ hnc hcm (fun q => by cases q) ⟨?_, fun i hi => ?_⟩ fun i x hxi => ?_⟩
  · show (if b2 = b then n else K'.hw b2) = K.hw b2
    rw [if_neg (by omega)]; exact hhw b2 hb2
  · show 0 + cells.length ≤ (if b = b then n else K'.hw b)
    rw [if_pos rfl]; omega
  · rw [hval i (by omega)]
    exact hone i _ hi (hgd i (by omega))
  · have hi' : i < cells.length := getq_lt hxi
    rw [hval i (by omega)]
    exact (hkk i x _ hxi (hgd i (by omega))).mono hle2
theorem bcells_len (l : List UInt8) (n : Nat) (h : l.length = n) : (aOfBytes l).length = n := by rw [aOfBytes_len, h]
end Go.Proofs.Ytjfeggkjkdbkiaa
