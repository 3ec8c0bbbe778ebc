import Derived.Test.YtmbnclpgldglnaaAvRead
import Derived.Test.YtmbnclpgldglnaaAvHand
import Derived.SizedLaws
namespace Go.Proofs.Ytmbnclpgldglnaa
open Go.RowKit
set_option linter.unusedVariables false
set_option linter.unusedSimpArgs false
/-! a slice that came in is no longer than an address space -/
section
variable {H : Type} {enc : TypeId × Value → H} {P : Program} {w : World} {base : Nat} {spare : Nat → Bool} {held : Bool}
theorem sized_len {t e : TypeId} {a : Option Addr} {len cap j : Nat} {d : DataW H} {ps : List MemPlace} {ts : List TypeId} {ds : List (DataW H)} (ht : P.underlying t = some (.slice e))
    (h : DataW.Trod enc P w base spare held t (.slice a len cap) d ps) (hsz : (DataW.weightsEach P ts ds).all (· ≤ reachBytes) = true) (h1 : ts[j]? = some t) (h2 : ds[j]? = some d) (hb : P.bytesOf e = 1) : len ≤ 140737488351232 := by
  obtain ⟨n, hn⟩ := h
  have hc : (Value.slice a len cap).cells = #[.slice a len cap] := rfl
  rw [hc] at hn
  rcases Go.Deep.open_slice ht hn with ⟨h0, _⟩ | ⟨a', len', cap', m, n', D, Pl, h0, _, _, _, _, hx, _⟩
  · simp at h0; omega
  · simp at h0
    have e : d = .slice ((List.range len').map D) ((List.range (m - len')).map fun j => D (len' + j)) := congrArg Prod.fst hx
    have := sized_slice hsz h1 (by rw [h2, e]) ht
    rw [hb] at this
    simp only [List.length_map, List.length_range, reachBytes] at this
    omega
theorem sized_x {K : Kd} {n len cap : Nat} {cs : List AV} {a : Option Addr} (g : KRep K (.sl false n cs) (.slice a len cap)) : n = len := by
  obtain ⟨_, _, e, _⟩ := ksl_inv g
  injection e with _ e _; exact e.symm
end
theorem wf_u16c {n : Int} (h : (Lit.int .u16 n).wf = true) : 0 ≤ n ∧ n ≤ 65535 := by
  simp [Lit.wf, IntKind.min, IntKind.max, IntKind.signed, IntKind.bits] at h
  omega
end Go.Proofs.Ytmbnclpgldglnaa
