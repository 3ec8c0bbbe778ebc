import Derived.Test.YtmlgpibjhegdeaaProg
import Derived.Test.YtmlgpibjhegdeaaMem
import Derived.Deep.Slices
import Derived.Deep.SlicePairs
import Derived.Deep.Strs
namespace Go.Proofs.Ytmlgpibjhegdeaa
open Go.RowKit
set_option linter.unusedVariables false

theorem addr_plain {w : World} {x : Addr} {v : Value} (hc : w.cell? x = some v) : x = ⟨x.block, x.off, none⟩ := by
  unfold World.cell? at hc
  obtain ⟨bb, oo, ss⟩ := x
  cases ss with
  | none => rfl
  | some s =>
    exfalso
    simp at hc
    split at hc <;> simp at hc
theorem add_of {x : Addr} (hx : x = ⟨x.block, x.off, none⟩) (i : Nat) : x.add i = ⟨x.block, x.off + i, none⟩ := by
  unfold Addr.add
  split
  · rename_i h0; subst h0; rw [Nat.add_zero]; exact hx
  · rfl
theorem add_zero_of (x : Addr) : x.add (0 * 2) = x := rfl
theorem add_zero_of1 (x : Addr) : x.add 0 = x := rfl

end Go.Proofs.Ytmlgpibjhegdeaa
