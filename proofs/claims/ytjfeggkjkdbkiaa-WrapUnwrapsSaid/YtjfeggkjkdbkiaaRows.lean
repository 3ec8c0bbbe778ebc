/-
  No cell of these rows narrows 'for every input' (looked for: loops, veiled, ifaces, maps, wideKeys, modest, calm, conditions, laid).
  DERIVED. THE GIVEN ROWS OF THIS SEAT. 9 by the template 'for every input the law returns true; each argument reads behind the call as it read before'; 0 by the template 'total and deterministic' (their statements: YtjfeggkjkdbkiaaTotals.lean).
  GIVEN WITH THE SEED: the statements are not yours to turn. If you find one false, say at which input.
  Laid BY PROGRAM, IN A SANDBOX (cutbox-rows.mjs): the forced cells as the released guide's own fill.sh prints them over the translation c57b7084c514c742… (all of the seat's roots in one cut). By AI agents, Wed Nov 11 2026. No macro, syntax, notation, axiom, sorry.
-/
import Derived.Test.YtjfeggkjkdbkiaaChecked
import GoSem.Claim
import GoSem.ClaimJoined
import GoSem.ClaimMapViews
import Derived.JoinedTies
import Derived.KernelRfl
namespace Go.Proofs.Ytjfeggkjkdbkiaa
/- THE CELL 'sum', in the pinned program and in every row, IS THE sha256 OF THE DUMP (.gsa) THAT YtjfeggkjkdbkiaaProg.lean LOADS. Nothing in Lean hashes anything: it is a label: what it is worth is what the hold of that sum in a sandbox is worth. -/
noncomputable def Try.pinned : Pinned := { name := "ytjfeggkjkdbkiaa", sum := "c57b7084c514c742343f322fcae10f2832719692789ff6b86c38d02576a2ec19", checked := Try.checked }
namespace Rows
def none {H : Type} : Left H := { results := [], args := [] }

/-- 'garderobelaw13.PackPacks': WHATEVER THE INPUT: true; the input reads as it did. -/
def packPacksSpec : ChangeSpec := { name := "packPacks", fn := fun _ => fun
  | [d] => { results := [.lit (.bool true)], args := [d] }
  | _ => none }
def packPacksRow : OpenClaim := { program := "ytjfeggkjkdbkiaa", sum := "c57b7084c514c742343f322fcae10f2832719692789ff6b86c38d02576a2ec19", func := "garderobe/garderobelaw13.PackPacks", spec := "packPacks", unfollowed := true, recurses := true, plainKeys := false, apart := false }
def PackPacksSaid : Prop := packPacksRow.holds Try.pinned (OpenSpec.ofChange packPacksSpec)

/-- ITS FALSE NEIGHBOUR: 'it returns false'. Refute it at one input. -/
def packPacksWrong : ChangeSpec := { name := "packPacks", fn := fun _ => fun
  | [d] => { results := [.lit (.bool false)], args := [d] }
  | _ => none }
def PackPacksWrongFalsely : Prop := packPacksRow.holds Try.pinned (OpenSpec.ofChange packPacksWrong)

/-- 'garderobelaw13.PackUnpacks': WHATEVER THE INPUT: true; the input reads as it did. -/
def packUnpacksSpec : ChangeSpec := { name := "packUnpacks", fn := fun _ => fun
  | [d] => { results := [.lit (.bool true)], args := [d] }
  | _ => none }
def packUnpacksRow : OpenClaim := { program := "ytjfeggkjkdbkiaa", sum := "c57b7084c514c742343f322fcae10f2832719692789ff6b86c38d02576a2ec19", func := "garderobe/garderobelaw13.PackUnpacks", spec := "packUnpacks", unfollowed := true, recurses := true, plainKeys := false, apart := false }
def PackUnpacksSaid : Prop := packUnpacksRow.holds Try.pinned (OpenSpec.ofChange packUnpacksSpec)

/-- ITS FALSE NEIGHBOUR: 'it returns false'. Refute it at one input. -/
def packUnpacksWrong : ChangeSpec := { name := "packUnpacks", fn := fun _ => fun
  | [d] => { results := [.lit (.bool false)], args := [d] }
  | _ => none }
def PackUnpacksWrongFalsely : Prop := packUnpacksRow.holds Try.pinned (OpenSpec.ofChange packUnpacksWrong)

/-- 'garderobelaw13.PackBack': WHATEVER THE INPUT: true; the input reads as it did. -/
def packBackSpec : ChangeSpec := { name := "packBack", fn := fun _ => fun
  | [d1, d2] => { results := [.lit (.bool true)], args := [d1, d2] }
  | _ => none }
def packBackRow : OpenClaim := { program := "ytjfeggkjkdbkiaa", sum := "c57b7084c514c742343f322fcae10f2832719692789ff6b86c38d02576a2ec19", func := "garderobe/garderobelaw13.PackBack", spec := "packBack", unfollowed := true, recurses := true, plainKeys := false, apart := false }
def PackBackSaid : Prop := packBackRow.holds Try.pinned (OpenSpec.ofChange packBackSpec)

/-- ITS FALSE NEIGHBOUR: 'it returns false'. Refute it at one input. -/
def packBackWrong : ChangeSpec := { name := "packBack", fn := fun _ => fun
  | [d1, d2] => { results := [.lit (.bool false)], args := [d1, d2] }
  | _ => none }
def PackBackWrongFalsely : Prop := packBackRow.holds Try.pinned (OpenSpec.ofChange packBackWrong)

/-- 'garderobelaw06.MacEqual': WHATEVER THE INPUT: true; the input reads as it did. -/
def macEqualSpec : ChangeSpec := { name := "macEqual", fn := fun _ => fun
  | [d1, d2] => { results := [.lit (.bool true)], args := [d1, d2] }
  | _ => none }
def macEqualRow : OpenClaim := { program := "ytjfeggkjkdbkiaa", sum := "c57b7084c514c742343f322fcae10f2832719692789ff6b86c38d02576a2ec19", func := "garderobe/garderobelaw06.MacEqual", spec := "macEqual", inPlace := ["slices.overlaps[[]byte]"], unfollowed := true, recurses := true, plainKeys := false, apart := false }
def MacEqualSaid : Prop := macEqualRow.holds Try.pinned (OpenSpec.ofChange macEqualSpec)

/-- ITS FALSE NEIGHBOUR: 'it returns false'. Refute it at one input. -/
def macEqualWrong : ChangeSpec := { name := "macEqual", fn := fun _ => fun
  | [d1, d2] => { results := [.lit (.bool false)], args := [d1, d2] }
  | _ => none }
def MacEqualWrongFalsely : Prop := macEqualRow.holds Try.pinned (OpenSpec.ofChange macEqualWrong)

/-- 'garderobelaw06.MacParts': WHATEVER THE INPUT: true; the input reads as it did. -/
def macPartsSpec : ChangeSpec := { name := "macParts", fn := fun _ => fun
  | [d1, d2, d3] => { results := [.lit (.bool true)], args := [d1, d2, d3] }
  | _ => none }
def macPartsRow : OpenClaim := { program := "ytjfeggkjkdbkiaa", sum := "c57b7084c514c742343f322fcae10f2832719692789ff6b86c38d02576a2ec19", func := "garderobe/garderobelaw06.MacParts", spec := "macParts", inPlace := ["slices.overlaps[[]byte]"], unfollowed := true, recurses := true, plainKeys := false, apart := false }
def MacPartsSaid : Prop := macPartsRow.holds Try.pinned (OpenSpec.ofChange macPartsSpec)

/-- ITS FALSE NEIGHBOUR: 'it returns false'. Refute it at one input. -/
def macPartsWrong : ChangeSpec := { name := "macParts", fn := fun _ => fun
  | [d1, d2, d3] => { results := [.lit (.bool false)], args := [d1, d2, d3] }
  | _ => none }
def MacPartsWrongFalsely : Prop := macPartsRow.holds Try.pinned (OpenSpec.ofChange macPartsWrong)

/-- 'garderobelaw08.WrapWraps': WHATEVER THE INPUT: true; the input reads as it did. -/
def wrapWrapsSpec : ChangeSpec := { name := "wrapWraps", fn := fun _ => fun
  | [d1, d2] => { results := [.lit (.bool true)], args := [d1, d2] }
  | _ => none }
def wrapWrapsRow : OpenClaim := { program := "ytjfeggkjkdbkiaa", sum := "c57b7084c514c742343f322fcae10f2832719692789ff6b86c38d02576a2ec19", func := "garderobe/garderobelaw08.WrapWraps", spec := "wrapWraps", plainKeys := false, apart := false }
def WrapWrapsSaid : Prop := wrapWrapsRow.holds Try.pinned (OpenSpec.ofChange wrapWrapsSpec)

/-- ITS FALSE NEIGHBOUR: 'it returns false'. Refute it at one input. -/
def wrapWrapsWrong : ChangeSpec := { name := "wrapWraps", fn := fun _ => fun
  | [d1, d2] => { results := [.lit (.bool false)], args := [d1, d2] }
  | _ => none }
def WrapWrapsWrongFalsely : Prop := wrapWrapsRow.holds Try.pinned (OpenSpec.ofChange wrapWrapsWrong)

/-- 'garderobelaw08.WrapUnwraps': WHATEVER THE INPUT: true; the input reads as it did. -/
def wrapUnwrapsSpec : ChangeSpec := { name := "wrapUnwraps", fn := fun _ => fun
  | [d1, d2] => { results := [.lit (.bool true)], args := [d1, d2] }
  | _ => none }
def wrapUnwrapsRow : OpenClaim := { program := "ytjfeggkjkdbkiaa", sum := "c57b7084c514c742343f322fcae10f2832719692789ff6b86c38d02576a2ec19", func := "garderobe/garderobelaw08.WrapUnwraps", spec := "wrapUnwraps", plainKeys := false, apart := false }
def WrapUnwrapsSaid : Prop := wrapUnwrapsRow.holds Try.pinned (OpenSpec.ofChange wrapUnwrapsSpec)

/-- ITS FALSE NEIGHBOUR: 'it returns false'. Refute it at one input. -/
def wrapUnwrapsWrong : ChangeSpec := { name := "wrapUnwraps", fn := fun _ => fun
  | [d1, d2] => { results := [.lit (.bool false)], args := [d1, d2] }
  | _ => none }
def WrapUnwrapsWrongFalsely : Prop := wrapUnwrapsRow.holds Try.pinned (OpenSpec.ofChange wrapUnwrapsWrong)

/-- 'garderobelaw08.WrapBack': WHATEVER THE INPUT: true; the input reads as it did. -/
def wrapBackSpec : ChangeSpec := { name := "wrapBack", fn := fun _ => fun
  | [d1, d2, d3, d4] => { results := [.lit (.bool true)], args := [d1, d2, d3, d4] }
  | _ => none }
def wrapBackRow : OpenClaim := { program := "ytjfeggkjkdbkiaa", sum := "c57b7084c514c742343f322fcae10f2832719692789ff6b86c38d02576a2ec19", func := "garderobe/garderobelaw08.WrapBack", spec := "wrapBack", plainKeys := false, apart := false }
def WrapBackSaid : Prop := wrapBackRow.holds Try.pinned (OpenSpec.ofChange wrapBackSpec)

/-- ITS FALSE NEIGHBOUR: 'it returns false'. Refute it at one input. -/
def wrapBackWrong : ChangeSpec := { name := "wrapBack", fn := fun _ => fun
  | [d1, d2, d3, d4] => { results := [.lit (.bool false)], args := [d1, d2, d3, d4] }
  | _ => none }
def WrapBackWrongFalsely : Prop := wrapBackRow.holds Try.pinned (OpenSpec.ofChange wrapBackWrong)

/-- 'garderobelaw06.MacOf': WHATEVER THE INPUT: true; the input reads as it did. -/
def macOfSpec : ChangeSpec := { name := "macOf", fn := fun _ => fun
  | [d1, d2, d3] => { results := [.lit (.bool true)], args := [d1, d2, d3] }
  | _ => none }
def macOfRow : OpenClaim := { program := "ytjfeggkjkdbkiaa", sum := "c57b7084c514c742343f322fcae10f2832719692789ff6b86c38d02576a2ec19", func := "garderobe/garderobelaw06.MacOf", spec := "macOf", inPlace := ["slices.overlaps[[]byte]"], unfollowed := true, recurses := true, plainKeys := false, apart := false }
def MacOfSaid : Prop := macOfRow.holds Try.pinned (OpenSpec.ofChange macOfSpec)

/-- ITS FALSE NEIGHBOUR: 'it returns false'. Refute it at one input. -/
def macOfWrong : ChangeSpec := { name := "macOf", fn := fun _ => fun
  | [d1, d2, d3] => { results := [.lit (.bool false)], args := [d1, d2, d3] }
  | _ => none }
def MacOfWrongFalsely : Prop := macOfRow.holds Try.pinned (OpenSpec.ofChange macOfWrong)

/- THE SECOND FORM. 'bulk': how many values and letters a reading holds, each counted each time it is reached (what is shared counts as often as it is met; a slice's spare places count too). A statement '..UptoSaid' is the law's where the arguments, and the package variables that the reading takes, are together of bulk at most 1048576: NARROWER than '..Said'. Prove '..Said' where nothing that the law and all that it calls make is longer than what came in: it says more and counts as full. Else prove '..UptoSaid'. A law counts once. -/
mutual
def uptoBulk {H : Type} : DataW H → Nat
  | .lit (.string bytes) => bytes.length + 1
  | .lit _ => 1
  | .nil => 1
  | .ptr d => uptoBulk d + 1
  | .slice elems spare => uptoBulkAll elems + uptoBulkAll spare + 1
  | .agg parts => uptoBulkAll parts + 1
  | .iface _ d => uptoBulk d + 1
  | .map entries => uptoBulkEntries entries + 1
  | .held _ => 1
def uptoBulkAll {H : Type} : List (DataW H) → Nat
  | [] => 0
  | d :: r => uptoBulk d + uptoBulkAll r
def uptoBulkEntries {H : Type} : List (Lit × DataW H) → Nat
  | [] => 0
  | x :: r => uptoBulkEntry x + uptoBulkEntries r
def uptoBulkEntry {H : Type} : Lit × DataW H → Nat
  | (.string bytes, d) => bytes.length + uptoBulk d + 1
  | (_, d) => uptoBulk d + 1
 end
def uptoSmall : (H : Type) → List (DataW H) → Bool := fun _ ds => decide (uptoBulkAll ds ≤ 1048576)
def OpenSpec.upto (s : _root_.Go.ChangeSpec) : _root_.Go.OpenSpec := { _root_.Go.OpenSpec.ofChange s with cond := some uptoSmall }

/-- 'garderobelaw13.PackPacks', WHERE WHAT IT READS IS OF BULK AT MOST 1048576: true; the input reads as it did. -/
def packPacksUptoRow : OpenClaim := { program := "ytjfeggkjkdbkiaa", sum := "c57b7084c514c742343f322fcae10f2832719692789ff6b86c38d02576a2ec19", func := "garderobe/garderobelaw13.PackPacks", spec := "packPacks", unfollowed := true, recurses := true, plainKeys := false, apart := false, narrowed := true }
def PackPacksUptoSaid : Prop := packPacksUptoRow.holds Try.pinned (OpenSpec.upto packPacksSpec)

/-- 'garderobelaw13.PackUnpacks', WHERE WHAT IT READS IS OF BULK AT MOST 1048576: true; the input reads as it did. -/
def packUnpacksUptoRow : OpenClaim := { program := "ytjfeggkjkdbkiaa", sum := "c57b7084c514c742343f322fcae10f2832719692789ff6b86c38d02576a2ec19", func := "garderobe/garderobelaw13.PackUnpacks", spec := "packUnpacks", unfollowed := true, recurses := true, plainKeys := false, apart := false, narrowed := true }
def PackUnpacksUptoSaid : Prop := packUnpacksUptoRow.holds Try.pinned (OpenSpec.upto packUnpacksSpec)

/-- 'garderobelaw13.PackBack', WHERE WHAT IT READS IS OF BULK AT MOST 1048576: true; the input reads as it did. -/
def packBackUptoRow : OpenClaim := { program := "ytjfeggkjkdbkiaa", sum := "c57b7084c514c742343f322fcae10f2832719692789ff6b86c38d02576a2ec19", func := "garderobe/garderobelaw13.PackBack", spec := "packBack", unfollowed := true, recurses := true, plainKeys := false, apart := false, narrowed := true }
def PackBackUptoSaid : Prop := packBackUptoRow.holds Try.pinned (OpenSpec.upto packBackSpec)

/-- 'garderobelaw06.MacEqual', WHERE WHAT IT READS IS OF BULK AT MOST 1048576: true; the input reads as it did. -/
def macEqualUptoRow : OpenClaim := { program := "ytjfeggkjkdbkiaa", sum := "c57b7084c514c742343f322fcae10f2832719692789ff6b86c38d02576a2ec19", func := "garderobe/garderobelaw06.MacEqual", spec := "macEqual", inPlace := ["slices.overlaps[[]byte]"], unfollowed := true, recurses := true, plainKeys := false, apart := false, narrowed := true }
def MacEqualUptoSaid : Prop := macEqualUptoRow.holds Try.pinned (OpenSpec.upto macEqualSpec)

/-- 'garderobelaw06.MacParts', WHERE WHAT IT READS IS OF BULK AT MOST 1048576: true; the input reads as it did. -/
def macPartsUptoRow : OpenClaim := { program := "ytjfeggkjkdbkiaa", sum := "c57b7084c514c742343f322fcae10f2832719692789ff6b86c38d02576a2ec19", func := "garderobe/garderobelaw06.MacParts", spec := "macParts", inPlace := ["slices.overlaps[[]byte]"], unfollowed := true, recurses := true, plainKeys := false, apart := false, narrowed := true }
def MacPartsUptoSaid : Prop := macPartsUptoRow.holds Try.pinned (OpenSpec.upto macPartsSpec)

/-- 'garderobelaw08.WrapWraps', WHERE WHAT IT READS IS OF BULK AT MOST 1048576: true; the input reads as it did. -/
def wrapWrapsUptoRow : OpenClaim := { program := "ytjfeggkjkdbkiaa", sum := "c57b7084c514c742343f322fcae10f2832719692789ff6b86c38d02576a2ec19", func := "garderobe/garderobelaw08.WrapWraps", spec := "wrapWraps", plainKeys := false, apart := false, narrowed := true }
def WrapWrapsUptoSaid : Prop := wrapWrapsUptoRow.holds Try.pinned (OpenSpec.upto wrapWrapsSpec)

/-- 'garderobelaw08.WrapUnwraps', WHERE WHAT IT READS IS OF BULK AT MOST 1048576: true; the input reads as it did. -/
def wrapUnwrapsUptoRow : OpenClaim := { program := "ytjfeggkjkdbkiaa", sum := "c57b7084c514c742343f322fcae10f2832719692789ff6b86c38d02576a2ec19", func := "garderobe/garderobelaw08.WrapUnwraps", spec := "wrapUnwraps", plainKeys := false, apart := false, narrowed := true }
def WrapUnwrapsUptoSaid : Prop := wrapUnwrapsUptoRow.holds Try.pinned (OpenSpec.upto wrapUnwrapsSpec)

/-- 'garderobelaw08.WrapBack', WHERE WHAT IT READS IS OF BULK AT MOST 1048576: true; the input reads as it did. -/
def wrapBackUptoRow : OpenClaim := { program := "ytjfeggkjkdbkiaa", sum := "c57b7084c514c742343f322fcae10f2832719692789ff6b86c38d02576a2ec19", func := "garderobe/garderobelaw08.WrapBack", spec := "wrapBack", plainKeys := false, apart := false, narrowed := true }
def WrapBackUptoSaid : Prop := wrapBackUptoRow.holds Try.pinned (OpenSpec.upto wrapBackSpec)

/-- 'garderobelaw06.MacOf', WHERE WHAT IT READS IS OF BULK AT MOST 1048576: true; the input reads as it did. -/
def macOfUptoRow : OpenClaim := { program := "ytjfeggkjkdbkiaa", sum := "c57b7084c514c742343f322fcae10f2832719692789ff6b86c38d02576a2ec19", func := "garderobe/garderobelaw06.MacOf", spec := "macOf", inPlace := ["slices.overlaps[[]byte]"], unfollowed := true, recurses := true, plainKeys := false, apart := false, narrowed := true }
def MacOfUptoSaid : Prop := macOfUptoRow.holds Try.pinned (OpenSpec.upto macOfSpec)

end Rows
end Go.Proofs.Ytjfeggkjkdbkiaa
