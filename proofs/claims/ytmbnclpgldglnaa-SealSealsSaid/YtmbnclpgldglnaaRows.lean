/-
  No cell of these rows narrows 'for every input' (looked for: loops, veiled, ifaces, maps, wideKeys, modest, calm, conditions, laid).
  DERIVED. THE GIVEN ROWS OF THIS SEAT. 9 by the template 'for every input the law returns true; each argument reads behind the call as it read before'; 0 by the template 'total and deterministic' (their statements: YtmbnclpgldglnaaTotals.lean).
  GIVEN WITH THE SEED: the statements are not yours to turn. If you find one false, say at which input.
  Laid BY PROGRAM, IN A SANDBOX (cutbox-rows.mjs): the forced cells as the released guide's own fill.sh prints them over the translation 716b7e7db4e30307… (all of the seat's roots in one cut). By AI agents, Wed Nov 11 2026. No macro, syntax, notation, axiom, sorry.
-/
import Derived.Test.YtmbnclpgldglnaaChecked
import GoSem.Claim
import GoSem.ClaimJoined
import GoSem.ClaimMapViews
import Derived.JoinedTies
import Derived.KernelRfl
namespace Go.Proofs.Ytmbnclpgldglnaa
/- THE CELL 'sum', in the pinned program and in every row, IS THE sha256 OF THE DUMP (.gsa) THAT YtmbnclpgldglnaaProg.lean LOADS. Nothing in Lean hashes anything: it is a label: what it is worth is what the hold of that sum in a sandbox is worth. -/
noncomputable def Try.pinned : Pinned := { name := "ytmbnclpgldglnaa", sum := "716b7e7db4e303071f309c8ea0d00ca03b16b1b785ef6f3c80a02b6751959d9a", checked := Try.checked }
namespace Rows
def none {H : Type} : Left H := { results := [], args := [] }

/-- 'garderobelaw07.CbcSeals': WHATEVER THE INPUT: true; the input reads as it did. -/
def cbcSealsSpec : ChangeSpec := { name := "cbcSeals", fn := fun _ => fun
  | [d1, d2, d3] => { results := [.lit (.bool true)], args := [d1, d2, d3] }
  | _ => none }
def cbcSealsRow : OpenClaim := { program := "ytmbnclpgldglnaa", sum := "716b7e7db4e303071f309c8ea0d00ca03b16b1b785ef6f3c80a02b6751959d9a", func := "garderobe/garderobelaw07.CbcSeals", spec := "cbcSeals", inPlace := ["internal/bytealg.MakeNoZero"], unfollowed := true, recurses := true, plainKeys := false, apart := false }
def CbcSealsSaid : Prop := cbcSealsRow.holds Try.pinned (OpenSpec.ofChange cbcSealsSpec)

/-- ITS FALSE NEIGHBOUR: 'it returns false'. Refute it at one input. -/
def cbcSealsWrong : ChangeSpec := { name := "cbcSeals", fn := fun _ => fun
  | [d1, d2, d3] => { results := [.lit (.bool false)], args := [d1, d2, d3] }
  | _ => none }
def CbcSealsWrongFalsely : Prop := cbcSealsRow.holds Try.pinned (OpenSpec.ofChange cbcSealsWrong)

/-- 'garderobelaw07.CbcOpens': WHATEVER THE INPUT: true; the input reads as it did. -/
def cbcOpensSpec : ChangeSpec := { name := "cbcOpens", fn := fun _ => fun
  | [d1, d2, d3] => { results := [.lit (.bool true)], args := [d1, d2, d3] }
  | _ => none }
def cbcOpensRow : OpenClaim := { program := "ytmbnclpgldglnaa", sum := "716b7e7db4e303071f309c8ea0d00ca03b16b1b785ef6f3c80a02b6751959d9a", func := "garderobe/garderobelaw07.CbcOpens", spec := "cbcOpens", inPlace := ["internal/bytealg.MakeNoZero"], unfollowed := true, recurses := true, plainKeys := false, apart := false }
def CbcOpensSaid : Prop := cbcOpensRow.holds Try.pinned (OpenSpec.ofChange cbcOpensSpec)

/-- ITS FALSE NEIGHBOUR: 'it returns false'. Refute it at one input. -/
def cbcOpensWrong : ChangeSpec := { name := "cbcOpens", fn := fun _ => fun
  | [d1, d2, d3] => { results := [.lit (.bool false)], args := [d1, d2, d3] }
  | _ => none }
def CbcOpensWrongFalsely : Prop := cbcOpensRow.holds Try.pinned (OpenSpec.ofChange cbcOpensWrong)

/-- 'garderobelaw07.CbcBack': WHATEVER THE INPUT: true; the input reads as it did. -/
def cbcBackSpec : ChangeSpec := { name := "cbcBack", fn := fun _ => fun
  | [d1, d2, d3, d4, d5] => { results := [.lit (.bool true)], args := [d1, d2, d3, d4, d5] }
  | _ => none }
def cbcBackRow : OpenClaim := { program := "ytmbnclpgldglnaa", sum := "716b7e7db4e303071f309c8ea0d00ca03b16b1b785ef6f3c80a02b6751959d9a", func := "garderobe/garderobelaw07.CbcBack", spec := "cbcBack", inPlace := ["internal/bytealg.MakeNoZero"], unfollowed := true, recurses := true, plainKeys := false, apart := false }
def CbcBackSaid : Prop := cbcBackRow.holds Try.pinned (OpenSpec.ofChange cbcBackSpec)

/-- ITS FALSE NEIGHBOUR: 'it returns false'. Refute it at one input. -/
def cbcBackWrong : ChangeSpec := { name := "cbcBack", fn := fun _ => fun
  | [d1, d2, d3, d4, d5] => { results := [.lit (.bool false)], args := [d1, d2, d3, d4, d5] }
  | _ => none }
def CbcBackWrongFalsely : Prop := cbcBackRow.holds Try.pinned (OpenSpec.ofChange cbcBackWrong)

/-- 'garderobelaw07.CbcFill': WHATEVER THE INPUT: true; the input reads as it did. -/
def cbcFillSpec : ChangeSpec := { name := "cbcFill", fn := fun _ => fun
  | [d1, d2, d3] => { results := [.lit (.bool true)], args := [d1, d2, d3] }
  | _ => none }
def cbcFillRow : OpenClaim := { program := "ytmbnclpgldglnaa", sum := "716b7e7db4e303071f309c8ea0d00ca03b16b1b785ef6f3c80a02b6751959d9a", func := "garderobe/garderobelaw07.CbcFill", spec := "cbcFill", inPlace := ["internal/bytealg.MakeNoZero"], unfollowed := true, recurses := true, plainKeys := false, apart := false }
def CbcFillSaid : Prop := cbcFillRow.holds Try.pinned (OpenSpec.ofChange cbcFillSpec)

/-- ITS FALSE NEIGHBOUR: 'it returns false'. Refute it at one input. -/
def cbcFillWrong : ChangeSpec := { name := "cbcFill", fn := fun _ => fun
  | [d1, d2, d3] => { results := [.lit (.bool false)], args := [d1, d2, d3] }
  | _ => none }
def CbcFillWrongFalsely : Prop := cbcFillRow.holds Try.pinned (OpenSpec.ofChange cbcFillWrong)

/-- 'garderobelaw10.SealSeals': WHATEVER THE INPUT: true; the input reads as it did. -/
def sealSealsSpec : ChangeSpec := { name := "sealSeals", fn := fun _ => fun
  | [d1, d2, d3, d4, d5, d6] => { results := [.lit (.bool true)], args := [d1, d2, d3, d4, d5, d6] }
  | _ => none }
def sealSealsRow : OpenClaim := { program := "ytmbnclpgldglnaa", sum := "716b7e7db4e303071f309c8ea0d00ca03b16b1b785ef6f3c80a02b6751959d9a", func := "garderobe/garderobelaw10.SealSeals", spec := "sealSeals", inPlace := ["internal/bytealg.MakeNoZero", "slices.overlaps[[]byte]"], unfollowed := true, recurses := true, plainKeys := false, apart := false }
def SealSealsSaid : Prop := sealSealsRow.holds Try.pinned (OpenSpec.ofChange sealSealsSpec)

/-- ITS FALSE NEIGHBOUR: 'it returns false'. Refute it at one input. -/
def sealSealsWrong : ChangeSpec := { name := "sealSeals", fn := fun _ => fun
  | [d1, d2, d3, d4, d5, d6] => { results := [.lit (.bool false)], args := [d1, d2, d3, d4, d5, d6] }
  | _ => none }
def SealSealsWrongFalsely : Prop := sealSealsRow.holds Try.pinned (OpenSpec.ofChange sealSealsWrong)

/-- 'garderobelaw10.SealOpens': WHATEVER THE INPUT: true; the input reads as it did. -/
def sealOpensSpec : ChangeSpec := { name := "sealOpens", fn := fun _ => fun
  | [d1, d2, d3, d4] => { results := [.lit (.bool true)], args := [d1, d2, d3, d4] }
  | _ => none }
def sealOpensRow : OpenClaim := { program := "ytmbnclpgldglnaa", sum := "716b7e7db4e303071f309c8ea0d00ca03b16b1b785ef6f3c80a02b6751959d9a", func := "garderobe/garderobelaw10.SealOpens", spec := "sealOpens", inPlace := ["slices.overlaps[[]byte]", "internal/bytealg.MakeNoZero"], unfollowed := true, recurses := true, plainKeys := false, apart := false }
def SealOpensSaid : Prop := sealOpensRow.holds Try.pinned (OpenSpec.ofChange sealOpensSpec)

/-- ITS FALSE NEIGHBOUR: 'it returns false'. Refute it at one input. -/
def sealOpensWrong : ChangeSpec := { name := "sealOpens", fn := fun _ => fun
  | [d1, d2, d3, d4] => { results := [.lit (.bool false)], args := [d1, d2, d3, d4] }
  | _ => none }
def SealOpensWrongFalsely : Prop := sealOpensRow.holds Try.pinned (OpenSpec.ofChange sealOpensWrong)

/-- 'garderobelaw10.SealBack': WHATEVER THE INPUT: true; the input reads as it did. -/
def sealBackSpec : ChangeSpec := { name := "sealBack", fn := fun _ => fun
  | [d1, d2, d3, d4, d5, d6, d7] => { results := [.lit (.bool true)], args := [d1, d2, d3, d4, d5, d6, d7] }
  | _ => none }
def sealBackRow : OpenClaim := { program := "ytmbnclpgldglnaa", sum := "716b7e7db4e303071f309c8ea0d00ca03b16b1b785ef6f3c80a02b6751959d9a", func := "garderobe/garderobelaw10.SealBack", spec := "sealBack", inPlace := ["internal/bytealg.MakeNoZero", "slices.overlaps[[]byte]"], unfollowed := true, recurses := true, plainKeys := false, apart := false }
def SealBackSaid : Prop := sealBackRow.holds Try.pinned (OpenSpec.ofChange sealBackSpec)

/-- ITS FALSE NEIGHBOUR: 'it returns false'. Refute it at one input. -/
def sealBackWrong : ChangeSpec := { name := "sealBack", fn := fun _ => fun
  | [d1, d2, d3, d4, d5, d6, d7] => { results := [.lit (.bool false)], args := [d1, d2, d3, d4, d5, d6, d7] }
  | _ => none }
def SealBackWrongFalsely : Prop := sealBackRow.holds Try.pinned (OpenSpec.ofChange sealBackWrong)

/-- 'garderobelaw10.SealSpoilt': WHATEVER THE INPUT: true; the input reads as it did. -/
def sealSpoiltSpec : ChangeSpec := { name := "sealSpoilt", fn := fun _ => fun
  | [d1, d2, d3, d4, d5, d6, d7, d8] => { results := [.lit (.bool true)], args := [d1, d2, d3, d4, d5, d6, d7, d8] }
  | _ => none }
def sealSpoiltRow : OpenClaim := { program := "ytmbnclpgldglnaa", sum := "716b7e7db4e303071f309c8ea0d00ca03b16b1b785ef6f3c80a02b6751959d9a", func := "garderobe/garderobelaw10.SealSpoilt", spec := "sealSpoilt", inPlace := ["internal/bytealg.MakeNoZero", "slices.overlaps[[]byte]"], unfollowed := true, recurses := true, plainKeys := false, apart := false }
def SealSpoiltSaid : Prop := sealSpoiltRow.holds Try.pinned (OpenSpec.ofChange sealSpoiltSpec)

/-- ITS FALSE NEIGHBOUR: 'it returns false'. Refute it at one input. -/
def sealSpoiltWrong : ChangeSpec := { name := "sealSpoilt", fn := fun _ => fun
  | [d1, d2, d3, d4, d5, d6, d7, d8] => { results := [.lit (.bool false)], args := [d1, d2, d3, d4, d5, d6, d7, d8] }
  | _ => none }
def SealSpoiltWrongFalsely : Prop := sealSpoiltRow.holds Try.pinned (OpenSpec.ofChange sealSpoiltWrong)

/-- 'garderobetop.WholeBlock': WHATEVER THE INPUT: true; the input reads as it did. -/
def wholeBlockSpec : ChangeSpec := { name := "wholeBlock", fn := fun _ => fun
  | [d1, d2, d3, d4, d5] => { results := [.lit (.bool true)], args := [d1, d2, d3, d4, d5] }
  | _ => none }
def wholeBlockRow : OpenClaim := { program := "ytmbnclpgldglnaa", sum := "716b7e7db4e303071f309c8ea0d00ca03b16b1b785ef6f3c80a02b6751959d9a", func := "garderobe/garderobetop.WholeBlock", spec := "wholeBlock", inPlace := ["internal/bytealg.MakeNoZero", "slices.overlaps[[]byte]"], unfollowed := true, recurses := true, plainKeys := false, apart := false }
def WholeBlockSaid : Prop := wholeBlockRow.holds Try.pinned (OpenSpec.ofChange wholeBlockSpec)

/-- ITS FALSE NEIGHBOUR: 'it returns false'. Refute it at one input. -/
def wholeBlockWrong : ChangeSpec := { name := "wholeBlock", fn := fun _ => fun
  | [d1, d2, d3, d4, d5] => { results := [.lit (.bool false)], args := [d1, d2, d3, d4, d5] }
  | _ => none }
def WholeBlockWrongFalsely : Prop := wholeBlockRow.holds Try.pinned (OpenSpec.ofChange wholeBlockWrong)

/- THE SECOND FORM. 'bulk': how many values and letters a reading holds, each counted each time it is reached (what is shared counts as often as it is met; a slice's spare places count too). A statement '..UptoSaid' is the law's where the arguments, and the package variables that the reading takes, are together of bulk at most 1048576: NARROWER than '..Said'. Prove '..Said' where nothing that the law and all that it calls make is longer than what came in: it says more and counts as full. Else prove '..UptoSaid'. A law counts once. -/
mutual
def uptoBulk {H : Type} : DataW H → Nat
  | .lit (.string bytes) => bytes.length + 1
  | .lit _ => 1
  | .nil => 1
  | .ptr d => uptoBulk d + 1
  | .slice elems spare => uptoBulkAll elems + uptoBulkAll spare + 1
  | .agg parts => uptoBulkAll parts + 1
  | .iface _ d => uptoBulk d + 1
  | .map entries => uptoBulkEntries entries + 1
  | .held _ => 1
def uptoBulkAll {H : Type} : List (DataW H) → Nat
  | [] => 0
  | d :: r => uptoBulk d + uptoBulkAll r
def uptoBulkEntries {H : Type} : List (Lit × DataW H) → Nat
  | [] => 0
  | x :: r => uptoBulkEntry x + uptoBulkEntries r
def uptoBulkEntry {H : Type} : Lit × DataW H → Nat
  | (.string bytes, d) => bytes.length + uptoBulk d + 1
  | (_, d) => uptoBulk d + 1
 end
def uptoSmall : (H : Type) → List (DataW H) → Bool := fun _ ds => decide (uptoBulkAll ds ≤ 1048576)
def OpenSpec.upto (s : _root_.Go.ChangeSpec) : _root_.Go.OpenSpec := { _root_.Go.OpenSpec.ofChange s with cond := some uptoSmall }

/-- 'garderobelaw07.CbcSeals', WHERE WHAT IT READS IS OF BULK AT MOST 1048576: true; the input reads as it did. -/
def cbcSealsUptoRow : OpenClaim := { program := "ytmbnclpgldglnaa", sum := "716b7e7db4e303071f309c8ea0d00ca03b16b1b785ef6f3c80a02b6751959d9a", func := "garderobe/garderobelaw07.CbcSeals", spec := "cbcSeals", inPlace := ["internal/bytealg.MakeNoZero"], unfollowed := true, recurses := true, plainKeys := false, apart := false, narrowed := true }
def CbcSealsUptoSaid : Prop := cbcSealsUptoRow.holds Try.pinned (OpenSpec.upto cbcSealsSpec)

/-- 'garderobelaw07.CbcOpens', WHERE WHAT IT READS IS OF BULK AT MOST 1048576: true; the input reads as it did. -/
def cbcOpensUptoRow : OpenClaim := { program := "ytmbnclpgldglnaa", sum := "716b7e7db4e303071f309c8ea0d00ca03b16b1b785ef6f3c80a02b6751959d9a", func := "garderobe/garderobelaw07.CbcOpens", spec := "cbcOpens", inPlace := ["internal/bytealg.MakeNoZero"], unfollowed := true, recurses := true, plainKeys := false, apart := false, narrowed := true }
def CbcOpensUptoSaid : Prop := cbcOpensUptoRow.holds Try.pinned (OpenSpec.upto cbcOpensSpec)

/-- 'garderobelaw07.CbcBack', WHERE WHAT IT READS IS OF BULK AT MOST 1048576: true; the input reads as it did. -/
def cbcBackUptoRow : OpenClaim := { program := "ytmbnclpgldglnaa", sum := "716b7e7db4e303071f309c8ea0d00ca03b16b1b785ef6f3c80a02b6751959d9a", func := "garderobe/garderobelaw07.CbcBack", spec := "cbcBack", inPlace := ["internal/bytealg.MakeNoZero"], unfollowed := true, recurses := true, plainKeys := false, apart := false, narrowed := true }
def CbcBackUptoSaid : Prop := cbcBackUptoRow.holds Try.pinned (OpenSpec.upto cbcBackSpec)

/-- 'garderobelaw07.CbcFill', WHERE WHAT IT READS IS OF BULK AT MOST 1048576: true; the input reads as it did. -/
def cbcFillUptoRow : OpenClaim := { program := "ytmbnclpgldglnaa", sum := "716b7e7db4e303071f309c8ea0d00ca03b16b1b785ef6f3c80a02b6751959d9a", func := "garderobe/garderobelaw07.CbcFill", spec := "cbcFill", inPlace := ["internal/bytealg.MakeNoZero"], unfollowed := true, recurses := true, plainKeys := false, apart := false, narrowed := true }
def CbcFillUptoSaid : Prop := cbcFillUptoRow.holds Try.pinned (OpenSpec.upto cbcFillSpec)

/-- 'garderobelaw10.SealSeals', WHERE WHAT IT READS IS OF BULK AT MOST 1048576: true; the input reads as it did. -/
def sealSealsUptoRow : OpenClaim := { program := "ytmbnclpgldglnaa", sum := "716b7e7db4e303071f309c8ea0d00ca03b16b1b785ef6f3c80a02b6751959d9a", func := "garderobe/garderobelaw10.SealSeals", spec := "sealSeals", inPlace := ["internal/bytealg.MakeNoZero", "slices.overlaps[[]byte]"], unfollowed := true, recurses := true, plainKeys := false, apart := false, narrowed := true }
def SealSealsUptoSaid : Prop := sealSealsUptoRow.holds Try.pinned (OpenSpec.upto sealSealsSpec)

/-- 'garderobelaw10.SealOpens', WHERE WHAT IT READS IS OF BULK AT MOST 1048576: true; the input reads as it did. -/
def sealOpensUptoRow : OpenClaim := { program := "ytmbnclpgldglnaa", sum := "716b7e7db4e303071f309c8ea0d00ca03b16b1b785ef6f3c80a02b6751959d9a", func := "garderobe/garderobelaw10.SealOpens", spec := "sealOpens", inPlace := ["slices.overlaps[[]byte]", "internal/bytealg.MakeNoZero"], unfollowed := true, recurses := true, plainKeys := false, apart := false, narrowed := true }
def SealOpensUptoSaid : Prop := sealOpensUptoRow.holds Try.pinned (OpenSpec.upto sealOpensSpec)

/-- 'garderobelaw10.SealBack', WHERE WHAT IT READS IS OF BULK AT MOST 1048576: true; the input reads as it did. -/
def sealBackUptoRow : OpenClaim := { program := "ytmbnclpgldglnaa", sum := "716b7e7db4e303071f309c8ea0d00ca03b16b1b785ef6f3c80a02b6751959d9a", func := "garderobe/garderobelaw10.SealBack", spec := "sealBack", inPlace := ["internal/bytealg.MakeNoZero", "slices.overlaps[[]byte]"], unfollowed := true, recurses := true, plainKeys := false, apart := false, narrowed := true }
def SealBackUptoSaid : Prop := sealBackUptoRow.holds Try.pinned (OpenSpec.upto sealBackSpec)

/-- 'garderobelaw10.SealSpoilt', WHERE WHAT IT READS IS OF BULK AT MOST 1048576: true; the input reads as it did. -/
def sealSpoiltUptoRow : OpenClaim := { program := "ytmbnclpgldglnaa", sum := "716b7e7db4e303071f309c8ea0d00ca03b16b1b785ef6f3c80a02b6751959d9a", func := "garderobe/garderobelaw10.SealSpoilt", spec := "sealSpoilt", inPlace := ["internal/bytealg.MakeNoZero", "slices.overlaps[[]byte]"], unfollowed := true, recurses := true, plainKeys := false, apart := false, narrowed := true }
def SealSpoiltUptoSaid : Prop := sealSpoiltUptoRow.holds Try.pinned (OpenSpec.upto sealSpoiltSpec)

/-- 'garderobetop.WholeBlock', WHERE WHAT IT READS IS OF BULK AT MOST 1048576: true; the input reads as it did. -/
def wholeBlockUptoRow : OpenClaim := { program := "ytmbnclpgldglnaa", sum := "716b7e7db4e303071f309c8ea0d00ca03b16b1b785ef6f3c80a02b6751959d9a", func := "garderobe/garderobetop.WholeBlock", spec := "wholeBlock", inPlace := ["internal/bytealg.MakeNoZero", "slices.overlaps[[]byte]"], unfollowed := true, recurses := true, plainKeys := false, apart := false, narrowed := true }
def WholeBlockUptoSaid : Prop := wholeBlockUptoRow.holds Try.pinned (OpenSpec.upto wholeBlockSpec)

end Rows
end Go.Proofs.Ytmbnclpgldglnaa
