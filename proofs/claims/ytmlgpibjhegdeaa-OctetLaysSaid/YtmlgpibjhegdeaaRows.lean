/-
  No cell of these rows narrows 'for every input' (looked for: loops, veiled, ifaces, maps, wideKeys, modest, calm, conditions, laid).
  DERIVED. THE GIVEN ROWS OF THIS SEAT. 12 by the template 'for every input the law returns true; each argument reads behind the call as it read before'; 0 by the template 'total and deterministic' (their statements: YtmlgpibjhegdeaaTotals.lean).
  GIVEN WITH THE SEED: the statements are not yours to turn. If you find one false, say at which input.
  Laid BY PROGRAM, IN A SANDBOX (cutbox-rows.mjs): the forced cells as the released guide's own fill.sh prints them over the translation f0818fb5630bdcdb… (all of the seat's roots in one cut). By AI agents, Wed Nov 11 2026. No macro, syntax, notation, axiom, sorry.
-/
import Derived.Test.YtmlgpibjhegdeaaChecked
import GoSem.Claim
import GoSem.ClaimJoined
import GoSem.ClaimMapViews
import Derived.JoinedTies
import Derived.KernelRfl
namespace Go.Proofs.Ytmlgpibjhegdeaa
/- THE CELL 'sum', in the pinned program and in every row, IS THE sha256 OF THE DUMP (.gsa) THAT YtmlgpibjhegdeaaProg.lean LOADS. Nothing in Lean hashes anything: it is a label: what it is worth is what the hold of that sum in a sandbox is worth. -/
noncomputable def Try.pinned : Pinned := { name := "ytmlgpibjhegdeaa", sum := "f0818fb5630bdcdb72e1554a1b6c4c7b6d7d7395e40172d3a19cdf9beac5f8c4", checked := Try.checked }
namespace Rows
def none {H : Type} : Left H := { results := [], args := [] }

/-- 'garderobelaw01.OctetLays': WHATEVER THE INPUT: true; the input reads as it did. -/
def octetLaysSpec : ChangeSpec := { name := "octetLays", fn := fun _ => fun
  | [d1, d2, d3, d4] => { results := [.lit (.bool true)], args := [d1, d2, d3, d4] }
  | _ => none }
def octetLaysRow : OpenClaim := { program := "ytmlgpibjhegdeaa", sum := "f0818fb5630bdcdb72e1554a1b6c4c7b6d7d7395e40172d3a19cdf9beac5f8c4", func := "garderobe/garderobelaw01.OctetLays", spec := "octetLays", plainKeys := false, apart := false }
def OctetLaysSaid : Prop := octetLaysRow.holds Try.pinned (OpenSpec.ofChange octetLaysSpec)

/-- ITS FALSE NEIGHBOUR: 'it returns false'. Refute it at one input. -/
def octetLaysWrong : ChangeSpec := { name := "octetLays", fn := fun _ => fun
  | [d1, d2, d3, d4] => { results := [.lit (.bool false)], args := [d1, d2, d3, d4] }
  | _ => none }
def OctetLaysWrongFalsely : Prop := octetLaysRow.holds Try.pinned (OpenSpec.ofChange octetLaysWrong)

/-- 'garderobelaw01.OctetTakes': WHATEVER THE INPUT: true; the input reads as it did. -/
def octetTakesSpec : ChangeSpec := { name := "octetTakes", fn := fun _ => fun
  | [d1, d2] => { results := [.lit (.bool true)], args := [d1, d2] }
  | _ => none }
def octetTakesRow : OpenClaim := { program := "ytmlgpibjhegdeaa", sum := "f0818fb5630bdcdb72e1554a1b6c4c7b6d7d7395e40172d3a19cdf9beac5f8c4", func := "garderobe/garderobelaw01.OctetTakes", spec := "octetTakes", plainKeys := false, apart := false }
def OctetTakesSaid : Prop := octetTakesRow.holds Try.pinned (OpenSpec.ofChange octetTakesSpec)

/-- ITS FALSE NEIGHBOUR: 'it returns false'. Refute it at one input. -/
def octetTakesWrong : ChangeSpec := { name := "octetTakes", fn := fun _ => fun
  | [d1, d2] => { results := [.lit (.bool false)], args := [d1, d2] }
  | _ => none }
def OctetTakesWrongFalsely : Prop := octetTakesRow.holds Try.pinned (OpenSpec.ofChange octetTakesWrong)

/-- 'garderobelaw01.OctetRound': WHATEVER THE INPUT: true; the input reads as it did. -/
def octetRoundSpec : ChangeSpec := { name := "octetRound", fn := fun _ => fun
  | [d1, d2] => { results := [.lit (.bool true)], args := [d1, d2] }
  | _ => none }
def octetRoundRow : OpenClaim := { program := "ytmlgpibjhegdeaa", sum := "f0818fb5630bdcdb72e1554a1b6c4c7b6d7d7395e40172d3a19cdf9beac5f8c4", func := "garderobe/garderobelaw01.OctetRound", spec := "octetRound", plainKeys := false, apart := false }
def OctetRoundSaid : Prop := octetRoundRow.holds Try.pinned (OpenSpec.ofChange octetRoundSpec)

/-- ITS FALSE NEIGHBOUR: 'it returns false'. Refute it at one input. -/
def octetRoundWrong : ChangeSpec := { name := "octetRound", fn := fun _ => fun
  | [d1, d2] => { results := [.lit (.bool false)], args := [d1, d2] }
  | _ => none }
def OctetRoundWrongFalsely : Prop := octetRoundRow.holds Try.pinned (OpenSpec.ofChange octetRoundWrong)

/-- 'garderobelaw01.OctetCuts': WHATEVER THE INPUT: true; the input reads as it did. -/
def octetCutsSpec : ChangeSpec := { name := "octetCuts", fn := fun _ => fun
  | [d1, d2, d3, d4] => { results := [.lit (.bool true)], args := [d1, d2, d3, d4] }
  | _ => none }
def octetCutsRow : OpenClaim := { program := "ytmlgpibjhegdeaa", sum := "f0818fb5630bdcdb72e1554a1b6c4c7b6d7d7395e40172d3a19cdf9beac5f8c4", func := "garderobe/garderobelaw01.OctetCuts", spec := "octetCuts", plainKeys := false, apart := false }
def OctetCutsSaid : Prop := octetCutsRow.holds Try.pinned (OpenSpec.ofChange octetCutsSpec)

/-- ITS FALSE NEIGHBOUR: 'it returns false'. Refute it at one input. -/
def octetCutsWrong : ChangeSpec := { name := "octetCuts", fn := fun _ => fun
  | [d1, d2, d3, d4] => { results := [.lit (.bool false)], args := [d1, d2, d3, d4] }
  | _ => none }
def OctetCutsWrongFalsely : Prop := octetCutsRow.holds Try.pinned (OpenSpec.ofChange octetCutsWrong)

/-- 'garderobelaw01.OctetNobody': WHATEVER THE INPUT: true; the input reads as it did. -/
def octetNobodySpec : ChangeSpec := { name := "octetNobody", fn := fun _ => fun
  | [d] => { results := [.lit (.bool true)], args := [d] }
  | _ => none }
def octetNobodyRow : OpenClaim := { program := "ytmlgpibjhegdeaa", sum := "f0818fb5630bdcdb72e1554a1b6c4c7b6d7d7395e40172d3a19cdf9beac5f8c4", func := "garderobe/garderobelaw01.OctetNobody", spec := "octetNobody", plainKeys := false, apart := false }
def OctetNobodySaid : Prop := octetNobodyRow.holds Try.pinned (OpenSpec.ofChange octetNobodySpec)

/-- ITS FALSE NEIGHBOUR: 'it returns false'. Refute it at one input. -/
def octetNobodyWrong : ChangeSpec := { name := "octetNobody", fn := fun _ => fun
  | [d] => { results := [.lit (.bool false)], args := [d] }
  | _ => none }
def OctetNobodyWrongFalsely : Prop := octetNobodyRow.holds Try.pinned (OpenSpec.ofChange octetNobodyWrong)

/-- 'garderobelaw12.TokenEncodes': WHATEVER THE INPUT: true; the input reads as it did. -/
def tokenEncodesSpec : ChangeSpec := { name := "tokenEncodes", fn := fun _ => fun
  | [d] => { results := [.lit (.bool true)], args := [d] }
  | _ => none }
def tokenEncodesRow : OpenClaim := { program := "ytmlgpibjhegdeaa", sum := "f0818fb5630bdcdb72e1554a1b6c4c7b6d7d7395e40172d3a19cdf9beac5f8c4", func := "garderobe/garderobelaw12.TokenEncodes", spec := "tokenEncodes", plainKeys := false, apart := false }
def TokenEncodesSaid : Prop := tokenEncodesRow.holds Try.pinned (OpenSpec.ofChange tokenEncodesSpec)

/-- ITS FALSE NEIGHBOUR: 'it returns false'. Refute it at one input. -/
def tokenEncodesWrong : ChangeSpec := { name := "tokenEncodes", fn := fun _ => fun
  | [d] => { results := [.lit (.bool false)], args := [d] }
  | _ => none }
def TokenEncodesWrongFalsely : Prop := tokenEncodesRow.holds Try.pinned (OpenSpec.ofChange tokenEncodesWrong)

/-- 'garderobelaw12.TokenDecodes': WHATEVER THE INPUT: true; the input reads as it did. -/
def tokenDecodesSpec : ChangeSpec := { name := "tokenDecodes", fn := fun _ => fun
  | [d] => { results := [.lit (.bool true)], args := [d] }
  | _ => none }
def tokenDecodesRow : OpenClaim := { program := "ytmlgpibjhegdeaa", sum := "f0818fb5630bdcdb72e1554a1b6c4c7b6d7d7395e40172d3a19cdf9beac5f8c4", func := "garderobe/garderobelaw12.TokenDecodes", spec := "tokenDecodes", plainKeys := false, apart := false }
def TokenDecodesSaid : Prop := tokenDecodesRow.holds Try.pinned (OpenSpec.ofChange tokenDecodesSpec)

/-- ITS FALSE NEIGHBOUR: 'it returns false'. Refute it at one input. -/
def tokenDecodesWrong : ChangeSpec := { name := "tokenDecodes", fn := fun _ => fun
  | [d] => { results := [.lit (.bool false)], args := [d] }
  | _ => none }
def TokenDecodesWrongFalsely : Prop := tokenDecodesRow.holds Try.pinned (OpenSpec.ofChange tokenDecodesWrong)

/-- 'garderobelaw12.TokenBack': WHATEVER THE INPUT: true; the input reads as it did. -/
def tokenBackSpec : ChangeSpec := { name := "tokenBack", fn := fun _ => fun
  | [d1, d2] => { results := [.lit (.bool true)], args := [d1, d2] }
  | _ => none }
def tokenBackRow : OpenClaim := { program := "ytmlgpibjhegdeaa", sum := "f0818fb5630bdcdb72e1554a1b6c4c7b6d7d7395e40172d3a19cdf9beac5f8c4", func := "garderobe/garderobelaw12.TokenBack", spec := "tokenBack", plainKeys := false, apart := false }
def TokenBackSaid : Prop := tokenBackRow.holds Try.pinned (OpenSpec.ofChange tokenBackSpec)

/-- ITS FALSE NEIGHBOUR: 'it returns false'. Refute it at one input. -/
def tokenBackWrong : ChangeSpec := { name := "tokenBack", fn := fun _ => fun
  | [d1, d2] => { results := [.lit (.bool false)], args := [d1, d2] }
  | _ => none }
def TokenBackWrongFalsely : Prop := tokenBackRow.holds Try.pinned (OpenSpec.ofChange tokenBackWrong)

/-- 'garderobelaw11.LzTokens': WHATEVER THE INPUT: true; the input reads as it did. -/
def lzTokensSpec : ChangeSpec := { name := "lzTokens", fn := fun _ => fun
  | [d] => { results := [.lit (.bool true)], args := [d] }
  | _ => none }
def lzTokensRow : OpenClaim := { program := "ytmlgpibjhegdeaa", sum := "f0818fb5630bdcdb72e1554a1b6c4c7b6d7d7395e40172d3a19cdf9beac5f8c4", func := "garderobe/garderobelaw11.LzTokens", spec := "lzTokens", unfollowed := true, recurses := true, plainKeys := false, apart := false }
def LzTokensSaid : Prop := lzTokensRow.holds Try.pinned (OpenSpec.ofChange lzTokensSpec)

/-- ITS FALSE NEIGHBOUR: 'it returns false'. Refute it at one input. -/
def lzTokensWrong : ChangeSpec := { name := "lzTokens", fn := fun _ => fun
  | [d] => { results := [.lit (.bool false)], args := [d] }
  | _ => none }
def LzTokensWrongFalsely : Prop := lzTokensRow.holds Try.pinned (OpenSpec.ofChange lzTokensWrong)

/-- 'garderobelaw11.LzExpands': WHATEVER THE INPUT: true; the input reads as it did. -/
def lzExpandsSpec : ChangeSpec := { name := "lzExpands", fn := fun _ => fun
  | [d1, d2, d3] => { results := [.lit (.bool true)], args := [d1, d2, d3] }
  | _ => none }
def lzExpandsRow : OpenClaim := { program := "ytmlgpibjhegdeaa", sum := "f0818fb5630bdcdb72e1554a1b6c4c7b6d7d7395e40172d3a19cdf9beac5f8c4", func := "garderobe/garderobelaw11.LzExpands", spec := "lzExpands", unfollowed := true, recurses := true, plainKeys := false, apart := false }
def LzExpandsSaid : Prop := lzExpandsRow.holds Try.pinned (OpenSpec.ofChange lzExpandsSpec)

/-- ITS FALSE NEIGHBOUR: 'it returns false'. Refute it at one input. -/
def lzExpandsWrong : ChangeSpec := { name := "lzExpands", fn := fun _ => fun
  | [d1, d2, d3] => { results := [.lit (.bool false)], args := [d1, d2, d3] }
  | _ => none }
def LzExpandsWrongFalsely : Prop := lzExpandsRow.holds Try.pinned (OpenSpec.ofChange lzExpandsWrong)

/-- 'garderobelaw11.LzBack': WHATEVER THE INPUT: true; the input reads as it did. -/
def lzBackSpec : ChangeSpec := { name := "lzBack", fn := fun _ => fun
  | [d] => { results := [.lit (.bool true)], args := [d] }
  | _ => none }
def lzBackRow : OpenClaim := { program := "ytmlgpibjhegdeaa", sum := "f0818fb5630bdcdb72e1554a1b6c4c7b6d7d7395e40172d3a19cdf9beac5f8c4", func := "garderobe/garderobelaw11.LzBack", spec := "lzBack", unfollowed := true, recurses := true, plainKeys := false, apart := false }
def LzBackSaid : Prop := lzBackRow.holds Try.pinned (OpenSpec.ofChange lzBackSpec)

/-- ITS FALSE NEIGHBOUR: 'it returns false'. Refute it at one input. -/
def lzBackWrong : ChangeSpec := { name := "lzBack", fn := fun _ => fun
  | [d] => { results := [.lit (.bool false)], args := [d] }
  | _ => none }
def LzBackWrongFalsely : Prop := lzBackRow.holds Try.pinned (OpenSpec.ofChange lzBackWrong)

/-- 'garderobelaw11.LzTwice': WHATEVER THE INPUT: true; the input reads as it did. -/
def lzTwiceSpec : ChangeSpec := { name := "lzTwice", fn := fun _ => fun
  | [d] => { results := [.lit (.bool true)], args := [d] }
  | _ => none }
def lzTwiceRow : OpenClaim := { program := "ytmlgpibjhegdeaa", sum := "f0818fb5630bdcdb72e1554a1b6c4c7b6d7d7395e40172d3a19cdf9beac5f8c4", func := "garderobe/garderobelaw11.LzTwice", spec := "lzTwice", unfollowed := true, recurses := true, plainKeys := false, apart := false }
def LzTwiceSaid : Prop := lzTwiceRow.holds Try.pinned (OpenSpec.ofChange lzTwiceSpec)

/-- ITS FALSE NEIGHBOUR: 'it returns false'. Refute it at one input. -/
def lzTwiceWrong : ChangeSpec := { name := "lzTwice", fn := fun _ => fun
  | [d] => { results := [.lit (.bool false)], args := [d] }
  | _ => none }
def LzTwiceWrongFalsely : Prop := lzTwiceRow.holds Try.pinned (OpenSpec.ofChange lzTwiceWrong)

/- THE SECOND FORM. 'bulk': how many values and letters a reading holds, each counted each time it is reached (what is shared counts as often as it is met; a slice's spare places count too). A statement '..UptoSaid' is the law's where the arguments, and the package variables that the reading takes, are together of bulk at most 1048576: NARROWER than '..Said'. Prove '..Said' where nothing that the law and all that it calls make is longer than what came in: it says more and counts as full. Else prove '..UptoSaid'. A law counts once. -/
mutual
def uptoBulk {H : Type} : DataW H → Nat
  | .lit (.string bytes) => bytes.length + 1
  | .lit _ => 1
  | .nil => 1
  | .ptr d => uptoBulk d + 1
  | .slice elems spare => uptoBulkAll elems + uptoBulkAll spare + 1
  | .agg parts => uptoBulkAll parts + 1
  | .iface _ d => uptoBulk d + 1
  | .map entries => uptoBulkEntries entries + 1
  | .held _ => 1
def uptoBulkAll {H : Type} : List (DataW H) → Nat
  | [] => 0
  | d :: r => uptoBulk d + uptoBulkAll r
def uptoBulkEntries {H : Type} : List (Lit × DataW H) → Nat
  | [] => 0
  | x :: r => uptoBulkEntry x + uptoBulkEntries r
def uptoBulkEntry {H : Type} : Lit × DataW H → Nat
  | (.string bytes, d) => bytes.length + uptoBulk d + 1
  | (_, d) => uptoBulk d + 1
 end
def uptoSmall : (H : Type) → List (DataW H) → Bool := fun _ ds => decide (uptoBulkAll ds ≤ 1048576)
def OpenSpec.upto (s : _root_.Go.ChangeSpec) : _root_.Go.OpenSpec := { _root_.Go.OpenSpec.ofChange s with cond := some uptoSmall }

/-- 'garderobelaw01.OctetLays', WHERE WHAT IT READS IS OF BULK AT MOST 1048576: true; the input reads as it did. -/
def octetLaysUptoRow : OpenClaim := { program := "ytmlgpibjhegdeaa", sum := "f0818fb5630bdcdb72e1554a1b6c4c7b6d7d7395e40172d3a19cdf9beac5f8c4", func := "garderobe/garderobelaw01.OctetLays", spec := "octetLays", plainKeys := false, apart := false, narrowed := true }
def OctetLaysUptoSaid : Prop := octetLaysUptoRow.holds Try.pinned (OpenSpec.upto octetLaysSpec)

/-- 'garderobelaw01.OctetTakes', WHERE WHAT IT READS IS OF BULK AT MOST 1048576: true; the input reads as it did. -/
def octetTakesUptoRow : OpenClaim := { program := "ytmlgpibjhegdeaa", sum := "f0818fb5630bdcdb72e1554a1b6c4c7b6d7d7395e40172d3a19cdf9beac5f8c4", func := "garderobe/garderobelaw01.OctetTakes", spec := "octetTakes", plainKeys := false, apart := false, narrowed := true }
def OctetTakesUptoSaid : Prop := octetTakesUptoRow.holds Try.pinned (OpenSpec.upto octetTakesSpec)

/-- 'garderobelaw01.OctetRound', WHERE WHAT IT READS IS OF BULK AT MOST 1048576: true; the input reads as it did. -/
def octetRoundUptoRow : OpenClaim := { program := "ytmlgpibjhegdeaa", sum := "f0818fb5630bdcdb72e1554a1b6c4c7b6d7d7395e40172d3a19cdf9beac5f8c4", func := "garderobe/garderobelaw01.OctetRound", spec := "octetRound", plainKeys := false, apart := false, narrowed := true }
def OctetRoundUptoSaid : Prop := octetRoundUptoRow.holds Try.pinned (OpenSpec.upto octetRoundSpec)

/-- 'garderobelaw01.OctetCuts', WHERE WHAT IT READS IS OF BULK AT MOST 1048576: true; the input reads as it did. -/
def octetCutsUptoRow : OpenClaim := { program := "ytmlgpibjhegdeaa", sum := "f0818fb5630bdcdb72e1554a1b6c4c7b6d7d7395e40172d3a19cdf9beac5f8c4", func := "garderobe/garderobelaw01.OctetCuts", spec := "octetCuts", plainKeys := false, apart := false, narrowed := true }
def OctetCutsUptoSaid : Prop := octetCutsUptoRow.holds Try.pinned (OpenSpec.upto octetCutsSpec)

/-- 'garderobelaw01.OctetNobody', WHERE WHAT IT READS IS OF BULK AT MOST 1048576: true; the input reads as it did. -/
def octetNobodyUptoRow : OpenClaim := { program := "ytmlgpibjhegdeaa", sum := "f0818fb5630bdcdb72e1554a1b6c4c7b6d7d7395e40172d3a19cdf9beac5f8c4", func := "garderobe/garderobelaw01.OctetNobody", spec := "octetNobody", plainKeys := false, apart := false, narrowed := true }
def OctetNobodyUptoSaid : Prop := octetNobodyUptoRow.holds Try.pinned (OpenSpec.upto octetNobodySpec)

/-- 'garderobelaw12.TokenEncodes', WHERE WHAT IT READS IS OF BULK AT MOST 1048576: true; the input reads as it did. -/
def tokenEncodesUptoRow : OpenClaim := { program := "ytmlgpibjhegdeaa", sum := "f0818fb5630bdcdb72e1554a1b6c4c7b6d7d7395e40172d3a19cdf9beac5f8c4", func := "garderobe/garderobelaw12.TokenEncodes", spec := "tokenEncodes", plainKeys := false, apart := false, narrowed := true }
def TokenEncodesUptoSaid : Prop := tokenEncodesUptoRow.holds Try.pinned (OpenSpec.upto tokenEncodesSpec)

/-- 'garderobelaw12.TokenDecodes', WHERE WHAT IT READS IS OF BULK AT MOST 1048576: true; the input reads as it did. -/
def tokenDecodesUptoRow : OpenClaim := { program := "ytmlgpibjhegdeaa", sum := "f0818fb5630bdcdb72e1554a1b6c4c7b6d7d7395e40172d3a19cdf9beac5f8c4", func := "garderobe/garderobelaw12.TokenDecodes", spec := "tokenDecodes", plainKeys := false, apart := false, narrowed := true }
def TokenDecodesUptoSaid : Prop := tokenDecodesUptoRow.holds Try.pinned (OpenSpec.upto tokenDecodesSpec)

/-- 'garderobelaw12.TokenBack', WHERE WHAT IT READS IS OF BULK AT MOST 1048576: true; the input reads as it did. -/
def tokenBackUptoRow : OpenClaim := { program := "ytmlgpibjhegdeaa", sum := "f0818fb5630bdcdb72e1554a1b6c4c7b6d7d7395e40172d3a19cdf9beac5f8c4", func := "garderobe/garderobelaw12.TokenBack", spec := "tokenBack", plainKeys := false, apart := false, narrowed := true }
def TokenBackUptoSaid : Prop := tokenBackUptoRow.holds Try.pinned (OpenSpec.upto tokenBackSpec)

/-- 'garderobelaw11.LzTokens', WHERE WHAT IT READS IS OF BULK AT MOST 1048576: true; the input reads as it did. -/
def lzTokensUptoRow : OpenClaim := { program := "ytmlgpibjhegdeaa", sum := "f0818fb5630bdcdb72e1554a1b6c4c7b6d7d7395e40172d3a19cdf9beac5f8c4", func := "garderobe/garderobelaw11.LzTokens", spec := "lzTokens", unfollowed := true, recurses := true, plainKeys := false, apart := false, narrowed := true }
def LzTokensUptoSaid : Prop := lzTokensUptoRow.holds Try.pinned (OpenSpec.upto lzTokensSpec)

/-- 'garderobelaw11.LzExpands', WHERE WHAT IT READS IS OF BULK AT MOST 1048576: true; the input reads as it did. -/
def lzExpandsUptoRow : OpenClaim := { program := "ytmlgpibjhegdeaa", sum := "f0818fb5630bdcdb72e1554a1b6c4c7b6d7d7395e40172d3a19cdf9beac5f8c4", func := "garderobe/garderobelaw11.LzExpands", spec := "lzExpands", unfollowed := true, recurses := true, plainKeys := false, apart := false, narrowed := true }
def LzExpandsUptoSaid : Prop := lzExpandsUptoRow.holds Try.pinned (OpenSpec.upto lzExpandsSpec)

/-- 'garderobelaw11.LzBack', WHERE WHAT IT READS IS OF BULK AT MOST 1048576: true; the input reads as it did. -/
def lzBackUptoRow : OpenClaim := { program := "ytmlgpibjhegdeaa", sum := "f0818fb5630bdcdb72e1554a1b6c4c7b6d7d7395e40172d3a19cdf9beac5f8c4", func := "garderobe/garderobelaw11.LzBack", spec := "lzBack", unfollowed := true, recurses := true, plainKeys := false, apart := false, narrowed := true }
def LzBackUptoSaid : Prop := lzBackUptoRow.holds Try.pinned (OpenSpec.upto lzBackSpec)

/-- 'garderobelaw11.LzTwice', WHERE WHAT IT READS IS OF BULK AT MOST 1048576: true; the input reads as it did. -/
def lzTwiceUptoRow : OpenClaim := { program := "ytmlgpibjhegdeaa", sum := "f0818fb5630bdcdb72e1554a1b6c4c7b6d7d7395e40172d3a19cdf9beac5f8c4", func := "garderobe/garderobelaw11.LzTwice", spec := "lzTwice", unfollowed := true, recurses := true, plainKeys := false, apart := false, narrowed := true }
def LzTwiceUptoSaid : Prop := lzTwiceUptoRow.holds Try.pinned (OpenSpec.upto lzTwiceSpec)

end Rows
end Go.Proofs.Ytmlgpibjhegdeaa
