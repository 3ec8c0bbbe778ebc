/-
  No cell of these rows narrows 'for every input' (looked for: loops, veiled, ifaces, maps, wideKeys, modest, calm, conditions, laid).
  DERIVED. THE GIVEN ROWS OF THIS SEAT. 12 by the template 'for every input the law returns true; each argument reads behind the call as it read before'; 0 by the template 'total and deterministic' (their statements: YtikganlbnhapcaaTotals.lean).
  GIVEN WITH THE SEED: the statements are not yours to turn. If you find one false, say at which input.
  Laid BY PROGRAM, IN A SANDBOX (cutbox-rows.mjs): the forced cells as the released guide's own fill.sh prints them over the translation d250aa512c8991c4… (all of the seat's roots in one cut). By AI agents, Wed Nov 11 2026. No macro, syntax, notation, axiom, sorry.
-/
import Derived.Test.YtikganlbnhapcaaChecked
import GoSem.Claim
import GoSem.ClaimJoined
import GoSem.ClaimMapViews
import Derived.JoinedTies
import Derived.KernelRfl
namespace Go.Proofs.Ytikganlbnhapcaa
/- THE CELL 'sum', in the pinned program and in every row, IS THE sha256 OF THE DUMP (.gsa) THAT YtikganlbnhapcaaProg.lean LOADS. Nothing in Lean hashes anything: it is a label: what it is worth is what the hold of that sum in a sandbox is worth. -/
noncomputable def Try.pinned : Pinned := { name := "ytikganlbnhapcaa", sum := "d250aa512c8991c4caec61c1e1efe8d5d56c92e040586978b43c7bdc4f8a5132", checked := Try.checked }
namespace Rows
def none {H : Type} : Left H := { results := [], args := [] }

/-- 'garderobelaw05.ShaParts': WHATEVER THE INPUT: true; the input reads as it did. -/
def shaPartsSpec : ChangeSpec := { name := "shaParts", fn := fun _ => fun
  | [d1, d2, d3] => { results := [.lit (.bool true)], args := [d1, d2, d3] }
  | _ => none }
def shaPartsRow : OpenClaim := { program := "ytikganlbnhapcaa", sum := "d250aa512c8991c4caec61c1e1efe8d5d56c92e040586978b43c7bdc4f8a5132", func := "garderobe/garderobelaw05.ShaParts", spec := "shaParts", unfollowed := true, recurses := true, apart := false }
def ShaPartsSaid : Prop := shaPartsRow.holds Try.pinned (OpenSpec.ofChange shaPartsSpec)

/-- ITS FALSE NEIGHBOUR: 'it returns false'. Refute it at one input. -/
def shaPartsWrong : ChangeSpec := { name := "shaParts", fn := fun _ => fun
  | [d1, d2, d3] => { results := [.lit (.bool false)], args := [d1, d2, d3] }
  | _ => none }
def ShaPartsWrongFalsely : Prop := shaPartsRow.holds Try.pinned (OpenSpec.ofChange shaPartsWrong)

/-- 'garderobelaw04.AesEncrypts': WHATEVER THE INPUT: true; the input reads as it did. -/
def aesEncryptsSpec : ChangeSpec := { name := "aesEncrypts", fn := fun _ => fun
  | [d1, d2, d3] => { results := [.lit (.bool true)], args := [d1, d2, d3] }
  | _ => none }
def aesEncryptsRow : OpenClaim := { program := "ytikganlbnhapcaa", sum := "d250aa512c8991c4caec61c1e1efe8d5d56c92e040586978b43c7bdc4f8a5132", func := "garderobe/garderobelaw04.AesEncrypts", spec := "aesEncrypts", apart := false }
def AesEncryptsSaid : Prop := aesEncryptsRow.holds Try.pinned (OpenSpec.ofChange aesEncryptsSpec)

/-- ITS FALSE NEIGHBOUR: 'it returns false'. Refute it at one input. -/
def aesEncryptsWrong : ChangeSpec := { name := "aesEncrypts", fn := fun _ => fun
  | [d1, d2, d3] => { results := [.lit (.bool false)], args := [d1, d2, d3] }
  | _ => none }
def AesEncryptsWrongFalsely : Prop := aesEncryptsRow.holds Try.pinned (OpenSpec.ofChange aesEncryptsWrong)

/-- 'garderobelaw04.AesBack': WHATEVER THE INPUT: true; the input reads as it did. -/
def aesBackSpec : ChangeSpec := { name := "aesBack", fn := fun _ => fun
  | [d1, d2, d3] => { results := [.lit (.bool true)], args := [d1, d2, d3] }
  | _ => none }
def aesBackRow : OpenClaim := { program := "ytikganlbnhapcaa", sum := "d250aa512c8991c4caec61c1e1efe8d5d56c92e040586978b43c7bdc4f8a5132", func := "garderobe/garderobelaw04.AesBack", spec := "aesBack", apart := false }
def AesBackSaid : Prop := aesBackRow.holds Try.pinned (OpenSpec.ofChange aesBackSpec)

/-- ITS FALSE NEIGHBOUR: 'it returns false'. Refute it at one input. -/
def aesBackWrong : ChangeSpec := { name := "aesBack", fn := fun _ => fun
  | [d1, d2, d3] => { results := [.lit (.bool false)], args := [d1, d2, d3] }
  | _ => none }
def AesBackWrongFalsely : Prop := aesBackRow.holds Try.pinned (OpenSpec.ofChange aesBackWrong)

/-- 'garderobelaw04.AesUnlike': WHATEVER THE INPUT: true; the input reads as it did. -/
def aesUnlikeSpec : ChangeSpec := { name := "aesUnlike", fn := fun _ => fun
  | [d1, d2, d3, d4] => { results := [.lit (.bool true)], args := [d1, d2, d3, d4] }
  | _ => none }
def aesUnlikeRow : OpenClaim := { program := "ytikganlbnhapcaa", sum := "d250aa512c8991c4caec61c1e1efe8d5d56c92e040586978b43c7bdc4f8a5132", func := "garderobe/garderobelaw04.AesUnlike", spec := "aesUnlike", apart := false }
def AesUnlikeSaid : Prop := aesUnlikeRow.holds Try.pinned (OpenSpec.ofChange aesUnlikeSpec)

/-- ITS FALSE NEIGHBOUR: 'it returns false'. Refute it at one input. -/
def aesUnlikeWrong : ChangeSpec := { name := "aesUnlike", fn := fun _ => fun
  | [d1, d2, d3, d4] => { results := [.lit (.bool false)], args := [d1, d2, d3, d4] }
  | _ => none }
def AesUnlikeWrongFalsely : Prop := aesUnlikeRow.holds Try.pinned (OpenSpec.ofChange aesUnlikeWrong)

/-- 'garderobelaw04.AesNone': WHATEVER THE INPUT: true; the input reads as it did. -/
def aesNoneSpec : ChangeSpec := { name := "aesNone", fn := fun _ => fun
  | [d1, d2] => { results := [.lit (.bool true)], args := [d1, d2] }
  | _ => none }
def aesNoneRow : OpenClaim := { program := "ytikganlbnhapcaa", sum := "d250aa512c8991c4caec61c1e1efe8d5d56c92e040586978b43c7bdc4f8a5132", func := "garderobe/garderobelaw04.AesNone", spec := "aesNone", apart := false }
def AesNoneSaid : Prop := aesNoneRow.holds Try.pinned (OpenSpec.ofChange aesNoneSpec)

/-- ITS FALSE NEIGHBOUR: 'it returns false'. Refute it at one input. -/
def aesNoneWrong : ChangeSpec := { name := "aesNone", fn := fun _ => fun
  | [d1, d2] => { results := [.lit (.bool false)], args := [d1, d2] }
  | _ => none }
def AesNoneWrongFalsely : Prop := aesNoneRow.holds Try.pinned (OpenSpec.ofChange aesNoneWrong)

/-- 'garderobelaw09.DrawBack': WHATEVER THE INPUT: true; the input reads as it did. -/
def drawBackSpec : ChangeSpec := { name := "drawBack", fn := fun _ => fun
  | [d1, d2] => { results := [.lit (.bool true)], args := [d1, d2] }
  | _ => none }
def drawBackRow : OpenClaim := { program := "ytikganlbnhapcaa", sum := "d250aa512c8991c4caec61c1e1efe8d5d56c92e040586978b43c7bdc4f8a5132", func := "garderobe/garderobelaw09.DrawBack", spec := "drawBack", unfollowed := true, recurses := true, apart := false }
def DrawBackSaid : Prop := drawBackRow.holds Try.pinned (OpenSpec.ofChange drawBackSpec)

/-- ITS FALSE NEIGHBOUR: 'it returns false'. Refute it at one input. -/
def drawBackWrong : ChangeSpec := { name := "drawBack", fn := fun _ => fun
  | [d1, d2] => { results := [.lit (.bool false)], args := [d1, d2] }
  | _ => none }
def DrawBackWrongFalsely : Prop := drawBackRow.holds Try.pinned (OpenSpec.ofChange drawBackWrong)

/-- 'garderobelaw05.ShaOf': WHATEVER THE INPUT: true; the input reads as it did. -/
def shaOfSpec : ChangeSpec := { name := "shaOf", fn := fun _ => fun
  | [d1, d2, d3] => { results := [.lit (.bool true)], args := [d1, d2, d3] }
  | _ => none }
def shaOfRow : OpenClaim := { program := "ytikganlbnhapcaa", sum := "d250aa512c8991c4caec61c1e1efe8d5d56c92e040586978b43c7bdc4f8a5132", func := "garderobe/garderobelaw05.ShaOf", spec := "shaOf", unfollowed := true, recurses := true, apart := false }
def ShaOfSaid : Prop := shaOfRow.holds Try.pinned (OpenSpec.ofChange shaOfSpec)

/-- ITS FALSE NEIGHBOUR: 'it returns false'. Refute it at one input. -/
def shaOfWrong : ChangeSpec := { name := "shaOf", fn := fun _ => fun
  | [d1, d2, d3] => { results := [.lit (.bool false)], args := [d1, d2, d3] }
  | _ => none }
def ShaOfWrongFalsely : Prop := shaOfRow.holds Try.pinned (OpenSpec.ofChange shaOfWrong)

/-- 'garderobelaw15.SheetLays': WHATEVER THE INPUT: true; the input reads as it did. -/
def sheetLaysSpec : ChangeSpec := { name := "sheetLays", fn := fun _ => fun
  | [d1, d2, d3, d4] => { results := [.lit (.bool true)], args := [d1, d2, d3, d4] }
  | _ => none }
def sheetLaysRow : OpenClaim := { program := "ytikganlbnhapcaa", sum := "d250aa512c8991c4caec61c1e1efe8d5d56c92e040586978b43c7bdc4f8a5132", func := "garderobe/garderobelaw15.SheetLays", spec := "sheetLays", unfollowed := true, recurses := true, apart := false }
def SheetLaysSaid : Prop := sheetLaysRow.holds Try.pinned (OpenSpec.ofChange sheetLaysSpec)

/-- ITS FALSE NEIGHBOUR: 'it returns false'. Refute it at one input. -/
def sheetLaysWrong : ChangeSpec := { name := "sheetLays", fn := fun _ => fun
  | [d1, d2, d3, d4] => { results := [.lit (.bool false)], args := [d1, d2, d3, d4] }
  | _ => none }
def SheetLaysWrongFalsely : Prop := sheetLaysRow.holds Try.pinned (OpenSpec.ofChange sheetLaysWrong)

/-- 'garderobelaw15.SheetLifts': WHATEVER THE INPUT: true; the input reads as it did. -/
def sheetLiftsSpec : ChangeSpec := { name := "sheetLifts", fn := fun _ => fun
  | [d] => { results := [.lit (.bool true)], args := [d] }
  | _ => none }
def sheetLiftsRow : OpenClaim := { program := "ytikganlbnhapcaa", sum := "d250aa512c8991c4caec61c1e1efe8d5d56c92e040586978b43c7bdc4f8a5132", func := "garderobe/garderobelaw15.SheetLifts", spec := "sheetLifts", unfollowed := true, recurses := true, apart := false }
def SheetLiftsSaid : Prop := sheetLiftsRow.holds Try.pinned (OpenSpec.ofChange sheetLiftsSpec)

/-- ITS FALSE NEIGHBOUR: 'it returns false'. Refute it at one input. -/
def sheetLiftsWrong : ChangeSpec := { name := "sheetLifts", fn := fun _ => fun
  | [d] => { results := [.lit (.bool false)], args := [d] }
  | _ => none }
def SheetLiftsWrongFalsely : Prop := sheetLiftsRow.holds Try.pinned (OpenSpec.ofChange sheetLiftsWrong)

/-- 'garderobelaw15.SheetRound': WHATEVER THE INPUT: true; the input reads as it did. -/
def sheetRoundSpec : ChangeSpec := { name := "sheetRound", fn := fun _ => fun
  | [d1, d2, d3, d4] => { results := [.lit (.bool true)], args := [d1, d2, d3, d4] }
  | _ => none }
def sheetRoundRow : OpenClaim := { program := "ytikganlbnhapcaa", sum := "d250aa512c8991c4caec61c1e1efe8d5d56c92e040586978b43c7bdc4f8a5132", func := "garderobe/garderobelaw15.SheetRound", spec := "sheetRound", unfollowed := true, recurses := true, apart := false }
def SheetRoundSaid : Prop := sheetRoundRow.holds Try.pinned (OpenSpec.ofChange sheetRoundSpec)

/-- ITS FALSE NEIGHBOUR: 'it returns false'. Refute it at one input. -/
def sheetRoundWrong : ChangeSpec := { name := "sheetRound", fn := fun _ => fun
  | [d1, d2, d3, d4] => { results := [.lit (.bool false)], args := [d1, d2, d3, d4] }
  | _ => none }
def SheetRoundWrongFalsely : Prop := sheetRoundRow.holds Try.pinned (OpenSpec.ofChange sheetRoundWrong)

/-- 'garderobelaw15.SheetOlder': WHATEVER THE INPUT: true; the input reads as it did. -/
def sheetOlderSpec : ChangeSpec := { name := "sheetOlder", fn := fun _ => fun
  | [d1, d2, d3, d4, d5, d6, d7, d8] => { results := [.lit (.bool true)], args := [d1, d2, d3, d4, d5, d6, d7, d8] }
  | _ => none }
def sheetOlderRow : OpenClaim := { program := "ytikganlbnhapcaa", sum := "d250aa512c8991c4caec61c1e1efe8d5d56c92e040586978b43c7bdc4f8a5132", func := "garderobe/garderobelaw15.SheetOlder", spec := "sheetOlder", unfollowed := true, recurses := true, apart := false }
def SheetOlderSaid : Prop := sheetOlderRow.holds Try.pinned (OpenSpec.ofChange sheetOlderSpec)

/-- ITS FALSE NEIGHBOUR: 'it returns false'. Refute it at one input. -/
def sheetOlderWrong : ChangeSpec := { name := "sheetOlder", fn := fun _ => fun
  | [d1, d2, d3, d4, d5, d6, d7, d8] => { results := [.lit (.bool false)], args := [d1, d2, d3, d4, d5, d6, d7, d8] }
  | _ => none }
def SheetOlderWrongFalsely : Prop := sheetOlderRow.holds Try.pinned (OpenSpec.ofChange sheetOlderWrong)

/-- 'garderobelaw09.DrawKeys': WHATEVER THE INPUT: true; the input reads as it did. -/
def drawKeysSpec : ChangeSpec := { name := "drawKeys", fn := fun _ => fun
  | [d1, d2, d3] => { results := [.lit (.bool true)], args := [d1, d2, d3] }
  | _ => none }
def drawKeysRow : OpenClaim := { program := "ytikganlbnhapcaa", sum := "d250aa512c8991c4caec61c1e1efe8d5d56c92e040586978b43c7bdc4f8a5132", func := "garderobe/garderobelaw09.DrawKeys", spec := "drawKeys", unfollowed := true, recurses := true, apart := false }
def DrawKeysSaid : Prop := drawKeysRow.holds Try.pinned (OpenSpec.ofChange drawKeysSpec)

/-- ITS FALSE NEIGHBOUR: 'it returns false'. Refute it at one input. -/
def drawKeysWrong : ChangeSpec := { name := "drawKeys", fn := fun _ => fun
  | [d1, d2, d3] => { results := [.lit (.bool false)], args := [d1, d2, d3] }
  | _ => none }
def DrawKeysWrongFalsely : Prop := drawKeysRow.holds Try.pinned (OpenSpec.ofChange drawKeysWrong)

/- THE SECOND FORM. 'bulk': how many values and letters a reading holds, each counted each time it is reached (what is shared counts as often as it is met; a slice's spare places count too). A statement '..UptoSaid' is the law's where the arguments, and the package variables that the reading takes, are together of bulk at most 1048576: NARROWER than '..Said'. Prove '..Said' where nothing that the law and all that it calls make is longer than what came in: it says more and counts as full. Else prove '..UptoSaid'. A law counts once. -/
mutual
def uptoBulk {H : Type} : DataW H → Nat
  | .lit (.string bytes) => bytes.length + 1
  | .lit _ => 1
  | .nil => 1
  | .ptr d => uptoBulk d + 1
  | .slice elems spare => uptoBulkAll elems + uptoBulkAll spare + 1
  | .agg parts => uptoBulkAll parts + 1
  | .iface _ d => uptoBulk d + 1
  | .map entries => uptoBulkEntries entries + 1
  | .held _ => 1
def uptoBulkAll {H : Type} : List (DataW H) → Nat
  | [] => 0
  | d :: r => uptoBulk d + uptoBulkAll r
def uptoBulkEntries {H : Type} : List (Lit × DataW H) → Nat
  | [] => 0
  | x :: r => uptoBulkEntry x + uptoBulkEntries r
def uptoBulkEntry {H : Type} : Lit × DataW H → Nat
  | (.string bytes, d) => bytes.length + uptoBulk d + 1
  | (_, d) => uptoBulk d + 1
 end
def uptoSmall : (H : Type) → List (DataW H) → Bool := fun _ ds => decide (uptoBulkAll ds ≤ 1048576)
def OpenSpec.upto (s : _root_.Go.ChangeSpec) : _root_.Go.OpenSpec := { _root_.Go.OpenSpec.ofChange s with cond := some uptoSmall }

/-- 'garderobelaw05.ShaParts', WHERE WHAT IT READS IS OF BULK AT MOST 1048576: true; the input reads as it did. -/
def shaPartsUptoRow : OpenClaim := { program := "ytikganlbnhapcaa", sum := "d250aa512c8991c4caec61c1e1efe8d5d56c92e040586978b43c7bdc4f8a5132", func := "garderobe/garderobelaw05.ShaParts", spec := "shaParts", unfollowed := true, recurses := true, apart := false, narrowed := true }
def ShaPartsUptoSaid : Prop := shaPartsUptoRow.holds Try.pinned (OpenSpec.upto shaPartsSpec)

/-- 'garderobelaw04.AesEncrypts', WHERE WHAT IT READS IS OF BULK AT MOST 1048576: true; the input reads as it did. -/
def aesEncryptsUptoRow : OpenClaim := { program := "ytikganlbnhapcaa", sum := "d250aa512c8991c4caec61c1e1efe8d5d56c92e040586978b43c7bdc4f8a5132", func := "garderobe/garderobelaw04.AesEncrypts", spec := "aesEncrypts", apart := false, narrowed := true }
def AesEncryptsUptoSaid : Prop := aesEncryptsUptoRow.holds Try.pinned (OpenSpec.upto aesEncryptsSpec)

/-- 'garderobelaw04.AesBack', WHERE WHAT IT READS IS OF BULK AT MOST 1048576: true; the input reads as it did. -/
def aesBackUptoRow : OpenClaim := { program := "ytikganlbnhapcaa", sum := "d250aa512c8991c4caec61c1e1efe8d5d56c92e040586978b43c7bdc4f8a5132", func := "garderobe/garderobelaw04.AesBack", spec := "aesBack", apart := false, narrowed := true }
def AesBackUptoSaid : Prop := aesBackUptoRow.holds Try.pinned (OpenSpec.upto aesBackSpec)

/-- 'garderobelaw04.AesUnlike', WHERE WHAT IT READS IS OF BULK AT MOST 1048576: true; the input reads as it did. -/
def aesUnlikeUptoRow : OpenClaim := { program := "ytikganlbnhapcaa", sum := "d250aa512c8991c4caec61c1e1efe8d5d56c92e040586978b43c7bdc4f8a5132", func := "garderobe/garderobelaw04.AesUnlike", spec := "aesUnlike", apart := false, narrowed := true }
def AesUnlikeUptoSaid : Prop := aesUnlikeUptoRow.holds Try.pinned (OpenSpec.upto aesUnlikeSpec)

/-- 'garderobelaw04.AesNone', WHERE WHAT IT READS IS OF BULK AT MOST 1048576: true; the input reads as it did. -/
def aesNoneUptoRow : OpenClaim := { program := "ytikganlbnhapcaa", sum := "d250aa512c8991c4caec61c1e1efe8d5d56c92e040586978b43c7bdc4f8a5132", func := "garderobe/garderobelaw04.AesNone", spec := "aesNone", apart := false, narrowed := true }
def AesNoneUptoSaid : Prop := aesNoneUptoRow.holds Try.pinned (OpenSpec.upto aesNoneSpec)

/-- 'garderobelaw09.DrawBack', WHERE WHAT IT READS IS OF BULK AT MOST 1048576: true; the input reads as it did. -/
def drawBackUptoRow : OpenClaim := { program := "ytikganlbnhapcaa", sum := "d250aa512c8991c4caec61c1e1efe8d5d56c92e040586978b43c7bdc4f8a5132", func := "garderobe/garderobelaw09.DrawBack", spec := "drawBack", unfollowed := true, recurses := true, apart := false, narrowed := true }
def DrawBackUptoSaid : Prop := drawBackUptoRow.holds Try.pinned (OpenSpec.upto drawBackSpec)

/-- 'garderobelaw05.ShaOf', WHERE WHAT IT READS IS OF BULK AT MOST 1048576: true; the input reads as it did. -/
def shaOfUptoRow : OpenClaim := { program := "ytikganlbnhapcaa", sum := "d250aa512c8991c4caec61c1e1efe8d5d56c92e040586978b43c7bdc4f8a5132", func := "garderobe/garderobelaw05.ShaOf", spec := "shaOf", unfollowed := true, recurses := true, apart := false, narrowed := true }
def ShaOfUptoSaid : Prop := shaOfUptoRow.holds Try.pinned (OpenSpec.upto shaOfSpec)

/-- 'garderobelaw15.SheetLays', WHERE WHAT IT READS IS OF BULK AT MOST 1048576: true; the input reads as it did. -/
def sheetLaysUptoRow : OpenClaim := { program := "ytikganlbnhapcaa", sum := "d250aa512c8991c4caec61c1e1efe8d5d56c92e040586978b43c7bdc4f8a5132", func := "garderobe/garderobelaw15.SheetLays", spec := "sheetLays", unfollowed := true, recurses := true, apart := false, narrowed := true }
def SheetLaysUptoSaid : Prop := sheetLaysUptoRow.holds Try.pinned (OpenSpec.upto sheetLaysSpec)

/-- 'garderobelaw15.SheetLifts', WHERE WHAT IT READS IS OF BULK AT MOST 1048576: true; the input reads as it did. -/
def sheetLiftsUptoRow : OpenClaim := { program := "ytikganlbnhapcaa", sum := "d250aa512c8991c4caec61c1e1efe8d5d56c92e040586978b43c7bdc4f8a5132", func := "garderobe/garderobelaw15.SheetLifts", spec := "sheetLifts", unfollowed := true, recurses := true, apart := false, narrowed := true }
def SheetLiftsUptoSaid : Prop := sheetLiftsUptoRow.holds Try.pinned (OpenSpec.upto sheetLiftsSpec)

/-- 'garderobelaw15.SheetRound', WHERE WHAT IT READS IS OF BULK AT MOST 1048576: true; the input reads as it did. -/
def sheetRoundUptoRow : OpenClaim := { program := "ytikganlbnhapcaa", sum := "d250aa512c8991c4caec61c1e1efe8d5d56c92e040586978b43c7bdc4f8a5132", func := "garderobe/garderobelaw15.SheetRound", spec := "sheetRound", unfollowed := true, recurses := true, apart := false, narrowed := true }
def SheetRoundUptoSaid : Prop := sheetRoundUptoRow.holds Try.pinned (OpenSpec.upto sheetRoundSpec)

/-- 'garderobelaw15.SheetOlder', WHERE WHAT IT READS IS OF BULK AT MOST 1048576: true; the input reads as it did. -/
def sheetOlderUptoRow : OpenClaim := { program := "ytikganlbnhapcaa", sum := "d250aa512c8991c4caec61c1e1efe8d5d56c92e040586978b43c7bdc4f8a5132", func := "garderobe/garderobelaw15.SheetOlder", spec := "sheetOlder", unfollowed := true, recurses := true, apart := false, narrowed := true }
def SheetOlderUptoSaid : Prop := sheetOlderUptoRow.holds Try.pinned (OpenSpec.upto sheetOlderSpec)

/-- 'garderobelaw09.DrawKeys', WHERE WHAT IT READS IS OF BULK AT MOST 1048576: true; the input reads as it did. -/
def drawKeysUptoRow : OpenClaim := { program := "ytikganlbnhapcaa", sum := "d250aa512c8991c4caec61c1e1efe8d5d56c92e040586978b43c7bdc4f8a5132", func := "garderobe/garderobelaw09.DrawKeys", spec := "drawKeys", unfollowed := true, recurses := true, apart := false, narrowed := true }
def DrawKeysUptoSaid : Prop := drawKeysUptoRow.holds Try.pinned (OpenSpec.upto drawKeysSpec)

end Rows
end Go.Proofs.Ytikganlbnhapcaa
