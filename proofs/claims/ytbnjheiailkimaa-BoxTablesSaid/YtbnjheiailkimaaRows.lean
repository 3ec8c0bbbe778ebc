/-
  No cell of these rows narrows 'for every input' (looked for: loops, veiled, ifaces, maps, wideKeys, modest, calm, conditions, laid).
  DERIVED. THE GIVEN ROWS OF THIS SEAT. 8 by the template 'for every input the law returns true; each argument reads behind the call as it read before'; 0 by the template 'total and deterministic' (their statements: YtbnjheiailkimaaTotals.lean).
  GIVEN WITH THE SEED: the statements are not yours to turn. If you find one false, say at which input.
  Laid BY PROGRAM, IN A SANDBOX (cutbox-rows.mjs): the forced cells as the released guide's own fill.sh prints them over the translation 74e9459bf59ebebc… (all of the seat's roots in one cut). By AI agents, Wed Nov 11 2026. No macro, syntax, notation, axiom, sorry.
-/
import Derived.Test.YtbnjheiailkimaaChecked
import GoSem.Claim
import GoSem.ClaimJoined
import GoSem.ClaimMapViews
import Derived.JoinedTies
import Derived.KernelRfl
namespace Go.Proofs.Ytbnjheiailkimaa
/- THE CELL 'sum', in the pinned program and in every row, IS THE sha256 OF THE DUMP (.gsa) THAT YtbnjheiailkimaaProg.lean LOADS. Nothing in Lean hashes anything: it is a label: what it is worth is what the hold of that sum in a sandbox is worth. -/
noncomputable def Try.pinned : Pinned := { name := "ytbnjheiailkimaa", sum := "74e9459bf59ebebc441917541771982ca6a50be748ae5d8686c5d12abd04e428", checked := Try.checked }
namespace Rows
def none {H : Type} : Left H := { results := [], args := [] }

/-- 'garderobelaw02.CrcMore': WHATEVER THE INPUT: true; the input reads as it did. -/
def crcMoreSpec : ChangeSpec := { name := "crcMore", fn := fun _ => fun
  | [d1, d2] => { results := [.lit (.bool true)], args := [d1, d2] }
  | _ => none }
def crcMoreRow : OpenClaim := { program := "ytbnjheiailkimaa", sum := "74e9459bf59ebebc441917541771982ca6a50be748ae5d8686c5d12abd04e428", func := "garderobe/garderobelaw02.CrcMore", spec := "crcMore", apart := false }
def CrcMoreSaid : Prop := crcMoreRow.holds Try.pinned (OpenSpec.ofChange crcMoreSpec)

/-- ITS FALSE NEIGHBOUR: 'it returns false'. Refute it at one input. -/
def crcMoreWrong : ChangeSpec := { name := "crcMore", fn := fun _ => fun
  | [d1, d2] => { results := [.lit (.bool false)], args := [d1, d2] }
  | _ => none }
def CrcMoreWrongFalsely : Prop := crcMoreRow.holds Try.pinned (OpenSpec.ofChange crcMoreWrong)

/-- 'garderobelaw02.CrcParts': WHATEVER THE INPUT: true; the input reads as it did. -/
def crcPartsSpec : ChangeSpec := { name := "crcParts", fn := fun _ => fun
  | [d1, d2, d3] => { results := [.lit (.bool true)], args := [d1, d2, d3] }
  | _ => none }
def crcPartsRow : OpenClaim := { program := "ytbnjheiailkimaa", sum := "74e9459bf59ebebc441917541771982ca6a50be748ae5d8686c5d12abd04e428", func := "garderobe/garderobelaw02.CrcParts", spec := "crcParts", apart := false }
def CrcPartsSaid : Prop := crcPartsRow.holds Try.pinned (OpenSpec.ofChange crcPartsSpec)

/-- ITS FALSE NEIGHBOUR: 'it returns false'. Refute it at one input. -/
def crcPartsWrong : ChangeSpec := { name := "crcParts", fn := fun _ => fun
  | [d1, d2, d3] => { results := [.lit (.bool false)], args := [d1, d2, d3] }
  | _ => none }
def CrcPartsWrongFalsely : Prop := crcPartsRow.holds Try.pinned (OpenSpec.ofChange crcPartsWrong)

/-- 'garderobelaw02.CrcDamage': WHATEVER THE INPUT: true; the input reads as it did. -/
def crcDamageSpec : ChangeSpec := { name := "crcDamage", fn := fun _ => fun
  | [d1, d2, d3] => { results := [.lit (.bool true)], args := [d1, d2, d3] }
  | _ => none }
def crcDamageRow : OpenClaim := { program := "ytbnjheiailkimaa", sum := "74e9459bf59ebebc441917541771982ca6a50be748ae5d8686c5d12abd04e428", func := "garderobe/garderobelaw02.CrcDamage", spec := "crcDamage", apart := false }
def CrcDamageSaid : Prop := crcDamageRow.holds Try.pinned (OpenSpec.ofChange crcDamageSpec)

/-- ITS FALSE NEIGHBOUR: 'it returns false'. Refute it at one input. -/
def crcDamageWrong : ChangeSpec := { name := "crcDamage", fn := fun _ => fun
  | [d1, d2, d3] => { results := [.lit (.bool false)], args := [d1, d2, d3] }
  | _ => none }
def CrcDamageWrongFalsely : Prop := crcDamageRow.holds Try.pinned (OpenSpec.ofChange crcDamageWrong)

/-- 'garderobelaw02.CrcLinear': WHATEVER THE INPUT: true; the input reads as it did. -/
def crcLinearSpec : ChangeSpec := { name := "crcLinear", fn := fun _ => fun
  | [d1, d2, d3] => { results := [.lit (.bool true)], args := [d1, d2, d3] }
  | _ => none }
def crcLinearRow : OpenClaim := { program := "ytbnjheiailkimaa", sum := "74e9459bf59ebebc441917541771982ca6a50be748ae5d8686c5d12abd04e428", func := "garderobe/garderobelaw02.CrcLinear", spec := "crcLinear", apart := false }
def CrcLinearSaid : Prop := crcLinearRow.holds Try.pinned (OpenSpec.ofChange crcLinearSpec)

/-- ITS FALSE NEIGHBOUR: 'it returns false'. Refute it at one input. -/
def crcLinearWrong : ChangeSpec := { name := "crcLinear", fn := fun _ => fun
  | [d1, d2, d3] => { results := [.lit (.bool false)], args := [d1, d2, d3] }
  | _ => none }
def CrcLinearWrongFalsely : Prop := crcLinearRow.holds Try.pinned (OpenSpec.ofChange crcLinearWrong)

/-- 'garderobelaw03.BoxMuls': WHATEVER THE INPUT: true; the input reads as it did. -/
def boxMulsSpec : ChangeSpec := { name := "boxMuls", fn := fun _ => fun
  | [d1, d2] => { results := [.lit (.bool true)], args := [d1, d2] }
  | _ => none }
def boxMulsRow : OpenClaim := { program := "ytbnjheiailkimaa", sum := "74e9459bf59ebebc441917541771982ca6a50be748ae5d8686c5d12abd04e428", func := "garderobe/garderobelaw03.BoxMuls", spec := "boxMuls", apart := false }
def BoxMulsSaid : Prop := boxMulsRow.holds Try.pinned (OpenSpec.ofChange boxMulsSpec)

/-- ITS FALSE NEIGHBOUR: 'it returns false'. Refute it at one input. -/
def boxMulsWrong : ChangeSpec := { name := "boxMuls", fn := fun _ => fun
  | [d1, d2] => { results := [.lit (.bool false)], args := [d1, d2] }
  | _ => none }
def BoxMulsWrongFalsely : Prop := boxMulsRow.holds Try.pinned (OpenSpec.ofChange boxMulsWrong)

/-- 'garderobelaw03.BoxTables': WHATEVER THE INPUT: true; the input reads as it did. -/
def boxTablesSpec : ChangeSpec := { name := "boxTables", fn := fun _ => fun
  | [d] => { results := [.lit (.bool true)], args := [d] }
  | _ => none }
def boxTablesRow : OpenClaim := { program := "ytbnjheiailkimaa", sum := "74e9459bf59ebebc441917541771982ca6a50be748ae5d8686c5d12abd04e428", func := "garderobe/garderobelaw03.BoxTables", spec := "boxTables", apart := false }
def BoxTablesSaid : Prop := boxTablesRow.holds Try.pinned (OpenSpec.ofChange boxTablesSpec)

/-- ITS FALSE NEIGHBOUR: 'it returns false'. Refute it at one input. -/
def boxTablesWrong : ChangeSpec := { name := "boxTables", fn := fun _ => fun
  | [d] => { results := [.lit (.bool false)], args := [d] }
  | _ => none }
def BoxTablesWrongFalsely : Prop := boxTablesRow.holds Try.pinned (OpenSpec.ofChange boxTablesWrong)

/-- 'garderobelaw03.BoxInverts': WHATEVER THE INPUT: true; the input reads as it did. -/
def boxInvertsSpec : ChangeSpec := { name := "boxInverts", fn := fun _ => fun
  | [d] => { results := [.lit (.bool true)], args := [d] }
  | _ => none }
def boxInvertsRow : OpenClaim := { program := "ytbnjheiailkimaa", sum := "74e9459bf59ebebc441917541771982ca6a50be748ae5d8686c5d12abd04e428", func := "garderobe/garderobelaw03.BoxInverts", spec := "boxInverts", apart := false }
def BoxInvertsSaid : Prop := boxInvertsRow.holds Try.pinned (OpenSpec.ofChange boxInvertsSpec)

/-- ITS FALSE NEIGHBOUR: 'it returns false'. Refute it at one input. -/
def boxInvertsWrong : ChangeSpec := { name := "boxInverts", fn := fun _ => fun
  | [d] => { results := [.lit (.bool false)], args := [d] }
  | _ => none }
def BoxInvertsWrongFalsely : Prop := boxInvertsRow.holds Try.pinned (OpenSpec.ofChange boxInvertsWrong)

/-- 'garderobelaw03.BoxFields': WHATEVER THE INPUT: true; the input reads as it did. -/
def boxFieldsSpec : ChangeSpec := { name := "boxFields", fn := fun _ => fun
  | [d1, d2, d3] => { results := [.lit (.bool true)], args := [d1, d2, d3] }
  | _ => none }
def boxFieldsRow : OpenClaim := { program := "ytbnjheiailkimaa", sum := "74e9459bf59ebebc441917541771982ca6a50be748ae5d8686c5d12abd04e428", func := "garderobe/garderobelaw03.BoxFields", spec := "boxFields", apart := false }
def BoxFieldsSaid : Prop := boxFieldsRow.holds Try.pinned (OpenSpec.ofChange boxFieldsSpec)

/-- ITS FALSE NEIGHBOUR: 'it returns false'. Refute it at one input. -/
def boxFieldsWrong : ChangeSpec := { name := "boxFields", fn := fun _ => fun
  | [d1, d2, d3] => { results := [.lit (.bool false)], args := [d1, d2, d3] }
  | _ => none }
def BoxFieldsWrongFalsely : Prop := boxFieldsRow.holds Try.pinned (OpenSpec.ofChange boxFieldsWrong)

/- THE SECOND FORM. 'bulk': how many values and letters a reading holds, each counted each time it is reached (what is shared counts as often as it is met; a slice's spare places count too). A statement '..UptoSaid' is the law's where the arguments, and the package variables that the reading takes, are together of bulk at most 1048576: NARROWER than '..Said'. Prove '..Said' where nothing that the law and all that it calls make is longer than what came in: it says more and counts as full. Else prove '..UptoSaid'. A law counts once. -/
mutual
def uptoBulk {H : Type} : DataW H → Nat
  | .lit (.string bytes) => bytes.length + 1
  | .lit _ => 1
  | .nil => 1
  | .ptr d => uptoBulk d + 1
  | .slice elems spare => uptoBulkAll elems + uptoBulkAll spare + 1
  | .agg parts => uptoBulkAll parts + 1
  | .iface _ d => uptoBulk d + 1
  | .map entries => uptoBulkEntries entries + 1
  | .held _ => 1
def uptoBulkAll {H : Type} : List (DataW H) → Nat
  | [] => 0
  | d :: r => uptoBulk d + uptoBulkAll r
def uptoBulkEntries {H : Type} : List (Lit × DataW H) → Nat
  | [] => 0
  | x :: r => uptoBulkEntry x + uptoBulkEntries r
def uptoBulkEntry {H : Type} : Lit × DataW H → Nat
  | (.string bytes, d) => bytes.length + uptoBulk d + 1
  | (_, d) => uptoBulk d + 1
 end
def uptoSmall : (H : Type) → List (DataW H) → Bool := fun _ ds => decide (uptoBulkAll ds ≤ 1048576)
def OpenSpec.upto (s : _root_.Go.ChangeSpec) : _root_.Go.OpenSpec := { _root_.Go.OpenSpec.ofChange s with cond := some uptoSmall }

/-- 'garderobelaw02.CrcMore', WHERE WHAT IT READS IS OF BULK AT MOST 1048576: true; the input reads as it did. -/
def crcMoreUptoRow : OpenClaim := { program := "ytbnjheiailkimaa", sum := "74e9459bf59ebebc441917541771982ca6a50be748ae5d8686c5d12abd04e428", func := "garderobe/garderobelaw02.CrcMore", spec := "crcMore", apart := false, narrowed := true }
def CrcMoreUptoSaid : Prop := crcMoreUptoRow.holds Try.pinned (OpenSpec.upto crcMoreSpec)

/-- 'garderobelaw02.CrcParts', WHERE WHAT IT READS IS OF BULK AT MOST 1048576: true; the input reads as it did. -/
def crcPartsUptoRow : OpenClaim := { program := "ytbnjheiailkimaa", sum := "74e9459bf59ebebc441917541771982ca6a50be748ae5d8686c5d12abd04e428", func := "garderobe/garderobelaw02.CrcParts", spec := "crcParts", apart := false, narrowed := true }
def CrcPartsUptoSaid : Prop := crcPartsUptoRow.holds Try.pinned (OpenSpec.upto crcPartsSpec)

/-- 'garderobelaw02.CrcDamage', WHERE WHAT IT READS IS OF BULK AT MOST 1048576: true; the input reads as it did. -/
def crcDamageUptoRow : OpenClaim := { program := "ytbnjheiailkimaa", sum := "74e9459bf59ebebc441917541771982ca6a50be748ae5d8686c5d12abd04e428", func := "garderobe/garderobelaw02.CrcDamage", spec := "crcDamage", apart := false, narrowed := true }
def CrcDamageUptoSaid : Prop := crcDamageUptoRow.holds Try.pinned (OpenSpec.upto crcDamageSpec)

/-- 'garderobelaw02.CrcLinear', WHERE WHAT IT READS IS OF BULK AT MOST 1048576: true; the input reads as it did. -/
def crcLinearUptoRow : OpenClaim := { program := "ytbnjheiailkimaa", sum := "74e9459bf59ebebc441917541771982ca6a50be748ae5d8686c5d12abd04e428", func := "garderobe/garderobelaw02.CrcLinear", spec := "crcLinear", apart := false, narrowed := true }
def CrcLinearUptoSaid : Prop := crcLinearUptoRow.holds Try.pinned (OpenSpec.upto crcLinearSpec)

/-- 'garderobelaw03.BoxMuls', WHERE WHAT IT READS IS OF BULK AT MOST 1048576: true; the input reads as it did. -/
def boxMulsUptoRow : OpenClaim := { program := "ytbnjheiailkimaa", sum := "74e9459bf59ebebc441917541771982ca6a50be748ae5d8686c5d12abd04e428", func := "garderobe/garderobelaw03.BoxMuls", spec := "boxMuls", apart := false, narrowed := true }
def BoxMulsUptoSaid : Prop := boxMulsUptoRow.holds Try.pinned (OpenSpec.upto boxMulsSpec)

/-- 'garderobelaw03.BoxTables', WHERE WHAT IT READS IS OF BULK AT MOST 1048576: true; the input reads as it did. -/
def boxTablesUptoRow : OpenClaim := { program := "ytbnjheiailkimaa", sum := "74e9459bf59ebebc441917541771982ca6a50be748ae5d8686c5d12abd04e428", func := "garderobe/garderobelaw03.BoxTables", spec := "boxTables", apart := false, narrowed := true }
def BoxTablesUptoSaid : Prop := boxTablesUptoRow.holds Try.pinned (OpenSpec.upto boxTablesSpec)

/-- 'garderobelaw03.BoxInverts', WHERE WHAT IT READS IS OF BULK AT MOST 1048576: true; the input reads as it did. -/
def boxInvertsUptoRow : OpenClaim := { program := "ytbnjheiailkimaa", sum := "74e9459bf59ebebc441917541771982ca6a50be748ae5d8686c5d12abd04e428", func := "garderobe/garderobelaw03.BoxInverts", spec := "boxInverts", apart := false, narrowed := true }
def BoxInvertsUptoSaid : Prop := boxInvertsUptoRow.holds Try.pinned (OpenSpec.upto boxInvertsSpec)

/-- 'garderobelaw03.BoxFields', WHERE WHAT IT READS IS OF BULK AT MOST 1048576: true; the input reads as it did. -/
def boxFieldsUptoRow : OpenClaim := { program := "ytbnjheiailkimaa", sum := "74e9459bf59ebebc441917541771982ca6a50be748ae5d8686c5d12abd04e428", func := "garderobe/garderobelaw03.BoxFields", spec := "boxFields", apart := false, narrowed := true }
def BoxFieldsUptoSaid : Prop := boxFieldsUptoRow.holds Try.pinned (OpenSpec.upto boxFieldsSpec)

end Rows
end Go.Proofs.Ytbnjheiailkimaa
