import Derived.Test.YtmbnclpgldglnaaSeal3
namespace Go.Proofs.Ytmbnclpgldglnaa
open Go.RowKit
set_option linter.unusedVariables false
set_option linter.unusedSimpArgs false
set_option maxRecDepth 20000
theorem keys_av (a b : List UInt8) : aOfBytes (a ++ b) = a.flatMap (fun b => [AV.int .u8 (b.toNat : Int)]) ++ b.flatMap (fun b => [AV.int .u8 (b.toNat : Int)]) := by
  rw [aOfBytes_append]; unfold aOfBytes; rw [List.map_eq_flatMap, List.map_eq_flatMap]
theorem bytes_fm (a : List UInt8) : aOfBytes a = a.flatMap (fun b => [AV.int .u8 (b.toNat : Int)]) := List.map_eq_flatMap
end Go.Proofs.Ytmbnclpgldglnaa
