import Derived.Test.YtikganlbnhapcaaProg
import Derived.Test.YtikganlbnhapcaaFc
namespace Go.Proofs.Ytikganlbnhapcaa
open Go.RowKit
set_option maxRecDepth 20000
theorem ti1 : tiOf Try.prog 1 = ⟨true, 1, 8, .other, [.raw .nilFunc]⟩ := by kernel_rfl
theorem ti2 : tiOf Try.prog 2 = ⟨true, 1, 8, .int .i64, [.int .i64 (0)]⟩ := by kernel_rfl
theorem ti3 : tiOf Try.prog 3 = ⟨true, 1, 8, .int .i64, [.int .i64 (0)]⟩ := by kernel_rfl
theorem ti4 : tiOf Try.prog 4 = ⟨true, 1, 1, .bool, [.bool false]⟩ := by kernel_rfl
theorem ti5 : tiOf Try.prog 5 = ⟨true, 1, 1, .int .u8, [.int .u8 (0)]⟩ := by kernel_rfl
theorem ti6 : tiOf Try.prog 6 = ⟨true, 1, 1, .int .u8, [.int .u8 (0)]⟩ := by kernel_rfl
theorem ti7 : tiOf Try.prog 7 = ⟨true, 4, 24, .st [(0, 1), (1, 1), (2, 1), (3, 1)], [.int .i64 (0), .int .i64 (0), .bool false, .int .u8 (0)]⟩ := by kernel_rfl
theorem ti8 : tiOf Try.prog 8 = ⟨true, 4, 24, .st [(0, 1), (1, 1), (2, 1), (3, 1)], [.int .i64 (0), .int .i64 (0), .bool false, .int .u8 (0)]⟩ := by kernel_rfl
theorem ti9 : tiOf Try.prog 9 = ⟨true, 1, 16, .str, [.str ByteArray.empty]⟩ := by kernel_rfl
theorem ti10 : tiOf Try.prog 10 = ⟨true, 1, 16, .str, [.str ByteArray.empty]⟩ := by kernel_rfl
theorem ti11 : tiOf Try.prog 11 = ⟨true, 1, 16, .str, [.str ByteArray.empty]⟩ := by kernel_rfl
theorem ti12 : tiOf Try.prog 12 = ⟨true, 1, 8, .int .u64, [.int .u64 (0)]⟩ := by kernel_rfl
theorem ti13 : tiOf Try.prog 13 = ⟨true, 2, 24, .st [(0, 1), (1, 1)], [.str ByteArray.empty, .int .u64 (0)]⟩ := by kernel_rfl
theorem ti14 : tiOf Try.prog 14 = ⟨true, 2, 24, .st [(0, 1), (1, 1)], [.str ByteArray.empty, .int .u64 (0)]⟩ := by kernel_rfl
theorem ti15 : tiOf Try.prog 15 = ⟨true, 1, 8, .ptr 129, [.raw (.pointer none)]⟩ := by kernel_rfl
theorem ti16 : tiOf Try.prog 16 = ⟨true, 1, 8, .ptr 132, [.raw (.pointer none)]⟩ := by kernel_rfl
theorem ti17 : tiOf Try.prog 17 = ⟨true, 1, 8, .ptr 141, [.raw (.pointer none)]⟩ := by kernel_rfl
theorem ti18 : tiOf Try.prog 18 = ⟨true, 1, 8, .st [(0, 1)], [.raw (.pointer none)]⟩ := by kernel_rfl
theorem ti19 : tiOf Try.prog 19 = ⟨true, 1, 8, .st [(0, 1)], [.raw (.pointer none)]⟩ := by kernel_rfl
theorem ti20 : tiOf Try.prog 20 = ⟨true, 1, 16, .other, [.raw .nilIface]⟩ := by kernel_rfl
theorem ti21 : tiOf Try.prog 21 = ⟨true, 1, 4, .int .i32, [.int .i32 (0)]⟩ := by kernel_rfl
theorem ti22 : tiOf Try.prog 22 = ⟨true, 1, 24, .sl 5, [.sl true 0 []]⟩ := by kernel_rfl
theorem ti23 : tiOf Try.prog 23 = ⟨true, 1, 2, .int .u16, [.int .u16 (0)]⟩ := by kernel_rfl
theorem ti24 : tiOf Try.prog 24 = ⟨true, 1, 8, .other, [.raw .nilFunc]⟩ := by kernel_rfl
theorem ti25 : tiOf Try.prog 25 = ⟨true, 1, 8, .other, [.raw .nilFunc]⟩ := by kernel_rfl
theorem ti26 : tiOf Try.prog 26 = ⟨true, 32, 32, .arr 32 5, List.replicate 32 (.int .u8 (0))⟩ := by kernel_rfl
theorem ti27 : tiOf Try.prog 27 = ⟨true, 1, 8, .other, [.raw .nilFunc]⟩ := by kernel_rfl
theorem ti28 : tiOf Try.prog 28 = ⟨true, 1, 8, .other, [.raw .nilFunc]⟩ := by kernel_rfl
theorem ti29 : tiOf Try.prog 29 = ⟨true, 16, 16, .arr 16 5, List.replicate 16 (.int .u8 (0))⟩ := by kernel_rfl
theorem ti30 : tiOf Try.prog 30 = ⟨true, 1, 8, .ptr 87, [.raw (.pointer none)]⟩ := by kernel_rfl
theorem ti31 : tiOf Try.prog 31 = ⟨true, 1, 8, .int .i64, [.int .i64 (0)]⟩ := by kernel_rfl
theorem ti33 : tiOf Try.prog 33 = ⟨true, 1, 8, .other, [.raw .nilFunc]⟩ := by kernel_rfl
theorem ti34 : tiOf Try.prog 34 = ⟨true, 1, 8, .other, [.raw .nilFunc]⟩ := by kernel_rfl
theorem ti35 : tiOf Try.prog 35 = ⟨true, 1, 8, .ptr 94, [.raw (.pointer none)]⟩ := by kernel_rfl
theorem ti37 : tiOf Try.prog 37 = ⟨true, 1, 8, .other, [.raw .nilFunc]⟩ := by kernel_rfl
theorem ti38 : tiOf Try.prog 38 = ⟨true, 1, 8, .other, [.raw .nilFunc]⟩ := by kernel_rfl
theorem ti39 : tiOf Try.prog 39 = ⟨true, 1, 8, .other, [.raw .nilFunc]⟩ := by kernel_rfl
theorem ti40 : tiOf Try.prog 40 = ⟨true, 1, 8, .other, [.raw .nilFunc]⟩ := by kernel_rfl
theorem ti41 : tiOf Try.prog 41 = ⟨true, 1, 8, .other, [.raw .nilFunc]⟩ := by kernel_rfl
theorem ti42 : tiOf Try.prog 42 = ⟨true, 64, 64, .st [(0, 32), (32, 32)], List.replicate 64 (.int .u8 (0))⟩ := by kernel_rfl
theorem ti43 : tiOf Try.prog 43 = ⟨true, 64, 64, .st [(0, 32), (32, 32)], List.replicate 64 (.int .u8 (0))⟩ := by kernel_rfl
theorem ti45 : tiOf Try.prog 45 = ⟨true, 1, 8, .other, [.raw .nilFunc]⟩ := by kernel_rfl
theorem ti46 : tiOf Try.prog 46 = ⟨true, 1, 8, .other, [.raw .nilFunc]⟩ := by kernel_rfl
theorem ti47 : tiOf Try.prog 47 = ⟨true, 1, 8, .other, [.raw .nilFunc]⟩ := by kernel_rfl
theorem ti48 : tiOf Try.prog 48 = ⟨true, 1, 24, .sl 64, [.sl true 0 []]⟩ := by kernel_rfl
theorem ti49 : tiOf Try.prog 49 = ⟨true, 2, 48, .st [(0, 1), (1, 1)], [.sl true 0 [], .sl true 0 []]⟩ := by kernel_rfl
theorem ti50 : tiOf Try.prog 50 = ⟨true, 2, 48, .st [(0, 1), (1, 1)], [.sl true 0 [], .sl true 0 []]⟩ := by kernel_rfl
theorem ti51 : tiOf Try.prog 51 = ⟨true, 1, 8, .other, [.raw .nilFunc]⟩ := by kernel_rfl
theorem ti52 : tiOf Try.prog 52 = ⟨true, 1, 8, .other, [.raw .nilFunc]⟩ := by kernel_rfl
theorem ti54 : tiOf Try.prog 54 = ⟨true, 1, 8, .other, [.raw .nilFunc]⟩ := by kernel_rfl
theorem ti56 : tiOf Try.prog 56 = ⟨true, 1, 8, .other, [.raw .nilFunc]⟩ := by kernel_rfl
theorem ti57 : tiOf Try.prog 57 = ⟨true, 1, 8, .other, [.raw .nilFunc]⟩ := by kernel_rfl
theorem ti58 : tiOf Try.prog 58 = ⟨true, 1, 8, .other, [.raw .nilFunc]⟩ := by kernel_rfl
theorem ti60 : tiOf Try.prog 60 = ⟨true, 1, 8, .other, [.raw .nilFunc]⟩ := by kernel_rfl
theorem ti62 : tiOf Try.prog 62 = ⟨true, 1, 8, .other, [.raw .nilFunc]⟩ := by kernel_rfl
theorem ti63 : tiOf Try.prog 63 = ⟨true, 1, 8, .other, [.raw .nilFunc]⟩ := by kernel_rfl
theorem ti64 : tiOf Try.prog 64 = ⟨true, 1, 4, .int .u32, [.int .u32 (0)]⟩ := by kernel_rfl
theorem ti65 : tiOf Try.prog 65 = ⟨true, 1, 8, .other, [.raw .nilFunc]⟩ := by kernel_rfl
theorem ti66 : tiOf Try.prog 66 = ⟨true, 1, 8, .int .u64, [.int .u64 (0)]⟩ := by kernel_rfl
theorem ti67 : tiOf Try.prog 67 = ⟨true, 1, 8, .int .u64, [.int .u64 (0)]⟩ := by kernel_rfl
theorem ti68 : tiOf Try.prog 68 = ⟨true, 1, 8, .other, [.raw .nilFunc]⟩ := by kernel_rfl
theorem ti69 : tiOf Try.prog 69 = ⟨true, 1, 8, .other, [.raw .nilFunc]⟩ := by kernel_rfl
theorem ti70 : tiOf Try.prog 70 = ⟨true, 1, 8, .other, [.raw .nilFunc]⟩ := by kernel_rfl
theorem ti71 : tiOf Try.prog 71 = ⟨true, 1, 8, .other, [.raw .nilFunc]⟩ := by kernel_rfl
theorem ti72 : tiOf Try.prog 72 = ⟨true, 1, 8, .other, [.raw .nilFunc]⟩ := by kernel_rfl
theorem ti73 : tiOf Try.prog 73 = ⟨true, 1, 24, .sl 22, [.sl true 0 []]⟩ := by kernel_rfl
theorem ti74 : tiOf Try.prog 74 = ⟨true, 8, 32, .arr 8 64, [.int .u32 (0), .int .u32 (0), .int .u32 (0), .int .u32 (0), .int .u32 (0), .int .u32 (0), .int .u32 (0), .int .u32 (0)]⟩ := by kernel_rfl
theorem ti75 : tiOf Try.prog 75 = ⟨true, 1, 8, .other, [.raw .nilFunc]⟩ := by kernel_rfl
theorem ti76 : tiOf Try.prog 76 = ⟨true, 64, 256, .arr 64 64, List.replicate 64 (.int .u32 (0))⟩ := by kernel_rfl
theorem ti77 : tiOf Try.prog 77 = ⟨true, 1, 8, .other, [.raw .nilFunc]⟩ := by kernel_rfl
theorem ti78 : tiOf Try.prog 78 = ⟨true, 1, 8, .other, [.raw .nilFunc]⟩ := by kernel_rfl
theorem ti79 : tiOf Try.prog 79 = ⟨true, 1, 8, .other, [.raw .nilFunc]⟩ := by kernel_rfl
theorem ti80 : tiOf Try.prog 80 = ⟨true, 1, 8, .other, [.raw .nilFunc]⟩ := by kernel_rfl
theorem ti81 : tiOf Try.prog 81 = ⟨true, 1, 8, .other, [.raw .nilFunc]⟩ := by kernel_rfl
theorem ti82 : tiOf Try.prog 82 = ⟨true, 1, 8, .other, [.raw .nilFunc]⟩ := by kernel_rfl
theorem ti83 : tiOf Try.prog 83 = ⟨true, 1, 8, .ptr 76, [.raw (.pointer none)]⟩ := by kernel_rfl
theorem ti84 : tiOf Try.prog 84 = ⟨true, 256, 256, .arr 256 5, List.replicate 256 (.int .u8 (0))⟩ := by kernel_rfl
theorem ti85 : tiOf Try.prog 85 = ⟨true, 1, 24, .sl 29, [.sl true 0 []]⟩ := by kernel_rfl
theorem ti86 : tiOf Try.prog 86 = ⟨true, 513, 536, .st [(0, 256), (256, 256), (512, 1)], List.replicate 512 (.int .u8 (0)) ++ [.sl true 0 []]⟩ := by kernel_rfl
theorem ti87 : tiOf Try.prog 87 = ⟨true, 513, 536, .st [(0, 256), (256, 256), (512, 1)], List.replicate 512 (.int .u8 (0)) ++ [.sl true 0 []]⟩ := by kernel_rfl
theorem ti89 : tiOf Try.prog 89 = ⟨true, 1, 8, .other, [.raw .nilFunc]⟩ := by kernel_rfl
theorem ti90 : tiOf Try.prog 90 = ⟨true, 1, 8, .other, [.raw .nilFunc]⟩ := by kernel_rfl
theorem ti92 : tiOf Try.prog 92 = ⟨true, 1, 8, .other, [.raw .nilFunc]⟩ := by kernel_rfl
theorem ti93 : tiOf Try.prog 93 = ⟨true, 3, 72, .st [(0, 1), (1, 1), (2, 1)], [.sl true 0 [], .sl true 0 [], .sl true 0 []]⟩ := by kernel_rfl
theorem ti94 : tiOf Try.prog 94 = ⟨true, 3, 72, .st [(0, 1), (1, 1), (2, 1)], [.sl true 0 [], .sl true 0 [], .sl true 0 []]⟩ := by kernel_rfl
theorem ti95 : tiOf Try.prog 95 = ⟨true, 1, 8, .other, [.raw .nilFunc]⟩ := by kernel_rfl
theorem ti96 : tiOf Try.prog 96 = ⟨true, 1, 8, .other, [.raw .nilFunc]⟩ := by kernel_rfl
theorem ti97 : tiOf Try.prog 97 = ⟨true, 1, 8, .ptr 29, [.raw (.pointer none)]⟩ := by kernel_rfl
theorem ti98 : tiOf Try.prog 98 = ⟨true, 1, 8, .other, [.raw .nilFunc]⟩ := by kernel_rfl
theorem ti99 : tiOf Try.prog 99 = ⟨true, 1, 8, .ptr 84, [.raw (.pointer none)]⟩ := by kernel_rfl
theorem ti100 : tiOf Try.prog 100 = ⟨true, 1, 8, .other, [.raw .nilFunc]⟩ := by kernel_rfl
theorem ti101 : tiOf Try.prog 101 = ⟨true, 4, 4, .arr 4 5, [.int .u8 (0), .int .u8 (0), .int .u8 (0), .int .u8 (0)]⟩ := by kernel_rfl
theorem ti102 : tiOf Try.prog 102 = ⟨true, 1, 8, .other, [.raw .nilFunc]⟩ := by kernel_rfl
theorem ti103 : tiOf Try.prog 103 = ⟨true, 1, 8, .other, [.raw .nilFunc]⟩ := by kernel_rfl
theorem ti104 : tiOf Try.prog 104 = ⟨true, 1, 24, .sl 3, [.sl true 0 []]⟩ := by kernel_rfl
theorem ti105 : tiOf Try.prog 105 = ⟨true, 1, 8, .other, [.raw .nilFunc]⟩ := by kernel_rfl
theorem ti106 : tiOf Try.prog 106 = ⟨true, 1, 8, .other, [.raw .nilFunc]⟩ := by kernel_rfl
theorem ti107 : tiOf Try.prog 107 = ⟨true, 1, 8, .other, [.raw .nilFunc]⟩ := by kernel_rfl
theorem ti108 : tiOf Try.prog 108 = ⟨true, 1, 8, .other, [.raw .nilFunc]⟩ := by kernel_rfl
theorem ti109 : tiOf Try.prog 109 = ⟨true, 1, 8, .other, [.raw .nilFunc]⟩ := by kernel_rfl
theorem ti110 : tiOf Try.prog 110 = ⟨true, 1, 8, .other, [.raw .nilFunc]⟩ := by kernel_rfl
theorem ti111 : tiOf Try.prog 111 = ⟨true, 1, 8, .other, [.raw .nilFunc]⟩ := by kernel_rfl
theorem ti112 : tiOf Try.prog 112 = ⟨true, 1, 8, .other, [.raw .nilFunc]⟩ := by kernel_rfl
theorem ti113 : tiOf Try.prog 113 = ⟨true, 1, 8, .other, [.raw .nilFunc]⟩ := by kernel_rfl
theorem ti114 : tiOf Try.prog 114 = ⟨true, 1, 8, .other, [.raw .nilFunc]⟩ := by kernel_rfl
theorem ti115 : tiOf Try.prog 115 = ⟨true, 1, 8, .other, [.raw .nilFunc]⟩ := by kernel_rfl
theorem ti116 : tiOf Try.prog 116 = ⟨true, 1, 8, .other, [.raw .nilFunc]⟩ := by kernel_rfl
theorem ti117 : tiOf Try.prog 117 = ⟨true, 1, 8, .other, [.raw .nilFunc]⟩ := by kernel_rfl
theorem ti118 : tiOf Try.prog 118 = ⟨true, 1, 8, .other, [.raw .nilFunc]⟩ := by kernel_rfl
theorem ti119 : tiOf Try.prog 119 = ⟨true, 1, 24, .sl 101, [.sl true 0 []]⟩ := by kernel_rfl
theorem ti120 : tiOf Try.prog 120 = ⟨true, 1, 8, .other, [.raw .nilFunc]⟩ := by kernel_rfl
theorem ti121 : tiOf Try.prog 121 = ⟨true, 1, 8, .other, [.raw .nilFunc]⟩ := by kernel_rfl
theorem ti122 : tiOf Try.prog 122 = ⟨true, 1, 24, .sl 4, [.sl true 0 []]⟩ := by kernel_rfl
theorem ti123 : tiOf Try.prog 123 = ⟨true, 1, 8, .other, [.raw .nilFunc]⟩ := by kernel_rfl
theorem ti125 : tiOf Try.prog 125 = ⟨true, 1, 8, .other, [.raw .nilFunc]⟩ := by kernel_rfl
theorem ti126 : tiOf Try.prog 126 = ⟨true, 1, 8, .other, [.raw .nilFunc]⟩ := by kernel_rfl
theorem ti127 : tiOf Try.prog 127 = ⟨true, 1, 8, .other, [.raw .nilFunc]⟩ := by kernel_rfl
theorem ti128 : tiOf Try.prog 128 = ⟨true, 4, 40, .st [(0, 1), (1, 1), (2, 1), (3, 1)], [.raw (.pointer none), .raw (.pointer none), .raw (.pointer none), .str ByteArray.empty]⟩ := by kernel_rfl
theorem ti129 : tiOf Try.prog 129 = ⟨true, 4, 40, .st [(0, 1), (1, 1), (2, 1), (3, 1)], [.raw (.pointer none), .raw (.pointer none), .raw (.pointer none), .str ByteArray.empty]⟩ := by kernel_rfl
theorem ti130 : tiOf Try.prog 130 = ⟨true, 0, 0, .arr 0 16, []⟩ := by kernel_rfl
theorem ti131 : tiOf Try.prog 131 = ⟨true, 0, 0, .st [(0, 0)], []⟩ := by kernel_rfl
theorem ti132 : tiOf Try.prog 132 = ⟨true, 0, 0, .st [(0, 0)], []⟩ := by kernel_rfl
theorem ti133 : tiOf Try.prog 133 = ⟨true, 1, 8, .other, [.raw .nilFunc]⟩ := by kernel_rfl
theorem ti134 : tiOf Try.prog 134 = ⟨true, 1, 1, .int .u8, [.int .u8 (0)]⟩ := by kernel_rfl
theorem ti135 : tiOf Try.prog 135 = ⟨true, 1, 1, .int .u8, [.int .u8 (0)]⟩ := by kernel_rfl
theorem ti136 : tiOf Try.prog 136 = ⟨true, 1, 8, .other, [.raw .nilFunc]⟩ := by kernel_rfl
theorem ti137 : tiOf Try.prog 137 = ⟨true, 1, 8, .ptr 5, [.raw (.pointer none)]⟩ := by kernel_rfl
theorem ti138 : tiOf Try.prog 138 = ⟨true, 1, 4, .int .i32, [.int .i32 (0)]⟩ := by kernel_rfl
theorem ti139 : tiOf Try.prog 139 = ⟨true, 1, 4, .int .i32, [.int .i32 (0)]⟩ := by kernel_rfl
theorem ti140 : tiOf Try.prog 140 = ⟨true, 11, 48, .st [(0, 1), (1, 1), (2, 1), (3, 1), (4, 1), (5, 1), (6, 1), (7, 1), (8, 1), (9, 1), (10, 1)], [.int .u64 (0), .int .u64 (0), .int .u32 (0), .int .u8 (0), .int .u8 (0), .int .u8 (0), .int .u8 (0), .raw .nilFunc, .raw (.pointer none), .int .i32 (0), .int .i32 (0)]⟩ := by kernel_rfl
theorem ti141 : tiOf Try.prog 141 = ⟨true, 11, 48, .st [(0, 1), (1, 1), (2, 1), (3, 1), (4, 1), (5, 1), (6, 1), (7, 1), (8, 1), (9, 1), (10, 1)], [.int .u64 (0), .int .u64 (0), .int .u32 (0), .int .u8 (0), .int .u8 (0), .int .u8 (0), .int .u8 (0), .raw .nilFunc, .raw (.pointer none), .int .i32 (0), .int .i32 (0)]⟩ := by kernel_rfl
theorem ti142 : tiOf Try.prog 142 = ⟨true, 1, 8, .other, [.raw (.pointer none)]⟩ := by kernel_rfl
def TabOk (P : Program) (k : Nat) (l : List (Option TI)) : Prop := ∀ (i : Nat) (x : TI), l[i]? = some (some x) → tiOf P (i + k) = x
theorem TabOk.nil {P : Program} {k : Nat} : TabOk P k [] := fun i x h => by simp at h
theorem TabOk.som {P : Program} {k : Nat} {y : TI} {l : List (Option TI)} (h : tiOf P k = y) (r : TabOk P (k + 1) l) : TabOk P k (some y :: l) := by
  intro i x hx
  match i with
  | 0 => rw [Nat.zero_add, h]; simpa using hx
  | i + 1 => rw [show i + 1 + k = i + (k + 1) by omega]; exact r i x (by simpa using hx)
theorem TabOk.non {P : Program} {k : Nat} {l : List (Option TI)} (r : TabOk P (k + 1) l) : TabOk P k (none :: l) := by
  intro i x hx
  match i with
  | 0 => simp at hx
  | i + 1 => rw [show i + 1 + k = i + (k + 1) by omega]; exact r i x (by simpa using hx)
def tiL : List (Option TI) := [none, some ⟨true, 1, 8, .other, [.raw .nilFunc]⟩, some ⟨true, 1, 8, .int .i64, [.int .i64 (0)]⟩, some ⟨true, 1, 8, .int .i64, [.int .i64 (0)]⟩, some ⟨true, 1, 1, .bool, [.bool false]⟩, some ⟨true, 1, 1, .int .u8, [.int .u8 (0)]⟩, some ⟨true, 1, 1, .int .u8, [.int .u8 (0)]⟩, some ⟨true, 4, 24, .st [(0, 1), (1, 1), (2, 1), (3, 1)], [.int .i64 (0), .int .i64 (0), .bool false, .int .u8 (0)]⟩, some ⟨true, 4, 24, .st [(0, 1), (1, 1), (2, 1), (3, 1)], [.int .i64 (0), .int .i64 (0), .bool false, .int .u8 (0)]⟩, some ⟨true, 1, 16, .str, [.str ByteArray.empty]⟩, some ⟨true, 1, 16, .str, [.str ByteArray.empty]⟩, some ⟨true, 1, 16, .str, [.str ByteArray.empty]⟩, some ⟨true, 1, 8, .int .u64, [.int .u64 (0)]⟩, some ⟨true, 2, 24, .st [(0, 1), (1, 1)], [.str ByteArray.empty, .int .u64 (0)]⟩, some ⟨true, 2, 24, .st [(0, 1), (1, 1)], [.str ByteArray.empty, .int .u64 (0)]⟩, some ⟨true, 1, 8, .ptr 129, [.raw (.pointer none)]⟩, some ⟨true, 1, 8, .ptr 132, [.raw (.pointer none)]⟩, some ⟨true, 1, 8, .ptr 141, [.raw (.pointer none)]⟩, some ⟨true, 1, 8, .st [(0, 1)], [.raw (.pointer none)]⟩, some ⟨true, 1, 8, .st [(0, 1)], [.raw (.pointer none)]⟩, some ⟨true, 1, 16, .other, [.raw .nilIface]⟩, some ⟨true, 1, 4, .int .i32, [.int .i32 (0)]⟩, some ⟨true, 1, 24, .sl 5, [.sl true 0 []]⟩, some ⟨true, 1, 2, .int .u16, [.int .u16 (0)]⟩, some ⟨true, 1, 8, .other, [.raw .nilFunc]⟩, some ⟨true, 1, 8, .other, [.raw .nilFunc]⟩, some ⟨true, 32, 32, .arr 32 5, List.replicate 32 (.int .u8 (0))⟩, some ⟨true, 1, 8, .other, [.raw .nilFunc]⟩, some ⟨true, 1, 8, .other, [.raw .nilFunc]⟩, some ⟨true, 16, 16, .arr 16 5, List.replicate 16 (.int .u8 (0))⟩, some ⟨true, 1, 8, .ptr 87, [.raw (.pointer none)]⟩, some ⟨true, 1, 8, .int .i64, [.int .i64 (0)]⟩, none, some ⟨true, 1, 8, .other, [.raw .nilFunc]⟩, some ⟨true, 1, 8, .other, [.raw .nilFunc]⟩, some ⟨true, 1, 8, .ptr 94, [.raw (.pointer none)]⟩, none, some ⟨true, 1, 8, .other, [.raw .nilFunc]⟩, some ⟨true, 1, 8, .other, [.raw .nilFunc]⟩, some ⟨true, 1, 8, .other, [.raw .nilFunc]⟩, some ⟨true, 1, 8, .other, [.raw .nilFunc]⟩, some ⟨true, 1, 8, .other, [.raw .nilFunc]⟩, some ⟨true, 64, 64, .st [(0, 32), (32, 32)], List.replicate 64 (.int .u8 (0))⟩, some ⟨true, 64, 64, .st [(0, 32), (32, 32)], List.replicate 64 (.int .u8 (0))⟩, none, some ⟨true, 1, 8, .other, [.raw .nilFunc]⟩, some ⟨true, 1, 8, .other, [.raw .nilFunc]⟩, some ⟨true, 1, 8, .other, [.raw .nilFunc]⟩, some ⟨true, 1, 24, .sl 64, [.sl true 0 []]⟩, some ⟨true, 2, 48, .st [(0, 1), (1, 1)], [.sl true 0 [], .sl true 0 []]⟩, some ⟨true, 2, 48, .st [(0, 1), (1, 1)], [.sl true 0 [], .sl true 0 []]⟩, some ⟨true, 1, 8, .other, [.raw .nilFunc]⟩, some ⟨true, 1, 8, .other, [.raw .nilFunc]⟩, none, some ⟨true, 1, 8, .other, [.raw .nilFunc]⟩, none, some ⟨true, 1, 8, .other, [.raw .nilFunc]⟩, some ⟨true, 1, 8, .other, [.raw .nilFunc]⟩, some ⟨true, 1, 8, .other, [.raw .nilFunc]⟩, none, some ⟨true, 1, 8, .other, [.raw .nilFunc]⟩, none, some ⟨true, 1, 8, .other, [.raw .nilFunc]⟩, some ⟨true, 1, 8, .other, [.raw .nilFunc]⟩, some ⟨true, 1, 4, .int .u32, [.int .u32 (0)]⟩, some ⟨true, 1, 8, .other, [.raw .nilFunc]⟩, some ⟨true, 1, 8, .int .u64, [.int .u64 (0)]⟩, some ⟨true, 1, 8, .int .u64, [.int .u64 (0)]⟩, some ⟨true, 1, 8, .other, [.raw .nilFunc]⟩, some ⟨true, 1, 8, .other, [.raw .nilFunc]⟩, some ⟨true, 1, 8, .other, [.raw .nilFunc]⟩, some ⟨true, 1, 8, .other, [.raw .nilFunc]⟩, some ⟨true, 1, 8, .other, [.raw .nilFunc]⟩, some ⟨true, 1, 24, .sl 22, [.sl true 0 []]⟩, some ⟨true, 8, 32, .arr 8 64, [.int .u32 (0), .int .u32 (0), .int .u32 (0), .int .u32 (0), .int .u32 (0), .int .u32 (0), .int .u32 (0), .int .u32 (0)]⟩, some ⟨true, 1, 8, .other, [.raw .nilFunc]⟩, some ⟨true, 64, 256, .arr 64 64, List.replicate 64 (.int .u32 (0))⟩, some ⟨true, 1, 8, .other, [.raw .nilFunc]⟩, some ⟨true, 1, 8, .other, [.raw .nilFunc]⟩, some ⟨true, 1, 8, .other, [.raw .nilFunc]⟩, some ⟨true, 1, 8, .other, [.raw .nilFunc]⟩, some ⟨true, 1, 8, .other, [.raw .nilFunc]⟩, some ⟨true, 1, 8, .other, [.raw .nilFunc]⟩, some ⟨true, 1, 8, .ptr 76, [.raw (.pointer none)]⟩, some ⟨true, 256, 256, .arr 256 5, List.replicate 256 (.int .u8 (0))⟩, some ⟨true, 1, 24, .sl 29, [.sl true 0 []]⟩, some ⟨true, 513, 536, .st [(0, 256), (256, 256), (512, 1)], List.replicate 512 (.int .u8 (0)) ++ [.sl true 0 []]⟩, some ⟨true, 513, 536, .st [(0, 256), (256, 256), (512, 1)], List.replicate 512 (.int .u8 (0)) ++ [.sl true 0 []]⟩, none, some ⟨true, 1, 8, .other, [.raw .nilFunc]⟩, some ⟨true, 1, 8, .other, [.raw .nilFunc]⟩, none, some ⟨true, 1, 8, .other, [.raw .nilFunc]⟩, some ⟨true, 3, 72, .st [(0, 1), (1, 1), (2, 1)], [.sl true 0 [], .sl true 0 [], .sl true 0 []]⟩, some ⟨true, 3, 72, .st [(0, 1), (1, 1), (2, 1)], [.sl true 0 [], .sl true 0 [], .sl true 0 []]⟩, some ⟨true, 1, 8, .other, [.raw .nilFunc]⟩, some ⟨true, 1, 8, .other, [.raw .nilFunc]⟩, some ⟨true, 1, 8, .ptr 29, [.raw (.pointer none)]⟩, some ⟨true, 1, 8, .other, [.raw .nilFunc]⟩, some ⟨true, 1, 8, .ptr 84, [.raw (.pointer none)]⟩, some ⟨true, 1, 8, .other, [.raw .nilFunc]⟩, some ⟨true, 4, 4, .arr 4 5, [.int .u8 (0), .int .u8 (0), .int .u8 (0), .int .u8 (0)]⟩, some ⟨true, 1, 8, .other, [.raw .nilFunc]⟩, some ⟨true, 1, 8, .other, [.raw .nilFunc]⟩, some ⟨true, 1, 24, .sl 3, [.sl true 0 []]⟩, some ⟨true, 1, 8, .other, [.raw .nilFunc]⟩, some ⟨true, 1, 8, .other, [.raw .nilFunc]⟩, some ⟨true, 1, 8, .other, [.raw .nilFunc]⟩, some ⟨true, 1, 8, .other, [.raw .nilFunc]⟩, some ⟨true, 1, 8, .other, [.raw .nilFunc]⟩, some ⟨true, 1, 8, .other, [.raw .nilFunc]⟩, some ⟨true, 1, 8, .other, [.raw .nilFunc]⟩, some ⟨true, 1, 8, .other, [.raw .nilFunc]⟩, some ⟨true, 1, 8, .other, [.raw .nilFunc]⟩, some ⟨true, 1, 8, .other, [.raw .nilFunc]⟩, some ⟨true, 1, 8, .other, [.raw .nilFunc]⟩, some ⟨true, 1, 8, .other, [.raw .nilFunc]⟩, some ⟨true, 1, 8, .other, [.raw .nilFunc]⟩, some ⟨true, 1, 8, .other, [.raw .nilFunc]⟩, some ⟨true, 1, 24, .sl 101, [.sl true 0 []]⟩, some ⟨true, 1, 8, .other, [.raw .nilFunc]⟩, some ⟨true, 1, 8, .other, [.raw .nilFunc]⟩, some ⟨true, 1, 24, .sl 4, [.sl true 0 []]⟩, some ⟨true, 1, 8, .other, [.raw .nilFunc]⟩, none, some ⟨true, 1, 8, .other, [.raw .nilFunc]⟩, some ⟨true, 1, 8, .other, [.raw .nilFunc]⟩, some ⟨true, 1, 8, .other, [.raw .nilFunc]⟩, some ⟨true, 4, 40, .st [(0, 1), (1, 1), (2, 1), (3, 1)], [.raw (.pointer none), .raw (.pointer none), .raw (.pointer none), .str ByteArray.empty]⟩, some ⟨true, 4, 40, .st [(0, 1), (1, 1), (2, 1), (3, 1)], [.raw (.pointer none), .raw (.pointer none), .raw (.pointer none), .str ByteArray.empty]⟩, some ⟨true, 0, 0, .arr 0 16, []⟩, some ⟨true, 0, 0, .st [(0, 0)], []⟩, some ⟨true, 0, 0, .st [(0, 0)], []⟩, some ⟨true, 1, 8, .other, [.raw .nilFunc]⟩, some ⟨true, 1, 1, .int .u8, [.int .u8 (0)]⟩, some ⟨true, 1, 1, .int .u8, [.int .u8 (0)]⟩, some ⟨true, 1, 8, .other, [.raw .nilFunc]⟩, some ⟨true, 1, 8, .ptr 5, [.raw (.pointer none)]⟩, some ⟨true, 1, 4, .int .i32, [.int .i32 (0)]⟩, some ⟨true, 1, 4, .int .i32, [.int .i32 (0)]⟩, some ⟨true, 11, 48, .st [(0, 1), (1, 1), (2, 1), (3, 1), (4, 1), (5, 1), (6, 1), (7, 1), (8, 1), (9, 1), (10, 1)], [.int .u64 (0), .int .u64 (0), .int .u32 (0), .int .u8 (0), .int .u8 (0), .int .u8 (0), .int .u8 (0), .raw .nilFunc, .raw (.pointer none), .int .i32 (0), .int .i32 (0)]⟩, some ⟨true, 11, 48, .st [(0, 1), (1, 1), (2, 1), (3, 1), (4, 1), (5, 1), (6, 1), (7, 1), (8, 1), (9, 1), (10, 1)], [.int .u64 (0), .int .u64 (0), .int .u32 (0), .int .u8 (0), .int .u8 (0), .int .u8 (0), .int .u8 (0), .raw .nilFunc, .raw (.pointer none), .int .i32 (0), .int .i32 (0)]⟩, some ⟨true, 1, 8, .other, [.raw (.pointer none)]⟩]
theorem tiL_ok : TabOk Try.prog 0 tiL := (.non (.som ti1 (.som ti2 (.som ti3 (.som ti4 (.som ti5 (.som ti6 (.som ti7 (.som ti8 (.som ti9 (.som ti10 (.som ti11 (.som ti12 (.som ti13 (.som ti14 (.som ti15 (.som ti16 (.som ti17 (.som ti18 (.som ti19 (.som ti20 (.som ti21 (.som ti22 (.som ti23 (.som ti24 (.som ti25 (.som ti26 (.som ti27 (.som ti28 (.som ti29 (.som ti30 (.som ti31 (.non (.som ti33 (.som ti34 (.som ti35 (.non (.som ti37 (.som ti38 (.som ti39 (.som ti40 (.som ti41 (.som ti42 (.som ti43 (.non (.som ti45 (.som ti46 (.som ti47 (.som ti48 (.som ti49 (.som ti50 (.som ti51 (.som ti52 (.non (.som ti54 (.non (.som ti56 (.som ti57 (.som ti58 (.non (.som ti60 (.non (.som ti62 (.som ti63 (.som ti64 (.som ti65 (.som ti66 (.som ti67 (.som ti68 (.som ti69 (.som ti70 (.som ti71 (.som ti72 (.som ti73 (.som ti74 (.som ti75 (.som ti76 (.som ti77 (.som ti78 (.som ti79 (.som ti80 (.som ti81 (.som ti82 (.som ti83 (.som ti84 (.som ti85 (.som ti86 (.som ti87 (.non (.som ti89 (.som ti90 (.non (.som ti92 (.som ti93 (.som ti94 (.som ti95 (.som ti96 (.som ti97 (.som ti98 (.som ti99 (.som ti100 (.som ti101 (.som ti102 (.som ti103 (.som ti104 (.som ti105 (.som ti106 (.som ti107 (.som ti108 (.som ti109 (.som ti110 (.som ti111 (.som ti112 (.som ti113 (.som ti114 (.som ti115 (.som ti116 (.som ti117 (.som ti118 (.som ti119 (.som ti120 (.som ti121 (.som ti122 (.som ti123 (.non (.som ti125 (.som ti126 (.som ti127 (.som ti128 (.som ti129 (.som ti130 (.som ti131 (.som ti132 (.som ti133 (.som ti134 (.som ti135 (.som ti136 (.som ti137 (.som ti138 (.som ti139 (.som ti140 (.som ti141 (.som ti142 .nil)))))))))))))))))))))))))))))))))))))))))))))))))))))))))))))))))))))))))))))))))))))))))))))))))))))))))))))))))))))))))))))))))))))))))))))))
theorem tiX {t : Nat} {x : TI} (h : tiL[t]? = some (some x)) : tiOf Try.prog t = x := tiL_ok t x h
end Go.Proofs.Ytikganlbnhapcaa
