import Derived.Test.YtmlgpibjhegdeaaProg
import Derived.Test.YtmlgpibjhegdeaaAvSpec
namespace Go.Proofs.Ytmlgpibjhegdeaa
open Go.RowKit
set_option maxRecDepth 20000
theorem ti1 : tiOf Try.prog 1 = ⟨true, 1, 8, .other, [.raw .nilFunc]⟩ := by kernel_rfl
theorem ti2 : tiOf Try.prog 2 = ⟨true, 1, 8, .int .i64, [.int .i64 (0)]⟩ := by kernel_rfl
theorem ti3 : tiOf Try.prog 3 = ⟨true, 1, 8, .int .i64, [.int .i64 (0)]⟩ := by kernel_rfl
theorem ti4 : tiOf Try.prog 4 = ⟨true, 1, 1, .bool, [.bool false]⟩ := by kernel_rfl
theorem ti5 : tiOf Try.prog 5 = ⟨true, 1, 1, .int .u8, [.int .u8 (0)]⟩ := by kernel_rfl
theorem ti6 : tiOf Try.prog 6 = ⟨true, 1, 1, .int .u8, [.int .u8 (0)]⟩ := by kernel_rfl
theorem ti7 : tiOf Try.prog 7 = ⟨true, 4, 24, .st [(0, 1), (1, 1), (2, 1), (3, 1)], [.int .i64 (0), .int .i64 (0), .bool false, .int .u8 (0)]⟩ := by kernel_rfl
theorem ti8 : tiOf Try.prog 8 = ⟨true, 4, 24, .st [(0, 1), (1, 1), (2, 1), (3, 1)], [.int .i64 (0), .int .i64 (0), .bool false, .int .u8 (0)]⟩ := by kernel_rfl
theorem ti9 : tiOf Try.prog 9 = ⟨true, 1, 16, .str, [.str ByteArray.empty]⟩ := by kernel_rfl
theorem ti10 : tiOf Try.prog 10 = ⟨true, 1, 16, .str, [.str ByteArray.empty]⟩ := by kernel_rfl
theorem ti11 : tiOf Try.prog 11 = ⟨true, 1, 16, .str, [.str ByteArray.empty]⟩ := by kernel_rfl
theorem ti12 : tiOf Try.prog 12 = ⟨true, 1, 8, .int .u64, [.int .u64 (0)]⟩ := by kernel_rfl
theorem ti13 : tiOf Try.prog 13 = ⟨true, 2, 24, .st [(0, 1), (1, 1)], [.str ByteArray.empty, .int .u64 (0)]⟩ := by kernel_rfl
theorem ti14 : tiOf Try.prog 14 = ⟨true, 2, 24, .st [(0, 1), (1, 1)], [.str ByteArray.empty, .int .u64 (0)]⟩ := by kernel_rfl
theorem ti15 : tiOf Try.prog 15 = ⟨true, 1, 8, .ptr 95, [.raw (.pointer none)]⟩ := by kernel_rfl
theorem ti16 : tiOf Try.prog 16 = ⟨true, 1, 8, .ptr 98, [.raw (.pointer none)]⟩ := by kernel_rfl
theorem ti17 : tiOf Try.prog 17 = ⟨true, 1, 8, .ptr 107, [.raw (.pointer none)]⟩ := by kernel_rfl
theorem ti18 : tiOf Try.prog 18 = ⟨true, 1, 8, .st [(0, 1)], [.raw (.pointer none)]⟩ := by kernel_rfl
theorem ti19 : tiOf Try.prog 19 = ⟨true, 1, 8, .st [(0, 1)], [.raw (.pointer none)]⟩ := by kernel_rfl
theorem ti20 : tiOf Try.prog 20 = ⟨true, 1, 16, .other, [.raw .nilIface]⟩ := by kernel_rfl
theorem ti21 : tiOf Try.prog 21 = ⟨true, 1, 4, .int .i32, [.int .i32 (0)]⟩ := by kernel_rfl
theorem ti22 : tiOf Try.prog 22 = ⟨true, 1, 24, .sl 5, [.sl true 0 []]⟩ := by kernel_rfl
theorem ti23 : tiOf Try.prog 23 = ⟨true, 1, 8, .int .i64, [.int .i64 (0)]⟩ := by kernel_rfl
theorem ti25 : tiOf Try.prog 25 = ⟨true, 1, 8, .other, [.raw .nilFunc]⟩ := by kernel_rfl
theorem ti26 : tiOf Try.prog 26 = ⟨true, 1, 8, .other, [.raw .nilFunc]⟩ := by kernel_rfl
theorem ti27 : tiOf Try.prog 27 = ⟨true, 1, 8, .other, [.raw .nilFunc]⟩ := by kernel_rfl
theorem ti28 : tiOf Try.prog 28 = ⟨true, 1, 8, .other, [.raw .nilFunc]⟩ := by kernel_rfl
theorem ti29 : tiOf Try.prog 29 = ⟨true, 1, 8, .other, [.raw .nilFunc]⟩ := by kernel_rfl
theorem ti30 : tiOf Try.prog 30 = ⟨true, 1, 8, .other, [.raw .nilFunc]⟩ := by kernel_rfl
theorem ti31 : tiOf Try.prog 31 = ⟨true, 1, 24, .sl 35, [.sl true 0 []]⟩ := by kernel_rfl
theorem ti32 : tiOf Try.prog 32 = ⟨true, 1, 8, .ptr 71, [.raw (.pointer none)]⟩ := by kernel_rfl
theorem ti33 : tiOf Try.prog 33 = ⟨true, 1, 8, .other, [.raw .nilFunc]⟩ := by kernel_rfl
theorem ti34 : tiOf Try.prog 34 = ⟨true, 2, 16, .st [(0, 1), (1, 1)], [.bool false, .int .i64 (0)]⟩ := by kernel_rfl
theorem ti35 : tiOf Try.prog 35 = ⟨true, 2, 16, .st [(0, 1), (1, 1)], [.bool false, .int .i64 (0)]⟩ := by kernel_rfl
theorem ti37 : tiOf Try.prog 37 = ⟨true, 1, 8, .other, [.raw .nilFunc]⟩ := by kernel_rfl
theorem ti38 : tiOf Try.prog 38 = ⟨true, 1, 8, .other, [.raw .nilFunc]⟩ := by kernel_rfl
theorem ti40 : tiOf Try.prog 40 = ⟨true, 1, 8, .other, [.raw .nilFunc]⟩ := by kernel_rfl
theorem ti41 : tiOf Try.prog 41 = ⟨true, 1, 8, .other, [.raw .nilFunc]⟩ := by kernel_rfl
theorem ti42 : tiOf Try.prog 42 = ⟨true, 1, 8, .other, [.raw .nilFunc]⟩ := by kernel_rfl
theorem ti43 : tiOf Try.prog 43 = ⟨true, 1, 24, .sl 3, [.sl true 0 []]⟩ := by kernel_rfl
theorem ti44 : tiOf Try.prog 44 = ⟨true, 1, 24, .sl 9, [.sl true 0 []]⟩ := by kernel_rfl
theorem ti45 : tiOf Try.prog 45 = ⟨true, 1, 8, .other, [.raw .nilFunc]⟩ := by kernel_rfl
theorem ti46 : tiOf Try.prog 46 = ⟨true, 1, 8, .other, [.raw .nilFunc]⟩ := by kernel_rfl
theorem ti47 : tiOf Try.prog 47 = ⟨true, 1, 8, .other, [.raw .nilFunc]⟩ := by kernel_rfl
theorem ti48 : tiOf Try.prog 48 = ⟨true, 1, 24, .sl 63, [.sl true 0 []]⟩ := by kernel_rfl
theorem ti49 : tiOf Try.prog 49 = ⟨true, 1, 8, .other, [.raw .nilFunc]⟩ := by kernel_rfl
theorem ti50 : tiOf Try.prog 50 = ⟨true, 1, 8, .other, [.raw .nilFunc]⟩ := by kernel_rfl
theorem ti52 : tiOf Try.prog 52 = ⟨true, 1, 8, .other, [.raw .nilFunc]⟩ := by kernel_rfl
theorem ti53 : tiOf Try.prog 53 = ⟨true, 1, 8, .other, [.raw .nilFunc]⟩ := by kernel_rfl
theorem ti55 : tiOf Try.prog 55 = ⟨true, 1, 8, .other, [.raw .nilFunc]⟩ := by kernel_rfl
theorem ti57 : tiOf Try.prog 57 = ⟨true, 1, 8, .other, [.raw .nilFunc]⟩ := by kernel_rfl
theorem ti58 : tiOf Try.prog 58 = ⟨true, 1, 8, .other, [.raw .nilFunc]⟩ := by kernel_rfl
theorem ti59 : tiOf Try.prog 59 = ⟨true, 1, 8, .other, [.raw .nilFunc]⟩ := by kernel_rfl
theorem ti60 : tiOf Try.prog 60 = ⟨true, 1, 8, .other, [.raw .nilFunc]⟩ := by kernel_rfl
theorem ti61 : tiOf Try.prog 61 = ⟨true, 1, 8, .other, [.raw .nilFunc]⟩ := by kernel_rfl
theorem ti62 : tiOf Try.prog 62 = ⟨true, 3, 40, .st [(0, 1), (1, 1), (2, 1)], [.sl true 0 [], .int .i64 (0), .int .i64 (0)]⟩ := by kernel_rfl
theorem ti63 : tiOf Try.prog 63 = ⟨true, 3, 40, .st [(0, 1), (1, 1), (2, 1)], [.sl true 0 [], .int .i64 (0), .int .i64 (0)]⟩ := by kernel_rfl
theorem ti64 : tiOf Try.prog 64 = ⟨true, 1, 8, .other, [.raw .nilFunc]⟩ := by kernel_rfl
theorem ti65 : tiOf Try.prog 65 = ⟨true, 1, 8, .other, [.raw .nilFunc]⟩ := by kernel_rfl
theorem ti66 : tiOf Try.prog 66 = ⟨true, 1, 8, .other, [.raw .nilFunc]⟩ := by kernel_rfl
theorem ti67 : tiOf Try.prog 67 = ⟨true, 1, 8, .other, [.raw .nilFunc]⟩ := by kernel_rfl
theorem ti68 : tiOf Try.prog 68 = ⟨true, 1, 8, .other, [.raw .nilFunc]⟩ := by kernel_rfl
theorem ti69 : tiOf Try.prog 69 = ⟨true, 1, 8, .int .u64, [.int .u64 (0)]⟩ := by kernel_rfl
theorem ti70 : tiOf Try.prog 70 = ⟨true, 2, 24, .st [(0, 1), (1, 1)], [.str ByteArray.empty, .bool false]⟩ := by kernel_rfl
theorem ti71 : tiOf Try.prog 71 = ⟨true, 2, 24, .st [(0, 1), (1, 1)], [.str ByteArray.empty, .bool false]⟩ := by kernel_rfl
theorem ti73 : tiOf Try.prog 73 = ⟨true, 1, 8, .other, [.raw .nilFunc]⟩ := by kernel_rfl
theorem ti74 : tiOf Try.prog 74 = ⟨true, 1, 8, .other, [.raw .nilFunc]⟩ := by kernel_rfl
theorem ti75 : tiOf Try.prog 75 = ⟨true, 1, 8, .int .u64, [.int .u64 (0)]⟩ := by kernel_rfl
theorem ti77 : tiOf Try.prog 77 = ⟨true, 1, 8, .other, [.raw .nilFunc]⟩ := by kernel_rfl
theorem ti78 : tiOf Try.prog 78 = ⟨true, 1, 8, .ptr 81, [.raw (.pointer none)]⟩ := by kernel_rfl
theorem ti79 : tiOf Try.prog 79 = ⟨true, 1, 8, .other, [.raw (.map none)]⟩ := by kernel_rfl
theorem ti80 : tiOf Try.prog 80 = ⟨true, 2, 32, .st [(0, 1), (1, 1)], [.sl true 0 [], .raw (.map none)]⟩ := by kernel_rfl
theorem ti81 : tiOf Try.prog 81 = ⟨true, 2, 32, .st [(0, 1), (1, 1)], [.sl true 0 [], .raw (.map none)]⟩ := by kernel_rfl
theorem ti82 : tiOf Try.prog 82 = ⟨true, 1, 8, .other, [.raw .nilFunc]⟩ := by kernel_rfl
theorem ti83 : tiOf Try.prog 83 = ⟨true, 1, 8, .other, [.raw .nilFunc]⟩ := by kernel_rfl
theorem ti84 : tiOf Try.prog 84 = ⟨true, 1, 8, .other, [.raw .nilFunc]⟩ := by kernel_rfl
theorem ti85 : tiOf Try.prog 85 = ⟨true, 3, 3, .arr 3 5, [.int .u8 (0), .int .u8 (0), .int .u8 (0)]⟩ := by kernel_rfl
theorem ti87 : tiOf Try.prog 87 = ⟨true, 1, 8, .other, [.raw .nilFunc]⟩ := by kernel_rfl
theorem ti88 : tiOf Try.prog 88 = ⟨true, 1, 8, .other, [.raw .nilFunc]⟩ := by kernel_rfl
theorem ti89 : tiOf Try.prog 89 = ⟨true, 1, 8, .other, [.raw .nilFunc]⟩ := by kernel_rfl
theorem ti90 : tiOf Try.prog 90 = ⟨true, 1, 8, .other, [.raw .nilFunc]⟩ := by kernel_rfl
theorem ti91 : tiOf Try.prog 91 = ⟨true, 1, 8, .other, [.raw .nilFunc]⟩ := by kernel_rfl
theorem ti92 : tiOf Try.prog 92 = ⟨true, 1, 8, .other, [.raw .nilFunc]⟩ := by kernel_rfl
theorem ti93 : tiOf Try.prog 93 = ⟨true, 1, 8, .other, [.raw .nilFunc]⟩ := by kernel_rfl
theorem ti94 : tiOf Try.prog 94 = ⟨true, 4, 40, .st [(0, 1), (1, 1), (2, 1), (3, 1)], [.raw (.pointer none), .raw (.pointer none), .raw (.pointer none), .str ByteArray.empty]⟩ := by kernel_rfl
theorem ti95 : tiOf Try.prog 95 = ⟨true, 4, 40, .st [(0, 1), (1, 1), (2, 1), (3, 1)], [.raw (.pointer none), .raw (.pointer none), .raw (.pointer none), .str ByteArray.empty]⟩ := by kernel_rfl
theorem ti96 : tiOf Try.prog 96 = ⟨true, 0, 0, .arr 0 16, []⟩ := by kernel_rfl
theorem ti97 : tiOf Try.prog 97 = ⟨true, 0, 0, .st [(0, 0)], []⟩ := by kernel_rfl
theorem ti98 : tiOf Try.prog 98 = ⟨true, 0, 0, .st [(0, 0)], []⟩ := by kernel_rfl
theorem ti99 : tiOf Try.prog 99 = ⟨true, 1, 4, .int .u32, [.int .u32 (0)]⟩ := by kernel_rfl
theorem ti100 : tiOf Try.prog 100 = ⟨true, 1, 1, .int .u8, [.int .u8 (0)]⟩ := by kernel_rfl
theorem ti101 : tiOf Try.prog 101 = ⟨true, 1, 1, .int .u8, [.int .u8 (0)]⟩ := by kernel_rfl
theorem ti102 : tiOf Try.prog 102 = ⟨true, 1, 8, .other, [.raw .nilFunc]⟩ := by kernel_rfl
theorem ti103 : tiOf Try.prog 103 = ⟨true, 1, 8, .ptr 5, [.raw (.pointer none)]⟩ := by kernel_rfl
theorem ti104 : tiOf Try.prog 104 = ⟨true, 1, 4, .int .i32, [.int .i32 (0)]⟩ := by kernel_rfl
theorem ti105 : tiOf Try.prog 105 = ⟨true, 1, 4, .int .i32, [.int .i32 (0)]⟩ := by kernel_rfl
theorem ti106 : tiOf Try.prog 106 = ⟨true, 11, 48, .st [(0, 1), (1, 1), (2, 1), (3, 1), (4, 1), (5, 1), (6, 1), (7, 1), (8, 1), (9, 1), (10, 1)], [.int .u64 (0), .int .u64 (0), .int .u32 (0), .int .u8 (0), .int .u8 (0), .int .u8 (0), .int .u8 (0), .raw .nilFunc, .raw (.pointer none), .int .i32 (0), .int .i32 (0)]⟩ := by kernel_rfl
theorem ti107 : tiOf Try.prog 107 = ⟨true, 11, 48, .st [(0, 1), (1, 1), (2, 1), (3, 1), (4, 1), (5, 1), (6, 1), (7, 1), (8, 1), (9, 1), (10, 1)], [.int .u64 (0), .int .u64 (0), .int .u32 (0), .int .u8 (0), .int .u8 (0), .int .u8 (0), .int .u8 (0), .raw .nilFunc, .raw (.pointer none), .int .i32 (0), .int .i32 (0)]⟩ := by kernel_rfl
theorem ti108 : tiOf Try.prog 108 = ⟨true, 1, 8, .other, [.raw (.pointer none)]⟩ := by kernel_rfl
def TabOk (P : Program) (k : Nat) (l : List (Option TI)) : Prop := ∀ (i : Nat) (x : TI), l[i]? = some (some x) → tiOf P (i + k) = x
theorem TabOk.nil {P : Program} {k : Nat} : TabOk P k [] := fun i x h => by simp at h
theorem TabOk.som {P : Program} {k : Nat} {y : TI} {l : List (Option TI)} (h : tiOf P k = y) (r : TabOk P (k + 1) l) : TabOk P k (some y :: l) := by
  intro i x hx
  match i with
  | 0 => rw [Nat.zero_add, h]; simpa using hx
  | i + 1 => rw [show i + 1 + k = i + (k + 1) by omega]; exact r i x (by simpa using hx)
theorem TabOk.non {P : Program} {k : Nat} {l : List (Option TI)} (r : TabOk P (k + 1) l) : TabOk P k (none :: l) := by
  intro i x hx
  match i with
  | 0 => simp at hx
  | i + 1 => rw [show i + 1 + k = i + (k + 1) by omega]; exact r i x (by simpa using hx)
def tiL : List (Option TI) := [none, some ⟨true, 1, 8, .other, [.raw .nilFunc]⟩, some ⟨true, 1, 8, .int .i64, [.int .i64 (0)]⟩, some ⟨true, 1, 8, .int .i64, [.int .i64 (0)]⟩, some ⟨true, 1, 1, .bool, [.bool false]⟩, some ⟨true, 1, 1, .int .u8, [.int .u8 (0)]⟩, some ⟨true, 1, 1, .int .u8, [.int .u8 (0)]⟩, some ⟨true, 4, 24, .st [(0, 1), (1, 1), (2, 1), (3, 1)], [.int .i64 (0), .int .i64 (0), .bool false, .int .u8 (0)]⟩, some ⟨true, 4, 24, .st [(0, 1), (1, 1), (2, 1), (3, 1)], [.int .i64 (0), .int .i64 (0), .bool false, .int .u8 (0)]⟩, some ⟨true, 1, 16, .str, [.str ByteArray.empty]⟩, some ⟨true, 1, 16, .str, [.str ByteArray.empty]⟩, some ⟨true, 1, 16, .str, [.str ByteArray.empty]⟩, some ⟨true, 1, 8, .int .u64, [.int .u64 (0)]⟩, some ⟨true, 2, 24, .st [(0, 1), (1, 1)], [.str ByteArray.empty, .int .u64 (0)]⟩, some ⟨true, 2, 24, .st [(0, 1), (1, 1)], [.str ByteArray.empty, .int .u64 (0)]⟩, some ⟨true, 1, 8, .ptr 95, [.raw (.pointer none)]⟩, some ⟨true, 1, 8, .ptr 98, [.raw (.pointer none)]⟩, some ⟨true, 1, 8, .ptr 107, [.raw (.pointer none)]⟩, some ⟨true, 1, 8, .st [(0, 1)], [.raw (.pointer none)]⟩, some ⟨true, 1, 8, .st [(0, 1)], [.raw (.pointer none)]⟩, some ⟨true, 1, 16, .other, [.raw .nilIface]⟩, some ⟨true, 1, 4, .int .i32, [.int .i32 (0)]⟩, some ⟨true, 1, 24, .sl 5, [.sl true 0 []]⟩, some ⟨true, 1, 8, .int .i64, [.int .i64 (0)]⟩, none, some ⟨true, 1, 8, .other, [.raw .nilFunc]⟩, some ⟨true, 1, 8, .other, [.raw .nilFunc]⟩, some ⟨true, 1, 8, .other, [.raw .nilFunc]⟩, some ⟨true, 1, 8, .other, [.raw .nilFunc]⟩, some ⟨true, 1, 8, .other, [.raw .nilFunc]⟩, some ⟨true, 1, 8, .other, [.raw .nilFunc]⟩, some ⟨true, 1, 24, .sl 35, [.sl true 0 []]⟩, some ⟨true, 1, 8, .ptr 71, [.raw (.pointer none)]⟩, some ⟨true, 1, 8, .other, [.raw .nilFunc]⟩, some ⟨true, 2, 16, .st [(0, 1), (1, 1)], [.bool false, .int .i64 (0)]⟩, some ⟨true, 2, 16, .st [(0, 1), (1, 1)], [.bool false, .int .i64 (0)]⟩, none, some ⟨true, 1, 8, .other, [.raw .nilFunc]⟩, some ⟨true, 1, 8, .other, [.raw .nilFunc]⟩, none, some ⟨true, 1, 8, .other, [.raw .nilFunc]⟩, some ⟨true, 1, 8, .other, [.raw .nilFunc]⟩, some ⟨true, 1, 8, .other, [.raw .nilFunc]⟩, some ⟨true, 1, 24, .sl 3, [.sl true 0 []]⟩, some ⟨true, 1, 24, .sl 9, [.sl true 0 []]⟩, some ⟨true, 1, 8, .other, [.raw .nilFunc]⟩, some ⟨true, 1, 8, .other, [.raw .nilFunc]⟩, some ⟨true, 1, 8, .other, [.raw .nilFunc]⟩, some ⟨true, 1, 24, .sl 63, [.sl true 0 []]⟩, some ⟨true, 1, 8, .other, [.raw .nilFunc]⟩, some ⟨true, 1, 8, .other, [.raw .nilFunc]⟩, none, some ⟨true, 1, 8, .other, [.raw .nilFunc]⟩, some ⟨true, 1, 8, .other, [.raw .nilFunc]⟩, none, some ⟨true, 1, 8, .other, [.raw .nilFunc]⟩, none, some ⟨true, 1, 8, .other, [.raw .nilFunc]⟩, some ⟨true, 1, 8, .other, [.raw .nilFunc]⟩, some ⟨true, 1, 8, .other, [.raw .nilFunc]⟩, some ⟨true, 1, 8, .other, [.raw .nilFunc]⟩, some ⟨true, 1, 8, .other, [.raw .nilFunc]⟩, some ⟨true, 3, 40, .st [(0, 1), (1, 1), (2, 1)], [.sl true 0 [], .int .i64 (0), .int .i64 (0)]⟩, some ⟨true, 3, 40, .st [(0, 1), (1, 1), (2, 1)], [.sl true 0 [], .int .i64 (0), .int .i64 (0)]⟩, some ⟨true, 1, 8, .other, [.raw .nilFunc]⟩, some ⟨true, 1, 8, .other, [.raw .nilFunc]⟩, some ⟨true, 1, 8, .other, [.raw .nilFunc]⟩, some ⟨true, 1, 8, .other, [.raw .nilFunc]⟩, some ⟨true, 1, 8, .other, [.raw .nilFunc]⟩, some ⟨true, 1, 8, .int .u64, [.int .u64 (0)]⟩, some ⟨true, 2, 24, .st [(0, 1), (1, 1)], [.str ByteArray.empty, .bool false]⟩, some ⟨true, 2, 24, .st [(0, 1), (1, 1)], [.str ByteArray.empty, .bool false]⟩, none, some ⟨true, 1, 8, .other, [.raw .nilFunc]⟩, some ⟨true, 1, 8, .other, [.raw .nilFunc]⟩, some ⟨true, 1, 8, .int .u64, [.int .u64 (0)]⟩, none, some ⟨true, 1, 8, .other, [.raw .nilFunc]⟩, some ⟨true, 1, 8, .ptr 81, [.raw (.pointer none)]⟩, some ⟨true, 1, 8, .other, [.raw (.map none)]⟩, some ⟨true, 2, 32, .st [(0, 1), (1, 1)], [.sl true 0 [], .raw (.map none)]⟩, some ⟨true, 2, 32, .st [(0, 1), (1, 1)], [.sl true 0 [], .raw (.map none)]⟩, some ⟨true, 1, 8, .other, [.raw .nilFunc]⟩, some ⟨true, 1, 8, .other, [.raw .nilFunc]⟩, some ⟨true, 1, 8, .other, [.raw .nilFunc]⟩, some ⟨true, 3, 3, .arr 3 5, [.int .u8 (0), .int .u8 (0), .int .u8 (0)]⟩, none, some ⟨true, 1, 8, .other, [.raw .nilFunc]⟩, some ⟨true, 1, 8, .other, [.raw .nilFunc]⟩, some ⟨true, 1, 8, .other, [.raw .nilFunc]⟩, some ⟨true, 1, 8, .other, [.raw .nilFunc]⟩, some ⟨true, 1, 8, .other, [.raw .nilFunc]⟩, some ⟨true, 1, 8, .other, [.raw .nilFunc]⟩, some ⟨true, 1, 8, .other, [.raw .nilFunc]⟩, some ⟨true, 4, 40, .st [(0, 1), (1, 1), (2, 1), (3, 1)], [.raw (.pointer none), .raw (.pointer none), .raw (.pointer none), .str ByteArray.empty]⟩, some ⟨true, 4, 40, .st [(0, 1), (1, 1), (2, 1), (3, 1)], [.raw (.pointer none), .raw (.pointer none), .raw (.pointer none), .str ByteArray.empty]⟩, some ⟨true, 0, 0, .arr 0 16, []⟩, some ⟨true, 0, 0, .st [(0, 0)], []⟩, some ⟨true, 0, 0, .st [(0, 0)], []⟩, some ⟨true, 1, 4, .int .u32, [.int .u32 (0)]⟩, some ⟨true, 1, 1, .int .u8, [.int .u8 (0)]⟩, some ⟨true, 1, 1, .int .u8, [.int .u8 (0)]⟩, some ⟨true, 1, 8, .other, [.raw .nilFunc]⟩, some ⟨true, 1, 8, .ptr 5, [.raw (.pointer none)]⟩, some ⟨true, 1, 4, .int .i32, [.int .i32 (0)]⟩, some ⟨true, 1, 4, .int .i32, [.int .i32 (0)]⟩, some ⟨true, 11, 48, .st [(0, 1), (1, 1), (2, 1), (3, 1), (4, 1), (5, 1), (6, 1), (7, 1), (8, 1), (9, 1), (10, 1)], [.int .u64 (0), .int .u64 (0), .int .u32 (0), .int .u8 (0), .int .u8 (0), .int .u8 (0), .int .u8 (0), .raw .nilFunc, .raw (.pointer none), .int .i32 (0), .int .i32 (0)]⟩, some ⟨true, 11, 48, .st [(0, 1), (1, 1), (2, 1), (3, 1), (4, 1), (5, 1), (6, 1), (7, 1), (8, 1), (9, 1), (10, 1)], [.int .u64 (0), .int .u64 (0), .int .u32 (0), .int .u8 (0), .int .u8 (0), .int .u8 (0), .int .u8 (0), .raw .nilFunc, .raw (.pointer none), .int .i32 (0), .int .i32 (0)]⟩, some ⟨true, 1, 8, .other, [.raw (.pointer none)]⟩]
theorem tiL_ok : TabOk Try.prog 0 tiL := (.non (.som ti1 (.som ti2 (.som ti3 (.som ti4 (.som ti5 (.som ti6 (.som ti7 (.som ti8 (.som ti9 (.som ti10 (.som ti11 (.som ti12 (.som ti13 (.som ti14 (.som ti15 (.som ti16 (.som ti17 (.som ti18 (.som ti19 (.som ti20 (.som ti21 (.som ti22 (.som ti23 (.non (.som ti25 (.som ti26 (.som ti27 (.som ti28 (.som ti29 (.som ti30 (.som ti31 (.som ti32 (.som ti33 (.som ti34 (.som ti35 (.non (.som ti37 (.som ti38 (.non (.som ti40 (.som ti41 (.som ti42 (.som ti43 (.som ti44 (.som ti45 (.som ti46 (.som ti47 (.som ti48 (.som ti49 (.som ti50 (.non (.som ti52 (.som ti53 (.non (.som ti55 (.non (.som ti57 (.som ti58 (.som ti59 (.som ti60 (.som ti61 (.som ti62 (.som ti63 (.som ti64 (.som ti65 (.som ti66 (.som ti67 (.som ti68 (.som ti69 (.som ti70 (.som ti71 (.non (.som ti73 (.som ti74 (.som ti75 (.non (.som ti77 (.som ti78 (.som ti79 (.som ti80 (.som ti81 (.som ti82 (.som ti83 (.som ti84 (.som ti85 (.non (.som ti87 (.som ti88 (.som ti89 (.som ti90 (.som ti91 (.som ti92 (.som ti93 (.som ti94 (.som ti95 (.som ti96 (.som ti97 (.som ti98 (.som ti99 (.som ti100 (.som ti101 (.som ti102 (.som ti103 (.som ti104 (.som ti105 (.som ti106 (.som ti107 (.som ti108 .nil)))))))))))))))))))))))))))))))))))))))))))))))))))))))))))))))))))))))))))))))))))))))))))))))))))))))))))))
theorem tiX {t : Nat} {x : TI} (h : tiL[t]? = some (some x)) : tiOf Try.prog t = x := tiL_ok t x h
end Go.Proofs.Ytmlgpibjhegdeaa
