/- Parts of the walk: PvTab, M1, M2. -/
import Derived.Test.YthllcnigcnoghaaGreatDoorZC
import Derived.Test.YthllcnigcnoghaaGreatDoorProg
import Derived.KernelRfl
set_option linter.unusedVariables false
set_option linter.unusedSimpArgs false
section
/- The facts on the types and functions of this translation that the layer asks for. Printed by gentab.py. -/
namespace Go.Proofs
open Go.Pv
@[go_sem] theorem Tryz.ti1 : ti Tryz.prog 1 = some ⟨false, 1, .other, some (.nilFunc)⟩ := by kernel_rfl
@[go_sem] theorem Tryz.ti2 : ti Tryz.prog 2 = some ⟨false, 1, .int .i64, some (.int .i64 0)⟩ := by kernel_rfl
@[go_sem] theorem Tryz.ti3 : ti Tryz.prog 3 = some ⟨false, 1, .int .i64, some (.int .i64 0)⟩ := by kernel_rfl
@[go_sem] theorem Tryz.ti4 : ti Tryz.prog 4 = some ⟨false, 1, .bool, some (.bool false)⟩ := by kernel_rfl
@[go_sem] theorem Tryz.ti5 : ti Tryz.prog 5 = some ⟨false, 1, .int .u8, some (.int .u8 0)⟩ := by kernel_rfl
@[go_sem] theorem Tryz.ti6 : ti Tryz.prog 6 = some ⟨false, 1, .int .u8, some (.int .u8 0)⟩ := by kernel_rfl
@[go_sem] theorem Tryz.ti7 : ti Tryz.prog 7 = some ⟨true, 4, .struct [(0, ⟨2, 1, 8, false, true, false⟩), (1, ⟨3, 1, 8, false, true, false⟩), (2, ⟨4, 1, 1, false, true, false⟩), (3, ⟨6, 1, 1, false, true, true⟩)], some (.agg #[.int .i64 0, .int .i64 0, .bool false, .int .u8 0])⟩ := by kernel_rfl
@[go_sem] theorem Tryz.ti8 : ti Tryz.prog 8 = some ⟨true, 4, .struct [(0, ⟨2, 1, 8, false, true, false⟩), (1, ⟨3, 1, 8, false, true, false⟩), (2, ⟨4, 1, 1, false, true, false⟩), (3, ⟨6, 1, 1, false, true, true⟩)], some (.agg #[.int .i64 0, .int .i64 0, .bool false, .int .u8 0])⟩ := by kernel_rfl
@[go_sem] theorem Tryz.ti9 : ti Tryz.prog 9 = some ⟨false, 1, .str, some (.string ByteArray.empty)⟩ := by kernel_rfl
@[go_sem] theorem Tryz.ti10 : ti Tryz.prog 10 = some ⟨false, 1, .str, some (.string ByteArray.empty)⟩ := by kernel_rfl
@[go_sem] theorem Tryz.ti11 : ti Tryz.prog 11 = some ⟨false, 1, .str, some (.string ByteArray.empty)⟩ := by kernel_rfl
@[go_sem] theorem Tryz.ti12 : ti Tryz.prog 12 = some ⟨false, 1, .int .u64, some (.int .u64 0)⟩ := by kernel_rfl
@[go_sem] theorem Tryz.ti13 : ti Tryz.prog 13 = some ⟨true, 2, .struct [(0, ⟨9, 1, 16, false, true, false⟩), (1, ⟨12, 1, 8, false, true, false⟩)], some (.agg #[.string ByteArray.empty, .int .u64 0])⟩ := by kernel_rfl
@[go_sem] theorem Tryz.ti14 : ti Tryz.prog 14 = some ⟨true, 2, .struct [(0, ⟨9, 1, 16, false, true, false⟩), (1, ⟨12, 1, 8, false, true, false⟩)], some (.agg #[.string ByteArray.empty, .int .u64 0])⟩ := by kernel_rfl
@[go_sem] theorem Tryz.ti15 : ti Tryz.prog 15 = some ⟨false, 1, .ptr, some (.pointer none)⟩ := by kernel_rfl
@[go_sem] theorem Tryz.ti16 : ti Tryz.prog 16 = some ⟨false, 1, .ptr, some (.pointer none)⟩ := by kernel_rfl
@[go_sem] theorem Tryz.ti17 : ti Tryz.prog 17 = some ⟨false, 1, .ptr, some (.pointer none)⟩ := by kernel_rfl
@[go_sem] theorem Tryz.ti18 : ti Tryz.prog 18 = some ⟨true, 1, .struct [(0, ⟨17, 1, 8, false, true, false⟩)], some (.agg #[.pointer none])⟩ := by kernel_rfl
@[go_sem] theorem Tryz.ti19 : ti Tryz.prog 19 = some ⟨true, 1, .struct [(0, ⟨17, 1, 8, false, true, false⟩)], some (.agg #[.pointer none])⟩ := by kernel_rfl
@[go_sem] theorem Tryz.ti21 : ti Tryz.prog 21 = some ⟨false, 1, .int .i32, some (.int .i32 0)⟩ := by kernel_rfl
@[go_sem] theorem Tryz.ti22 : ti Tryz.prog 22 = some ⟨false, 1, .slice ⟨28, 1, 24, false, true, false⟩, some (.slice none 0 0)⟩ := by kernel_rfl
@[go_sem] theorem Tryz.ti23 : ti Tryz.prog 23 = some ⟨false, 1, .slice ⟨34, 6, 80, true, true, false⟩, some (.slice none 0 0)⟩ := by kernel_rfl
@[go_sem] theorem Tryz.ti24 : ti Tryz.prog 24 = some ⟨false, 1, .slice ⟨71, 1, 8, false, true, false⟩, some (.slice none 0 0)⟩ := by kernel_rfl
@[go_sem] theorem Tryz.ti25 : ti Tryz.prog 25 = some ⟨true, 3, .struct [(0, ⟨4, 1, 1, false, true, false⟩), (1, ⟨2, 1, 8, false, true, false⟩), (2, ⟨24, 1, 24, false, true, false⟩)], some (.agg #[.bool false, .int .i64 0, .slice none 0 0])⟩ := by kernel_rfl
@[go_sem] theorem Tryz.ti26 : ti Tryz.prog 26 = some ⟨true, 3, .struct [(0, ⟨4, 1, 1, false, true, false⟩), (1, ⟨2, 1, 8, false, true, false⟩), (2, ⟨24, 1, 24, false, true, false⟩)], some (.agg #[.bool false, .int .i64 0, .slice none 0 0])⟩ := by kernel_rfl
@[go_sem] theorem Tryz.ti27 : ti Tryz.prog 27 = some ⟨false, 1, .other, some (.nilFunc)⟩ := by kernel_rfl
@[go_sem] theorem Tryz.ti28 : ti Tryz.prog 28 = some ⟨false, 1, .slice ⟨31, 4, 64, true, true, false⟩, some (.slice none 0 0)⟩ := by kernel_rfl
@[go_sem] theorem Tryz.ti29 : ti Tryz.prog 29 = some ⟨false, 1, .slice ⟨3, 1, 8, false, true, false⟩, some (.slice none 0 0)⟩ := by kernel_rfl
@[go_sem] theorem Tryz.ti30 : ti Tryz.prog 30 = some ⟨true, 4, .struct [(0, ⟨26, 3, 40, true, true, false⟩), (3, ⟨29, 1, 24, false, true, false⟩)], some (.agg #[.bool false, .int .i64 0, .slice none 0 0, .slice none 0 0])⟩ := by kernel_rfl
@[go_sem] theorem Tryz.ti31 : ti Tryz.prog 31 = some ⟨true, 4, .struct [(0, ⟨26, 3, 40, true, true, false⟩), (3, ⟨29, 1, 24, false, true, false⟩)], some (.agg #[.bool false, .int .i64 0, .slice none 0 0, .slice none 0 0])⟩ := by kernel_rfl
@[go_sem] theorem Tryz.ti32 : ti Tryz.prog 32 = some ⟨false, 1, .slice ⟨23, 1, 24, false, true, false⟩, some (.slice none 0 0)⟩ := by kernel_rfl
@[go_sem] theorem Tryz.ti33 : ti Tryz.prog 33 = some ⟨true, 6, .struct [(0, ⟨26, 3, 40, true, true, false⟩), (3, ⟨26, 3, 40, true, true, false⟩)], some (.agg #[.bool false, .int .i64 0, .slice none 0 0, .bool false, .int .i64 0, .slice none 0 0])⟩ := by kernel_rfl
@[go_sem] theorem Tryz.ti34 : ti Tryz.prog 34 = some ⟨true, 6, .struct [(0, ⟨26, 3, 40, true, true, false⟩), (3, ⟨26, 3, 40, true, true, false⟩)], some (.agg #[.bool false, .int .i64 0, .slice none 0 0, .bool false, .int .i64 0, .slice none 0 0])⟩ := by kernel_rfl
@[go_sem] theorem Tryz.ti35 : ti Tryz.prog 35 = some ⟨false, 1, .other, some (.nilFunc)⟩ := by kernel_rfl
@[go_sem] theorem Tryz.ti36 : ti Tryz.prog 36 = some ⟨false, 1, .ptr, some (.pointer none)⟩ := by kernel_rfl
@[go_sem] theorem Tryz.ti37 : ti Tryz.prog 37 = some ⟨false, 1, .other, some (.nilFunc)⟩ := by kernel_rfl
@[go_sem] theorem Tryz.ti38 : ti Tryz.prog 38 = some ⟨false, 1, .other, some (.nilFunc)⟩ := by kernel_rfl
@[go_sem] theorem Tryz.ti39 : ti Tryz.prog 39 = some ⟨false, 1, .other, some (.nilFunc)⟩ := by kernel_rfl
@[go_sem] theorem Tryz.ti40 : ti Tryz.prog 40 = some ⟨false, 1, .other, some (.nilFunc)⟩ := by kernel_rfl
@[go_sem] theorem Tryz.ti41 : ti Tryz.prog 41 = some ⟨false, 1, .int .i64, some (.int .i64 0)⟩ := by kernel_rfl
@[go_sem] theorem Tryz.ti43 : ti Tryz.prog 43 = some ⟨false, 1, .other, some (.nilFunc)⟩ := by kernel_rfl
@[go_sem] theorem Tryz.ti44 : ti Tryz.prog 44 = some ⟨false, 1, .other, some (.nilFunc)⟩ := by kernel_rfl
@[go_sem] theorem Tryz.ti45 : ti Tryz.prog 45 = some ⟨false, 1, .other, some (.nilFunc)⟩ := by kernel_rfl
@[go_sem] theorem Tryz.ti46 : ti Tryz.prog 46 = some ⟨false, 1, .other, some (.nilFunc)⟩ := by kernel_rfl
@[go_sem] theorem Tryz.ti47 : ti Tryz.prog 47 = some ⟨false, 1, .other, some (.nilFunc)⟩ := by kernel_rfl
@[go_sem] theorem Tryz.ti49 : ti Tryz.prog 49 = some ⟨false, 1, .other, some (.nilFunc)⟩ := by kernel_rfl
@[go_sem] theorem Tryz.ti50 : ti Tryz.prog 50 = some ⟨false, 1, .other, some (.nilFunc)⟩ := by kernel_rfl
@[go_sem] theorem Tryz.ti51 : ti Tryz.prog 51 = some ⟨false, 1, .other, some (.nilFunc)⟩ := by kernel_rfl
@[go_sem] theorem Tryz.ti52 : ti Tryz.prog 52 = some ⟨false, 1, .slice ⟨66, 1, 24, false, true, false⟩, some (.slice none 0 0)⟩ := by kernel_rfl
@[go_sem] theorem Tryz.ti53 : ti Tryz.prog 53 = some ⟨false, 1, .other, some (.nilFunc)⟩ := by kernel_rfl
@[go_sem] theorem Tryz.ti54 : ti Tryz.prog 54 = some ⟨false, 1, .slice ⟨26, 3, 40, true, true, false⟩, some (.slice none 0 0)⟩ := by kernel_rfl
@[go_sem] theorem Tryz.ti55 : ti Tryz.prog 55 = some ⟨false, 1, .other, some (.nilFunc)⟩ := by kernel_rfl
@[go_sem] theorem Tryz.ti56 : ti Tryz.prog 56 = some ⟨false, 1, .other, some (.nilFunc)⟩ := by kernel_rfl
@[go_sem] theorem Tryz.ti57 : ti Tryz.prog 57 = some ⟨false, 1, .slice ⟨130, 1, 4, false, true, false⟩, some (.slice none 0 0)⟩ := by kernel_rfl
@[go_sem] theorem Tryz.ti58 : ti Tryz.prog 58 = some ⟨true, 3, .struct [(0, ⟨4, 1, 1, false, true, false⟩), (1, ⟨57, 1, 24, false, true, false⟩), (2, ⟨2, 1, 8, false, true, false⟩)], some (.agg #[.bool false, .slice none 0 0, .int .i64 0])⟩ := by kernel_rfl
@[go_sem] theorem Tryz.ti59 : ti Tryz.prog 59 = some ⟨true, 3, .struct [(0, ⟨4, 1, 1, false, true, false⟩), (1, ⟨57, 1, 24, false, true, false⟩), (2, ⟨2, 1, 8, false, true, false⟩)], some (.agg #[.bool false, .slice none 0 0, .int .i64 0])⟩ := by kernel_rfl
@[go_sem] theorem Tryz.ti60 : ti Tryz.prog 60 = some ⟨false, 1, .other, some (.nilFunc)⟩ := by kernel_rfl
@[go_sem] theorem Tryz.ti61 : ti Tryz.prog 61 = some ⟨false, 1, .other, some (.nilFunc)⟩ := by kernel_rfl
@[go_sem] theorem Tryz.ti62 : ti Tryz.prog 62 = some ⟨false, 1, .other, some (.nilFunc)⟩ := by kernel_rfl
@[go_sem] theorem Tryz.ti63 : ti Tryz.prog 63 = some ⟨false, 1, .other, some (.nilFunc)⟩ := by kernel_rfl
@[go_sem] theorem Tryz.ti65 : ti Tryz.prog 65 = some ⟨false, 1, .other, some (.nilFunc)⟩ := by kernel_rfl
@[go_sem] theorem Tryz.ti66 : ti Tryz.prog 66 = some ⟨false, 1, .slice ⟨59, 3, 40, true, true, false⟩, some (.slice none 0 0)⟩ := by kernel_rfl
@[go_sem] theorem Tryz.ti67 : ti Tryz.prog 67 = some ⟨false, 1, .other, some (.nilFunc)⟩ := by kernel_rfl
@[go_sem] theorem Tryz.ti68 : ti Tryz.prog 68 = some ⟨false, 1, .other, some (.nilFunc)⟩ := by kernel_rfl
@[go_sem] theorem Tryz.ti69 : ti Tryz.prog 69 = some ⟨false, 1, .other, some (.nilFunc)⟩ := by kernel_rfl
@[go_sem] theorem Tryz.ti70 : ti Tryz.prog 70 = some ⟨false, 1, .other, some (.nilFunc)⟩ := by kernel_rfl
@[go_sem] theorem Tryz.ti71 : ti Tryz.prog 71 = some ⟨false, 1, .int .u64, some (.int .u64 0)⟩ := by kernel_rfl
@[go_sem] theorem Tryz.ti72 : ti Tryz.prog 72 = some ⟨false, 1, .other, some (.nilFunc)⟩ := by kernel_rfl
@[go_sem] theorem Tryz.ti73 : ti Tryz.prog 73 = some ⟨false, 1, .other, some (.nilFunc)⟩ := by kernel_rfl
@[go_sem] theorem Tryz.ti75 : ti Tryz.prog 75 = some ⟨false, 1, .other, some (.nilFunc)⟩ := by kernel_rfl
@[go_sem] theorem Tryz.ti76 : ti Tryz.prog 76 = some ⟨false, 1, .other, some (.nilFunc)⟩ := by kernel_rfl
@[go_sem] theorem Tryz.ti77 : ti Tryz.prog 77 = some ⟨true, 2, .struct [(0, ⟨24, 1, 24, false, true, false⟩), (1, ⟨3, 1, 8, false, true, false⟩)], some (.agg #[.slice none 0 0, .int .i64 0])⟩ := by kernel_rfl
@[go_sem] theorem Tryz.ti78 : ti Tryz.prog 78 = some ⟨true, 2, .struct [(0, ⟨24, 1, 24, false, true, false⟩), (1, ⟨3, 1, 8, false, true, false⟩)], some (.agg #[.slice none 0 0, .int .i64 0])⟩ := by kernel_rfl
@[go_sem] theorem Tryz.ti79 : ti Tryz.prog 79 = some ⟨false, 1, .other, some (.nilFunc)⟩ := by kernel_rfl
@[go_sem] theorem Tryz.ti80 : ti Tryz.prog 80 = some ⟨false, 1, .other, some (.nilFunc)⟩ := by kernel_rfl
@[go_sem] theorem Tryz.ti81 : ti Tryz.prog 81 = some ⟨false, 1, .other, some (.nilFunc)⟩ := by kernel_rfl
@[go_sem] theorem Tryz.ti82 : ti Tryz.prog 82 = some ⟨false, 1, .other, some (.nilFunc)⟩ := by kernel_rfl
@[go_sem] theorem Tryz.ti83 : ti Tryz.prog 83 = some ⟨false, 1, .other, some (.nilFunc)⟩ := by kernel_rfl
@[go_sem] theorem Tryz.ti84 : ti Tryz.prog 84 = some ⟨false, 1, .other, some (.nilFunc)⟩ := by kernel_rfl
@[go_sem] theorem Tryz.ti85 : ti Tryz.prog 85 = some ⟨false, 1, .other, some (.nilFunc)⟩ := by kernel_rfl
@[go_sem] theorem Tryz.ti86 : ti Tryz.prog 86 = some ⟨true, 6, .struct [(0, ⟨22, 1, 24, false, true, false⟩), (1, ⟨23, 1, 24, false, true, false⟩), (2, ⟨26, 3, 40, true, true, false⟩), (5, ⟨3, 1, 8, false, true, false⟩)], some (.agg #[.slice none 0 0, .slice none 0 0, .bool false, .int .i64 0, .slice none 0 0, .int .i64 0])⟩ := by kernel_rfl
@[go_sem] theorem Tryz.ti87 : ti Tryz.prog 87 = some ⟨true, 6, .struct [(0, ⟨22, 1, 24, false, true, false⟩), (1, ⟨23, 1, 24, false, true, false⟩), (2, ⟨26, 3, 40, true, true, false⟩), (5, ⟨3, 1, 8, false, true, false⟩)], some (.agg #[.slice none 0 0, .slice none 0 0, .bool false, .int .i64 0, .slice none 0 0, .int .i64 0])⟩ := by kernel_rfl
@[go_sem] theorem Tryz.ti88 : ti Tryz.prog 88 = some ⟨false, 1, .other, some (.nilFunc)⟩ := by kernel_rfl
@[go_sem] theorem Tryz.ti89 : ti Tryz.prog 89 = some ⟨false, 1, .other, some (.nilFunc)⟩ := by kernel_rfl
@[go_sem] theorem Tryz.ti90 : ti Tryz.prog 90 = some ⟨false, 1, .other, some (.nilFunc)⟩ := by kernel_rfl
@[go_sem] theorem Tryz.ti91 : ti Tryz.prog 91 = some ⟨false, 1, .other, some (.nilFunc)⟩ := by kernel_rfl
@[go_sem] theorem Tryz.ti92 : ti Tryz.prog 92 = some ⟨false, 1, .other, some (.nilFunc)⟩ := by kernel_rfl
@[go_sem] theorem Tryz.ti94 : ti Tryz.prog 94 = some ⟨false, 1, .other, some (.nilFunc)⟩ := by kernel_rfl
@[go_sem] theorem Tryz.ti95 : ti Tryz.prog 95 = some ⟨false, 1, .other, some (.nilFunc)⟩ := by kernel_rfl
@[go_sem] theorem Tryz.ti96 : ti Tryz.prog 96 = some ⟨false, 1, .other, some (.nilFunc)⟩ := by kernel_rfl
@[go_sem] theorem Tryz.ti97 : ti Tryz.prog 97 = some ⟨false, 1, .other, some (.nilFunc)⟩ := by kernel_rfl
@[go_sem] theorem Tryz.ti98 : ti Tryz.prog 98 = some ⟨false, 1, .other, some (.nilFunc)⟩ := by kernel_rfl
@[go_sem] theorem Tryz.ti99 : ti Tryz.prog 99 = some ⟨false, 1, .other, some (.nilFunc)⟩ := by kernel_rfl
@[go_sem] theorem Tryz.ti101 : ti Tryz.prog 101 = some ⟨false, 1, .other, some (.nilFunc)⟩ := by kernel_rfl
@[go_sem] theorem Tryz.ti102 : ti Tryz.prog 102 = some ⟨false, 1, .other, some (.nilFunc)⟩ := by kernel_rfl
@[go_sem] theorem Tryz.ti103 : ti Tryz.prog 103 = some ⟨false, 1, .other, some (.nilFunc)⟩ := by kernel_rfl
@[go_sem] theorem Tryz.ti104 : ti Tryz.prog 104 = some ⟨false, 1, .other, some (.nilFunc)⟩ := by kernel_rfl
@[go_sem] theorem Tryz.ti105 : ti Tryz.prog 105 = some ⟨false, 1, .other, some (.nilFunc)⟩ := by kernel_rfl
@[go_sem] theorem Tryz.ti106 : ti Tryz.prog 106 = some ⟨false, 1, .other, some (.nilFunc)⟩ := by kernel_rfl
@[go_sem] theorem Tryz.ti108 : ti Tryz.prog 108 = some ⟨false, 1, .other, some (.nilFunc)⟩ := by kernel_rfl
@[go_sem] theorem Tryz.ti109 : ti Tryz.prog 109 = some ⟨false, 1, .other, some (.nilFunc)⟩ := by kernel_rfl
@[go_sem] theorem Tryz.ti110 : ti Tryz.prog 110 = some ⟨false, 1, .other, some (.nilFunc)⟩ := by kernel_rfl
@[go_sem] theorem Tryz.ti111 : ti Tryz.prog 111 = some ⟨false, 1, .other, some (.nilFunc)⟩ := by kernel_rfl
@[go_sem] theorem Tryz.ti112 : ti Tryz.prog 112 = some ⟨false, 1, .other, some (.nilFunc)⟩ := by kernel_rfl
@[go_sem] theorem Tryz.ti113 : ti Tryz.prog 113 = some ⟨false, 1, .other, some (.nilFunc)⟩ := by kernel_rfl
@[go_sem] theorem Tryz.ti114 : ti Tryz.prog 114 = some ⟨false, 1, .other, some (.nilFunc)⟩ := by kernel_rfl
@[go_sem] theorem Tryz.ti115 : ti Tryz.prog 115 = some ⟨false, 1, .other, some (.nilFunc)⟩ := by kernel_rfl
@[go_sem] theorem Tryz.ti116 : ti Tryz.prog 116 = some ⟨false, 1, .other, some (.nilFunc)⟩ := by kernel_rfl
@[go_sem] theorem Tryz.ti117 : ti Tryz.prog 117 = some ⟨false, 1, .other, some (.nilFunc)⟩ := by kernel_rfl
@[go_sem] theorem Tryz.ti118 : ti Tryz.prog 118 = some ⟨false, 1, .other, some (.nilFunc)⟩ := by kernel_rfl
@[go_sem] theorem Tryz.ti119 : ti Tryz.prog 119 = some ⟨false, 1, .other, some (.nilFunc)⟩ := by kernel_rfl
@[go_sem] theorem Tryz.ti120 : ti Tryz.prog 120 = some ⟨false, 1, .other, some (.nilFunc)⟩ := by kernel_rfl
@[go_sem] theorem Tryz.ti121 : ti Tryz.prog 121 = some ⟨false, 1, .other, some (.nilFunc)⟩ := by kernel_rfl
@[go_sem] theorem Tryz.ti122 : ti Tryz.prog 122 = some ⟨false, 1, .other, some (.nilFunc)⟩ := by kernel_rfl
@[go_sem] theorem Tryz.ti123 : ti Tryz.prog 123 = some ⟨false, 1, .slice ⟨126, 4, 64, true, true, false⟩, some (.slice none 0 0)⟩ := by kernel_rfl
@[go_sem] theorem Tryz.ti124 : ti Tryz.prog 124 = some ⟨false, 1, .other, some (.nilFunc)⟩ := by kernel_rfl
@[go_sem] theorem Tryz.ti125 : ti Tryz.prog 125 = some ⟨true, 4, .struct [(0, ⟨59, 3, 40, true, true, false⟩), (3, ⟨29, 1, 24, false, true, false⟩)], some (.agg #[.bool false, .slice none 0 0, .int .i64 0, .slice none 0 0])⟩ := by kernel_rfl
@[go_sem] theorem Tryz.ti126 : ti Tryz.prog 126 = some ⟨true, 4, .struct [(0, ⟨59, 3, 40, true, true, false⟩), (3, ⟨29, 1, 24, false, true, false⟩)], some (.agg #[.bool false, .slice none 0 0, .int .i64 0, .slice none 0 0])⟩ := by kernel_rfl
@[go_sem] theorem Tryz.ti127 : ti Tryz.prog 127 = some ⟨false, 1, .other, some (.nilFunc)⟩ := by kernel_rfl
@[go_sem] theorem Tryz.ti128 : ti Tryz.prog 128 = some ⟨false, 1, .other, some (.nilFunc)⟩ := by kernel_rfl
@[go_sem] theorem Tryz.ti129 : ti Tryz.prog 129 = some ⟨false, 1, .other, some (.nilFunc)⟩ := by kernel_rfl
@[go_sem] theorem Tryz.ti130 : ti Tryz.prog 130 = some ⟨false, 1, .int .u32, some (.int .u32 0)⟩ := by kernel_rfl
@[go_sem] theorem Tryz.ti131 : ti Tryz.prog 131 = some ⟨false, 1, .int .u64, some (.int .u64 0)⟩ := by kernel_rfl
@[go_sem] theorem Tryz.ti132 : ti Tryz.prog 132 = some ⟨false, 1, .other, some (.nilFunc)⟩ := by kernel_rfl
@[go_sem] theorem Tryz.ti133 : ti Tryz.prog 133 = some ⟨false, 1, .other, some (.nilFunc)⟩ := by kernel_rfl
@[go_sem] theorem Tryz.ti134 : ti Tryz.prog 134 = some ⟨false, 1, .other, some (.nilFunc)⟩ := by kernel_rfl
@[go_sem] theorem Tryz.ti135 : ti Tryz.prog 135 = some ⟨false, 1, .other, some (.nilFunc)⟩ := by kernel_rfl
@[go_sem] theorem Tryz.ti136 : ti Tryz.prog 136 = some ⟨false, 1, .other, some (.nilFunc)⟩ := by kernel_rfl
@[go_sem] theorem Tryz.ti137 : ti Tryz.prog 137 = some ⟨false, 1, .other, some (.nilFunc)⟩ := by kernel_rfl
@[go_sem] theorem Tryz.ti139 : ti Tryz.prog 139 = some ⟨false, 1, .other, some (.nilFunc)⟩ := by kernel_rfl
@[go_sem] theorem Tryz.ti141 : ti Tryz.prog 141 = some ⟨false, 1, .other, some (.nilFunc)⟩ := by kernel_rfl
@[go_sem] theorem Tryz.ti142 : ti Tryz.prog 142 = some ⟨false, 1, .other, some (.nilFunc)⟩ := by kernel_rfl
@[go_sem] theorem Tryz.ti143 : ti Tryz.prog 143 = some ⟨false, 1, .other, some (.nilFunc)⟩ := by kernel_rfl
@[go_sem] theorem Tryz.ti144 : ti Tryz.prog 144 = some ⟨false, 1, .other, some (.nilFunc)⟩ := by kernel_rfl
@[go_sem] theorem Tryz.ti145 : ti Tryz.prog 145 = some ⟨false, 1, .other, some (.nilFunc)⟩ := by kernel_rfl
@[go_sem] theorem Tryz.ti146 : ti Tryz.prog 146 = some ⟨false, 1, .other, some (.nilFunc)⟩ := by kernel_rfl
@[go_sem] theorem Tryz.ti147 : ti Tryz.prog 147 = some ⟨false, 1, .other, some (.nilFunc)⟩ := by kernel_rfl
@[go_sem] theorem Tryz.ti148 : ti Tryz.prog 148 = some ⟨false, 1, .other, some (.nilFunc)⟩ := by kernel_rfl
@[go_sem] theorem Tryz.ti149 : ti Tryz.prog 149 = some ⟨false, 1, .other, some (.nilFunc)⟩ := by kernel_rfl
@[go_sem] theorem Tryz.ti150 : ti Tryz.prog 150 = some ⟨false, 1, .other, some (.nilFunc)⟩ := by kernel_rfl
@[go_sem] theorem Tryz.ti151 : ti Tryz.prog 151 = some ⟨false, 1, .other, some (.nilFunc)⟩ := by kernel_rfl
@[go_sem] theorem Tryz.ti152 : ti Tryz.prog 152 = some ⟨false, 1, .other, some (.nilFunc)⟩ := by kernel_rfl
@[go_sem] theorem Tryz.ti153 : ti Tryz.prog 153 = some ⟨false, 1, .other, some (.nilFunc)⟩ := by kernel_rfl
@[go_sem] theorem Tryz.ti154 : ti Tryz.prog 154 = some ⟨false, 1, .other, some (.nilFunc)⟩ := by kernel_rfl
@[go_sem] theorem Tryz.ti155 : ti Tryz.prog 155 = some ⟨false, 1, .other, some (.nilFunc)⟩ := by kernel_rfl
@[go_sem] theorem Tryz.ti156 : ti Tryz.prog 156 = some ⟨false, 1, .other, some (.nilFunc)⟩ := by kernel_rfl
@[go_sem] theorem Tryz.ti157 : ti Tryz.prog 157 = some ⟨false, 1, .other, some (.nilFunc)⟩ := by kernel_rfl
@[go_sem] theorem Tryz.ti158 : ti Tryz.prog 158 = some ⟨false, 1, .other, some (.nilFunc)⟩ := by kernel_rfl
@[go_sem] theorem Tryz.ti159 : ti Tryz.prog 159 = some ⟨false, 1, .other, some (.nilFunc)⟩ := by kernel_rfl
@[go_sem] theorem Tryz.ti160 : ti Tryz.prog 160 = some ⟨false, 1, .other, some (.nilFunc)⟩ := by kernel_rfl
@[go_sem] theorem Tryz.ti161 : ti Tryz.prog 161 = some ⟨false, 1, .other, some (.nilFunc)⟩ := by kernel_rfl
@[go_sem] theorem Tryz.ti162 : ti Tryz.prog 162 = some ⟨false, 1, .other, some (.nilFunc)⟩ := by kernel_rfl
@[go_sem] theorem Tryz.ti163 : ti Tryz.prog 163 = some ⟨false, 1, .other, some (.nilFunc)⟩ := by kernel_rfl
@[go_sem] theorem Tryz.ti165 : ti Tryz.prog 165 = some ⟨false, 1, .other, some (.nilFunc)⟩ := by kernel_rfl
@[go_sem] theorem Tryz.ti166 : ti Tryz.prog 166 = some ⟨false, 1, .other, some (.nilFunc)⟩ := by kernel_rfl
@[go_sem] theorem Tryz.ti167 : ti Tryz.prog 167 = some ⟨false, 1, .other, some (.nilFunc)⟩ := by kernel_rfl
@[go_sem] theorem Tryz.ti168 : ti Tryz.prog 168 = some ⟨false, 1, .other, some (.nilFunc)⟩ := by kernel_rfl
@[go_sem] theorem Tryz.ti169 : ti Tryz.prog 169 = some ⟨false, 1, .other, some (.nilFunc)⟩ := by kernel_rfl
@[go_sem] theorem Tryz.ti170 : ti Tryz.prog 170 = some ⟨false, 1, .other, some (.nilFunc)⟩ := by kernel_rfl
@[go_sem] theorem Tryz.ti171 : ti Tryz.prog 171 = some ⟨false, 1, .other, some (.nilFunc)⟩ := by kernel_rfl
@[go_sem] theorem Tryz.ti172 : ti Tryz.prog 172 = some ⟨false, 1, .other, some (.nilFunc)⟩ := by kernel_rfl
@[go_sem] theorem Tryz.ti173 : ti Tryz.prog 173 = some ⟨false, 1, .other, some (.nilFunc)⟩ := by kernel_rfl
@[go_sem] theorem Tryz.ti174 : ti Tryz.prog 174 = some ⟨false, 1, .other, some (.nilFunc)⟩ := by kernel_rfl
@[go_sem] theorem Tryz.ti175 : ti Tryz.prog 175 = some ⟨false, 1, .other, some (.nilFunc)⟩ := by kernel_rfl
@[go_sem] theorem Tryz.ti176 : ti Tryz.prog 176 = some ⟨false, 1, .other, some (.nilFunc)⟩ := by kernel_rfl
@[go_sem] theorem Tryz.ti177 : ti Tryz.prog 177 = some ⟨false, 1, .other, some (.nilFunc)⟩ := by kernel_rfl
@[go_sem] theorem Tryz.ti178 : ti Tryz.prog 178 = some ⟨false, 1, .other, some (.nilFunc)⟩ := by kernel_rfl
@[go_sem] theorem Tryz.ti179 : ti Tryz.prog 179 = some ⟨false, 1, .other, some (.nilFunc)⟩ := by kernel_rfl
@[go_sem] theorem Tryz.ti180 : ti Tryz.prog 180 = some ⟨false, 1, .other, some (.nilFunc)⟩ := by kernel_rfl
@[go_sem] theorem Tryz.ti181 : ti Tryz.prog 181 = some ⟨false, 1, .other, some (.nilFunc)⟩ := by kernel_rfl
@[go_sem] theorem Tryz.ti182 : ti Tryz.prog 182 = some ⟨false, 1, .other, some (.nilFunc)⟩ := by kernel_rfl
@[go_sem] theorem Tryz.ti183 : ti Tryz.prog 183 = some ⟨false, 1, .other, some (.nilFunc)⟩ := by kernel_rfl
@[go_sem] theorem Tryz.ti184 : ti Tryz.prog 184 = some ⟨false, 1, .other, some (.nilFunc)⟩ := by kernel_rfl
@[go_sem] theorem Tryz.ti185 : ti Tryz.prog 185 = some ⟨false, 1, .other, some (.nilFunc)⟩ := by kernel_rfl
@[go_sem] theorem Tryz.ti186 : ti Tryz.prog 186 = some ⟨false, 1, .other, some (.nilFunc)⟩ := by kernel_rfl
@[go_sem] theorem Tryz.ti187 : ti Tryz.prog 187 = some ⟨false, 1, .other, some (.nilFunc)⟩ := by kernel_rfl
@[go_sem] theorem Tryz.ti188 : ti Tryz.prog 188 = some ⟨false, 1, .other, some (.nilFunc)⟩ := by kernel_rfl
@[go_sem] theorem Tryz.ti189 : ti Tryz.prog 189 = some ⟨false, 1, .other, some (.nilFunc)⟩ := by kernel_rfl
@[go_sem] theorem Tryz.ti190 : ti Tryz.prog 190 = some ⟨false, 1, .other, some (.nilFunc)⟩ := by kernel_rfl
@[go_sem] theorem Tryz.ti191 : ti Tryz.prog 191 = some ⟨false, 1, .other, some (.nilFunc)⟩ := by kernel_rfl
@[go_sem] theorem Tryz.ti192 : ti Tryz.prog 192 = some ⟨false, 1, .other, some (.nilFunc)⟩ := by kernel_rfl
@[go_sem] theorem Tryz.ti193 : ti Tryz.prog 193 = some ⟨false, 1, .other, some (.nilFunc)⟩ := by kernel_rfl
@[go_sem] theorem Tryz.ti194 : ti Tryz.prog 194 = some ⟨false, 1, .other, some (.nilFunc)⟩ := by kernel_rfl
@[go_sem] theorem Tryz.ti195 : ti Tryz.prog 195 = some ⟨false, 1, .other, some (.nilFunc)⟩ := by kernel_rfl
@[go_sem] theorem Tryz.ti196 : ti Tryz.prog 196 = some ⟨false, 1, .other, some (.nilFunc)⟩ := by kernel_rfl
@[go_sem] theorem Tryz.ti197 : ti Tryz.prog 197 = some ⟨false, 1, .other, some (.nilFunc)⟩ := by kernel_rfl
@[go_sem] theorem Tryz.ti198 : ti Tryz.prog 198 = some ⟨false, 1, .other, some (.nilFunc)⟩ := by kernel_rfl
@[go_sem] theorem Tryz.ti199 : ti Tryz.prog 199 = some ⟨true, 64, .arr 64 ⟨5, 1, 1, false, true, true⟩, some (.agg #[.int .u8 0, .int .u8 0, .int .u8 0, .int .u8 0, .int .u8 0, .int .u8 0, .int .u8 0, .int .u8 0, .int .u8 0, .int .u8 0, .int .u8 0, .int .u8 0, .int .u8 0, .int .u8 0, .int .u8 0, .int .u8 0, .int .u8 0, .int .u8 0, .int .u8 0, .int .u8 0, .int .u8 0, .int .u8 0, .int .u8 0, .int .u8 0, .int .u8 0, .int .u8 0, .int .u8 0, .int .u8 0, .int .u8 0, .int .u8 0, .int .u8 0, .int .u8 0, .int .u8 0, .int .u8 0, .int .u8 0, .int .u8 0, .int .u8 0, .int .u8 0, .int .u8 0, .int .u8 0, .int .u8 0, .int .u8 0, .int .u8 0, .int .u8 0, .int .u8 0, .int .u8 0, .int .u8 0, .int .u8 0, .int .u8 0, .int .u8 0, .int .u8 0, .int .u8 0, .int .u8 0, .int .u8 0, .int .u8 0, .int .u8 0, .int .u8 0, .int .u8 0, .int .u8 0, .int .u8 0, .int .u8 0, .int .u8 0, .int .u8 0, .int .u8 0])⟩ := by kernel_rfl
@[go_sem] theorem Tryz.ti200 : ti Tryz.prog 200 = some ⟨false, 1, .other, some (.nilFunc)⟩ := by kernel_rfl
@[go_sem] theorem Tryz.ti201 : ti Tryz.prog 201 = some ⟨false, 1, .other, some (.nilFunc)⟩ := by kernel_rfl
@[go_sem] theorem Tryz.ti202 : ti Tryz.prog 202 = some ⟨false, 1, .other, some (.nilFunc)⟩ := by kernel_rfl
@[go_sem] theorem Tryz.ti204 : ti Tryz.prog 204 = some ⟨false, 1, .other, some (.nilFunc)⟩ := by kernel_rfl
@[go_sem] theorem Tryz.ti206 : ti Tryz.prog 206 = some ⟨false, 1, .other, some (.nilFunc)⟩ := by kernel_rfl
@[go_sem] theorem Tryz.ti207 : ti Tryz.prog 207 = some ⟨false, 1, .other, some (.nilFunc)⟩ := by kernel_rfl
@[go_sem] theorem Tryz.ti208 : ti Tryz.prog 208 = some ⟨false, 1, .other, some (.nilFunc)⟩ := by kernel_rfl
@[go_sem] theorem Tryz.ti209 : ti Tryz.prog 209 = some ⟨false, 1, .other, some (.nilFunc)⟩ := by kernel_rfl
@[go_sem] theorem Tryz.ti210 : ti Tryz.prog 210 = some ⟨false, 1, .other, some (.nilFunc)⟩ := by kernel_rfl
@[go_sem] theorem Tryz.ti211 : ti Tryz.prog 211 = some ⟨false, 1, .other, some (.nilFunc)⟩ := by kernel_rfl
@[go_sem] theorem Tryz.ti212 : ti Tryz.prog 212 = some ⟨false, 1, .other, some (.nilFunc)⟩ := by kernel_rfl
@[go_sem] theorem Tryz.ti213 : ti Tryz.prog 213 = some ⟨false, 1, .other, some (.nilFunc)⟩ := by kernel_rfl
@[go_sem] theorem Tryz.ti214 : ti Tryz.prog 214 = some ⟨false, 1, .other, some (.nilFunc)⟩ := by kernel_rfl
@[go_sem] theorem Tryz.ti215 : ti Tryz.prog 215 = some ⟨false, 1, .other, some (.nilFunc)⟩ := by kernel_rfl
@[go_sem] theorem Tryz.ti217 : ti Tryz.prog 217 = some ⟨false, 1, .other, some (.nilFunc)⟩ := by kernel_rfl
@[go_sem] theorem Tryz.ti219 : ti Tryz.prog 219 = some ⟨false, 1, .other, some (.nilFunc)⟩ := by kernel_rfl
@[go_sem] theorem Tryz.ti220 : ti Tryz.prog 220 = some ⟨false, 1, .other, some (.nilFunc)⟩ := by kernel_rfl
@[go_sem] theorem Tryz.ti221 : ti Tryz.prog 221 = some ⟨false, 1, .other, some (.nilFunc)⟩ := by kernel_rfl
@[go_sem] theorem Tryz.ti222 : ti Tryz.prog 222 = some ⟨false, 1, .other, some (.nilFunc)⟩ := by kernel_rfl
@[go_sem] theorem Tryz.ti225 : ti Tryz.prog 225 = some ⟨false, 1, .other, some (.nilFunc)⟩ := by kernel_rfl
@[go_sem] theorem Tryz.ti226 : ti Tryz.prog 226 = some ⟨true, 4, .struct [(0, ⟨17, 1, 8, false, true, false⟩), (1, ⟨17, 1, 8, false, true, false⟩), (2, ⟨17, 1, 8, false, true, false⟩), (3, ⟨9, 1, 16, false, true, false⟩)], some (.agg #[.pointer none, .pointer none, .pointer none, .string ByteArray.empty])⟩ := by kernel_rfl
@[go_sem] theorem Tryz.ti227 : ti Tryz.prog 227 = some ⟨true, 4, .struct [(0, ⟨17, 1, 8, false, true, false⟩), (1, ⟨17, 1, 8, false, true, false⟩), (2, ⟨17, 1, 8, false, true, false⟩), (3, ⟨9, 1, 16, false, true, false⟩)], some (.agg #[.pointer none, .pointer none, .pointer none, .string ByteArray.empty])⟩ := by kernel_rfl
@[go_sem] theorem Tryz.ti228 : ti Tryz.prog 228 = some ⟨true, 0, .arr 0 ⟨16, 1, 8, false, true, false⟩, some (.agg #[])⟩ := by kernel_rfl
@[go_sem] theorem Tryz.ti229 : ti Tryz.prog 229 = some ⟨true, 0, .struct [(0, ⟨228, 0, 0, true, true, false⟩)], some (.agg #[])⟩ := by kernel_rfl
@[go_sem] theorem Tryz.ti230 : ti Tryz.prog 230 = some ⟨true, 0, .struct [(0, ⟨228, 0, 0, true, true, false⟩)], some (.agg #[])⟩ := by kernel_rfl
@[go_sem] theorem Tryz.ti231 : ti Tryz.prog 231 = some ⟨false, 1, .int .u8, some (.int .u8 0)⟩ := by kernel_rfl
@[go_sem] theorem Tryz.ti232 : ti Tryz.prog 232 = some ⟨false, 1, .int .u8, some (.int .u8 0)⟩ := by kernel_rfl
@[go_sem] theorem Tryz.ti233 : ti Tryz.prog 233 = some ⟨false, 1, .other, some (.nilFunc)⟩ := by kernel_rfl
@[go_sem] theorem Tryz.ti234 : ti Tryz.prog 234 = some ⟨false, 1, .ptr, some (.pointer none)⟩ := by kernel_rfl
@[go_sem] theorem Tryz.ti235 : ti Tryz.prog 235 = some ⟨false, 1, .int .i32, some (.int .i32 0)⟩ := by kernel_rfl
@[go_sem] theorem Tryz.ti236 : ti Tryz.prog 236 = some ⟨false, 1, .int .i32, some (.int .i32 0)⟩ := by kernel_rfl
@[go_sem] theorem Tryz.ti237 : ti Tryz.prog 237 = some ⟨true, 11, .struct [(0, ⟨12, 1, 8, false, true, false⟩), (1, ⟨12, 1, 8, false, true, false⟩), (2, ⟨130, 1, 4, false, true, false⟩), (3, ⟨231, 1, 1, false, true, true⟩), (4, ⟨5, 1, 1, false, true, true⟩), (5, ⟨5, 1, 1, false, true, true⟩), (6, ⟨232, 1, 1, false, true, true⟩), (7, ⟨233, 1, 8, false, true, false⟩), (8, ⟨234, 1, 8, false, true, false⟩), (9, ⟨235, 1, 4, false, true, false⟩), (10, ⟨236, 1, 4, false, true, false⟩)], some (.agg #[.int .u64 0, .int .u64 0, .int .u32 0, .int .u8 0, .int .u8 0, .int .u8 0, .int .u8 0, .nilFunc, .pointer none, .int .i32 0, .int .i32 0])⟩ := by kernel_rfl
@[go_sem] theorem Tryz.ti238 : ti Tryz.prog 238 = some ⟨true, 11, .struct [(0, ⟨12, 1, 8, false, true, false⟩), (1, ⟨12, 1, 8, false, true, false⟩), (2, ⟨130, 1, 4, false, true, false⟩), (3, ⟨231, 1, 1, false, true, true⟩), (4, ⟨5, 1, 1, false, true, true⟩), (5, ⟨5, 1, 1, false, true, true⟩), (6, ⟨232, 1, 1, false, true, true⟩), (7, ⟨233, 1, 8, false, true, false⟩), (8, ⟨234, 1, 8, false, true, false⟩), (9, ⟨235, 1, 4, false, true, false⟩), (10, ⟨236, 1, 4, false, true, false⟩)], some (.agg #[.int .u64 0, .int .u64 0, .int .u32 0, .int .u8 0, .int .u8 0, .int .u8 0, .int .u8 0, .nilFunc, .pointer none, .int .i32 0, .int .i32 0])⟩ := by kernel_rfl
@[go_sem] theorem Tryz.ca5 : callable Tryz.prog 5 = true := by kernel_rfl
@[go_sem] theorem Tryz.ca10 : callable Tryz.prog 10 = true := by kernel_rfl
@[go_sem] theorem Tryz.ca12 : callable Tryz.prog 12 = true := by kernel_rfl
@[go_sem] theorem Tryz.ca13 : callable Tryz.prog 13 = true := by kernel_rfl
@[go_sem] theorem Tryz.ca14 : callable Tryz.prog 14 = true := by kernel_rfl
@[go_sem] theorem Tryz.ca15 : callable Tryz.prog 15 = true := by kernel_rfl
@[go_sem] theorem Tryz.ca16 : callable Tryz.prog 16 = true := by kernel_rfl
@[go_sem] theorem Tryz.ca17 : callable Tryz.prog 17 = true := by kernel_rfl
@[go_sem] theorem Tryz.ca18 : callable Tryz.prog 18 = true := by kernel_rfl
@[go_sem] theorem Tryz.ca19 : callable Tryz.prog 19 = true := by kernel_rfl
@[go_sem] theorem Tryz.ca20 : callable Tryz.prog 20 = true := by kernel_rfl
@[go_sem] theorem Tryz.ca21 : callable Tryz.prog 21 = true := by kernel_rfl
@[go_sem] theorem Tryz.ca22 : callable Tryz.prog 22 = true := by kernel_rfl
@[go_sem] theorem Tryz.ca23 : callable Tryz.prog 23 = true := by kernel_rfl
@[go_sem] theorem Tryz.ca24 : callable Tryz.prog 24 = true := by kernel_rfl
@[go_sem] theorem Tryz.ca29 : callable Tryz.prog 29 = true := by kernel_rfl
@[go_sem] theorem Tryz.ca30 : callable Tryz.prog 30 = true := by kernel_rfl
@[go_sem] theorem Tryz.ca31 : callable Tryz.prog 31 = true := by kernel_rfl
@[go_sem] theorem Tryz.ca32 : callable Tryz.prog 32 = true := by kernel_rfl
@[go_sem] theorem Tryz.ca33 : callable Tryz.prog 33 = true := by kernel_rfl
@[go_sem] theorem Tryz.ca35 : callable Tryz.prog 35 = true := by kernel_rfl
@[go_sem] theorem Tryz.ca41 : callable Tryz.prog 41 = true := by kernel_rfl
@[go_sem] theorem Tryz.ca42 : callable Tryz.prog 42 = true := by kernel_rfl
@[go_sem] theorem Tryz.ca43 : callable Tryz.prog 43 = true := by kernel_rfl
@[go_sem] theorem Tryz.ca48 : callable Tryz.prog 48 = true := by kernel_rfl
@[go_sem] theorem Tryz.ca49 : callable Tryz.prog 49 = true := by kernel_rfl
@[go_sem] theorem Tryz.ca50 : callable Tryz.prog 50 = true := by kernel_rfl
@[go_sem] theorem Tryz.ca51 : callable Tryz.prog 51 = true := by kernel_rfl
@[go_sem] theorem Tryz.ca52 : callable Tryz.prog 52 = true := by kernel_rfl
@[go_sem] theorem Tryz.ca53 : callable Tryz.prog 53 = true := by kernel_rfl
@[go_sem] theorem Tryz.ca54 : callable Tryz.prog 54 = true := by kernel_rfl
@[go_sem] theorem Tryz.ca55 : callable Tryz.prog 55 = true := by kernel_rfl
@[go_sem] theorem Tryz.ca56 : callable Tryz.prog 56 = true := by kernel_rfl
@[go_sem] theorem Tryz.ca57 : callable Tryz.prog 57 = true := by kernel_rfl
@[go_sem] theorem Tryz.ca58 : callable Tryz.prog 58 = true := by kernel_rfl
@[go_sem] theorem Tryz.ca59 : callable Tryz.prog 59 = true := by kernel_rfl
@[go_sem] theorem Tryz.ca61 : callable Tryz.prog 61 = true := by kernel_rfl
@[go_sem] theorem Tryz.ca62 : callable Tryz.prog 62 = true := by kernel_rfl
@[go_sem] theorem Tryz.ca63 : callable Tryz.prog 63 = true := by kernel_rfl
@[go_sem] theorem Tryz.ca64 : callable Tryz.prog 64 = true := by kernel_rfl
@[go_sem] theorem Tryz.ca65 : callable Tryz.prog 65 = true := by kernel_rfl
@[go_sem] theorem Tryz.ca67 : callable Tryz.prog 67 = true := by kernel_rfl
@[go_sem] theorem Tryz.ca68 : callable Tryz.prog 68 = true := by kernel_rfl
@[go_sem] theorem Tryz.ca69 : callable Tryz.prog 69 = true := by kernel_rfl
@[go_sem] theorem Tryz.ca71 : callable Tryz.prog 71 = true := by kernel_rfl
@[go_sem] theorem Tryz.ca73 : callable Tryz.prog 73 = true := by kernel_rfl
@[go_sem] theorem Tryz.ca78 : callable Tryz.prog 78 = true := by kernel_rfl
@[go_sem] theorem Tryz.ca79 : callable Tryz.prog 79 = true := by kernel_rfl
@[go_sem] theorem Tryz.ca80 : callable Tryz.prog 80 = true := by kernel_rfl
@[go_sem] theorem Tryz.ca81 : callable Tryz.prog 81 = true := by kernel_rfl
@[go_sem] theorem Tryz.ca82 : callable Tryz.prog 82 = true := by kernel_rfl
@[go_sem] theorem Tryz.ca83 : callable Tryz.prog 83 = true := by kernel_rfl
@[go_sem] theorem Tryz.ca84 : callable Tryz.prog 84 = true := by kernel_rfl
@[go_sem] theorem Tryz.ca85 : callable Tryz.prog 85 = true := by kernel_rfl
@[go_sem] theorem Tryz.ca86 : callable Tryz.prog 86 = true := by kernel_rfl
@[go_sem] theorem Tryz.ca89 : callable Tryz.prog 89 = true := by kernel_rfl
@[go_sem] theorem Tryz.ca97 : callable Tryz.prog 97 = true := by kernel_rfl
@[go_sem] theorem Tryz.ca98 : callable Tryz.prog 98 = true := by kernel_rfl
@[go_sem] theorem Tryz.ca99 : callable Tryz.prog 99 = true := by kernel_rfl
@[go_sem] theorem Tryz.ca100 : callable Tryz.prog 100 = true := by kernel_rfl
@[go_sem] theorem Tryz.ca101 : callable Tryz.prog 101 = true := by kernel_rfl
@[go_sem] theorem Tryz.ca102 : callable Tryz.prog 102 = true := by kernel_rfl
@[go_sem] theorem Tryz.ca103 : callable Tryz.prog 103 = true := by kernel_rfl
@[go_sem] theorem Tryz.ca104 : callable Tryz.prog 104 = true := by kernel_rfl
@[go_sem] theorem Tryz.ca105 : callable Tryz.prog 105 = true := by kernel_rfl
@[go_sem] theorem Tryz.ca106 : callable Tryz.prog 106 = true := by kernel_rfl
@[go_sem] theorem Tryz.ca108 : callable Tryz.prog 108 = true := by kernel_rfl
@[go_sem] theorem Tryz.ca109 : callable Tryz.prog 109 = true := by kernel_rfl
@[go_sem] theorem Tryz.ca110 : callable Tryz.prog 110 = true := by kernel_rfl
@[go_sem] theorem Tryz.ca111 : callable Tryz.prog 111 = true := by kernel_rfl
@[go_sem] theorem Tryz.ca112 : callable Tryz.prog 112 = true := by kernel_rfl
@[go_sem] theorem Tryz.ca113 : callable Tryz.prog 113 = true := by kernel_rfl
@[go_sem] theorem Tryz.ca114 : callable Tryz.prog 114 = true := by kernel_rfl
@[go_sem] theorem Tryz.ca115 : callable Tryz.prog 115 = true := by kernel_rfl
@[go_sem] theorem Tryz.ca116 : callable Tryz.prog 116 = true := by kernel_rfl
@[go_sem] theorem Tryz.ca117 : callable Tryz.prog 117 = true := by kernel_rfl
@[go_sem] theorem Tryz.ca118 : callable Tryz.prog 118 = true := by kernel_rfl
@[go_sem] theorem Tryz.ca119 : callable Tryz.prog 119 = true := by kernel_rfl
@[go_sem] theorem Tryz.ca120 : callable Tryz.prog 120 = true := by kernel_rfl
@[go_sem] theorem Tryz.ca121 : callable Tryz.prog 121 = true := by kernel_rfl
@[go_sem] theorem Tryz.ca126 : callable Tryz.prog 126 = true := by kernel_rfl
@[go_sem] theorem Tryz.ca127 : callable Tryz.prog 127 = true := by kernel_rfl
@[go_sem] theorem Tryz.ca134 : callable Tryz.prog 134 = true := by kernel_rfl
@[go_sem] theorem Tryz.ca135 : callable Tryz.prog 135 = true := by kernel_rfl
@[go_sem] theorem Tryz.ca136 : callable Tryz.prog 136 = true := by kernel_rfl
@[go_sem] theorem Tryz.ca137 : callable Tryz.prog 137 = true := by kernel_rfl
@[go_sem] theorem Tryz.ca138 : callable Tryz.prog 138 = true := by kernel_rfl
@[go_sem] theorem Tryz.ca139 : callable Tryz.prog 139 = true := by kernel_rfl
@[go_sem] theorem Tryz.ca140 : callable Tryz.prog 140 = true := by kernel_rfl
@[go_sem] theorem Tryz.ca141 : callable Tryz.prog 141 = true := by kernel_rfl
@[go_sem] theorem Tryz.ca142 : callable Tryz.prog 142 = true := by kernel_rfl
@[go_sem] theorem Tryz.ca151 : callable Tryz.prog 151 = true := by kernel_rfl
@[go_sem] theorem Tryz.ca152 : callable Tryz.prog 152 = true := by kernel_rfl
@[go_sem] theorem Tryz.ca153 : callable Tryz.prog 153 = true := by kernel_rfl
@[go_sem] theorem Tryz.ca154 : callable Tryz.prog 154 = true := by kernel_rfl
@[go_sem] theorem Tryz.ca155 : callable Tryz.prog 155 = true := by kernel_rfl
@[go_sem] theorem Tryz.ca156 : callable Tryz.prog 156 = true := by kernel_rfl
@[go_sem] theorem Tryz.ca157 : callable Tryz.prog 157 = true := by kernel_rfl
@[go_sem] theorem Tryz.ca159 : callable Tryz.prog 159 = true := by kernel_rfl
@[go_sem] theorem Tryz.ca160 : callable Tryz.prog 160 = true := by kernel_rfl
@[go_sem] theorem Tryz.ca161 : callable Tryz.prog 161 = true := by kernel_rfl
@[go_sem] theorem Tryz.ca162 : callable Tryz.prog 162 = true := by kernel_rfl
@[go_sem] theorem Tryz.ca163 : callable Tryz.prog 163 = true := by kernel_rfl
@[go_sem] theorem Tryz.ca165 : callable Tryz.prog 165 = true := by kernel_rfl
@[go_sem] theorem Tryz.ca170 : callable Tryz.prog 170 = true := by kernel_rfl
@[go_sem] theorem Tryz.ca173 : callable Tryz.prog 173 = true := by kernel_rfl
@[go_sem] theorem Tryz.ca184 : callable Tryz.prog 184 = true := by kernel_rfl
@[go_sem] theorem Tryz.ca185 : callable Tryz.prog 185 = true := by kernel_rfl
@[go_sem] theorem Tryz.ca186 : callable Tryz.prog 186 = true := by kernel_rfl
@[go_sem] theorem Tryz.ca187 : callable Tryz.prog 187 = true := by kernel_rfl
@[go_sem] theorem Tryz.ca188 : callable Tryz.prog 188 = true := by kernel_rfl
@[go_sem] theorem Tryz.ca189 : callable Tryz.prog 189 = true := by kernel_rfl
@[go_sem] theorem Tryz.ca190 : callable Tryz.prog 190 = true := by kernel_rfl
@[go_sem] theorem Tryz.ca191 : callable Tryz.prog 191 = true := by kernel_rfl
@[go_sem] theorem Tryz.ca192 : callable Tryz.prog 192 = true := by kernel_rfl
@[go_sem] theorem Tryz.ca193 : callable Tryz.prog 193 = true := by kernel_rfl
@[go_sem] theorem Tryz.ca194 : callable Tryz.prog 194 = true := by kernel_rfl
@[go_sem] theorem Tryz.ca195 : callable Tryz.prog 195 = true := by kernel_rfl
@[go_sem] theorem Tryz.ca202 : callable Tryz.prog 202 = true := by kernel_rfl
@[go_sem] theorem Tryz.ca203 : callable Tryz.prog 203 = true := by kernel_rfl
@[go_sem] theorem Tryz.ca204 : callable Tryz.prog 204 = true := by kernel_rfl
@[go_sem] theorem Tryz.ca205 : callable Tryz.prog 205 = true := by kernel_rfl
@[go_sem] theorem Tryz.ca206 : callable Tryz.prog 206 = true := by kernel_rfl
@[go_sem] theorem Tryz.ca207 : callable Tryz.prog 207 = true := by kernel_rfl
@[go_sem] theorem Tryz.ca208 : callable Tryz.prog 208 = true := by kernel_rfl
@[go_sem] theorem Tryz.ca209 : callable Tryz.prog 209 = true := by kernel_rfl
@[go_sem] theorem Tryz.ca212 : callable Tryz.prog 212 = true := by kernel_rfl
@[go_sem] theorem Tryz.ca217 : callable Tryz.prog 217 = true := by kernel_rfl
@[go_sem] theorem Tryz.ca218 : callable Tryz.prog 218 = true := by kernel_rfl
@[go_sem] theorem Tryz.ca219 : callable Tryz.prog 219 = true := by kernel_rfl
@[go_sem] theorem Tryz.ca220 : callable Tryz.prog 220 = true := by kernel_rfl
@[go_sem] theorem Tryz.ca226 : callable Tryz.prog 226 = true := by kernel_rfl
@[go_sem] theorem Tryz.ca227 : callable Tryz.prog 227 = true := by kernel_rfl
@[go_sem] theorem Tryz.ca228 : callable Tryz.prog 228 = true := by kernel_rfl
@[go_sem] theorem Tryz.ca229 : callable Tryz.prog 229 = true := by kernel_rfl
@[go_sem] theorem Tryz.ca230 : callable Tryz.prog 230 = true := by kernel_rfl
@[go_sem] theorem Tryz.ca232 : callable Tryz.prog 232 = true := by kernel_rfl
@[go_sem] theorem Tryz.ca235 : callable Tryz.prog 235 = true := by kernel_rfl
@[go_sem] theorem Tryz.ca236 : callable Tryz.prog 236 = true := by kernel_rfl
@[go_sem] theorem Tryz.ca239 : callable Tryz.prog 239 = true := by kernel_rfl
@[go_sem] theorem Tryz.ca240 : callable Tryz.prog 240 = true := by kernel_rfl
@[go_sem] theorem Tryz.ca242 : callable Tryz.prog 242 = true := by kernel_rfl
@[go_sem] theorem Tryz.ca243 : callable Tryz.prog 243 = true := by kernel_rfl
@[go_sem] theorem Tryz.ca246 : callable Tryz.prog 246 = true := by kernel_rfl
@[go_sem] theorem Tryz.ca248 : callable Tryz.prog 248 = true := by kernel_rfl
@[go_sem] theorem Tryz.ca164 : callable Tryz.prog 164 = false := by kernel_rfl
@[go_sem] theorem Tryz.ca166 : callable Tryz.prog 166 = false := by kernel_rfl
@[go_sem] theorem Tryz.res5 : Tryz.f5.results.toList = [.tmp 2] := rfl
attribute [go_sem] Tryz.ntmps5
@[go_sem] theorem Tryz.res10 : Tryz.f10.results.toList = [.tmp 0] := rfl
attribute [go_sem] Tryz.ntmps10
@[go_sem] theorem Tryz.res12 : Tryz.f12.results.toList = [.tmp 2] := rfl
attribute [go_sem] Tryz.ntmps12
@[go_sem] theorem Tryz.res13 : Tryz.f13.results.toList = [.tmp 2] := rfl
attribute [go_sem] Tryz.ntmps13
@[go_sem] theorem Tryz.res14 : Tryz.f14.results.toList = [.tmp 8] := rfl
attribute [go_sem] Tryz.ntmps14
@[go_sem] theorem Tryz.res15 : Tryz.f15.results.toList = [.tmp 4] := rfl
attribute [go_sem] Tryz.ntmps15
@[go_sem] theorem Tryz.res16 : Tryz.f16.results.toList = [.tmp 2] := rfl
attribute [go_sem] Tryz.ntmps16
@[go_sem] theorem Tryz.res17 : Tryz.f17.results.toList = [.cell 4 26, .tmp 5] := rfl
attribute [go_sem] Tryz.ntmps17
@[go_sem] theorem Tryz.res18 : Tryz.f18.results.toList = [.cell 2 26] := rfl
attribute [go_sem] Tryz.ntmps18
@[go_sem] theorem Tryz.res19 : Tryz.f19.results.toList = [.tmp 4] := rfl
attribute [go_sem] Tryz.ntmps19
@[go_sem] theorem Tryz.res20 : Tryz.f20.results.toList = [.tmp 4] := rfl
attribute [go_sem] Tryz.ntmps20
@[go_sem] theorem Tryz.res21 : Tryz.f21.results.toList = [.tmp 8, .tmp 9] := rfl
attribute [go_sem] Tryz.ntmps21
@[go_sem] theorem Tryz.res22 : Tryz.f22.results.toList = [.tmp 10] := rfl
attribute [go_sem] Tryz.ntmps22
@[go_sem] theorem Tryz.res23 : Tryz.f23.results.toList = [.tmp 4] := rfl
attribute [go_sem] Tryz.ntmps23
@[go_sem] theorem Tryz.res24 : Tryz.f24.results.toList = [.tmp 4] := rfl
attribute [go_sem] Tryz.ntmps24
@[go_sem] theorem Tryz.res29 : Tryz.f29.results.toList = [.cell 4 59] := rfl
attribute [go_sem] Tryz.ntmps29
@[go_sem] theorem Tryz.res30 : Tryz.f30.results.toList = [.cell 2 59] := rfl
attribute [go_sem] Tryz.ntmps30
@[go_sem] theorem Tryz.res31 : Tryz.f31.results.toList = [.cell 2 59] := rfl
attribute [go_sem] Tryz.ntmps31
@[go_sem] theorem Tryz.res32 : Tryz.f32.results.toList = [.tmp 2] := rfl
attribute [go_sem] Tryz.ntmps32
@[go_sem] theorem Tryz.res33 : Tryz.f33.results.toList = [.cell 6 59] := rfl
attribute [go_sem] Tryz.ntmps33
@[go_sem] theorem Tryz.res35 : Tryz.f35.results.toList = [.tmp 2] := rfl
attribute [go_sem] Tryz.ntmps35
@[go_sem] theorem Tryz.res41 : Tryz.f41.results.toList = [.cell 2 34] := rfl
attribute [go_sem] Tryz.ntmps41
@[go_sem] theorem Tryz.res42 : Tryz.f42.results.toList = [.tmp 10, .tmp 11] := rfl
attribute [go_sem] Tryz.ntmps42
@[go_sem] theorem Tryz.res43 : Tryz.f43.results.toList = [.tmp 4] := rfl
attribute [go_sem] Tryz.ntmps43
@[go_sem] theorem Tryz.res48 : Tryz.f48.results.toList = [.tmp 8] := rfl
attribute [go_sem] Tryz.ntmps48
@[go_sem] theorem Tryz.res49 : Tryz.f49.results.toList = [.tmp 2] := rfl
attribute [go_sem] Tryz.ntmps49
@[go_sem] theorem Tryz.res50 : Tryz.f50.results.toList = [.cell 2 26, .tmp 3] := rfl
attribute [go_sem] Tryz.ntmps50
@[go_sem] theorem Tryz.res51 : Tryz.f51.results.toList = [.cell 6 26] := rfl
attribute [go_sem] Tryz.ntmps51
@[go_sem] theorem Tryz.res52 : Tryz.f52.results.toList = [.tmp 2] := rfl
attribute [go_sem] Tryz.ntmps52
@[go_sem] theorem Tryz.res53 : Tryz.f53.results.toList = [.tmp 2] := rfl
attribute [go_sem] Tryz.ntmps53
@[go_sem] theorem Tryz.res54 : Tryz.f54.results.toList = [.tmp 2] := rfl
attribute [go_sem] Tryz.ntmps54
@[go_sem] theorem Tryz.res55 : Tryz.f55.results.toList = [.tmp 6] := rfl
attribute [go_sem] Tryz.ntmps55
@[go_sem] theorem Tryz.res56 : Tryz.f56.results.toList = [.tmp 4] := rfl
attribute [go_sem] Tryz.ntmps56
@[go_sem] theorem Tryz.res57 : Tryz.f57.results.toList = [.cell 4 34] := rfl
attribute [go_sem] Tryz.ntmps57
@[go_sem] theorem Tryz.res58 : Tryz.f58.results.toList = [.tmp 8] := rfl
attribute [go_sem] Tryz.ntmps58
@[go_sem] theorem Tryz.res59 : Tryz.f59.results.toList = [.tmp 4, .tmp 5] := rfl
attribute [go_sem] Tryz.ntmps59
@[go_sem] theorem Tryz.res61 : Tryz.f61.results.toList = [.cell 4 26] := rfl
attribute [go_sem] Tryz.ntmps61
@[go_sem] theorem Tryz.res62 : Tryz.f62.results.toList = [.tmp 4] := rfl
attribute [go_sem] Tryz.ntmps62
@[go_sem] theorem Tryz.res63 : Tryz.f63.results.toList = [.tmp 2] := rfl
attribute [go_sem] Tryz.ntmps63
@[go_sem] theorem Tryz.res64 : Tryz.f64.results.toList = [.tmp 2] := rfl
attribute [go_sem] Tryz.ntmps64
@[go_sem] theorem Tryz.res65 : Tryz.f65.results.toList = [.tmp 4, .tmp 5] := rfl
attribute [go_sem] Tryz.ntmps65
@[go_sem] theorem Tryz.res67 : Tryz.f67.results.toList = [.cell 4 59] := rfl
attribute [go_sem] Tryz.ntmps67
@[go_sem] theorem Tryz.res68 : Tryz.f68.results.toList = [.tmp 4] := rfl
attribute [go_sem] Tryz.ntmps68
@[go_sem] theorem Tryz.res69 : Tryz.f69.results.toList = [.tmp 4] := rfl
attribute [go_sem] Tryz.ntmps69
@[go_sem] theorem Tryz.res71 : Tryz.f71.results.toList = [.cell 4 26] := rfl
attribute [go_sem] Tryz.ntmps71
@[go_sem] theorem Tryz.res73 : Tryz.f73.results.toList = [.cell 2 34] := rfl
attribute [go_sem] Tryz.ntmps73
@[go_sem] theorem Tryz.res78 : Tryz.f78.results.toList = [.cell 2 34] := rfl
attribute [go_sem] Tryz.ntmps78
@[go_sem] theorem Tryz.res79 : Tryz.f79.results.toList = [.cell 2 26] := rfl
attribute [go_sem] Tryz.ntmps79
@[go_sem] theorem Tryz.res80 : Tryz.f80.results.toList = [.cell 4 34] := rfl
attribute [go_sem] Tryz.ntmps80
@[go_sem] theorem Tryz.res81 : Tryz.f81.results.toList = [.tmp 2] := rfl
attribute [go_sem] Tryz.ntmps81
@[go_sem] theorem Tryz.res82 : Tryz.f82.results.toList = [.tmp 2] := rfl
attribute [go_sem] Tryz.ntmps82
@[go_sem] theorem Tryz.res83 : Tryz.f83.results.toList = [.tmp 2] := rfl
attribute [go_sem] Tryz.ntmps83
@[go_sem] theorem Tryz.res84 : Tryz.f84.results.toList = [.tmp 6, .tmp 7] := rfl
attribute [go_sem] Tryz.ntmps84
@[go_sem] theorem Tryz.res85 : Tryz.f85.results.toList = [.tmp 6, .tmp 7] := rfl
attribute [go_sem] Tryz.ntmps85
@[go_sem] theorem Tryz.res86 : Tryz.f86.results.toList = [.tmp 6, .tmp 7] := rfl
attribute [go_sem] Tryz.ntmps86
@[go_sem] theorem Tryz.res89 : Tryz.f89.results.toList = [.tmp 2] := rfl
attribute [go_sem] Tryz.ntmps89
@[go_sem] theorem Tryz.res97 : Tryz.f97.results.toList = [.tmp 2] := rfl
attribute [go_sem] Tryz.ntmps97
@[go_sem] theorem Tryz.res98 : Tryz.f98.results.toList = [.cell 6 26, .tmp 7] := rfl
attribute [go_sem] Tryz.ntmps98
@[go_sem] theorem Tryz.res99 : Tryz.f99.results.toList = [.cell 6 26, .tmp 7] := rfl
attribute [go_sem] Tryz.ntmps99
@[go_sem] theorem Tryz.res100 : Tryz.f100.results.toList = [] := rfl
attribute [go_sem] Tryz.ntmps100
@[go_sem] theorem Tryz.res101 : Tryz.f101.results.toList = [.tmp 4, .tmp 5] := rfl
attribute [go_sem] Tryz.ntmps101
@[go_sem] theorem Tryz.res102 : Tryz.f102.results.toList = [.tmp 6, .tmp 7] := rfl
attribute [go_sem] Tryz.ntmps102
@[go_sem] theorem Tryz.res103 : Tryz.f103.results.toList = [.tmp 6] := rfl
attribute [go_sem] Tryz.ntmps103
@[go_sem] theorem Tryz.res104 : Tryz.f104.results.toList = [.tmp 6] := rfl
attribute [go_sem] Tryz.ntmps104
@[go_sem] theorem Tryz.res105 : Tryz.f105.results.toList = [.tmp 4] := rfl
attribute [go_sem] Tryz.ntmps105
@[go_sem] theorem Tryz.res106 : Tryz.f106.results.toList = [.tmp 2, .tmp 3] := rfl
attribute [go_sem] Tryz.ntmps106
@[go_sem] theorem Tryz.res108 : Tryz.f108.results.toList = [.cell 2 26, .tmp 3] := rfl
attribute [go_sem] Tryz.ntmps108
@[go_sem] theorem Tryz.res109 : Tryz.f109.results.toList = [.tmp 2] := rfl
attribute [go_sem] Tryz.ntmps109
@[go_sem] theorem Tryz.res110 : Tryz.f110.results.toList = [.tmp 4] := rfl
attribute [go_sem] Tryz.ntmps110
@[go_sem] theorem Tryz.res111 : Tryz.f111.results.toList = [.tmp 4] := rfl
attribute [go_sem] Tryz.ntmps111
@[go_sem] theorem Tryz.res112 : Tryz.f112.results.toList = [.tmp 4] := rfl
attribute [go_sem] Tryz.ntmps112
@[go_sem] theorem Tryz.res113 : Tryz.f113.results.toList = [.tmp 4] := rfl
attribute [go_sem] Tryz.ntmps113
@[go_sem] theorem Tryz.res114 : Tryz.f114.results.toList = [.tmp 4] := rfl
attribute [go_sem] Tryz.ntmps114
@[go_sem] theorem Tryz.res115 : Tryz.f115.results.toList = [.tmp 2] := rfl
attribute [go_sem] Tryz.ntmps115
@[go_sem] theorem Tryz.res116 : Tryz.f116.results.toList = [.tmp 4] := rfl
attribute [go_sem] Tryz.ntmps116
@[go_sem] theorem Tryz.res117 : Tryz.f117.results.toList = [.tmp 4] := rfl
attribute [go_sem] Tryz.ntmps117
@[go_sem] theorem Tryz.res118 : Tryz.f118.results.toList = [.cell 4 59] := rfl
attribute [go_sem] Tryz.ntmps118
@[go_sem] theorem Tryz.res119 : Tryz.f119.results.toList = [.tmp 4] := rfl
attribute [go_sem] Tryz.ntmps119
@[go_sem] theorem Tryz.res120 : Tryz.f120.results.toList = [.tmp 4] := rfl
attribute [go_sem] Tryz.ntmps120
@[go_sem] theorem Tryz.res121 : Tryz.f121.results.toList = [.tmp 4, .tmp 5] := rfl
attribute [go_sem] Tryz.ntmps121
@[go_sem] theorem Tryz.res126 : Tryz.f126.results.toList = [.cell 2 26] := rfl
attribute [go_sem] Tryz.ntmps126
@[go_sem] theorem Tryz.res127 : Tryz.f127.results.toList = [.cell 4 34] := rfl
attribute [go_sem] Tryz.ntmps127
@[go_sem] theorem Tryz.res134 : Tryz.f134.results.toList = [.tmp 4] := rfl
attribute [go_sem] Tryz.ntmps134
@[go_sem] theorem Tryz.res135 : Tryz.f135.results.toList = [.tmp 4] := rfl
attribute [go_sem] Tryz.ntmps135
@[go_sem] theorem Tryz.res136 : Tryz.f136.results.toList = [.cell 2 26] := rfl
attribute [go_sem] Tryz.ntmps136
@[go_sem] theorem Tryz.res137 : Tryz.f137.results.toList = [.cell 6 34, .tmp 7] := rfl
attribute [go_sem] Tryz.ntmps137
@[go_sem] theorem Tryz.res138 : Tryz.f138.results.toList = [.tmp 6, .tmp 7] := rfl
attribute [go_sem] Tryz.ntmps138
@[go_sem] theorem Tryz.res139 : Tryz.f139.results.toList = [.cell 6 34, .tmp 7] := rfl
attribute [go_sem] Tryz.ntmps139
@[go_sem] theorem Tryz.res140 : Tryz.f140.results.toList = [.cell 6 34, .tmp 7] := rfl
attribute [go_sem] Tryz.ntmps140
@[go_sem] theorem Tryz.res141 : Tryz.f141.results.toList = [.cell 5 34, .tmp 6] := rfl
attribute [go_sem] Tryz.ntmps141
@[go_sem] theorem Tryz.res142 : Tryz.f142.results.toList = [.cell 6 34, .tmp 7] := rfl
attribute [go_sem] Tryz.ntmps142
@[go_sem] theorem Tryz.res151 : Tryz.f151.results.toList = [.tmp 2] := rfl
attribute [go_sem] Tryz.ntmps151
@[go_sem] theorem Tryz.res152 : Tryz.f152.results.toList = [.tmp 2] := rfl
attribute [go_sem] Tryz.ntmps152
@[go_sem] theorem Tryz.res153 : Tryz.f153.results.toList = [.tmp 2] := rfl
attribute [go_sem] Tryz.ntmps153
@[go_sem] theorem Tryz.res154 : Tryz.f154.results.toList = [.tmp 4] := rfl
attribute [go_sem] Tryz.ntmps154
@[go_sem] theorem Tryz.res155 : Tryz.f155.results.toList = [.tmp 4, .tmp 5] := rfl
attribute [go_sem] Tryz.ntmps155
@[go_sem] theorem Tryz.res156 : Tryz.f156.results.toList = [.tmp 4, .tmp 5] := rfl
attribute [go_sem] Tryz.ntmps156
@[go_sem] theorem Tryz.res157 : Tryz.f157.results.toList = [.tmp 4] := rfl
attribute [go_sem] Tryz.ntmps157
@[go_sem] theorem Tryz.res159 : Tryz.f159.results.toList = [.tmp 2] := rfl
attribute [go_sem] Tryz.ntmps159
@[go_sem] theorem Tryz.res160 : Tryz.f160.results.toList = [.tmp 2] := rfl
attribute [go_sem] Tryz.ntmps160
@[go_sem] theorem Tryz.res161 : Tryz.f161.results.toList = [.tmp 4] := rfl
attribute [go_sem] Tryz.ntmps161
@[go_sem] theorem Tryz.res162 : Tryz.f162.results.toList = [.tmp 4] := rfl
attribute [go_sem] Tryz.ntmps162
@[go_sem] theorem Tryz.res163 : Tryz.f163.results.toList = [.cell 2 59] := rfl
attribute [go_sem] Tryz.ntmps163
@[go_sem] theorem Tryz.res165 : Tryz.f165.results.toList = [.tmp 2] := rfl
attribute [go_sem] Tryz.ntmps165
@[go_sem] theorem Tryz.res170 : Tryz.f170.results.toList = [.tmp 6] := rfl
attribute [go_sem] Tryz.ntmps170
@[go_sem] theorem Tryz.res173 : Tryz.f173.results.toList = [.cell 2 26] := rfl
attribute [go_sem] Tryz.ntmps173
@[go_sem] theorem Tryz.res184 : Tryz.f184.results.toList = [.tmp 4] := rfl
attribute [go_sem] Tryz.ntmps184
@[go_sem] theorem Tryz.res185 : Tryz.f185.results.toList = [.tmp 4] := rfl
attribute [go_sem] Tryz.ntmps185
@[go_sem] theorem Tryz.res186 : Tryz.f186.results.toList = [.tmp 4] := rfl
attribute [go_sem] Tryz.ntmps186
@[go_sem] theorem Tryz.res187 : Tryz.f187.results.toList = [.tmp 2] := rfl
attribute [go_sem] Tryz.ntmps187
@[go_sem] theorem Tryz.res188 : Tryz.f188.results.toList = [.cell 6 34, .tmp 7] := rfl
attribute [go_sem] Tryz.ntmps188
@[go_sem] theorem Tryz.res189 : Tryz.f189.results.toList = [.tmp 4, .tmp 5] := rfl
attribute [go_sem] Tryz.ntmps189
@[go_sem] theorem Tryz.res190 : Tryz.f190.results.toList = [.cell 6 34, .tmp 7] := rfl
attribute [go_sem] Tryz.ntmps190
@[go_sem] theorem Tryz.res191 : Tryz.f191.results.toList = [.cell 4 26] := rfl
attribute [go_sem] Tryz.ntmps191
@[go_sem] theorem Tryz.res192 : Tryz.f192.results.toList = [] := rfl
attribute [go_sem] Tryz.ntmps192
@[go_sem] theorem Tryz.res193 : Tryz.f193.results.toList = [.cell 4 26] := rfl
attribute [go_sem] Tryz.ntmps193
@[go_sem] theorem Tryz.res194 : Tryz.f194.results.toList = [.cell 4 26] := rfl
attribute [go_sem] Tryz.ntmps194
@[go_sem] theorem Tryz.res195 : Tryz.f195.results.toList = [.cell 6 34, .tmp 7] := rfl
attribute [go_sem] Tryz.ntmps195
@[go_sem] theorem Tryz.res202 : Tryz.f202.results.toList = [.tmp 2] := rfl
attribute [go_sem] Tryz.ntmps202
@[go_sem] theorem Tryz.res203 : Tryz.f203.results.toList = [.tmp 2] := rfl
attribute [go_sem] Tryz.ntmps203
@[go_sem] theorem Tryz.res204 : Tryz.f204.results.toList = [.cell 4 34, .tmp 5] := rfl
attribute [go_sem] Tryz.ntmps204
@[go_sem] theorem Tryz.res205 : Tryz.f205.results.toList = [.cell 5 34, .tmp 6] := rfl
attribute [go_sem] Tryz.ntmps205
@[go_sem] theorem Tryz.res206 : Tryz.f206.results.toList = [.cell 4 34, .tmp 5] := rfl
attribute [go_sem] Tryz.ntmps206
@[go_sem] theorem Tryz.res207 : Tryz.f207.results.toList = [.tmp 2] := rfl
attribute [go_sem] Tryz.ntmps207
@[go_sem] theorem Tryz.res208 : Tryz.f208.results.toList = [.tmp 4] := rfl
attribute [go_sem] Tryz.ntmps208
@[go_sem] theorem Tryz.res209 : Tryz.f209.results.toList = [.tmp 2] := rfl
attribute [go_sem] Tryz.ntmps209
@[go_sem] theorem Tryz.res212 : Tryz.f212.results.toList = [.cell 6 26, .tmp 7] := rfl
attribute [go_sem] Tryz.ntmps212
@[go_sem] theorem Tryz.res217 : Tryz.f217.results.toList = [.tmp 4] := rfl
attribute [go_sem] Tryz.ntmps217
@[go_sem] theorem Tryz.res218 : Tryz.f218.results.toList = [.tmp 4] := rfl
attribute [go_sem] Tryz.ntmps218
@[go_sem] theorem Tryz.res219 : Tryz.f219.results.toList = [.cell 6 34, .tmp 7] := rfl
attribute [go_sem] Tryz.ntmps219
@[go_sem] theorem Tryz.res220 : Tryz.f220.results.toList = [.tmp 4] := rfl
attribute [go_sem] Tryz.ntmps220
@[go_sem] theorem Tryz.res226 : Tryz.f226.results.toList = [.cell 8 34] := rfl
attribute [go_sem] Tryz.ntmps226
@[go_sem] theorem Tryz.res227 : Tryz.f227.results.toList = [.cell 4 26, .tmp 5] := rfl
attribute [go_sem] Tryz.ntmps227
@[go_sem] theorem Tryz.res228 : Tryz.f228.results.toList = [.cell 8 26, .tmp 9] := rfl
attribute [go_sem] Tryz.ntmps228
@[go_sem] theorem Tryz.res229 : Tryz.f229.results.toList = [.cell 8 26, .tmp 9] := rfl
attribute [go_sem] Tryz.ntmps229
@[go_sem] theorem Tryz.res230 : Tryz.f230.results.toList = [.tmp 2] := rfl
attribute [go_sem] Tryz.ntmps230
@[go_sem] theorem Tryz.res232 : Tryz.f232.results.toList = [.cell 6 26] := rfl
attribute [go_sem] Tryz.ntmps232
@[go_sem] theorem Tryz.res235 : Tryz.f235.results.toList = [.cell 4 26] := rfl
attribute [go_sem] Tryz.ntmps235
@[go_sem] theorem Tryz.res236 : Tryz.f236.results.toList = [.tmp 4, .tmp 5] := rfl
attribute [go_sem] Tryz.ntmps236
@[go_sem] theorem Tryz.res239 : Tryz.f239.results.toList = [.cell 4 26] := rfl
attribute [go_sem] Tryz.ntmps239
@[go_sem] theorem Tryz.res240 : Tryz.f240.results.toList = [.cell 10 26, .tmp 11] := rfl
attribute [go_sem] Tryz.ntmps240
@[go_sem] theorem Tryz.res242 : Tryz.f242.results.toList = [.cell 6 26] := rfl
attribute [go_sem] Tryz.ntmps242
@[go_sem] theorem Tryz.res243 : Tryz.f243.results.toList = [.tmp 2] := rfl
attribute [go_sem] Tryz.ntmps243
@[go_sem] theorem Tryz.res246 : Tryz.f246.results.toList = [.cell 2 26] := rfl
attribute [go_sem] Tryz.ntmps246
@[go_sem] theorem Tryz.res248 : Tryz.f248.results.toList = [.tmp 3] := rfl
attribute [go_sem] Tryz.ntmps248
end Go.Proofs
end

section
/- Natural numbers by digits: values, the right digits of a number. No program in it. -/
namespace Go.Pv
theorem revInd {α : Type} {P : List α → Prop} (nil : P []) (snoc : ∀ l x, P l → P (l ++ [x])) (l : List α) : P l := by
 have : ∀ r : List α, P r.reverse := fun r => by
  induction r with
  | nil => exact nil
  | cons x r ih => rw [List.reverse_cons]; exact snoc _ _ ih
 have h := this l.reverse
 rwa [List.reverse_reverse] at h
def val (B : Nat) : List Nat → Nat
 | [] => 0
 | x :: l => x + B * val B l
def digs (B : Nat) (n : Nat) : List Nat := if h : n = 0 ∨ B < 2 then [] else n % B :: digs B (n / B)
termination_by n
decreasing_by exact Nat.div_lt_self (by omega) (by omega)
theorem digs_zero (B : Nat) : digs B 0 = [] := by rw [digs, dif_pos (.inl rfl)]
theorem digs_pos {B n : Nat} (hB : 2 ≤ B) (h : n ≠ 0) : digs B n = n % B :: digs B (n / B) := by rw [digs, dif_neg (by omega)]
theorem val_digs {B : Nat} (hB : 2 ≤ B) (n : Nat) : val B (digs B n) = n := by
 induction n using Nat.strongRecOn with
 | _ n ih =>
  by_cases h : n = 0
  · subst h; simp [digs_zero, val]
  · rw [digs_pos hB h, val, ih _ (Nat.div_lt_self (by omega) (by omega))]
    exact Nat.mod_add_div n B
theorem digs_lt {B : Nat} (hB : 2 ≤ B) (n : Nat) : ∀ x ∈ digs B n, x < B := by
 induction n using Nat.strongRecOn with
 | _ n ih =>
  by_cases h : n = 0
  · subst h; simp [digs_zero]
  · rw [digs_pos hB h]
    intro x hx
    rcases List.mem_cons.1 hx with rfl | hx
    · exact Nat.mod_lt _ (by omega)
    · exact ih _ (Nat.div_lt_self (by omega) (by omega)) x hx
def trimN (l : List Nat) : List Nat := (l.reverse.dropWhile (· == 0)).reverse
theorem trimN_snoc (l : List Nat) (x : Nat) : trimN (l ++ [x]) = if x = 0 then trimN l else l ++ [x] := by
 unfold trimN
 rw [List.reverse_append]
 simp only [List.reverse_cons, List.reverse_nil, List.nil_append, List.singleton_append, List.dropWhile_cons]
 by_cases h : x = 0 <;> simp [h]
theorem trimN_nil : trimN [] = [] := rfl
theorem val_append (B : Nat) (l m : List Nat) : val B (l ++ m) = val B l + B ^ l.length * val B m := by
 induction l with
 | nil => simp [val]
 | cons x l ih =>
  simp only [List.cons_append, val, ih, List.length_cons, Nat.pow_succ, Nat.mul_add]
  rw [Nat.mul_comm (B ^ l.length) B, Nat.mul_assoc]; omega
theorem val_lt {B : Nat} (hB : 0 < B) : ∀ l : List Nat, (∀ x ∈ l, x < B) → val B l < B ^ l.length
 | [], _ => by simp [val]
 | x :: l, h => by
  have h1 := val_lt hB l fun y hy => h y (List.mem_cons_of_mem _ hy)
  have h2 := h x (List.mem_cons_self)
  simp only [val, List.length_cons, Nat.pow_succ]
  have : B * (val B l + 1) ≤ B * B ^ l.length := Nat.mul_le_mul_left _ h1
  rw [Nat.mul_comm (B ^ l.length) B]
  rw [Nat.mul_add] at this; omega
theorem trimN_cons (x : Nat) (l : List Nat) : trimN (x :: l) = if trimN l = [] then (if x = 0 then [] else [x]) else x :: trimN l := by
 induction l using revInd with
 | nil =>
  have := trimN_snoc [] x
  simpa [trimN_nil] using this
 | snoc l y ih =>
  have e : x :: (l ++ [y]) = (x :: l) ++ [y] := rfl
  rw [e, trimN_snoc, trimN_snoc]
  by_cases h : y = 0
  · simp [h, ih]
  · simp [h]
theorem digs_val {B : Nat} (hB : 2 ≤ B) : ∀ l : List Nat, (∀ x ∈ l, x < B) → digs B (val B l) = trimN l
 | [], _ => by simp [val, digs_zero, trimN_nil]
 | x :: l, h => by
  have ih := digs_val hB l fun y hy => h y (List.mem_cons_of_mem _ hy)
  have h2 := h x (List.mem_cons_self)
  rw [trimN_cons, ← ih, val]
  by_cases hv : val B l = 0
  · rw [hv, digs_zero]
    simp only [Nat.mul_zero, Nat.add_zero, if_true]
    by_cases hx : x = 0
    · rw [if_pos hx, hx, digs_zero]
    · rw [if_neg hx, digs_pos hB hx, Nat.mod_eq_of_lt h2, Nat.div_eq_of_lt h2, digs_zero]
  · have hne : x + B * val B l ≠ 0 := by
     have : 0 < B * val B l := Nat.mul_pos (by omega) (by omega)
     omega
    rw [digs_pos hB hne, if_neg (by rw [digs_pos hB hv]; simp), Nat.add_mul_mod_self_left, Nat.mod_eq_of_lt h2, Nat.add_mul_div_left _ _ (by omega), Nat.div_eq_of_lt h2, Nat.zero_add]
theorem digs_length_le {B : Nat} (hB : 2 ≤ B) (k : Nat) : ∀ n, n < B ^ k → (digs B n).length ≤ k := by
 induction k with
 | zero => intro n h; have : n = 0 := by simpa using h
           subst this; simp [digs_zero]
 | succ k ih =>
  intro n h
  by_cases h0 : n = 0
  · subst h0; simp [digs_zero]
  · rw [digs_pos hB h0, List.length_cons]
    have := ih (n / B) (by rw [Nat.div_lt_iff_lt_mul (by omega)]; rw [Nat.pow_succ] at h; exact h)
    omega
def nW (l : List UInt64) : List Nat := l.map UInt64.toNat
def valW (l : List UInt64) : Nat := val 18446744073709551616 (nW l)
def wordsOf (n : Nat) : List UInt64 := (digs 18446744073709551616 n).map UInt64.ofNat
def nD (l : List UInt32) : List Nat := l.map UInt32.toNat
def valD (l : List UInt32) : Nat := val 4294967296 (nD l)
def digitsOf (n : Nat) : List UInt32 := (digs 4294967296 n).map UInt32.ofNat
def cutW (l : List UInt64) : List UInt64 := (l.reverse.dropWhile (· == 0)).reverse
def cutD (l : List UInt32) : List UInt32 := (l.reverse.dropWhile (· == 0)).reverse
theorem nW_lt (l : List UInt64) : ∀ x ∈ nW l, x < 18446744073709551616 := by
 intro x hx
 obtain ⟨c, _, rfl⟩ := List.mem_map.1 hx
 exact UInt64.toNat_lt c
theorem nD_lt (l : List UInt32) : ∀ x ∈ nD l, x < 4294967296 := by
 intro x hx
 obtain ⟨c, _, rfl⟩ := List.mem_map.1 hx
 exact UInt32.toNat_lt c
theorem cutW_snoc (l : List UInt64) (x : UInt64) : cutW (l ++ [x]) = if x = 0 then cutW l else l ++ [x] := by
 unfold cutW
 rw [List.reverse_append]
 simp only [List.reverse_cons, List.reverse_nil, List.nil_append, List.singleton_append, List.dropWhile_cons]
 by_cases h : x = 0 <;> simp [h]
theorem cutD_snoc (l : List UInt32) (x : UInt32) : cutD (l ++ [x]) = if x = 0 then cutD l else l ++ [x] := by
 unfold cutD
 rw [List.reverse_append]
 simp only [List.reverse_cons, List.reverse_nil, List.nil_append, List.singleton_append, List.dropWhile_cons]
 by_cases h : x = 0 <;> simp [h]
theorem u64_zero (x : UInt64) : x = 0 ↔ x.toNat = 0 := ⟨fun h => by rw [h]; rfl, fun h => UInt64.toNat.inj h⟩
theorem u32_zero (x : UInt32) : x = 0 ↔ x.toNat = 0 := ⟨fun h => by rw [h]; rfl, fun h => UInt32.toNat.inj h⟩
theorem nW_cut (l : List UInt64) : nW (cutW l) = trimN (nW l) := by
 induction l using revInd with
 | nil => rfl
 | snoc l x ih =>
  rw [cutW_snoc]
  have e : nW (l ++ [x]) = nW l ++ [x.toNat] := by simp [nW]
  rw [e, trimN_snoc]
  by_cases h : x = 0
  · rw [if_pos h, if_pos ((u64_zero x).1 h), ih]
  · rw [if_neg h, if_neg (fun e => h ((u64_zero x).2 e)), e]
theorem nD_cut (l : List UInt32) : nD (cutD l) = trimN (nD l) := by
 induction l using revInd with
 | nil => rfl
 | snoc l x ih =>
  rw [cutD_snoc]
  have e : nD (l ++ [x]) = nD l ++ [x.toNat] := by simp [nD]
  rw [e, trimN_snoc]
  by_cases h : x = 0
  · rw [if_pos h, if_pos ((u32_zero x).1 h), ih]
  · rw [if_neg h, if_neg (fun e => h ((u32_zero x).2 e)), e]
theorem ofNat_nW (l : List UInt64) : (nW l).map UInt64.ofNat = l := by
 simp only [nW, List.map_map]
 conv => rhs; rw [← List.map_id l]
 exact List.map_congr_left fun a _ => by simp
theorem ofNat_nD (l : List UInt32) : (nD l).map UInt32.ofNat = l := by
 simp only [nD, List.map_map]
 conv => rhs; rw [← List.map_id l]
 exact List.map_congr_left fun a _ => by simp
theorem wordsOf_valW (l : List UInt64) : wordsOf (valW l) = cutW l := by
 rw [wordsOf, valW, digs_val (by decide) _ (nW_lt l), ← nW_cut, ofNat_nW]
theorem digitsOf_valD (l : List UInt32) : digitsOf (valD l) = cutD l := by
 rw [digitsOf, valD, digs_val (by decide) _ (nD_lt l), ← nD_cut, ofNat_nD]
theorem nW_wordsOf (n : Nat) : nW (wordsOf n) = digs 18446744073709551616 n := by
 simp only [nW, wordsOf, List.map_map]
 conv => rhs; rw [← List.map_id (digs _ n)]
 exact List.map_congr_left fun a ha => by
  have := digs_lt (B := 18446744073709551616) (by decide) n a ha
  simp only [Function.comp, id]
  rw [UInt64.toNat_ofNat']; omega
theorem nD_digitsOf (n : Nat) : nD (digitsOf n) = digs 4294967296 n := by
 simp only [nD, digitsOf, List.map_map]
 conv => rhs; rw [← List.map_id (digs _ n)]
 exact List.map_congr_left fun a ha => by
  have := digs_lt (B := 4294967296) (by decide) n a ha
  simp only [Function.comp, id]
  rw [UInt32.toNat_ofNat']; omega
theorem valW_wordsOf (n : Nat) : valW (wordsOf n) = n := by rw [valW, nW_wordsOf, val_digs (by decide)]
theorem valD_digitsOf (n : Nat) : valD (digitsOf n) = n := by rw [valD, nD_digitsOf, val_digs (by decide)]
theorem valW_cut (l : List UInt64) : valW (cutW l) = valW l := by
 rw [← wordsOf_valW, valW_wordsOf]
theorem cutW_wordsOf (n : Nat) : cutW (wordsOf n) = wordsOf n := by rw [← wordsOf_valW, valW_wordsOf]
theorem cutD_digitsOf (n : Nat) : cutD (digitsOf n) = digitsOf n := by rw [← digitsOf_valD, valD_digitsOf]
theorem valW_nil : valW [] = 0 := rfl
theorem valD_nil : valD [] = 0 := rfl
theorem wordsOf_zero : wordsOf 0 = [] := by simp [wordsOf, digs_zero]
theorem digitsOf_zero : digitsOf 0 = [] := by simp [digitsOf, digs_zero]
theorem wordsOf_nil {n : Nat} : wordsOf n = [] ↔ n = 0 := ⟨fun h => by rw [← valW_wordsOf n, h, valW_nil], fun h => by rw [h, wordsOf_zero]⟩
theorem digitsOf_nil {n : Nat} : digitsOf n = [] ↔ n = 0 := ⟨fun h => by rw [← valD_digitsOf n, h, valD_nil], fun h => by rw [h, digitsOf_zero]⟩
theorem valW_append (l m : List UInt64) : valW (l ++ m) = valW l + 18446744073709551616 ^ l.length * valW m := by
 have e : nW (l ++ m) = nW l ++ nW m := by simp [nW]
 rw [valW, e, val_append]; simp [valW, nW]
theorem valD_append (l m : List UInt32) : valD (l ++ m) = valD l + 4294967296 ^ l.length * valD m := by
 have e : nD (l ++ m) = nD l ++ nD m := by simp [nD]
 rw [valD, e, val_append]; simp [valD, nD]
theorem valW_lt (l : List UInt64) : valW l < 18446744073709551616 ^ l.length := by
 have := val_lt (B := 18446744073709551616) (by decide) _ (nW_lt l)
 simpa [valW, nW] using this
theorem valD_lt (l : List UInt32) : valD l < 4294967296 ^ l.length := by
 have := val_lt (B := 4294967296) (by decide) _ (nD_lt l)
 simpa [valD, nD] using this
theorem cutW_le (l : List UInt64) : (cutW l).length ≤ l.length := by
 unfold cutW
 rw [List.length_reverse]
 have := (List.dropWhile_sublist (· == (0 : UInt64)) (l := l.reverse)).length_le
 simpa using this
theorem cutD_le (l : List UInt32) : (cutD l).length ≤ l.length := by
 unfold cutD
 rw [List.length_reverse]
 have := (List.dropWhile_sublist (· == (0 : UInt32)) (l := l.reverse)).length_le
 simpa using this
theorem cutW_full (l : List UInt64) (h : l ≠ []) : (cutW l).length = l.length ↔ l.getD (l.length - 1) 0 ≠ 0 := by
 obtain ⟨i, x, rfl⟩ : ∃ i x, l = i ++ [x] := ⟨l.dropLast, l.getLast h, (List.dropLast_concat_getLast h).symm⟩
 rw [cutW_snoc]
 have e : (i ++ [x]).getD ((i ++ [x]).length - 1) 0 = x := by simp [List.getD_eq_getElem?_getD]
 rw [e]
 have := cutW_le i
 by_cases hx : x = 0
 · simp [hx]; omega
 · simp [hx]
theorem cutW_last (l : List UInt64) (h : cutW l ≠ []) : (cutW l).getD ((cutW l).length - 1) 0 ≠ 0 := by
 rw [← cutW_full _ h]
 congr 1
 rw [← wordsOf_valW l, cutW_wordsOf]
theorem dropWhile_take {α : Type} (p : α → Bool) (l : List α) (n : Nat) (d : α) (hn : n ≤ l.length) (hz : ∀ j, n ≤ j → j < l.length → p (l.getD j d) = true) (hl : n = 0 ∨ p (l.getD (n - 1) d) = false) : (l.reverse.dropWhile p).reverse = l.take n := by
 have e : l = l.take n ++ l.drop n := (List.take_append_drop n l).symm
 have hd : ∀ x ∈ (l.drop n).reverse, p x = true := fun x hx => by
  rw [List.mem_reverse] at hx
  obtain ⟨j, hj, rfl⟩ := List.mem_iff_getElem.1 hx
  rw [List.length_drop] at hj
  have := hz (n + j) (by omega) (by omega)
  rw [List.getD_eq_getElem?_getD, List.getElem?_eq_getElem (by omega)] at this
  simp only [Option.getD_some] at this
  rw [List.getElem_drop, this]
 conv => lhs; rw [e]
 rw [List.reverse_append, List.dropWhile_append_of_pos hd]
 rcases hl with rfl | hl
 · simp
 · by_cases h0 : n = 0
   · subst h0; simp
   · have hne : l.take n = l.take (n - 1) ++ [l.getD (n - 1) d] := by
      have h1 : n - 1 < l.length := by omega
      have := List.take_succ_eq_append_getElem h1
      rw [show n - 1 + 1 = n from by omega] at this
      rw [this, List.getD_eq_getElem?_getD, List.getElem?_eq_getElem h1]; rfl
     rw [hne, List.reverse_append]
     simp only [List.reverse_cons, List.reverse_nil, List.nil_append, List.singleton_append]
     rw [List.dropWhile_cons_of_neg (by simpa using hl)]
     simp
theorem cutW_eq (l : List UInt64) (n : Nat) (hn : n ≤ l.length) (hz : ∀ j, n ≤ j → j < l.length → l.getD j 0 = 0) (hl : n = 0 ∨ l.getD (n - 1) 0 ≠ 0) : cutW l = l.take n :=
 dropWhile_take _ l n 0 hn (fun j h1 h2 => by simpa using hz j h1 h2) (hl.imp id fun h => by simpa using h)
theorem cutD_eq (l : List UInt32) (n : Nat) (hn : n ≤ l.length) (hz : ∀ j, n ≤ j → j < l.length → l.getD j 0 = 0) (hl : n = 0 ∨ l.getD (n - 1) 0 ≠ 0) : cutD l = l.take n :=
 dropWhile_take _ l n 0 hn (fun j h1 h2 => by simpa using hz j h1 h2) (hl.imp id fun h => by simpa using h)

def bitlen (n : Nat) : Nat := if n = 0 then 0 else Nat.log2 n + 1
theorem lt_pow_bitlen (n : Nat) : n < 2 ^ bitlen n := by
 unfold bitlen
 split
 · rename_i h; subst h; decide
 · exact Nat.lt_log2_self
theorem pow_le_of_bitlen {n : Nat} (h : n ≠ 0) : 2 ^ (bitlen n - 1) ≤ n := by
 unfold bitlen
 rw [if_neg h]
 exact Nat.log2_self_le h
theorem bitlen_le_iff {n k : Nat} : bitlen n ≤ k ↔ n < 2 ^ k := by
 constructor
 · intro h
   exact Nat.lt_of_lt_of_le (lt_pow_bitlen n) (Nat.pow_le_pow_right (by decide) h)
 · intro h
   by_cases h0 : n = 0
   · subst h0; simp [bitlen]
   · apply Nat.le_of_not_lt; intro hk
     have h1 := pow_le_of_bitlen h0
     have h2 : 2 ^ k ≤ 2 ^ (bitlen n - 1) := Nat.pow_le_pow_right (by decide) (by omega)
     omega
theorem bitlen_eq {n k : Nat} (h1 : 2 ^ k ≤ n) (h2 : n < 2 ^ (k + 1)) : bitlen n = k + 1 := by
 have a := bitlen_le_iff.2 h2
 have b : ¬ bitlen n ≤ k := fun h => by have := bitlen_le_iff.1 h; omega
 omega
theorem bitlen_zero : bitlen 0 = 0 := rfl
theorem bitlen_pos {n : Nat} (h : n ≠ 0) : 0 < bitlen n := by unfold bitlen; rw [if_neg h]; omega
theorem bitlen_mul_pow (n k : Nat) (h : n ≠ 0) : bitlen (n * 2 ^ k) = bitlen n + k := by
 have h1 := pow_le_of_bitlen h
 have h2 := lt_pow_bitlen n
 have h3 := bitlen_pos h
 have e : bitlen n + k = (bitlen n - 1 + k) + 1 := by omega
 rw [e]
 apply bitlen_eq
 · rw [Nat.pow_add]; exact Nat.mul_le_mul_right _ h1
 · rw [show bitlen n - 1 + k + 1 = bitlen n + k from by omega, Nat.pow_add]
   exact Nat.mul_lt_mul_of_pos_right h2 (Nat.pow_pos (by decide))
theorem bitlen_shift (v k : Nat) (h : v / 2 ^ k ≠ 0) : bitlen v = bitlen (v / 2 ^ k) + k := by
 have h1 := pow_le_of_bitlen h
 have h2 := lt_pow_bitlen (v / 2 ^ k)
 have h3 := bitlen_pos h
 have e : bitlen (v / 2 ^ k) + k = (bitlen (v / 2 ^ k) - 1 + k) + 1 := by omega
 rw [e]
 apply bitlen_eq
 · rw [Nat.pow_add]
   exact Nat.le_trans (Nat.mul_le_mul_right _ h1) (Nat.div_mul_le_self v (2 ^ k))
 · rw [show bitlen (v / 2 ^ k) - 1 + k + 1 = bitlen (v / 2 ^ k) + k from by omega, Nat.pow_add]
   exact (Nat.div_lt_iff_lt_mul (Nat.pow_pos (by decide))).1 h2
theorem bitlen_le (n : Nat) (h : n < 18446744073709551616) : bitlen n ≤ 64 := bitlen_le_iff.2 h
theorem bitlen_top (a x k : Nat) (ha : a < 2 ^ k) (hx : x ≠ 0) : bitlen (a + 2 ^ k * x) = k + bitlen x := by
 have hp : 0 < 2 ^ k := Nat.pow_pos (by decide)
 have e : (a + 2 ^ k * x) / 2 ^ k = x := by
  rw [Nat.add_mul_div_left _ _ hp, Nat.div_eq_of_lt ha, Nat.zero_add]
 rw [bitlen_shift _ k (by rw [e]; exact hx), e, Nat.add_comm]
end Go.Pv
end

section
/- Natural numbers by digits: order, digits put in place. No program in it. -/
namespace Go.Pv
def cmpI (a b : Int) : Int := if a < b then -1 else if a > b then 1 else 0
def cmpW (a b : Nat) : Int := cmpI (a : Int) (b : Int)
theorem cmpI_lt {a b : Int} (h : a < b) : cmpI a b = -1 := by rw [cmpI, if_pos h]
theorem cmpI_gt {a b : Int} (h : b < a) : cmpI a b = 1 := by rw [cmpI, if_neg (by omega), if_pos h]
theorem cmpI_eq {a b : Int} (h : a = b) : cmpI a b = 0 := by rw [cmpI, if_neg (by omega), if_neg (by omega)]
theorem cmpI_swap (a b : Int) : cmpI b a = - cmpI a b := by
 unfold cmpI
 by_cases h1 : a < b
 · rw [if_pos h1, if_neg (by omega), if_pos (by omega)]; rfl
 · by_cases h2 : b < a
   · rw [if_pos h2, if_neg h1, if_pos (by omega)]
   · rw [if_neg h2, if_neg (by omega), if_neg h1, if_neg (by omega)]; rfl
theorem cmpI_neg_neg (a b : Int) : cmpI (-a) (-b) = - cmpI a b := by
 rw [← cmpI_swap]; unfold cmpI
 by_cases h1 : b < a
 · rw [if_pos h1, if_pos (by omega)]
 · rw [if_neg h1, if_neg (by omega)]
   by_cases h2 : b > a
   · rw [if_pos h2, if_pos (by omega)]
   · rw [if_neg h2, if_neg (by omega)]
theorem cmpI_mul {a b k : Int} (h : 0 < k) : cmpI (a * k) (b * k) = cmpI a b := by
 unfold cmpI
 have e1 : a * k < b * k ↔ a < b := Int.mul_lt_mul_right h
 have e2 : b * k < a * k ↔ b < a := Int.mul_lt_mul_right h
 simp only [e1, gt_iff_lt, e2]

theorem digs_mono {B n m : Nat} (hB : 2 ≤ B) (h : n ≤ m) : (digs B n).length ≤ (digs B m).length := by
 apply digs_length_le hB
 have h2 := val_lt (B := B) (by omega) _ (digs_lt hB m)
 rw [val_digs hB] at h2
 omega
theorem val_lt_at {B : Nat} : ∀ (l m : List Nat) (i : Nat), (∀ x ∈ l, x < B) → l.length = m.length → i < l.length →
  (∀ j, i < j → j < l.length → l.getD j 0 = m.getD j 0) → l.getD i 0 < m.getD i 0 → val B l < val B m
 | [], _, _, _, _, h, _, _ => by simp at h
 | x :: l, [], _, _, h, _, _, _ => by simp at h
 | x :: l, y :: m, 0, hl, hlen, _, heq, hlt => by
  have e : l = m := List.ext_getElem (by simpa using hlen) fun j h1 h2 => by
   have := heq (j + 1) (by omega) (by simp; omega)
   simpa [List.getD_eq_getElem?_getD, h1, h2] using this
  subst e
  simp only [val]
  have : x < y := by simpa using hlt
  omega
 | x :: l, y :: m, i + 1, hl, hlen, hi, heq, hlt => by
  have ih := val_lt_at l m i (fun z hz => hl z (List.mem_cons_of_mem _ hz)) (by simpa using hlen) (by simpa using hi)
   (fun j h1 h2 => by have := heq (j + 1) (by omega) (by simp; omega); simpa using this) (by simpa using hlt)
  have hx := hl x List.mem_cons_self
  simp only [val]
  have : B * (val B l + 1) ≤ B * val B m := Nat.mul_le_mul_left _ ih
  rw [Nat.mul_add] at this
  omega
theorem val_set (B : Nat) : ∀ (l : List Nat) (i x : Nat), i < l.length → val B (l.set i x) + B ^ i * l.getD i 0 = val B l + B ^ i * x
 | [], i, x, h => by simp at h
 | y :: l, 0, x, h => by simp [val]; omega
 | y :: l, i + 1, x, h => by
  have ih := val_set B l i x (by simpa using h)
  simp only [List.set_cons_succ, val, List.getD_cons_succ, Nat.pow_succ]
  have : B * (val B (l.set i x) + B ^ i * l.getD i 0) = B * (val B l + B ^ i * x) := by rw [ih]
  rw [Nat.mul_add, Nat.mul_add] at this
  rw [Nat.mul_comm (B ^ i) B, Nat.mul_assoc, Nat.mul_assoc]
  omega
theorem val_replicate_zero (B n : Nat) : val B (List.replicate n 0) = 0 := by
 induction n with
 | zero => rfl
 | succ n ih => rw [List.replicate_succ, val, ih]; simp
theorem nW_getD (l : List UInt64) (i : Nat) : (nW l).getD i 0 = (l.getD i 0).toNat := by
 simp only [nW, List.getD_eq_getElem?_getD, List.getElem?_map]
 cases l[i]? <;> rfl
theorem nD_getD (l : List UInt32) (i : Nat) : (nD l).getD i 0 = (l.getD i 0).toNat := by
 simp only [nD, List.getD_eq_getElem?_getD, List.getElem?_map]
 cases l[i]? <;> rfl
theorem valW_set (l : List UInt64) (i : Nat) (c : UInt64) (h : i < l.length) : valW (l.set i c) + 18446744073709551616 ^ i * (l.getD i 0).toNat = valW l + 18446744073709551616 ^ i * c.toNat := by
 have := val_set 18446744073709551616 (nW l) i c.toNat (by simpa [nW] using h)
 rw [nW_getD] at this
 have e : (nW l).set i c.toNat = nW (l.set i c) := by simp [nW, List.map_set]
 rw [e] at this
 exact this
theorem valD_set (l : List UInt32) (i : Nat) (c : UInt32) (h : i < l.length) : valD (l.set i c) + 4294967296 ^ i * (l.getD i 0).toNat = valD l + 4294967296 ^ i * c.toNat := by
 have := val_set 4294967296 (nD l) i c.toNat (by simpa [nD] using h)
 rw [nD_getD] at this
 have e : (nD l).set i c.toNat = nD (l.set i c) := by simp [nD, List.map_set]
 rw [e] at this
 exact this
theorem valW_zeros (n : Nat) : valW (List.replicate n 0) = 0 := by
 have : nW (List.replicate n 0) = List.replicate n 0 := by simp [nW]
 rw [valW, this, val_replicate_zero]
theorem valD_zeros (n : Nat) : valD (List.replicate n 0) = 0 := by
 have : nD (List.replicate n 0) = List.replicate n 0 := by simp [nD]
 rw [valD, this, val_replicate_zero]
theorem valW_snoc (l : List UInt64) (c : UInt64) : valW (l ++ [c]) = valW l + 18446744073709551616 ^ l.length * c.toNat := by
 rw [valW_append]; simp [valW, nW, val]
theorem valD_snoc (l : List UInt32) (c : UInt32) : valD (l ++ [c]) = valD l + 4294967296 ^ l.length * c.toNat := by
 rw [valD_append]; simp [valD, nD, val]
theorem take_snoc {α : Type} (l : List α) (i : Nat) (d : α) (h : i < l.length) : l.take (i + 1) = l.take i ++ [l.getD i d] := by
 rw [List.take_succ_eq_append_getElem h, List.getD_eq_getElem?_getD, List.getElem?_eq_getElem h]; rfl
theorem valW_take_succ (l : List UInt64) (i : Nat) (h : i < l.length) : valW (l.take (i + 1)) = valW (l.take i) + 18446744073709551616 ^ i * (l.getD i 0).toNat := by
 rw [take_snoc l i 0 h, valW_snoc, List.length_take, Nat.min_eq_left (by omega)]
theorem valD_take_succ (l : List UInt32) (i : Nat) (h : i < l.length) : valD (l.take (i + 1)) = valD (l.take i) + 4294967296 ^ i * (l.getD i 0).toNat := by
 rw [take_snoc l i 0 h, valD_snoc, List.length_take, Nat.min_eq_left (by omega)]
theorem wordsOf_length_le {n k : Nat} (h : n < 18446744073709551616 ^ k) : (wordsOf n).length ≤ k := by
 simp only [wordsOf, List.length_map]; exact digs_length_le (by decide) k n h
theorem digitsOf_length_le {n k : Nat} (h : n < 4294967296 ^ k) : (digitsOf n).length ≤ k := by
 simp only [digitsOf, List.length_map]; exact digs_length_le (by decide) k n h
theorem lt_digitsOf_length (n : Nat) : n < 4294967296 ^ (digitsOf n).length := by
 have := valD_lt (digitsOf n); rwa [valD_digitsOf] at this
theorem wordsOf_mono {n m : Nat} (h : n ≤ m) : (wordsOf n).length ≤ (wordsOf m).length := by
 simp only [wordsOf, List.length_map]; exact digs_mono (by decide) h
theorem digitsOf_mono {n m : Nat} (h : n ≤ m) : (digitsOf n).length ≤ (digitsOf m).length := by
 simp only [digitsOf, List.length_map]; exact digs_mono (by decide) h
theorem cmpW_length {a b : List UInt64} (ha : cutW a = a) (hb : cutW b = b) (h : a.length ≠ b.length) : cmpI a.length b.length = cmpW (valW a) (valW b) := by
 rw [← wordsOf_valW] at ha hb
 have m1 : valW a ≤ valW b → a.length ≤ b.length := fun h => by have := wordsOf_mono h; rwa [ha, hb] at this
 have m2 : valW b ≤ valW a → b.length ≤ a.length := fun h => by have := wordsOf_mono h; rwa [ha, hb] at this
 by_cases hl : a.length < b.length
 · rw [cmpI_lt (by omega), cmpW, cmpI_lt]
   have : ¬ valW b ≤ valW a := fun h => by have := m2 h; omega
   omega
 · rw [cmpI_gt (by omega), cmpW, cmpI_gt]
   have : ¬ valW a ≤ valW b := fun h => by have := m1 h; omega
   omega
theorem cmpD_length {a b : Nat} (h : (digitsOf a).length ≠ (digitsOf b).length) : cmpI (digitsOf a).length (digitsOf b).length = cmpW a b := by
 have m1 : a ≤ b → (digitsOf a).length ≤ (digitsOf b).length := digitsOf_mono
 have m2 : b ≤ a → (digitsOf b).length ≤ (digitsOf a).length := digitsOf_mono
 by_cases hl : (digitsOf a).length < (digitsOf b).length
 · rw [cmpI_lt (by omega), cmpW, cmpI_lt]
   have : ¬ b ≤ a := fun h => by have := m2 h; omega
   omega
 · rw [cmpI_gt (by omega), cmpW, cmpI_gt]
   have : ¬ a ≤ b := fun h => by have := m1 h; omega
   omega
theorem cmpW_at {a b : List UInt64} (hl : a.length = b.length) (i : Nat) (hi : i < a.length) (heq : ∀ j, i < j → j < a.length → a.getD j 0 = b.getD j 0) (hne : a.getD i 0 ≠ b.getD i 0) :
  cmpI (a.getD i 0).toNat (b.getD i 0).toNat = cmpW (valW a) (valW b) := by
 have hn : (a.getD i 0).toNat ≠ (b.getD i 0).toNat := fun e => hne (UInt64.toNat.inj e)
 have la : (nW a).length = a.length := by simp [nW]
 have lb : (nW b).length = b.length := by simp [nW]
 by_cases h : (a.getD i 0).toNat < (b.getD i 0).toNat
 · have := val_lt_at (nW a) (nW b) i (nW_lt a) (by omega) (by omega) (fun j h1 h2 => by rw [nW_getD, nW_getD, heq j h1 (by omega)]) (by rw [nW_getD, nW_getD]; exact h)
   rw [cmpI_lt (by omega), cmpW, cmpI_lt]
   simp only [valW]; omega
 · have := val_lt_at (nW b) (nW a) i (nW_lt b) (by omega) (by omega) (fun j h1 h2 => by rw [nW_getD, nW_getD, heq j h1 (by omega)]) (by rw [nW_getD, nW_getD]; omega)
   rw [cmpI_gt (by omega), cmpW, cmpI_gt]
   simp only [valW]; omega
theorem valD_lt_at {a b : List UInt32} (hl : a.length = b.length) (i : Nat) (hi : i < a.length) (heq : ∀ j, i < j → j < a.length → a.getD j 0 = b.getD j 0) (h : (a.getD i 0).toNat < (b.getD i 0).toNat) : valD a < valD b := by
 have la : (nD a).length = a.length := by simp [nD]
 have lb : (nD b).length = b.length := by simp [nD]
 exact val_lt_at (nD a) (nD b) i (nD_lt a) (by omega) (by omega) (fun j h1 h2 => by rw [nD_getD, nD_getD, heq j h1 (by omega)]) (by rw [nD_getD, nD_getD]; exact h)
theorem eq_of_getD {α : Type} {a b : List α} (d : α) (hl : a.length = b.length) (h : ∀ j, j < a.length → a.getD j d = b.getD j d) : a = b :=
 List.ext_getElem hl fun j h1 h2 => by
  have := h j h1
  simpa [List.getD_eq_getElem?_getD, h1, h2] using this
theorem getD_set {α : Type} (l : List α) (i j : Nat) (x d : α) : (l.set i x).getD j d = if i = j ∧ j < l.length then x else l.getD j d := by
 simp only [List.getD_eq_getElem?_getD, List.getElem?_set]
 by_cases h : i = j
 · subst h
   by_cases h2 : i < l.length
   · simp [h2]
   · simp [h2]
 · simp [h]
theorem getD_replicate {α : Type} (n j : Nat) (x : α) : (List.replicate n x).getD j x = x := by
 simp only [List.getD_eq_getElem?_getD, List.getElem?_replicate]
 split <;> rfl
theorem nbne_t {a b : Nat} (h : ((a : Int) != (b : Int)) = true) : a ≠ b := by
 intro e; subst e; simp at h
theorem nbne_f {a b : Nat} (h : ((a : Int) != (b : Int)) = false) : a = b := by
 have : (a : Int) = b := by simpa using h
 omega
theorem nbeq_t {a b : Nat} (h : ((a : Int) == (b : Int)) = true) : a = b := by
 have : (a : Int) = b := by simpa using h
 omega
theorem nbeq_f {a b : Nat} (h : ((a : Int) == (b : Int)) = false) : a ≠ b := by
 intro e; subst e; simp at h
theorem zbne_t {a b : Int} (h : (a != b) = true) : a ≠ b := by intro e; subst e; simp at h
theorem zbne_f {a b : Int} (h : (a != b) = false) : a = b := by simpa using h
theorem zbeq_t {a b : Int} (h : (a == b) = true) : a = b := by simpa using h
theorem zbeq_f {a b : Int} (h : (a == b) = false) : a ≠ b := by intro e; subst e; simp at h
end Go.Pv
end
