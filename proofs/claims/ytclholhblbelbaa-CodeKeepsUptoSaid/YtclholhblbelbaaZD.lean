/- Parts of the walk: PvTab, M1, M2. -/
import Derived.Test.YtclholhblbelbaaZC
import Derived.Test.YtclholhblbelbaaProg
import Derived.KernelRfl
set_option linter.unusedVariables false
set_option linter.unusedSimpArgs false
section
/- The facts on the types and functions of this translation that the layer asks for. Printed by gentab.py. -/
namespace Go.Proofs
open Go.Pv
@[go_sem] theorem Try.ti1 : ti Try.prog 1 = some ⟨false, 1, .other, some (.nilFunc)⟩ := by kernel_rfl
@[go_sem] theorem Try.ti2 : ti Try.prog 2 = some ⟨false, 1, .int .i64, some (.int .i64 0)⟩ := by kernel_rfl
@[go_sem] theorem Try.ti3 : ti Try.prog 3 = some ⟨false, 1, .int .i64, some (.int .i64 0)⟩ := by kernel_rfl
@[go_sem] theorem Try.ti4 : ti Try.prog 4 = some ⟨false, 1, .bool, some (.bool false)⟩ := by kernel_rfl
@[go_sem] theorem Try.ti5 : ti Try.prog 5 = some ⟨false, 1, .int .u8, some (.int .u8 0)⟩ := by kernel_rfl
@[go_sem] theorem Try.ti6 : ti Try.prog 6 = some ⟨false, 1, .int .u8, some (.int .u8 0)⟩ := by kernel_rfl
@[go_sem] theorem Try.ti7 : ti Try.prog 7 = some ⟨true, 4, .struct [(0, ⟨2, 1, 8, false, true, false⟩), (1, ⟨3, 1, 8, false, true, false⟩), (2, ⟨4, 1, 1, false, true, false⟩), (3, ⟨6, 1, 1, false, true, true⟩)], some (.agg #[.int .i64 0, .int .i64 0, .bool false, .int .u8 0])⟩ := by kernel_rfl
@[go_sem] theorem Try.ti8 : ti Try.prog 8 = some ⟨true, 4, .struct [(0, ⟨2, 1, 8, false, true, false⟩), (1, ⟨3, 1, 8, false, true, false⟩), (2, ⟨4, 1, 1, false, true, false⟩), (3, ⟨6, 1, 1, false, true, true⟩)], some (.agg #[.int .i64 0, .int .i64 0, .bool false, .int .u8 0])⟩ := by kernel_rfl
@[go_sem] theorem Try.ti9 : ti Try.prog 9 = some ⟨false, 1, .str, some (.string ByteArray.empty)⟩ := by kernel_rfl
@[go_sem] theorem Try.ti10 : ti Try.prog 10 = some ⟨false, 1, .str, some (.string ByteArray.empty)⟩ := by kernel_rfl
@[go_sem] theorem Try.ti11 : ti Try.prog 11 = some ⟨false, 1, .str, some (.string ByteArray.empty)⟩ := by kernel_rfl
@[go_sem] theorem Try.ti12 : ti Try.prog 12 = some ⟨false, 1, .int .u64, some (.int .u64 0)⟩ := by kernel_rfl
@[go_sem] theorem Try.ti13 : ti Try.prog 13 = some ⟨true, 2, .struct [(0, ⟨9, 1, 16, false, true, false⟩), (1, ⟨12, 1, 8, false, true, false⟩)], some (.agg #[.string ByteArray.empty, .int .u64 0])⟩ := by kernel_rfl
@[go_sem] theorem Try.ti14 : ti Try.prog 14 = some ⟨true, 2, .struct [(0, ⟨9, 1, 16, false, true, false⟩), (1, ⟨12, 1, 8, false, true, false⟩)], some (.agg #[.string ByteArray.empty, .int .u64 0])⟩ := by kernel_rfl
@[go_sem] theorem Try.ti15 : ti Try.prog 15 = some ⟨false, 1, .ptr, some (.pointer none)⟩ := by kernel_rfl
@[go_sem] theorem Try.ti16 : ti Try.prog 16 = some ⟨false, 1, .ptr, some (.pointer none)⟩ := by kernel_rfl
@[go_sem] theorem Try.ti17 : ti Try.prog 17 = some ⟨false, 1, .ptr, some (.pointer none)⟩ := by kernel_rfl
@[go_sem] theorem Try.ti18 : ti Try.prog 18 = some ⟨true, 1, .struct [(0, ⟨17, 1, 8, false, true, false⟩)], some (.agg #[.pointer none])⟩ := by kernel_rfl
@[go_sem] theorem Try.ti19 : ti Try.prog 19 = some ⟨true, 1, .struct [(0, ⟨17, 1, 8, false, true, false⟩)], some (.agg #[.pointer none])⟩ := by kernel_rfl
@[go_sem] theorem Try.ti21 : ti Try.prog 21 = some ⟨false, 1, .int .i32, some (.int .i32 0)⟩ := by kernel_rfl
@[go_sem] theorem Try.ti22 : ti Try.prog 22 = some ⟨false, 1, .slice ⟨29, 9, 120, true, true, false⟩, some (.slice none 0 0)⟩ := by kernel_rfl
@[go_sem] theorem Try.ti23 : ti Try.prog 23 = some ⟨false, 1, .other, some (.nilFunc)⟩ := by kernel_rfl
@[go_sem] theorem Try.ti24 : ti Try.prog 24 = some ⟨false, 1, .slice ⟨41, 1, 8, false, true, false⟩, some (.slice none 0 0)⟩ := by kernel_rfl
@[go_sem] theorem Try.ti25 : ti Try.prog 25 = some ⟨true, 3, .struct [(0, ⟨4, 1, 1, false, true, false⟩), (1, ⟨2, 1, 8, false, true, false⟩), (2, ⟨24, 1, 24, false, true, false⟩)], some (.agg #[.bool false, .int .i64 0, .slice none 0 0])⟩ := by kernel_rfl
@[go_sem] theorem Try.ti26 : ti Try.prog 26 = some ⟨true, 3, .struct [(0, ⟨4, 1, 1, false, true, false⟩), (1, ⟨2, 1, 8, false, true, false⟩), (2, ⟨24, 1, 24, false, true, false⟩)], some (.agg #[.bool false, .int .i64 0, .slice none 0 0])⟩ := by kernel_rfl
@[go_sem] theorem Try.ti27 : ti Try.prog 27 = some ⟨false, 1, .slice ⟨43, 6, 80, true, true, false⟩, some (.slice none 0 0)⟩ := by kernel_rfl
@[go_sem] theorem Try.ti28 : ti Try.prog 28 = some ⟨true, 9, .struct [(0, ⟨3, 1, 8, false, true, false⟩), (1, ⟨3, 1, 8, false, true, false⟩), (2, ⟨26, 3, 40, true, true, false⟩), (5, ⟨26, 3, 40, true, true, false⟩), (8, ⟨27, 1, 24, false, true, false⟩)], some (.agg #[.int .i64 0, .int .i64 0, .bool false, .int .i64 0, .slice none 0 0, .bool false, .int .i64 0, .slice none 0 0, .slice none 0 0])⟩ := by kernel_rfl
@[go_sem] theorem Try.ti29 : ti Try.prog 29 = some ⟨true, 9, .struct [(0, ⟨3, 1, 8, false, true, false⟩), (1, ⟨3, 1, 8, false, true, false⟩), (2, ⟨26, 3, 40, true, true, false⟩), (5, ⟨26, 3, 40, true, true, false⟩), (8, ⟨27, 1, 24, false, true, false⟩)], some (.agg #[.int .i64 0, .int .i64 0, .bool false, .int .i64 0, .slice none 0 0, .bool false, .int .i64 0, .slice none 0 0, .slice none 0 0])⟩ := by kernel_rfl
@[go_sem] theorem Try.ti30 : ti Try.prog 30 = some ⟨false, 1, .other, some (.nilFunc)⟩ := by kernel_rfl
@[go_sem] theorem Try.ti31 : ti Try.prog 31 = some ⟨false, 1, .ptr, some (.pointer none)⟩ := by kernel_rfl
@[go_sem] theorem Try.ti32 : ti Try.prog 32 = some ⟨false, 1, .other, some (.nilFunc)⟩ := by kernel_rfl
@[go_sem] theorem Try.ti33 : ti Try.prog 33 = some ⟨false, 1, .other, some (.nilFunc)⟩ := by kernel_rfl
@[go_sem] theorem Try.ti34 : ti Try.prog 34 = some ⟨false, 1, .other, some (.nilFunc)⟩ := by kernel_rfl
@[go_sem] theorem Try.ti35 : ti Try.prog 35 = some ⟨false, 1, .other, some (.nilFunc)⟩ := by kernel_rfl
@[go_sem] theorem Try.ti36 : ti Try.prog 36 = some ⟨false, 1, .int .i64, some (.int .i64 0)⟩ := by kernel_rfl
@[go_sem] theorem Try.ti38 : ti Try.prog 38 = some ⟨false, 1, .other, some (.nilFunc)⟩ := by kernel_rfl
@[go_sem] theorem Try.ti39 : ti Try.prog 39 = some ⟨false, 1, .other, some (.nilFunc)⟩ := by kernel_rfl
@[go_sem] theorem Try.ti40 : ti Try.prog 40 = some ⟨false, 1, .slice ⟨5, 1, 1, false, true, true⟩, some (.slice none 0 0)⟩ := by kernel_rfl
@[go_sem] theorem Try.ti41 : ti Try.prog 41 = some ⟨false, 1, .int .u64, some (.int .u64 0)⟩ := by kernel_rfl
@[go_sem] theorem Try.ti42 : ti Try.prog 42 = some ⟨true, 6, .struct [(0, ⟨26, 3, 40, true, true, false⟩), (3, ⟨26, 3, 40, true, true, false⟩)], some (.agg #[.bool false, .int .i64 0, .slice none 0 0, .bool false, .int .i64 0, .slice none 0 0])⟩ := by kernel_rfl
@[go_sem] theorem Try.ti43 : ti Try.prog 43 = some ⟨true, 6, .struct [(0, ⟨26, 3, 40, true, true, false⟩), (3, ⟨26, 3, 40, true, true, false⟩)], some (.agg #[.bool false, .int .i64 0, .slice none 0 0, .bool false, .int .i64 0, .slice none 0 0])⟩ := by kernel_rfl
@[go_sem] theorem Try.ti44 : ti Try.prog 44 = some ⟨false, 1, .other, some (.nilFunc)⟩ := by kernel_rfl
@[go_sem] theorem Try.ti45 : ti Try.prog 45 = some ⟨false, 1, .other, some (.nilFunc)⟩ := by kernel_rfl
@[go_sem] theorem Try.ti46 : ti Try.prog 46 = some ⟨false, 1, .other, some (.nilFunc)⟩ := by kernel_rfl
@[go_sem] theorem Try.ti47 : ti Try.prog 47 = some ⟨false, 1, .other, some (.nilFunc)⟩ := by kernel_rfl
@[go_sem] theorem Try.ti48 : ti Try.prog 48 = some ⟨false, 1, .other, some (.nilFunc)⟩ := by kernel_rfl
@[go_sem] theorem Try.ti49 : ti Try.prog 49 = some ⟨false, 1, .other, some (.nilFunc)⟩ := by kernel_rfl
@[go_sem] theorem Try.ti50 : ti Try.prog 50 = some ⟨false, 1, .other, some (.nilFunc)⟩ := by kernel_rfl
@[go_sem] theorem Try.ti51 : ti Try.prog 51 = some ⟨false, 1, .int .u16, some (.int .u16 0)⟩ := by kernel_rfl
@[go_sem] theorem Try.ti52 : ti Try.prog 52 = some ⟨false, 1, .other, some (.nilFunc)⟩ := by kernel_rfl
@[go_sem] theorem Try.ti53 : ti Try.prog 53 = some ⟨false, 1, .other, some (.nilFunc)⟩ := by kernel_rfl
@[go_sem] theorem Try.ti54 : ti Try.prog 54 = some ⟨false, 1, .other, some (.nilFunc)⟩ := by kernel_rfl
@[go_sem] theorem Try.ti55 : ti Try.prog 55 = some ⟨false, 1, .other, some (.nilFunc)⟩ := by kernel_rfl
@[go_sem] theorem Try.ti56 : ti Try.prog 56 = some ⟨false, 1, .other, some (.nilFunc)⟩ := by kernel_rfl
@[go_sem] theorem Try.ti57 : ti Try.prog 57 = some ⟨false, 1, .ptr, some (.pointer none)⟩ := by kernel_rfl
@[go_sem] theorem Try.ti58 : ti Try.prog 58 = some ⟨false, 1, .other, some (.nilFunc)⟩ := by kernel_rfl
@[go_sem] theorem Try.ti59 : ti Try.prog 59 = some ⟨false, 1, .other, some (.nilFunc)⟩ := by kernel_rfl
@[go_sem] theorem Try.ti60 : ti Try.prog 60 = some ⟨false, 1, .other, some (.nilFunc)⟩ := by kernel_rfl
@[go_sem] theorem Try.ti61 : ti Try.prog 61 = some ⟨false, 1, .other, some (.nilFunc)⟩ := by kernel_rfl
@[go_sem] theorem Try.ti62 : ti Try.prog 62 = some ⟨false, 1, .other, some (.nilFunc)⟩ := by kernel_rfl
@[go_sem] theorem Try.ti63 : ti Try.prog 63 = some ⟨false, 1, .other, some (.nilFunc)⟩ := by kernel_rfl
@[go_sem] theorem Try.ti64 : ti Try.prog 64 = some ⟨false, 1, .other, some (.nilFunc)⟩ := by kernel_rfl
@[go_sem] theorem Try.ti65 : ti Try.prog 65 = some ⟨false, 1, .other, some (.nilFunc)⟩ := by kernel_rfl
@[go_sem] theorem Try.ti66 : ti Try.prog 66 = some ⟨false, 1, .other, some (.nilFunc)⟩ := by kernel_rfl
@[go_sem] theorem Try.ti67 : ti Try.prog 67 = some ⟨false, 1, .other, some (.nilFunc)⟩ := by kernel_rfl
@[go_sem] theorem Try.ti68 : ti Try.prog 68 = some ⟨false, 1, .other, some (.nilFunc)⟩ := by kernel_rfl
@[go_sem] theorem Try.ti69 : ti Try.prog 69 = some ⟨false, 1, .other, some (.nilFunc)⟩ := by kernel_rfl
@[go_sem] theorem Try.ti71 : ti Try.prog 71 = some ⟨false, 1, .other, some (.nilFunc)⟩ := by kernel_rfl
@[go_sem] theorem Try.ti72 : ti Try.prog 72 = some ⟨false, 1, .other, some (.nilFunc)⟩ := by kernel_rfl
@[go_sem] theorem Try.ti73 : ti Try.prog 73 = some ⟨false, 1, .other, some (.nilFunc)⟩ := by kernel_rfl
@[go_sem] theorem Try.ti74 : ti Try.prog 74 = some ⟨true, 2, .struct [(0, ⟨24, 1, 24, false, true, false⟩), (1, ⟨3, 1, 8, false, true, false⟩)], some (.agg #[.slice none 0 0, .int .i64 0])⟩ := by kernel_rfl
@[go_sem] theorem Try.ti75 : ti Try.prog 75 = some ⟨true, 2, .struct [(0, ⟨24, 1, 24, false, true, false⟩), (1, ⟨3, 1, 8, false, true, false⟩)], some (.agg #[.slice none 0 0, .int .i64 0])⟩ := by kernel_rfl
@[go_sem] theorem Try.ti77 : ti Try.prog 77 = some ⟨false, 1, .other, some (.nilFunc)⟩ := by kernel_rfl
@[go_sem] theorem Try.ti78 : ti Try.prog 78 = some ⟨false, 1, .other, some (.nilFunc)⟩ := by kernel_rfl
@[go_sem] theorem Try.ti79 : ti Try.prog 79 = some ⟨false, 1, .other, some (.nilFunc)⟩ := by kernel_rfl
@[go_sem] theorem Try.ti80 : ti Try.prog 80 = some ⟨false, 1, .other, some (.nilFunc)⟩ := by kernel_rfl
@[go_sem] theorem Try.ti81 : ti Try.prog 81 = some ⟨false, 1, .other, some (.nilFunc)⟩ := by kernel_rfl
@[go_sem] theorem Try.ti82 : ti Try.prog 82 = some ⟨false, 1, .int .u64, some (.int .u64 0)⟩ := by kernel_rfl
@[go_sem] theorem Try.ti83 : ti Try.prog 83 = some ⟨false, 1, .other, some (.nilFunc)⟩ := by kernel_rfl
@[go_sem] theorem Try.ti84 : ti Try.prog 84 = some ⟨false, 1, .other, some (.nilFunc)⟩ := by kernel_rfl
@[go_sem] theorem Try.ti85 : ti Try.prog 85 = some ⟨false, 1, .other, some (.nilFunc)⟩ := by kernel_rfl
@[go_sem] theorem Try.ti86 : ti Try.prog 86 = some ⟨false, 1, .ptr, some (.pointer none)⟩ := by kernel_rfl
@[go_sem] theorem Try.ti87 : ti Try.prog 87 = some ⟨true, 3, .struct [(0, ⟨40, 1, 24, false, true, false⟩), (1, ⟨3, 1, 8, false, true, false⟩), (2, ⟨36, 1, 8, false, true, false⟩)], some (.agg #[.slice none 0 0, .int .i64 0, .int .i64 0])⟩ := by kernel_rfl
@[go_sem] theorem Try.ti88 : ti Try.prog 88 = some ⟨true, 3, .struct [(0, ⟨40, 1, 24, false, true, false⟩), (1, ⟨3, 1, 8, false, true, false⟩), (2, ⟨36, 1, 8, false, true, false⟩)], some (.agg #[.slice none 0 0, .int .i64 0, .int .i64 0])⟩ := by kernel_rfl
@[go_sem] theorem Try.ti89 : ti Try.prog 89 = some ⟨false, 1, .other, some (.nilFunc)⟩ := by kernel_rfl
@[go_sem] theorem Try.ti90 : ti Try.prog 90 = some ⟨false, 1, .other, some (.nilFunc)⟩ := by kernel_rfl
@[go_sem] theorem Try.ti91 : ti Try.prog 91 = some ⟨false, 1, .other, some (.nilFunc)⟩ := by kernel_rfl
@[go_sem] theorem Try.ti92 : ti Try.prog 92 = some ⟨true, 2, .struct [(0, ⟨40, 1, 24, false, true, false⟩), (1, ⟨36, 1, 8, false, true, false⟩)], some (.agg #[.slice none 0 0, .int .i64 0])⟩ := by kernel_rfl
@[go_sem] theorem Try.ti93 : ti Try.prog 93 = some ⟨true, 2, .struct [(0, ⟨40, 1, 24, false, true, false⟩), (1, ⟨36, 1, 8, false, true, false⟩)], some (.agg #[.slice none 0 0, .int .i64 0])⟩ := by kernel_rfl
@[go_sem] theorem Try.ti94 : ti Try.prog 94 = some ⟨false, 1, .other, some (.nilFunc)⟩ := by kernel_rfl
@[go_sem] theorem Try.ti95 : ti Try.prog 95 = some ⟨false, 1, .other, some (.nilFunc)⟩ := by kernel_rfl
@[go_sem] theorem Try.ti96 : ti Try.prog 96 = some ⟨false, 1, .other, some (.nilFunc)⟩ := by kernel_rfl
@[go_sem] theorem Try.ti97 : ti Try.prog 97 = some ⟨false, 1, .other, some (.nilFunc)⟩ := by kernel_rfl
@[go_sem] theorem Try.ti98 : ti Try.prog 98 = some ⟨false, 1, .other, some (.nilFunc)⟩ := by kernel_rfl
@[go_sem] theorem Try.ti99 : ti Try.prog 99 = some ⟨false, 1, .other, some (.nilFunc)⟩ := by kernel_rfl
@[go_sem] theorem Try.ti101 : ti Try.prog 101 = some ⟨false, 1, .other, some (.nilFunc)⟩ := by kernel_rfl
@[go_sem] theorem Try.ti103 : ti Try.prog 103 = some ⟨false, 1, .other, some (.nilFunc)⟩ := by kernel_rfl
@[go_sem] theorem Try.ti104 : ti Try.prog 104 = some ⟨false, 1, .other, some (.nilFunc)⟩ := by kernel_rfl
@[go_sem] theorem Try.ti105 : ti Try.prog 105 = some ⟨false, 1, .other, some (.nilFunc)⟩ := by kernel_rfl
@[go_sem] theorem Try.ti106 : ti Try.prog 106 = some ⟨false, 1, .slice ⟨139, 1, 4, false, true, false⟩, some (.slice none 0 0)⟩ := by kernel_rfl
@[go_sem] theorem Try.ti107 : ti Try.prog 107 = some ⟨true, 3, .struct [(0, ⟨4, 1, 1, false, true, false⟩), (1, ⟨106, 1, 24, false, true, false⟩), (2, ⟨2, 1, 8, false, true, false⟩)], some (.agg #[.bool false, .slice none 0 0, .int .i64 0])⟩ := by kernel_rfl
@[go_sem] theorem Try.ti108 : ti Try.prog 108 = some ⟨true, 3, .struct [(0, ⟨4, 1, 1, false, true, false⟩), (1, ⟨106, 1, 24, false, true, false⟩), (2, ⟨2, 1, 8, false, true, false⟩)], some (.agg #[.bool false, .slice none 0 0, .int .i64 0])⟩ := by kernel_rfl
@[go_sem] theorem Try.ti109 : ti Try.prog 109 = some ⟨false, 1, .other, some (.nilFunc)⟩ := by kernel_rfl
@[go_sem] theorem Try.ti110 : ti Try.prog 110 = some ⟨false, 1, .other, some (.nilFunc)⟩ := by kernel_rfl
@[go_sem] theorem Try.ti111 : ti Try.prog 111 = some ⟨false, 1, .other, some (.nilFunc)⟩ := by kernel_rfl
@[go_sem] theorem Try.ti113 : ti Try.prog 113 = some ⟨false, 1, .other, some (.nilFunc)⟩ := by kernel_rfl
@[go_sem] theorem Try.ti114 : ti Try.prog 114 = some ⟨false, 1, .other, some (.nilFunc)⟩ := by kernel_rfl
@[go_sem] theorem Try.ti115 : ti Try.prog 115 = some ⟨false, 1, .other, some (.nilFunc)⟩ := by kernel_rfl
@[go_sem] theorem Try.ti116 : ti Try.prog 116 = some ⟨false, 1, .other, some (.nilFunc)⟩ := by kernel_rfl
@[go_sem] theorem Try.ti117 : ti Try.prog 117 = some ⟨false, 1, .other, some (.nilFunc)⟩ := by kernel_rfl
@[go_sem] theorem Try.ti118 : ti Try.prog 118 = some ⟨false, 1, .other, some (.nilFunc)⟩ := by kernel_rfl
@[go_sem] theorem Try.ti119 : ti Try.prog 119 = some ⟨false, 1, .other, some (.nilFunc)⟩ := by kernel_rfl
@[go_sem] theorem Try.ti120 : ti Try.prog 120 = some ⟨false, 1, .other, some (.nilFunc)⟩ := by kernel_rfl
@[go_sem] theorem Try.ti121 : ti Try.prog 121 = some ⟨false, 1, .other, some (.nilFunc)⟩ := by kernel_rfl
@[go_sem] theorem Try.ti122 : ti Try.prog 122 = some ⟨false, 1, .other, some (.nilFunc)⟩ := by kernel_rfl
@[go_sem] theorem Try.ti123 : ti Try.prog 123 = some ⟨false, 1, .other, some (.nilFunc)⟩ := by kernel_rfl
@[go_sem] theorem Try.ti124 : ti Try.prog 124 = some ⟨false, 1, .other, some (.nilFunc)⟩ := by kernel_rfl
@[go_sem] theorem Try.ti125 : ti Try.prog 125 = some ⟨false, 1, .other, some (.nilFunc)⟩ := by kernel_rfl
@[go_sem] theorem Try.ti126 : ti Try.prog 126 = some ⟨false, 1, .other, some (.nilFunc)⟩ := by kernel_rfl
@[go_sem] theorem Try.ti127 : ti Try.prog 127 = some ⟨false, 1, .other, some (.nilFunc)⟩ := by kernel_rfl
@[go_sem] theorem Try.ti128 : ti Try.prog 128 = some ⟨false, 1, .other, some (.nilFunc)⟩ := by kernel_rfl
@[go_sem] theorem Try.ti129 : ti Try.prog 129 = some ⟨false, 1, .other, some (.nilFunc)⟩ := by kernel_rfl
@[go_sem] theorem Try.ti130 : ti Try.prog 130 = some ⟨false, 1, .other, some (.nilFunc)⟩ := by kernel_rfl
@[go_sem] theorem Try.ti132 : ti Try.prog 132 = some ⟨false, 1, .other, some (.nilFunc)⟩ := by kernel_rfl
@[go_sem] theorem Try.ti133 : ti Try.prog 133 = some ⟨false, 1, .other, some (.nilFunc)⟩ := by kernel_rfl
@[go_sem] theorem Try.ti134 : ti Try.prog 134 = some ⟨false, 1, .other, some (.nilFunc)⟩ := by kernel_rfl
@[go_sem] theorem Try.ti135 : ti Try.prog 135 = some ⟨false, 1, .other, some (.nilFunc)⟩ := by kernel_rfl
@[go_sem] theorem Try.ti136 : ti Try.prog 136 = some ⟨false, 1, .other, some (.nilFunc)⟩ := by kernel_rfl
@[go_sem] theorem Try.ti137 : ti Try.prog 137 = some ⟨false, 1, .other, some (.nilFunc)⟩ := by kernel_rfl
@[go_sem] theorem Try.ti138 : ti Try.prog 138 = some ⟨false, 1, .other, some (.nilFunc)⟩ := by kernel_rfl
@[go_sem] theorem Try.ti139 : ti Try.prog 139 = some ⟨false, 1, .int .u32, some (.int .u32 0)⟩ := by kernel_rfl
@[go_sem] theorem Try.ti140 : ti Try.prog 140 = some ⟨false, 1, .other, some (.nilFunc)⟩ := by kernel_rfl
@[go_sem] theorem Try.ti141 : ti Try.prog 141 = some ⟨false, 1, .other, some (.nilFunc)⟩ := by kernel_rfl
@[go_sem] theorem Try.ti142 : ti Try.prog 142 = some ⟨false, 1, .other, some (.nilFunc)⟩ := by kernel_rfl
@[go_sem] theorem Try.ti143 : ti Try.prog 143 = some ⟨false, 1, .other, some (.nilFunc)⟩ := by kernel_rfl
@[go_sem] theorem Try.ti145 : ti Try.prog 145 = some ⟨false, 1, .other, some (.nilFunc)⟩ := by kernel_rfl
@[go_sem] theorem Try.ti146 : ti Try.prog 146 = some ⟨false, 1, .other, some (.nilFunc)⟩ := by kernel_rfl
@[go_sem] theorem Try.ti147 : ti Try.prog 147 = some ⟨false, 1, .other, some (.nilFunc)⟩ := by kernel_rfl
@[go_sem] theorem Try.ti148 : ti Try.prog 148 = some ⟨false, 1, .other, some (.nilFunc)⟩ := by kernel_rfl
@[go_sem] theorem Try.ti149 : ti Try.prog 149 = some ⟨false, 1, .other, some (.nilFunc)⟩ := by kernel_rfl
@[go_sem] theorem Try.ti150 : ti Try.prog 150 = some ⟨false, 1, .other, some (.nilFunc)⟩ := by kernel_rfl
@[go_sem] theorem Try.ti151 : ti Try.prog 151 = some ⟨false, 1, .other, some (.nilFunc)⟩ := by kernel_rfl
@[go_sem] theorem Try.ti152 : ti Try.prog 152 = some ⟨true, 4, .struct [(0, ⟨17, 1, 8, false, true, false⟩), (1, ⟨17, 1, 8, false, true, false⟩), (2, ⟨17, 1, 8, false, true, false⟩), (3, ⟨9, 1, 16, false, true, false⟩)], some (.agg #[.pointer none, .pointer none, .pointer none, .string ByteArray.empty])⟩ := by kernel_rfl
@[go_sem] theorem Try.ti153 : ti Try.prog 153 = some ⟨true, 4, .struct [(0, ⟨17, 1, 8, false, true, false⟩), (1, ⟨17, 1, 8, false, true, false⟩), (2, ⟨17, 1, 8, false, true, false⟩), (3, ⟨9, 1, 16, false, true, false⟩)], some (.agg #[.pointer none, .pointer none, .pointer none, .string ByteArray.empty])⟩ := by kernel_rfl
@[go_sem] theorem Try.ti154 : ti Try.prog 154 = some ⟨true, 0, .arr 0 ⟨16, 1, 8, false, true, false⟩, some (.agg #[])⟩ := by kernel_rfl
@[go_sem] theorem Try.ti155 : ti Try.prog 155 = some ⟨true, 0, .struct [(0, ⟨154, 0, 0, true, true, false⟩)], some (.agg #[])⟩ := by kernel_rfl
@[go_sem] theorem Try.ti156 : ti Try.prog 156 = some ⟨true, 0, .struct [(0, ⟨154, 0, 0, true, true, false⟩)], some (.agg #[])⟩ := by kernel_rfl
@[go_sem] theorem Try.ti157 : ti Try.prog 157 = some ⟨false, 1, .int .u8, some (.int .u8 0)⟩ := by kernel_rfl
@[go_sem] theorem Try.ti158 : ti Try.prog 158 = some ⟨false, 1, .int .u8, some (.int .u8 0)⟩ := by kernel_rfl
@[go_sem] theorem Try.ti159 : ti Try.prog 159 = some ⟨false, 1, .other, some (.nilFunc)⟩ := by kernel_rfl
@[go_sem] theorem Try.ti160 : ti Try.prog 160 = some ⟨false, 1, .ptr, some (.pointer none)⟩ := by kernel_rfl
@[go_sem] theorem Try.ti161 : ti Try.prog 161 = some ⟨false, 1, .int .i32, some (.int .i32 0)⟩ := by kernel_rfl
@[go_sem] theorem Try.ti162 : ti Try.prog 162 = some ⟨false, 1, .int .i32, some (.int .i32 0)⟩ := by kernel_rfl
@[go_sem] theorem Try.ti163 : ti Try.prog 163 = some ⟨true, 11, .struct [(0, ⟨12, 1, 8, false, true, false⟩), (1, ⟨12, 1, 8, false, true, false⟩), (2, ⟨139, 1, 4, false, true, false⟩), (3, ⟨157, 1, 1, false, true, true⟩), (4, ⟨5, 1, 1, false, true, true⟩), (5, ⟨5, 1, 1, false, true, true⟩), (6, ⟨158, 1, 1, false, true, true⟩), (7, ⟨159, 1, 8, false, true, false⟩), (8, ⟨160, 1, 8, false, true, false⟩), (9, ⟨161, 1, 4, false, true, false⟩), (10, ⟨162, 1, 4, false, true, false⟩)], some (.agg #[.int .u64 0, .int .u64 0, .int .u32 0, .int .u8 0, .int .u8 0, .int .u8 0, .int .u8 0, .nilFunc, .pointer none, .int .i32 0, .int .i32 0])⟩ := by kernel_rfl
@[go_sem] theorem Try.ti164 : ti Try.prog 164 = some ⟨true, 11, .struct [(0, ⟨12, 1, 8, false, true, false⟩), (1, ⟨12, 1, 8, false, true, false⟩), (2, ⟨139, 1, 4, false, true, false⟩), (3, ⟨157, 1, 1, false, true, true⟩), (4, ⟨5, 1, 1, false, true, true⟩), (5, ⟨5, 1, 1, false, true, true⟩), (6, ⟨158, 1, 1, false, true, true⟩), (7, ⟨159, 1, 8, false, true, false⟩), (8, ⟨160, 1, 8, false, true, false⟩), (9, ⟨161, 1, 4, false, true, false⟩), (10, ⟨162, 1, 4, false, true, false⟩)], some (.agg #[.int .u64 0, .int .u64 0, .int .u32 0, .int .u8 0, .int .u8 0, .int .u8 0, .int .u8 0, .nilFunc, .pointer none, .int .i32 0, .int .i32 0])⟩ := by kernel_rfl
@[go_sem] theorem Try.ca3 : callable Try.prog 3 = true := by kernel_rfl
@[go_sem] theorem Try.ca4 : callable Try.prog 4 = true := by kernel_rfl
@[go_sem] theorem Try.ca5 : callable Try.prog 5 = true := by kernel_rfl
@[go_sem] theorem Try.ca6 : callable Try.prog 6 = true := by kernel_rfl
@[go_sem] theorem Try.ca7 : callable Try.prog 7 = true := by kernel_rfl
@[go_sem] theorem Try.ca8 : callable Try.prog 8 = true := by kernel_rfl
@[go_sem] theorem Try.ca9 : callable Try.prog 9 = true := by kernel_rfl
@[go_sem] theorem Try.ca10 : callable Try.prog 10 = true := by kernel_rfl
@[go_sem] theorem Try.ca11 : callable Try.prog 11 = true := by kernel_rfl
@[go_sem] theorem Try.ca12 : callable Try.prog 12 = true := by kernel_rfl
@[go_sem] theorem Try.ca13 : callable Try.prog 13 = true := by kernel_rfl
@[go_sem] theorem Try.ca14 : callable Try.prog 14 = true := by kernel_rfl
@[go_sem] theorem Try.ca15 : callable Try.prog 15 = true := by kernel_rfl
@[go_sem] theorem Try.ca16 : callable Try.prog 16 = true := by kernel_rfl
@[go_sem] theorem Try.ca17 : callable Try.prog 17 = true := by kernel_rfl
@[go_sem] theorem Try.ca18 : callable Try.prog 18 = true := by kernel_rfl
@[go_sem] theorem Try.ca19 : callable Try.prog 19 = true := by kernel_rfl
@[go_sem] theorem Try.ca20 : callable Try.prog 20 = true := by kernel_rfl
@[go_sem] theorem Try.ca21 : callable Try.prog 21 = true := by kernel_rfl
@[go_sem] theorem Try.ca22 : callable Try.prog 22 = true := by kernel_rfl
@[go_sem] theorem Try.ca23 : callable Try.prog 23 = true := by kernel_rfl
@[go_sem] theorem Try.ca24 : callable Try.prog 24 = true := by kernel_rfl
@[go_sem] theorem Try.ca25 : callable Try.prog 25 = true := by kernel_rfl
@[go_sem] theorem Try.ca26 : callable Try.prog 26 = true := by kernel_rfl
@[go_sem] theorem Try.ca27 : callable Try.prog 27 = true := by kernel_rfl
@[go_sem] theorem Try.ca28 : callable Try.prog 28 = true := by kernel_rfl
@[go_sem] theorem Try.ca29 : callable Try.prog 29 = true := by kernel_rfl
@[go_sem] theorem Try.ca30 : callable Try.prog 30 = true := by kernel_rfl
@[go_sem] theorem Try.ca31 : callable Try.prog 31 = true := by kernel_rfl
@[go_sem] theorem Try.ca32 : callable Try.prog 32 = true := by kernel_rfl
@[go_sem] theorem Try.ca33 : callable Try.prog 33 = true := by kernel_rfl
@[go_sem] theorem Try.ca34 : callable Try.prog 34 = true := by kernel_rfl
@[go_sem] theorem Try.ca35 : callable Try.prog 35 = true := by kernel_rfl
@[go_sem] theorem Try.ca36 : callable Try.prog 36 = true := by kernel_rfl
@[go_sem] theorem Try.ca37 : callable Try.prog 37 = true := by kernel_rfl
@[go_sem] theorem Try.ca38 : callable Try.prog 38 = true := by kernel_rfl
@[go_sem] theorem Try.ca39 : callable Try.prog 39 = true := by kernel_rfl
@[go_sem] theorem Try.ca40 : callable Try.prog 40 = true := by kernel_rfl
@[go_sem] theorem Try.ca41 : callable Try.prog 41 = true := by kernel_rfl
@[go_sem] theorem Try.ca42 : callable Try.prog 42 = true := by kernel_rfl
@[go_sem] theorem Try.ca43 : callable Try.prog 43 = true := by kernel_rfl
@[go_sem] theorem Try.ca44 : callable Try.prog 44 = true := by kernel_rfl
@[go_sem] theorem Try.ca45 : callable Try.prog 45 = true := by kernel_rfl
@[go_sem] theorem Try.ca46 : callable Try.prog 46 = true := by kernel_rfl
@[go_sem] theorem Try.ca47 : callable Try.prog 47 = true := by kernel_rfl
@[go_sem] theorem Try.ca48 : callable Try.prog 48 = true := by kernel_rfl
@[go_sem] theorem Try.ca49 : callable Try.prog 49 = true := by kernel_rfl
@[go_sem] theorem Try.ca50 : callable Try.prog 50 = true := by kernel_rfl
@[go_sem] theorem Try.ca51 : callable Try.prog 51 = true := by kernel_rfl
@[go_sem] theorem Try.ca52 : callable Try.prog 52 = true := by kernel_rfl
@[go_sem] theorem Try.ca53 : callable Try.prog 53 = true := by kernel_rfl
@[go_sem] theorem Try.ca54 : callable Try.prog 54 = true := by kernel_rfl
@[go_sem] theorem Try.ca55 : callable Try.prog 55 = true := by kernel_rfl
@[go_sem] theorem Try.ca56 : callable Try.prog 56 = true := by kernel_rfl
@[go_sem] theorem Try.ca57 : callable Try.prog 57 = true := by kernel_rfl
@[go_sem] theorem Try.ca58 : callable Try.prog 58 = true := by kernel_rfl
@[go_sem] theorem Try.ca59 : callable Try.prog 59 = true := by kernel_rfl
@[go_sem] theorem Try.ca60 : callable Try.prog 60 = true := by kernel_rfl
@[go_sem] theorem Try.ca61 : callable Try.prog 61 = true := by kernel_rfl
@[go_sem] theorem Try.ca62 : callable Try.prog 62 = true := by kernel_rfl
@[go_sem] theorem Try.ca63 : callable Try.prog 63 = true := by kernel_rfl
@[go_sem] theorem Try.ca64 : callable Try.prog 64 = true := by kernel_rfl
@[go_sem] theorem Try.ca65 : callable Try.prog 65 = true := by kernel_rfl
@[go_sem] theorem Try.ca66 : callable Try.prog 66 = true := by kernel_rfl
@[go_sem] theorem Try.ca67 : callable Try.prog 67 = true := by kernel_rfl
@[go_sem] theorem Try.ca68 : callable Try.prog 68 = true := by kernel_rfl
@[go_sem] theorem Try.ca69 : callable Try.prog 69 = true := by kernel_rfl
@[go_sem] theorem Try.ca70 : callable Try.prog 70 = true := by kernel_rfl
@[go_sem] theorem Try.ca71 : callable Try.prog 71 = true := by kernel_rfl
@[go_sem] theorem Try.ca72 : callable Try.prog 72 = true := by kernel_rfl
@[go_sem] theorem Try.ca73 : callable Try.prog 73 = true := by kernel_rfl
@[go_sem] theorem Try.ca74 : callable Try.prog 74 = true := by kernel_rfl
@[go_sem] theorem Try.ca75 : callable Try.prog 75 = true := by kernel_rfl
@[go_sem] theorem Try.ca76 : callable Try.prog 76 = true := by kernel_rfl
@[go_sem] theorem Try.ca77 : callable Try.prog 77 = true := by kernel_rfl
@[go_sem] theorem Try.ca78 : callable Try.prog 78 = true := by kernel_rfl
@[go_sem] theorem Try.ca79 : callable Try.prog 79 = true := by kernel_rfl
@[go_sem] theorem Try.ca80 : callable Try.prog 80 = true := by kernel_rfl
@[go_sem] theorem Try.ca81 : callable Try.prog 81 = true := by kernel_rfl
@[go_sem] theorem Try.ca82 : callable Try.prog 82 = true := by kernel_rfl
@[go_sem] theorem Try.ca83 : callable Try.prog 83 = true := by kernel_rfl
@[go_sem] theorem Try.ca84 : callable Try.prog 84 = true := by kernel_rfl
@[go_sem] theorem Try.ca85 : callable Try.prog 85 = true := by kernel_rfl
@[go_sem] theorem Try.ca86 : callable Try.prog 86 = true := by kernel_rfl
@[go_sem] theorem Try.ca87 : callable Try.prog 87 = true := by kernel_rfl
@[go_sem] theorem Try.ca88 : callable Try.prog 88 = true := by kernel_rfl
@[go_sem] theorem Try.ca89 : callable Try.prog 89 = true := by kernel_rfl
@[go_sem] theorem Try.ca90 : callable Try.prog 90 = true := by kernel_rfl
@[go_sem] theorem Try.ca91 : callable Try.prog 91 = true := by kernel_rfl
@[go_sem] theorem Try.ca92 : callable Try.prog 92 = true := by kernel_rfl
@[go_sem] theorem Try.ca93 : callable Try.prog 93 = true := by kernel_rfl
@[go_sem] theorem Try.ca94 : callable Try.prog 94 = true := by kernel_rfl
@[go_sem] theorem Try.ca95 : callable Try.prog 95 = true := by kernel_rfl
@[go_sem] theorem Try.ca96 : callable Try.prog 96 = true := by kernel_rfl
@[go_sem] theorem Try.ca97 : callable Try.prog 97 = true := by kernel_rfl
@[go_sem] theorem Try.ca98 : callable Try.prog 98 = true := by kernel_rfl
@[go_sem] theorem Try.ca99 : callable Try.prog 99 = true := by kernel_rfl
@[go_sem] theorem Try.ca100 : callable Try.prog 100 = true := by kernel_rfl
@[go_sem] theorem Try.ca101 : callable Try.prog 101 = true := by kernel_rfl
@[go_sem] theorem Try.ca102 : callable Try.prog 102 = true := by kernel_rfl
@[go_sem] theorem Try.ca103 : callable Try.prog 103 = true := by kernel_rfl
@[go_sem] theorem Try.ca104 : callable Try.prog 104 = true := by kernel_rfl
@[go_sem] theorem Try.ca105 : callable Try.prog 105 = true := by kernel_rfl
@[go_sem] theorem Try.ca106 : callable Try.prog 106 = true := by kernel_rfl
@[go_sem] theorem Try.ca107 : callable Try.prog 107 = true := by kernel_rfl
@[go_sem] theorem Try.ca108 : callable Try.prog 108 = true := by kernel_rfl
@[go_sem] theorem Try.ca109 : callable Try.prog 109 = true := by kernel_rfl
@[go_sem] theorem Try.ca110 : callable Try.prog 110 = true := by kernel_rfl
@[go_sem] theorem Try.ca111 : callable Try.prog 111 = true := by kernel_rfl
@[go_sem] theorem Try.ca112 : callable Try.prog 112 = true := by kernel_rfl
@[go_sem] theorem Try.ca113 : callable Try.prog 113 = true := by kernel_rfl
@[go_sem] theorem Try.ca114 : callable Try.prog 114 = true := by kernel_rfl
@[go_sem] theorem Try.ca115 : callable Try.prog 115 = true := by kernel_rfl
@[go_sem] theorem Try.ca116 : callable Try.prog 116 = true := by kernel_rfl
@[go_sem] theorem Try.ca117 : callable Try.prog 117 = true := by kernel_rfl
@[go_sem] theorem Try.ca118 : callable Try.prog 118 = true := by kernel_rfl
@[go_sem] theorem Try.ca119 : callable Try.prog 119 = true := by kernel_rfl
@[go_sem] theorem Try.ca120 : callable Try.prog 120 = true := by kernel_rfl
@[go_sem] theorem Try.ca121 : callable Try.prog 121 = true := by kernel_rfl
@[go_sem] theorem Try.ca122 : callable Try.prog 122 = true := by kernel_rfl
@[go_sem] theorem Try.ca123 : callable Try.prog 123 = true := by kernel_rfl
@[go_sem] theorem Try.ca124 : callable Try.prog 124 = true := by kernel_rfl
@[go_sem] theorem Try.ca125 : callable Try.prog 125 = true := by kernel_rfl
@[go_sem] theorem Try.ca126 : callable Try.prog 126 = true := by kernel_rfl
@[go_sem] theorem Try.ca127 : callable Try.prog 127 = true := by kernel_rfl
@[go_sem] theorem Try.ca128 : callable Try.prog 128 = true := by kernel_rfl
@[go_sem] theorem Try.ca129 : callable Try.prog 129 = true := by kernel_rfl
@[go_sem] theorem Try.ca130 : callable Try.prog 130 = true := by kernel_rfl
@[go_sem] theorem Try.ca131 : callable Try.prog 131 = true := by kernel_rfl
@[go_sem] theorem Try.ca132 : callable Try.prog 132 = true := by kernel_rfl
@[go_sem] theorem Try.ca133 : callable Try.prog 133 = true := by kernel_rfl
@[go_sem] theorem Try.ca134 : callable Try.prog 134 = true := by kernel_rfl
@[go_sem] theorem Try.ca135 : callable Try.prog 135 = true := by kernel_rfl
@[go_sem] theorem Try.ca136 : callable Try.prog 136 = true := by kernel_rfl
@[go_sem] theorem Try.ca137 : callable Try.prog 137 = true := by kernel_rfl
@[go_sem] theorem Try.ca138 : callable Try.prog 138 = true := by kernel_rfl
@[go_sem] theorem Try.ca139 : callable Try.prog 139 = true := by kernel_rfl
@[go_sem] theorem Try.ca140 : callable Try.prog 140 = true := by kernel_rfl
@[go_sem] theorem Try.ca141 : callable Try.prog 141 = true := by kernel_rfl
@[go_sem] theorem Try.ca142 : callable Try.prog 142 = true := by kernel_rfl
@[go_sem] theorem Try.ca143 : callable Try.prog 143 = true := by kernel_rfl
@[go_sem] theorem Try.ca144 : callable Try.prog 144 = true := by kernel_rfl
@[go_sem] theorem Try.ca145 : callable Try.prog 145 = true := by kernel_rfl
@[go_sem] theorem Try.ca146 : callable Try.prog 146 = true := by kernel_rfl
@[go_sem] theorem Try.ca147 : callable Try.prog 147 = true := by kernel_rfl
@[go_sem] theorem Try.ca148 : callable Try.prog 148 = true := by kernel_rfl
@[go_sem] theorem Try.ca149 : callable Try.prog 149 = true := by kernel_rfl
@[go_sem] theorem Try.ca150 : callable Try.prog 150 = true := by kernel_rfl
@[go_sem] theorem Try.ca151 : callable Try.prog 151 = true := by kernel_rfl
@[go_sem] theorem Try.ca152 : callable Try.prog 152 = true := by kernel_rfl
@[go_sem] theorem Try.ca153 : callable Try.prog 153 = true := by kernel_rfl
@[go_sem] theorem Try.ca154 : callable Try.prog 154 = true := by kernel_rfl
@[go_sem] theorem Try.ca155 : callable Try.prog 155 = true := by kernel_rfl
@[go_sem] theorem Try.ca156 : callable Try.prog 156 = true := by kernel_rfl
@[go_sem] theorem Try.ca157 : callable Try.prog 157 = true := by kernel_rfl
@[go_sem] theorem Try.ca158 : callable Try.prog 158 = true := by kernel_rfl
@[go_sem] theorem Try.ca159 : callable Try.prog 159 = true := by kernel_rfl
@[go_sem] theorem Try.ca160 : callable Try.prog 160 = true := by kernel_rfl
@[go_sem] theorem Try.ca161 : callable Try.prog 161 = true := by kernel_rfl
@[go_sem] theorem Try.ca162 : callable Try.prog 162 = true := by kernel_rfl
@[go_sem] theorem Try.ca163 : callable Try.prog 163 = true := by kernel_rfl
@[go_sem] theorem Try.ca164 : callable Try.prog 164 = true := by kernel_rfl
@[go_sem] theorem Try.ca165 : callable Try.prog 165 = true := by kernel_rfl
@[go_sem] theorem Try.ca166 : callable Try.prog 166 = true := by kernel_rfl
@[go_sem] theorem Try.ca167 : callable Try.prog 167 = true := by kernel_rfl
@[go_sem] theorem Try.ca168 : callable Try.prog 168 = true := by kernel_rfl
@[go_sem] theorem Try.ca169 : callable Try.prog 169 = true := by kernel_rfl
@[go_sem] theorem Try.res3 : Try.f3.results.toList = [.tmp 6] := rfl
attribute [go_sem] Try.ntmps3
@[go_sem] theorem Try.res4 : Try.f4.results.toList = [.tmp 2] := rfl
attribute [go_sem] Try.ntmps4
@[go_sem] theorem Try.res5 : Try.f5.results.toList = [.tmp 2] := rfl
attribute [go_sem] Try.ntmps5
@[go_sem] theorem Try.res6 : Try.f6.results.toList = [.tmp 12] := rfl
attribute [go_sem] Try.ntmps6
@[go_sem] theorem Try.res7 : Try.f7.results.toList = [.tmp 4] := rfl
attribute [go_sem] Try.ntmps7
@[go_sem] theorem Try.res8 : Try.f8.results.toList = [.tmp 4] := rfl
attribute [go_sem] Try.ntmps8
@[go_sem] theorem Try.res9 : Try.f9.results.toList = [.tmp 10] := rfl
attribute [go_sem] Try.ntmps9
@[go_sem] theorem Try.res10 : Try.f10.results.toList = [.tmp 2] := rfl
attribute [go_sem] Try.ntmps10
@[go_sem] theorem Try.res11 : Try.f11.results.toList = [.tmp 2] := rfl
attribute [go_sem] Try.ntmps11
@[go_sem] theorem Try.res12 : Try.f12.results.toList = [.tmp 2] := rfl
attribute [go_sem] Try.ntmps12
@[go_sem] theorem Try.res13 : Try.f13.results.toList = [.tmp 0] := rfl
attribute [go_sem] Try.ntmps13
@[go_sem] theorem Try.res14 : Try.f14.results.toList = [.tmp 6] := rfl
attribute [go_sem] Try.ntmps14
@[go_sem] theorem Try.res15 : Try.f15.results.toList = [.tmp 2] := rfl
attribute [go_sem] Try.ntmps15
@[go_sem] theorem Try.res16 : Try.f16.results.toList = [.tmp 6] := rfl
attribute [go_sem] Try.ntmps16
@[go_sem] theorem Try.res17 : Try.f17.results.toList = [.tmp 4] := rfl
attribute [go_sem] Try.ntmps17
@[go_sem] theorem Try.res18 : Try.f18.results.toList = [.tmp 6, .tmp 7] := rfl
attribute [go_sem] Try.ntmps18
@[go_sem] theorem Try.res19 : Try.f19.results.toList = [.tmp 4] := rfl
attribute [go_sem] Try.ntmps19
@[go_sem] theorem Try.res20 : Try.f20.results.toList = [.tmp 0] := rfl
attribute [go_sem] Try.ntmps20
@[go_sem] theorem Try.res21 : Try.f21.results.toList = [.tmp 4] := rfl
attribute [go_sem] Try.ntmps21
@[go_sem] theorem Try.res22 : Try.f22.results.toList = [.tmp 4] := rfl
attribute [go_sem] Try.ntmps22
@[go_sem] theorem Try.res23 : Try.f23.results.toList = [.tmp 4] := rfl
attribute [go_sem] Try.ntmps23
@[go_sem] theorem Try.res24 : Try.f24.results.toList = [.tmp 4] := rfl
attribute [go_sem] Try.ntmps24
@[go_sem] theorem Try.res25 : Try.f25.results.toList = [.tmp 4] := rfl
attribute [go_sem] Try.ntmps25
@[go_sem] theorem Try.res26 : Try.f26.results.toList = [.tmp 4] := rfl
attribute [go_sem] Try.ntmps26
@[go_sem] theorem Try.res27 : Try.f27.results.toList = [.tmp 4] := rfl
attribute [go_sem] Try.ntmps27
@[go_sem] theorem Try.res28 : Try.f28.results.toList = [.tmp 4] := rfl
attribute [go_sem] Try.ntmps28
@[go_sem] theorem Try.res29 : Try.f29.results.toList = [.tmp 4] := rfl
attribute [go_sem] Try.ntmps29
@[go_sem] theorem Try.res30 : Try.f30.results.toList = [.tmp 4] := rfl
attribute [go_sem] Try.ntmps30
@[go_sem] theorem Try.res31 : Try.f31.results.toList = [.tmp 4] := rfl
attribute [go_sem] Try.ntmps31
@[go_sem] theorem Try.res32 : Try.f32.results.toList = [.tmp 2] := rfl
attribute [go_sem] Try.ntmps32
@[go_sem] theorem Try.res33 : Try.f33.results.toList = [.cell 2 26] := rfl
attribute [go_sem] Try.ntmps33
@[go_sem] theorem Try.res34 : Try.f34.results.toList = [.cell 2 43] := rfl
attribute [go_sem] Try.ntmps34
@[go_sem] theorem Try.res35 : Try.f35.results.toList = [.tmp 4] := rfl
attribute [go_sem] Try.ntmps35
@[go_sem] theorem Try.res36 : Try.f36.results.toList = [.tmp 2] := rfl
attribute [go_sem] Try.ntmps36
@[go_sem] theorem Try.res37 : Try.f37.results.toList = [.tmp 2] := rfl
attribute [go_sem] Try.ntmps37
@[go_sem] theorem Try.res38 : Try.f38.results.toList = [.tmp 2] := rfl
attribute [go_sem] Try.ntmps38
@[go_sem] theorem Try.res39 : Try.f39.results.toList = [.tmp 2] := rfl
attribute [go_sem] Try.ntmps39
@[go_sem] theorem Try.res40 : Try.f40.results.toList = [.tmp 4] := rfl
attribute [go_sem] Try.ntmps40
@[go_sem] theorem Try.res41 : Try.f41.results.toList = [.cell 2 26] := rfl
attribute [go_sem] Try.ntmps41
@[go_sem] theorem Try.res42 : Try.f42.results.toList = [.tmp 4] := rfl
attribute [go_sem] Try.ntmps42
@[go_sem] theorem Try.res43 : Try.f43.results.toList = [.cell 2 43] := rfl
attribute [go_sem] Try.ntmps43
@[go_sem] theorem Try.res44 : Try.f44.results.toList = [.tmp 4] := rfl
attribute [go_sem] Try.ntmps44
@[go_sem] theorem Try.res45 : Try.f45.results.toList = [.tmp 2] := rfl
attribute [go_sem] Try.ntmps45
@[go_sem] theorem Try.res46 : Try.f46.results.toList = [.tmp 2] := rfl
attribute [go_sem] Try.ntmps46
@[go_sem] theorem Try.res47 : Try.f47.results.toList = [.tmp 2] := rfl
attribute [go_sem] Try.ntmps47
@[go_sem] theorem Try.res48 : Try.f48.results.toList = [.tmp 4] := rfl
attribute [go_sem] Try.ntmps48
@[go_sem] theorem Try.res49 : Try.f49.results.toList = [.tmp 4] := rfl
attribute [go_sem] Try.ntmps49
@[go_sem] theorem Try.res50 : Try.f50.results.toList = [.tmp 2] := rfl
attribute [go_sem] Try.ntmps50
@[go_sem] theorem Try.res51 : Try.f51.results.toList = [.tmp 4] := rfl
attribute [go_sem] Try.ntmps51
@[go_sem] theorem Try.res52 : Try.f52.results.toList = [.cell 2 29, .tmp 3] := rfl
attribute [go_sem] Try.ntmps52
@[go_sem] theorem Try.res53 : Try.f53.results.toList = [.tmp 2] := rfl
attribute [go_sem] Try.ntmps53
@[go_sem] theorem Try.res54 : Try.f54.results.toList = [.cell 2 26] := rfl
attribute [go_sem] Try.ntmps54
@[go_sem] theorem Try.res55 : Try.f55.results.toList = [.tmp 4] := rfl
attribute [go_sem] Try.ntmps55
@[go_sem] theorem Try.res56 : Try.f56.results.toList = [.tmp 4] := rfl
attribute [go_sem] Try.ntmps56
@[go_sem] theorem Try.res57 : Try.f57.results.toList = [.cell 2 29, .tmp 3] := rfl
attribute [go_sem] Try.ntmps57
@[go_sem] theorem Try.res58 : Try.f58.results.toList = [.tmp 6, .tmp 7] := rfl
attribute [go_sem] Try.ntmps58
@[go_sem] theorem Try.res59 : Try.f59.results.toList = [.tmp 4] := rfl
attribute [go_sem] Try.ntmps59
@[go_sem] theorem Try.res60 : Try.f60.results.toList = [.cell 6 26, .tmp 7] := rfl
attribute [go_sem] Try.ntmps60
@[go_sem] theorem Try.res61 : Try.f61.results.toList = [.cell 2 26] := rfl
attribute [go_sem] Try.ntmps61
@[go_sem] theorem Try.res62 : Try.f62.results.toList = [.tmp 6] := rfl
attribute [go_sem] Try.ntmps62
@[go_sem] theorem Try.res63 : Try.f63.results.toList = [.cell 2 29] := rfl
attribute [go_sem] Try.ntmps63
@[go_sem] theorem Try.res64 : Try.f64.results.toList = [.cell 2 43] := rfl
attribute [go_sem] Try.ntmps64
@[go_sem] theorem Try.res65 : Try.f65.results.toList = [.tmp 2] := rfl
attribute [go_sem] Try.ntmps65
@[go_sem] theorem Try.res66 : Try.f66.results.toList = [.tmp 2] := rfl
attribute [go_sem] Try.ntmps66
@[go_sem] theorem Try.res67 : Try.f67.results.toList = [.tmp 2] := rfl
attribute [go_sem] Try.ntmps67
@[go_sem] theorem Try.res68 : Try.f68.results.toList = [.tmp 2] := rfl
attribute [go_sem] Try.ntmps68
@[go_sem] theorem Try.res69 : Try.f69.results.toList = [.tmp 2] := rfl
attribute [go_sem] Try.ntmps69
@[go_sem] theorem Try.res70 : Try.f70.results.toList = [.tmp 2] := rfl
attribute [go_sem] Try.ntmps70
@[go_sem] theorem Try.res71 : Try.f71.results.toList = [.tmp 2] := rfl
attribute [go_sem] Try.ntmps71
@[go_sem] theorem Try.res72 : Try.f72.results.toList = [.tmp 2] := rfl
attribute [go_sem] Try.ntmps72
@[go_sem] theorem Try.res73 : Try.f73.results.toList = [.tmp 2] := rfl
attribute [go_sem] Try.ntmps73
@[go_sem] theorem Try.res74 : Try.f74.results.toList = [.cell 2 26] := rfl
attribute [go_sem] Try.ntmps74
@[go_sem] theorem Try.res75 : Try.f75.results.toList = [.cell 2 43] := rfl
attribute [go_sem] Try.ntmps75
@[go_sem] theorem Try.res76 : Try.f76.results.toList = [.tmp 2] := rfl
attribute [go_sem] Try.ntmps76
@[go_sem] theorem Try.res77 : Try.f77.results.toList = [.tmp 2] := rfl
attribute [go_sem] Try.ntmps77
@[go_sem] theorem Try.res78 : Try.f78.results.toList = [.cell 6 26] := rfl
attribute [go_sem] Try.ntmps78
@[go_sem] theorem Try.res79 : Try.f79.results.toList = [.cell 2 43] := rfl
attribute [go_sem] Try.ntmps79
@[go_sem] theorem Try.res80 : Try.f80.results.toList = [.cell 4 43] := rfl
attribute [go_sem] Try.ntmps80
@[go_sem] theorem Try.res81 : Try.f81.results.toList = [.cell 2 26] := rfl
attribute [go_sem] Try.ntmps81
@[go_sem] theorem Try.res82 : Try.f82.results.toList = [.cell 2 26] := rfl
attribute [go_sem] Try.ntmps82
@[go_sem] theorem Try.res83 : Try.f83.results.toList = [.cell 2 26] := rfl
attribute [go_sem] Try.ntmps83
@[go_sem] theorem Try.res84 : Try.f84.results.toList = [.tmp 4] := rfl
attribute [go_sem] Try.ntmps84
@[go_sem] theorem Try.res85 : Try.f85.results.toList = [.tmp 2] := rfl
attribute [go_sem] Try.ntmps85
@[go_sem] theorem Try.res86 : Try.f86.results.toList = [.cell 4 26] := rfl
attribute [go_sem] Try.ntmps86
@[go_sem] theorem Try.res87 : Try.f87.results.toList = [.cell 2 26] := rfl
attribute [go_sem] Try.ntmps87
@[go_sem] theorem Try.res88 : Try.f88.results.toList = [.cell 4 43] := rfl
attribute [go_sem] Try.ntmps88
@[go_sem] theorem Try.res89 : Try.f89.results.toList = [.cell 2 43] := rfl
attribute [go_sem] Try.ntmps89
@[go_sem] theorem Try.res90 : Try.f90.results.toList = [.tmp 4] := rfl
attribute [go_sem] Try.ntmps90
@[go_sem] theorem Try.res91 : Try.f91.results.toList = [.tmp 2] := rfl
attribute [go_sem] Try.ntmps91
@[go_sem] theorem Try.res92 : Try.f92.results.toList = [.tmp 4] := rfl
attribute [go_sem] Try.ntmps92
@[go_sem] theorem Try.res93 : Try.f93.results.toList = [.tmp 2] := rfl
attribute [go_sem] Try.ntmps93
@[go_sem] theorem Try.res94 : Try.f94.results.toList = [.tmp 2] := rfl
attribute [go_sem] Try.ntmps94
@[go_sem] theorem Try.res95 : Try.f95.results.toList = [.tmp 4] := rfl
attribute [go_sem] Try.ntmps95
@[go_sem] theorem Try.res96 : Try.f96.results.toList = [.tmp 4] := rfl
attribute [go_sem] Try.ntmps96
@[go_sem] theorem Try.res97 : Try.f97.results.toList = [.tmp 4, .tmp 5] := rfl
attribute [go_sem] Try.ntmps97
@[go_sem] theorem Try.res98 : Try.f98.results.toList = [.cell 2 29, .tmp 3] := rfl
attribute [go_sem] Try.ntmps98
@[go_sem] theorem Try.res99 : Try.f99.results.toList = [.tmp 6] := rfl
attribute [go_sem] Try.ntmps99
@[go_sem] theorem Try.res100 : Try.f100.results.toList = [.tmp 4] := rfl
attribute [go_sem] Try.ntmps100
@[go_sem] theorem Try.res101 : Try.f101.results.toList = [.tmp 2] := rfl
attribute [go_sem] Try.ntmps101
@[go_sem] theorem Try.res102 : Try.f102.results.toList = [.tmp 4] := rfl
attribute [go_sem] Try.ntmps102
@[go_sem] theorem Try.res103 : Try.f103.results.toList = [.tmp 4, .tmp 5] := rfl
attribute [go_sem] Try.ntmps103
@[go_sem] theorem Try.res104 : Try.f104.results.toList = [.tmp 2] := rfl
attribute [go_sem] Try.ntmps104
@[go_sem] theorem Try.res105 : Try.f105.results.toList = [.cell 2 43] := rfl
attribute [go_sem] Try.ntmps105
@[go_sem] theorem Try.res106 : Try.f106.results.toList = [.cell 6 108] := rfl
attribute [go_sem] Try.ntmps106
@[go_sem] theorem Try.res107 : Try.f107.results.toList = [.cell 2 108] := rfl
attribute [go_sem] Try.ntmps107
@[go_sem] theorem Try.res108 : Try.f108.results.toList = [.cell 2 26, .tmp 3] := rfl
attribute [go_sem] Try.ntmps108
@[go_sem] theorem Try.res109 : Try.f109.results.toList = [.cell 4 43] := rfl
attribute [go_sem] Try.ntmps109
@[go_sem] theorem Try.res110 : Try.f110.results.toList = [.tmp 2] := rfl
attribute [go_sem] Try.ntmps110
@[go_sem] theorem Try.res111 : Try.f111.results.toList = [.tmp 4] := rfl
attribute [go_sem] Try.ntmps111
@[go_sem] theorem Try.res112 : Try.f112.results.toList = [.tmp 4] := rfl
attribute [go_sem] Try.ntmps112
@[go_sem] theorem Try.res113 : Try.f113.results.toList = [.tmp 4, .tmp 5, .tmp 6] := rfl
attribute [go_sem] Try.ntmps113
@[go_sem] theorem Try.res114 : Try.f114.results.toList = [] := rfl
attribute [go_sem] Try.ntmps114
@[go_sem] theorem Try.res115 : Try.f115.results.toList = [.cell 6 26, .tmp 7] := rfl
attribute [go_sem] Try.ntmps115
@[go_sem] theorem Try.res116 : Try.f116.results.toList = [] := rfl
attribute [go_sem] Try.ntmps116
@[go_sem] theorem Try.res117 : Try.f117.results.toList = [.tmp 2] := rfl
attribute [go_sem] Try.ntmps117
@[go_sem] theorem Try.res118 : Try.f118.results.toList = [.tmp 4] := rfl
attribute [go_sem] Try.ntmps118
@[go_sem] theorem Try.res119 : Try.f119.results.toList = [.tmp 4] := rfl
attribute [go_sem] Try.ntmps119
@[go_sem] theorem Try.res120 : Try.f120.results.toList = [.tmp 2] := rfl
attribute [go_sem] Try.ntmps120
@[go_sem] theorem Try.res121 : Try.f121.results.toList = [.tmp 2] := rfl
attribute [go_sem] Try.ntmps121
@[go_sem] theorem Try.res122 : Try.f122.results.toList = [.cell 2 26] := rfl
attribute [go_sem] Try.ntmps122
@[go_sem] theorem Try.res123 : Try.f123.results.toList = [.tmp 6, .tmp 7] := rfl
attribute [go_sem] Try.ntmps123
@[go_sem] theorem Try.res124 : Try.f124.results.toList = [.cell 4 43, .tmp 5] := rfl
attribute [go_sem] Try.ntmps124
@[go_sem] theorem Try.res125 : Try.f125.results.toList = [.tmp 6] := rfl
attribute [go_sem] Try.ntmps125
@[go_sem] theorem Try.res126 : Try.f126.results.toList = [.tmp 6, .tmp 7] := rfl
attribute [go_sem] Try.ntmps126
@[go_sem] theorem Try.res127 : Try.f127.results.toList = [.cell 4 108] := rfl
attribute [go_sem] Try.ntmps127
@[go_sem] theorem Try.res128 : Try.f128.results.toList = [.cell 4 108] := rfl
attribute [go_sem] Try.ntmps128
@[go_sem] theorem Try.res129 : Try.f129.results.toList = [.cell 4 108] := rfl
attribute [go_sem] Try.ntmps129
@[go_sem] theorem Try.res130 : Try.f130.results.toList = [.tmp 2] := rfl
attribute [go_sem] Try.ntmps130
@[go_sem] theorem Try.res131 : Try.f131.results.toList = [.tmp 2] := rfl
attribute [go_sem] Try.ntmps131
@[go_sem] theorem Try.res132 : Try.f132.results.toList = [.cell 2 26] := rfl
attribute [go_sem] Try.ntmps132
@[go_sem] theorem Try.res133 : Try.f133.results.toList = [.tmp 2] := rfl
attribute [go_sem] Try.ntmps133
@[go_sem] theorem Try.res134 : Try.f134.results.toList = [.tmp 4] := rfl
attribute [go_sem] Try.ntmps134
@[go_sem] theorem Try.res135 : Try.f135.results.toList = [.tmp 4] := rfl
attribute [go_sem] Try.ntmps135
@[go_sem] theorem Try.res136 : Try.f136.results.toList = [.tmp 4] := rfl
attribute [go_sem] Try.ntmps136
@[go_sem] theorem Try.res137 : Try.f137.results.toList = [.tmp 2] := rfl
attribute [go_sem] Try.ntmps137
@[go_sem] theorem Try.res138 : Try.f138.results.toList = [.cell 6 108] := rfl
attribute [go_sem] Try.ntmps138
@[go_sem] theorem Try.res139 : Try.f139.results.toList = [.tmp 4] := rfl
attribute [go_sem] Try.ntmps139
@[go_sem] theorem Try.res140 : Try.f140.results.toList = [.tmp 2] := rfl
attribute [go_sem] Try.ntmps140
@[go_sem] theorem Try.res141 : Try.f141.results.toList = [.tmp 2] := rfl
attribute [go_sem] Try.ntmps141
@[go_sem] theorem Try.res142 : Try.f142.results.toList = [.tmp 4, .tmp 5] := rfl
attribute [go_sem] Try.ntmps142
@[go_sem] theorem Try.res143 : Try.f143.results.toList = [.cell 6 43, .tmp 7] := rfl
attribute [go_sem] Try.ntmps143
@[go_sem] theorem Try.res144 : Try.f144.results.toList = [.cell 8 43] := rfl
attribute [go_sem] Try.ntmps144
@[go_sem] theorem Try.res145 : Try.f145.results.toList = [.cell 4 26] := rfl
attribute [go_sem] Try.ntmps145
@[go_sem] theorem Try.res146 : Try.f146.results.toList = [.cell 4 26] := rfl
attribute [go_sem] Try.ntmps146
@[go_sem] theorem Try.res147 : Try.f147.results.toList = [.cell 4 43, .tmp 5] := rfl
attribute [go_sem] Try.ntmps147
@[go_sem] theorem Try.res148 : Try.f148.results.toList = [.cell 4 43, .tmp 5] := rfl
attribute [go_sem] Try.ntmps148
@[go_sem] theorem Try.res149 : Try.f149.results.toList = [.tmp 4] := rfl
attribute [go_sem] Try.ntmps149
@[go_sem] theorem Try.res150 : Try.f150.results.toList = [.tmp 4] := rfl
attribute [go_sem] Try.ntmps150
@[go_sem] theorem Try.res151 : Try.f151.results.toList = [.tmp 4] := rfl
attribute [go_sem] Try.ntmps151
@[go_sem] theorem Try.res152 : Try.f152.results.toList = [.tmp 4] := rfl
attribute [go_sem] Try.ntmps152
@[go_sem] theorem Try.res153 : Try.f153.results.toList = [.cell 2 108] := rfl
attribute [go_sem] Try.ntmps153
@[go_sem] theorem Try.res154 : Try.f154.results.toList = [.tmp 4] := rfl
attribute [go_sem] Try.ntmps154
@[go_sem] theorem Try.res155 : Try.f155.results.toList = [.tmp 2] := rfl
attribute [go_sem] Try.ntmps155
@[go_sem] theorem Try.res156 : Try.f156.results.toList = [.tmp 2] := rfl
attribute [go_sem] Try.ntmps156
@[go_sem] theorem Try.res157 : Try.f157.results.toList = [.tmp 4] := rfl
attribute [go_sem] Try.ntmps157
@[go_sem] theorem Try.res158 : Try.f158.results.toList = [.tmp 4] := rfl
attribute [go_sem] Try.ntmps158
@[go_sem] theorem Try.res159 : Try.f159.results.toList = [.tmp 4] := rfl
attribute [go_sem] Try.ntmps159
@[go_sem] theorem Try.res160 : Try.f160.results.toList = [.tmp 2] := rfl
attribute [go_sem] Try.ntmps160
@[go_sem] theorem Try.res161 : Try.f161.results.toList = [.tmp 4, .tmp 5] := rfl
attribute [go_sem] Try.ntmps161
@[go_sem] theorem Try.res162 : Try.f162.results.toList = [.tmp 2] := rfl
attribute [go_sem] Try.ntmps162
@[go_sem] theorem Try.res163 : Try.f163.results.toList = [.tmp 2] := rfl
attribute [go_sem] Try.ntmps163
@[go_sem] theorem Try.res164 : Try.f164.results.toList = [.cell 4 26] := rfl
attribute [go_sem] Try.ntmps164
@[go_sem] theorem Try.res165 : Try.f165.results.toList = [.cell 4 26] := rfl
attribute [go_sem] Try.ntmps165
@[go_sem] theorem Try.res166 : Try.f166.results.toList = [.tmp 4] := rfl
attribute [go_sem] Try.ntmps166
@[go_sem] theorem Try.res167 : Try.f167.results.toList = [.tmp 2] := rfl
attribute [go_sem] Try.ntmps167
@[go_sem] theorem Try.res168 : Try.f168.results.toList = [.tmp 4] := rfl
attribute [go_sem] Try.ntmps168
@[go_sem] theorem Try.res169 : Try.f169.results.toList = [.tmp 2] := rfl
attribute [go_sem] Try.ntmps169
end Go.Proofs
end

section
/- Natural numbers by digits: values, the right digits of a number. No program in it. -/
set_option linter.unusedVariables false
set_option linter.unusedSimpArgs false
namespace Go.Pv
theorem revInd {α : Type} {P : List α → Prop} (nil : P []) (snoc : ∀ l x, P l → P (l ++ [x])) (l : List α) : P l := by
  have : ∀ r : List α, P r.reverse := fun r => by
    induction r with
    | nil => exact nil
    | cons x r ih => rw [List.reverse_cons]; exact snoc _ _ ih
  have h := this l.reverse
  rwa [List.reverse_reverse] at h
/-- The value of digits, the lowest first. -/
def val (B : Nat) : List Nat → Nat
  | [] => 0
  | x :: l => x + B * val B l
/-- The right digits of a number. -/
def digs (B : Nat) (n : Nat) : List Nat := if h : n = 0 ∨ B < 2 then [] else n % B :: digs B (n / B)
termination_by n
decreasing_by exact Nat.div_lt_self (by omega) (by omega)
theorem digs_zero (B : Nat) : digs B 0 = [] := by rw [digs, dif_pos (.inl rfl)]
theorem digs_pos {B n : Nat} (hB : 2 ≤ B) (h : n ≠ 0) : digs B n = n % B :: digs B (n / B) := by rw [digs, dif_neg (by omega)]
theorem val_digs {B : Nat} (hB : 2 ≤ B) (n : Nat) : val B (digs B n) = n := by
  induction n using Nat.strongRecOn with
  | _ n ih =>
    by_cases h : n = 0
    · subst h; simp [digs_zero, val]
    · rw [digs_pos hB h, val, ih _ (Nat.div_lt_self (by omega) (by omega))]
      exact Nat.mod_add_div n B
theorem digs_lt {B : Nat} (hB : 2 ≤ B) (n : Nat) : ∀ x ∈ digs B n, x < B := by
  induction n using Nat.strongRecOn with
  | _ n ih =>
    by_cases h : n = 0
    · subst h; simp [digs_zero]
    · rw [digs_pos hB h]
      intro x hx
      rcases List.mem_cons.1 hx with rfl | hx
      · exact Nat.mod_lt _ (by omega)
      · exact ih _ (Nat.div_lt_self (by omega) (by omega)) x hx
/-- Without noughts at the end. -/
def trimN (l : List Nat) : List Nat := (l.reverse.dropWhile (· == 0)).reverse
theorem trimN_snoc (l : List Nat) (x : Nat) : trimN (l ++ [x]) = if x = 0 then trimN l else l ++ [x] := by
  unfold trimN
  rw [List.reverse_append]
  simp only [List.reverse_cons, List.reverse_nil, List.nil_append, List.singleton_append, List.dropWhile_cons]
  by_cases h : x = 0 <;> simp [h]
theorem trimN_nil : trimN [] = [] := rfl
theorem val_append (B : Nat) (l m : List Nat) : val B (l ++ m) = val B l + B ^ l.length * val B m := by
  induction l with
  | nil => simp [val]
  | cons x l ih =>
    simp only [List.cons_append, val, ih, List.length_cons, Nat.pow_succ, Nat.mul_add]
    rw [Nat.mul_comm (B ^ l.length) B, Nat.mul_assoc]; omega
theorem val_lt {B : Nat} (hB : 0 < B) : ∀ l : List Nat, (∀ x ∈ l, x < B) → val B l < B ^ l.length
  | [], _ => by simp [val]
  | x :: l, h => by
    have h1 := val_lt hB l fun y hy => h y (List.mem_cons_of_mem _ hy)
    have h2 := h x (List.mem_cons_self)
    simp only [val, List.length_cons, Nat.pow_succ]
    have : B * (val B l + 1) ≤ B * B ^ l.length := Nat.mul_le_mul_left _ h1
    rw [Nat.mul_comm (B ^ l.length) B]
    rw [Nat.mul_add] at this; omega
theorem trimN_cons (x : Nat) (l : List Nat) : trimN (x :: l) = if trimN l = [] then (if x = 0 then [] else [x]) else x :: trimN l := by
  induction l using revInd with
  | nil =>
    have := trimN_snoc [] x
    simpa [trimN_nil] using this
  | snoc l y ih =>
    have e : x :: (l ++ [y]) = (x :: l) ++ [y] := rfl
    rw [e, trimN_snoc, trimN_snoc]
    by_cases h : y = 0
    · simp [h, ih]
    · simp [h]
theorem digs_val {B : Nat} (hB : 2 ≤ B) : ∀ l : List Nat, (∀ x ∈ l, x < B) → digs B (val B l) = trimN l
  | [], _ => by simp [val, digs_zero, trimN_nil]
  | x :: l, h => by
    have ih := digs_val hB l fun y hy => h y (List.mem_cons_of_mem _ hy)
    have h2 := h x (List.mem_cons_self)
    rw [trimN_cons, ← ih, val]
    by_cases hv : val B l = 0
    · rw [hv, digs_zero]
      simp only [Nat.mul_zero, Nat.add_zero, if_true]
      by_cases hx : x = 0
      · rw [if_pos hx, hx, digs_zero]
      · rw [if_neg hx, digs_pos hB hx, Nat.mod_eq_of_lt h2, Nat.div_eq_of_lt h2, digs_zero]
    · have hne : x + B * val B l ≠ 0 := by
        have : 0 < B * val B l := Nat.mul_pos (by omega) (by omega)
        omega
      rw [digs_pos hB hne, if_neg (by rw [digs_pos hB hv]; simp), Nat.add_mul_mod_self_left, Nat.mod_eq_of_lt h2, Nat.add_mul_div_left _ _ (by omega), Nat.div_eq_of_lt h2, Nat.zero_add]
theorem digs_length_le {B : Nat} (hB : 2 ≤ B) (k : Nat) : ∀ n, n < B ^ k → (digs B n).length ≤ k := by
  induction k with
  | zero => intro n h; have : n = 0 := by simpa using h
            subst this; simp [digs_zero]
  | succ k ih =>
    intro n h
    by_cases h0 : n = 0
    · subst h0; simp [digs_zero]
    · rw [digs_pos hB h0, List.length_cons]
      have := ih (n / B) (by rw [Nat.div_lt_iff_lt_mul (by omega)]; rw [Nat.pow_succ] at h; exact h)
      omega
theorem digs_length_gt {B : Nat} (hB : 2 ≤ B) (k : Nat) : ∀ n, B ^ k ≤ n → k < (digs B n).length := by
  induction k with
  | zero => intro n h; rw [digs_pos hB (by simp at h; omega)]; simp
  | succ k ih =>
    intro n h
    have hp : 0 < B ^ (k+1) := Nat.pow_pos (by omega)
    rw [digs_pos hB (by omega), List.length_cons]
    have := ih (n / B) (by rw [Nat.le_div_iff_mul_le (by omega)]; rw [Nat.pow_succ] at h; exact h)
    omega
theorem digs_inj {B n m : Nat} (hB : 2 ≤ B) (h : digs B n = digs B m) : n = m := by
  rw [← val_digs hB n, ← val_digs hB m, h]

/-! Words of 64 bits, digits of 32. -/
def nW (l : List UInt64) : List Nat := l.map UInt64.toNat
def valW (l : List UInt64) : Nat := val 18446744073709551616 (nW l)
def wordsOf (n : Nat) : List UInt64 := (digs 18446744073709551616 n).map UInt64.ofNat
def nD (l : List UInt32) : List Nat := l.map UInt32.toNat
def valD (l : List UInt32) : Nat := val 4294967296 (nD l)
def digitsOf (n : Nat) : List UInt32 := (digs 4294967296 n).map UInt32.ofNat
/-- Without noughts at the end. -/
def cutW (l : List UInt64) : List UInt64 := (l.reverse.dropWhile (· == 0)).reverse
def cutD (l : List UInt32) : List UInt32 := (l.reverse.dropWhile (· == 0)).reverse
theorem nW_lt (l : List UInt64) : ∀ x ∈ nW l, x < 18446744073709551616 := by
  intro x hx
  obtain ⟨c, _, rfl⟩ := List.mem_map.1 hx
  exact UInt64.toNat_lt c
theorem nD_lt (l : List UInt32) : ∀ x ∈ nD l, x < 4294967296 := by
  intro x hx
  obtain ⟨c, _, rfl⟩ := List.mem_map.1 hx
  exact UInt32.toNat_lt c
theorem cutW_snoc (l : List UInt64) (x : UInt64) : cutW (l ++ [x]) = if x = 0 then cutW l else l ++ [x] := by
  unfold cutW
  rw [List.reverse_append]
  simp only [List.reverse_cons, List.reverse_nil, List.nil_append, List.singleton_append, List.dropWhile_cons]
  by_cases h : x = 0 <;> simp [h]
theorem cutD_snoc (l : List UInt32) (x : UInt32) : cutD (l ++ [x]) = if x = 0 then cutD l else l ++ [x] := by
  unfold cutD
  rw [List.reverse_append]
  simp only [List.reverse_cons, List.reverse_nil, List.nil_append, List.singleton_append, List.dropWhile_cons]
  by_cases h : x = 0 <;> simp [h]
theorem u64_zero (x : UInt64) : x = 0 ↔ x.toNat = 0 := ⟨fun h => by rw [h]; rfl, fun h => UInt64.toNat.inj h⟩
theorem u32_zero (x : UInt32) : x = 0 ↔ x.toNat = 0 := ⟨fun h => by rw [h]; rfl, fun h => UInt32.toNat.inj h⟩
theorem nW_cut (l : List UInt64) : nW (cutW l) = trimN (nW l) := by
  induction l using revInd with
  | nil => rfl
  | snoc l x ih =>
    rw [cutW_snoc]
    have e : nW (l ++ [x]) = nW l ++ [x.toNat] := by simp [nW]
    rw [e, trimN_snoc]
    by_cases h : x = 0
    · rw [if_pos h, if_pos ((u64_zero x).1 h), ih]
    · rw [if_neg h, if_neg (fun e => h ((u64_zero x).2 e)), e]
theorem nD_cut (l : List UInt32) : nD (cutD l) = trimN (nD l) := by
  induction l using revInd with
  | nil => rfl
  | snoc l x ih =>
    rw [cutD_snoc]
    have e : nD (l ++ [x]) = nD l ++ [x.toNat] := by simp [nD]
    rw [e, trimN_snoc]
    by_cases h : x = 0
    · rw [if_pos h, if_pos ((u32_zero x).1 h), ih]
    · rw [if_neg h, if_neg (fun e => h ((u32_zero x).2 e)), e]
theorem ofNat_nW (l : List UInt64) : (nW l).map UInt64.ofNat = l := by
  simp only [nW, List.map_map]
  conv => rhs; rw [← List.map_id l]
  exact List.map_congr_left fun a _ => by simp
theorem ofNat_nD (l : List UInt32) : (nD l).map UInt32.ofNat = l := by
  simp only [nD, List.map_map]
  conv => rhs; rw [← List.map_id l]
  exact List.map_congr_left fun a _ => by simp
theorem wordsOf_valW (l : List UInt64) : wordsOf (valW l) = cutW l := by
  rw [wordsOf, valW, digs_val (by decide) _ (nW_lt l), ← nW_cut, ofNat_nW]
theorem digitsOf_valD (l : List UInt32) : digitsOf (valD l) = cutD l := by
  rw [digitsOf, valD, digs_val (by decide) _ (nD_lt l), ← nD_cut, ofNat_nD]
theorem nW_wordsOf (n : Nat) : nW (wordsOf n) = digs 18446744073709551616 n := by
  simp only [nW, wordsOf, List.map_map]
  conv => rhs; rw [← List.map_id (digs _ n)]
  exact List.map_congr_left fun a ha => by
    have := digs_lt (B := 18446744073709551616) (by decide) n a ha
    simp only [Function.comp, id]
    rw [UInt64.toNat_ofNat']; omega
theorem nD_digitsOf (n : Nat) : nD (digitsOf n) = digs 4294967296 n := by
  simp only [nD, digitsOf, List.map_map]
  conv => rhs; rw [← List.map_id (digs _ n)]
  exact List.map_congr_left fun a ha => by
    have := digs_lt (B := 4294967296) (by decide) n a ha
    simp only [Function.comp, id]
    rw [UInt32.toNat_ofNat']; omega
theorem valW_wordsOf (n : Nat) : valW (wordsOf n) = n := by rw [valW, nW_wordsOf, val_digs (by decide)]
theorem valD_digitsOf (n : Nat) : valD (digitsOf n) = n := by rw [valD, nD_digitsOf, val_digs (by decide)]
theorem valW_cut (l : List UInt64) : valW (cutW l) = valW l := by
  rw [← wordsOf_valW, valW_wordsOf]
theorem valD_cut (l : List UInt32) : valD (cutD l) = valD l := by
  rw [← digitsOf_valD, valD_digitsOf]
theorem cutW_wordsOf (n : Nat) : cutW (wordsOf n) = wordsOf n := by rw [← wordsOf_valW, valW_wordsOf]
theorem cutD_digitsOf (n : Nat) : cutD (digitsOf n) = digitsOf n := by rw [← digitsOf_valD, valD_digitsOf]
theorem valW_nil : valW [] = 0 := rfl
theorem valD_nil : valD [] = 0 := rfl
theorem wordsOf_zero : wordsOf 0 = [] := by simp [wordsOf, digs_zero]
theorem digitsOf_zero : digitsOf 0 = [] := by simp [digitsOf, digs_zero]
theorem wordsOf_nil {n : Nat} : wordsOf n = [] ↔ n = 0 := ⟨fun h => by rw [← valW_wordsOf n, h, valW_nil], fun h => by rw [h, wordsOf_zero]⟩
theorem digitsOf_nil {n : Nat} : digitsOf n = [] ↔ n = 0 := ⟨fun h => by rw [← valD_digitsOf n, h, valD_nil], fun h => by rw [h, digitsOf_zero]⟩
theorem wordsOf_inj {n m : Nat} (h : wordsOf n = wordsOf m) : n = m := by rw [← valW_wordsOf n, h, valW_wordsOf]
theorem digitsOf_inj {n m : Nat} (h : digitsOf n = digitsOf m) : n = m := by rw [← valD_digitsOf n, h, valD_digitsOf]
theorem valW_append (l m : List UInt64) : valW (l ++ m) = valW l + 18446744073709551616 ^ l.length * valW m := by
  have e : nW (l ++ m) = nW l ++ nW m := by simp [nW]
  rw [valW, e, val_append]; simp [valW, nW]
theorem valD_append (l m : List UInt32) : valD (l ++ m) = valD l + 4294967296 ^ l.length * valD m := by
  have e : nD (l ++ m) = nD l ++ nD m := by simp [nD]
  rw [valD, e, val_append]; simp [valD, nD]
theorem valW_lt (l : List UInt64) : valW l < 18446744073709551616 ^ l.length := by
  have := val_lt (B := 18446744073709551616) (by decide) _ (nW_lt l)
  simpa [valW, nW] using this
theorem valD_lt (l : List UInt32) : valD l < 4294967296 ^ l.length := by
  have := val_lt (B := 4294967296) (by decide) _ (nD_lt l)
  simpa [valD, nD] using this
theorem cutW_le (l : List UInt64) : (cutW l).length ≤ l.length := by
  unfold cutW
  rw [List.length_reverse]
  have := (List.dropWhile_sublist (· == (0 : UInt64)) (l := l.reverse)).length_le
  simpa using this
theorem cutD_le (l : List UInt32) : (cutD l).length ≤ l.length := by
  unfold cutD
  rw [List.length_reverse]
  have := (List.dropWhile_sublist (· == (0 : UInt32)) (l := l.reverse)).length_le
  simpa using this
theorem cutW_full (l : List UInt64) (h : l ≠ []) : (cutW l).length = l.length ↔ l.getD (l.length - 1) 0 ≠ 0 := by
  obtain ⟨i, x, rfl⟩ : ∃ i x, l = i ++ [x] := ⟨l.dropLast, l.getLast h, (List.dropLast_concat_getLast h).symm⟩
  rw [cutW_snoc]
  have e : (i ++ [x]).getD ((i ++ [x]).length - 1) 0 = x := by simp [List.getD_eq_getElem?_getD]
  rw [e]
  have := cutW_le i
  by_cases hx : x = 0
  · simp [hx]; omega
  · simp [hx]
theorem cutW_last (l : List UInt64) (h : cutW l ≠ []) : (cutW l).getD ((cutW l).length - 1) 0 ≠ 0 := by
  rw [← cutW_full _ h]
  congr 1
  rw [← wordsOf_valW l, cutW_wordsOf]
theorem dropWhile_take {α : Type} (p : α → Bool) (l : List α) (n : Nat) (d : α) (hn : n ≤ l.length) (hz : ∀ j, n ≤ j → j < l.length → p (l.getD j d) = true) (hl : n = 0 ∨ p (l.getD (n - 1) d) = false) : (l.reverse.dropWhile p).reverse = l.take n := by
  have e : l = l.take n ++ l.drop n := (List.take_append_drop n l).symm
  have hd : ∀ x ∈ (l.drop n).reverse, p x = true := fun x hx => by
    rw [List.mem_reverse] at hx
    obtain ⟨j, hj, rfl⟩ := List.mem_iff_getElem.1 hx
    rw [List.length_drop] at hj
    have := hz (n + j) (by omega) (by omega)
    rw [List.getD_eq_getElem?_getD, List.getElem?_eq_getElem (by omega)] at this
    simp only [Option.getD_some] at this
    rw [List.getElem_drop, this]
  conv => lhs; rw [e]
  rw [List.reverse_append, List.dropWhile_append_of_pos hd]
  rcases hl with rfl | hl
  · simp
  · by_cases h0 : n = 0
    · subst h0; simp
    · have hne : l.take n = l.take (n - 1) ++ [l.getD (n - 1) d] := by
        have h1 : n - 1 < l.length := by omega
        have := List.take_succ_eq_append_getElem h1
        rw [show n - 1 + 1 = n from by omega] at this
        rw [this, List.getD_eq_getElem?_getD, List.getElem?_eq_getElem h1]; rfl
      rw [hne, List.reverse_append]
      simp only [List.reverse_cons, List.reverse_nil, List.nil_append, List.singleton_append]
      rw [List.dropWhile_cons_of_neg (by simpa using hl)]
      simp
theorem cutW_eq (l : List UInt64) (n : Nat) (hn : n ≤ l.length) (hz : ∀ j, n ≤ j → j < l.length → l.getD j 0 = 0) (hl : n = 0 ∨ l.getD (n - 1) 0 ≠ 0) : cutW l = l.take n :=
  dropWhile_take _ l n 0 hn (fun j h1 h2 => by simpa using hz j h1 h2) (hl.imp id fun h => by simpa using h)
theorem cutD_eq (l : List UInt32) (n : Nat) (hn : n ≤ l.length) (hz : ∀ j, n ≤ j → j < l.length → l.getD j 0 = 0) (hl : n = 0 ∨ l.getD (n - 1) 0 ≠ 0) : cutD l = l.take n :=
  dropWhile_take _ l n 0 hn (fun j h1 h2 => by simpa using hz j h1 h2) (hl.imp id fun h => by simpa using h)

/-- How many binary digits. -/
def bitlen (n : Nat) : Nat := if n = 0 then 0 else Nat.log2 n + 1
theorem lt_pow_bitlen (n : Nat) : n < 2 ^ bitlen n := by
  unfold bitlen
  split
  · rename_i h; subst h; decide
  · exact Nat.lt_log2_self
theorem pow_le_of_bitlen {n : Nat} (h : n ≠ 0) : 2 ^ (bitlen n - 1) ≤ n := by
  unfold bitlen
  rw [if_neg h]
  exact Nat.log2_self_le h
theorem bitlen_le_iff {n k : Nat} : bitlen n ≤ k ↔ n < 2 ^ k := by
  constructor
  · intro h
    exact Nat.lt_of_lt_of_le (lt_pow_bitlen n) (Nat.pow_le_pow_right (by decide) h)
  · intro h
    by_cases h0 : n = 0
    · subst h0; simp [bitlen]
    · apply Nat.le_of_not_lt; intro hk
      have h1 := pow_le_of_bitlen h0
      have h2 : 2 ^ k ≤ 2 ^ (bitlen n - 1) := Nat.pow_le_pow_right (by decide) (by omega)
      omega
theorem bitlen_eq {n k : Nat} (h1 : 2 ^ k ≤ n) (h2 : n < 2 ^ (k + 1)) : bitlen n = k + 1 := by
  have a := bitlen_le_iff.2 h2
  have b : ¬ bitlen n ≤ k := fun h => by have := bitlen_le_iff.1 h; omega
  omega
theorem bitlen_zero : bitlen 0 = 0 := rfl
theorem bitlen_pos {n : Nat} (h : n ≠ 0) : 0 < bitlen n := by unfold bitlen; rw [if_neg h]; omega
theorem bitlen_mul_pow (n k : Nat) (h : n ≠ 0) : bitlen (n * 2 ^ k) = bitlen n + k := by
  have h1 := pow_le_of_bitlen h
  have h2 := lt_pow_bitlen n
  have h3 := bitlen_pos h
  have e : bitlen n + k = (bitlen n - 1 + k) + 1 := by omega
  rw [e]
  apply bitlen_eq
  · rw [Nat.pow_add]; exact Nat.mul_le_mul_right _ h1
  · rw [show bitlen n - 1 + k + 1 = bitlen n + k from by omega, Nat.pow_add]
    exact Nat.mul_lt_mul_of_pos_right h2 (Nat.pow_pos (by decide))
theorem bitlen_shift (v k : Nat) (h : v / 2 ^ k ≠ 0) : bitlen v = bitlen (v / 2 ^ k) + k := by
  have h1 := pow_le_of_bitlen h
  have h2 := lt_pow_bitlen (v / 2 ^ k)
  have h3 := bitlen_pos h
  have e : bitlen (v / 2 ^ k) + k = (bitlen (v / 2 ^ k) - 1 + k) + 1 := by omega
  rw [e]
  apply bitlen_eq
  · rw [Nat.pow_add]
    exact Nat.le_trans (Nat.mul_le_mul_right _ h1) (Nat.div_mul_le_self v (2 ^ k))
  · rw [show bitlen (v / 2 ^ k) - 1 + k + 1 = bitlen (v / 2 ^ k) + k from by omega, Nat.pow_add]
    exact (Nat.div_lt_iff_lt_mul (Nat.pow_pos (by decide))).1 h2
theorem bitlen_le (n : Nat) (h : n < 18446744073709551616) : bitlen n ≤ 64 := bitlen_le_iff.2 h
theorem bitlen_le_32 (n : Nat) (h : n < 4294967296) : bitlen n ≤ 32 := bitlen_le_iff.2 h
/-- A number by its highest digit. -/
theorem bitlen_top (a x k : Nat) (ha : a < 2 ^ k) (hx : x ≠ 0) : bitlen (a + 2 ^ k * x) = k + bitlen x := by
  have hp : 0 < 2 ^ k := Nat.pow_pos (by decide)
  have e : (a + 2 ^ k * x) / 2 ^ k = x := by
    rw [Nat.add_mul_div_left _ _ hp, Nat.div_eq_of_lt ha, Nat.zero_add]
  rw [bitlen_shift _ k (by rw [e]; exact hx), e, Nat.add_comm]
end Go.Pv
end

section
/- Natural numbers by digits: order, digits put in place. No program in it. -/
set_option linter.unusedVariables false
set_option linter.unusedSimpArgs false
namespace Go.Pv
def cmpI (a b : Int) : Int := if a < b then -1 else if a > b then 1 else 0
def cmpW (a b : Nat) : Int := cmpI (a : Int) (b : Int)
theorem cmpI_lt {a b : Int} (h : a < b) : cmpI a b = -1 := by rw [cmpI, if_pos h]
theorem cmpI_gt {a b : Int} (h : b < a) : cmpI a b = 1 := by rw [cmpI, if_neg (by omega), if_pos h]
theorem cmpI_eq {a b : Int} (h : a = b) : cmpI a b = 0 := by rw [cmpI, if_neg (by omega), if_neg (by omega)]
theorem cmpI_eq_zero {a b : Int} : cmpI a b = 0 ↔ a = b := by
  unfold cmpI; split
  · constructor <;> intro h <;> first | omega | cases h
  · split
    · constructor <;> intro h <;> first | omega | cases h
    · constructor <;> intro h <;> first | omega | rfl
theorem cmpI_neg {a b : Int} : cmpI a b < 0 ↔ a < b := by
  unfold cmpI; split
  · constructor <;> intro h <;> first | omega | decide
  · split
    · constructor <;> intro h <;> omega
    · constructor <;> intro h <;> omega
theorem cmpI_pos {a b : Int} : 0 < cmpI a b ↔ b < a := by
  unfold cmpI; split
  · constructor <;> intro h <;> omega
  · split
    · constructor <;> intro h <;> omega
    · constructor <;> intro h <;> omega
theorem cmpI_swap (a b : Int) : cmpI b a = - cmpI a b := by
  unfold cmpI
  by_cases h1 : a < b
  · rw [if_pos h1, if_neg (by omega), if_pos (by omega)]; rfl
  · by_cases h2 : b < a
    · rw [if_pos h2, if_neg h1, if_pos (by omega)]
    · rw [if_neg h2, if_neg (by omega), if_neg h1, if_neg (by omega)]; rfl
theorem cmpI_neg_neg (a b : Int) : cmpI (-a) (-b) = - cmpI a b := by
  rw [← cmpI_swap]; unfold cmpI
  by_cases h1 : b < a
  · rw [if_pos h1, if_pos (by omega)]
  · rw [if_neg h1, if_neg (by omega)]
    by_cases h2 : b > a
    · rw [if_pos h2, if_pos (by omega)]
    · rw [if_neg h2, if_neg (by omega)]
theorem cmpI_mul {a b k : Int} (h : 0 < k) : cmpI (a * k) (b * k) = cmpI a b := by
  unfold cmpI
  have e1 : a * k < b * k ↔ a < b := Int.mul_lt_mul_right h
  have e2 : b * k < a * k ↔ b < a := Int.mul_lt_mul_right h
  simp only [e1, gt_iff_lt, e2]

theorem digs_mono {B n m : Nat} (hB : 2 ≤ B) (h : n ≤ m) : (digs B n).length ≤ (digs B m).length := by
  apply digs_length_le hB
  have h2 := val_lt (B := B) (by omega) _ (digs_lt hB m)
  rw [val_digs hB] at h2
  omega
/-- The highest digits that are unlike decide. -/
theorem val_lt_at {B : Nat} : ∀ (l m : List Nat) (i : Nat), (∀ x ∈ l, x < B) → l.length = m.length → i < l.length →
    (∀ j, i < j → j < l.length → l.getD j 0 = m.getD j 0) → l.getD i 0 < m.getD i 0 → val B l < val B m
  | [], _, _, _, _, h, _, _ => by simp at h
  | x :: l, [], _, _, h, _, _, _ => by simp at h
  | x :: l, y :: m, 0, hl, hlen, _, heq, hlt => by
    have e : l = m := List.ext_getElem (by simpa using hlen) fun j h1 h2 => by
      have := heq (j + 1) (by omega) (by simp; omega)
      simpa [List.getD_eq_getElem?_getD, h1, h2] using this
    subst e
    simp only [val]
    have : x < y := by simpa using hlt
    omega
  | x :: l, y :: m, i + 1, hl, hlen, hi, heq, hlt => by
    have ih := val_lt_at l m i (fun z hz => hl z (List.mem_cons_of_mem _ hz)) (by simpa using hlen) (by simpa using hi)
      (fun j h1 h2 => by have := heq (j + 1) (by omega) (by simp; omega); simpa using this) (by simpa using hlt)
    have hx := hl x List.mem_cons_self
    simp only [val]
    have : B * (val B l + 1) ≤ B * val B m := Nat.mul_le_mul_left _ ih
    rw [Nat.mul_add] at this
    omega
theorem val_set (B : Nat) : ∀ (l : List Nat) (i x : Nat), i < l.length → val B (l.set i x) + B ^ i * l.getD i 0 = val B l + B ^ i * x
  | [], i, x, h => by simp at h
  | y :: l, 0, x, h => by simp [val]; omega
  | y :: l, i + 1, x, h => by
    have ih := val_set B l i x (by simpa using h)
    simp only [List.set_cons_succ, val, List.getD_cons_succ, Nat.pow_succ]
    have : B * (val B (l.set i x) + B ^ i * l.getD i 0) = B * (val B l + B ^ i * x) := by rw [ih]
    rw [Nat.mul_add, Nat.mul_add] at this
    rw [Nat.mul_comm (B ^ i) B, Nat.mul_assoc, Nat.mul_assoc]
    omega
theorem val_replicate_zero (B n : Nat) : val B (List.replicate n 0) = 0 := by
  induction n with
  | zero => rfl
  | succ n ih => rw [List.replicate_succ, val, ih]; simp
theorem nW_getD (l : List UInt64) (i : Nat) : (nW l).getD i 0 = (l.getD i 0).toNat := by
  simp only [nW, List.getD_eq_getElem?_getD, List.getElem?_map]
  cases l[i]? <;> rfl
theorem nD_getD (l : List UInt32) (i : Nat) : (nD l).getD i 0 = (l.getD i 0).toNat := by
  simp only [nD, List.getD_eq_getElem?_getD, List.getElem?_map]
  cases l[i]? <;> rfl
theorem valW_set (l : List UInt64) (i : Nat) (c : UInt64) (h : i < l.length) : valW (l.set i c) + 18446744073709551616 ^ i * (l.getD i 0).toNat = valW l + 18446744073709551616 ^ i * c.toNat := by
  have := val_set 18446744073709551616 (nW l) i c.toNat (by simpa [nW] using h)
  rw [nW_getD] at this
  have e : (nW l).set i c.toNat = nW (l.set i c) := by simp [nW, List.map_set]
  rw [e] at this
  exact this
theorem valD_set (l : List UInt32) (i : Nat) (c : UInt32) (h : i < l.length) : valD (l.set i c) + 4294967296 ^ i * (l.getD i 0).toNat = valD l + 4294967296 ^ i * c.toNat := by
  have := val_set 4294967296 (nD l) i c.toNat (by simpa [nD] using h)
  rw [nD_getD] at this
  have e : (nD l).set i c.toNat = nD (l.set i c) := by simp [nD, List.map_set]
  rw [e] at this
  exact this
theorem valW_zeros (n : Nat) : valW (List.replicate n 0) = 0 := by
  have : nW (List.replicate n 0) = List.replicate n 0 := by simp [nW]
  rw [valW, this, val_replicate_zero]
theorem valD_zeros (n : Nat) : valD (List.replicate n 0) = 0 := by
  have : nD (List.replicate n 0) = List.replicate n 0 := by simp [nD]
  rw [valD, this, val_replicate_zero]
theorem valW_snoc (l : List UInt64) (c : UInt64) : valW (l ++ [c]) = valW l + 18446744073709551616 ^ l.length * c.toNat := by
  rw [valW_append]; simp [valW, nW, val]
theorem valD_snoc (l : List UInt32) (c : UInt32) : valD (l ++ [c]) = valD l + 4294967296 ^ l.length * c.toNat := by
  rw [valD_append]; simp [valD, nD, val]
theorem take_snoc {α : Type} (l : List α) (i : Nat) (d : α) (h : i < l.length) : l.take (i + 1) = l.take i ++ [l.getD i d] := by
  rw [List.take_succ_eq_append_getElem h, List.getD_eq_getElem?_getD, List.getElem?_eq_getElem h]; rfl
theorem valW_take_succ (l : List UInt64) (i : Nat) (h : i < l.length) : valW (l.take (i + 1)) = valW (l.take i) + 18446744073709551616 ^ i * (l.getD i 0).toNat := by
  rw [take_snoc l i 0 h, valW_snoc, List.length_take, Nat.min_eq_left (by omega)]
theorem valD_take_succ (l : List UInt32) (i : Nat) (h : i < l.length) : valD (l.take (i + 1)) = valD (l.take i) + 4294967296 ^ i * (l.getD i 0).toNat := by
  rw [take_snoc l i 0 h, valD_snoc, List.length_take, Nat.min_eq_left (by omega)]
theorem wordsOf_length_le {n k : Nat} (h : n < 18446744073709551616 ^ k) : (wordsOf n).length ≤ k := by
  simp only [wordsOf, List.length_map]; exact digs_length_le (by decide) k n h
theorem digitsOf_length_le {n k : Nat} (h : n < 4294967296 ^ k) : (digitsOf n).length ≤ k := by
  simp only [digitsOf, List.length_map]; exact digs_length_le (by decide) k n h
theorem lt_wordsOf_length (n : Nat) : n < 18446744073709551616 ^ (wordsOf n).length := by
  have := valW_lt (wordsOf n); rwa [valW_wordsOf] at this
theorem lt_digitsOf_length (n : Nat) : n < 4294967296 ^ (digitsOf n).length := by
  have := valD_lt (digitsOf n); rwa [valD_digitsOf] at this
theorem wordsOf_mono {n m : Nat} (h : n ≤ m) : (wordsOf n).length ≤ (wordsOf m).length := by
  simp only [wordsOf, List.length_map]; exact digs_mono (by decide) h
theorem digitsOf_mono {n m : Nat} (h : n ≤ m) : (digitsOf n).length ≤ (digitsOf m).length := by
  simp only [digitsOf, List.length_map]; exact digs_mono (by decide) h
/-- Two right lists of unlike length. -/
theorem cmpW_length {a b : List UInt64} (ha : cutW a = a) (hb : cutW b = b) (h : a.length ≠ b.length) : cmpI a.length b.length = cmpW (valW a) (valW b) := by
  rw [← wordsOf_valW] at ha hb
  have m1 : valW a ≤ valW b → a.length ≤ b.length := fun h => by have := wordsOf_mono h; rwa [ha, hb] at this
  have m2 : valW b ≤ valW a → b.length ≤ a.length := fun h => by have := wordsOf_mono h; rwa [ha, hb] at this
  by_cases hl : a.length < b.length
  · rw [cmpI_lt (by omega), cmpW, cmpI_lt]
    have : ¬ valW b ≤ valW a := fun h => by have := m2 h; omega
    omega
  · rw [cmpI_gt (by omega), cmpW, cmpI_gt]
    have : ¬ valW a ≤ valW b := fun h => by have := m1 h; omega
    omega
theorem cmpD_length {a b : Nat} (h : (digitsOf a).length ≠ (digitsOf b).length) : cmpI (digitsOf a).length (digitsOf b).length = cmpW a b := by
  have m1 : a ≤ b → (digitsOf a).length ≤ (digitsOf b).length := digitsOf_mono
  have m2 : b ≤ a → (digitsOf b).length ≤ (digitsOf a).length := digitsOf_mono
  by_cases hl : (digitsOf a).length < (digitsOf b).length
  · rw [cmpI_lt (by omega), cmpW, cmpI_lt]
    have : ¬ b ≤ a := fun h => by have := m2 h; omega
    omega
  · rw [cmpI_gt (by omega), cmpW, cmpI_gt]
    have : ¬ a ≤ b := fun h => by have := m1 h; omega
    omega
theorem cmpW_at {a b : List UInt64} (hl : a.length = b.length) (i : Nat) (hi : i < a.length) (heq : ∀ j, i < j → j < a.length → a.getD j 0 = b.getD j 0) (hne : a.getD i 0 ≠ b.getD i 0) :
    cmpI (a.getD i 0).toNat (b.getD i 0).toNat = cmpW (valW a) (valW b) := by
  have hn : (a.getD i 0).toNat ≠ (b.getD i 0).toNat := fun e => hne (UInt64.toNat.inj e)
  have la : (nW a).length = a.length := by simp [nW]
  have lb : (nW b).length = b.length := by simp [nW]
  by_cases h : (a.getD i 0).toNat < (b.getD i 0).toNat
  · have := val_lt_at (nW a) (nW b) i (nW_lt a) (by omega) (by omega) (fun j h1 h2 => by rw [nW_getD, nW_getD, heq j h1 (by omega)]) (by rw [nW_getD, nW_getD]; exact h)
    rw [cmpI_lt (by omega), cmpW, cmpI_lt]
    simp only [valW]; omega
  · have := val_lt_at (nW b) (nW a) i (nW_lt b) (by omega) (by omega) (fun j h1 h2 => by rw [nW_getD, nW_getD, heq j h1 (by omega)]) (by rw [nW_getD, nW_getD]; omega)
    rw [cmpI_gt (by omega), cmpW, cmpI_gt]
    simp only [valW]; omega
theorem valD_lt_at {a b : List UInt32} (hl : a.length = b.length) (i : Nat) (hi : i < a.length) (heq : ∀ j, i < j → j < a.length → a.getD j 0 = b.getD j 0) (h : (a.getD i 0).toNat < (b.getD i 0).toNat) : valD a < valD b := by
  have la : (nD a).length = a.length := by simp [nD]
  have lb : (nD b).length = b.length := by simp [nD]
  exact val_lt_at (nD a) (nD b) i (nD_lt a) (by omega) (by omega) (fun j h1 h2 => by rw [nD_getD, nD_getD, heq j h1 (by omega)]) (by rw [nD_getD, nD_getD]; exact h)
theorem eq_of_getD {α : Type} {a b : List α} (d : α) (hl : a.length = b.length) (h : ∀ j, j < a.length → a.getD j d = b.getD j d) : a = b :=
  List.ext_getElem hl fun j h1 h2 => by
    have := h j h1
    simpa [List.getD_eq_getElem?_getD, h1, h2] using this
theorem getD_set {α : Type} (l : List α) (i j : Nat) (x d : α) : (l.set i x).getD j d = if i = j ∧ j < l.length then x else l.getD j d := by
  simp only [List.getD_eq_getElem?_getD, List.getElem?_set]
  by_cases h : i = j
  · subst h
    by_cases h2 : i < l.length
    · simp [h2]
    · simp [h2]
  · simp [h]
theorem getD_replicate {α : Type} (n j : Nat) (x : α) : (List.replicate n x).getD j x = x := by
  simp only [List.getD_eq_getElem?_getD, List.getElem?_replicate]
  split <;> rfl
/-! Tests on the machine's numbers. -/
theorem nbne_t {a b : Nat} (h : ((a : Int) != (b : Int)) = true) : a ≠ b := by
  intro e; subst e; simp at h
theorem nbne_f {a b : Nat} (h : ((a : Int) != (b : Int)) = false) : a = b := by
  have : (a : Int) = b := by simpa using h
  omega
theorem nbeq_t {a b : Nat} (h : ((a : Int) == (b : Int)) = true) : a = b := by
  have : (a : Int) = b := by simpa using h
  omega
theorem nbeq_f {a b : Nat} (h : ((a : Int) == (b : Int)) = false) : a ≠ b := by
  intro e; subst e; simp at h
theorem zbne_t {a b : Int} (h : (a != b) = true) : a ≠ b := by intro e; subst e; simp at h
theorem zbne_f {a b : Int} (h : (a != b) = false) : a = b := by simpa using h
theorem zbeq_t {a b : Int} (h : (a == b) = true) : a = b := by simpa using h
theorem zbeq_f {a b : Int} (h : (a == b) = false) : a ≠ b := by intro e; subst e; simp at h
end Go.Pv
end
