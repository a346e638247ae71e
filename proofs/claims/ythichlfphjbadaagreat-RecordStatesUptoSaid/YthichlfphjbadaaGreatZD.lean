/- Parts of the walk: PvTab, M1, M2. -/
import Derived.Test.YthichlfphjbadaaGreatZC
import Derived.Test.YthichlfphjbadaaGreatProg
import Derived.KernelRfl
set_option linter.unusedVariables false
set_option linter.unusedSimpArgs false
section
/-The facts on the types and functions of this translation that the layer asks for. Printed by gentab.py. -/
namespace Go.Proofs
open Go.Pv
@[go_sem] theorem Tryz.ti1 :ti Tryz.prog 1=some ⟨false,1,.other,some (.nilFunc)⟩:=by kernel_rfl
@[go_sem] theorem Tryz.ti2 :ti Tryz.prog 2=some ⟨false,1,.int .i64,some (.int .i64 0)⟩:=by kernel_rfl
@[go_sem] theorem Tryz.ti3 :ti Tryz.prog 3=some ⟨false,1,.int .i64,some (.int .i64 0)⟩:=by kernel_rfl
@[go_sem] theorem Tryz.ti4 :ti Tryz.prog 4=some ⟨false,1,.bool,some (.bool false)⟩:=by kernel_rfl
@[go_sem] theorem Tryz.ti5 :ti Tryz.prog 5=some ⟨false,1,.int .u8,some (.int .u8 0)⟩:=by kernel_rfl
@[go_sem] theorem Tryz.ti6 :ti Tryz.prog 6=some ⟨false,1,.int .u8,some (.int .u8 0)⟩:=by kernel_rfl
@[go_sem] theorem Tryz.ti7 :ti Tryz.prog 7=some ⟨true,4,.struct [(0,⟨2,1,8,false,true,false⟩),(1,⟨3,1,8,false,true,false⟩),(2,⟨4,1,1,false,true,false⟩),(3,⟨6,1,1,false,true,true⟩)],some (.agg #[.int .i64 0,.int .i64 0,.bool false,.int .u8 0])⟩:=by kernel_rfl
@[go_sem] theorem Tryz.ti8 :ti Tryz.prog 8=some ⟨true,4,.struct [(0,⟨2,1,8,false,true,false⟩),(1,⟨3,1,8,false,true,false⟩),(2,⟨4,1,1,false,true,false⟩),(3,⟨6,1,1,false,true,true⟩)],some (.agg #[.int .i64 0,.int .i64 0,.bool false,.int .u8 0])⟩:=by kernel_rfl
@[go_sem] theorem Tryz.ti9 :ti Tryz.prog 9=some ⟨false,1,.str,some (.string ByteArray.empty)⟩:=by kernel_rfl
@[go_sem] theorem Tryz.ti10 :ti Tryz.prog 10=some ⟨false,1,.str,some (.string ByteArray.empty)⟩:=by kernel_rfl
@[go_sem] theorem Tryz.ti11 :ti Tryz.prog 11=some ⟨false,1,.str,some (.string ByteArray.empty)⟩:=by kernel_rfl
@[go_sem] theorem Tryz.ti12 :ti Tryz.prog 12=some ⟨false,1,.int .u64,some (.int .u64 0)⟩:=by kernel_rfl
@[go_sem] theorem Tryz.ti13 :ti Tryz.prog 13=some ⟨true,2,.struct [(0,⟨9,1,16,false,true,false⟩),(1,⟨12,1,8,false,true,false⟩)],some (.agg #[.string ByteArray.empty,.int .u64 0])⟩:=by kernel_rfl
@[go_sem] theorem Tryz.ti14 :ti Tryz.prog 14=some ⟨true,2,.struct [(0,⟨9,1,16,false,true,false⟩),(1,⟨12,1,8,false,true,false⟩)],some (.agg #[.string ByteArray.empty,.int .u64 0])⟩:=by kernel_rfl
@[go_sem] theorem Tryz.ti15 :ti Tryz.prog 15=some ⟨false,1,.ptr,some (.pointer none)⟩:=by kernel_rfl
@[go_sem] theorem Tryz.ti16 :ti Tryz.prog 16=some ⟨false,1,.ptr,some (.pointer none)⟩:=by kernel_rfl
@[go_sem] theorem Tryz.ti17 :ti Tryz.prog 17=some ⟨false,1,.ptr,some (.pointer none)⟩:=by kernel_rfl
@[go_sem] theorem Tryz.ti18 :ti Tryz.prog 18=some ⟨true,1,.struct [(0,⟨17,1,8,false,true,false⟩)],some (.agg #[.pointer none])⟩:=by kernel_rfl
@[go_sem] theorem Tryz.ti19 :ti Tryz.prog 19=some ⟨true,1,.struct [(0,⟨17,1,8,false,true,false⟩)],some (.agg #[.pointer none])⟩:=by kernel_rfl
@[go_sem] theorem Tryz.ti21 :ti Tryz.prog 21=some ⟨false,1,.int .i32,some (.int .i32 0)⟩:=by kernel_rfl
@[go_sem] theorem Tryz.ti22 :ti Tryz.prog 22=some ⟨false,1,.slice ⟨67,1,8,false,true,false⟩,some (.slice none 0 0)⟩:=by kernel_rfl
@[go_sem] theorem Tryz.ti23 :ti Tryz.prog 23=some ⟨true,3,.struct [(0,⟨4,1,1,false,true,false⟩),(1,⟨2,1,8,false,true,false⟩),(2,⟨22,1,24,false,true,false⟩)],some (.agg #[.bool false,.int .i64 0,.slice none 0 0])⟩:=by kernel_rfl
@[go_sem] theorem Tryz.ti24 :ti Tryz.prog 24=some ⟨true,3,.struct [(0,⟨4,1,1,false,true,false⟩),(1,⟨2,1,8,false,true,false⟩),(2,⟨22,1,24,false,true,false⟩)],some (.agg #[.bool false,.int .i64 0,.slice none 0 0])⟩:=by kernel_rfl
@[go_sem] theorem Tryz.ti25 :ti Tryz.prog 25=some ⟨false,1,.slice ⟨69,6,80,true,true,false⟩,some (.slice none 0 0)⟩:=by kernel_rfl
@[go_sem] theorem Tryz.ti26 :ti Tryz.prog 26=some ⟨true,9,.struct [(0,⟨3,1,8,false,true,false⟩),(1,⟨3,1,8,false,true,false⟩),(2,⟨24,3,40,true,true,false⟩),(5,⟨24,3,40,true,true,false⟩),(8,⟨25,1,24,false,true,false⟩)],some (.agg #[.int .i64 0,.int .i64 0,.bool false,.int .i64 0,.slice none 0 0,.bool false,.int .i64 0,.slice none 0 0,.slice none 0 0])⟩:=by kernel_rfl
@[go_sem] theorem Tryz.ti27 :ti Tryz.prog 27=some ⟨true,9,.struct [(0,⟨3,1,8,false,true,false⟩),(1,⟨3,1,8,false,true,false⟩),(2,⟨24,3,40,true,true,false⟩),(5,⟨24,3,40,true,true,false⟩),(8,⟨25,1,24,false,true,false⟩)],some (.agg #[.int .i64 0,.int .i64 0,.bool false,.int .i64 0,.slice none 0 0,.bool false,.int .i64 0,.slice none 0 0,.slice none 0 0])⟩:=by kernel_rfl
@[go_sem] theorem Tryz.ti28 :ti Tryz.prog 28=some ⟨false,1,.other,some (.nilFunc)⟩:=by kernel_rfl
@[go_sem] theorem Tryz.ti29 :ti Tryz.prog 29=some ⟨false,1,.other,some (.nilFunc)⟩:=by kernel_rfl
@[go_sem] theorem Tryz.ti30 :ti Tryz.prog 30=some ⟨false,1,.ptr,some (.pointer none)⟩:=by kernel_rfl
@[go_sem] theorem Tryz.ti31 :ti Tryz.prog 31=some ⟨false,1,.other,some (.nilFunc)⟩:=by kernel_rfl
@[go_sem] theorem Tryz.ti32 :ti Tryz.prog 32=some ⟨false,1,.slice ⟨27,9,120,true,true,false⟩,some (.slice none 0 0)⟩:=by kernel_rfl
@[go_sem] theorem Tryz.ti33 :ti Tryz.prog 33=some ⟨false,1,.other,some (.nilFunc)⟩:=by kernel_rfl
@[go_sem] theorem Tryz.ti34 :ti Tryz.prog 34=some ⟨false,1,.other,some (.nilFunc)⟩:=by kernel_rfl
@[go_sem] theorem Tryz.ti35 :ti Tryz.prog 35=some ⟨false,1,.other,some (.nilFunc)⟩:=by kernel_rfl
@[go_sem] theorem Tryz.ti36 :ti Tryz.prog 36=some ⟨false,1,.other,some (.nilFunc)⟩:=by kernel_rfl
@[go_sem] theorem Tryz.ti37 :ti Tryz.prog 37=some ⟨false,1,.other,some (.nilFunc)⟩:=by kernel_rfl
@[go_sem] theorem Tryz.ti38 :ti Tryz.prog 38=some ⟨false,1,.slice ⟨24,3,40,true,true,false⟩,some (.slice none 0 0)⟩:=by kernel_rfl
@[go_sem] theorem Tryz.ti39 :ti Tryz.prog 39=some ⟨false,1,.slice ⟨38,1,24,false,true,false⟩,some (.slice none 0 0)⟩:=by kernel_rfl
@[go_sem] theorem Tryz.ti40 :ti Tryz.prog 40=some ⟨true,3,.struct [(0,⟨38,1,24,false,true,false⟩),(1,⟨39,1,24,false,true,false⟩),(2,⟨25,1,24,false,true,false⟩)],some (.agg #[.slice none 0 0,.slice none 0 0,.slice none 0 0])⟩:=by kernel_rfl
@[go_sem] theorem Tryz.ti41 :ti Tryz.prog 41=some ⟨true,3,.struct [(0,⟨38,1,24,false,true,false⟩),(1,⟨39,1,24,false,true,false⟩),(2,⟨25,1,24,false,true,false⟩)],some (.agg #[.slice none 0 0,.slice none 0 0,.slice none 0 0])⟩:=by kernel_rfl
@[go_sem] theorem Tryz.ti42 :ti Tryz.prog 42=some ⟨true,10,.struct [(0,⟨3,1,8,false,true,false⟩),(1,⟨24,3,40,true,true,false⟩),(4,⟨24,3,40,true,true,false⟩),(7,⟨41,3,72,true,true,false⟩)],some (.agg #[.int .i64 0,.bool false,.int .i64 0,.slice none 0 0,.bool false,.int .i64 0,.slice none 0 0,.slice none 0 0,.slice none 0 0,.slice none 0 0])⟩:=by kernel_rfl
@[go_sem] theorem Tryz.ti43 :ti Tryz.prog 43=some ⟨true,10,.struct [(0,⟨3,1,8,false,true,false⟩),(1,⟨24,3,40,true,true,false⟩),(4,⟨24,3,40,true,true,false⟩),(7,⟨41,3,72,true,true,false⟩)],some (.agg #[.int .i64 0,.bool false,.int .i64 0,.slice none 0 0,.bool false,.int .i64 0,.slice none 0 0,.slice none 0 0,.slice none 0 0,.slice none 0 0])⟩:=by kernel_rfl
@[go_sem] theorem Tryz.ti44 :ti Tryz.prog 44=some ⟨false,1,.slice ⟨5,1,1,false,true,true⟩,some (.slice none 0 0)⟩:=by kernel_rfl
@[go_sem] theorem Tryz.ti45 :ti Tryz.prog 45=some ⟨false,1,.int .i64,some (.int .i64 0)⟩:=by kernel_rfl
@[go_sem] theorem Tryz.ti47 :ti Tryz.prog 47=some ⟨false,1,.other,some (.nilFunc)⟩:=by kernel_rfl
@[go_sem] theorem Tryz.ti48 :ti Tryz.prog 48=some ⟨false,1,.slice ⟨85,1,24,false,true,false⟩,some (.slice none 0 0)⟩:=by kernel_rfl
@[go_sem] theorem Tryz.ti49 :ti Tryz.prog 49=some ⟨true,14,.struct [(0,⟨48,1,24,false,true,false⟩),(1,⟨25,1,24,false,true,false⟩),(2,⟨24,3,40,true,true,false⟩),(5,⟨24,3,40,true,true,false⟩),(8,⟨24,3,40,true,true,false⟩),(11,⟨3,1,8,false,true,false⟩),(12,⟨3,1,8,false,true,false⟩),(13,⟨3,1,8,false,true,false⟩)],some (.agg #[.slice none 0 0,.slice none 0 0,.bool false,.int .i64 0,.slice none 0 0,.bool false,.int .i64 0,.slice none 0 0,.bool false,.int .i64 0,.slice none 0 0,.int .i64 0,.int .i64 0,.int .i64 0])⟩:=by kernel_rfl
@[go_sem] theorem Tryz.ti50 :ti Tryz.prog 50=some ⟨true,14,.struct [(0,⟨48,1,24,false,true,false⟩),(1,⟨25,1,24,false,true,false⟩),(2,⟨24,3,40,true,true,false⟩),(5,⟨24,3,40,true,true,false⟩),(8,⟨24,3,40,true,true,false⟩),(11,⟨3,1,8,false,true,false⟩),(12,⟨3,1,8,false,true,false⟩),(13,⟨3,1,8,false,true,false⟩)],some (.agg #[.slice none 0 0,.slice none 0 0,.bool false,.int .i64 0,.slice none 0 0,.bool false,.int .i64 0,.slice none 0 0,.bool false,.int .i64 0,.slice none 0 0,.int .i64 0,.int .i64 0,.int .i64 0])⟩:=by kernel_rfl
@[go_sem] theorem Tryz.ti51 :ti Tryz.prog 51=some ⟨false,1,.other,some (.nilFunc)⟩:=by kernel_rfl
@[go_sem] theorem Tryz.ti52 :ti Tryz.prog 52=some ⟨false,1,.other,some (.nilFunc)⟩:=by kernel_rfl
@[go_sem] theorem Tryz.ti53 :ti Tryz.prog 53=some ⟨false,1,.other,some (.nilFunc)⟩:=by kernel_rfl
@[go_sem] theorem Tryz.ti54 :ti Tryz.prog 54=some ⟨false,1,.other,some (.nilFunc)⟩:=by kernel_rfl
@[go_sem] theorem Tryz.ti55 :ti Tryz.prog 55=some ⟨false,1,.other,some (.nilFunc)⟩:=by kernel_rfl
@[go_sem] theorem Tryz.ti56 :ti Tryz.prog 56=some ⟨false,1,.other,some (.nilFunc)⟩:=by kernel_rfl
@[go_sem] theorem Tryz.ti57 :ti Tryz.prog 57=some ⟨false,1,.other,some (.nilFunc)⟩:=by kernel_rfl
@[go_sem] theorem Tryz.ti59 :ti Tryz.prog 59=some ⟨false,1,.other,some (.nilFunc)⟩:=by kernel_rfl
@[go_sem] theorem Tryz.ti61 :ti Tryz.prog 61=some ⟨false,1,.other,some (.nilFunc)⟩:=by kernel_rfl
@[go_sem] theorem Tryz.ti62 :ti Tryz.prog 62=some ⟨false,1,.other,some (.nilFunc)⟩:=by kernel_rfl
@[go_sem] theorem Tryz.ti63 :ti Tryz.prog 63=some ⟨false,1,.other,some (.nilFunc)⟩:=by kernel_rfl
@[go_sem] theorem Tryz.ti64 :ti Tryz.prog 64=some ⟨false,1,.int .u16,some (.int .u16 0)⟩:=by kernel_rfl
@[go_sem] theorem Tryz.ti65 :ti Tryz.prog 65=some ⟨false,1,.int .u64,some (.int .u64 0)⟩:=by kernel_rfl
@[go_sem] theorem Tryz.ti66 :ti Tryz.prog 66=some ⟨false,1,.other,some (.nilFunc)⟩:=by kernel_rfl
@[go_sem] theorem Tryz.ti67 :ti Tryz.prog 67=some ⟨false,1,.int .u64,some (.int .u64 0)⟩:=by kernel_rfl
@[go_sem] theorem Tryz.ti68 :ti Tryz.prog 68=some ⟨true,6,.struct [(0,⟨24,3,40,true,true,false⟩),(3,⟨24,3,40,true,true,false⟩)],some (.agg #[.bool false,.int .i64 0,.slice none 0 0,.bool false,.int .i64 0,.slice none 0 0])⟩:=by kernel_rfl
@[go_sem] theorem Tryz.ti69 :ti Tryz.prog 69=some ⟨true,6,.struct [(0,⟨24,3,40,true,true,false⟩),(3,⟨24,3,40,true,true,false⟩)],some (.agg #[.bool false,.int .i64 0,.slice none 0 0,.bool false,.int .i64 0,.slice none 0 0])⟩:=by kernel_rfl
@[go_sem] theorem Tryz.ti70 :ti Tryz.prog 70=some ⟨true,2,.struct [(0,⟨22,1,24,false,true,false⟩),(1,⟨3,1,8,false,true,false⟩)],some (.agg #[.slice none 0 0,.int .i64 0])⟩:=by kernel_rfl
@[go_sem] theorem Tryz.ti71 :ti Tryz.prog 71=some ⟨true,2,.struct [(0,⟨22,1,24,false,true,false⟩),(1,⟨3,1,8,false,true,false⟩)],some (.agg #[.slice none 0 0,.int .i64 0])⟩:=by kernel_rfl
@[go_sem] theorem Tryz.ti72 :ti Tryz.prog 72=some ⟨false,1,.other,some (.nilFunc)⟩:=by kernel_rfl
@[go_sem] theorem Tryz.ti73 :ti Tryz.prog 73=some ⟨false,1,.other,some (.nilFunc)⟩:=by kernel_rfl
@[go_sem] theorem Tryz.ti75 :ti Tryz.prog 75=some ⟨false,1,.other,some (.nilFunc)⟩:=by kernel_rfl
@[go_sem] theorem Tryz.ti76 :ti Tryz.prog 76=some ⟨false,1,.other,some (.nilFunc)⟩:=by kernel_rfl
@[go_sem] theorem Tryz.ti77 :ti Tryz.prog 77=some ⟨false,1,.other,some (.nilFunc)⟩:=by kernel_rfl
@[go_sem] theorem Tryz.ti78 :ti Tryz.prog 78=some ⟨false,1,.other,some (.nilFunc)⟩:=by kernel_rfl
@[go_sem] theorem Tryz.ti79 :ti Tryz.prog 79=some ⟨false,1,.other,some (.nilFunc)⟩:=by kernel_rfl
@[go_sem] theorem Tryz.ti80 :ti Tryz.prog 80=some ⟨false,1,.other,some (.nilFunc)⟩:=by kernel_rfl
@[go_sem] theorem Tryz.ti81 :ti Tryz.prog 81=some ⟨false,1,.other,some (.nilFunc)⟩:=by kernel_rfl
@[go_sem] theorem Tryz.ti82 :ti Tryz.prog 82=some ⟨false,1,.other,some (.nilFunc)⟩:=by kernel_rfl
@[go_sem] theorem Tryz.ti83 :ti Tryz.prog 83=some ⟨false,1,.other,some (.nilFunc)⟩:=by kernel_rfl
@[go_sem] theorem Tryz.ti84 :ti Tryz.prog 84=some ⟨false,1,.other,some (.nilFunc)⟩:=by kernel_rfl
@[go_sem] theorem Tryz.ti85 :ti Tryz.prog 85=some ⟨false,1,.slice ⟨157,4,64,true,true,false⟩,some (.slice none 0 0)⟩:=by kernel_rfl
@[go_sem] theorem Tryz.ti86 :ti Tryz.prog 86=some ⟨false,1,.other,some (.nilFunc)⟩:=by kernel_rfl
@[go_sem] theorem Tryz.ti87 :ti Tryz.prog 87=some ⟨false,1,.other,some (.nilFunc)⟩:=by kernel_rfl
@[go_sem] theorem Tryz.ti88 :ti Tryz.prog 88=some ⟨false,1,.other,some (.nilFunc)⟩:=by kernel_rfl
@[go_sem] theorem Tryz.ti89 :ti Tryz.prog 89=some ⟨false,1,.other,some (.nilFunc)⟩:=by kernel_rfl
@[go_sem] theorem Tryz.ti90 :ti Tryz.prog 90=some ⟨false,1,.other,some (.nilFunc)⟩:=by kernel_rfl
@[go_sem] theorem Tryz.ti91 :ti Tryz.prog 91=some ⟨false,1,.other,some (.nilFunc)⟩:=by kernel_rfl
@[go_sem] theorem Tryz.ti92 :ti Tryz.prog 92=some ⟨false,1,.other,some (.nilFunc)⟩:=by kernel_rfl
@[go_sem] theorem Tryz.ti93 :ti Tryz.prog 93=some ⟨false,1,.other,some (.nilFunc)⟩:=by kernel_rfl
@[go_sem] theorem Tryz.ti94 :ti Tryz.prog 94=some ⟨false,1,.ptr,some (.pointer none)⟩:=by kernel_rfl
@[go_sem] theorem Tryz.ti95 :ti Tryz.prog 95=some ⟨false,1,.other,some (.nilFunc)⟩:=by kernel_rfl
@[go_sem] theorem Tryz.ti96 :ti Tryz.prog 96=some ⟨false,1,.ptr,some (.pointer none)⟩:=by kernel_rfl
@[go_sem] theorem Tryz.ti97 :ti Tryz.prog 97=some ⟨false,1,.other,some (.nilFunc)⟩:=by kernel_rfl
@[go_sem] theorem Tryz.ti98 :ti Tryz.prog 98=some ⟨false,1,.ptr,some (.pointer none)⟩:=by kernel_rfl
@[go_sem] theorem Tryz.ti99 :ti Tryz.prog 99=some ⟨false,1,.slice ⟨92,1,8,false,true,false⟩,some (.slice none 0 0)⟩:=by kernel_rfl
@[go_sem] theorem Tryz.ti101 :ti Tryz.prog 101=some ⟨false,1,.other,some (.nilFunc)⟩:=by kernel_rfl
@[go_sem] theorem Tryz.ti102 :ti Tryz.prog 102=some ⟨false,1,.other,some (.nilFunc)⟩:=by kernel_rfl
@[go_sem] theorem Tryz.ti103 :ti Tryz.prog 103=some ⟨false,1,.other,some (.nilFunc)⟩:=by kernel_rfl
@[go_sem] theorem Tryz.ti104 :ti Tryz.prog 104=some ⟨false,1,.other,some (.nilFunc)⟩:=by kernel_rfl
@[go_sem] theorem Tryz.ti105 :ti Tryz.prog 105=some ⟨false,1,.ptr,some (.pointer none)⟩:=by kernel_rfl
@[go_sem] theorem Tryz.ti106 :ti Tryz.prog 106=some ⟨false,1,.other,some (.nilFunc)⟩:=by kernel_rfl
@[go_sem] theorem Tryz.ti107 :ti Tryz.prog 107=some ⟨false,1,.other,some (.nilFunc)⟩:=by kernel_rfl
@[go_sem] theorem Tryz.ti108 :ti Tryz.prog 108=some ⟨false,1,.other,some (.nilFunc)⟩:=by kernel_rfl
@[go_sem] theorem Tryz.ti109 :ti Tryz.prog 109=some ⟨false,1,.slice ⟨151,1,4,false,true,false⟩,some (.slice none 0 0)⟩:=by kernel_rfl
@[go_sem] theorem Tryz.ti110 :ti Tryz.prog 110=some ⟨true,3,.struct [(0,⟨4,1,1,false,true,false⟩),(1,⟨109,1,24,false,true,false⟩),(2,⟨2,1,8,false,true,false⟩)],some (.agg #[.bool false,.slice none 0 0,.int .i64 0])⟩:=by kernel_rfl
@[go_sem] theorem Tryz.ti111 :ti Tryz.prog 111=some ⟨true,3,.struct [(0,⟨4,1,1,false,true,false⟩),(1,⟨109,1,24,false,true,false⟩),(2,⟨2,1,8,false,true,false⟩)],some (.agg #[.bool false,.slice none 0 0,.int .i64 0])⟩:=by kernel_rfl
@[go_sem] theorem Tryz.ti112 :ti Tryz.prog 112=some ⟨false,1,.other,some (.nilFunc)⟩:=by kernel_rfl
@[go_sem] theorem Tryz.ti113 :ti Tryz.prog 113=some ⟨false,1,.other,some (.nilFunc)⟩:=by kernel_rfl
@[go_sem] theorem Tryz.ti114 :ti Tryz.prog 114=some ⟨false,1,.other,some (.nilFunc)⟩:=by kernel_rfl
@[go_sem] theorem Tryz.ti115 :ti Tryz.prog 115=some ⟨false,1,.other,some (.nilFunc)⟩:=by kernel_rfl
@[go_sem] theorem Tryz.ti116 :ti Tryz.prog 116=some ⟨false,1,.other,some (.nilFunc)⟩:=by kernel_rfl
@[go_sem] theorem Tryz.ti117 :ti Tryz.prog 117=some ⟨false,1,.other,some (.nilFunc)⟩:=by kernel_rfl
@[go_sem] theorem Tryz.ti118 :ti Tryz.prog 118=some ⟨false,1,.other,some (.nilFunc)⟩:=by kernel_rfl
@[go_sem] theorem Tryz.ti119 :ti Tryz.prog 119=some ⟨false,1,.other,some (.nilFunc)⟩:=by kernel_rfl
@[go_sem] theorem Tryz.ti120 :ti Tryz.prog 120=some ⟨false,1,.other,some (.nilFunc)⟩:=by kernel_rfl
@[go_sem] theorem Tryz.ti121 :ti Tryz.prog 121=some ⟨false,1,.other,some (.nilFunc)⟩:=by kernel_rfl
@[go_sem] theorem Tryz.ti123 :ti Tryz.prog 123=some ⟨false,1,.other,some (.nilFunc)⟩:=by kernel_rfl
@[go_sem] theorem Tryz.ti124 :ti Tryz.prog 124=some ⟨false,1,.other,some (.nilFunc)⟩:=by kernel_rfl
@[go_sem] theorem Tryz.ti126 :ti Tryz.prog 126=some ⟨false,1,.other,some (.nilFunc)⟩:=by kernel_rfl
@[go_sem] theorem Tryz.ti127 :ti Tryz.prog 127=some ⟨false,1,.other,some (.nilFunc)⟩:=by kernel_rfl
@[go_sem] theorem Tryz.ti128 :ti Tryz.prog 128=some ⟨false,1,.other,some (.nilFunc)⟩:=by kernel_rfl
@[go_sem] theorem Tryz.ti129 :ti Tryz.prog 129=some ⟨false,1,.other,some (.nilFunc)⟩:=by kernel_rfl
@[go_sem] theorem Tryz.ti130 :ti Tryz.prog 130=some ⟨false,1,.other,some (.nilFunc)⟩:=by kernel_rfl
@[go_sem] theorem Tryz.ti131 :ti Tryz.prog 131=some ⟨false,1,.ptr,some (.pointer none)⟩:=by kernel_rfl
@[go_sem] theorem Tryz.ti132 :ti Tryz.prog 132=some ⟨true,3,.struct [(0,⟨44,1,24,false,true,false⟩),(1,⟨3,1,8,false,true,false⟩),(2,⟨45,1,8,false,true,false⟩)],some (.agg #[.slice none 0 0,.int .i64 0,.int .i64 0])⟩:=by kernel_rfl
@[go_sem] theorem Tryz.ti133 :ti Tryz.prog 133=some ⟨true,3,.struct [(0,⟨44,1,24,false,true,false⟩),(1,⟨3,1,8,false,true,false⟩),(2,⟨45,1,8,false,true,false⟩)],some (.agg #[.slice none 0 0,.int .i64 0,.int .i64 0])⟩:=by kernel_rfl
@[go_sem] theorem Tryz.ti134 :ti Tryz.prog 134=some ⟨false,1,.other,some (.nilFunc)⟩:=by kernel_rfl
@[go_sem] theorem Tryz.ti135 :ti Tryz.prog 135=some ⟨false,1,.ptr,some (.pointer none)⟩:=by kernel_rfl
@[go_sem] theorem Tryz.ti136 :ti Tryz.prog 136=some ⟨false,1,.other,some (.nilFunc)⟩:=by kernel_rfl
@[go_sem] theorem Tryz.ti137 :ti Tryz.prog 137=some ⟨false,1,.other,some (.nilFunc)⟩:=by kernel_rfl
@[go_sem] theorem Tryz.ti138 :ti Tryz.prog 138=some ⟨false,1,.other,some (.nilFunc)⟩:=by kernel_rfl
@[go_sem] theorem Tryz.ti139 :ti Tryz.prog 139=some ⟨false,1,.other,some (.nilFunc)⟩:=by kernel_rfl
@[go_sem] theorem Tryz.ti140 :ti Tryz.prog 140=some ⟨false,1,.other,some (.nilFunc)⟩:=by kernel_rfl
@[go_sem] theorem Tryz.ti141 :ti Tryz.prog 141=some ⟨false,1,.other,some (.nilFunc)⟩:=by kernel_rfl
@[go_sem] theorem Tryz.ti142 :ti Tryz.prog 142=some ⟨false,1,.other,some (.nilFunc)⟩:=by kernel_rfl
@[go_sem] theorem Tryz.ti143 :ti Tryz.prog 143=some ⟨false,1,.other,some (.nilFunc)⟩:=by kernel_rfl
@[go_sem] theorem Tryz.ti144 :ti Tryz.prog 144=some ⟨false,1,.other,some (.nilFunc)⟩:=by kernel_rfl
@[go_sem] theorem Tryz.ti145 :ti Tryz.prog 145=some ⟨false,1,.other,some (.nilFunc)⟩:=by kernel_rfl
@[go_sem] theorem Tryz.ti146 :ti Tryz.prog 146=some ⟨false,1,.other,some (.nilFunc)⟩:=by kernel_rfl
@[go_sem] theorem Tryz.ti147 :ti Tryz.prog 147=some ⟨false,1,.other,some (.nilFunc)⟩:=by kernel_rfl
@[go_sem] theorem Tryz.ti148 :ti Tryz.prog 148=some ⟨false,1,.other,some (.nilFunc)⟩:=by kernel_rfl
@[go_sem] theorem Tryz.ti149 :ti Tryz.prog 149=some ⟨false,1,.other,some (.nilFunc)⟩:=by kernel_rfl
@[go_sem] theorem Tryz.ti150 :ti Tryz.prog 150=some ⟨false,1,.other,some (.nilFunc)⟩:=by kernel_rfl
@[go_sem] theorem Tryz.ti151 :ti Tryz.prog 151=some ⟨false,1,.int .u32,some (.int .u32 0)⟩:=by kernel_rfl
@[go_sem] theorem Tryz.ti152 :ti Tryz.prog 152=some ⟨false,1,.other,some (.nilFunc)⟩:=by kernel_rfl
@[go_sem] theorem Tryz.ti153 :ti Tryz.prog 153=some ⟨false,1,.slice ⟨159,4,64,true,true,false⟩,some (.slice none 0 0)⟩:=by kernel_rfl
@[go_sem] theorem Tryz.ti154 :ti Tryz.prog 154=some ⟨false,1,.other,some (.nilFunc)⟩:=by kernel_rfl
@[go_sem] theorem Tryz.ti155 :ti Tryz.prog 155=some ⟨false,1,.slice ⟨3,1,8,false,true,false⟩,some (.slice none 0 0)⟩:=by kernel_rfl
@[go_sem] theorem Tryz.ti156 :ti Tryz.prog 156=some ⟨true,4,.struct [(0,⟨24,3,40,true,true,false⟩),(3,⟨155,1,24,false,true,false⟩)],some (.agg #[.bool false,.int .i64 0,.slice none 0 0,.slice none 0 0])⟩:=by kernel_rfl
@[go_sem] theorem Tryz.ti157 :ti Tryz.prog 157=some ⟨true,4,.struct [(0,⟨24,3,40,true,true,false⟩),(3,⟨155,1,24,false,true,false⟩)],some (.agg #[.bool false,.int .i64 0,.slice none 0 0,.slice none 0 0])⟩:=by kernel_rfl
@[go_sem] theorem Tryz.ti158 :ti Tryz.prog 158=some ⟨true,4,.struct [(0,⟨111,3,40,true,true,false⟩),(3,⟨155,1,24,false,true,false⟩)],some (.agg #[.bool false,.slice none 0 0,.int .i64 0,.slice none 0 0])⟩:=by kernel_rfl
@[go_sem] theorem Tryz.ti159 :ti Tryz.prog 159=some ⟨true,4,.struct [(0,⟨111,3,40,true,true,false⟩),(3,⟨155,1,24,false,true,false⟩)],some (.agg #[.bool false,.slice none 0 0,.int .i64 0,.slice none 0 0])⟩:=by kernel_rfl
@[go_sem] theorem Tryz.ti160 :ti Tryz.prog 160=some ⟨false,1,.other,some (.nilFunc)⟩:=by kernel_rfl
@[go_sem] theorem Tryz.ti161 :ti Tryz.prog 161=some ⟨false,1,.other,some (.nilFunc)⟩:=by kernel_rfl
@[go_sem] theorem Tryz.ti162 :ti Tryz.prog 162=some ⟨false,1,.other,some (.nilFunc)⟩:=by kernel_rfl
@[go_sem] theorem Tryz.ti164 :ti Tryz.prog 164=some ⟨false,1,.other,some (.nilFunc)⟩:=by kernel_rfl
@[go_sem] theorem Tryz.ti166 :ti Tryz.prog 166=some ⟨false,1,.other,some (.nilFunc)⟩:=by kernel_rfl
@[go_sem] theorem Tryz.ti167 :ti Tryz.prog 167=some ⟨false,1,.other,some (.nilFunc)⟩:=by kernel_rfl
@[go_sem] theorem Tryz.ti169 :ti Tryz.prog 169=some ⟨false,1,.other,some (.nilFunc)⟩:=by kernel_rfl
@[go_sem] theorem Tryz.ti170 :ti Tryz.prog 170=some ⟨false,1,.other,some (.nilFunc)⟩:=by kernel_rfl
@[go_sem] theorem Tryz.ti171 :ti Tryz.prog 171=some ⟨false,1,.other,some (.nilFunc)⟩:=by kernel_rfl
@[go_sem] theorem Tryz.ti172 :ti Tryz.prog 172=some ⟨true,2,.struct [(0,⟨44,1,24,false,true,false⟩),(1,⟨45,1,8,false,true,false⟩)],some (.agg #[.slice none 0 0,.int .i64 0])⟩:=by kernel_rfl
@[go_sem] theorem Tryz.ti173 :ti Tryz.prog 173=some ⟨true,2,.struct [(0,⟨44,1,24,false,true,false⟩),(1,⟨45,1,8,false,true,false⟩)],some (.agg #[.slice none 0 0,.int .i64 0])⟩:=by kernel_rfl
@[go_sem] theorem Tryz.ti174 :ti Tryz.prog 174=some ⟨false,1,.other,some (.nilFunc)⟩:=by kernel_rfl
@[go_sem] theorem Tryz.ti175 :ti Tryz.prog 175=some ⟨false,1,.other,some (.nilFunc)⟩:=by kernel_rfl
@[go_sem] theorem Tryz.ti176 :ti Tryz.prog 176=some ⟨false,1,.other,some (.nilFunc)⟩:=by kernel_rfl
@[go_sem] theorem Tryz.ti177 :ti Tryz.prog 177=some ⟨false,1,.other,some (.nilFunc)⟩:=by kernel_rfl
@[go_sem] theorem Tryz.ti178 :ti Tryz.prog 178=some ⟨false,1,.other,some (.nilFunc)⟩:=by kernel_rfl
@[go_sem] theorem Tryz.ti179 :ti Tryz.prog 179=some ⟨false,1,.other,some (.nilFunc)⟩:=by kernel_rfl
@[go_sem] theorem Tryz.ti180 :ti Tryz.prog 180=some ⟨false,1,.other,some (.nilFunc)⟩:=by kernel_rfl
@[go_sem] theorem Tryz.ti181 :ti Tryz.prog 181=some ⟨false,1,.other,some (.nilFunc)⟩:=by kernel_rfl
@[go_sem] theorem Tryz.ti182 :ti Tryz.prog 182=some ⟨false,1,.other,some (.nilFunc)⟩:=by kernel_rfl
@[go_sem] theorem Tryz.ti183 :ti Tryz.prog 183=some ⟨false,1,.other,some (.nilFunc)⟩:=by kernel_rfl
@[go_sem] theorem Tryz.ti184 :ti Tryz.prog 184=some ⟨false,1,.other,some (.nilFunc)⟩:=by kernel_rfl
@[go_sem] theorem Tryz.ti186 :ti Tryz.prog 186=some ⟨false,1,.other,some (.nilFunc)⟩:=by kernel_rfl
@[go_sem] theorem Tryz.ti187 :ti Tryz.prog 187=some ⟨false,1,.other,some (.nilFunc)⟩:=by kernel_rfl
@[go_sem] theorem Tryz.ti188 :ti Tryz.prog 188=some ⟨false,1,.other,some (.nilFunc)⟩:=by kernel_rfl
@[go_sem] theorem Tryz.ti189 :ti Tryz.prog 189=some ⟨false,1,.other,some (.nilFunc)⟩:=by kernel_rfl
@[go_sem] theorem Tryz.ti191 :ti Tryz.prog 191=some ⟨false,1,.other,some (.nilFunc)⟩:=by kernel_rfl
@[go_sem] theorem Tryz.ti192 :ti Tryz.prog 192=some ⟨false,1,.other,some (.nilFunc)⟩:=by kernel_rfl
@[go_sem] theorem Tryz.ti193 :ti Tryz.prog 193=some ⟨false,1,.other,some (.nilFunc)⟩:=by kernel_rfl
@[go_sem] theorem Tryz.ti194 :ti Tryz.prog 194=some ⟨false,1,.other,some (.nilFunc)⟩:=by kernel_rfl
@[go_sem] theorem Tryz.ti195 :ti Tryz.prog 195=some ⟨false,1,.other,some (.nilFunc)⟩:=by kernel_rfl
@[go_sem] theorem Tryz.ti196 :ti Tryz.prog 196=some ⟨false,1,.other,some (.nilFunc)⟩:=by kernel_rfl
@[go_sem] theorem Tryz.ti197 :ti Tryz.prog 197=some ⟨false,1,.other,some (.nilFunc)⟩:=by kernel_rfl
@[go_sem] theorem Tryz.ti198 :ti Tryz.prog 198=some ⟨false,1,.other,some (.nilFunc)⟩:=by kernel_rfl
@[go_sem] theorem Tryz.ti199 :ti Tryz.prog 199=some ⟨false,1,.other,some (.nilFunc)⟩:=by kernel_rfl
@[go_sem] theorem Tryz.ti200 :ti Tryz.prog 200=some ⟨false,1,.other,some (.nilFunc)⟩:=by kernel_rfl
@[go_sem] theorem Tryz.ti201 :ti Tryz.prog 201=some ⟨false,1,.other,some (.nilFunc)⟩:=by kernel_rfl
@[go_sem] theorem Tryz.ti202 :ti Tryz.prog 202=some ⟨false,1,.other,some (.nilFunc)⟩:=by kernel_rfl
@[go_sem] theorem Tryz.ti204 :ti Tryz.prog 204=some ⟨false,1,.other,some (.nilFunc)⟩:=by kernel_rfl
@[go_sem] theorem Tryz.ti205 :ti Tryz.prog 205=some ⟨false,1,.other,some (.nilFunc)⟩:=by kernel_rfl
@[go_sem] theorem Tryz.ti206 :ti Tryz.prog 206=some ⟨true,4,.struct [(0,⟨17,1,8,false,true,false⟩),(1,⟨17,1,8,false,true,false⟩),(2,⟨17,1,8,false,true,false⟩),(3,⟨9,1,16,false,true,false⟩)],some (.agg #[.pointer none,.pointer none,.pointer none,.string ByteArray.empty])⟩:=by kernel_rfl
@[go_sem] theorem Tryz.ti207 :ti Tryz.prog 207=some ⟨true,4,.struct [(0,⟨17,1,8,false,true,false⟩),(1,⟨17,1,8,false,true,false⟩),(2,⟨17,1,8,false,true,false⟩),(3,⟨9,1,16,false,true,false⟩)],some (.agg #[.pointer none,.pointer none,.pointer none,.string ByteArray.empty])⟩:=by kernel_rfl
@[go_sem] theorem Tryz.ti208 :ti Tryz.prog 208=some ⟨true,0,.arr 0 ⟨16,1,8,false,true,false⟩,some (.agg #[])⟩:=by kernel_rfl
@[go_sem] theorem Tryz.ti209 :ti Tryz.prog 209=some ⟨true,0,.struct [(0,⟨208,0,0,true,true,false⟩)],some (.agg #[])⟩:=by kernel_rfl
@[go_sem] theorem Tryz.ti210 :ti Tryz.prog 210=some ⟨true,0,.struct [(0,⟨208,0,0,true,true,false⟩)],some (.agg #[])⟩:=by kernel_rfl
@[go_sem] theorem Tryz.ti211 :ti Tryz.prog 211=some ⟨false,1,.int .u8,some (.int .u8 0)⟩:=by kernel_rfl
@[go_sem] theorem Tryz.ti212 :ti Tryz.prog 212=some ⟨false,1,.int .u8,some (.int .u8 0)⟩:=by kernel_rfl
@[go_sem] theorem Tryz.ti213 :ti Tryz.prog 213=some ⟨false,1,.other,some (.nilFunc)⟩:=by kernel_rfl
@[go_sem] theorem Tryz.ti214 :ti Tryz.prog 214=some ⟨false,1,.ptr,some (.pointer none)⟩:=by kernel_rfl
@[go_sem] theorem Tryz.ti215 :ti Tryz.prog 215=some ⟨false,1,.int .i32,some (.int .i32 0)⟩:=by kernel_rfl
@[go_sem] theorem Tryz.ti216 :ti Tryz.prog 216=some ⟨false,1,.int .i32,some (.int .i32 0)⟩:=by kernel_rfl
@[go_sem] theorem Tryz.ti217 :ti Tryz.prog 217=some ⟨true,11,.struct [(0,⟨12,1,8,false,true,false⟩),(1,⟨12,1,8,false,true,false⟩),(2,⟨151,1,4,false,true,false⟩),(3,⟨211,1,1,false,true,true⟩),(4,⟨5,1,1,false,true,true⟩),(5,⟨5,1,1,false,true,true⟩),(6,⟨212,1,1,false,true,true⟩),(7,⟨213,1,8,false,true,false⟩),(8,⟨214,1,8,false,true,false⟩),(9,⟨215,1,4,false,true,false⟩),(10,⟨216,1,4,false,true,false⟩)],some (.agg #[.int .u64 0,.int .u64 0,.int .u32 0,.int .u8 0,.int .u8 0,.int .u8 0,.int .u8 0,.nilFunc,.pointer none,.int .i32 0,.int .i32 0])⟩:=by kernel_rfl
@[go_sem] theorem Tryz.ti218 :ti Tryz.prog 218=some ⟨true,11,.struct [(0,⟨12,1,8,false,true,false⟩),(1,⟨12,1,8,false,true,false⟩),(2,⟨151,1,4,false,true,false⟩),(3,⟨211,1,1,false,true,true⟩),(4,⟨5,1,1,false,true,true⟩),(5,⟨5,1,1,false,true,true⟩),(6,⟨212,1,1,false,true,true⟩),(7,⟨213,1,8,false,true,false⟩),(8,⟨214,1,8,false,true,false⟩),(9,⟨215,1,4,false,true,false⟩),(10,⟨216,1,4,false,true,false⟩)],some (.agg #[.int .u64 0,.int .u64 0,.int .u32 0,.int .u8 0,.int .u8 0,.int .u8 0,.int .u8 0,.nilFunc,.pointer none,.int .i32 0,.int .i32 0])⟩:=by kernel_rfl
@[go_sem] theorem Tryz.ca4 :Q0c Tryz.prog 4=true:=by kernel_rfl
@[go_sem] theorem Tryz.ca8 :Q0c Tryz.prog 8=true:=by kernel_rfl
@[go_sem] theorem Tryz.ca9 :Q0c Tryz.prog 9=true:=by kernel_rfl
@[go_sem] theorem Tryz.ca10 :Q0c Tryz.prog 10=true:=by kernel_rfl
@[go_sem] theorem Tryz.ca12 :Q0c Tryz.prog 12=true:=by kernel_rfl
@[go_sem] theorem Tryz.ca14 :Q0c Tryz.prog 14=true:=by kernel_rfl
@[go_sem] theorem Tryz.ca15 :Q0c Tryz.prog 15=true:=by kernel_rfl
@[go_sem] theorem Tryz.ca16 :Q0c Tryz.prog 16=true:=by kernel_rfl
@[go_sem] theorem Tryz.ca17 :Q0c Tryz.prog 17=true:=by kernel_rfl
@[go_sem] theorem Tryz.ca18 :Q0c Tryz.prog 18=true:=by kernel_rfl
@[go_sem] theorem Tryz.ca19 :Q0c Tryz.prog 19=true:=by kernel_rfl
@[go_sem] theorem Tryz.ca20 :Q0c Tryz.prog 20=true:=by kernel_rfl
@[go_sem] theorem Tryz.ca21 :Q0c Tryz.prog 21=true:=by kernel_rfl
@[go_sem] theorem Tryz.ca22 :Q0c Tryz.prog 22=true:=by kernel_rfl
@[go_sem] theorem Tryz.ca23 :Q0c Tryz.prog 23=true:=by kernel_rfl
@[go_sem] theorem Tryz.ca24 :Q0c Tryz.prog 24=true:=by kernel_rfl
@[go_sem] theorem Tryz.ca25 :Q0c Tryz.prog 25=true:=by kernel_rfl
@[go_sem] theorem Tryz.ca26 :Q0c Tryz.prog 26=true:=by kernel_rfl
@[go_sem] theorem Tryz.ca27 :Q0c Tryz.prog 27=true:=by kernel_rfl
@[go_sem] theorem Tryz.ca28 :Q0c Tryz.prog 28=true:=by kernel_rfl
@[go_sem] theorem Tryz.ca30 :Q0c Tryz.prog 30=true:=by kernel_rfl
@[go_sem] theorem Tryz.ca31 :Q0c Tryz.prog 31=true:=by kernel_rfl
@[go_sem] theorem Tryz.ca35 :Q0c Tryz.prog 35=true:=by kernel_rfl
@[go_sem] theorem Tryz.ca36 :Q0c Tryz.prog 36=true:=by kernel_rfl
@[go_sem] theorem Tryz.ca37 :Q0c Tryz.prog 37=true:=by kernel_rfl
@[go_sem] theorem Tryz.ca38 :Q0c Tryz.prog 38=true:=by kernel_rfl
@[go_sem] theorem Tryz.ca39 :Q0c Tryz.prog 39=true:=by kernel_rfl
@[go_sem] theorem Tryz.ca40 :Q0c Tryz.prog 40=true:=by kernel_rfl
@[go_sem] theorem Tryz.ca41 :Q0c Tryz.prog 41=true:=by kernel_rfl
@[go_sem] theorem Tryz.ca42 :Q0c Tryz.prog 42=true:=by kernel_rfl
@[go_sem] theorem Tryz.ca43 :Q0c Tryz.prog 43=true:=by kernel_rfl
@[go_sem] theorem Tryz.ca44 :Q0c Tryz.prog 44=true:=by kernel_rfl
@[go_sem] theorem Tryz.ca45 :Q0c Tryz.prog 45=true:=by kernel_rfl
@[go_sem] theorem Tryz.ca46 :Q0c Tryz.prog 46=true:=by kernel_rfl
@[go_sem] theorem Tryz.ca47 :Q0c Tryz.prog 47=true:=by kernel_rfl
@[go_sem] theorem Tryz.ca48 :Q0c Tryz.prog 48=true:=by kernel_rfl
@[go_sem] theorem Tryz.ca49 :Q0c Tryz.prog 49=true:=by kernel_rfl
@[go_sem] theorem Tryz.ca50 :Q0c Tryz.prog 50=true:=by kernel_rfl
@[go_sem] theorem Tryz.ca51 :Q0c Tryz.prog 51=true:=by kernel_rfl
@[go_sem] theorem Tryz.ca52 :Q0c Tryz.prog 52=true:=by kernel_rfl
@[go_sem] theorem Tryz.ca53 :Q0c Tryz.prog 53=true:=by kernel_rfl
@[go_sem] theorem Tryz.ca54 :Q0c Tryz.prog 54=true:=by kernel_rfl
@[go_sem] theorem Tryz.ca57 :Q0c Tryz.prog 57=true:=by kernel_rfl
@[go_sem] theorem Tryz.ca58 :Q0c Tryz.prog 58=true:=by kernel_rfl
@[go_sem] theorem Tryz.ca59 :Q0c Tryz.prog 59=true:=by kernel_rfl
@[go_sem] theorem Tryz.ca60 :Q0c Tryz.prog 60=true:=by kernel_rfl
@[go_sem] theorem Tryz.ca61 :Q0c Tryz.prog 61=true:=by kernel_rfl
@[go_sem] theorem Tryz.ca62 :Q0c Tryz.prog 62=true:=by kernel_rfl
@[go_sem] theorem Tryz.ca63 :Q0c Tryz.prog 63=true:=by kernel_rfl
@[go_sem] theorem Tryz.ca64 :Q0c Tryz.prog 64=true:=by kernel_rfl
@[go_sem] theorem Tryz.ca65 :Q0c Tryz.prog 65=true:=by kernel_rfl
@[go_sem] theorem Tryz.ca66 :Q0c Tryz.prog 66=true:=by kernel_rfl
@[go_sem] theorem Tryz.ca67 :Q0c Tryz.prog 67=true:=by kernel_rfl
@[go_sem] theorem Tryz.ca68 :Q0c Tryz.prog 68=true:=by kernel_rfl
@[go_sem] theorem Tryz.ca69 :Q0c Tryz.prog 69=true:=by kernel_rfl
@[go_sem] theorem Tryz.ca71 :Q0c Tryz.prog 71=true:=by kernel_rfl
@[go_sem] theorem Tryz.ca72 :Q0c Tryz.prog 72=true:=by kernel_rfl
@[go_sem] theorem Tryz.ca73 :Q0c Tryz.prog 73=true:=by kernel_rfl
@[go_sem] theorem Tryz.ca74 :Q0c Tryz.prog 74=true:=by kernel_rfl
@[go_sem] theorem Tryz.ca75 :Q0c Tryz.prog 75=true:=by kernel_rfl
@[go_sem] theorem Tryz.ca76 :Q0c Tryz.prog 76=true:=by kernel_rfl
@[go_sem] theorem Tryz.ca77 :Q0c Tryz.prog 77=true:=by kernel_rfl
@[go_sem] theorem Tryz.ca78 :Q0c Tryz.prog 78=true:=by kernel_rfl
@[go_sem] theorem Tryz.ca79 :Q0c Tryz.prog 79=true:=by kernel_rfl
@[go_sem] theorem Tryz.ca80 :Q0c Tryz.prog 80=true:=by kernel_rfl
@[go_sem] theorem Tryz.ca81 :Q0c Tryz.prog 81=true:=by kernel_rfl
@[go_sem] theorem Tryz.ca82 :Q0c Tryz.prog 82=true:=by kernel_rfl
@[go_sem] theorem Tryz.ca83 :Q0c Tryz.prog 83=true:=by kernel_rfl
@[go_sem] theorem Tryz.ca84 :Q0c Tryz.prog 84=true:=by kernel_rfl
@[go_sem] theorem Tryz.ca85 :Q0c Tryz.prog 85=true:=by kernel_rfl
@[go_sem] theorem Tryz.ca86 :Q0c Tryz.prog 86=true:=by kernel_rfl
@[go_sem] theorem Tryz.ca87 :Q0c Tryz.prog 87=true:=by kernel_rfl
@[go_sem] theorem Tryz.ca88 :Q0c Tryz.prog 88=true:=by kernel_rfl
@[go_sem] theorem Tryz.ca89 :Q0c Tryz.prog 89=true:=by kernel_rfl
@[go_sem] theorem Tryz.ca90 :Q0c Tryz.prog 90=true:=by kernel_rfl
@[go_sem] theorem Tryz.ca91 :Q0c Tryz.prog 91=true:=by kernel_rfl
@[go_sem] theorem Tryz.ca92 :Q0c Tryz.prog 92=true:=by kernel_rfl
@[go_sem] theorem Tryz.ca93 :Q0c Tryz.prog 93=true:=by kernel_rfl
@[go_sem] theorem Tryz.ca94 :Q0c Tryz.prog 94=true:=by kernel_rfl
@[go_sem] theorem Tryz.ca95 :Q0c Tryz.prog 95=true:=by kernel_rfl
@[go_sem] theorem Tryz.ca96 :Q0c Tryz.prog 96=true:=by kernel_rfl
@[go_sem] theorem Tryz.ca97 :Q0c Tryz.prog 97=true:=by kernel_rfl
@[go_sem] theorem Tryz.ca98 :Q0c Tryz.prog 98=true:=by kernel_rfl
@[go_sem] theorem Tryz.ca99 :Q0c Tryz.prog 99=true:=by kernel_rfl
@[go_sem] theorem Tryz.ca100 :Q0c Tryz.prog 100=true:=by kernel_rfl
@[go_sem] theorem Tryz.ca105 :Q0c Tryz.prog 105=true:=by kernel_rfl
@[go_sem] theorem Tryz.ca106 :Q0c Tryz.prog 106=true:=by kernel_rfl
@[go_sem] theorem Tryz.ca107 :Q0c Tryz.prog 107=true:=by kernel_rfl
@[go_sem] theorem Tryz.ca108 :Q0c Tryz.prog 108=true:=by kernel_rfl
@[go_sem] theorem Tryz.ca109 :Q0c Tryz.prog 109=true:=by kernel_rfl
@[go_sem] theorem Tryz.ca110 :Q0c Tryz.prog 110=true:=by kernel_rfl
@[go_sem] theorem Tryz.ca111 :Q0c Tryz.prog 111=true:=by kernel_rfl
@[go_sem] theorem Tryz.ca112 :Q0c Tryz.prog 112=true:=by kernel_rfl
@[go_sem] theorem Tryz.ca113 :Q0c Tryz.prog 113=true:=by kernel_rfl
@[go_sem] theorem Tryz.ca114 :Q0c Tryz.prog 114=true:=by kernel_rfl
@[go_sem] theorem Tryz.ca115 :Q0c Tryz.prog 115=true:=by kernel_rfl
@[go_sem] theorem Tryz.ca116 :Q0c Tryz.prog 116=true:=by kernel_rfl
@[go_sem] theorem Tryz.ca117 :Q0c Tryz.prog 117=true:=by kernel_rfl
@[go_sem] theorem Tryz.ca118 :Q0c Tryz.prog 118=true:=by kernel_rfl
@[go_sem] theorem Tryz.ca120 :Q0c Tryz.prog 120=true:=by kernel_rfl
@[go_sem] theorem Tryz.ca121 :Q0c Tryz.prog 121=true:=by kernel_rfl
@[go_sem] theorem Tryz.ca123 :Q0c Tryz.prog 123=true:=by kernel_rfl
@[go_sem] theorem Tryz.ca124 :Q0c Tryz.prog 124=true:=by kernel_rfl
@[go_sem] theorem Tryz.ca125 :Q0c Tryz.prog 125=true:=by kernel_rfl
@[go_sem] theorem Tryz.ca126 :Q0c Tryz.prog 126=true:=by kernel_rfl
@[go_sem] theorem Tryz.ca127 :Q0c Tryz.prog 127=true:=by kernel_rfl
@[go_sem] theorem Tryz.ca128 :Q0c Tryz.prog 128=true:=by kernel_rfl
@[go_sem] theorem Tryz.ca129 :Q0c Tryz.prog 129=true:=by kernel_rfl
@[go_sem] theorem Tryz.ca130 :Q0c Tryz.prog 130=true:=by kernel_rfl
@[go_sem] theorem Tryz.ca131 :Q0c Tryz.prog 131=true:=by kernel_rfl
@[go_sem] theorem Tryz.ca132 :Q0c Tryz.prog 132=true:=by kernel_rfl
@[go_sem] theorem Tryz.ca133 :Q0c Tryz.prog 133=true:=by kernel_rfl
@[go_sem] theorem Tryz.ca134 :Q0c Tryz.prog 134=true:=by kernel_rfl
@[go_sem] theorem Tryz.ca135 :Q0c Tryz.prog 135=true:=by kernel_rfl
@[go_sem] theorem Tryz.ca136 :Q0c Tryz.prog 136=true:=by kernel_rfl
@[go_sem] theorem Tryz.ca137 :Q0c Tryz.prog 137=true:=by kernel_rfl
@[go_sem] theorem Tryz.ca138 :Q0c Tryz.prog 138=true:=by kernel_rfl
@[go_sem] theorem Tryz.ca139 :Q0c Tryz.prog 139=true:=by kernel_rfl
@[go_sem] theorem Tryz.ca140 :Q0c Tryz.prog 140=true:=by kernel_rfl
@[go_sem] theorem Tryz.ca141 :Q0c Tryz.prog 141=true:=by kernel_rfl
@[go_sem] theorem Tryz.ca142 :Q0c Tryz.prog 142=true:=by kernel_rfl
@[go_sem] theorem Tryz.ca143 :Q0c Tryz.prog 143=true:=by kernel_rfl
@[go_sem] theorem Tryz.ca148 :Q0c Tryz.prog 148=true:=by kernel_rfl
@[go_sem] theorem Tryz.ca149 :Q0c Tryz.prog 149=true:=by kernel_rfl
@[go_sem] theorem Tryz.ca150 :Q0c Tryz.prog 150=true:=by kernel_rfl
@[go_sem] theorem Tryz.ca151 :Q0c Tryz.prog 151=true:=by kernel_rfl
@[go_sem] theorem Tryz.ca152 :Q0c Tryz.prog 152=true:=by kernel_rfl
@[go_sem] theorem Tryz.ca153 :Q0c Tryz.prog 153=true:=by kernel_rfl
@[go_sem] theorem Tryz.ca154 :Q0c Tryz.prog 154=true:=by kernel_rfl
@[go_sem] theorem Tryz.ca155 :Q0c Tryz.prog 155=true:=by kernel_rfl
@[go_sem] theorem Tryz.ca156 :Q0c Tryz.prog 156=true:=by kernel_rfl
@[go_sem] theorem Tryz.ca157 :Q0c Tryz.prog 157=true:=by kernel_rfl
@[go_sem] theorem Tryz.ca158 :Q0c Tryz.prog 158=true:=by kernel_rfl
@[go_sem] theorem Tryz.ca160 :Q0c Tryz.prog 160=true:=by kernel_rfl
@[go_sem] theorem Tryz.ca161 :Q0c Tryz.prog 161=true:=by kernel_rfl
@[go_sem] theorem Tryz.ca162 :Q0c Tryz.prog 162=true:=by kernel_rfl
@[go_sem] theorem Tryz.ca163 :Q0c Tryz.prog 163=true:=by kernel_rfl
@[go_sem] theorem Tryz.ca164 :Q0c Tryz.prog 164=true:=by kernel_rfl
@[go_sem] theorem Tryz.ca165 :Q0c Tryz.prog 165=true:=by kernel_rfl
@[go_sem] theorem Tryz.ca166 :Q0c Tryz.prog 166=true:=by kernel_rfl
@[go_sem] theorem Tryz.ca167 :Q0c Tryz.prog 167=true:=by kernel_rfl
@[go_sem] theorem Tryz.ca168 :Q0c Tryz.prog 168=true:=by kernel_rfl
@[go_sem] theorem Tryz.ca169 :Q0c Tryz.prog 169=true:=by kernel_rfl
@[go_sem] theorem Tryz.ca170 :Q0c Tryz.prog 170=true:=by kernel_rfl
@[go_sem] theorem Tryz.ca171 :Q0c Tryz.prog 171=true:=by kernel_rfl
@[go_sem] theorem Tryz.ca172 :Q0c Tryz.prog 172=true:=by kernel_rfl
@[go_sem] theorem Tryz.ca173 :Q0c Tryz.prog 173=true:=by kernel_rfl
@[go_sem] theorem Tryz.ca174 :Q0c Tryz.prog 174=true:=by kernel_rfl
@[go_sem] theorem Tryz.ca175 :Q0c Tryz.prog 175=true:=by kernel_rfl
@[go_sem] theorem Tryz.ca176 :Q0c Tryz.prog 176=true:=by kernel_rfl
@[go_sem] theorem Tryz.ca177 :Q0c Tryz.prog 177=true:=by kernel_rfl
@[go_sem] theorem Tryz.ca178 :Q0c Tryz.prog 178=true:=by kernel_rfl
@[go_sem] theorem Tryz.ca179 :Q0c Tryz.prog 179=true:=by kernel_rfl
@[go_sem] theorem Tryz.ca180 :Q0c Tryz.prog 180=true:=by kernel_rfl
@[go_sem] theorem Tryz.ca181 :Q0c Tryz.prog 181=true:=by kernel_rfl
@[go_sem] theorem Tryz.ca182 :Q0c Tryz.prog 182=true:=by kernel_rfl
@[go_sem] theorem Tryz.ca186 :Q0c Tryz.prog 186=true:=by kernel_rfl
@[go_sem] theorem Tryz.ca187 :Q0c Tryz.prog 187=true:=by kernel_rfl
@[go_sem] theorem Tryz.ca188 :Q0c Tryz.prog 188=true:=by kernel_rfl
@[go_sem] theorem Tryz.ca189 :Q0c Tryz.prog 189=true:=by kernel_rfl
@[go_sem] theorem Tryz.res4 :Tryz.f4.results.toList= [.tmp 4]:=rfl
attribute [go_sem] Tryz.ntmps4
@[go_sem] theorem Tryz.res8 :Tryz.f8.results.toList= [.tmp 0]:=rfl
attribute [go_sem] Tryz.ntmps8
@[go_sem] theorem Tryz.res9 :Tryz.f9.results.toList= [.tmp 2]:=rfl
attribute [go_sem] Tryz.ntmps9
@[go_sem] theorem Tryz.res10 :Tryz.f10.results.toList= [.tmp 2]:=rfl
attribute [go_sem] Tryz.ntmps10
@[go_sem] theorem Tryz.res12 :Tryz.f12.results.toList= [.tmp 2]:=rfl
attribute [go_sem] Tryz.ntmps12
@[go_sem] theorem Tryz.res14 :Tryz.f14.results.toList= [.tmp 2]:=rfl
attribute [go_sem] Tryz.ntmps14
@[go_sem] theorem Tryz.res15 :Tryz.f15.results.toList= [.tmp 2,.tmp 3]:=rfl
attribute [go_sem] Tryz.ntmps15
@[go_sem] theorem Tryz.res16 :Tryz.f16.results.toList= [.tmp 2,.tmp 3]:=rfl
attribute [go_sem] Tryz.ntmps16
@[go_sem] theorem Tryz.res17 :Tryz.f17.results.toList= [.cell 4 50]:=rfl
attribute [go_sem] Tryz.ntmps17
@[go_sem] theorem Tryz.res18 :Tryz.f18.results.toList= [.tmp 8]:=rfl
attribute [go_sem] Tryz.ntmps18
@[go_sem] theorem Tryz.res19 :Tryz.f19.results.toList= [.cell 4 43]:=rfl
attribute [go_sem] Tryz.ntmps19
@[go_sem] theorem Tryz.res20 :Tryz.f20.results.toList= [.tmp 2]:=rfl
attribute [go_sem] Tryz.ntmps20
@[go_sem] theorem Tryz.res21 :Tryz.f21.results.toList= [.tmp 2]:=rfl
attribute [go_sem] Tryz.ntmps21
@[go_sem] theorem Tryz.res22 :Tryz.f22.results.toList= [.tmp 2]:=rfl
attribute [go_sem] Tryz.ntmps22
@[go_sem] theorem Tryz.res23 :Tryz.f23.results.toList= [.tmp 2,.tmp 3]:=rfl
attribute [go_sem] Tryz.ntmps23
@[go_sem] theorem Tryz.res24 :Tryz.f24.results.toList= [.cell 2 27,.tmp 3]:=rfl
attribute [go_sem] Tryz.ntmps24
@[go_sem] theorem Tryz.res25 :Tryz.f25.results.toList= [.tmp 4]:=rfl
attribute [go_sem] Tryz.ntmps25
@[go_sem] theorem Tryz.res26 :Tryz.f26.results.toList= [.cell 2 43,.tmp 3]:=rfl
attribute [go_sem] Tryz.ntmps26
@[go_sem] theorem Tryz.res27 :Tryz.f27.results.toList= [.tmp 4]:=rfl
attribute [go_sem] Tryz.ntmps27
@[go_sem] theorem Tryz.res28 :Tryz.f28.results.toList= [.tmp 4]:=rfl
attribute [go_sem] Tryz.ntmps28
@[go_sem] theorem Tryz.res30 :Tryz.f30.results.toList= [.cell 6 24,.tmp 7]:=rfl
attribute [go_sem] Tryz.ntmps30
@[go_sem] theorem Tryz.res31 :Tryz.f31.results.toList= [.cell 2 24]:=rfl
attribute [go_sem] Tryz.ntmps31
@[go_sem] theorem Tryz.res35 :Tryz.f35.results.toList= [.tmp 2]:=rfl
attribute [go_sem] Tryz.ntmps35
@[go_sem] theorem Tryz.res36 :Tryz.f36.results.toList= [.tmp 2]:=rfl
attribute [go_sem] Tryz.ntmps36
@[go_sem] theorem Tryz.res37 :Tryz.f37.results.toList= [.tmp 4]:=rfl
attribute [go_sem] Tryz.ntmps37
@[go_sem] theorem Tryz.res38 :Tryz.f38.results.toList= [.tmp 2]:=rfl
attribute [go_sem] Tryz.ntmps38
@[go_sem] theorem Tryz.res39 :Tryz.f39.results.toList= [.tmp 4]:=rfl
attribute [go_sem] Tryz.ntmps39
@[go_sem] theorem Tryz.res40 :Tryz.f40.results.toList= [.tmp 4]:=rfl
attribute [go_sem] Tryz.ntmps40
@[go_sem] theorem Tryz.res41 :Tryz.f41.results.toList= [.tmp 4]:=rfl
attribute [go_sem] Tryz.ntmps41
@[go_sem] theorem Tryz.res42 :Tryz.f42.results.toList= [.tmp 4]:=rfl
attribute [go_sem] Tryz.ntmps42
@[go_sem] theorem Tryz.res43 :Tryz.f43.results.toList= [.tmp 4]:=rfl
attribute [go_sem] Tryz.ntmps43
@[go_sem] theorem Tryz.res44 :Tryz.f44.results.toList= [.tmp 4]:=rfl
attribute [go_sem] Tryz.ntmps44
@[go_sem] theorem Tryz.res45 :Tryz.f45.results.toList= [.cell 6 24]:=rfl
attribute [go_sem] Tryz.ntmps45
@[go_sem] theorem Tryz.res46 :Tryz.f46.results.toList= [.cell 4 24,.tmp 5]:=rfl
attribute [go_sem] Tryz.ntmps46
@[go_sem] theorem Tryz.res47 :Tryz.f47.results.toList= [.tmp 4]:=rfl
attribute [go_sem] Tryz.ntmps47
@[go_sem] theorem Tryz.res48 :Tryz.f48.results.toList= [.tmp 8]:=rfl
attribute [go_sem] Tryz.ntmps48
@[go_sem] theorem Tryz.res49 :Tryz.f49.results.toList= [.cell 2 43,.tmp 3]:=rfl
attribute [go_sem] Tryz.ntmps49
@[go_sem] theorem Tryz.res50 :Tryz.f50.results.toList= [.tmp 4]:=rfl
attribute [go_sem] Tryz.ntmps50
@[go_sem] theorem Tryz.res51 :Tryz.f51.results.toList= [.cell 4 41]:=rfl
attribute [go_sem] Tryz.ntmps51
@[go_sem] theorem Tryz.res52 :Tryz.f52.results.toList= [.tmp 2]:=rfl
attribute [go_sem] Tryz.ntmps52
@[go_sem] theorem Tryz.res53 :Tryz.f53.results.toList= [.tmp 2]:=rfl
attribute [go_sem] Tryz.ntmps53
@[go_sem] theorem Tryz.res54 :Tryz.f54.results.toList= [.tmp 2]:=rfl
attribute [go_sem] Tryz.ntmps54
@[go_sem] theorem Tryz.res57 :Tryz.f57.results.toList= [.tmp 6]:=rfl
attribute [go_sem] Tryz.ntmps57
@[go_sem] theorem Tryz.res58 :Tryz.f58.results.toList= [.tmp 2]:=rfl
attribute [go_sem] Tryz.ntmps58
@[go_sem] theorem Tryz.res59 :Tryz.f59.results.toList= [.tmp 2]:=rfl
attribute [go_sem] Tryz.ntmps59
@[go_sem] theorem Tryz.res60 :Tryz.f60.results.toList= [.tmp 2]:=rfl
attribute [go_sem] Tryz.ntmps60
@[go_sem] theorem Tryz.res61 :Tryz.f61.results.toList= [.tmp 3]:=rfl
attribute [go_sem] Tryz.ntmps61
@[go_sem] theorem Tryz.res62 :Tryz.f62.results.toList= [.tmp 2,.tmp 3]:=rfl
attribute [go_sem] Tryz.ntmps62
@[go_sem] theorem Tryz.res63 :Tryz.f63.results.toList= [.tmp 4]:=rfl
attribute [go_sem] Tryz.ntmps63
@[go_sem] theorem Tryz.res64 :Tryz.f64.results.toList= [.tmp 4]:=rfl
attribute [go_sem] Tryz.ntmps64
@[go_sem] theorem Tryz.res65 :Tryz.f65.results.toList= [.tmp 2]:=rfl
attribute [go_sem] Tryz.ntmps65
@[go_sem] theorem Tryz.res66 :Tryz.f66.results.toList= [.tmp 2]:=rfl
attribute [go_sem] Tryz.ntmps66
@[go_sem] theorem Tryz.res67 :Tryz.f67.results.toList= [.tmp 4]:=rfl
attribute [go_sem] Tryz.ntmps67
@[go_sem] theorem Tryz.res68 :Tryz.f68.results.toList= [.tmp 4]:=rfl
attribute [go_sem] Tryz.ntmps68
@[go_sem] theorem Tryz.res69 :Tryz.f69.results.toList= [.tmp 2]:=rfl
attribute [go_sem] Tryz.ntmps69
@[go_sem] theorem Tryz.res71 :Tryz.f71.results.toList= [.cell 6 111]:=rfl
attribute [go_sem] Tryz.ntmps71
@[go_sem] theorem Tryz.res72 :Tryz.f72.results.toList= [.cell 2 111]:=rfl
attribute [go_sem] Tryz.ntmps72
@[go_sem] theorem Tryz.res73 :Tryz.f73.results.toList= [.cell 2 24,.tmp 3]:=rfl
attribute [go_sem] Tryz.ntmps73
@[go_sem] theorem Tryz.res74 :Tryz.f74.results.toList= [.tmp 4]:=rfl
attribute [go_sem] Tryz.ntmps74
@[go_sem] theorem Tryz.res75 :Tryz.f75.results.toList= [.tmp 2]:=rfl
attribute [go_sem] Tryz.ntmps75
@[go_sem] theorem Tryz.res76 :Tryz.f76.results.toList= [.tmp 4]:=rfl
attribute [go_sem] Tryz.ntmps76
@[go_sem] theorem Tryz.res77 :Tryz.f77.results.toList= [.tmp 2]:=rfl
attribute [go_sem] Tryz.ntmps77
@[go_sem] theorem Tryz.res78 :Tryz.f78.results.toList= [.tmp 2]:=rfl
attribute [go_sem] Tryz.ntmps78
@[go_sem] theorem Tryz.res79 :Tryz.f79.results.toList= [.cell 2 24]:=rfl
attribute [go_sem] Tryz.ntmps79
@[go_sem] theorem Tryz.res80 :Tryz.f80.results.toList= [.tmp 4]:=rfl
attribute [go_sem] Tryz.ntmps80
@[go_sem] theorem Tryz.res81 :Tryz.f81.results.toList= [.tmp 2]:=rfl
attribute [go_sem] Tryz.ntmps81
@[go_sem] theorem Tryz.res82 :Tryz.f82.results.toList= [.tmp 2]:=rfl
attribute [go_sem] Tryz.ntmps82
@[go_sem] theorem Tryz.res83 :Tryz.f83.results.toList= [.tmp 4]:=rfl
attribute [go_sem] Tryz.ntmps83
@[go_sem] theorem Tryz.res84 :Tryz.f84.results.toList= [.tmp 4]:=rfl
attribute [go_sem] Tryz.ntmps84
@[go_sem] theorem Tryz.res85 :Tryz.f85.results.toList= [.tmp 4]:=rfl
attribute [go_sem] Tryz.ntmps85
@[go_sem] theorem Tryz.res86 :Tryz.f86.results.toList= [.tmp 4]:=rfl
attribute [go_sem] Tryz.ntmps86
@[go_sem] theorem Tryz.res87 :Tryz.f87.results.toList= [.cell 6 24,.tmp 7]:=rfl
attribute [go_sem] Tryz.ntmps87
@[go_sem] theorem Tryz.res88 :Tryz.f88.results.toList= [.tmp 2]:=rfl
attribute [go_sem] Tryz.ntmps88
@[go_sem] theorem Tryz.res89 :Tryz.f89.results.toList= [.tmp 4,.tmp 5]:=rfl
attribute [go_sem] Tryz.ntmps89
@[go_sem] theorem Tryz.res90 :Tryz.f90.results.toList= [.tmp 8]:=rfl
attribute [go_sem] Tryz.ntmps90
@[go_sem] theorem Tryz.res91 :Tryz.f91.results.toList= [.tmp 2]:=rfl
attribute [go_sem] Tryz.ntmps91
@[go_sem] theorem Tryz.res92 :Tryz.f92.results.toList= [.cell 4 41,.tmp 5]:=rfl
attribute [go_sem] Tryz.ntmps92
@[go_sem] theorem Tryz.res93 :Tryz.f93.results.toList= [.tmp 4]:=rfl
attribute [go_sem] Tryz.ntmps93
@[go_sem] theorem Tryz.res94 :Tryz.f94.results.toList= [.cell 2 24]:=rfl
attribute [go_sem] Tryz.ntmps94
@[go_sem] theorem Tryz.res95 :Tryz.f95.results.toList= [.cell 2 24]:=rfl
attribute [go_sem] Tryz.ntmps95
@[go_sem] theorem Tryz.res96 :Tryz.f96.results.toList= [.cell 2 24]:=rfl
attribute [go_sem] Tryz.ntmps96
@[go_sem] theorem Tryz.res97 :Tryz.f97.results.toList= [.tmp 4]:=rfl
attribute [go_sem] Tryz.ntmps97
@[go_sem] theorem Tryz.res98 :Tryz.f98.results.toList= [.tmp 4]:=rfl
attribute [go_sem] Tryz.ntmps98
@[go_sem] theorem Tryz.res99 :Tryz.f99.results.toList= [.tmp 2]:=rfl
attribute [go_sem] Tryz.ntmps99
@[go_sem] theorem Tryz.res100 :Tryz.f100.results.toList= [.tmp 4]:=rfl
attribute [go_sem] Tryz.ntmps100
@[go_sem] theorem Tryz.res105 :Tryz.f105.results.toList= [.tmp 2]:=rfl
attribute [go_sem] Tryz.ntmps105
@[go_sem] theorem Tryz.res106 :Tryz.f106.results.toList= [.tmp 2]:=rfl
attribute [go_sem] Tryz.ntmps106
@[go_sem] theorem Tryz.res107 :Tryz.f107.results.toList= [.tmp 2]:=rfl
attribute [go_sem] Tryz.ntmps107
@[go_sem] theorem Tryz.res108 :Tryz.f108.results.toList= [.tmp 3]:=rfl
attribute [go_sem] Tryz.ntmps108
@[go_sem] theorem Tryz.res109 :Tryz.f109.results.toList= [.tmp 2]:=rfl
attribute [go_sem] Tryz.ntmps109
@[go_sem] theorem Tryz.res110 :Tryz.f110.results.toList= [.tmp 3]:=rfl
attribute [go_sem] Tryz.ntmps110
@[go_sem] theorem Tryz.res111 :Tryz.f111.results.toList= [.cell 2 24]:=rfl
attribute [go_sem] Tryz.ntmps111
@[go_sem] theorem Tryz.res112 :Tryz.f112.results.toList= [.tmp 3]:=rfl
attribute [go_sem] Tryz.ntmps112
@[go_sem] theorem Tryz.res113 :Tryz.f113.results.toList= [.tmp 2]:=rfl
attribute [go_sem] Tryz.ntmps113
@[go_sem] theorem Tryz.res114 :Tryz.f114.results.toList= [.tmp 6]:=rfl
attribute [go_sem] Tryz.ntmps114
@[go_sem] theorem Tryz.res115 :Tryz.f115.results.toList= [.tmp 4]:=rfl
attribute [go_sem] Tryz.ntmps115
@[go_sem] theorem Tryz.res116 :Tryz.f116.results.toList= [.tmp 3]:=rfl
attribute [go_sem] Tryz.ntmps116
@[go_sem] theorem Tryz.res117 :Tryz.f117.results.toList= [.tmp 4]:=rfl
attribute [go_sem] Tryz.ntmps117
@[go_sem] theorem Tryz.res118 :Tryz.f118.results.toList= [.cell 2 69]:=rfl
attribute [go_sem] Tryz.ntmps118
@[go_sem] theorem Tryz.res120 :Tryz.f120.results.toList= [.cell 4 111]:=rfl
attribute [go_sem] Tryz.ntmps120
@[go_sem] theorem Tryz.res121 :Tryz.f121.results.toList= [.cell 4 111]:=rfl
attribute [go_sem] Tryz.ntmps121
@[go_sem] theorem Tryz.res123 :Tryz.f123.results.toList= [.tmp 2]:=rfl
attribute [go_sem] Tryz.ntmps123
@[go_sem] theorem Tryz.res124 :Tryz.f124.results.toList= [.tmp 4]:=rfl
attribute [go_sem] Tryz.ntmps124
@[go_sem] theorem Tryz.res125 :Tryz.f125.results.toList= [.tmp 2]:=rfl
attribute [go_sem] Tryz.ntmps125
@[go_sem] theorem Tryz.res126 :Tryz.f126.results.toList= [.tmp 4]:=rfl
attribute [go_sem] Tryz.ntmps126
@[go_sem] theorem Tryz.res127 :Tryz.f127.results.toList= [.tmp 2]:=rfl
attribute [go_sem] Tryz.ntmps127
@[go_sem] theorem Tryz.res128 :Tryz.f128.results.toList= [.tmp 2]:=rfl
attribute [go_sem] Tryz.ntmps128
@[go_sem] theorem Tryz.res129 :Tryz.f129.results.toList= [.tmp 2]:=rfl
attribute [go_sem] Tryz.ntmps129
@[go_sem] theorem Tryz.res130 :Tryz.f130.results.toList= [.tmp 4]:=rfl
attribute [go_sem] Tryz.ntmps130
@[go_sem] theorem Tryz.res131 :Tryz.f131.results.toList= [.tmp 4]:=rfl
attribute [go_sem] Tryz.ntmps131
@[go_sem] theorem Tryz.res132 :Tryz.f132.results.toList= [.tmp 2]:=rfl
attribute [go_sem] Tryz.ntmps132
@[go_sem] theorem Tryz.res133 :Tryz.f133.results.toList= [.cell 6 111]:=rfl
attribute [go_sem] Tryz.ntmps133
@[go_sem] theorem Tryz.res134 :Tryz.f134.results.toList= [.tmp 2]:=rfl
attribute [go_sem] Tryz.ntmps134
@[go_sem] theorem Tryz.res135 :Tryz.f135.results.toList= [.tmp 4]:=rfl
attribute [go_sem] Tryz.ntmps135
@[go_sem] theorem Tryz.res136 :Tryz.f136.results.toList= [.tmp 2,.tmp 3]:=rfl
attribute [go_sem] Tryz.ntmps136
@[go_sem] theorem Tryz.res137 :Tryz.f137.results.toList= [.tmp 6]:=rfl
attribute [go_sem] Tryz.ntmps137
@[go_sem] theorem Tryz.res138 :Tryz.f138.results.toList= [.tmp 2]:=rfl
attribute [go_sem] Tryz.ntmps138
@[go_sem] theorem Tryz.res139 :Tryz.f139.results.toList= [.tmp 2]:=rfl
attribute [go_sem] Tryz.ntmps139
@[go_sem] theorem Tryz.res140 :Tryz.f140.results.toList= [.tmp 4,.tmp 5]:=rfl
attribute [go_sem] Tryz.ntmps140
@[go_sem] theorem Tryz.res141 :Tryz.f141.results.toList= [.tmp 8,.tmp 9]:=rfl
attribute [go_sem] Tryz.ntmps141
@[go_sem] theorem Tryz.res142 :Tryz.f142.results.toList= [.tmp 2]:=rfl
attribute [go_sem] Tryz.ntmps142
@[go_sem] theorem Tryz.res143 :Tryz.f143.results.toList= [.tmp 2]:=rfl
attribute [go_sem] Tryz.ntmps143
@[go_sem] theorem Tryz.res148 :Tryz.f148.results.toList= [.tmp 4]:=rfl
attribute [go_sem] Tryz.ntmps148
@[go_sem] theorem Tryz.res149 :Tryz.f149.results.toList= [.tmp 2]:=rfl
attribute [go_sem] Tryz.ntmps149
@[go_sem] theorem Tryz.res150 :Tryz.f150.results.toList= [.cell 4 24]:=rfl
attribute [go_sem] Tryz.ntmps150
@[go_sem] theorem Tryz.res151 :Tryz.f151.results.toList= [.cell 2 24]:=rfl
attribute [go_sem] Tryz.ntmps151
@[go_sem] theorem Tryz.res152 :Tryz.f152.results.toList= [.tmp 4]:=rfl
attribute [go_sem] Tryz.ntmps152
@[go_sem] theorem Tryz.res153 :Tryz.f153.results.toList= [.tmp 2]:=rfl
attribute [go_sem] Tryz.ntmps153
@[go_sem] theorem Tryz.res154 :Tryz.f154.results.toList= [.tmp 4]:=rfl
attribute [go_sem] Tryz.ntmps154
@[go_sem] theorem Tryz.res155 :Tryz.f155.results.toList= [.tmp 4]:=rfl
attribute [go_sem] Tryz.ntmps155
@[go_sem] theorem Tryz.res156 :Tryz.f156.results.toList= [.tmp 4]:=rfl
attribute [go_sem] Tryz.ntmps156
@[go_sem] theorem Tryz.res157 :Tryz.f157.results.toList= [.tmp 4]:=rfl
attribute [go_sem] Tryz.ntmps157
@[go_sem] theorem Tryz.res158 :Tryz.f158.results.toList= [.cell 2 111]:=rfl
attribute [go_sem] Tryz.ntmps158
@[go_sem] theorem Tryz.res160 :Tryz.f160.results.toList= [.tmp 2]:=rfl
attribute [go_sem] Tryz.ntmps160
@[go_sem] theorem Tryz.res161 :Tryz.f161.results.toList= [.tmp 2]:=rfl
attribute [go_sem] Tryz.ntmps161
@[go_sem] theorem Tryz.res162 :Tryz.f162.results.toList= [.tmp 2]:=rfl
attribute [go_sem] Tryz.ntmps162
@[go_sem] theorem Tryz.res163 :Tryz.f163.results.toList= [.tmp 2]:=rfl
attribute [go_sem] Tryz.ntmps163
@[go_sem] theorem Tryz.res164 :Tryz.f164.results.toList= [.tmp 4]:=rfl
attribute [go_sem] Tryz.ntmps164
@[go_sem] theorem Tryz.res165 :Tryz.f165.results.toList= [.tmp 4]:=rfl
attribute [go_sem] Tryz.ntmps165
@[go_sem] theorem Tryz.res166 :Tryz.f166.results.toList= [.tmp 4]:=rfl
attribute [go_sem] Tryz.ntmps166
@[go_sem] theorem Tryz.res167 :Tryz.f167.results.toList= [.tmp 4,.tmp 5]:=rfl
attribute [go_sem] Tryz.ntmps167
@[go_sem] theorem Tryz.res168 :Tryz.f168.results.toList= [.tmp 4]:=rfl
attribute [go_sem] Tryz.ntmps168
@[go_sem] theorem Tryz.res169 :Tryz.f169.results.toList= [.tmp 4]:=rfl
attribute [go_sem] Tryz.ntmps169
@[go_sem] theorem Tryz.res170 :Tryz.f170.results.toList= [.tmp 2]:=rfl
attribute [go_sem] Tryz.ntmps170
@[go_sem] theorem Tryz.res171 :Tryz.f171.results.toList= [.cell 4 24,.tmp 5]:=rfl
attribute [go_sem] Tryz.ntmps171
@[go_sem] theorem Tryz.res172 :Tryz.f172.results.toList= [.cell 8 69,.tmp 9]:=rfl
attribute [go_sem] Tryz.ntmps172
@[go_sem] theorem Tryz.res173 :Tryz.f173.results.toList= []:=rfl
attribute [go_sem] Tryz.ntmps173
@[go_sem] theorem Tryz.res174 :Tryz.f174.results.toList= [.tmp 2]:=rfl
attribute [go_sem] Tryz.ntmps174
@[go_sem] theorem Tryz.res175 :Tryz.f175.results.toList= [.tmp 2]:=rfl
attribute [go_sem] Tryz.ntmps175
@[go_sem] theorem Tryz.res176 :Tryz.f176.results.toList= [.cell 2 69]:=rfl
attribute [go_sem] Tryz.ntmps176
@[go_sem] theorem Tryz.res177 :Tryz.f177.results.toList= [.tmp 4]:=rfl
attribute [go_sem] Tryz.ntmps177
@[go_sem] theorem Tryz.res178 :Tryz.f178.results.toList= [.tmp 2]:=rfl
attribute [go_sem] Tryz.ntmps178
@[go_sem] theorem Tryz.res179 :Tryz.f179.results.toList= [.tmp 4]:=rfl
attribute [go_sem] Tryz.ntmps179
@[go_sem] theorem Tryz.res180 :Tryz.f180.results.toList= [.tmp 2]:=rfl
attribute [go_sem] Tryz.ntmps180
@[go_sem] theorem Tryz.res181 :Tryz.f181.results.toList= [.cell 6 111]:=rfl
attribute [go_sem] Tryz.ntmps181
@[go_sem] theorem Tryz.res182 :Tryz.f182.results.toList= [.cell 4 69,.tmp 5]:=rfl
attribute [go_sem] Tryz.ntmps182
@[go_sem] theorem Tryz.res186 :Tryz.f186.results.toList= [.cell 4 69]:=rfl
attribute [go_sem] Tryz.ntmps186
@[go_sem] theorem Tryz.res187 :Tryz.f187.results.toList= [.cell 2 69]:=rfl
attribute [go_sem] Tryz.ntmps187
@[go_sem] theorem Tryz.res188 :Tryz.f188.results.toList= [.tmp 2]:=rfl
attribute [go_sem] Tryz.ntmps188
@[go_sem] theorem Tryz.res189 :Tryz.f189.results.toList= [.tmp 2]:=rfl
attribute [go_sem] Tryz.ntmps189
end Go.Proofs
end
section
/-Natural numbers by digits:values,the right digits of a number. No program in it. -/
namespace Go.Pv
theorem V2d {α:Type} {P:List α→Prop} (nil:P []) (snoc: ∀l x,P l→P (l++ [x])) (l:List α):P l:=by
 have: ∀r:List α,P r.reverse:=fun r=>by
  induction r with
  | nil=>exact nil
  | cons x r ih=>rw [List.reverse_cons];exact snoc _ _ ih
 have h:=this l.reverse
 rwa [List.reverse_reverse] at h
def val (B:Nat):List Nat→Nat
 | []=>0
 | x::l=>x+B*val B l
def digs (B:Nat) (n:Nat):List Nat:=if h:n=0∨B<2 then [] else n % B::digs B (n/B)
termination_by n
decreasing_by exact Nat.div_lt_self (by omega) (by omega)
theorem V0d (B:Nat):digs B 0= []:=by rw [digs,dif_pos (.inl rfl)]
theorem x0m {B n:Nat} (hB:2≤B) (h:n≠0):digs B n=n % B::digs B (n/B):=by rw [digs,dif_neg (by omega)]
theorem Y1j {B:Nat} (hB:2≤B) (n:Nat):val B (digs B n)=n:=by
 induction n using Nat.strongRecOn with
 | _ n ih=>
  by_cases h:n=0
  · subst h;simp [V0d,val]
  · rw [x0m hB h,val,ih _ (Nat.div_lt_self (by omega) (by omega))]
    exact Nat.mod_add_div n B
theorem k1q {B:Nat} (hB:2≤B) (n:Nat): ∀x∈digs B n,x<B:=by
 induction n using Nat.strongRecOn with
 | _ n ih=>
  by_cases h:n=0
  · subst h;simp [V0d]
  · rw [x0m hB h]
    intro x hx
    rcases List.mem_cons.1 hx with rfl | hx
    · exact Nat.mod_lt _ (by omega)
    · exact ih _ (Nat.div_lt_self (by omega) (by omega)) x hx
def K1g (l:List Nat):List Nat:=(l.reverse.dropWhile (· ==0)).reverse
theorem G0w (l:List Nat) (x:Nat):K1g (l++ [x])=if x=0 then K1g l else l++ [x]:=by
 unfold K1g
 rw [List.reverse_append]
 simp only [List.reverse_cons,List.reverse_nil,List.nil_append,List.singleton_append,List.dropWhile_cons]
 by_cases h:x=0<;>simp [h]
theorem H1c :K1g []= []:=rfl
theorem K1z (B:Nat) (l m:List Nat):val B (l++m)=val B l+B^l.length*val B m:=by
 induction l with
 | nil=>simp [val]
 | cons x l ih=>
  simp only [List.cons_append,val,ih,List.length_cons,Nat.pow_succ,Nat.mul_add]
  rw [Nat.mul_comm (B^l.length) B,Nat.mul_assoc];omega
theorem v1k {B:Nat} (hB:0<B): ∀l:List Nat,(∀x∈l,x<B)→val B l<B^l.length
 | [],_=>by simp [val]
 | x::l,h=>by
  have h1:=v1k hB l fun y hy=>h y (List.mem_cons_of_mem _ hy)
  have h2:=h x (List.mem_cons_self)
  simp only [val,List.length_cons,Nat.pow_succ]
  have:B*(val B l+1)≤B*B^l.length:=Nat.mul_le_mul_left _ h1
  rw [Nat.mul_comm (B^l.length) B]
  rw [Nat.mul_add] at this;omega
theorem Q2s (x:Nat) (l:List Nat):K1g (x::l)=if K1g l= [] then(if x=0 then [] else [x]) else x::K1g l:=by
 induction l using V2d with
 | nil=>
  have:=G0w [] x
  simpa [H1c] using this
 | snoc l y ih=>
  have e:x::(l++ [y])=(x::l)++ [y]:=rfl
  rw [e,G0w,G0w]
  by_cases h:y=0
  · simp [h,ih]
  · simp [h]
theorem G1e {B:Nat} (hB:2≤B): ∀l:List Nat,(∀x∈l,x<B)→digs B (val B l)=K1g l
 | [],_=>by simp [val,V0d,H1c]
 | x::l,h=>by
  have ih:=G1e hB l fun y hy=>h y (List.mem_cons_of_mem _ hy)
  have h2:=h x (List.mem_cons_self)
  rw [Q2s,←ih,val]
  by_cases hv:val B l=0
  · rw [hv,V0d]
    simp only [Nat.mul_zero,Nat.add_zero,if_true]
    by_cases hx:x=0
    · rw [if_pos hx,hx,V0d]
    · rw [if_neg hx,x0m hB hx,Nat.mod_eq_of_lt h2,Nat.div_eq_of_lt h2,V0d]
  · have hne:x+B*val B l≠0:=by
     have:0<B*val B l:=Nat.mul_pos (by omega) (by omega)
     omega
    rw [x0m hB hne,if_neg (by rw [x0m hB hv];simp),Nat.add_mul_mod_self_left,Nat.mod_eq_of_lt h2,Nat.add_mul_div_left _ _ (by omega),Nat.div_eq_of_lt h2,Nat.zero_add]
theorem G0t {B:Nat} (hB:2≤B) (k:Nat): ∀n,n<B^k→(digs B n).length≤k:=by
 induction k with
 | zero=>intro n h;have:n=0:=by simpa using h
         subst this;simp [V0d]
 | succ k ih=>
  intro n h
  by_cases h0:n=0
  · subst h0;simp [V0d]
  · rw [x0m hB h0,List.length_cons]
    have:=ih (n/B) (by rw [Nat.div_lt_iff_lt_mul (by omega)];rw [Nat.pow_succ] at h;exact h)
    omega
def nW (l:List UInt64):List Nat:=l.map UInt64.toNat
def valW (l:List UInt64):Nat:=val 18446744073709551616 (nW l)
def Z0z (n:Nat):List UInt64:=(digs 18446744073709551616 n).map UInt64.ofNat
def nD (l:List UInt32):List Nat:=l.map UInt32.toNat
def valD (l:List UInt32):Nat:=val 4294967296 (nD l)
def Q0d (n:Nat):List UInt32:=(digs 4294967296 n).map UInt32.ofNat
def cutW (l:List UInt64):List UInt64:=(l.reverse.dropWhile (· ==0)).reverse
def cutD (l:List UInt32):List UInt32:=(l.reverse.dropWhile (· ==0)).reverse
theorem x2g (l:List UInt64): ∀x∈nW l,x<18446744073709551616:=by
 intro x hx
 obtain⟨c,_,rfl⟩:=List.mem_map.1 hx
 exact UInt64.toNat_lt c
theorem Z3z (l:List UInt32): ∀x∈nD l,x<4294967296:=by
 intro x hx
 obtain⟨c,_,rfl⟩:=List.mem_map.1 hx
 exact UInt32.toNat_lt c
theorem x1b (l:List UInt64) (x:UInt64):cutW (l++ [x])=if x=0 then cutW l else l++ [x]:=by
 unfold cutW
 rw [List.reverse_append]
 simp only [List.reverse_cons,List.reverse_nil,List.nil_append,List.singleton_append,List.dropWhile_cons]
 by_cases h:x=0<;>simp [h]
theorem x1d (l:List UInt32) (x:UInt32):cutD (l++ [x])=if x=0 then cutD l else l++ [x]:=by
 unfold cutD
 rw [List.reverse_append]
 simp only [List.reverse_cons,List.reverse_nil,List.nil_append,List.singleton_append,List.dropWhile_cons]
 by_cases h:x=0<;>simp [h]
theorem Q1k (x:UInt64):x=0↔x.toNat=0:=⟨fun h=>by rw [h];rfl,fun h=>UInt64.toNat.inj h⟩
theorem z0t (x:UInt32):x=0↔x.toNat=0:=⟨fun h=>by rw [h];rfl,fun h=>UInt32.toNat.inj h⟩
theorem U3y (l:List UInt64):nW (cutW l)=K1g (nW l):=by
 induction l using V2d with
 | nil=>rfl
 | snoc l x ih=>
  rw [x1b]
  have e:nW (l++ [x])=nW l++ [x.toNat]:=by simp [nW]
  rw [e,G0w]
  by_cases h:x=0
  · rw [if_pos h,if_pos ((Q1k x).1 h),ih]
  · rw [if_neg h,if_neg (fun e=>h ((Q1k x).2 e)),e]
theorem U3z (l:List UInt32):nD (cutD l)=K1g (nD l):=by
 induction l using V2d with
 | nil=>rfl
 | snoc l x ih=>
  rw [x1d]
  have e:nD (l++ [x])=nD l++ [x.toNat]:=by simp [nD]
  rw [e,G0w]
  by_cases h:x=0
  · rw [if_pos h,if_pos ((z0t x).1 h),ih]
  · rw [if_neg h,if_neg (fun e=>h ((z0t x).2 e)),e]
theorem z2x (l:List UInt64):(nW l).map UInt64.ofNat=l:=by
 simp only [nW,List.map_map]
 conv=>rhs;rw [←List.map_id l]
 exact List.map_congr_left fun a _=>by simp
theorem z2y (l:List UInt32):(nD l).map UInt32.ofNat=l:=by
 simp only [nD,List.map_map]
 conv=>rhs;rw [←List.map_id l]
 exact List.map_congr_left fun a _=>by simp
theorem X0h (l:List UInt64):Z0z (valW l)=cutW l:=by
 rw [Z0z,valW,G1e (by decide) _ (x2g l),←U3y,z2x]
theorem K0x (l:List UInt32):Q0d (valD l)=cutD l:=by
 rw [Q0d,valD,G1e (by decide) _ (Z3z l),←U3z,z2y]
theorem X2a (n:Nat):nW (Z0z n)=digs 18446744073709551616 n:=by
 simp only [nW,Z0z,List.map_map]
 conv=>rhs;rw [←List.map_id (digs _ n)]
 exact List.map_congr_left fun a ha=>by
  have:=k1q (B:=18446744073709551616) (by decide) n a ha
  simp only [Function.comp,id]
  rw [UInt64.toNat_ofNat'];omega
theorem k1b (n:Nat):nD (Q0d n)=digs 4294967296 n:=by
 simp only [nD,Q0d,List.map_map]
 conv=>rhs;rw [←List.map_id (digs _ n)]
 exact List.map_congr_left fun a ha=>by
  have:=k1q (B:=4294967296) (by decide) n a ha
  simp only [Function.comp,id]
  rw [UInt32.toNat_ofNat'];omega
theorem J0t (n:Nat):valW (Z0z n)=n:=by rw [valW,X2a,Y1j (by decide)]
theorem Z0e (n:Nat):valD (Q0d n)=n:=by rw [valD,k1b,Y1j (by decide)]
theorem Q1j (l:List UInt64):valW (cutW l)=valW l:=by
 rw [←X0h,J0t]
theorem G0k (n:Nat):cutW (Z0z n)=Z0z n:=by rw [←X0h,J0t]
theorem q0b (n:Nat):cutD (Q0d n)=Q0d n:=by rw [←K0x,Z0e]
theorem Y1k :valW []=0:=rfl
theorem z0s :valD []=0:=rfl
theorem q0i :Z0z 0= []:=by simp [Z0z,V0d]
theorem Z0v :Q0d 0= []:=by simp [Q0d,V0d]
theorem wordsOf_nil {n:Nat} :Z0z n= []↔n=0:=⟨fun h=>by rw [←J0t n,h,Y1k],fun h=>by rw [h,q0i]⟩
theorem digitsOf_nil {n:Nat} :Q0d n= []↔n=0:=⟨fun h=>by rw [←Z0e n,h,z0s],fun h=>by rw [h,Z0v]⟩
theorem j0g (l m:List UInt64):valW (l++m)=valW l+18446744073709551616^l.length*valW m:=by
 have e:nW (l++m)=nW l++nW m:=by simp [nW]
 rw [valW,e,K1z];simp [valW,nW]
theorem j0h (l m:List UInt32):valD (l++m)=valD l+4294967296^l.length*valD m:=by
 have e:nD (l++m)=nD l++nD m:=by simp [nD]
 rw [valD,e,K1z];simp [valD,nD]
theorem Y1l (l:List UInt64):valW l<18446744073709551616^l.length:=by
 have:=v1k (B:=18446744073709551616) (by decide) _ (x2g l)
 simpa [valW,nW] using this
theorem w0b (l:List UInt32):valD l<4294967296^l.length:=by
 have:=v1k (B:=4294967296) (by decide) _ (Z3z l)
 simpa [valD,nD] using this
theorem y0c (l:List UInt64):(cutW l).length≤l.length:=by
 unfold cutW
 rw [List.length_reverse]
 have:=(List.dropWhile_sublist (· ==(0:UInt64)) (l:=l.reverse)).length_le
 simpa using this
theorem J3z (l:List UInt32):(cutD l).length≤l.length:=by
 unfold cutD
 rw [List.length_reverse]
 have:=(List.dropWhile_sublist (· ==(0:UInt32)) (l:=l.reverse)).length_le
 simpa using this
theorem J1r (l:List UInt64) (h:l≠ []):(cutW l).length=l.length↔l.getD (l.length-1) 0≠0:=by
 obtain⟨i,x,rfl⟩: ∃i x,l=i++ [x]:=⟨l.dropLast,l.getLast h,(List.dropLast_concat_getLast h).symm⟩
 rw [x1b]
 have e:(i++ [x]).getD ((i++ [x]).length-1) 0=x:=by simp [List.getD_eq_getElem?_getD]
 rw [e]
 have:=y0c i
 by_cases hx:x=0
 · simp [hx];omega
 · simp [hx]
theorem U2w (l:List UInt64) (h:cutW l≠ []):(cutW l).getD ((cutW l).length-1) 0≠0:=by
 rw [←J1r _ h]
 congr 1
 rw [←X0h l,G0k]
theorem j0c {α:Type} (p:α→Bool) (l:List α) (n:Nat) (d:α) (hn:n≤l.length) (hz: ∀j,n≤j→j<l.length→p (l.getD j d)=true) (hl:n=0∨p (l.getD (n-1) d)=false):(l.reverse.dropWhile p).reverse=l.take n:=by
 have e:l=l.take n++l.drop n:=(List.take_append_drop n l).symm
 have hd: ∀x∈(l.drop n).reverse,p x=true:=fun x hx=>by
  rw [List.mem_reverse] at hx
  obtain⟨j,hj,rfl⟩:=List.mem_iff_getElem.1 hx
  rw [List.length_drop] at hj
  have:=hz (n+j) (by omega) (by omega)
  rw [List.getD_eq_getElem?_getD,List.getElem?_eq_getElem (by omega)] at this
  simp only [Option.getD_some] at this
  rw [List.getElem_drop,this]
 conv=>lhs;rw [e]
 rw [List.reverse_append,List.dropWhile_append_of_pos hd]
 rcases hl with rfl | hl
 · simp
 · by_cases h0:n=0
   · subst h0;simp
   · have hne:l.take n=l.take (n-1)++ [l.getD (n-1) d]:=by
      have h1:n-1<l.length:=by omega
      have:=List.take_succ_eq_append_getElem h1
      rw [show n-1+1=n from by omega] at this
      rw [this,List.getD_eq_getElem?_getD,List.getElem?_eq_getElem h1];rfl
     rw [hne,List.reverse_append]
     simp only [List.reverse_cons,List.reverse_nil,List.nil_append,List.singleton_append]
     rw [List.dropWhile_cons_of_neg (by simpa using hl)]
     simp
theorem k1v (l:List UInt64) (n:Nat) (hn:n≤l.length) (hz: ∀j,n≤j→j<l.length→l.getD j 0=0) (hl:n=0∨l.getD (n-1) 0≠0):cutW l=l.take n:=
 j0c _ l n 0 hn (fun j h1 h2=>by simpa using hz j h1 h2) (hl.imp id fun h=>by simpa using h)
theorem K3a (l:List UInt32) (n:Nat) (hn:n≤l.length) (hz: ∀j,n≤j→j<l.length→l.getD j 0=0) (hl:n=0∨l.getD (n-1) 0≠0):cutD l=l.take n:=
 j0c _ l n 0 hn (fun j h1 h2=>by simpa using hz j h1 h2) (hl.imp id fun h=>by simpa using h)
def Q0j (n:Nat):Nat:=if n=0 then 0 else Nat.log2 n+1
theorem X0b (n:Nat):n<2^Q0j n:=by
 unfold Q0j
 split
 · rename_i h;subst h;decide
 · exact Nat.lt_log2_self
theorem Y0u {n:Nat} (h:n≠0):2^(Q0j n-1)≤n:=by
 unfold Q0j
 rw [if_neg h]
 exact Nat.log2_self_le h
theorem bitlen_le_iff {n k:Nat} :Q0j n≤k↔n<2^k:=by
 constructor
 · intro h
   exact Nat.lt_of_lt_of_le (X0b n) (Nat.pow_le_pow_right (by decide) h)
 · intro h
   by_cases h0:n=0
   · subst h0;simp [Q0j]
   · apply Nat.le_of_not_lt;intro hk
     have h1:=Y0u h0
     have h2:2^k≤2^(Q0j n-1):=Nat.pow_le_pow_right (by decide) (by omega)
     omega
theorem x1p {n k:Nat} (h1:2^k≤n) (h2:n<2^(k+1)):Q0j n=k+1:=by
 have a:=bitlen_le_iff.2 h2
 have b: ¬Q0j n≤k:=fun h=>by have:=bitlen_le_iff.1 h;omega
 omega
theorem K0t :Q0j 0=0:=rfl
theorem y0i {n:Nat} (h:n≠0):0<Q0j n:=by unfold Q0j;rw [if_neg h];omega
theorem Y0c (n k:Nat) (h:n≠0):Q0j (n*2^k)=Q0j n+k:=by
 have h1:=Y0u h
 have h2:=X0b n
 have h3:=y0i h
 have e:Q0j n+k=(Q0j n-1+k)+1:=by omega
 rw [e]
 apply x1p
 · rw [Nat.pow_add];exact Nat.mul_le_mul_right _ h1
 · rw [show Q0j n-1+k+1=Q0j n+k from by omega,Nat.pow_add]
   exact Nat.mul_lt_mul_of_pos_right h2 (Nat.pow_pos (by decide))
theorem z0m (v k:Nat) (h:v/2^k≠0):Q0j v=Q0j (v/2^k)+k:=by
 have h1:=Y0u h
 have h2:=X0b (v/2^k)
 have h3:=y0i h
 have e:Q0j (v/2^k)+k=(Q0j (v/2^k)-1+k)+1:=by omega
 rw [e]
 apply x1p
 · rw [Nat.pow_add]
   exact Nat.le_trans (Nat.mul_le_mul_right _ h1) (Nat.div_mul_le_self v (2^k))
 · rw [show Q0j (v/2^k)-1+k+1=Q0j (v/2^k)+k from by omega,Nat.pow_add]
   exact(Nat.div_lt_iff_lt_mul (Nat.pow_pos (by decide))).1 h2
theorem G2r (n:Nat) (h:n<18446744073709551616):Q0j n≤64:=bitlen_le_iff.2 h
theorem x1o (n:Nat) (h:n<4294967296):Q0j n≤32:=bitlen_le_iff.2 h
theorem Y1e (a x k:Nat) (ha:a<2^k) (hx:x≠0):Q0j (a+2^k*x)=k+Q0j x:=by
 have hp:0<2^k:=Nat.pow_pos (by decide)
 have e:(a+2^k*x)/2^k=x:=by
  rw [Nat.add_mul_div_left _ _ hp,Nat.div_eq_of_lt ha,Nat.zero_add]
 rw [z0m _ k (by rw [e];exact hx),e,Nat.add_comm]
end Go.Pv
end
section
/-Natural numbers by digits:order,digits put in H0q. No program in it. -/
namespace Go.Pv
def cmpI (a b:Int):Int:=if a<b then -1 else if a>b then 1 else 0
def cmpW (a b:Nat):Int:=cmpI (a:Int) (b:Int)
theorem Y0w {a b:Int} (h:a<b):cmpI a b= -1:=by rw [cmpI,if_pos h]
theorem Y0x {a b:Int} (h:b<a):cmpI a b=1:=by rw [cmpI,if_neg (by omega),if_pos h]
theorem y0d {a b:Int} (h:a=b):cmpI a b=0:=by rw [cmpI,if_neg (by omega),if_neg (by omega)]
theorem x1g (a b:Int):cmpI b a= -cmpI a b:=by
 unfold cmpI
 by_cases h1:a<b
 · rw [if_pos h1,if_neg (by omega),if_pos (by omega)];rfl
 · by_cases h2:b<a
   · rw [if_pos h2,if_neg h1,if_pos (by omega)]
   · rw [if_neg h2,if_neg (by omega),if_neg h1,if_neg (by omega)];rfl
theorem x1h (a b:Int):cmpI (-a) (-b)= -cmpI a b:=by
 rw [←x1g];unfold cmpI
 by_cases h1:b<a
 · rw [if_pos h1,if_pos (by omega)]
 · rw [if_neg h1,if_neg (by omega)]
   by_cases h2:b>a
   · rw [if_pos h2,if_pos (by omega)]
   · rw [if_neg h2,if_neg (by omega)]
theorem k2d {a b k:Int} (h:0<k):cmpI (a*k) (b*k)=cmpI a b:=by
 unfold cmpI
 have e1:a*k<b*k↔a<b:=Int.mul_lt_mul_right h
 have e2:b*k<a*k↔b<a:=Int.mul_lt_mul_right h
 simp only [e1,gt_iff_lt,e2]
theorem z1z {B n m:Nat} (hB:2≤B) (h:n≤m):(digs B n).length≤(digs B m).length:=by
 apply G0t hB
 have h2:=v1k (B:=B) (by omega) _ (k1q hB m)
 rw [Y1j hB] at h2
 omega
theorem k0h {B:Nat} : ∀(l m:List Nat) (i:Nat),(∀x∈l,x<B)→l.length=m.length→i<l.length→
 (∀j,i<j→j<l.length→l.getD j 0=m.getD j 0)→l.getD i 0<m.getD i 0→val B l<val B m
 | [],_,_,_,_,h,_,_=>by simp at h
 | x::l,[],_,_,h,_,_,_=>by simp at h
 | x::l,y::m,0,hl,hlen,_,heq,hlt=>by
  have e:l=m:=List.ext_getElem (by simpa using hlen) fun j h1 h2=>by
   have:=heq (j+1) (by omega) (by simp;omega)
   simpa [List.getD_eq_getElem?_getD,h1,h2] using this
  subst e
  simp only [val]
  have:x<y:=by simpa using hlt
  omega
 | x::l,y::m,i+1,hl,hlen,hi,heq,hlt=>by
  have ih:=k0h l m i (fun z hz=>hl z (List.mem_cons_of_mem _ hz)) (by simpa using hlen) (by simpa using hi)
   (fun j h1 h2=>by have:=heq (j+1) (by omega) (by simp;omega);simpa using this) (by simpa using hlt)
  have hx:=hl x List.mem_cons_self
  simp only [val]
  have:B*(val B l+1)≤B*val B m:=Nat.mul_le_mul_left _ ih
  rw [Nat.mul_add] at this
  omega
theorem x1y (B:Nat): ∀(l:List Nat) (i x:Nat),i<l.length→val B (l.set i x)+B^i*l.getD i 0=val B l+B^i*x
 | [],i,x,h=>by simp at h
 | y::l,0,x,h=>by simp [val];omega
 | y::l,i+1,x,h=>by
  have ih:=x1y B l i x (by simpa using h)
  simp only [List.set_cons_succ,val,List.getD_cons_succ,Nat.pow_succ]
  have:B*(val B (l.set i x)+B^i*l.getD i 0)=B*(val B l+B^i*x):=by rw [ih]
  rw [Nat.mul_add,Nat.mul_add] at this
  rw [Nat.mul_comm (B^i) B,Nat.mul_assoc,Nat.mul_assoc]
  omega
theorem G0b (B n:Nat):val B (List.replicate n 0)=0:=by
 induction n with
 | zero=>rfl
 | succ n ih=>rw [List.replicate_succ,val,ih];simp
theorem H0s (l:List UInt64) (i:Nat):(nW l).getD i 0=(l.getD i 0).toNat:=by
 simp only [nW,List.getD_eq_getElem?_getD,List.getElem?_map]
 cases l[i]?<;>rfl
theorem X1w (l:List UInt32) (i:Nat):(nD l).getD i 0=(l.getD i 0).toNat:=by
 simp only [nD,List.getD_eq_getElem?_getD,List.getElem?_map]
 cases l[i]?<;>rfl
theorem v1l (l:List UInt64) (i:Nat) (c:UInt64) (h:i<l.length):valW (l.set i c)+18446744073709551616^i*(l.getD i 0).toNat=valW l+18446744073709551616^i*c.toNat:=by
 have:=x1y 18446744073709551616 (nW l) i c.toNat (by simpa [nW] using h)
 rw [H0s] at this
 have e:(nW l).set i c.toNat=nW (l.set i c):=by simp [nW,List.map_set]
 rw [e] at this
 exact this
theorem v1m (l:List UInt32) (i:Nat) (c:UInt32) (h:i<l.length):valD (l.set i c)+4294967296^i*(l.getD i 0).toNat=valD l+4294967296^i*c.toNat:=by
 have:=x1y 4294967296 (nD l) i c.toNat (by simpa [nD] using h)
 rw [X1w] at this
 have e:(nD l).set i c.toNat=nD (l.set i c):=by simp [nD,List.map_set]
 rw [e] at this
 exact this
theorem Q2q (n:Nat):valW (List.replicate n 0)=0:=by
 have:nW (List.replicate n 0)=List.replicate n 0:=by simp [nW]
 rw [valW,this,G0b]
theorem Q2r (n:Nat):valD (List.replicate n 0)=0:=by
 have:nD (List.replicate n 0)=List.replicate n 0:=by simp [nD]
 rw [valD,this,G0b]
theorem J2r (l:List UInt64) (c:UInt64):valW (l++ [c])=valW l+18446744073709551616^l.length*c.toNat:=by
 rw [j0g];simp [valW,nW,val]
theorem k0i (l:List UInt32) (c:UInt32):valD (l++ [c])=valD l+4294967296^l.length*c.toNat:=by
 rw [j0h];simp [valD,nD,val]
theorem Y0d {α:Type} (l:List α) (i:Nat) (d:α) (h:i<l.length):l.take (i+1)=l.take i++ [l.getD i d]:=by
 rw [List.take_succ_eq_append_getElem h,List.getD_eq_getElem?_getD,List.getElem?_eq_getElem h];rfl
theorem G0l (l:List UInt64) (i:Nat) (h:i<l.length):valW (l.take (i+1))=valW (l.take i)+18446744073709551616^i*(l.getD i 0).toNat:=by
 rw [Y0d l i 0 h,J2r,List.length_take,Nat.min_eq_left (by omega)]
theorem W0y (l:List UInt32) (i:Nat) (h:i<l.length):valD (l.take (i+1))=valD (l.take i)+4294967296^i*(l.getD i 0).toNat:=by
 rw [Y0d l i 0 h,k0i,List.length_take,Nat.min_eq_left (by omega)]
theorem W0o {n k:Nat} (h:n<18446744073709551616^k):(Z0z n).length≤k:=by
 simp only [Z0z,List.length_map];exact G0t (by decide) k n h
theorem v0t {n k:Nat} (h:n<4294967296^k):(Q0d n).length≤k:=by
 simp only [Q0d,List.length_map];exact G0t (by decide) k n h
theorem v0n (n:Nat):n<4294967296^(Q0d n).length:=by
 have:=w0b (Q0d n);rwa [Z0e] at this
theorem y0k {n m:Nat} (h:n≤m):(Z0z n).length≤(Z0z m).length:=by
 simp only [Z0z,List.length_map];exact z1z (by decide) h
theorem q0a {n m:Nat} (h:n≤m):(Q0d n).length≤(Q0d m).length:=by
 simp only [Q0d,List.length_map];exact z1z (by decide) h
theorem k1w {a b:List UInt64} (ha:cutW a=a) (hb:cutW b=b) (h:a.length≠b.length):cmpI a.length b.length=cmpW (valW a) (valW b):=by
 rw [←X0h] at ha hb
 have m1:valW a≤valW b→a.length≤b.length:=fun h=>by have:=y0k h;rwa [ha,hb] at this
 have m2:valW b≤valW a→b.length≤a.length:=fun h=>by have:=y0k h;rwa [ha,hb] at this
 by_cases hl:a.length<b.length
 · rw [Y0w (by omega),cmpW,Y0w]
   have: ¬valW b≤valW a:=fun h=>by have:=m2 h;omega
   omega
 · rw [Y0x (by omega),cmpW,Y0x]
   have: ¬valW a≤valW b:=fun h=>by have:=m1 h;omega
   omega
theorem k1z {a b:Nat} (h:(Q0d a).length≠(Q0d b).length):cmpI (Q0d a).length (Q0d b).length=cmpW a b:=by
 have m1:a≤b→(Q0d a).length≤(Q0d b).length:=q0a
 have m2:b≤a→(Q0d b).length≤(Q0d a).length:=q0a
 by_cases hl:(Q0d a).length<(Q0d b).length
 · rw [Y0w (by omega),cmpW,Y0w]
   have: ¬b≤a:=fun h=>by have:=m2 h;omega
   omega
 · rw [Y0x (by omega),cmpW,Y0x]
   have: ¬a≤b:=fun h=>by have:=m1 h;omega
   omega
theorem K3e {a b:List UInt64} (hl:a.length=b.length) (i:Nat) (hi:i<a.length) (heq: ∀j,i<j→j<a.length→a.getD j 0=b.getD j 0) (hne:a.getD i 0≠b.getD i 0):
 cmpI (a.getD i 0).toNat (b.getD i 0).toNat=cmpW (valW a) (valW b):=by
 have hn:(a.getD i 0).toNat≠(b.getD i 0).toNat:=fun e=>hne (UInt64.toNat.inj e)
 have la:(nW a).length=a.length:=by simp [nW]
 have lb:(nW b).length=b.length:=by simp [nW]
 by_cases h:(a.getD i 0).toNat<(b.getD i 0).toNat
 · have:=k0h (nW a) (nW b) i (x2g a) (by omega) (by omega) (fun j h1 h2=>by rw [H0s,H0s,heq j h1 (by omega)]) (by rw [H0s,H0s];exact h)
   rw [Y0w (by omega),cmpW,Y0w]
   simp only [valW];omega
 · have:=k0h (nW b) (nW a) i (x2g b) (by omega) (by omega) (fun j h1 h2=>by rw [H0s,H0s,heq j h1 (by omega)]) (by rw [H0s,H0s];omega)
   rw [Y0x (by omega),cmpW,Y0x]
   simp only [valW];omega
theorem V1a {a b:List UInt32} (hl:a.length=b.length) (i:Nat) (hi:i<a.length) (heq: ∀j,i<j→j<a.length→a.getD j 0=b.getD j 0) (h:(a.getD i 0).toNat<(b.getD i 0).toNat):valD a<valD b:=by
 have la:(nD a).length=a.length:=by simp [nD]
 have lb:(nD b).length=b.length:=by simp [nD]
 exact k0h (nD a) (nD b) i (Z3z a) (by omega) (by omega) (fun j h1 h2=>by rw [X1w,X1w,heq j h1 (by omega)]) (by rw [X1w,X1w];exact h)
theorem H0e {α:Type} {a b:List α} (d:α) (hl:a.length=b.length) (h: ∀j,j<a.length→a.getD j d=b.getD j d):a=b:=
 List.ext_getElem hl fun j h1 h2=>by
  have:=h j h1
  simpa [List.getD_eq_getElem?_getD,h1,h2] using this
theorem G0i {α:Type} (l:List α) (i j:Nat) (x d:α):(l.set i x).getD j d=if i=j∧j<l.length then x else l.getD j d:=by
 simp only [List.getD_eq_getElem?_getD,List.getElem?_set]
 by_cases h:i=j
 · subst h
   by_cases h2:i<l.length
   · simp [h2]
   · simp [h2]
 · simp [h]
theorem Y0b {α:Type} (n j:Nat) (x:α):(List.replicate n x).getD j x=x:=by
 simp only [List.getD_eq_getElem?_getD,List.getElem?_replicate]
 split<;>rfl
theorem W1e {a b:Nat} (h:((a:Int) !=(b:Int))=true):a≠b:=by
 intro e;subst e;simp at h
theorem v0j {a b:Nat} (h:((a:Int) !=(b:Int))=false):a=b:=by
 have:(a:Int)=b:=by simpa using h
 omega
theorem Y0z {a b:Nat} (h:((a:Int)==(b:Int))=true):a=b:=by
 have:(a:Int)=b:=by simpa using h
 omega
theorem G0f {a b:Nat} (h:((a:Int)==(b:Int))=false):a≠b:=by
 intro e;subst e;simp at h
theorem K1v {a b:Int} (h:(a !=b)=true):a≠b:=by intro e;subst e;simp at h
theorem G1s {a b:Int} (h:(a !=b)=false):a=b:=by simpa using h
theorem G1t {a b:Int} (h:(a==b)=true):a=b:=by simpa using h
theorem G1u {a b:Int} (h:(a==b)=false):a≠b:=by intro e;subst e;simp at h
end Go.Pv
end
