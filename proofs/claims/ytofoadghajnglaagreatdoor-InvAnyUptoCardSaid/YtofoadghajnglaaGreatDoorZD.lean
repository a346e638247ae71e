/- Parts of the walk: PvTab, M1, M2. -/
import Derived.Test.YtofoadghajnglaaGreatDoorZC
import Derived.Test.YtofoadghajnglaaGreatDoorProg
import Derived.KernelRfl
set_option linter.unusedVariables false
set_option linter.unusedSimpArgs false
section
/-The facts on the types and functions of this translation that the layer asks for. Printed by gentab.py. -/
namespace Go.Proofs
open Go.Pv
@[go_sem] theorem Tryz.ti1 :ti Tryz.prog 1=some ⟨false,1,.other,some (.nilFunc)⟩:=by kernel_rfl
@[go_sem] theorem Tryz.ti2 :ti Tryz.prog 2=some ⟨false,1,.int .i64,some (.int .i64 0)⟩:=by kernel_rfl
@[go_sem] theorem Tryz.ti3 :ti Tryz.prog 3=some ⟨false,1,.int .i64,some (.int .i64 0)⟩:=by kernel_rfl
@[go_sem] theorem Tryz.ti4 :ti Tryz.prog 4=some ⟨false,1,.bool,some (.bool false)⟩:=by kernel_rfl
@[go_sem] theorem Tryz.ti5 :ti Tryz.prog 5=some ⟨false,1,.int .u8,some (.int .u8 0)⟩:=by kernel_rfl
@[go_sem] theorem Tryz.ti6 :ti Tryz.prog 6=some ⟨false,1,.int .u8,some (.int .u8 0)⟩:=by kernel_rfl
@[go_sem] theorem Tryz.ti7 :ti Tryz.prog 7=some ⟨true,4,.struct [(0,⟨2,1,8,false,true,false⟩),(1,⟨3,1,8,false,true,false⟩),(2,⟨4,1,1,false,true,false⟩),(3,⟨6,1,1,false,true,true⟩)],some (.agg #[.int .i64 0,.int .i64 0,.bool false,.int .u8 0])⟩:=by kernel_rfl
@[go_sem] theorem Tryz.ti8 :ti Tryz.prog 8=some ⟨true,4,.struct [(0,⟨2,1,8,false,true,false⟩),(1,⟨3,1,8,false,true,false⟩),(2,⟨4,1,1,false,true,false⟩),(3,⟨6,1,1,false,true,true⟩)],some (.agg #[.int .i64 0,.int .i64 0,.bool false,.int .u8 0])⟩:=by kernel_rfl
@[go_sem] theorem Tryz.ti9 :ti Tryz.prog 9=some ⟨false,1,.str,some (.string ByteArray.empty)⟩:=by kernel_rfl
@[go_sem] theorem Tryz.ti10 :ti Tryz.prog 10=some ⟨false,1,.str,some (.string ByteArray.empty)⟩:=by kernel_rfl
@[go_sem] theorem Tryz.ti11 :ti Tryz.prog 11=some ⟨false,1,.str,some (.string ByteArray.empty)⟩:=by kernel_rfl
@[go_sem] theorem Tryz.ti12 :ti Tryz.prog 12=some ⟨false,1,.int .u64,some (.int .u64 0)⟩:=by kernel_rfl
@[go_sem] theorem Tryz.ti13 :ti Tryz.prog 13=some ⟨true,2,.struct [(0,⟨9,1,16,false,true,false⟩),(1,⟨12,1,8,false,true,false⟩)],some (.agg #[.string ByteArray.empty,.int .u64 0])⟩:=by kernel_rfl
@[go_sem] theorem Tryz.ti14 :ti Tryz.prog 14=some ⟨true,2,.struct [(0,⟨9,1,16,false,true,false⟩),(1,⟨12,1,8,false,true,false⟩)],some (.agg #[.string ByteArray.empty,.int .u64 0])⟩:=by kernel_rfl
@[go_sem] theorem Tryz.ti15 :ti Tryz.prog 15=some ⟨false,1,.ptr,some (.pointer none)⟩:=by kernel_rfl
@[go_sem] theorem Tryz.ti16 :ti Tryz.prog 16=some ⟨false,1,.ptr,some (.pointer none)⟩:=by kernel_rfl
@[go_sem] theorem Tryz.ti17 :ti Tryz.prog 17=some ⟨false,1,.ptr,some (.pointer none)⟩:=by kernel_rfl
@[go_sem] theorem Tryz.ti18 :ti Tryz.prog 18=some ⟨true,1,.struct [(0,⟨17,1,8,false,true,false⟩)],some (.agg #[.pointer none])⟩:=by kernel_rfl
@[go_sem] theorem Tryz.ti19 :ti Tryz.prog 19=some ⟨true,1,.struct [(0,⟨17,1,8,false,true,false⟩)],some (.agg #[.pointer none])⟩:=by kernel_rfl
@[go_sem] theorem Tryz.ti21 :ti Tryz.prog 21=some ⟨false,1,.int .i32,some (.int .i32 0)⟩:=by kernel_rfl
@[go_sem] theorem Tryz.ti22 :ti Tryz.prog 22=some ⟨false,1,.slice ⟨35,1,24,false,true,false⟩,some (.slice none 0 0)⟩:=by kernel_rfl
@[go_sem] theorem Tryz.ti23 :ti Tryz.prog 23=some ⟨false,1,.other,some (.nilFunc)⟩:=by kernel_rfl
@[go_sem] theorem Tryz.ti24 :ti Tryz.prog 24=some ⟨false,1,.other,some (.nilFunc)⟩:=by kernel_rfl
@[go_sem] theorem Tryz.ti25 :ti Tryz.prog 25=some ⟨false,1,.other,some (.nilFunc)⟩:=by kernel_rfl
@[go_sem] theorem Tryz.ti26 :ti Tryz.prog 26=some ⟨false,1,.slice ⟨60,1,8,false,true,false⟩,some (.slice none 0 0)⟩:=by kernel_rfl
@[go_sem] theorem Tryz.ti27 :ti Tryz.prog 27=some ⟨false,1,.ptr,some (.pointer none)⟩:=by kernel_rfl
@[go_sem] theorem Tryz.ti28 :ti Tryz.prog 28=some ⟨false,1,.other,some (.nilFunc)⟩:=by kernel_rfl
@[go_sem] theorem Tryz.ti29 :ti Tryz.prog 29=some ⟨false,1,.other,some (.nilFunc)⟩:=by kernel_rfl
@[go_sem] theorem Tryz.ti30 :ti Tryz.prog 30=some ⟨false,1,.other,some (.nilFunc)⟩:=by kernel_rfl
@[go_sem] theorem Tryz.ti31 :ti Tryz.prog 31=some ⟨false,1,.other,some (.nilFunc)⟩:=by kernel_rfl
@[go_sem] theorem Tryz.ti32 :ti Tryz.prog 32=some ⟨true,3,.struct [(0,⟨4,1,1,false,true,false⟩),(1,⟨2,1,8,false,true,false⟩),(2,⟨26,1,24,false,true,false⟩)],some (.agg #[.bool false,.int .i64 0,.slice none 0 0])⟩:=by kernel_rfl
@[go_sem] theorem Tryz.ti33 :ti Tryz.prog 33=some ⟨true,3,.struct [(0,⟨4,1,1,false,true,false⟩),(1,⟨2,1,8,false,true,false⟩),(2,⟨26,1,24,false,true,false⟩)],some (.agg #[.bool false,.int .i64 0,.slice none 0 0])⟩:=by kernel_rfl
@[go_sem] theorem Tryz.ti34 :ti Tryz.prog 34=some ⟨false,1,.other,some (.nilFunc)⟩:=by kernel_rfl
@[go_sem] theorem Tryz.ti35 :ti Tryz.prog 35=some ⟨false,1,.slice ⟨33,3,40,true,true,false⟩,some (.slice none 0 0)⟩:=by kernel_rfl
@[go_sem] theorem Tryz.ti36 :ti Tryz.prog 36=some ⟨false,1,.other,some (.nilFunc)⟩:=by kernel_rfl
@[go_sem] theorem Tryz.ti37 :ti Tryz.prog 37=some ⟨false,1,.slice ⟨47,1,24,false,true,false⟩,some (.slice none 0 0)⟩:=by kernel_rfl
@[go_sem] theorem Tryz.ti38 :ti Tryz.prog 38=some ⟨false,1,.int .i64,some (.int .i64 0)⟩:=by kernel_rfl
@[go_sem] theorem Tryz.ti40 :ti Tryz.prog 40=some ⟨false,1,.other,some (.nilFunc)⟩:=by kernel_rfl
@[go_sem] theorem Tryz.ti41 :ti Tryz.prog 41=some ⟨false,1,.slice ⟨82,1,24,false,true,false⟩,some (.slice none 0 0)⟩:=by kernel_rfl
@[go_sem] theorem Tryz.ti42 :ti Tryz.prog 42=some ⟨false,1,.other,some (.nilFunc)⟩:=by kernel_rfl
@[go_sem] theorem Tryz.ti43 :ti Tryz.prog 43=some ⟨false,1,.slice ⟨191,1,4,false,true,false⟩,some (.slice none 0 0)⟩:=by kernel_rfl
@[go_sem] theorem Tryz.ti44 :ti Tryz.prog 44=some ⟨true,3,.struct [(0,⟨4,1,1,false,true,false⟩),(1,⟨43,1,24,false,true,false⟩),(2,⟨2,1,8,false,true,false⟩)],some (.agg #[.bool false,.slice none 0 0,.int .i64 0])⟩:=by kernel_rfl
@[go_sem] theorem Tryz.ti45 :ti Tryz.prog 45=some ⟨true,3,.struct [(0,⟨4,1,1,false,true,false⟩),(1,⟨43,1,24,false,true,false⟩),(2,⟨2,1,8,false,true,false⟩)],some (.agg #[.bool false,.slice none 0 0,.int .i64 0])⟩:=by kernel_rfl
@[go_sem] theorem Tryz.ti46 :ti Tryz.prog 46=some ⟨false,1,.other,some (.nilFunc)⟩:=by kernel_rfl
@[go_sem] theorem Tryz.ti47 :ti Tryz.prog 47=some ⟨false,1,.slice ⟨52,6,80,true,true,false⟩,some (.slice none 0 0)⟩:=by kernel_rfl
@[go_sem] theorem Tryz.ti48 :ti Tryz.prog 48=some ⟨false,1,.other,some (.nilFunc)⟩:=by kernel_rfl
@[go_sem] theorem Tryz.ti49 :ti Tryz.prog 49=some ⟨false,1,.other,some (.nilFunc)⟩:=by kernel_rfl
@[go_sem] theorem Tryz.ti50 :ti Tryz.prog 50=some ⟨false,1,.other,some (.nilFunc)⟩:=by kernel_rfl
@[go_sem] theorem Tryz.ti51 :ti Tryz.prog 51=some ⟨true,6,.struct [(0,⟨33,3,40,true,true,false⟩),(3,⟨33,3,40,true,true,false⟩)],some (.agg #[.bool false,.int .i64 0,.slice none 0 0,.bool false,.int .i64 0,.slice none 0 0])⟩:=by kernel_rfl
@[go_sem] theorem Tryz.ti52 :ti Tryz.prog 52=some ⟨true,6,.struct [(0,⟨33,3,40,true,true,false⟩),(3,⟨33,3,40,true,true,false⟩)],some (.agg #[.bool false,.int .i64 0,.slice none 0 0,.bool false,.int .i64 0,.slice none 0 0])⟩:=by kernel_rfl
@[go_sem] theorem Tryz.ti53 :ti Tryz.prog 53=some ⟨false,1,.other,some (.nilFunc)⟩:=by kernel_rfl
@[go_sem] theorem Tryz.ti54 :ti Tryz.prog 54=some ⟨false,1,.other,some (.nilFunc)⟩:=by kernel_rfl
@[go_sem] theorem Tryz.ti55 :ti Tryz.prog 55=some ⟨false,1,.other,some (.nilFunc)⟩:=by kernel_rfl
@[go_sem] theorem Tryz.ti56 :ti Tryz.prog 56=some ⟨false,1,.other,some (.nilFunc)⟩:=by kernel_rfl
@[go_sem] theorem Tryz.ti57 :ti Tryz.prog 57=some ⟨false,1,.other,some (.nilFunc)⟩:=by kernel_rfl
@[go_sem] theorem Tryz.ti58 :ti Tryz.prog 58=some ⟨false,1,.int .u16,some (.int .u16 0)⟩:=by kernel_rfl
@[go_sem] theorem Tryz.ti59 :ti Tryz.prog 59=some ⟨false,1,.slice ⟨3,1,8,false,true,false⟩,some (.slice none 0 0)⟩:=by kernel_rfl
@[go_sem] theorem Tryz.ti60 :ti Tryz.prog 60=some ⟨false,1,.int .u64,some (.int .u64 0)⟩:=by kernel_rfl
@[go_sem] theorem Tryz.ti62 :ti Tryz.prog 62=some ⟨false,1,.other,some (.nilFunc)⟩:=by kernel_rfl
@[go_sem] theorem Tryz.ti63 :ti Tryz.prog 63=some ⟨false,1,.other,some (.nilFunc)⟩:=by kernel_rfl
@[go_sem] theorem Tryz.ti64 :ti Tryz.prog 64=some ⟨false,1,.other,some (.nilFunc)⟩:=by kernel_rfl
@[go_sem] theorem Tryz.ti65 :ti Tryz.prog 65=some ⟨false,1,.slice ⟨66,1,24,false,true,false⟩,some (.slice none 0 0)⟩:=by kernel_rfl
@[go_sem] theorem Tryz.ti66 :ti Tryz.prog 66=some ⟨false,1,.slice ⟨68,4,64,true,true,false⟩,some (.slice none 0 0)⟩:=by kernel_rfl
@[go_sem] theorem Tryz.ti67 :ti Tryz.prog 67=some ⟨true,4,.struct [(0,⟨33,3,40,true,true,false⟩),(3,⟨59,1,24,false,true,false⟩)],some (.agg #[.bool false,.int .i64 0,.slice none 0 0,.slice none 0 0])⟩:=by kernel_rfl
@[go_sem] theorem Tryz.ti68 :ti Tryz.prog 68=some ⟨true,4,.struct [(0,⟨33,3,40,true,true,false⟩),(3,⟨59,1,24,false,true,false⟩)],some (.agg #[.bool false,.int .i64 0,.slice none 0 0,.slice none 0 0])⟩:=by kernel_rfl
@[go_sem] theorem Tryz.ti69 :ti Tryz.prog 69=some ⟨false,1,.other,some (.nilFunc)⟩:=by kernel_rfl
@[go_sem] theorem Tryz.ti70 :ti Tryz.prog 70=some ⟨false,1,.other,some (.nilFunc)⟩:=by kernel_rfl
@[go_sem] theorem Tryz.ti71 :ti Tryz.prog 71=some ⟨false,1,.other,some (.nilFunc)⟩:=by kernel_rfl
@[go_sem] theorem Tryz.ti72 :ti Tryz.prog 72=some ⟨false,1,.other,some (.nilFunc)⟩:=by kernel_rfl
@[go_sem] theorem Tryz.ti73 :ti Tryz.prog 73=some ⟨false,1,.other,some (.nilFunc)⟩:=by kernel_rfl
@[go_sem] theorem Tryz.ti74 :ti Tryz.prog 74=some ⟨false,1,.slice ⟨37,1,24,false,true,false⟩,some (.slice none 0 0)⟩:=by kernel_rfl
@[go_sem] theorem Tryz.ti75 :ti Tryz.prog 75=some ⟨false,1,.other,some (.nilFunc)⟩:=by kernel_rfl
@[go_sem] theorem Tryz.ti76 :ti Tryz.prog 76=some ⟨false,1,.other,some (.nilFunc)⟩:=by kernel_rfl
@[go_sem] theorem Tryz.ti78 :ti Tryz.prog 78=some ⟨false,1,.other,some (.nilFunc)⟩:=by kernel_rfl
@[go_sem] theorem Tryz.ti79 :ti Tryz.prog 79=some ⟨false,1,.slice ⟨41,1,24,false,true,false⟩,some (.slice none 0 0)⟩:=by kernel_rfl
@[go_sem] theorem Tryz.ti80 :ti Tryz.prog 80=some ⟨false,1,.other,some (.nilFunc)⟩:=by kernel_rfl
@[go_sem] theorem Tryz.ti81 :ti Tryz.prog 81=some ⟨false,1,.other,some (.nilFunc)⟩:=by kernel_rfl
@[go_sem] theorem Tryz.ti82 :ti Tryz.prog 82=some ⟨false,1,.slice ⟨45,3,40,true,true,false⟩,some (.slice none 0 0)⟩:=by kernel_rfl
@[go_sem] theorem Tryz.ti83 :ti Tryz.prog 83=some ⟨false,1,.other,some (.nilFunc)⟩:=by kernel_rfl
@[go_sem] theorem Tryz.ti84 :ti Tryz.prog 84=some ⟨false,1,.other,some (.nilFunc)⟩:=by kernel_rfl
@[go_sem] theorem Tryz.ti86 :ti Tryz.prog 86=some ⟨false,1,.other,some (.nilFunc)⟩:=by kernel_rfl
@[go_sem] theorem Tryz.ti87 :ti Tryz.prog 87=some ⟨false,1,.other,some (.nilFunc)⟩:=by kernel_rfl
@[go_sem] theorem Tryz.ti89 :ti Tryz.prog 89=some ⟨false,1,.other,some (.nilFunc)⟩:=by kernel_rfl
@[go_sem] theorem Tryz.ti90 :ti Tryz.prog 90=some ⟨false,1,.other,some (.nilFunc)⟩:=by kernel_rfl
@[go_sem] theorem Tryz.ti91 :ti Tryz.prog 91=some ⟨false,1,.other,some (.nilFunc)⟩:=by kernel_rfl
@[go_sem] theorem Tryz.ti92 :ti Tryz.prog 92=some ⟨true,2,.struct [(0,⟨26,1,24,false,true,false⟩),(1,⟨3,1,8,false,true,false⟩)],some (.agg #[.slice none 0 0,.int .i64 0])⟩:=by kernel_rfl
@[go_sem] theorem Tryz.ti93 :ti Tryz.prog 93=some ⟨true,2,.struct [(0,⟨26,1,24,false,true,false⟩),(1,⟨3,1,8,false,true,false⟩)],some (.agg #[.slice none 0 0,.int .i64 0])⟩:=by kernel_rfl
@[go_sem] theorem Tryz.ti94 :ti Tryz.prog 94=some ⟨false,1,.other,some (.nilFunc)⟩:=by kernel_rfl
@[go_sem] theorem Tryz.ti95 :ti Tryz.prog 95=some ⟨false,1,.int .u64,some (.int .u64 0)⟩:=by kernel_rfl
@[go_sem] theorem Tryz.ti96 :ti Tryz.prog 96=some ⟨false,1,.other,some (.nilFunc)⟩:=by kernel_rfl
@[go_sem] theorem Tryz.ti97 :ti Tryz.prog 97=some ⟨false,1,.other,some (.nilFunc)⟩:=by kernel_rfl
@[go_sem] theorem Tryz.ti98 :ti Tryz.prog 98=some ⟨false,1,.other,some (.nilFunc)⟩:=by kernel_rfl
@[go_sem] theorem Tryz.ti99 :ti Tryz.prog 99=some ⟨false,1,.other,some (.nilFunc)⟩:=by kernel_rfl
@[go_sem] theorem Tryz.ti100 :ti Tryz.prog 100=some ⟨false,1,.other,some (.nilFunc)⟩:=by kernel_rfl
@[go_sem] theorem Tryz.ti101 :ti Tryz.prog 101=some ⟨false,1,.other,some (.nilFunc)⟩:=by kernel_rfl
@[go_sem] theorem Tryz.ti103 :ti Tryz.prog 103=some ⟨false,1,.other,some (.nilFunc)⟩:=by kernel_rfl
@[go_sem] theorem Tryz.ti104 :ti Tryz.prog 104=some ⟨false,1,.other,some (.nilFunc)⟩:=by kernel_rfl
@[go_sem] theorem Tryz.ti105 :ti Tryz.prog 105=some ⟨false,1,.other,some (.nilFunc)⟩:=by kernel_rfl
@[go_sem] theorem Tryz.ti106 :ti Tryz.prog 106=some ⟨false,1,.other,some (.nilFunc)⟩:=by kernel_rfl
@[go_sem] theorem Tryz.ti107 :ti Tryz.prog 107=some ⟨false,1,.other,some (.nilFunc)⟩:=by kernel_rfl
@[go_sem] theorem Tryz.ti108 :ti Tryz.prog 108=some ⟨false,1,.other,some (.nilFunc)⟩:=by kernel_rfl
@[go_sem] theorem Tryz.ti109 :ti Tryz.prog 109=some ⟨false,1,.other,some (.nilFunc)⟩:=by kernel_rfl
@[go_sem] theorem Tryz.ti110 :ti Tryz.prog 110=some ⟨false,1,.other,some (.nilFunc)⟩:=by kernel_rfl
@[go_sem] theorem Tryz.ti111 :ti Tryz.prog 111=some ⟨false,1,.other,some (.nilFunc)⟩:=by kernel_rfl
@[go_sem] theorem Tryz.ti112 :ti Tryz.prog 112=some ⟨false,1,.other,some (.nilFunc)⟩:=by kernel_rfl
@[go_sem] theorem Tryz.ti113 :ti Tryz.prog 113=some ⟨false,1,.other,some (.nilFunc)⟩:=by kernel_rfl
@[go_sem] theorem Tryz.ti114 :ti Tryz.prog 114=some ⟨false,1,.other,some (.nilFunc)⟩:=by kernel_rfl
@[go_sem] theorem Tryz.ti115 :ti Tryz.prog 115=some ⟨false,1,.other,some (.nilFunc)⟩:=by kernel_rfl
@[go_sem] theorem Tryz.ti116 :ti Tryz.prog 116=some ⟨false,1,.other,some (.nilFunc)⟩:=by kernel_rfl
@[go_sem] theorem Tryz.ti117 :ti Tryz.prog 117=some ⟨false,1,.other,some (.nilFunc)⟩:=by kernel_rfl
@[go_sem] theorem Tryz.ti118 :ti Tryz.prog 118=some ⟨false,1,.other,some (.nilFunc)⟩:=by kernel_rfl
@[go_sem] theorem Tryz.ti119 :ti Tryz.prog 119=some ⟨true,3,.struct [(0,⟨22,1,24,false,true,false⟩),(1,⟨22,1,24,false,true,false⟩),(2,⟨3,1,8,false,true,false⟩)],some (.agg #[.slice none 0 0,.slice none 0 0,.int .i64 0])⟩:=by kernel_rfl
@[go_sem] theorem Tryz.ti120 :ti Tryz.prog 120=some ⟨true,3,.struct [(0,⟨22,1,24,false,true,false⟩),(1,⟨22,1,24,false,true,false⟩),(2,⟨3,1,8,false,true,false⟩)],some (.agg #[.slice none 0 0,.slice none 0 0,.int .i64 0])⟩:=by kernel_rfl
@[go_sem] theorem Tryz.ti121 :ti Tryz.prog 121=some ⟨false,1,.other,some (.nilFunc)⟩:=by kernel_rfl
@[go_sem] theorem Tryz.ti122 :ti Tryz.prog 122=some ⟨false,1,.other,some (.nilFunc)⟩:=by kernel_rfl
@[go_sem] theorem Tryz.ti123 :ti Tryz.prog 123=some ⟨false,1,.other,some (.nilFunc)⟩:=by kernel_rfl
@[go_sem] theorem Tryz.ti124 :ti Tryz.prog 124=some ⟨false,1,.other,some (.nilFunc)⟩:=by kernel_rfl
@[go_sem] theorem Tryz.ti125 :ti Tryz.prog 125=some ⟨false,1,.other,some (.nilFunc)⟩:=by kernel_rfl
@[go_sem] theorem Tryz.ti126 :ti Tryz.prog 126=some ⟨false,1,.other,some (.nilFunc)⟩:=by kernel_rfl
@[go_sem] theorem Tryz.ti127 :ti Tryz.prog 127=some ⟨false,1,.other,some (.nilFunc)⟩:=by kernel_rfl
@[go_sem] theorem Tryz.ti128 :ti Tryz.prog 128=some ⟨false,1,.other,some (.nilFunc)⟩:=by kernel_rfl
@[go_sem] theorem Tryz.ti129 :ti Tryz.prog 129=some ⟨false,1,.other,some (.nilFunc)⟩:=by kernel_rfl
@[go_sem] theorem Tryz.ti130 :ti Tryz.prog 130=some ⟨false,1,.slice ⟨65,1,24,false,true,false⟩,some (.slice none 0 0)⟩:=by kernel_rfl
@[go_sem] theorem Tryz.ti132 :ti Tryz.prog 132=some ⟨false,1,.other,some (.nilFunc)⟩:=by kernel_rfl
@[go_sem] theorem Tryz.ti133 :ti Tryz.prog 133=some ⟨false,1,.ptr,some (.pointer none)⟩:=by kernel_rfl
@[go_sem] theorem Tryz.ti134 :ti Tryz.prog 134=some ⟨true,5,.struct [(0,⟨130,1,24,false,true,false⟩),(1,⟨37,1,24,false,true,false⟩),(2,⟨3,1,8,false,true,false⟩),(3,⟨74,1,24,false,true,false⟩),(4,⟨74,1,24,false,true,false⟩)],some (.agg #[.slice none 0 0,.slice none 0 0,.int .i64 0,.slice none 0 0,.slice none 0 0])⟩:=by kernel_rfl
@[go_sem] theorem Tryz.ti135 :ti Tryz.prog 135=some ⟨true,5,.struct [(0,⟨130,1,24,false,true,false⟩),(1,⟨37,1,24,false,true,false⟩),(2,⟨3,1,8,false,true,false⟩),(3,⟨74,1,24,false,true,false⟩),(4,⟨74,1,24,false,true,false⟩)],some (.agg #[.slice none 0 0,.slice none 0 0,.int .i64 0,.slice none 0 0,.slice none 0 0])⟩:=by kernel_rfl
@[go_sem] theorem Tryz.ti136 :ti Tryz.prog 136=some ⟨false,1,.other,some (.nilFunc)⟩:=by kernel_rfl
@[go_sem] theorem Tryz.ti137 :ti Tryz.prog 137=some ⟨false,1,.other,some (.nilFunc)⟩:=by kernel_rfl
@[go_sem] theorem Tryz.ti138 :ti Tryz.prog 138=some ⟨false,1,.other,some (.nilFunc)⟩:=by kernel_rfl
@[go_sem] theorem Tryz.ti139 :ti Tryz.prog 139=some ⟨false,1,.other,some (.nilFunc)⟩:=by kernel_rfl
@[go_sem] theorem Tryz.ti140 :ti Tryz.prog 140=some ⟨false,1,.other,some (.nilFunc)⟩:=by kernel_rfl
@[go_sem] theorem Tryz.ti141 :ti Tryz.prog 141=some ⟨false,1,.other,some (.nilFunc)⟩:=by kernel_rfl
@[go_sem] theorem Tryz.ti142 :ti Tryz.prog 142=some ⟨false,1,.other,some (.nilFunc)⟩:=by kernel_rfl
@[go_sem] theorem Tryz.ti143 :ti Tryz.prog 143=some ⟨false,1,.other,some (.nilFunc)⟩:=by kernel_rfl
@[go_sem] theorem Tryz.ti144 :ti Tryz.prog 144=some ⟨false,1,.other,some (.nilFunc)⟩:=by kernel_rfl
@[go_sem] theorem Tryz.ti145 :ti Tryz.prog 145=some ⟨false,1,.other,some (.nilFunc)⟩:=by kernel_rfl
@[go_sem] theorem Tryz.ti146 :ti Tryz.prog 146=some ⟨false,1,.other,some (.nilFunc)⟩:=by kernel_rfl
@[go_sem] theorem Tryz.ti147 :ti Tryz.prog 147=some ⟨false,1,.other,some (.nilFunc)⟩:=by kernel_rfl
@[go_sem] theorem Tryz.ti148 :ti Tryz.prog 148=some ⟨false,1,.other,some (.nilFunc)⟩:=by kernel_rfl
@[go_sem] theorem Tryz.ti149 :ti Tryz.prog 149=some ⟨false,1,.other,some (.nilFunc)⟩:=by kernel_rfl
@[go_sem] theorem Tryz.ti150 :ti Tryz.prog 150=some ⟨false,1,.other,some (.nilFunc)⟩:=by kernel_rfl
@[go_sem] theorem Tryz.ti151 :ti Tryz.prog 151=some ⟨false,1,.other,some (.nilFunc)⟩:=by kernel_rfl
@[go_sem] theorem Tryz.ti152 :ti Tryz.prog 152=some ⟨false,1,.other,some (.nilFunc)⟩:=by kernel_rfl
@[go_sem] theorem Tryz.ti154 :ti Tryz.prog 154=some ⟨false,1,.other,some (.nilFunc)⟩:=by kernel_rfl
@[go_sem] theorem Tryz.ti155 :ti Tryz.prog 155=some ⟨false,1,.other,some (.nilFunc)⟩:=by kernel_rfl
@[go_sem] theorem Tryz.ti156 :ti Tryz.prog 156=some ⟨false,1,.other,some (.nilFunc)⟩:=by kernel_rfl
@[go_sem] theorem Tryz.ti157 :ti Tryz.prog 157=some ⟨false,1,.other,some (.nilFunc)⟩:=by kernel_rfl
@[go_sem] theorem Tryz.ti158 :ti Tryz.prog 158=some ⟨false,1,.other,some (.nilFunc)⟩:=by kernel_rfl
@[go_sem] theorem Tryz.ti159 :ti Tryz.prog 159=some ⟨false,1,.other,some (.nilFunc)⟩:=by kernel_rfl
@[go_sem] theorem Tryz.ti160 :ti Tryz.prog 160=some ⟨false,1,.other,some (.nilFunc)⟩:=by kernel_rfl
@[go_sem] theorem Tryz.ti161 :ti Tryz.prog 161=some ⟨false,1,.other,some (.nilFunc)⟩:=by kernel_rfl
@[go_sem] theorem Tryz.ti162 :ti Tryz.prog 162=some ⟨false,1,.other,some (.nilFunc)⟩:=by kernel_rfl
@[go_sem] theorem Tryz.ti163 :ti Tryz.prog 163=some ⟨false,1,.other,some (.nilFunc)⟩:=by kernel_rfl
@[go_sem] theorem Tryz.ti164 :ti Tryz.prog 164=some ⟨false,1,.other,some (.nilFunc)⟩:=by kernel_rfl
@[go_sem] theorem Tryz.ti166 :ti Tryz.prog 166=some ⟨false,1,.other,some (.nilFunc)⟩:=by kernel_rfl
@[go_sem] theorem Tryz.ti167 :ti Tryz.prog 167=some ⟨false,1,.other,some (.nilFunc)⟩:=by kernel_rfl
@[go_sem] theorem Tryz.ti168 :ti Tryz.prog 168=some ⟨false,1,.other,some (.nilFunc)⟩:=by kernel_rfl
@[go_sem] theorem Tryz.ti169 :ti Tryz.prog 169=some ⟨false,1,.other,some (.nilFunc)⟩:=by kernel_rfl
@[go_sem] theorem Tryz.ti170 :ti Tryz.prog 170=some ⟨false,1,.other,some (.nilFunc)⟩:=by kernel_rfl
@[go_sem] theorem Tryz.ti171 :ti Tryz.prog 171=some ⟨false,1,.other,some (.nilFunc)⟩:=by kernel_rfl
@[go_sem] theorem Tryz.ti172 :ti Tryz.prog 172=some ⟨false,1,.other,some (.nilFunc)⟩:=by kernel_rfl
@[go_sem] theorem Tryz.ti173 :ti Tryz.prog 173=some ⟨false,1,.other,some (.nilFunc)⟩:=by kernel_rfl
@[go_sem] theorem Tryz.ti174 :ti Tryz.prog 174=some ⟨false,1,.other,some (.nilFunc)⟩:=by kernel_rfl
@[go_sem] theorem Tryz.ti175 :ti Tryz.prog 175=some ⟨false,1,.other,some (.nilFunc)⟩:=by kernel_rfl
@[go_sem] theorem Tryz.ti176 :ti Tryz.prog 176=some ⟨false,1,.other,some (.nilFunc)⟩:=by kernel_rfl
@[go_sem] theorem Tryz.ti177 :ti Tryz.prog 177=some ⟨false,1,.other,some (.nilFunc)⟩:=by kernel_rfl
@[go_sem] theorem Tryz.ti178 :ti Tryz.prog 178=some ⟨false,1,.other,some (.nilFunc)⟩:=by kernel_rfl
@[go_sem] theorem Tryz.ti179 :ti Tryz.prog 179=some ⟨false,1,.other,some (.nilFunc)⟩:=by kernel_rfl
@[go_sem] theorem Tryz.ti180 :ti Tryz.prog 180=some ⟨false,1,.other,some (.nilFunc)⟩:=by kernel_rfl
@[go_sem] theorem Tryz.ti181 :ti Tryz.prog 181=some ⟨false,1,.other,some (.nilFunc)⟩:=by kernel_rfl
@[go_sem] theorem Tryz.ti182 :ti Tryz.prog 182=some ⟨false,1,.other,some (.nilFunc)⟩:=by kernel_rfl
@[go_sem] theorem Tryz.ti183 :ti Tryz.prog 183=some ⟨false,1,.other,some (.nilFunc)⟩:=by kernel_rfl
@[go_sem] theorem Tryz.ti184 :ti Tryz.prog 184=some ⟨false,1,.other,some (.nilFunc)⟩:=by kernel_rfl
@[go_sem] theorem Tryz.ti185 :ti Tryz.prog 185=some ⟨false,1,.other,some (.nilFunc)⟩:=by kernel_rfl
@[go_sem] theorem Tryz.ti186 :ti Tryz.prog 186=some ⟨false,1,.other,some (.nilFunc)⟩:=by kernel_rfl
@[go_sem] theorem Tryz.ti187 :ti Tryz.prog 187=some ⟨false,1,.other,some (.nilFunc)⟩:=by kernel_rfl
@[go_sem] theorem Tryz.ti188 :ti Tryz.prog 188=some ⟨false,1,.other,some (.nilFunc)⟩:=by kernel_rfl
@[go_sem] theorem Tryz.ti190 :ti Tryz.prog 190=some ⟨false,1,.other,some (.nilFunc)⟩:=by kernel_rfl
@[go_sem] theorem Tryz.ti191 :ti Tryz.prog 191=some ⟨false,1,.int .u32,some (.int .u32 0)⟩:=by kernel_rfl
@[go_sem] theorem Tryz.ti192 :ti Tryz.prog 192=some ⟨false,1,.other,some (.nilFunc)⟩:=by kernel_rfl
@[go_sem] theorem Tryz.ti194 :ti Tryz.prog 194=some ⟨false,1,.other,some (.nilFunc)⟩:=by kernel_rfl
@[go_sem] theorem Tryz.ti195 :ti Tryz.prog 195=some ⟨false,1,.other,some (.nilFunc)⟩:=by kernel_rfl
@[go_sem] theorem Tryz.ti196 :ti Tryz.prog 196=some ⟨false,1,.other,some (.nilFunc)⟩:=by kernel_rfl
@[go_sem] theorem Tryz.ti197 :ti Tryz.prog 197=some ⟨false,1,.other,some (.nilFunc)⟩:=by kernel_rfl
@[go_sem] theorem Tryz.ti198 :ti Tryz.prog 198=some ⟨false,1,.other,some (.nilFunc)⟩:=by kernel_rfl
@[go_sem] theorem Tryz.ti199 :ti Tryz.prog 199=some ⟨false,1,.other,some (.nilFunc)⟩:=by kernel_rfl
@[go_sem] theorem Tryz.ti200 :ti Tryz.prog 200=some ⟨false,1,.other,some (.nilFunc)⟩:=by kernel_rfl
@[go_sem] theorem Tryz.ti201 :ti Tryz.prog 201=some ⟨false,1,.other,some (.nilFunc)⟩:=by kernel_rfl
@[go_sem] theorem Tryz.ti202 :ti Tryz.prog 202=some ⟨false,1,.slice ⟨205,4,64,true,true,false⟩,some (.slice none 0 0)⟩:=by kernel_rfl
@[go_sem] theorem Tryz.ti203 :ti Tryz.prog 203=some ⟨false,1,.other,some (.nilFunc)⟩:=by kernel_rfl
@[go_sem] theorem Tryz.ti204 :ti Tryz.prog 204=some ⟨true,4,.struct [(0,⟨45,3,40,true,true,false⟩),(3,⟨59,1,24,false,true,false⟩)],some (.agg #[.bool false,.slice none 0 0,.int .i64 0,.slice none 0 0])⟩:=by kernel_rfl
@[go_sem] theorem Tryz.ti205 :ti Tryz.prog 205=some ⟨true,4,.struct [(0,⟨45,3,40,true,true,false⟩),(3,⟨59,1,24,false,true,false⟩)],some (.agg #[.bool false,.slice none 0 0,.int .i64 0,.slice none 0 0])⟩:=by kernel_rfl
@[go_sem] theorem Tryz.ti206 :ti Tryz.prog 206=some ⟨false,1,.other,some (.nilFunc)⟩:=by kernel_rfl
@[go_sem] theorem Tryz.ti207 :ti Tryz.prog 207=some ⟨false,1,.other,some (.nilFunc)⟩:=by kernel_rfl
@[go_sem] theorem Tryz.ti208 :ti Tryz.prog 208=some ⟨false,1,.other,some (.nilFunc)⟩:=by kernel_rfl
@[go_sem] theorem Tryz.ti209 :ti Tryz.prog 209=some ⟨false,1,.other,some (.nilFunc)⟩:=by kernel_rfl
@[go_sem] theorem Tryz.ti210 :ti Tryz.prog 210=some ⟨false,1,.other,some (.nilFunc)⟩:=by kernel_rfl
@[go_sem] theorem Tryz.ti211 :ti Tryz.prog 211=some ⟨false,1,.other,some (.nilFunc)⟩:=by kernel_rfl
@[go_sem] theorem Tryz.ti212 :ti Tryz.prog 212=some ⟨false,1,.other,some (.nilFunc)⟩:=by kernel_rfl
@[go_sem] theorem Tryz.ti213 :ti Tryz.prog 213=some ⟨false,1,.other,some (.nilFunc)⟩:=by kernel_rfl
@[go_sem] theorem Tryz.ti214 :ti Tryz.prog 214=some ⟨false,1,.other,some (.nilFunc)⟩:=by kernel_rfl
@[go_sem] theorem Tryz.ti215 :ti Tryz.prog 215=some ⟨false,1,.other,some (.nilFunc)⟩:=by kernel_rfl
@[go_sem] theorem Tryz.ti216 :ti Tryz.prog 216=some ⟨false,1,.other,some (.nilFunc)⟩:=by kernel_rfl
@[go_sem] theorem Tryz.ti217 :ti Tryz.prog 217=some ⟨false,1,.other,some (.nilFunc)⟩:=by kernel_rfl
@[go_sem] theorem Tryz.ti219 :ti Tryz.prog 219=some ⟨false,1,.other,some (.nilFunc)⟩:=by kernel_rfl
@[go_sem] theorem Tryz.ti220 :ti Tryz.prog 220=some ⟨false,1,.other,some (.nilFunc)⟩:=by kernel_rfl
@[go_sem] theorem Tryz.ti221 :ti Tryz.prog 221=some ⟨false,1,.other,some (.nilFunc)⟩:=by kernel_rfl
@[go_sem] theorem Tryz.ti223 :ti Tryz.prog 223=some ⟨false,1,.other,some (.nilFunc)⟩:=by kernel_rfl
@[go_sem] theorem Tryz.ti225 :ti Tryz.prog 225=some ⟨false,1,.other,some (.nilFunc)⟩:=by kernel_rfl
@[go_sem] theorem Tryz.ti226 :ti Tryz.prog 226=some ⟨false,1,.other,some (.nilFunc)⟩:=by kernel_rfl
@[go_sem] theorem Tryz.ti227 :ti Tryz.prog 227=some ⟨false,1,.other,some (.nilFunc)⟩:=by kernel_rfl
@[go_sem] theorem Tryz.ti228 :ti Tryz.prog 228=some ⟨false,1,.other,some (.nilFunc)⟩:=by kernel_rfl
@[go_sem] theorem Tryz.ti229 :ti Tryz.prog 229=some ⟨false,1,.other,some (.nilFunc)⟩:=by kernel_rfl
@[go_sem] theorem Tryz.ti230 :ti Tryz.prog 230=some ⟨false,1,.other,some (.nilFunc)⟩:=by kernel_rfl
@[go_sem] theorem Tryz.ti231 :ti Tryz.prog 231=some ⟨true,64,.arr 64 ⟨5,1,1,false,true,true⟩,some (.agg #[.int .u8 0,.int .u8 0,.int .u8 0,.int .u8 0,.int .u8 0,.int .u8 0,.int .u8 0,.int .u8 0,.int .u8 0,.int .u8 0,.int .u8 0,.int .u8 0,.int .u8 0,.int .u8 0,.int .u8 0,.int .u8 0,.int .u8 0,.int .u8 0,.int .u8 0,.int .u8 0,.int .u8 0,.int .u8 0,.int .u8 0,.int .u8 0,.int .u8 0,.int .u8 0,.int .u8 0,.int .u8 0,.int .u8 0,.int .u8 0,.int .u8 0,.int .u8 0,.int .u8 0,.int .u8 0,.int .u8 0,.int .u8 0,.int .u8 0,.int .u8 0,.int .u8 0,.int .u8 0,.int .u8 0,.int .u8 0,.int .u8 0,.int .u8 0,.int .u8 0,.int .u8 0,.int .u8 0,.int .u8 0,.int .u8 0,.int .u8 0,.int .u8 0,.int .u8 0,.int .u8 0,.int .u8 0,.int .u8 0,.int .u8 0,.int .u8 0,.int .u8 0,.int .u8 0,.int .u8 0,.int .u8 0,.int .u8 0,.int .u8 0,.int .u8 0])⟩:=by kernel_rfl
@[go_sem] theorem Tryz.ti232 :ti Tryz.prog 232=some ⟨false,1,.other,some (.nilFunc)⟩:=by kernel_rfl
@[go_sem] theorem Tryz.ti233 :ti Tryz.prog 233=some ⟨false,1,.other,some (.nilFunc)⟩:=by kernel_rfl
@[go_sem] theorem Tryz.ti234 :ti Tryz.prog 234=some ⟨false,1,.other,some (.nilFunc)⟩:=by kernel_rfl
@[go_sem] theorem Tryz.ti235 :ti Tryz.prog 235=some ⟨false,1,.other,some (.nilFunc)⟩:=by kernel_rfl
@[go_sem] theorem Tryz.ti237 :ti Tryz.prog 237=some ⟨false,1,.other,some (.nilFunc)⟩:=by kernel_rfl
@[go_sem] theorem Tryz.ti239 :ti Tryz.prog 239=some ⟨false,1,.other,some (.nilFunc)⟩:=by kernel_rfl
@[go_sem] theorem Tryz.ti240 :ti Tryz.prog 240=some ⟨false,1,.other,some (.nilFunc)⟩:=by kernel_rfl
@[go_sem] theorem Tryz.ti241 :ti Tryz.prog 241=some ⟨false,1,.other,some (.nilFunc)⟩:=by kernel_rfl
@[go_sem] theorem Tryz.ti242 :ti Tryz.prog 242=some ⟨false,1,.other,some (.nilFunc)⟩:=by kernel_rfl
@[go_sem] theorem Tryz.ti243 :ti Tryz.prog 243=some ⟨false,1,.other,some (.nilFunc)⟩:=by kernel_rfl
@[go_sem] theorem Tryz.ti244 :ti Tryz.prog 244=some ⟨false,1,.other,some (.nilFunc)⟩:=by kernel_rfl
@[go_sem] theorem Tryz.ti245 :ti Tryz.prog 245=some ⟨false,1,.other,some (.nilFunc)⟩:=by kernel_rfl
@[go_sem] theorem Tryz.ti246 :ti Tryz.prog 246=some ⟨false,1,.other,some (.nilFunc)⟩:=by kernel_rfl
@[go_sem] theorem Tryz.ti247 :ti Tryz.prog 247=some ⟨false,1,.other,some (.nilFunc)⟩:=by kernel_rfl
@[go_sem] theorem Tryz.ti250 :ti Tryz.prog 250=some ⟨false,1,.other,some (.nilFunc)⟩:=by kernel_rfl
@[go_sem] theorem Tryz.ti251 :ti Tryz.prog 251=some ⟨true,4,.struct [(0,⟨17,1,8,false,true,false⟩),(1,⟨17,1,8,false,true,false⟩),(2,⟨17,1,8,false,true,false⟩),(3,⟨9,1,16,false,true,false⟩)],some (.agg #[.pointer none,.pointer none,.pointer none,.string ByteArray.empty])⟩:=by kernel_rfl
@[go_sem] theorem Tryz.ti252 :ti Tryz.prog 252=some ⟨true,4,.struct [(0,⟨17,1,8,false,true,false⟩),(1,⟨17,1,8,false,true,false⟩),(2,⟨17,1,8,false,true,false⟩),(3,⟨9,1,16,false,true,false⟩)],some (.agg #[.pointer none,.pointer none,.pointer none,.string ByteArray.empty])⟩:=by kernel_rfl
@[go_sem] theorem Tryz.ti253 :ti Tryz.prog 253=some ⟨true,0,.arr 0 ⟨16,1,8,false,true,false⟩,some (.agg #[])⟩:=by kernel_rfl
@[go_sem] theorem Tryz.ti254 :ti Tryz.prog 254=some ⟨true,0,.struct [(0,⟨253,0,0,true,true,false⟩)],some (.agg #[])⟩:=by kernel_rfl
@[go_sem] theorem Tryz.ti255 :ti Tryz.prog 255=some ⟨true,0,.struct [(0,⟨253,0,0,true,true,false⟩)],some (.agg #[])⟩:=by kernel_rfl
@[go_sem] theorem Tryz.ti256 :ti Tryz.prog 256=some ⟨false,1,.int .u8,some (.int .u8 0)⟩:=by kernel_rfl
@[go_sem] theorem Tryz.ti257 :ti Tryz.prog 257=some ⟨false,1,.int .u8,some (.int .u8 0)⟩:=by kernel_rfl
@[go_sem] theorem Tryz.ti258 :ti Tryz.prog 258=some ⟨false,1,.other,some (.nilFunc)⟩:=by kernel_rfl
@[go_sem] theorem Tryz.ti259 :ti Tryz.prog 259=some ⟨false,1,.ptr,some (.pointer none)⟩:=by kernel_rfl
@[go_sem] theorem Tryz.ti260 :ti Tryz.prog 260=some ⟨false,1,.int .i32,some (.int .i32 0)⟩:=by kernel_rfl
@[go_sem] theorem Tryz.ti261 :ti Tryz.prog 261=some ⟨false,1,.int .i32,some (.int .i32 0)⟩:=by kernel_rfl
@[go_sem] theorem Tryz.ti262 :ti Tryz.prog 262=some ⟨true,11,.struct [(0,⟨12,1,8,false,true,false⟩),(1,⟨12,1,8,false,true,false⟩),(2,⟨191,1,4,false,true,false⟩),(3,⟨256,1,1,false,true,true⟩),(4,⟨5,1,1,false,true,true⟩),(5,⟨5,1,1,false,true,true⟩),(6,⟨257,1,1,false,true,true⟩),(7,⟨258,1,8,false,true,false⟩),(8,⟨259,1,8,false,true,false⟩),(9,⟨260,1,4,false,true,false⟩),(10,⟨261,1,4,false,true,false⟩)],some (.agg #[.int .u64 0,.int .u64 0,.int .u32 0,.int .u8 0,.int .u8 0,.int .u8 0,.int .u8 0,.nilFunc,.pointer none,.int .i32 0,.int .i32 0])⟩:=by kernel_rfl
@[go_sem] theorem Tryz.ti263 :ti Tryz.prog 263=some ⟨true,11,.struct [(0,⟨12,1,8,false,true,false⟩),(1,⟨12,1,8,false,true,false⟩),(2,⟨191,1,4,false,true,false⟩),(3,⟨256,1,1,false,true,true⟩),(4,⟨5,1,1,false,true,true⟩),(5,⟨5,1,1,false,true,true⟩),(6,⟨257,1,1,false,true,true⟩),(7,⟨258,1,8,false,true,false⟩),(8,⟨259,1,8,false,true,false⟩),(9,⟨260,1,4,false,true,false⟩),(10,⟨261,1,4,false,true,false⟩)],some (.agg #[.int .u64 0,.int .u64 0,.int .u32 0,.int .u8 0,.int .u8 0,.int .u8 0,.int .u8 0,.nilFunc,.pointer none,.int .i32 0,.int .i32 0])⟩:=by kernel_rfl
@[go_sem] theorem Tryz.ca3 :Q0d Tryz.prog 3=true:=by kernel_rfl
@[go_sem] theorem Tryz.ca13 :Q0d Tryz.prog 13=true:=by kernel_rfl
@[go_sem] theorem Tryz.ca14 :Q0d Tryz.prog 14=true:=by kernel_rfl
@[go_sem] theorem Tryz.ca15 :Q0d Tryz.prog 15=true:=by kernel_rfl
@[go_sem] theorem Tryz.ca22 :Q0d Tryz.prog 22=true:=by kernel_rfl
@[go_sem] theorem Tryz.ca25 :Q0d Tryz.prog 25=true:=by kernel_rfl
@[go_sem] theorem Tryz.ca26 :Q0d Tryz.prog 26=true:=by kernel_rfl
@[go_sem] theorem Tryz.ca27 :Q0d Tryz.prog 27=true:=by kernel_rfl
@[go_sem] theorem Tryz.ca28 :Q0d Tryz.prog 28=true:=by kernel_rfl
@[go_sem] theorem Tryz.ca30 :Q0d Tryz.prog 30=true:=by kernel_rfl
@[go_sem] theorem Tryz.ca31 :Q0d Tryz.prog 31=true:=by kernel_rfl
@[go_sem] theorem Tryz.ca33 :Q0d Tryz.prog 33=true:=by kernel_rfl
@[go_sem] theorem Tryz.ca34 :Q0d Tryz.prog 34=true:=by kernel_rfl
@[go_sem] theorem Tryz.ca35 :Q0d Tryz.prog 35=true:=by kernel_rfl
@[go_sem] theorem Tryz.ca46 :Q0d Tryz.prog 46=true:=by kernel_rfl
@[go_sem] theorem Tryz.ca50 :Q0d Tryz.prog 50=true:=by kernel_rfl
@[go_sem] theorem Tryz.ca54 :Q0d Tryz.prog 54=true:=by kernel_rfl
@[go_sem] theorem Tryz.ca56 :Q0d Tryz.prog 56=true:=by kernel_rfl
@[go_sem] theorem Tryz.ca57 :Q0d Tryz.prog 57=true:=by kernel_rfl
@[go_sem] theorem Tryz.ca58 :Q0d Tryz.prog 58=true:=by kernel_rfl
@[go_sem] theorem Tryz.ca59 :Q0d Tryz.prog 59=true:=by kernel_rfl
@[go_sem] theorem Tryz.ca63 :Q0d Tryz.prog 63=true:=by kernel_rfl
@[go_sem] theorem Tryz.ca64 :Q0d Tryz.prog 64=true:=by kernel_rfl
@[go_sem] theorem Tryz.ca65 :Q0d Tryz.prog 65=true:=by kernel_rfl
@[go_sem] theorem Tryz.ca66 :Q0d Tryz.prog 66=true:=by kernel_rfl
@[go_sem] theorem Tryz.ca67 :Q0d Tryz.prog 67=true:=by kernel_rfl
@[go_sem] theorem Tryz.ca68 :Q0d Tryz.prog 68=true:=by kernel_rfl
@[go_sem] theorem Tryz.ca69 :Q0d Tryz.prog 69=true:=by kernel_rfl
@[go_sem] theorem Tryz.ca70 :Q0d Tryz.prog 70=true:=by kernel_rfl
@[go_sem] theorem Tryz.ca72 :Q0d Tryz.prog 72=true:=by kernel_rfl
@[go_sem] theorem Tryz.ca74 :Q0d Tryz.prog 74=true:=by kernel_rfl
@[go_sem] theorem Tryz.ca75 :Q0d Tryz.prog 75=true:=by kernel_rfl
@[go_sem] theorem Tryz.ca76 :Q0d Tryz.prog 76=true:=by kernel_rfl
@[go_sem] theorem Tryz.ca77 :Q0d Tryz.prog 77=true:=by kernel_rfl
@[go_sem] theorem Tryz.ca78 :Q0d Tryz.prog 78=true:=by kernel_rfl
@[go_sem] theorem Tryz.ca79 :Q0d Tryz.prog 79=true:=by kernel_rfl
@[go_sem] theorem Tryz.ca80 :Q0d Tryz.prog 80=true:=by kernel_rfl
@[go_sem] theorem Tryz.ca81 :Q0d Tryz.prog 81=true:=by kernel_rfl
@[go_sem] theorem Tryz.ca82 :Q0d Tryz.prog 82=true:=by kernel_rfl
@[go_sem] theorem Tryz.ca83 :Q0d Tryz.prog 83=true:=by kernel_rfl
@[go_sem] theorem Tryz.ca84 :Q0d Tryz.prog 84=true:=by kernel_rfl
@[go_sem] theorem Tryz.ca87 :Q0d Tryz.prog 87=true:=by kernel_rfl
@[go_sem] theorem Tryz.ca88 :Q0d Tryz.prog 88=true:=by kernel_rfl
@[go_sem] theorem Tryz.ca89 :Q0d Tryz.prog 89=true:=by kernel_rfl
@[go_sem] theorem Tryz.ca90 :Q0d Tryz.prog 90=true:=by kernel_rfl
@[go_sem] theorem Tryz.ca91 :Q0d Tryz.prog 91=true:=by kernel_rfl
@[go_sem] theorem Tryz.ca92 :Q0d Tryz.prog 92=true:=by kernel_rfl
@[go_sem] theorem Tryz.ca93 :Q0d Tryz.prog 93=true:=by kernel_rfl
@[go_sem] theorem Tryz.ca99 :Q0d Tryz.prog 99=true:=by kernel_rfl
@[go_sem] theorem Tryz.ca104 :Q0d Tryz.prog 104=true:=by kernel_rfl
@[go_sem] theorem Tryz.ca106 :Q0d Tryz.prog 106=true:=by kernel_rfl
@[go_sem] theorem Tryz.ca107 :Q0d Tryz.prog 107=true:=by kernel_rfl
@[go_sem] theorem Tryz.ca115 :Q0d Tryz.prog 115=true:=by kernel_rfl
@[go_sem] theorem Tryz.ca116 :Q0d Tryz.prog 116=true:=by kernel_rfl
@[go_sem] theorem Tryz.ca118 :Q0d Tryz.prog 118=true:=by kernel_rfl
@[go_sem] theorem Tryz.ca119 :Q0d Tryz.prog 119=true:=by kernel_rfl
@[go_sem] theorem Tryz.ca120 :Q0d Tryz.prog 120=true:=by kernel_rfl
@[go_sem] theorem Tryz.ca122 :Q0d Tryz.prog 122=true:=by kernel_rfl
@[go_sem] theorem Tryz.ca123 :Q0d Tryz.prog 123=true:=by kernel_rfl
@[go_sem] theorem Tryz.ca124 :Q0d Tryz.prog 124=true:=by kernel_rfl
@[go_sem] theorem Tryz.ca125 :Q0d Tryz.prog 125=true:=by kernel_rfl
@[go_sem] theorem Tryz.ca126 :Q0d Tryz.prog 126=true:=by kernel_rfl
@[go_sem] theorem Tryz.ca127 :Q0d Tryz.prog 127=true:=by kernel_rfl
@[go_sem] theorem Tryz.ca128 :Q0d Tryz.prog 128=true:=by kernel_rfl
@[go_sem] theorem Tryz.ca129 :Q0d Tryz.prog 129=true:=by kernel_rfl
@[go_sem] theorem Tryz.ca130 :Q0d Tryz.prog 130=true:=by kernel_rfl
@[go_sem] theorem Tryz.ca131 :Q0d Tryz.prog 131=true:=by kernel_rfl
@[go_sem] theorem Tryz.ca133 :Q0d Tryz.prog 133=true:=by kernel_rfl
@[go_sem] theorem Tryz.ca134 :Q0d Tryz.prog 134=true:=by kernel_rfl
@[go_sem] theorem Tryz.ca135 :Q0d Tryz.prog 135=true:=by kernel_rfl
@[go_sem] theorem Tryz.ca136 :Q0d Tryz.prog 136=true:=by kernel_rfl
@[go_sem] theorem Tryz.ca137 :Q0d Tryz.prog 137=true:=by kernel_rfl
@[go_sem] theorem Tryz.ca138 :Q0d Tryz.prog 138=true:=by kernel_rfl
@[go_sem] theorem Tryz.ca139 :Q0d Tryz.prog 139=true:=by kernel_rfl
@[go_sem] theorem Tryz.ca140 :Q0d Tryz.prog 140=true:=by kernel_rfl
@[go_sem] theorem Tryz.ca141 :Q0d Tryz.prog 141=true:=by kernel_rfl
@[go_sem] theorem Tryz.ca142 :Q0d Tryz.prog 142=true:=by kernel_rfl
@[go_sem] theorem Tryz.ca143 :Q0d Tryz.prog 143=true:=by kernel_rfl
@[go_sem] theorem Tryz.ca144 :Q0d Tryz.prog 144=true:=by kernel_rfl
@[go_sem] theorem Tryz.ca145 :Q0d Tryz.prog 145=true:=by kernel_rfl
@[go_sem] theorem Tryz.ca146 :Q0d Tryz.prog 146=true:=by kernel_rfl
@[go_sem] theorem Tryz.ca147 :Q0d Tryz.prog 147=true:=by kernel_rfl
@[go_sem] theorem Tryz.ca148 :Q0d Tryz.prog 148=true:=by kernel_rfl
@[go_sem] theorem Tryz.ca151 :Q0d Tryz.prog 151=true:=by kernel_rfl
@[go_sem] theorem Tryz.ca152 :Q0d Tryz.prog 152=true:=by kernel_rfl
@[go_sem] theorem Tryz.ca153 :Q0d Tryz.prog 153=true:=by kernel_rfl
@[go_sem] theorem Tryz.ca154 :Q0d Tryz.prog 154=true:=by kernel_rfl
@[go_sem] theorem Tryz.ca155 :Q0d Tryz.prog 155=true:=by kernel_rfl
@[go_sem] theorem Tryz.ca160 :Q0d Tryz.prog 160=true:=by kernel_rfl
@[go_sem] theorem Tryz.ca166 :Q0d Tryz.prog 166=true:=by kernel_rfl
@[go_sem] theorem Tryz.ca168 :Q0d Tryz.prog 168=true:=by kernel_rfl
@[go_sem] theorem Tryz.ca169 :Q0d Tryz.prog 169=true:=by kernel_rfl
@[go_sem] theorem Tryz.ca180 :Q0d Tryz.prog 180=true:=by kernel_rfl
@[go_sem] theorem Tryz.ca181 :Q0d Tryz.prog 181=true:=by kernel_rfl
@[go_sem] theorem Tryz.ca182 :Q0d Tryz.prog 182=true:=by kernel_rfl
@[go_sem] theorem Tryz.ca183 :Q0d Tryz.prog 183=true:=by kernel_rfl
@[go_sem] theorem Tryz.ca184 :Q0d Tryz.prog 184=true:=by kernel_rfl
@[go_sem] theorem Tryz.ca186 :Q0d Tryz.prog 186=true:=by kernel_rfl
@[go_sem] theorem Tryz.ca187 :Q0d Tryz.prog 187=true:=by kernel_rfl
@[go_sem] theorem Tryz.ca188 :Q0d Tryz.prog 188=true:=by kernel_rfl
@[go_sem] theorem Tryz.ca189 :Q0d Tryz.prog 189=true:=by kernel_rfl
@[go_sem] theorem Tryz.ca190 :Q0d Tryz.prog 190=true:=by kernel_rfl
@[go_sem] theorem Tryz.ca191 :Q0d Tryz.prog 191=true:=by kernel_rfl
@[go_sem] theorem Tryz.ca192 :Q0d Tryz.prog 192=true:=by kernel_rfl
@[go_sem] theorem Tryz.ca193 :Q0d Tryz.prog 193=true:=by kernel_rfl
@[go_sem] theorem Tryz.ca194 :Q0d Tryz.prog 194=true:=by kernel_rfl
@[go_sem] theorem Tryz.ca195 :Q0d Tryz.prog 195=true:=by kernel_rfl
@[go_sem] theorem Tryz.ca196 :Q0d Tryz.prog 196=true:=by kernel_rfl
@[go_sem] theorem Tryz.ca197 :Q0d Tryz.prog 197=true:=by kernel_rfl
@[go_sem] theorem Tryz.ca198 :Q0d Tryz.prog 198=true:=by kernel_rfl
@[go_sem] theorem Tryz.ca199 :Q0d Tryz.prog 199=true:=by kernel_rfl
@[go_sem] theorem Tryz.ca200 :Q0d Tryz.prog 200=true:=by kernel_rfl
@[go_sem] theorem Tryz.ca201 :Q0d Tryz.prog 201=true:=by kernel_rfl
@[go_sem] theorem Tryz.ca202 :Q0d Tryz.prog 202=true:=by kernel_rfl
@[go_sem] theorem Tryz.ca203 :Q0d Tryz.prog 203=true:=by kernel_rfl
@[go_sem] theorem Tryz.ca204 :Q0d Tryz.prog 204=true:=by kernel_rfl
@[go_sem] theorem Tryz.ca205 :Q0d Tryz.prog 205=true:=by kernel_rfl
@[go_sem] theorem Tryz.ca206 :Q0d Tryz.prog 206=true:=by kernel_rfl
@[go_sem] theorem Tryz.ca207 :Q0d Tryz.prog 207=true:=by kernel_rfl
@[go_sem] theorem Tryz.ca208 :Q0d Tryz.prog 208=true:=by kernel_rfl
@[go_sem] theorem Tryz.ca209 :Q0d Tryz.prog 209=true:=by kernel_rfl
@[go_sem] theorem Tryz.ca210 :Q0d Tryz.prog 210=true:=by kernel_rfl
@[go_sem] theorem Tryz.ca211 :Q0d Tryz.prog 211=true:=by kernel_rfl
@[go_sem] theorem Tryz.ca212 :Q0d Tryz.prog 212=true:=by kernel_rfl
@[go_sem] theorem Tryz.ca213 :Q0d Tryz.prog 213=true:=by kernel_rfl
@[go_sem] theorem Tryz.ca214 :Q0d Tryz.prog 214=true:=by kernel_rfl
@[go_sem] theorem Tryz.ca215 :Q0d Tryz.prog 215=true:=by kernel_rfl
@[go_sem] theorem Tryz.ca216 :Q0d Tryz.prog 216=true:=by kernel_rfl
@[go_sem] theorem Tryz.ca218 :Q0d Tryz.prog 218=true:=by kernel_rfl
@[go_sem] theorem Tryz.ca219 :Q0d Tryz.prog 219=true:=by kernel_rfl
@[go_sem] theorem Tryz.ca222 :Q0d Tryz.prog 222=true:=by kernel_rfl
@[go_sem] theorem Tryz.ca224 :Q0d Tryz.prog 224=true:=by kernel_rfl
@[go_sem] theorem Tryz.ca226 :Q0d Tryz.prog 226=true:=by kernel_rfl
@[go_sem] theorem Tryz.ca227 :Q0d Tryz.prog 227=true:=by kernel_rfl
@[go_sem] theorem Tryz.ca239 :Q0d Tryz.prog 239=true:=by kernel_rfl
@[go_sem] theorem Tryz.ca240 :Q0d Tryz.prog 240=true:=by kernel_rfl
@[go_sem] theorem Tryz.ca241 :Q0d Tryz.prog 241=true:=by kernel_rfl
@[go_sem] theorem Tryz.ca242 :Q0d Tryz.prog 242=true:=by kernel_rfl
@[go_sem] theorem Tryz.ca243 :Q0d Tryz.prog 243=true:=by kernel_rfl
@[go_sem] theorem Tryz.ca244 :Q0d Tryz.prog 244=true:=by kernel_rfl
@[go_sem] theorem Tryz.ca245 :Q0d Tryz.prog 245=true:=by kernel_rfl
@[go_sem] theorem Tryz.ca246 :Q0d Tryz.prog 246=true:=by kernel_rfl
@[go_sem] theorem Tryz.ca247 :Q0d Tryz.prog 247=true:=by kernel_rfl
@[go_sem] theorem Tryz.ca248 :Q0d Tryz.prog 248=true:=by kernel_rfl
@[go_sem] theorem Tryz.ca249 :Q0d Tryz.prog 249=true:=by kernel_rfl
@[go_sem] theorem Tryz.ca250 :Q0d Tryz.prog 250=true:=by kernel_rfl
@[go_sem] theorem Tryz.ca251 :Q0d Tryz.prog 251=true:=by kernel_rfl
@[go_sem] theorem Tryz.ca252 :Q0d Tryz.prog 252=true:=by kernel_rfl
@[go_sem] theorem Tryz.ca254 :Q0d Tryz.prog 254=true:=by kernel_rfl
@[go_sem] theorem Tryz.ca263 :Q0d Tryz.prog 263=true:=by kernel_rfl
@[go_sem] theorem Tryz.ca264 :Q0d Tryz.prog 264=true:=by kernel_rfl
@[go_sem] theorem Tryz.ca265 :Q0d Tryz.prog 265=true:=by kernel_rfl
@[go_sem] theorem Tryz.ca266 :Q0d Tryz.prog 266=true:=by kernel_rfl
@[go_sem] theorem Tryz.ca267 :Q0d Tryz.prog 267=true:=by kernel_rfl
@[go_sem] theorem Tryz.ca268 :Q0d Tryz.prog 268=true:=by kernel_rfl
@[go_sem] theorem Tryz.ca269 :Q0d Tryz.prog 269=true:=by kernel_rfl
@[go_sem] theorem Tryz.ca270 :Q0d Tryz.prog 270=true:=by kernel_rfl
@[go_sem] theorem Tryz.ca274 :Q0d Tryz.prog 274=true:=by kernel_rfl
@[go_sem] theorem Tryz.ca275 :Q0d Tryz.prog 275=true:=by kernel_rfl
@[go_sem] theorem Tryz.ca276 :Q0d Tryz.prog 276=true:=by kernel_rfl
@[go_sem] theorem Tryz.ca277 :Q0d Tryz.prog 277=true:=by kernel_rfl
@[go_sem] theorem Tryz.ca278 :Q0d Tryz.prog 278=true:=by kernel_rfl
@[go_sem] theorem Tryz.ca279 :Q0d Tryz.prog 279=true:=by kernel_rfl
@[go_sem] theorem Tryz.ca280 :Q0d Tryz.prog 280=true:=by kernel_rfl
@[go_sem] theorem Tryz.ca253 :Q0d Tryz.prog 253=false:=by kernel_rfl
@[go_sem] theorem Tryz.ca255 :Q0d Tryz.prog 255=false:=by kernel_rfl
@[go_sem] theorem Tryz.res3 :Tryz.f3.results.toList= [.tmp 4]:=rfl
attribute [go_sem] Tryz.ntmps3
@[go_sem] theorem Tryz.res13 :Tryz.f13.results.toList= [.tmp 0]:=rfl
attribute [go_sem] Tryz.ntmps13
@[go_sem] theorem Tryz.res14 :Tryz.f14.results.toList= [.tmp 2]:=rfl
attribute [go_sem] Tryz.ntmps14
@[go_sem] theorem Tryz.res15 :Tryz.f15.results.toList= [.tmp 4]:=rfl
attribute [go_sem] Tryz.ntmps15
@[go_sem] theorem Tryz.res22 :Tryz.f22.results.toList= [.tmp 4,.tmp 5]:=rfl
attribute [go_sem] Tryz.ntmps22
@[go_sem] theorem Tryz.res25 :Tryz.f25.results.toList= [.tmp 2]:=rfl
attribute [go_sem] Tryz.ntmps25
@[go_sem] theorem Tryz.res26 :Tryz.f26.results.toList= [.cell 6 45]:=rfl
attribute [go_sem] Tryz.ntmps26
@[go_sem] theorem Tryz.res27 :Tryz.f27.results.toList= [.cell 2 45]:=rfl
attribute [go_sem] Tryz.ntmps27
@[go_sem] theorem Tryz.res28 :Tryz.f28.results.toList= [.tmp 2]:=rfl
attribute [go_sem] Tryz.ntmps28
@[go_sem] theorem Tryz.res30 :Tryz.f30.results.toList= [.tmp 6,.tmp 7]:=rfl
attribute [go_sem] Tryz.ntmps30
@[go_sem] theorem Tryz.res31 :Tryz.f31.results.toList= [.tmp 2]:=rfl
attribute [go_sem] Tryz.ntmps31
@[go_sem] theorem Tryz.res33 :Tryz.f33.results.toList= [.tmp 2]:=rfl
attribute [go_sem] Tryz.ntmps33
@[go_sem] theorem Tryz.res34 :Tryz.f34.results.toList= [.tmp 4,.tmp 5]:=rfl
attribute [go_sem] Tryz.ntmps34
@[go_sem] theorem Tryz.res35 :Tryz.f35.results.toList= [.tmp 4]:=rfl
attribute [go_sem] Tryz.ntmps35
@[go_sem] theorem Tryz.res46 :Tryz.f46.results.toList= [.tmp 4]:=rfl
attribute [go_sem] Tryz.ntmps46
@[go_sem] theorem Tryz.res50 :Tryz.f50.results.toList= [.tmp 2]:=rfl
attribute [go_sem] Tryz.ntmps50
@[go_sem] theorem Tryz.res54 :Tryz.f54.results.toList= [.cell 2 52]:=rfl
attribute [go_sem] Tryz.ntmps54
@[go_sem] theorem Tryz.res56 :Tryz.f56.results.toList= [.cell 4 45]:=rfl
attribute [go_sem] Tryz.ntmps56
@[go_sem] theorem Tryz.res57 :Tryz.f57.results.toList= [.tmp 4]:=rfl
attribute [go_sem] Tryz.ntmps57
@[go_sem] theorem Tryz.res58 :Tryz.f58.results.toList= [.tmp 4,.tmp 5]:=rfl
attribute [go_sem] Tryz.ntmps58
@[go_sem] theorem Tryz.res59 :Tryz.f59.results.toList= [.tmp 4,.tmp 5]:=rfl
attribute [go_sem] Tryz.ntmps59
@[go_sem] theorem Tryz.res63 :Tryz.f63.results.toList= [.cell 6 33,.tmp 7]:=rfl
attribute [go_sem] Tryz.ntmps63
@[go_sem] theorem Tryz.res64 :Tryz.f64.results.toList= [.tmp 4]:=rfl
attribute [go_sem] Tryz.ntmps64
@[go_sem] theorem Tryz.res65 :Tryz.f65.results.toList= [.cell 2 33]:=rfl
attribute [go_sem] Tryz.ntmps65
@[go_sem] theorem Tryz.res66 :Tryz.f66.results.toList= [.cell 6 33,.tmp 7]:=rfl
attribute [go_sem] Tryz.ntmps66
@[go_sem] theorem Tryz.res67 :Tryz.f67.results.toList= [.cell 8 33,.tmp 9]:=rfl
attribute [go_sem] Tryz.ntmps67
@[go_sem] theorem Tryz.res68 :Tryz.f68.results.toList= [.cell 8 33,.tmp 9]:=rfl
attribute [go_sem] Tryz.ntmps68
@[go_sem] theorem Tryz.res69 :Tryz.f69.results.toList= [.cell 4 52,.tmp 5]:=rfl
attribute [go_sem] Tryz.ntmps69
@[go_sem] theorem Tryz.res70 :Tryz.f70.results.toList= [.cell 2 45]:=rfl
attribute [go_sem] Tryz.ntmps70
@[go_sem] theorem Tryz.res72 :Tryz.f72.results.toList= [.cell 4 45]:=rfl
attribute [go_sem] Tryz.ntmps72
@[go_sem] theorem Tryz.res74 :Tryz.f74.results.toList= [.cell 4 45]:=rfl
attribute [go_sem] Tryz.ntmps74
@[go_sem] theorem Tryz.res75 :Tryz.f75.results.toList= [.tmp 2]:=rfl
attribute [go_sem] Tryz.ntmps75
@[go_sem] theorem Tryz.res76 :Tryz.f76.results.toList= [.tmp 4]:=rfl
attribute [go_sem] Tryz.ntmps76
@[go_sem] theorem Tryz.res77 :Tryz.f77.results.toList= [.tmp 4]:=rfl
attribute [go_sem] Tryz.ntmps77
@[go_sem] theorem Tryz.res78 :Tryz.f78.results.toList= [.tmp 6]:=rfl
attribute [go_sem] Tryz.ntmps78
@[go_sem] theorem Tryz.res79 :Tryz.f79.results.toList= [.tmp 4,.tmp 5]:=rfl
attribute [go_sem] Tryz.ntmps79
@[go_sem] theorem Tryz.res80 :Tryz.f80.results.toList= [.cell 7 52,.tmp 8]:=rfl
attribute [go_sem] Tryz.ntmps80
@[go_sem] theorem Tryz.res81 :Tryz.f81.results.toList= [.cell 6 52,.tmp 7]:=rfl
attribute [go_sem] Tryz.ntmps81
@[go_sem] theorem Tryz.res82 :Tryz.f82.results.toList= [.cell 6 52,.cell 7 52]:=rfl
attribute [go_sem] Tryz.ntmps82
@[go_sem] theorem Tryz.res83 :Tryz.f83.results.toList= [.tmp 2]:=rfl
attribute [go_sem] Tryz.ntmps83
@[go_sem] theorem Tryz.res84 :Tryz.f84.results.toList= [.tmp 2]:=rfl
attribute [go_sem] Tryz.ntmps84
@[go_sem] theorem Tryz.res87 :Tryz.f87.results.toList= [.cell 4 52,.tmp 5]:=rfl
attribute [go_sem] Tryz.ntmps87
@[go_sem] theorem Tryz.res88 :Tryz.f88.results.toList= [.tmp 2]:=rfl
attribute [go_sem] Tryz.ntmps88
@[go_sem] theorem Tryz.res89 :Tryz.f89.results.toList= [.tmp 2]:=rfl
attribute [go_sem] Tryz.ntmps89
@[go_sem] theorem Tryz.res90 :Tryz.f90.results.toList= [.tmp 2]:=rfl
attribute [go_sem] Tryz.ntmps90
@[go_sem] theorem Tryz.res91 :Tryz.f91.results.toList= [.tmp 2]:=rfl
attribute [go_sem] Tryz.ntmps91
@[go_sem] theorem Tryz.res92 :Tryz.f92.results.toList= [.tmp 4]:=rfl
attribute [go_sem] Tryz.ntmps92
@[go_sem] theorem Tryz.res93 :Tryz.f93.results.toList= [.tmp 4]:=rfl
attribute [go_sem] Tryz.ntmps93
@[go_sem] theorem Tryz.res99 :Tryz.f99.results.toList= [.cell 2 52]:=rfl
attribute [go_sem] Tryz.ntmps99
@[go_sem] theorem Tryz.res104 :Tryz.f104.results.toList= [.tmp 2]:=rfl
attribute [go_sem] Tryz.ntmps104
@[go_sem] theorem Tryz.res106 :Tryz.f106.results.toList= [.tmp 8,.tmp 9]:=rfl
attribute [go_sem] Tryz.ntmps106
@[go_sem] theorem Tryz.res107 :Tryz.f107.results.toList= [.tmp 4]:=rfl
attribute [go_sem] Tryz.ntmps107
@[go_sem] theorem Tryz.res115 :Tryz.f115.results.toList= [.tmp 2]:=rfl
attribute [go_sem] Tryz.ntmps115
@[go_sem] theorem Tryz.res116 :Tryz.f116.results.toList= [.tmp 4]:=rfl
attribute [go_sem] Tryz.ntmps116
@[go_sem] theorem Tryz.res118 :Tryz.f118.results.toList= [.cell 4 33]:=rfl
attribute [go_sem] Tryz.ntmps118
@[go_sem] theorem Tryz.res119 :Tryz.f119.results.toList= [.cell 4 52]:=rfl
attribute [go_sem] Tryz.ntmps119
@[go_sem] theorem Tryz.res120 :Tryz.f120.results.toList= [.tmp 2]:=rfl
attribute [go_sem] Tryz.ntmps120
@[go_sem] theorem Tryz.res122 :Tryz.f122.results.toList= [.tmp 2]:=rfl
attribute [go_sem] Tryz.ntmps122
@[go_sem] theorem Tryz.res123 :Tryz.f123.results.toList= [.tmp 2]:=rfl
attribute [go_sem] Tryz.ntmps123
@[go_sem] theorem Tryz.res124 :Tryz.f124.results.toList= [.tmp 2]:=rfl
attribute [go_sem] Tryz.ntmps124
@[go_sem] theorem Tryz.res125 :Tryz.f125.results.toList= [.tmp 2]:=rfl
attribute [go_sem] Tryz.ntmps125
@[go_sem] theorem Tryz.res126 :Tryz.f126.results.toList= [.cell 2 33]:=rfl
attribute [go_sem] Tryz.ntmps126
@[go_sem] theorem Tryz.res127 :Tryz.f127.results.toList= [.cell 10 33,.tmp 11]:=rfl
attribute [go_sem] Tryz.ntmps127
@[go_sem] theorem Tryz.res128 :Tryz.f128.results.toList= [.cell 8 33,.tmp 9]:=rfl
attribute [go_sem] Tryz.ntmps128
@[go_sem] theorem Tryz.res129 :Tryz.f129.results.toList= [.tmp 2]:=rfl
attribute [go_sem] Tryz.ntmps129
@[go_sem] theorem Tryz.res130 :Tryz.f130.results.toList= [.tmp 6,.tmp 7]:=rfl
attribute [go_sem] Tryz.ntmps130
@[go_sem] theorem Tryz.res131 :Tryz.f131.results.toList= [.cell 4 33,.tmp 5]:=rfl
attribute [go_sem] Tryz.ntmps131
@[go_sem] theorem Tryz.res133 :Tryz.f133.results.toList= [.tmp 6,.tmp 7]:=rfl
attribute [go_sem] Tryz.ntmps133
@[go_sem] theorem Tryz.res134 :Tryz.f134.results.toList= [.cell 4 33,.tmp 5]:=rfl
attribute [go_sem] Tryz.ntmps134
@[go_sem] theorem Tryz.res135 :Tryz.f135.results.toList= [.cell 6 33,.tmp 7]:=rfl
attribute [go_sem] Tryz.ntmps135
@[go_sem] theorem Tryz.res136 :Tryz.f136.results.toList= [.cell 8 33,.tmp 9]:=rfl
attribute [go_sem] Tryz.ntmps136
@[go_sem] theorem Tryz.res137 :Tryz.f137.results.toList= [.cell 8 33,.tmp 9]:=rfl
attribute [go_sem] Tryz.ntmps137
@[go_sem] theorem Tryz.res138 :Tryz.f138.results.toList= [.cell 10 33,.tmp 11]:=rfl
attribute [go_sem] Tryz.ntmps138
@[go_sem] theorem Tryz.res139 :Tryz.f139.results.toList= [.cell 4 33]:=rfl
attribute [go_sem] Tryz.ntmps139
@[go_sem] theorem Tryz.res140 :Tryz.f140.results.toList= [.tmp 2]:=rfl
attribute [go_sem] Tryz.ntmps140
@[go_sem] theorem Tryz.res141 :Tryz.f141.results.toList= [.cell 6 45]:=rfl
attribute [go_sem] Tryz.ntmps141
@[go_sem] theorem Tryz.res142 :Tryz.f142.results.toList= [.tmp 4]:=rfl
attribute [go_sem] Tryz.ntmps142
@[go_sem] theorem Tryz.res143 :Tryz.f143.results.toList= [.tmp 4]:=rfl
attribute [go_sem] Tryz.ntmps143
@[go_sem] theorem Tryz.res144 :Tryz.f144.results.toList= [.tmp 4]:=rfl
attribute [go_sem] Tryz.ntmps144
@[go_sem] theorem Tryz.res145 :Tryz.f145.results.toList= [.tmp 4]:=rfl
attribute [go_sem] Tryz.ntmps145
@[go_sem] theorem Tryz.res146 :Tryz.f146.results.toList= [.tmp 4]:=rfl
attribute [go_sem] Tryz.ntmps146
@[go_sem] theorem Tryz.res147 :Tryz.f147.results.toList= [.cell 6 52,.tmp 7]:=rfl
attribute [go_sem] Tryz.ntmps147
@[go_sem] theorem Tryz.res148 :Tryz.f148.results.toList= [.cell 6 52,.tmp 7]:=rfl
attribute [go_sem] Tryz.ntmps148
@[go_sem] theorem Tryz.res151 :Tryz.f151.results.toList= [.tmp 4]:=rfl
attribute [go_sem] Tryz.ntmps151
@[go_sem] theorem Tryz.res152 :Tryz.f152.results.toList= [.tmp 2]:=rfl
attribute [go_sem] Tryz.ntmps152
@[go_sem] theorem Tryz.res153 :Tryz.f153.results.toList= [.tmp 6]:=rfl
attribute [go_sem] Tryz.ntmps153
@[go_sem] theorem Tryz.res154 :Tryz.f154.results.toList= [.tmp 8]:=rfl
attribute [go_sem] Tryz.ntmps154
@[go_sem] theorem Tryz.res155 :Tryz.f155.results.toList= [.tmp 4]:=rfl
attribute [go_sem] Tryz.ntmps155
@[go_sem] theorem Tryz.res160 :Tryz.f160.results.toList= [.cell 8 52,.tmp 9]:=rfl
attribute [go_sem] Tryz.ntmps160
@[go_sem] theorem Tryz.res166 :Tryz.f166.results.toList= [.tmp 2]:=rfl
attribute [go_sem] Tryz.ntmps166
@[go_sem] theorem Tryz.res168 :Tryz.f168.results.toList= [.tmp 8,.tmp 9]:=rfl
attribute [go_sem] Tryz.ntmps168
@[go_sem] theorem Tryz.res169 :Tryz.f169.results.toList= [.tmp 4]:=rfl
attribute [go_sem] Tryz.ntmps169
@[go_sem] theorem Tryz.res180 :Tryz.f180.results.toList= [.cell 2 33,.tmp 3]:=rfl
attribute [go_sem] Tryz.ntmps180
@[go_sem] theorem Tryz.res181 :Tryz.f181.results.toList= [.tmp 2]:=rfl
attribute [go_sem] Tryz.ntmps181
@[go_sem] theorem Tryz.res182 :Tryz.f182.results.toList= [.tmp 2]:=rfl
attribute [go_sem] Tryz.ntmps182
@[go_sem] theorem Tryz.res183 :Tryz.f183.results.toList= [.tmp 4]:=rfl
attribute [go_sem] Tryz.ntmps183
@[go_sem] theorem Tryz.res184 :Tryz.f184.results.toList= [.tmp 4]:=rfl
attribute [go_sem] Tryz.ntmps184
@[go_sem] theorem Tryz.res186 :Tryz.f186.results.toList= [.cell 2 33]:=rfl
attribute [go_sem] Tryz.ntmps186
@[go_sem] theorem Tryz.res187 :Tryz.f187.results.toList= [.cell 2 33]:=rfl
attribute [go_sem] Tryz.ntmps187
@[go_sem] theorem Tryz.res188 :Tryz.f188.results.toList= [.tmp 4]:=rfl
attribute [go_sem] Tryz.ntmps188
@[go_sem] theorem Tryz.res189 :Tryz.f189.results.toList= [.cell 8 45]:=rfl
attribute [go_sem] Tryz.ntmps189
@[go_sem] theorem Tryz.res190 :Tryz.f190.results.toList= [.cell 6 45]:=rfl
attribute [go_sem] Tryz.ntmps190
@[go_sem] theorem Tryz.res191 :Tryz.f191.results.toList= [.cell 6 45]:=rfl
attribute [go_sem] Tryz.ntmps191
@[go_sem] theorem Tryz.res192 :Tryz.f192.results.toList= [.tmp 2]:=rfl
attribute [go_sem] Tryz.ntmps192
@[go_sem] theorem Tryz.res193 :Tryz.f193.results.toList= [.cell 6 52,.tmp 7]:=rfl
attribute [go_sem] Tryz.ntmps193
@[go_sem] theorem Tryz.res194 :Tryz.f194.results.toList= [.tmp 4]:=rfl
attribute [go_sem] Tryz.ntmps194
@[go_sem] theorem Tryz.res195 :Tryz.f195.results.toList= [.cell 2 33]:=rfl
attribute [go_sem] Tryz.ntmps195
@[go_sem] theorem Tryz.res196 :Tryz.f196.results.toList= [.tmp 2]:=rfl
attribute [go_sem] Tryz.ntmps196
@[go_sem] theorem Tryz.res197 :Tryz.f197.results.toList= [.cell 7 52,.tmp 8]:=rfl
attribute [go_sem] Tryz.ntmps197
@[go_sem] theorem Tryz.res198 :Tryz.f198.results.toList= [.cell 6 52,.tmp 7]:=rfl
attribute [go_sem] Tryz.ntmps198
@[go_sem] theorem Tryz.res199 :Tryz.f199.results.toList= [.cell 2 33]:=rfl
attribute [go_sem] Tryz.ntmps199
@[go_sem] theorem Tryz.res200 :Tryz.f200.results.toList= [.tmp 2]:=rfl
attribute [go_sem] Tryz.ntmps200
@[go_sem] theorem Tryz.res201 :Tryz.f201.results.toList= [.tmp 2]:=rfl
attribute [go_sem] Tryz.ntmps201
@[go_sem] theorem Tryz.res202 :Tryz.f202.results.toList= [.tmp 4]:=rfl
attribute [go_sem] Tryz.ntmps202
@[go_sem] theorem Tryz.res203 :Tryz.f203.results.toList= [.cell 4 33]:=rfl
attribute [go_sem] Tryz.ntmps203
@[go_sem] theorem Tryz.res204 :Tryz.f204.results.toList= [.cell 6 33,.tmp 7]:=rfl
attribute [go_sem] Tryz.ntmps204
@[go_sem] theorem Tryz.res205 :Tryz.f205.results.toList= [.cell 6 33]:=rfl
attribute [go_sem] Tryz.ntmps205
@[go_sem] theorem Tryz.res206 :Tryz.f206.results.toList= [.tmp 4]:=rfl
attribute [go_sem] Tryz.ntmps206
@[go_sem] theorem Tryz.res207 :Tryz.f207.results.toList= [.tmp 4]:=rfl
attribute [go_sem] Tryz.ntmps207
@[go_sem] theorem Tryz.res208 :Tryz.f208.results.toList= [.tmp 4,.tmp 5]:=rfl
attribute [go_sem] Tryz.ntmps208
@[go_sem] theorem Tryz.res209 :Tryz.f209.results.toList= [.tmp 2]:=rfl
attribute [go_sem] Tryz.ntmps209
@[go_sem] theorem Tryz.res210 :Tryz.f210.results.toList= [.tmp 4,.tmp 5]:=rfl
attribute [go_sem] Tryz.ntmps210
@[go_sem] theorem Tryz.res211 :Tryz.f211.results.toList= [.tmp 4]:=rfl
attribute [go_sem] Tryz.ntmps211
@[go_sem] theorem Tryz.res212 :Tryz.f212.results.toList= [.tmp 6]:=rfl
attribute [go_sem] Tryz.ntmps212
@[go_sem] theorem Tryz.res213 :Tryz.f213.results.toList= []:=rfl
attribute [go_sem] Tryz.ntmps213
@[go_sem] theorem Tryz.res214 :Tryz.f214.results.toList= [.cell 4 33]:=rfl
attribute [go_sem] Tryz.ntmps214
@[go_sem] theorem Tryz.res215 :Tryz.f215.results.toList= [.cell 4 33]:=rfl
attribute [go_sem] Tryz.ntmps215
@[go_sem] theorem Tryz.res216 :Tryz.f216.results.toList= [.cell 6 52,.tmp 7]:=rfl
attribute [go_sem] Tryz.ntmps216
@[go_sem] theorem Tryz.res218 :Tryz.f218.results.toList= [.cell 2 33]:=rfl
attribute [go_sem] Tryz.ntmps218
@[go_sem] theorem Tryz.res219 :Tryz.f219.results.toList= [.cell 2 33]:=rfl
attribute [go_sem] Tryz.ntmps219
@[go_sem] theorem Tryz.res222 :Tryz.f222.results.toList= [.tmp 2]:=rfl
attribute [go_sem] Tryz.ntmps222
@[go_sem] theorem Tryz.res224 :Tryz.f224.results.toList= [.cell 4 52,.tmp 5]:=rfl
attribute [go_sem] Tryz.ntmps224
@[go_sem] theorem Tryz.res226 :Tryz.f226.results.toList= [.cell 8 45]:=rfl
attribute [go_sem] Tryz.ntmps226
@[go_sem] theorem Tryz.res227 :Tryz.f227.results.toList= [.cell 8 45]:=rfl
attribute [go_sem] Tryz.ntmps227
@[go_sem] theorem Tryz.res239 :Tryz.f239.results.toList= [.tmp 2]:=rfl
attribute [go_sem] Tryz.ntmps239
@[go_sem] theorem Tryz.res240 :Tryz.f240.results.toList= [.tmp 2]:=rfl
attribute [go_sem] Tryz.ntmps240
@[go_sem] theorem Tryz.res241 :Tryz.f241.results.toList= [.tmp 2]:=rfl
attribute [go_sem] Tryz.ntmps241
@[go_sem] theorem Tryz.res242 :Tryz.f242.results.toList= [.tmp 4]:=rfl
attribute [go_sem] Tryz.ntmps242
@[go_sem] theorem Tryz.res243 :Tryz.f243.results.toList= [.tmp 4]:=rfl
attribute [go_sem] Tryz.ntmps243
@[go_sem] theorem Tryz.res244 :Tryz.f244.results.toList= [.tmp 2]:=rfl
attribute [go_sem] Tryz.ntmps244
@[go_sem] theorem Tryz.res245 :Tryz.f245.results.toList= [.tmp 4,.tmp 5]:=rfl
attribute [go_sem] Tryz.ntmps245
@[go_sem] theorem Tryz.res246 :Tryz.f246.results.toList= [.cell 4 33]:=rfl
attribute [go_sem] Tryz.ntmps246
@[go_sem] theorem Tryz.res247 :Tryz.f247.results.toList= [.cell 2 33]:=rfl
attribute [go_sem] Tryz.ntmps247
@[go_sem] theorem Tryz.res248 :Tryz.f248.results.toList= [.tmp 2]:=rfl
attribute [go_sem] Tryz.ntmps248
@[go_sem] theorem Tryz.res249 :Tryz.f249.results.toList= [.tmp 2]:=rfl
attribute [go_sem] Tryz.ntmps249
@[go_sem] theorem Tryz.res250 :Tryz.f250.results.toList= [.tmp 4]:=rfl
attribute [go_sem] Tryz.ntmps250
@[go_sem] theorem Tryz.res251 :Tryz.f251.results.toList= [.cell 6 33]:=rfl
attribute [go_sem] Tryz.ntmps251
@[go_sem] theorem Tryz.res252 :Tryz.f252.results.toList= [.tmp 4,.tmp 5,.tmp 6]:=rfl
attribute [go_sem] Tryz.ntmps252
@[go_sem] theorem Tryz.res254 :Tryz.f254.results.toList= [.tmp 2]:=rfl
attribute [go_sem] Tryz.ntmps254
@[go_sem] theorem Tryz.res263 :Tryz.f263.results.toList= [.tmp 2]:=rfl
attribute [go_sem] Tryz.ntmps263
@[go_sem] theorem Tryz.res264 :Tryz.f264.results.toList= [.tmp 4]:=rfl
attribute [go_sem] Tryz.ntmps264
@[go_sem] theorem Tryz.res265 :Tryz.f265.results.toList= [.tmp 4,.tmp 5]:=rfl
attribute [go_sem] Tryz.ntmps265
@[go_sem] theorem Tryz.res266 :Tryz.f266.results.toList= [.cell 6 33]:=rfl
attribute [go_sem] Tryz.ntmps266
@[go_sem] theorem Tryz.res267 :Tryz.f267.results.toList= [.tmp 2]:=rfl
attribute [go_sem] Tryz.ntmps267
@[go_sem] theorem Tryz.res268 :Tryz.f268.results.toList= [.tmp 4,.tmp 5]:=rfl
attribute [go_sem] Tryz.ntmps268
@[go_sem] theorem Tryz.res269 :Tryz.f269.results.toList= [.tmp 4,.tmp 5]:=rfl
attribute [go_sem] Tryz.ntmps269
@[go_sem] theorem Tryz.res270 :Tryz.f270.results.toList= [.tmp 2]:=rfl
attribute [go_sem] Tryz.ntmps270
@[go_sem] theorem Tryz.res274 :Tryz.f274.results.toList= [.tmp 2]:=rfl
attribute [go_sem] Tryz.ntmps274
@[go_sem] theorem Tryz.res275 :Tryz.f275.results.toList= [.tmp 3]:=rfl
attribute [go_sem] Tryz.ntmps275
@[go_sem] theorem Tryz.res276 :Tryz.f276.results.toList= [.tmp 6,.tmp 7]:=rfl
attribute [go_sem] Tryz.ntmps276
@[go_sem] theorem Tryz.res277 :Tryz.f277.results.toList= [.tmp 2]:=rfl
attribute [go_sem] Tryz.ntmps277
@[go_sem] theorem Tryz.res278 :Tryz.f278.results.toList= [.tmp 4]:=rfl
attribute [go_sem] Tryz.ntmps278
@[go_sem] theorem Tryz.res279 :Tryz.f279.results.toList= [.tmp 6]:=rfl
attribute [go_sem] Tryz.ntmps279
@[go_sem] theorem Tryz.res280 :Tryz.f280.results.toList= []:=rfl
attribute [go_sem] Tryz.ntmps280
end Go.Proofs
end
section
/-Natural numbers by digits:values,the right digits of a number. No program in it. -/
namespace Go.Pv
theorem X2i {α:Type} {P:List α→Prop} (nil:P []) (snoc: ∀l x,P l→P (l++ [x])) (l:List α):P l:=by
 have: ∀r:List α,P r.reverse:=fun r=>by
  induction r with
  | nil=>exact nil
  | cons x r ih=>rw [List.reverse_cons];exact snoc _ _ ih
 have h:=this l.reverse
 rwa [List.reverse_reverse] at h
def val (B:Nat):List Nat→Nat
 | []=>0
 | x::l=>x+B*val B l
def digs (B:Nat) (n:Nat):List Nat:=if h:n=0∨B<2 then [] else n % B::digs B (n/B)
termination_by n
decreasing_by exact Nat.div_lt_self (by omega) (by omega)
theorem K0w (B:Nat):digs B 0= []:=by rw [digs,dif_pos (.inl rfl)]
theorem z0y {B n:Nat} (hB:2≤B) (h:n≠0):digs B n=n % B::digs B (n/B):=by rw [digs,dif_neg (by omega)]
theorem V1r {B:Nat} (hB:2≤B) (n:Nat):val B (digs B n)=n:=by
 induction n using Nat.strongRecOn with
 | _ n ih=>
  by_cases h:n=0
  · subst h;simp [K0w,val]
  · rw [z0y hB h,val,ih _ (Nat.div_lt_self (by omega) (by omega))]
    exact Nat.mod_add_div n B
theorem x1u {B:Nat} (hB:2≤B) (n:Nat): ∀x∈digs B n,x<B:=by
 induction n using Nat.strongRecOn with
 | _ n ih=>
  by_cases h:n=0
  · subst h;simp [K0w]
  · rw [z0y hB h]
    intro x hx
    rcases List.mem_cons.1 hx with rfl | hx
    · exact Nat.mod_lt _ (by omega)
    · exact ih _ (Nat.div_lt_self (by omega) (by omega)) x hx
def J1n (l:List Nat):List Nat:=(l.reverse.dropWhile (· ==0)).reverse
theorem G0l (l:List Nat) (x:Nat):J1n (l++ [x])=if x=0 then J1n l else l++ [x]:=by
 unfold J1n
 rw [List.reverse_append]
 simp only [List.reverse_cons,List.reverse_nil,List.nil_append,List.singleton_append,List.dropWhile_cons]
 by_cases h:x=0<;>simp [h]
theorem Y1z :J1n []= []:=rfl
theorem K1a (B:Nat) (l m:List Nat):val B (l++m)=val B l+B^l.length*val B m:=by
 induction l with
 | nil=>simp [val]
 | cons x l ih=>
  simp only [List.cons_append,val,ih,List.length_cons,Nat.pow_succ,Nat.mul_add]
  rw [Nat.mul_comm (B^l.length) B,Nat.mul_assoc];omega
theorem j1p {B:Nat} (hB:0<B): ∀l:List Nat,(∀x∈l,x<B)→val B l<B^l.length
 | [],_=>by simp [val]
 | x::l,h=>by
  have h1:=j1p hB l fun y hy=>h y (List.mem_cons_of_mem _ hy)
  have h2:=h x (List.mem_cons_self)
  simp only [val,List.length_cons,Nat.pow_succ]
  have:B*(val B l+1)≤B*B^l.length:=Nat.mul_le_mul_left _ h1
  rw [Nat.mul_comm (B^l.length) B]
  rw [Nat.mul_add] at this;omega
theorem w1l (x:Nat) (l:List Nat):J1n (x::l)=if J1n l= [] then(if x=0 then [] else [x]) else x::J1n l:=by
 induction l using X2i with
 | nil=>
  have:=G0l [] x
  simpa [Y1z] using this
 | snoc l y ih=>
  have e:x::(l++ [y])=(x::l)++ [y]:=rfl
  rw [e,G0l,G0l]
  by_cases h:y=0
  · simp [h,ih]
  · simp [h]
theorem Y1d {B:Nat} (hB:2≤B): ∀l:List Nat,(∀x∈l,x<B)→digs B (val B l)=J1n l
 | [],_=>by simp [val,K0w,Y1z]
 | x::l,h=>by
  have ih:=Y1d hB l fun y hy=>h y (List.mem_cons_of_mem _ hy)
  have h2:=h x (List.mem_cons_self)
  rw [w1l,←ih,val]
  by_cases hv:val B l=0
  · rw [hv,K0w]
    simp only [Nat.mul_zero,Nat.add_zero,if_true]
    by_cases hx:x=0
    · rw [if_pos hx,hx,K0w]
    · rw [if_neg hx,z0y hB hx,Nat.mod_eq_of_lt h2,Nat.div_eq_of_lt h2,K0w]
  · have hne:x+B*val B l≠0:=by
     have:0<B*val B l:=Nat.mul_pos (by omega) (by omega)
     omega
    rw [z0y hB hne,if_neg (by rw [z0y hB hv];simp),Nat.add_mul_mod_self_left,Nat.mod_eq_of_lt h2,Nat.add_mul_div_left _ _ (by omega),Nat.div_eq_of_lt h2,Nat.zero_add]
theorem W0m {B:Nat} (hB:2≤B) (k:Nat): ∀n,n<B^k→(digs B n).length≤k:=by
 induction k with
 | zero=>intro n h;have:n=0:=by simpa using h
         subst this;simp [K0w]
 | succ k ih=>
  intro n h
  by_cases h0:n=0
  · subst h0;simp [K0w]
  · rw [z0y hB h0,List.length_cons]
    have:=ih (n/B) (by rw [Nat.div_lt_iff_lt_mul (by omega)];rw [Nat.pow_succ] at h;exact h)
    omega
def nW (l:List UInt64):List Nat:=l.map UInt64.toNat
def valW (l:List UInt64):Nat:=val 18446744073709551616 (nW l)
def Q0l (n:Nat):List UInt64:=(digs 18446744073709551616 n).map UInt64.ofNat
def nD (l:List UInt32):List Nat:=l.map UInt32.toNat
def valD (l:List UInt32):Nat:=val 4294967296 (nD l)
def Q0c (n:Nat):List UInt32:=(digs 4294967296 n).map UInt32.ofNat
def cutW (l:List UInt64):List UInt64:=(l.reverse.dropWhile (· ==0)).reverse
def cutD (l:List UInt32):List UInt32:=(l.reverse.dropWhile (· ==0)).reverse
theorem G2u (l:List UInt64): ∀x∈nW l,x<18446744073709551616:=by
 intro x hx
 obtain⟨c,_,rfl⟩:=List.mem_map.1 hx
 exact UInt64.toNat_lt c
theorem w2w (l:List UInt32): ∀x∈nD l,x<4294967296:=by
 intro x hx
 obtain⟨c,_,rfl⟩:=List.mem_map.1 hx
 exact UInt32.toNat_lt c
theorem H1o (l:List UInt64) (x:UInt64):cutW (l++ [x])=if x=0 then cutW l else l++ [x]:=by
 unfold cutW
 rw [List.reverse_append]
 simp only [List.reverse_cons,List.reverse_nil,List.nil_append,List.singleton_append,List.dropWhile_cons]
 by_cases h:x=0<;>simp [h]
theorem H1q (l:List UInt32) (x:UInt32):cutD (l++ [x])=if x=0 then cutD l else l++ [x]:=by
 unfold cutD
 rw [List.reverse_append]
 simp only [List.reverse_cons,List.reverse_nil,List.nil_append,List.singleton_append,List.dropWhile_cons]
 by_cases h:x=0<;>simp [h]
theorem y0v (x:UInt64):x=0↔x.toNat=0:=⟨fun h=>by rw [h];rfl,fun h=>UInt64.toNat.inj h⟩
theorem z0k (x:UInt32):x=0↔x.toNat=0:=⟨fun h=>by rw [h];rfl,fun h=>UInt32.toNat.inj h⟩
theorem V3y (l:List UInt64):nW (cutW l)=J1n (nW l):=by
 induction l using X2i with
 | nil=>rfl
 | snoc l x ih=>
  rw [H1o]
  have e:nW (l++ [x])=nW l++ [x.toNat]:=by simp [nW]
  rw [e,G0l]
  by_cases h:x=0
  · rw [if_pos h,if_pos ((y0v x).1 h),ih]
  · rw [if_neg h,if_neg (fun e=>h ((y0v x).2 e)),e]
theorem V3z (l:List UInt32):nD (cutD l)=J1n (nD l):=by
 induction l using X2i with
 | nil=>rfl
 | snoc l x ih=>
  rw [H1q]
  have e:nD (l++ [x])=nD l++ [x.toNat]:=by simp [nD]
  rw [e,G0l]
  by_cases h:x=0
  · rw [if_pos h,if_pos ((z0k x).1 h),ih]
  · rw [if_neg h,if_neg (fun e=>h ((z0k x).2 e)),e]
theorem G2l (l:List UInt64):(nW l).map UInt64.ofNat=l:=by
 simp only [nW,List.map_map]
 conv=>rhs;rw [←List.map_id l]
 exact List.map_congr_left fun a _=>by simp
theorem G2m (l:List UInt32):(nD l).map UInt32.ofNat=l:=by
 simp only [nD,List.map_map]
 conv=>rhs;rw [←List.map_id l]
 exact List.map_congr_left fun a _=>by simp
theorem Q0u (l:List UInt64):Q0l (valW l)=cutW l:=by
 rw [Q0l,valW,Y1d (by decide) _ (G2u l),←V3y,G2l]
theorem J0g (l:List UInt32):Q0c (valD l)=cutD l:=by
 rw [Q0c,valD,Y1d (by decide) _ (w2w l),←V3z,G2m]
theorem y1p (n:Nat):nW (Q0l n)=digs 18446744073709551616 n:=by
 simp only [nW,Q0l,List.map_map]
 conv=>rhs;rw [←List.map_id (digs _ n)]
 exact List.map_congr_left fun a ha=>by
  have:=x1u (B:=18446744073709551616) (by decide) n a ha
  simp only [Function.comp,id]
  rw [UInt64.toNat_ofNat'];omega
theorem z1v (n:Nat):nD (Q0c n)=digs 4294967296 n:=by
 simp only [nD,Q0c,List.map_map]
 conv=>rhs;rw [←List.map_id (digs _ n)]
 exact List.map_congr_left fun a ha=>by
  have:=x1u (B:=4294967296) (by decide) n a ha
  simp only [Function.comp,id]
  rw [UInt32.toNat_ofNat'];omega
theorem Q0y (n:Nat):valW (Q0l n)=n:=by rw [valW,y1p,V1r (by decide)]
theorem Q0x (n:Nat):valD (Q0c n)=n:=by rw [valD,z1v,V1r (by decide)]
theorem J0c (l:List UInt64):valW (cutW l)=valW l:=by
 rw [←Q0u,Q0y]
theorem W0y (n:Nat):cutW (Q0l n)=Q0l n:=by rw [←Q0u,Q0y]
theorem H0s (n:Nat):cutD (Q0c n)=Q0c n:=by rw [←J0g,Q0x]
theorem K0y :valW []=0:=rfl
theorem U0s :valD []=0:=rfl
theorem X0g :Q0l 0= []:=by simp [Q0l,K0w]
theorem Z0h :Q0c 0= []:=by simp [Q0c,K0w]
theorem wordsOf_nil {n:Nat} :Q0l n= []↔n=0:=⟨fun h=>by rw [←Q0y n,h,K0y],fun h=>by rw [h,X0g]⟩
theorem digitsOf_nil {n:Nat} :Q0c n= []↔n=0:=⟨fun h=>by rw [←Q0x n,h,U0s],fun h=>by rw [h,Z0h]⟩
theorem K0m (l m:List UInt64):valW (l++m)=valW l+18446744073709551616^l.length*valW m:=by
 have e:nW (l++m)=nW l++nW m:=by simp [nW]
 rw [valW,e,K1a];simp [valW,nW]
theorem x0p (l m:List UInt32):valD (l++m)=valD l+4294967296^l.length*valD m:=by
 have e:nD (l++m)=nD l++nD m:=by simp [nD]
 rw [valD,e,K1a];simp [valD,nD]
theorem X0b (l:List UInt64):valW l<18446744073709551616^l.length:=by
 have:=j1p (B:=18446744073709551616) (by decide) _ (G2u l)
 simpa [valW,nW] using this
theorem q0e (l:List UInt32):valD l<4294967296^l.length:=by
 have:=j1p (B:=4294967296) (by decide) _ (w2w l)
 simpa [valD,nD] using this
theorem K0g (l:List UInt64):(cutW l).length≤l.length:=by
 unfold cutW
 rw [List.length_reverse]
 have:=(List.dropWhile_sublist (· ==(0:UInt64)) (l:=l.reverse)).length_le
 simpa using this
theorem Z3e (l:List UInt32):(cutD l).length≤l.length:=by
 unfold cutD
 rw [List.length_reverse]
 have:=(List.dropWhile_sublist (· ==(0:UInt32)) (l:=l.reverse)).length_le
 simpa using this
theorem J1a (l:List UInt64) (h:l≠ []):(cutW l).length=l.length↔l.getD (l.length-1) 0≠0:=by
 obtain⟨i,x,rfl⟩: ∃i x,l=i++ [x]:=⟨l.dropLast,l.getLast h,(List.dropLast_concat_getLast h).symm⟩
 rw [H1o]
 have e:(i++ [x]).getD ((i++ [x]).length-1) 0=x:=by simp [List.getD_eq_getElem?_getD]
 rw [e]
 have:=K0g i
 by_cases hx:x=0
 · simp [hx];omega
 · simp [hx]
theorem V2u (l:List UInt64) (h:cutW l≠ []):(cutW l).getD ((cutW l).length-1) 0≠0:=by
 rw [←J1a _ h]
 congr 1
 rw [←Q0u l,W0y]
theorem x0m {α:Type} (p:α→Bool) (l:List α) (n:Nat) (d:α) (hn:n≤l.length) (hz: ∀j,n≤j→j<l.length→p (l.getD j d)=true) (hl:n=0∨p (l.getD (n-1) d)=false):(l.reverse.dropWhile p).reverse=l.take n:=by
 have e:l=l.take n++l.drop n:=(List.take_append_drop n l).symm
 have hd: ∀x∈(l.drop n).reverse,p x=true:=fun x hx=>by
  rw [List.mem_reverse] at hx
  obtain⟨j,hj,rfl⟩:=List.mem_iff_getElem.1 hx
  rw [List.length_drop] at hj
  have:=hz (n+j) (by omega) (by omega)
  rw [List.getD_eq_getElem?_getD,List.getElem?_eq_getElem (by omega)] at this
  simp only [Option.getD_some] at this
  rw [List.getElem_drop,this]
 conv=>lhs;rw [e]
 rw [List.reverse_append,List.dropWhile_append_of_pos hd]
 rcases hl with rfl | hl
 · simp
 · by_cases h0:n=0
   · subst h0;simp
   · have hne:l.take n=l.take (n-1)++ [l.getD (n-1) d]:=by
      have h1:n-1<l.length:=by omega
      have:=List.take_succ_eq_append_getElem h1
      rw [show n-1+1=n from by omega] at this
      rw [this,List.getD_eq_getElem?_getD,List.getElem?_eq_getElem h1];rfl
     rw [hne,List.reverse_append]
     simp only [List.reverse_cons,List.reverse_nil,List.nil_append,List.singleton_append]
     rw [List.dropWhile_cons_of_neg (by simpa using hl)]
     simp
theorem x1v (l:List UInt64) (n:Nat) (hn:n≤l.length) (hz: ∀j,n≤j→j<l.length→l.getD j 0=0) (hl:n=0∨l.getD (n-1) 0≠0):cutW l=l.take n:=
 x0m _ l n 0 hn (fun j h1 h2=>by simpa using hz j h1 h2) (hl.imp id fun h=>by simpa using h)
theorem Z3f (l:List UInt32) (n:Nat) (hn:n≤l.length) (hz: ∀j,n≤j→j<l.length→l.getD j 0=0) (hl:n=0∨l.getD (n-1) 0≠0):cutD l=l.take n:=
 x0m _ l n 0 hn (fun j h1 h2=>by simpa using hz j h1 h2) (hl.imp id fun h=>by simpa using h)
def Q0g (n:Nat):Nat:=if n=0 then 0 else Nat.log2 n+1
theorem Q0z (n:Nat):n<2^Q0g n:=by
 unfold Q0g
 split
 · rename_i h;subst h;decide
 · exact Nat.lt_log2_self
theorem K0a {n:Nat} (h:n≠0):2^(Q0g n-1)≤n:=by
 unfold Q0g
 rw [if_neg h]
 exact Nat.log2_self_le h
theorem bitlen_le_iff {n k:Nat} :Q0g n≤k↔n<2^k:=by
 constructor
 · intro h
   exact Nat.lt_of_lt_of_le (Q0z n) (Nat.pow_le_pow_right (by decide) h)
 · intro h
   by_cases h0:n=0
   · subst h0;simp [Q0g]
   · apply Nat.le_of_not_lt;intro hk
     have h1:=K0a h0
     have h2:2^k≤2^(Q0g n-1):=Nat.pow_le_pow_right (by decide) (by omega)
     omega
theorem q1f {n k:Nat} (h1:2^k≤n) (h2:n<2^(k+1)):Q0g n=k+1:=by
 have a:=bitlen_le_iff.2 h2
 have b: ¬Q0g n≤k:=fun h=>by have:=bitlen_le_iff.1 h;omega
 omega
theorem X0l :Q0g 0=0:=rfl
theorem Y0r {n:Nat} (h:n≠0):0<Q0g n:=by unfold Q0g;rw [if_neg h];omega
theorem W0n (n k:Nat) (h:n≠0):Q0g (n*2^k)=Q0g n+k:=by
 have h1:=K0a h
 have h2:=Q0z n
 have h3:=Y0r h
 have e:Q0g n+k=(Q0g n-1+k)+1:=by omega
 rw [e]
 apply q1f
 · rw [Nat.pow_add];exact Nat.mul_le_mul_right _ h1
 · rw [show Q0g n-1+k+1=Q0g n+k from by omega,Nat.pow_add]
   exact Nat.mul_lt_mul_of_pos_right h2 (Nat.pow_pos (by decide))
theorem z0i (v k:Nat) (h:v/2^k≠0):Q0g v=Q0g (v/2^k)+k:=by
 have h1:=K0a h
 have h2:=Q0z (v/2^k)
 have h3:=Y0r h
 have e:Q0g (v/2^k)+k=(Q0g (v/2^k)-1+k)+1:=by omega
 rw [e]
 apply q1f
 · rw [Nat.pow_add]
   exact Nat.le_trans (Nat.mul_le_mul_right _ h1) (Nat.div_mul_le_self v (2^k))
 · rw [show Q0g (v/2^k)-1+k+1=Q0g (v/2^k)+k from by omega,Nat.pow_add]
   exact(Nat.div_lt_iff_lt_mul (Nat.pow_pos (by decide))).1 h2
theorem q1e (n:Nat) (h:n<18446744073709551616):Q0g n≤64:=bitlen_le_iff.2 h
theorem q1d (n:Nat) (h:n<4294967296):Q0g n≤32:=bitlen_le_iff.2 h
theorem V1n (a x k:Nat) (ha:a<2^k) (hx:x≠0):Q0g (a+2^k*x)=k+Q0g x:=by
 have hp:0<2^k:=Nat.pow_pos (by decide)
 have e:(a+2^k*x)/2^k=x:=by
  rw [Nat.add_mul_div_left _ _ hp,Nat.div_eq_of_lt ha,Nat.zero_add]
 rw [z0i _ k (by rw [e];exact hx),e,Nat.add_comm]
end Go.Pv
end
section
/-Natural numbers by digits:order,digits put in q0b. No program in it. -/
namespace Go.Pv
def cmpI (a b:Int):Int:=if a<b then -1 else if a>b then 1 else 0
def cmpW (a b:Nat):Int:=cmpI (a:Int) (b:Int)
theorem U0j {a b:Int} (h:a<b):cmpI a b= -1:=by rw [cmpI,if_pos h]
theorem U0k {a b:Int} (h:b<a):cmpI a b=1:=by rw [cmpI,if_neg (by omega),if_pos h]
theorem J1c {a b:Int} (h:a=b):cmpI a b=0:=by rw [cmpI,if_neg (by omega),if_neg (by omega)]
theorem H1u (a b:Int):cmpI b a= -cmpI a b:=by
 unfold cmpI
 by_cases h1:a<b
 · rw [if_pos h1,if_neg (by omega),if_pos (by omega)];rfl
 · by_cases h2:b<a
   · rw [if_pos h2,if_neg h1,if_pos (by omega)]
   · rw [if_neg h2,if_neg (by omega),if_neg h1,if_neg (by omega)];rfl
theorem H1v (a b:Int):cmpI (-a) (-b)= -cmpI a b:=by
 rw [←H1u];unfold cmpI
 by_cases h1:b<a
 · rw [if_pos h1,if_pos (by omega)]
 · rw [if_neg h1,if_neg (by omega)]
   by_cases h2:b>a
   · rw [if_pos h2,if_pos (by omega)]
   · rw [if_neg h2,if_neg (by omega)]
theorem H1n {B n m:Nat} (hB:2≤B) (h:n≤m):(digs B n).length≤(digs B m).length:=by
 apply W0m hB
 have h2:=j1p (B:=B) (by omega) _ (x1u hB m)
 rw [V1r hB] at h2
 omega
theorem j0r {B:Nat} : ∀(l m:List Nat) (i:Nat),(∀x∈l,x<B)→l.length=m.length→i<l.length→
 (∀j,i<j→j<l.length→l.getD j 0=m.getD j 0)→l.getD i 0<m.getD i 0→val B l<val B m
 | [],_,_,_,_,h,_,_=>by simp at h
 | x::l,[],_,_,h,_,_,_=>by simp at h
 | x::l,y::m,0,hl,hlen,_,heq,hlt=>by
  have e:l=m:=List.ext_getElem (by simpa using hlen) fun j h1 h2=>by
   have:=heq (j+1) (by omega) (by simp;omega)
   simpa [List.getD_eq_getElem?_getD,h1,h2] using this
  subst e
  simp only [val]
  have:x<y:=by simpa using hlt
  omega
 | x::l,y::m,i+1,hl,hlen,hi,heq,hlt=>by
  have ih:=j0r l m i (fun z hz=>hl z (List.mem_cons_of_mem _ hz)) (by simpa using hlen) (by simpa using hi)
   (fun j h1 h2=>by have:=heq (j+1) (by omega) (by simp;omega);simpa using this) (by simpa using hlt)
  have hx:=hl x List.mem_cons_self
  simp only [val]
  have:B*(val B l+1)≤B*val B m:=Nat.mul_le_mul_left _ ih
  rw [Nat.mul_add] at this
  omega
theorem q1q (B:Nat): ∀(l:List Nat) (i x:Nat),i<l.length→val B (l.set i x)+B^i*l.getD i 0=val B l+B^i*x
 | [],i,x,h=>by simp at h
 | y::l,0,x,h=>by simp [val];omega
 | y::l,i+1,x,h=>by
  have ih:=q1q B l i x (by simpa using h)
  simp only [List.set_cons_succ,val,List.getD_cons_succ,Nat.pow_succ]
  have:B*(val B (l.set i x)+B^i*l.getD i 0)=B*(val B l+B^i*x):=by rw [ih]
  rw [Nat.mul_add,Nat.mul_add] at this
  rw [Nat.mul_comm (B^i) B,Nat.mul_assoc,Nat.mul_assoc]
  omega
theorem U0q (B n:Nat):val B (List.replicate n 0)=0:=by
 induction n with
 | zero=>rfl
 | succ n ih=>rw [List.replicate_succ,val,ih];simp
theorem H0j (l:List UInt64) (i:Nat):(nW l).getD i 0=(l.getD i 0).toNat:=by
 simp only [nW,List.getD_eq_getElem?_getD,List.getElem?_map]
 cases l[i]?<;>rfl
theorem Z1y (l:List UInt32) (i:Nat):(nD l).getD i 0=(l.getD i 0).toNat:=by
 simp only [nD,List.getD_eq_getElem?_getD,List.getElem?_map]
 cases l[i]?<;>rfl
theorem U0r (l:List UInt64) (i:Nat) (c:UInt64) (h:i<l.length):valW (l.set i c)+18446744073709551616^i*(l.getD i 0).toNat=valW l+18446744073709551616^i*c.toNat:=by
 have:=q1q 18446744073709551616 (nW l) i c.toNat (by simpa [nW] using h)
 rw [H0j] at this
 have e:(nW l).set i c.toNat=nW (l.set i c):=by simp [nW,List.map_set]
 rw [e] at this
 exact this
theorem j0u (l:List UInt32) (i:Nat) (c:UInt32) (h:i<l.length):valD (l.set i c)+4294967296^i*(l.getD i 0).toNat=valD l+4294967296^i*c.toNat:=by
 have:=q1q 4294967296 (nD l) i c.toNat (by simpa [nD] using h)
 rw [Z1y] at this
 have e:(nD l).set i c.toNat=nD (l.set i c):=by simp [nD,List.map_set]
 rw [e] at this
 exact this
theorem v0w (n:Nat):valW (List.replicate n 0)=0:=by
 have:nW (List.replicate n 0)=List.replicate n 0:=by simp [nW]
 rw [valW,this,U0q]
theorem v0x (n:Nat):valD (List.replicate n 0)=0:=by
 have:nD (List.replicate n 0)=List.replicate n 0:=by simp [nD]
 rw [valD,this,U0q]
theorem Z2f (l:List UInt64) (c:UInt64):valW (l++ [c])=valW l+18446744073709551616^l.length*c.toNat:=by
 rw [K0m];simp [valW,nW,val]
theorem j0t (l:List UInt32) (c:UInt32):valD (l++ [c])=valD l+4294967296^l.length*c.toNat:=by
 rw [x0p];simp [valD,nD,val]
theorem q0h {α:Type} (l:List α) (i:Nat) (d:α) (h:i<l.length):l.take (i+1)=l.take i++ [l.getD i d]:=by
 rw [List.take_succ_eq_append_getElem h,List.getD_eq_getElem?_getD,List.getElem?_eq_getElem h];rfl
theorem Z0p (l:List UInt64) (i:Nat) (h:i<l.length):valW (l.take (i+1))=valW (l.take i)+18446744073709551616^i*(l.getD i 0).toNat:=by
 rw [q0h l i 0 h,Z2f,List.length_take,Nat.min_eq_left (by omega)]
theorem K0b (l:List UInt32) (i:Nat) (h:i<l.length):valD (l.take (i+1))=valD (l.take i)+4294967296^i*(l.getD i 0).toNat:=by
 rw [q0h l i 0 h,j0t,List.length_take,Nat.min_eq_left (by omega)]
theorem Z0q {n k:Nat} (h:n<18446744073709551616^k):(Q0l n).length≤k:=by
 simp only [Q0l,List.length_map];exact W0m (by decide) k n h
theorem G0b {n k:Nat} (h:n<4294967296^k):(Q0c n).length≤k:=by
 simp only [Q0c,List.length_map];exact W0m (by decide) k n h
theorem v0d (n:Nat):n<4294967296^(Q0c n).length:=by
 have:=q0e (Q0c n);rwa [Q0x] at this
theorem V0n {n m:Nat} (h:n≤m):(Q0l n).length≤(Q0l m).length:=by
 simp only [Q0l,List.length_map];exact H1n (by decide) h
theorem H0r {n m:Nat} (h:n≤m):(Q0c n).length≤(Q0c m).length:=by
 simp only [Q0c,List.length_map];exact H1n (by decide) h
theorem x1w {a b:List UInt64} (ha:cutW a=a) (hb:cutW b=b) (h:a.length≠b.length):cmpI a.length b.length=cmpW (valW a) (valW b):=by
 rw [←Q0u] at ha hb
 have m1:valW a≤valW b→a.length≤b.length:=fun h=>by have:=V0n h;rwa [ha,hb] at this
 have m2:valW b≤valW a→b.length≤a.length:=fun h=>by have:=V0n h;rwa [ha,hb] at this
 by_cases hl:a.length<b.length
 · rw [U0j (by omega),cmpW,U0j]
   have: ¬valW b≤valW a:=fun h=>by have:=m2 h;omega
   omega
 · rw [U0k (by omega),cmpW,U0k]
   have: ¬valW a≤valW b:=fun h=>by have:=m1 h;omega
   omega
theorem x1z {a b:Nat} (h:(Q0c a).length≠(Q0c b).length):cmpI (Q0c a).length (Q0c b).length=cmpW a b:=by
 have m1:a≤b→(Q0c a).length≤(Q0c b).length:=H0r
 have m2:b≤a→(Q0c b).length≤(Q0c a).length:=H0r
 by_cases hl:(Q0c a).length<(Q0c b).length
 · rw [U0j (by omega),cmpW,U0j]
   have: ¬b≤a:=fun h=>by have:=m2 h;omega
   omega
 · rw [U0k (by omega),cmpW,U0k]
   have: ¬a≤b:=fun h=>by have:=m1 h;omega
   omega
theorem Z3j {a b:List UInt64} (hl:a.length=b.length) (i:Nat) (hi:i<a.length) (heq: ∀j,i<j→j<a.length→a.getD j 0=b.getD j 0) (hne:a.getD i 0≠b.getD i 0):
 cmpI (a.getD i 0).toNat (b.getD i 0).toNat=cmpW (valW a) (valW b):=by
 have hn:(a.getD i 0).toNat≠(b.getD i 0).toNat:=fun e=>hne (UInt64.toNat.inj e)
 have la:(nW a).length=a.length:=by simp [nW]
 have lb:(nW b).length=b.length:=by simp [nW]
 by_cases h:(a.getD i 0).toNat<(b.getD i 0).toNat
 · have:=j0r (nW a) (nW b) i (G2u a) (by omega) (by omega) (fun j h1 h2=>by rw [H0j,H0j,heq j h1 (by omega)]) (by rw [H0j,H0j];exact h)
   rw [U0j (by omega),cmpW,U0j]
   simp only [valW];omega
 · have:=j0r (nW b) (nW a) i (G2u b) (by omega) (by omega) (fun j h1 h2=>by rw [H0j,H0j,heq j h1 (by omega)]) (by rw [H0j,H0j];omega)
   rw [U0k (by omega),cmpW,U0k]
   simp only [valW];omega
theorem K1b {a b:List UInt32} (hl:a.length=b.length) (i:Nat) (hi:i<a.length) (heq: ∀j,i<j→j<a.length→a.getD j 0=b.getD j 0) (h:(a.getD i 0).toNat<(b.getD i 0).toNat):valD a<valD b:=by
 have la:(nD a).length=a.length:=by simp [nD]
 have lb:(nD b).length=b.length:=by simp [nD]
 exact j0r (nD a) (nD b) i (w2w a) (by omega) (by omega) (fun j h1 h2=>by rw [Z1y,Z1y,heq j h1 (by omega)]) (by rw [Z1y,Z1y];exact h)
theorem Y0o {α:Type} {a b:List α} (d:α) (hl:a.length=b.length) (h: ∀j,j<a.length→a.getD j d=b.getD j d):a=b:=
 List.ext_getElem hl fun j h1 h2=>by
  have:=h j h1
  simpa [List.getD_eq_getElem?_getD,h1,h2] using this
theorem J0f {α:Type} (l:List α) (i j:Nat) (x d:α):(l.set i x).getD j d=if i=j∧j<l.length then x else l.getD j d:=by
 simp only [List.getD_eq_getElem?_getD,List.getElem?_set]
 by_cases h:i=j
 · subst h
   by_cases h2:i<l.length
   · simp [h2]
   · simp [h2]
 · simp [h]
theorem K0d {α:Type} (n j:Nat) (x:α):(List.replicate n x).getD j x=x:=by
 simp only [List.getD_eq_getElem?_getD,List.getElem?_replicate]
 split<;>rfl
theorem q0t {a b:Nat} (h:((a:Int) !=(b:Int))=true):a≠b:=by
 intro e;subst e;simp at h
theorem H0x {a b:Nat} (h:((a:Int) !=(b:Int))=false):a=b:=by
 have:(a:Int)=b:=by simpa using h
 omega
theorem G0r {a b:Nat} (h:((a:Int)==(b:Int))=true):a=b:=by
 have:(a:Int)=b:=by simpa using h
 omega
theorem x0k {a b:Nat} (h:((a:Int)==(b:Int))=false):a≠b:=by
 intro e;subst e;simp at h
theorem q0c {a b:Int} (h:(a !=b)=true):a≠b:=by intro e;subst e;simp at h
theorem x0f {a b:Int} (h:(a !=b)=false):a=b:=by simpa using h
theorem Q2y {a b:Int} (h:(a==b)=true):a=b:=by simpa using h
theorem K3e {a b:Int} (h:(a==b)=false):a≠b:=by intro e;subst e;simp at h
end Go.Pv
end
