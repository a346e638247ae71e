/- Parts of the walk: PvTab, M1, M2. -/
import Derived.Test.YthlnpmkcmbohaaaGreatDoorZC
import Derived.Test.YthlnpmkcmbohaaaGreatDoorProg
import Derived.KernelRfl
set_option linter.unusedVariables false
set_option linter.unusedSimpArgs false
section
namespace Go.Proofs
open Go.Pv
@[go_sem] theorem Tryz.ti2 :ti Tryz.prog 2=some ⟨false,1,.int .i64,some (.int .i64 0)⟩:=by kernel_rfl
@[go_sem] theorem Tryz.ti3 :ti Tryz.prog 3=some ⟨false,1,.int .i64,some (.int .i64 0)⟩:=by kernel_rfl
@[go_sem] theorem Tryz.ti4 :ti Tryz.prog 4=some ⟨false,1,.bool,some (.bool false)⟩:=by kernel_rfl
@[go_sem] theorem Tryz.ti5 :ti Tryz.prog 5=some ⟨false,1,.int .u8,some (.int .u8 0)⟩:=by kernel_rfl
@[go_sem] theorem Tryz.ti9 :ti Tryz.prog 9=some ⟨false,1,.str,some (.string ByteArray.empty)⟩:=by kernel_rfl
@[go_sem] theorem Tryz.ti22 :ti Tryz.prog 22=some ⟨false,1,.slice ⟨70,1,8,false,true,false⟩,some (.slice none 0 0)⟩:=by kernel_rfl
@[go_sem] theorem Tryz.ti27 :ti Tryz.prog 27=some ⟨false,1,.slice ⟨52,3,40,true,true,false⟩,some (.slice none 0 0)⟩:=by kernel_rfl
@[go_sem] theorem Tryz.ti28 :ti Tryz.prog 28=some ⟨false,1,.slice ⟨27,1,24,false,true,false⟩,some (.slice none 0 0)⟩:=by kernel_rfl
@[go_sem] theorem Tryz.ti29 :ti Tryz.prog 29=some ⟨false,1,.slice ⟨66,6,80,true,true,false⟩,some (.slice none 0 0)⟩:=by kernel_rfl
@[go_sem] theorem Tryz.ti31 :ti Tryz.prog 31=some ⟨true,3,.struct [(0,⟨27,1,24,false,true,false⟩),(1,⟨28,1,24,false,true,false⟩),(2,⟨29,1,24,false,true,false⟩)],some (.agg #[.slice none 0 0,.slice none 0 0,.slice none 0 0])⟩:=by kernel_rfl
@[go_sem] theorem Tryz.ti34 :ti Tryz.prog 34=some ⟨false,1,.slice ⟨29,1,24,false,true,false⟩,some (.slice none 0 0)⟩:=by kernel_rfl
@[go_sem] theorem Tryz.ti36 :ti Tryz.prog 36=some ⟨false,1,.int .i64,some (.int .i64 0)⟩:=by kernel_rfl
@[go_sem] theorem Tryz.ti41 :ti Tryz.prog 41=some ⟨false,1,.slice ⟨44,1,24,false,true,false⟩,some (.slice none 0 0)⟩:=by kernel_rfl
@[go_sem] theorem Tryz.ti44 :ti Tryz.prog 44=some ⟨false,1,.slice ⟨48,3,40,true,true,false⟩,some (.slice none 0 0)⟩:=by kernel_rfl
@[go_sem] theorem Tryz.ti46 :ti Tryz.prog 46=some ⟨false,1,.slice ⟨138,1,4,false,true,false⟩,some (.slice none 0 0)⟩:=by kernel_rfl
@[go_sem] theorem Tryz.ti48 :ti Tryz.prog 48=some ⟨true,3,.struct [(0,⟨4,1,1,false,true,false⟩),(1,⟨46,1,24,false,true,false⟩),(2,⟨2,1,8,false,true,false⟩)],some (.agg #[.bool false,.slice none 0 0,.int .i64 0])⟩:=by kernel_rfl
@[go_sem] theorem Tryz.ti52 :ti Tryz.prog 52=some ⟨true,3,.struct [(0,⟨4,1,1,false,true,false⟩),(1,⟨2,1,8,false,true,false⟩),(2,⟨22,1,24,false,true,false⟩)],some (.agg #[.bool false,.int .i64 0,.slice none 0 0])⟩:=by kernel_rfl
@[go_sem] theorem Tryz.ti66 :ti Tryz.prog 66=some ⟨true,6,.struct [(0,⟨52,3,40,true,true,false⟩),(3,⟨52,3,40,true,true,false⟩)],some (.agg #[.bool false,.int .i64 0,.slice none 0 0,.bool false,.int .i64 0,.slice none 0 0])⟩:=by kernel_rfl
@[go_sem] theorem Tryz.ti70 :ti Tryz.prog 70=some ⟨false,1,.int .u64,some (.int .u64 0)⟩:=by kernel_rfl
@[go_sem] theorem Tryz.ti76 :ti Tryz.prog 76=some ⟨true,2,.struct [(0,⟨22,1,24,false,true,false⟩),(1,⟨3,1,8,false,true,false⟩)],some (.agg #[.slice none 0 0,.int .i64 0])⟩:=by kernel_rfl
@[go_sem] theorem Tryz.ti91 :ti Tryz.prog 91=some ⟨true,2,.struct [(0,⟨28,1,24,false,true,false⟩),(1,⟨34,1,24,false,true,false⟩)],some (.agg #[.slice none 0 0,.slice none 0 0])⟩:=by kernel_rfl
@[go_sem] theorem Tryz.ti120 :ti Tryz.prog 120=some ⟨false,1,.int .u64,some (.int .u64 0)⟩:=by kernel_rfl
@[go_sem] theorem Tryz.ti132 :ti Tryz.prog 132=some ⟨false,1,.other,some (.nilFunc)⟩:=by kernel_rfl
@[go_sem] theorem Tryz.ti133 :ti Tryz.prog 133=some ⟨false,1,.slice ⟨132,1,8,false,true,false⟩,some (.slice none 0 0)⟩:=by kernel_rfl
@[go_sem] theorem Tryz.ti136 :ti Tryz.prog 136=some ⟨false,1,.other,some (.nilFunc)⟩:=by kernel_rfl
@[go_sem] theorem Tryz.ti138 :ti Tryz.prog 138=some ⟨false,1,.int .u32,some (.int .u32 0)⟩:=by kernel_rfl
@[go_sem] theorem Tryz.ti176 :ti Tryz.prog 176=some ⟨true,3,.struct [(0,⟨28,1,24,false,true,false⟩),(1,⟨28,1,24,false,true,false⟩),(2,⟨3,1,8,false,true,false⟩)],some (.agg #[.slice none 0 0,.slice none 0 0,.int .i64 0])⟩:=by kernel_rfl
@[go_sem] theorem Tryz.ti191 :ti Tryz.prog 191=some ⟨true,64,.arr 64 ⟨5,1,1,false,true,true⟩,some (.agg #[.int .u8 0,.int .u8 0,.int .u8 0,.int .u8 0,.int .u8 0,.int .u8 0,.int .u8 0,.int .u8 0,.int .u8 0,.int .u8 0,.int .u8 0,.int .u8 0,.int .u8 0,.int .u8 0,.int .u8 0,.int .u8 0,.int .u8 0,.int .u8 0,.int .u8 0,.int .u8 0,.int .u8 0,.int .u8 0,.int .u8 0,.int .u8 0,.int .u8 0,.int .u8 0,.int .u8 0,.int .u8 0,.int .u8 0,.int .u8 0,.int .u8 0,.int .u8 0,.int .u8 0,.int .u8 0,.int .u8 0,.int .u8 0,.int .u8 0,.int .u8 0,.int .u8 0,.int .u8 0,.int .u8 0,.int .u8 0,.int .u8 0,.int .u8 0,.int .u8 0,.int .u8 0,.int .u8 0,.int .u8 0,.int .u8 0,.int .u8 0,.int .u8 0,.int .u8 0,.int .u8 0,.int .u8 0,.int .u8 0,.int .u8 0,.int .u8 0,.int .u8 0,.int .u8 0,.int .u8 0,.int .u8 0,.int .u8 0,.int .u8 0,.int .u8 0])⟩:=by kernel_rfl
@[go_sem] theorem Tryz.ca179 :Qc Tryz.prog 179=false:=by kernel_rfl
@[go_sem] theorem Tryz.ca181 :Qc Tryz.prog 181=false:=by kernel_rfl
theorem Tryz.res3 :Tryz.f3.results.toList= [.tmp 2]:=rfl
theorem Tryz.res4 :Tryz.f4.results.toList= [.tmp 2]:=rfl
theorem Tryz.res5 :Tryz.f5.results.toList= [.tmp 2]:=rfl
theorem Tryz.res6 :Tryz.f6.results.toList= [.tmp 0]:=rfl
theorem Tryz.res7 :Tryz.f7.results.toList= [.tmp 2]:=rfl
theorem Tryz.res8 :Tryz.f8.results.toList= [.tmp 2]:=rfl
theorem Tryz.res9 :Tryz.f9.results.toList= [.cell 4 31]:=rfl
theorem Tryz.res10 :Tryz.f10.results.toList= [.tmp 4]:=rfl
theorem Tryz.res11 :Tryz.f11.results.toList= [.tmp 4]:=rfl
theorem Tryz.res12 :Tryz.f12.results.toList= [.tmp 2]:=rfl
theorem Tryz.res13 :Tryz.f13.results.toList= [.cell 8 31,.tmp 9]:=rfl
theorem Tryz.res14 :Tryz.f14.results.toList= [.tmp 2]:=rfl
theorem Tryz.res15 :Tryz.f15.results.toList= [.tmp 4]:=rfl
theorem Tryz.res16 :Tryz.f16.results.toList= [.tmp 2]:=rfl
theorem Tryz.res17 :Tryz.f17.results.toList= [.tmp 4]:=rfl
theorem Tryz.res18 :Tryz.f18.results.toList= [.tmp 4]:=rfl
theorem Tryz.res19 :Tryz.f19.results.toList= [.cell 4 48]:=rfl
theorem Tryz.res20 :Tryz.f20.results.toList= [.cell 2 48]:=rfl
theorem Tryz.res21 :Tryz.f21.results.toList= [.cell 4 48]:=rfl
theorem Tryz.res22 :Tryz.f22.results.toList= [.cell 4 48]:=rfl
theorem Tryz.res23 :Tryz.f23.results.toList= [.cell 2 48]:=rfl
theorem Tryz.res24 :Tryz.f24.results.toList= [.tmp 2]:=rfl
theorem Tryz.res25 :Tryz.f25.results.toList= [.tmp 6]:=rfl
theorem Tryz.res26 :Tryz.f26.results.toList= [.cell 4 31,.tmp 5]:=rfl
theorem Tryz.res27 :Tryz.f27.results.toList= [.tmp 2]:=rfl
theorem Tryz.res28 :Tryz.f28.results.toList= [.tmp 2]:=rfl
theorem Tryz.res29 :Tryz.f29.results.toList= [.tmp 4,.tmp 5]:=rfl
theorem Tryz.res30 :Tryz.f30.results.toList= [.tmp 4]:=rfl
theorem Tryz.res31 :Tryz.f31.results.toList= [.tmp 4]:=rfl
theorem Tryz.res32 :Tryz.f32.results.toList= [.tmp 2]:=rfl
theorem Tryz.res33 :Tryz.f33.results.toList= [.cell 4 52,.tmp 5]:=rfl
theorem Tryz.res34 :Tryz.f34.results.toList= [.tmp 4]:=rfl
theorem Tryz.res35 :Tryz.f35.results.toList= [.tmp 2]:=rfl
theorem Tryz.res36 :Tryz.f36.results.toList= [.tmp 6]:=rfl
theorem Tryz.res37 :Tryz.f37.results.toList= [.cell 2 48]:=rfl
theorem Tryz.res38 :Tryz.f38.results.toList= [.cell 2 66]:=rfl
theorem Tryz.res39 :Tryz.f39.results.toList= [.tmp 4]:=rfl
theorem Tryz.res40 :Tryz.f40.results.toList= [.tmp 2]:=rfl
theorem Tryz.res41 :Tryz.f41.results.toList= [.tmp 4]:=rfl
theorem Tryz.res42 :Tryz.f42.results.toList= [.tmp 4]:=rfl
theorem Tryz.res43 :Tryz.f43.results.toList= [.tmp 4]:=rfl
theorem Tryz.res44 :Tryz.f44.results.toList= [.cell 2 52]:=rfl
theorem Tryz.res45 :Tryz.f45.results.toList= [.cell 2 52]:=rfl
theorem Tryz.res46 :Tryz.f46.results.toList= [.cell 2 52]:=rfl
theorem Tryz.res47 :Tryz.f47.results.toList= [.cell 2 66]:=rfl
theorem Tryz.res48 :Tryz.f48.results.toList= [.tmp 2]:=rfl
theorem Tryz.res49 :Tryz.f49.results.toList= [.tmp 2]:=rfl
theorem Tryz.res50 :Tryz.f50.results.toList= [.tmp 2]:=rfl
theorem Tryz.res51 :Tryz.f51.results.toList= [.tmp 4,.tmp 5]:=rfl
theorem Tryz.res52 :Tryz.f52.results.toList= [.tmp 6,.tmp 7]:=rfl
theorem Tryz.res53 :Tryz.f53.results.toList= [.tmp 2]:=rfl
theorem Tryz.res54 :Tryz.f54.results.toList= [.cell 4 91,.tmp 5]:=rfl
theorem Tryz.res55 :Tryz.f55.results.toList= [.tmp 6,.tmp 7]:=rfl
theorem Tryz.res56 :Tryz.f56.results.toList= [.tmp 10,.tmp 11]:=rfl
theorem Tryz.res57 :Tryz.f57.results.toList= [.tmp 2]:=rfl
theorem Tryz.res58 :Tryz.f58.results.toList= [.tmp 2]:=rfl
theorem Tryz.res59 :Tryz.f59.results.toList= [.tmp 2]:=rfl
theorem Tryz.res60 :Tryz.f60.results.toList= [.tmp 4]:=rfl
theorem Tryz.res61 :Tryz.f61.results.toList= [.cell 4 52]:=rfl
theorem Tryz.res62 :Tryz.f62.results.toList= [.cell 2 48]:=rfl
theorem Tryz.res63 :Tryz.f63.results.toList= [.tmp 2]:=rfl
theorem Tryz.res64 :Tryz.f64.results.toList= [.tmp 4]:=rfl
theorem Tryz.res65 :Tryz.f65.results.toList= [.cell 6 48]:=rfl
theorem Tryz.res66 :Tryz.f66.results.toList= [.tmp 4]:=rfl
theorem Tryz.res67 :Tryz.f67.results.toList= [.tmp 4]:=rfl
theorem Tryz.res68 :Tryz.f68.results.toList= [.tmp 4]:=rfl
theorem Tryz.res69 :Tryz.f69.results.toList= [.tmp 4]:=rfl
theorem Tryz.res70 :Tryz.f70.results.toList= [.tmp 6]:=rfl
theorem Tryz.res71 :Tryz.f71.results.toList= [.cell 6 48]:=rfl
theorem Tryz.res72 :Tryz.f72.results.toList= [.tmp 2]:=rfl
theorem Tryz.res73 :Tryz.f73.results.toList= [.tmp 4,.tmp 5]:=rfl
theorem Tryz.res74 :Tryz.f74.results.toList= [.cell 4 66,.tmp 5]:=rfl
theorem Tryz.res75 :Tryz.f75.results.toList= [.cell 2 52]:=rfl
theorem Tryz.res76 :Tryz.f76.results.toList= [.tmp 6,.tmp 7]:=rfl
theorem Tryz.res77 :Tryz.f77.results.toList= [.tmp 6,.tmp 7]:=rfl
theorem Tryz.res78 :Tryz.f78.results.toList= [.tmp 6]:=rfl
theorem Tryz.res79 :Tryz.f79.results.toList= [.tmp 4]:=rfl
theorem Tryz.res80 :Tryz.f80.results.toList= [.tmp 4]:=rfl
theorem Tryz.res81 :Tryz.f81.results.toList= [.cell 6 52,.tmp 7]:=rfl
theorem Tryz.res82 :Tryz.f82.results.toList= [.cell 4 52]:=rfl
theorem Tryz.res83 :Tryz.f83.results.toList= [.tmp 2]:=rfl
theorem Tryz.res84 :Tryz.f84.results.toList= [.tmp 4]:=rfl
theorem Tryz.res85 :Tryz.f85.results.toList= [.tmp 4]:=rfl
theorem Tryz.res86 :Tryz.f86.results.toList= [.cell 4 66]:=rfl
theorem Tryz.res87 :Tryz.f87.results.toList= [.tmp 4]:=rfl
theorem Tryz.res88 :Tryz.f88.results.toList= [.tmp 4]:=rfl
theorem Tryz.res89 :Tryz.f89.results.toList= [.tmp 2]:=rfl
theorem Tryz.res90 :Tryz.f90.results.toList= [.tmp 4]:=rfl
theorem Tryz.res91 :Tryz.f91.results.toList= [.cell 6 52]:=rfl
theorem Tryz.res92 :Tryz.f92.results.toList= [.cell 2 66]:=rfl
theorem Tryz.res93 :Tryz.f93.results.toList= [.cell 4 66]:=rfl
theorem Tryz.res94 :Tryz.f94.results.toList= [.tmp 4,.tmp 5]:=rfl
theorem Tryz.res95 :Tryz.f95.results.toList= [.cell 5 52,.tmp 6]:=rfl
theorem Tryz.res96 :Tryz.f96.results.toList= [.cell 4 52,.tmp 5]:=rfl
theorem Tryz.res97 :Tryz.f97.results.toList= [.tmp 6]:=rfl
theorem Tryz.res98 :Tryz.f98.results.toList= [.cell 7 66,.tmp 8]:=rfl
theorem Tryz.res99 :Tryz.f99.results.toList= [.cell 6 66,.tmp 7]:=rfl
theorem Tryz.res100 :Tryz.f100.results.toList= [.cell 6 66,.cell 7 66]:=rfl
theorem Tryz.res101 :Tryz.f101.results.toList= [.cell 2 91,.tmp 3]:=rfl
theorem Tryz.res102 :Tryz.f102.results.toList= [.tmp 4,.tmp 5]:=rfl
theorem Tryz.res103 :Tryz.f103.results.toList= [.tmp 4,.tmp 5]:=rfl
theorem Tryz.res104 :Tryz.f104.results.toList= [.tmp 4,.tmp 5]:=rfl
theorem Tryz.res105 :Tryz.f105.results.toList= [.cell 1 91,.tmp 2]:=rfl
theorem Tryz.res106 :Tryz.f106.results.toList= [.tmp 6,.tmp 7]:=rfl
theorem Tryz.res107 :Tryz.f107.results.toList= [.cell 5 66,.tmp 6]:=rfl
theorem Tryz.res108 :Tryz.f108.results.toList= [.cell 6 66,.tmp 7]:=rfl
theorem Tryz.res109 :Tryz.f109.results.toList= [.tmp 2]:=rfl
theorem Tryz.res110 :Tryz.f110.results.toList= [.tmp 4]:=rfl
theorem Tryz.res111 :Tryz.f111.results.toList= [.cell 2 52,.tmp 3]:=rfl
theorem Tryz.res112 :Tryz.f112.results.toList= [.tmp 2]:=rfl
theorem Tryz.res113 :Tryz.f113.results.toList= [.tmp 2]:=rfl
theorem Tryz.res114 :Tryz.f114.results.toList= [.tmp 4,.tmp 5]:=rfl
theorem Tryz.res115 :Tryz.f115.results.toList= [.tmp 4]:=rfl
theorem Tryz.res116 :Tryz.f116.results.toList= [.cell 6 52,.tmp 7]:=rfl
theorem Tryz.res117 :Tryz.f117.results.toList= [.cell 4 66,.cell 5 66]:=rfl
theorem Tryz.res118 :Tryz.f118.results.toList= [.cell 5 66,.tmp 6]:=rfl
theorem Tryz.res119 :Tryz.f119.results.toList= [.cell 6 66,.tmp 7]:=rfl
theorem Tryz.res120 :Tryz.f120.results.toList= [.tmp 6]:=rfl
theorem Tryz.res121 :Tryz.f121.results.toList= [.cell 2 52,.tmp 3]:=rfl
theorem Tryz.res122 :Tryz.f122.results.toList= [.cell 4 52]:=rfl
theorem Tryz.res123 :Tryz.f123.results.toList= [.cell 2 52]:=rfl
theorem Tryz.res124 :Tryz.f124.results.toList= [.tmp 2]:=rfl
theorem Tryz.res125 :Tryz.f125.results.toList= [.tmp 2]:=rfl
theorem Tryz.res126 :Tryz.f126.results.toList= [.tmp 4]:=rfl
theorem Tryz.res127 :Tryz.f127.results.toList= [.tmp 4]:=rfl
theorem Tryz.res128 :Tryz.f128.results.toList= [.cell 2 52]:=rfl
theorem Tryz.res129 :Tryz.f129.results.toList= [.tmp 4]:=rfl
theorem Tryz.res130 :Tryz.f130.results.toList= [.cell 6 52,.tmp 7]:=rfl
theorem Tryz.res131 :Tryz.f131.results.toList= [.cell 4 52]:=rfl
theorem Tryz.res132 :Tryz.f132.results.toList= [.cell 6 52]:=rfl
theorem Tryz.res133 :Tryz.f133.results.toList= [.cell 2 52]:=rfl
theorem Tryz.res134 :Tryz.f134.results.toList= [.cell 6 66,.tmp 7]:=rfl
theorem Tryz.res135 :Tryz.f135.results.toList= [.tmp 2]:=rfl
theorem Tryz.res136 :Tryz.f136.results.toList= [.tmp 6,.tmp 7]:=rfl
theorem Tryz.res137 :Tryz.f137.results.toList= [.tmp 4,.tmp 5]:=rfl
theorem Tryz.res138 :Tryz.f138.results.toList= [.cell 6 52,.tmp 7]:=rfl
theorem Tryz.res139 :Tryz.f139.results.toList= [.tmp 4]:=rfl
theorem Tryz.res140 :Tryz.f140.results.toList= [.cell 6 52,.tmp 7]:=rfl
theorem Tryz.res141 :Tryz.f141.results.toList= [.cell 8 52,.tmp 9]:=rfl
theorem Tryz.res142 :Tryz.f142.results.toList= [.cell 8 52,.tmp 9]:=rfl
theorem Tryz.res143 :Tryz.f143.results.toList= [.cell 4 66,.tmp 5]:=rfl
theorem Tryz.res144 :Tryz.f144.results.toList= [.tmp 4,.tmp 5]:=rfl
theorem Tryz.res145 :Tryz.f145.results.toList= [.cell 6 66,.tmp 7]:=rfl
theorem Tryz.res146 :Tryz.f146.results.toList= [.tmp 6]:=rfl
theorem Tryz.res147 :Tryz.f147.results.toList= [.cell 6 66,.tmp 7]:=rfl
theorem Tryz.res148 :Tryz.f148.results.toList= [.tmp 2]:=rfl
theorem Tryz.res149 :Tryz.f149.results.toList= [.tmp 2]:=rfl
theorem Tryz.res150 :Tryz.f150.results.toList= [.tmp 2]:=rfl
theorem Tryz.res151 :Tryz.f151.results.toList= [.tmp 4]:=rfl
theorem Tryz.res152 :Tryz.f152.results.toList= [.tmp 4]:=rfl
theorem Tryz.res153 :Tryz.f153.results.toList= [.tmp 4]:=rfl
theorem Tryz.res154 :Tryz.f154.results.toList= [.tmp 4,.tmp 5]:=rfl
theorem Tryz.res155 :Tryz.f155.results.toList= [.tmp 2]:=rfl
theorem Tryz.res156 :Tryz.f156.results.toList= [.tmp 2]:=rfl
theorem Tryz.res157 :Tryz.f157.results.toList= [.tmp 4]:=rfl
theorem Tryz.res158 :Tryz.f158.results.toList= [.tmp 4]:=rfl
theorem Tryz.res159 :Tryz.f159.results.toList= [.tmp 4]:=rfl
theorem Tryz.res160 :Tryz.f160.results.toList= [.cell 6 52]:=rfl
theorem Tryz.res161 :Tryz.f161.results.toList= [.tmp 2]:=rfl
theorem Tryz.res162 :Tryz.f162.results.toList= [.cell 4 52]:=rfl
theorem Tryz.res163 :Tryz.f163.results.toList= []:=rfl
theorem Tryz.res164 :Tryz.f164.results.toList= [.cell 4 52]:=rfl
theorem Tryz.res165 :Tryz.f165.results.toList= [.tmp 6,.tmp 7]:=rfl
theorem Tryz.res166 :Tryz.f166.results.toList= [.tmp 2,.tmp 3]:=rfl
theorem Tryz.res167 :Tryz.f167.results.toList= [.tmp 2]:=rfl
theorem Tryz.res168 :Tryz.f168.results.toList= [.tmp 2]:=rfl
theorem Tryz.res169 :Tryz.f169.results.toList= [.tmp 2]:=rfl
theorem Tryz.res170 :Tryz.f170.results.toList= [.tmp 4]:=rfl
theorem Tryz.res171 :Tryz.f171.results.toList= [.tmp 6,.tmp 7]:=rfl
theorem Tryz.res172 :Tryz.f172.results.toList= [.cell 4 52,.tmp 5]:=rfl
theorem Tryz.res173 :Tryz.f173.results.toList= [.cell 8 52,.tmp 9]:=rfl
theorem Tryz.res174 :Tryz.f174.results.toList= [.cell 8 52,.tmp 9]:=rfl
theorem Tryz.res175 :Tryz.f175.results.toList= [.cell 10 52,.tmp 11]:=rfl
theorem Tryz.res176 :Tryz.f176.results.toList= [.cell 6 52,.tmp 7]:=rfl
theorem Tryz.res177 :Tryz.f177.results.toList= [.tmp 2]:=rfl
theorem Tryz.res178 :Tryz.f178.results.toList= [.tmp 2]:=rfl
theorem Tryz.res180 :Tryz.f180.results.toList= [.tmp 2]:=rfl
theorem Tryz.res182 :Tryz.f182.results.toList= [.tmp 2]:=rfl
theorem Tryz.res183 :Tryz.f183.results.toList= [.tmp 4]:=rfl
theorem Tryz.res184 :Tryz.f184.results.toList= [.tmp 3]:=rfl
theorem Tryz.res185 :Tryz.f185.results.toList= [.tmp 4]:=rfl
theorem Tryz.res186 :Tryz.f186.results.toList= [.cell 6 52,.tmp 7]:=rfl
theorem Tryz.res187 :Tryz.f187.results.toList= [.cell 2 52]:=rfl
theorem Tryz.res188 :Tryz.f188.results.toList= [.tmp 2]:=rfl
theorem Tryz.res189 :Tryz.f189.results.toList= [.cell 4 52,.tmp 5]:=rfl
theorem Tryz.res190 :Tryz.f190.results.toList= [.tmp 4]:=rfl
theorem Tryz.res191 :Tryz.f191.results.toList= [.tmp 6]:=rfl
theorem Tryz.res192 :Tryz.f192.results.toList= [.tmp 8]:=rfl
theorem Tryz.res193 :Tryz.f193.results.toList= [.cell 7 66,.tmp 8]:=rfl
theorem Tryz.res194 :Tryz.f194.results.toList= [.cell 2 52]:=rfl
theorem Tryz.res195 :Tryz.f195.results.toList= [.cell 6 52]:=rfl
theorem Tryz.res196 :Tryz.f196.results.toList= [.tmp 2]:=rfl
theorem Tryz.res197 :Tryz.f197.results.toList= [.tmp 2]:=rfl
theorem Tryz.res198 :Tryz.f198.results.toList= [.tmp 4,.tmp 5]:=rfl
theorem Tryz.res199 :Tryz.f199.results.toList= [.cell 2 52]:=rfl
theorem Tryz.res200 :Tryz.f200.results.toList= [.cell 2 52]:=rfl
theorem Tryz.res201 :Tryz.f201.results.toList= [.tmp 4,.tmp 5,.tmp 6]:=rfl
theorem Tryz.res202 :Tryz.f202.results.toList= [.tmp 4,.tmp 5]:=rfl
theorem Tryz.res203 :Tryz.f203.results.toList= [.tmp 4,.tmp 5]:=rfl
theorem Tryz.res204 :Tryz.f204.results.toList= [.tmp 6,.tmp 7]:=rfl
theorem Tryz.res205 :Tryz.f205.results.toList= [.tmp 2]:=rfl
theorem Tryz.res206 :Tryz.f206.results.toList= [.tmp 4]:=rfl
theorem Tryz.res207 :Tryz.f207.results.toList= [.tmp 6]:=rfl
theorem Tryz.res208 :Tryz.f208.results.toList= []:=rfl
set_option maxRecDepth 100000 in
@[go_sem] theorem Tryz.caAll :Qc Tryz.prog 6=true/\Qc Tryz.prog 7=true/\Qc Tryz.prog 8=true/\Qc Tryz.prog 9=true/\Qc Tryz.prog 10=true/\Qc Tryz.prog 11=true/\Qc Tryz.prog 12=true/\Qc Tryz.prog 13=true/\Qc Tryz.prog 14=true/\Qc Tryz.prog 15=true/\Qc Tryz.prog 16=true/\Qc Tryz.prog 17=true/\Qc Tryz.prog 18=true/\Qc Tryz.prog 19=true/\Qc Tryz.prog 20=true/\Qc Tryz.prog 21=true/\Qc Tryz.prog 22=true/\Qc Tryz.prog 23=true/\Qc Tryz.prog 24=true/\Qc Tryz.prog 25=true/\Qc Tryz.prog 26=true/\Qc Tryz.prog 27=true/\Qc Tryz.prog 28=true/\Qc Tryz.prog 29=true/\Qc Tryz.prog 30=true/\Qc Tryz.prog 31=true/\Qc Tryz.prog 32=true/\Qc Tryz.prog 33=true/\Qc Tryz.prog 34=true/\Qc Tryz.prog 35=true/\Qc Tryz.prog 36=true/\Qc Tryz.prog 37=true/\Qc Tryz.prog 38=true/\Qc Tryz.prog 39=true/\Qc Tryz.prog 40=true/\Qc Tryz.prog 41=true/\Qc Tryz.prog 42=true/\Qc Tryz.prog 43=true/\Qc Tryz.prog 44=true/\Qc Tryz.prog 45=true/\Qc Tryz.prog 46=true/\Qc Tryz.prog 47=true/\Qc Tryz.prog 48=true/\Qc Tryz.prog 49=true/\Qc Tryz.prog 50=true/\Qc Tryz.prog 51=true/\Qc Tryz.prog 52=true/\Qc Tryz.prog 53=true/\Qc Tryz.prog 54=true/\Qc Tryz.prog 55=true/\Qc Tryz.prog 56=true/\Qc Tryz.prog 57=true/\Qc Tryz.prog 58=true/\Qc Tryz.prog 59=true/\Qc Tryz.prog 60=true/\Qc Tryz.prog 61=true/\Qc Tryz.prog 62=true/\Qc Tryz.prog 63=true/\Qc Tryz.prog 64=true/\Qc Tryz.prog 65=true/\Qc Tryz.prog 66=true/\Qc Tryz.prog 67=true/\Qc Tryz.prog 68=true/\Qc Tryz.prog 69=true/\Qc Tryz.prog 70=true/\Qc Tryz.prog 71=true/\Qc Tryz.prog 72=true/\Qc Tryz.prog 73=true/\Qc Tryz.prog 75=true/\Qc Tryz.prog 76=true/\Qc Tryz.prog 77=true/\Qc Tryz.prog 78=true/\Qc Tryz.prog 80=true/\Qc Tryz.prog 81=true/\Qc Tryz.prog 82=true/\Qc Tryz.prog 83=true/\Qc Tryz.prog 84=true/\Qc Tryz.prog 85=true/\Qc Tryz.prog 86=true/\Qc Tryz.prog 87=true/\Qc Tryz.prog 88=true/\Qc Tryz.prog 89=true/\Qc Tryz.prog 90=true/\Qc Tryz.prog 91=true/\Qc Tryz.prog 92=true/\Qc Tryz.prog 93=true/\Qc Tryz.prog 94=true/\Qc Tryz.prog 96=true/\Qc Tryz.prog 97=true/\Qc Tryz.prog 99=true/\Qc Tryz.prog 101=true/\Qc Tryz.prog 102=true/\Qc Tryz.prog 103=true/\Qc Tryz.prog 104=true/\Qc Tryz.prog 105=true/\Qc Tryz.prog 106=true/\Qc Tryz.prog 108=true/\Qc Tryz.prog 109=true/\Qc Tryz.prog 110=true/\Qc Tryz.prog 111=true/\Qc Tryz.prog 112=true/\Qc Tryz.prog 113=true/\Qc Tryz.prog 114=true/\Qc Tryz.prog 115=true/\Qc Tryz.prog 116=true/\Qc Tryz.prog 119=true/\Qc Tryz.prog 120=true/\Qc Tryz.prog 121=true/\Qc Tryz.prog 122=true/\Qc Tryz.prog 123=true/\Qc Tryz.prog 124=true/\Qc Tryz.prog 125=true/\Qc Tryz.prog 126=true/\Qc Tryz.prog 127=true/\Qc Tryz.prog 128=true/\Qc Tryz.prog 130=true/\Qc Tryz.prog 131=true/\Qc Tryz.prog 132=true/\Qc Tryz.prog 133=true/\Qc Tryz.prog 134=true/\Qc Tryz.prog 135=true/\Qc Tryz.prog 136=true/\Qc Tryz.prog 137=true/\Qc Tryz.prog 138=true/\Qc Tryz.prog 139=true/\Qc Tryz.prog 140=true/\Qc Tryz.prog 141=true/\Qc Tryz.prog 142=true/\Qc Tryz.prog 143=true/\Qc Tryz.prog 144=true/\Qc Tryz.prog 146=true/\Qc Tryz.prog 147=true/\Qc Tryz.prog 148=true/\Qc Tryz.prog 149=true/\Qc Tryz.prog 150=true/\Qc Tryz.prog 151=true/\Qc Tryz.prog 152=true/\Qc Tryz.prog 153=true/\Qc Tryz.prog 154=true/\Qc Tryz.prog 155=true/\Qc Tryz.prog 156=true/\Qc Tryz.prog 157=true/\Qc Tryz.prog 158=true/\Qc Tryz.prog 159=true/\Qc Tryz.prog 160=true/\Qc Tryz.prog 161=true/\Qc Tryz.prog 162=true/\Qc Tryz.prog 163=true/\Qc Tryz.prog 164=true/\Qc Tryz.prog 165=true/\Qc Tryz.prog 166=true/\Qc Tryz.prog 167=true/\Qc Tryz.prog 168=true/\Qc Tryz.prog 169=true/\Qc Tryz.prog 170=true/\Qc Tryz.prog 171=true/\Qc Tryz.prog 172=true/\Qc Tryz.prog 173=true/\Qc Tryz.prog 174=true/\Qc Tryz.prog 175=true/\Qc Tryz.prog 176=true/\Qc Tryz.prog 177=true/\Qc Tryz.prog 178=true/\Qc Tryz.prog 180=true/\Qc Tryz.prog 182=true/\Qc Tryz.prog 183=true/\Qc Tryz.prog 184=true/\Qc Tryz.prog 185=true/\Qc Tryz.prog 186=true/\Qc Tryz.prog 187=true/\Qc Tryz.prog 188=true/\Qc Tryz.prog 189=true/\Qc Tryz.prog 190=true/\Qc Tryz.prog 191=true/\Qc Tryz.prog 192=true/\Qc Tryz.prog 194=true/\Qc Tryz.prog 195=true/\Qc Tryz.prog 196=true/\Qc Tryz.prog 197=true/\Qc Tryz.prog 198=true/\Qc Tryz.prog 199=true/\Qc Tryz.prog 200=true/\Qc Tryz.prog 201=true/\Qc Tryz.prog 202=true/\Qc Tryz.prog 203=true/\Qc Tryz.prog 204=true/\Qc Tryz.prog 205=true/\Qc Tryz.prog 206=true/\Qc Tryz.prog 207=true/\Qc Tryz.prog 208=true:=by and_intros<;>kernel_rfl
namespace Tryz
attribute [go_sem] res3 ntmps3 res4 ntmps4 res5 ntmps5 res6 ntmps6 res7 ntmps7 res8 ntmps8 res9 ntmps9 res10 ntmps10 res11 ntmps11 res12 ntmps12 res13 ntmps13 res14 ntmps14 res15 ntmps15 res16 ntmps16 res17 ntmps17 res18 ntmps18 res19 ntmps19 res20 ntmps20 res21 ntmps21 res22 ntmps22 res23 ntmps23 res24 ntmps24 res25 ntmps25 res26 ntmps26 res27 ntmps27 res28 ntmps28 res29 ntmps29 res30 ntmps30 res31 ntmps31 res32 ntmps32 res33 ntmps33 res34 ntmps34 res35 ntmps35 res36 ntmps36 res37 ntmps37 res38 ntmps38 res39 ntmps39 res40 ntmps40 res41 ntmps41 res42 ntmps42 res43 ntmps43 res44 ntmps44 res45 ntmps45 res46 ntmps46 res47 ntmps47 res48 ntmps48 res49 ntmps49 res50 ntmps50 res51 ntmps51 res52 ntmps52 res53 ntmps53 res54 ntmps54 res55 ntmps55 res56 ntmps56 res57 ntmps57 res58 ntmps58 res59 ntmps59 res60 ntmps60 res61 ntmps61 res62 ntmps62 res63 ntmps63 res64 ntmps64 res65 ntmps65 res66 ntmps66 res67 ntmps67 res68 ntmps68 res69 ntmps69 res70 ntmps70 res71 ntmps71 res72 ntmps72 res73 ntmps73 res74 ntmps74 res75 ntmps75 res76 ntmps76 res77 ntmps77 res78 ntmps78 res79 ntmps79 res80 ntmps80 res81 ntmps81 res82 ntmps82 res83 ntmps83 res84 ntmps84 res85 ntmps85 res86 ntmps86 res87 ntmps87 res88 ntmps88 res89 ntmps89 res90 ntmps90 res91 ntmps91 res92 ntmps92 res93 ntmps93 res94 ntmps94 res95 ntmps95 res96 ntmps96 res97 ntmps97 res98 ntmps98 res99 ntmps99 res100 ntmps100 res101 ntmps101 res102 ntmps102 res103 ntmps103 res104 ntmps104 res105 ntmps105 res106 ntmps106 res107 ntmps107 res108 ntmps108 res109 ntmps109 res110 ntmps110 res111 ntmps111 res112 ntmps112 res113 ntmps113 res114 ntmps114 res115 ntmps115 res116 ntmps116 res117 ntmps117 res118 ntmps118 res119 ntmps119 res120 ntmps120 res121 ntmps121 res122 ntmps122 res123 ntmps123 res124 ntmps124 res125 ntmps125 res126 ntmps126 res127 ntmps127 res128 ntmps128 res129 ntmps129 res130 ntmps130 res131 ntmps131 res132 ntmps132 res133 ntmps133 res134 ntmps134 res135 ntmps135 res136 ntmps136 res137 ntmps137 res138 ntmps138 res139 ntmps139 res140 ntmps140 res141 ntmps141 res142 ntmps142 res143 ntmps143 res144 ntmps144 res145 ntmps145 res146 ntmps146 res147 ntmps147 res148 ntmps148 res149 ntmps149 res150 ntmps150 res151 ntmps151 res152 ntmps152 res153 ntmps153 res154 ntmps154 res155 ntmps155 res156 ntmps156 res157 ntmps157 res158 ntmps158 res159 ntmps159 res160 ntmps160 res161 ntmps161 res162 ntmps162 res163 ntmps163 res164 ntmps164 res165 ntmps165 res166 ntmps166 res167 ntmps167 res168 ntmps168 res169 ntmps169 res170 ntmps170 res171 ntmps171 res172 ntmps172 res173 ntmps173 res174 ntmps174 res175 ntmps175 res176 ntmps176 res177 ntmps177 res178 ntmps178 res180 ntmps180 res182 ntmps182 res183 ntmps183 res184 ntmps184 res185 ntmps185 res186 ntmps186 res187 ntmps187 res188 ntmps188 res189 ntmps189 res190 ntmps190 res191 ntmps191 res192 ntmps192 res193 ntmps193 res194 ntmps194 res195 ntmps195 res196 ntmps196 res197 ntmps197 res198 ntmps198 res199 ntmps199 res200 ntmps200 res201 ntmps201 res202 ntmps202 res203 ntmps203 res204 ntmps204 res205 ntmps205 res206 ntmps206 res207 ntmps207 res208 ntmps208
end Tryz
end Go.Proofs
namespace Go.Pv
open Go.Proofs
abbrev PR (f:FuncId) (args:List PV) (st:Qf) (R:PV):Prop:=PCalls Tryz.prog f args st (fun r st'=>r=R/\st'=st)
end Go.Pv
namespace Go.Proofs
end Go.Proofs
end
section
namespace Go.Pv
theorem H0l {α:Type}{P:List α->Prop}(nil:P [])(snoc: ∀l x,P l->P (l++ [x]))(l:List α):P l:=by
 have: ∀r:List α,P r.reverse:=fun r=>by
  induction r with
  | nil=>exact nil
  | cons x r ih=>rw[F3];exact snoc _ _ ih
 have h:=this l.reverse;rwa [List.reverse_reverse] at h
def val (B:Nat):List Nat->Nat
 | []=>0
 | x::l=>x+B*val B l
def jN (B:Nat)(n:Nat):List Nat:=if h:n=0\/B<2 then [] else n % B::jN B (n/B)
termination_by n
decreasing_by exact Nat.div_lt_self oG oG
theorem XA (B:Nat):jN B 0= []:=by rw[jN,dif_pos (.inl rfl)]
theorem Yw {B n:Nat}(hB:2<=B)(h:n≠0):jN B n=n % B::jN B (n/B):=by rw[jN,dif_neg oG]
theorem xN {B:Nat}(hB:2<=B)(n:Nat):val B (jN B n)=n:=by
 induction n using Nat.strongRecOn with
 | _ n ih=>
  by_cases h:n=0;subst h;simp[XA,val];rw[Yw hB h,val,ih _ (Nat.div_lt_self oG oG)];exact FL n B
theorem Z0f {B:Nat}(hB:2<=B)(n:Nat): ∀x∈jN B n,x<B:=by
 induction n using Nat.strongRecOn with
 | _ n ih=>
  by_cases h:n=0;subst h;simp[XA];rw[Yw hB h];intro x hx;rcases EA.1 hx with rfl | hx;exact CG _ oG;exact ih _ (Nat.div_lt_self oG oG) x hx
def zl (l:List Nat):List Nat:=(l.reverse.dropWhile (· ==0)).reverse
theorem Vf (l:List Nat)(x:Nat):zl (l++ [x])=if x=0 then zl l else l++ [x]:=by unfold zl;rw[FW];simp only[F3,List.reverse_nil,CQ,FP,List.dropWhile_cons];by_cases h:x=0<;>simp[h]
theorem kr :zl []= []:=rfl
theorem z7 (B:Nat)(l m:List Nat):val B (l++m)=val B l+B^l.length*val B m:=by
 induction l with
 | nil=>simp[val]
 | cons x l ih=>
  simp only[EJ,val,ih,C1,B5,CE];rw[BM (B^l.length) B,BW];omega
theorem X0g {B:Nat}(hB:0<B): ∀l:List Nat,(∀x∈l,x<B)->val B l<B^l.length
 | [],_=>by simp[val]
 | x::l,h=>by have h1:=X0g hB l fun y hy=>h y (DL _ hy);have h2:=h x (DG);simp only[val,C1,B5];have:B*(val B l+1)<=B*B^l.length:=DP _ h1;rw[BM (B^l.length) B];rw[CE] at this;omega
theorem V0i (x:Nat)(l:List Nat):zl (x::l)=if zl l= [] then(if x=0 then [] else [x]) else x::zl l:=by
 induction l using H0l with
 | nil=>
  have:=Vf [] x;simpa[kr] using this
 | snoc l y ih=>
  have e:x::(l++ [y])=(x::l)++ [y]:=rfl;rw[e,Vf,Vf];by_cases h:y=0;simp[h,ih];simp[h]
theorem jM {B:Nat}(hB:2<=B): ∀l:List Nat,(∀x∈l,x<B)->jN B (val B l)=zl l
 | [],_=>by simp[val,XA,kr]
 | x::l,h=>by
  have ih:=jM hB l fun y hy=>h y (DL _ hy);have h2:=h x (DG);rw[V0i,<-ih,val];by_cases hv:val B l=0;rw[hv,XA];simp only[DQ,B1,D6];by_cases hx:x=0;rw[BC hx,hx,XA];rw[BA hx,Yw hB hx,BJ h2,CP h2,XA];have hne:x+B*val B l≠0:=by have:0<B*val B l:=Nat.mul_pos oG oG;omega
  rw[Yw hB hne,BA (by rw[Yw hB hv];simp),D9,BJ h2,EX _ _ oG,CP h2,CU]
theorem JK {B:Nat}(hB:2<=B)(k:Nat): ∀n,n<B^k->(jN B n).length<=k:=by
 induction k with
 | zero=>intro n h;have:n=0:=by simpa using h
         subst this;simp[XA]
 | succ k ih=>
  intro n h;by_cases h0:n=0;subst h0;simp[XA];rw[Yw hB h0,C1];have:=ih (n/B) (by rw[DV oG];rw[B5] at h;exact h);omega
def nW (l:List UInt64):List Nat:=l.map UInt64.toNat
def Qi (l:List UInt64):Nat:=val 18446744073709551616 (nW l)
def Qp (n:Nat):List UInt64:=(jN 18446744073709551616 n).map UInt64.ofNat
def nD (l:List UInt32):List Nat:=l.map UInt32.toNat
def Zm (l:List UInt32):Nat:=val 4294967296 (nD l)
def Qj (n:Nat):List UInt32:=(jN 4294967296 n).map UInt32.ofNat
def XL (l:List UInt64):List UInt64:=(l.reverse.dropWhile (· ==0)).reverse
def Z0i (l:List UInt32):List UInt32:=(l.reverse.dropWhile (· ==0)).reverse
theorem Z1x (l:List UInt64): ∀x∈nW l,x<18446744073709551616:=by intro x hx;obtain⟨c,_,rfl⟩:=CF.1 hx;exact BT c
theorem H1v (l:List UInt32): ∀x∈nD l,x<4294967296:=by intro x hx;obtain⟨c,_,rfl⟩:=CF.1 hx;exact CH c
theorem wP (l:List UInt64)(x:UInt64):XL (l++ [x])=if x=0 then XL l else l++ [x]:=by unfold XL;rw[FW];simp only[F3,List.reverse_nil,CQ,FP,List.dropWhile_cons];by_cases h:x=0<;>simp[h]
theorem wS (l:List UInt32)(x:UInt32):Z0i (l++ [x])=if x=0 then Z0i l else l++ [x]:=by unfold Z0i;rw[FW];simp only[F3,List.reverse_nil,CQ,FP,List.dropWhile_cons];by_cases h:x=0<;>simp[h]
theorem HR (x:UInt64):x=0<->x.toNat=0:=⟨fun h=>by rw[h];rfl,fun h=>FH h⟩
theorem UA (x:UInt32):x=0<->x.toNat=0:=⟨fun h=>by rw[h];rfl,fun h=>UInt32.toNat.inj h⟩
theorem v1w (l:List UInt64):nW (XL l)=zl (nW l):=by
 induction l using H0l with
 | nil=>rfl
 | snoc l x ih=>
  rw[wP];have e:nW (l++ [x])=nW l++ [x.toNat]:=(by simp[nW]);rw[e,Vf];by_cases h:x=0;rw[BC h,BC ((HR x).1 h),ih];rw[BA h,BA (fun e=>h ((HR x).2 e)),e]
theorem v1x (l:List UInt32):nD (Z0i l)=zl (nD l):=by
 induction l using H0l with
 | nil=>rfl
 | snoc l x ih=>
  rw[wS];have e:nD (l++ [x])=nD l++ [x.toNat]:=(by simp[nD]);rw[e,Vf];by_cases h:x=0;rw[BC h,BC ((UA x).1 h),ih];rw[BA h,BA (fun e=>h ((UA x).2 e)),e]
theorem Z1h (l:List UInt64):(nW l).map UInt64.ofNat=l:=by
 simp only[nW,DZ]
 conv=>rhs;rw[<-List.map_id l]
 exact C4 fun a _=>by simp
theorem Z1i (l:List UInt32):(nD l).map UInt32.ofNat=l:=by
 simp only[nD,DZ]
 conv=>rhs;rw[<-List.map_id l]
 exact C4 fun a _=>by simp
theorem Q3 (l:List UInt64):Qp (Qi l)=XL l:=by rw[Qp,Qi,jM (by decide) _ (Z1x l),<-v1w,Z1h]
theorem Xi (l:List UInt32):Qj (Zm l)=Z0i l:=by rw[Qj,Zm,jM (by decide) _ (H1v l),<-v1x,Z1i]
theorem W0w (n:Nat):nW (Qp n)=jN 18446744073709551616 n:=by
 simp only[nW,Qp,DZ]
 conv=>rhs;rw[<-List.map_id (jN _ n)]
 exact C4 fun a ha=>by have:=Z0f (B:=18446744073709551616) (by decide) n a ha;simp only[Function.comp,id];rw[FF];omega
theorem Q0c (n:Nat):nD (Qj n)=jN 4294967296 n:=by
 simp only[nD,Qj,DZ]
 conv=>rhs;rw[<-List.map_id (jN _ n)]
 exact C4 fun a ha=>by have:=Z0f (B:=4294967296) (by decide) n a ha;simp only[Function.comp,id];rw[UInt32.toNat_ofNat'];omega
theorem QA (n:Nat):Qi (Qp n)=n:=by rw[Qi,W0w,xN (by decide)]
theorem QK (n:Nat):Zm (Qj n)=n:=by rw[Zm,Q0c,xN (by decide)]
theorem ZM (l:List UInt64):Qi (XL l)=Qi l:=by rw[<-Q3,QA]
theorem Ka (n:Nat):XL (Qp n)=Qp n:=by rw[<-Q3,QA]
theorem G4 (n:Nat):Z0i (Qj n)=Qj n:=by rw[<-Xi,QK]
theorem XF :Qi []=0:=rfl
theorem KH :Zm []=0:=rfl
theorem Zy :Qp 0= []:=by simp[Qp,XA]
theorem Zo :Qj 0= []:=by simp[Qj,XA]
theorem wordsOf_nil {n:Nat} :Qp n= []<->n=0:=⟨fun h=>by rw[<-QA n,h,XF],fun h=>by rw[h,Zy]⟩
theorem digitsOf_nil {n:Nat} :Qj n= []<->n=0:=⟨fun h=>by rw[<-QK n,h,KH],fun h=>by rw[h,Zo]⟩
theorem Xz (l m:List UInt64):Qi (l++m)=Qi l+18446744073709551616^l.length*Qi m:=by have e:nW (l++m)=nW l++nW m:=(by simp[nW]);rw[Qi,e,z7];simp[Qi,nW]
theorem YM (l m:List UInt32):Zm (l++m)=Zm l+4294967296^l.length*Zm m:=by have e:nD (l++m)=nD l++nD m:=(by simp[nD]);rw[Zm,e,z7];simp[Zm,nD]
theorem Zu (l:List UInt64):Qi l<18446744073709551616^l.length:=by have:=X0g (B:=18446744073709551616) (by decide) _ (Z1x l);simpa[Qi,nW] using this
theorem Is (l:List UInt32):Zm l<4294967296^l.length:=by have:=X0g (B:=4294967296) (by decide) _ (H1v l);simpa[Zm,nD] using this
theorem Xt (l:List UInt64):(XL l).length<=l.length:=by unfold XL;rw[List.length_reverse];have:=(List.dropWhile_sublist (· ==(0:UInt64)) (l:=l.reverse)).length_le;simpa using this
theorem x1b (l:List UInt32):(Z0i l).length<=l.length:=by unfold Z0i;rw[List.length_reverse];have:=(List.dropWhile_sublist (· ==(0:UInt32)) (l:=l.reverse)).length_le;simpa using this
theorem qP (l:List UInt64)(h:l≠ []):(XL l).length=l.length<->l.getD (l.length-1) 0≠0:=by obtain⟨i,x,rfl⟩: ∃i x,l=i++ [x]:=⟨l.dropLast,l.getLast h,(List.dropLast_concat_getLast h).symm⟩;rw[wP];have e:(i++ [x]).getD ((i++ [x]).length-1) 0=x:=(by simp[q_a]);rw[e];have:=Xt i;by_cases hx:x=0;simp[hx];omega;simp[hx]
theorem k0r (l:List UInt64)(h:XL l≠ []):(XL l).getD ((XL l).length-1) 0≠0:=by rw[<-qP _ h];congr 1;rw[<-Q3 l,Ka]
theorem YJ {α:Type}(p:α->Bool)(l:List α)(n:Nat)(d:α)(hn:n<=l.length)(hz: ∀j,n<=j->j<l.length->p (l.getD j d)=true)(hl:n=0\/p (l.getD (n-1) d)=false):(l.reverse.dropWhile p).reverse=l.take n:=by
 have e:l=l.take n++l.drop n:=(FN n l).symm;have hd: ∀x∈(l.drop n).reverse,p x=true:=fun x hx=>by rw[List.mem_reverse] at hx;obtain⟨j,hj,rfl⟩:=CM.1 hx;rw[DM] at hj;have:=hz (n+j) oG oG;rw[q_a,BB oG] at this;simp only[EB] at this;rw[List.getElem_drop,this]
 conv=>lhs;rw[e]
 rw[FW,List.dropWhile_append_of_pos hd];rcases hl with rfl | hl;simp;by_cases h0:n=0;subst h0;simp;have hne:l.take n=l.take (n-1)++ [l.getD (n-1) d]:=by have h1:n-1<l.length:=oG;have:=List.take_succ_eq_append_getElem h1;rw[show n-1+1=n from oG] at this;rw[this,q_a,BB h1];rfl
 rw[hne,FW];simp only[F3,List.reverse_nil,CQ,FP];rw[List.dropWhile_cons_of_neg (by simpa using hl)];simp
theorem Z0h (l:List UInt64)(n:Nat)(hn:n<=l.length)(hz: ∀j,n<=j->j<l.length->l.getD j 0=0)(hl:n=0\/l.getD (n-1) 0≠0):XL l=l.take n:=
 YJ _ l n 0 hn (fun j h1 h2=>by simpa using hz j h1 h2) (hl.imp id fun h=>by simpa using h)
theorem x1c (l:List UInt32)(n:Nat)(hn:n<=l.length)(hz: ∀j,n<=j->j<l.length->l.getD j 0=0)(hl:n=0\/l.getD (n-1) 0≠0):Z0i l=l.take n:=
 YJ _ l n 0 hn (fun j h1 h2=>by simpa using hz j h1 h2) (hl.imp id fun h=>by simpa using h)
def Qh (n:Nat):Nat:=if n=0 then 0 else Nat.log2 n+1
theorem Q5 (n:Nat):n<2^Qh n:=by unfold Qh;split;rename_i h;subst h;decide;exact Nat.lt_log2_self
theorem Xk {n:Nat}(h:n≠0):2^(Qh n-1)<=n:=by unfold Qh;rw[BA h];exact Nat.log2_self_le h
theorem bitlen_le_iff {n k:Nat} :Qh n<=k<->n<2^k:=by constructor;intro h;exact q_e (Q5 n) (BS (by decide) h);intro h;by_cases h0:n=0;subst h0;simp[Qh];apply F6;intro hk;have h1:=Xk h0;have h2:2^k<=2^(Qh n-1):=BS (by decide) oG;omega
theorem yh {n k:Nat}(h1:2^k<=n)(h2:n<2^(k+1)):Qh n=k+1:=by have a:=bitlen_le_iff.2 h2;have b: ¬Qh n<=k:=fun h=>(by have:=bitlen_le_iff.1 h;omega);omega
theorem Zv :Qh 0=0:=rfl
theorem ZK {n:Nat}(h:n≠0):0<Qh n:=by unfold Qh;rw[BA h];omega
theorem XV (n k:Nat)(h:n≠0):Qh (n*2^k)=Qh n+k:=by have h1:=Xk h;have h2:=Q5 n;have h3:=ZK h;have e:Qh n+k=(Qh n-1+k)+1:=oG;rw[e];apply yh;rw[B2];exact BG _ h1;rw[show Qh n-1+k+1=Qh n+k from oG,B2];exact C5 h2 (DJ (by decide))
theorem HD (v k:Nat)(h:v/2^k≠0):Qh v=Qh (v/2^k)+k:=by have h1:=Xk h;have h2:=Q5 (v/2^k);have h3:=ZK h;have e:Qh (v/2^k)+k=(Qh (v/2^k)-1+k)+1:=oG;rw[e];apply yh;rw[B2];exact B7 (BG _ h1) (LC v (2^k));rw[show Qh (v/2^k)-1+k+1=Qh (v/2^k)+k from oG,B2];exact(DV (DJ (by decide))).1 h2
theorem qY (n:Nat)(h:n<18446744073709551616):Qh n<=64:=bitlen_le_iff.2 h
theorem Y0z (a x k:Nat)(ha:a<2^k)(hx:x≠0):Qh (a+2^k*x)=k+Qh x:=by have hp:0<2^k:=DJ (by decide);have e:(a+2^k*x)/2^k=x:=(by rw[EX _ _ hp,CP ha,CU]);rw[HD _ k (by rw[e];exact hx),e,EZ]
def V2 (a b:Int):Int:=if a<b then -1 else if a>b then 1 else 0
def Y9 (a b:Nat):Int:=V2 (a:Int) (b:Int)
theorem Ke {a b:Int}(h:a<b):V2 a b= -1:=by rw[V2,BC h]
theorem Kf {a b:Int}(h:b<a):V2 a b=1:=by rw[V2,BA oG,BC h]
theorem Hu {a b:Int}(h:a=b):V2 a b=0:=by rw[V2,BA oG,BA oG]
theorem wW (a b:Int):V2 b a= -V2 a b:=by unfold V2;by_cases h1:a<b;rw[BC h1,BA oG,BC oG];rfl;by_cases h2:b<a;rw[BC h2,BA h1,BC oG];rw[BA h2,BA oG,BA h1,BA oG];rfl
theorem wY (a b:Int):V2 (-a) (-b)= -V2 a b:=by rw[<-wW];unfold V2;by_cases h1:b<a;rw[BC h1,BC oG];rw[BA h1,BA oG];by_cases h2:b>a;rw[BC h2,BC oG];rw[BA h2,BA oG]
theorem wL {B n m:Nat}(hB:2<=B)(h:n<=m):(jN B n).length<=(jN B m).length:=by apply JK hB;have h2:=X0g (B:=B) oG _ (Z0f hB m);rw[xN hB] at h2;omega
theorem U7 {B:Nat} : ∀(l m:List Nat) (i:Nat),(∀x∈l,x<B)->l.length=m.length->i<l.length->
 (∀j,i<j->j<l.length->l.getD j 0=m.getD j 0)->l.getD i 0<m.getD i 0->val B l<val B m
 | [],_,_,_,_,h,_,_=>by simp at h
 | x::l,[],_,_,h,_,_,_=>by simp at h
 | x::l,y::m,0,hl,hlen,_,heq,hlt=>by
  have e:l=m:=C9 (by simpa using hlen) fun j h1 h2=>by have:=heq (j+1) oG (by simp;omega);simpa[q_a,h1,h2] using this
  subst e;simp only[val];have:x<y:=(by simpa using hlt);omega
 | x::l,y::m,i+1,hl,hlen,hi,heq,hlt=>by
  have ih:=U7 l m i (fun z hz=>hl z (DL _ hz)) (by simpa using hlen) (by simpa using hi)
   (fun j h1 h2=>by have:=heq (j+1) oG (by simp;omega);simpa using this) (by simpa using hlt)
  have hx:=hl x DG;simp only[val];have:B*(val B l+1)<=B*val B m:=DP _ ih;rw[CE] at this;omega
theorem yw (B:Nat): ∀(l:List Nat) (i x:Nat),i<l.length->val B (l.set i x)+B^i*l.getD i 0=val B l+B^i*x
 | [],i,x,h=>by simp at h
 | y::l,0,x,h=>by simp[val];omega
 | y::l,i+1,x,h=>by have ih:=yw B l i x (by simpa using h);simp only[LG,val,List.getD_cons_succ,B5];have:B*(val B (l.set i x)+B^i*l.getD i 0)=B*(val B l+B^i*x):=(by rw[ih]);rw[CE,CE] at this;rw[BM (B^i) B,BW,BW];omega
theorem KF (B n:Nat):val B (List.replicate n 0)=0:=by
 induction n with
 | zero=>rfl
 | succ n ih=>rw[List.replicate_succ,val,ih];simp
theorem VK (l:List UInt64)(i:Nat):(nW l).getD i 0=(l.getD i 0).toNat:=by simp only[nW,q_a,B8];cases l[i]?<;>rfl
theorem IX (l:List UInt32)(i:Nat):(nD l).getD i 0=(l.getD i 0).toNat:=by simp only[nD,q_a,B8];cases l[i]?<;>rfl
theorem KG (l:List UInt64)(i:Nat)(c:UInt64)(h:i<l.length):Qi (l.set i c)+18446744073709551616^i*(l.getD i 0).toNat=Qi l+18446744073709551616^i*c.toNat:=by have:=yw 18446744073709551616 (nW l) i c.toNat (by simpa[nW] using h);rw[VK] at this;have e:(nW l).set i c.toNat=nW (l.set i c):=(by simp[nW,FA]);rw[e] at this;exact this
theorem HQ (l:List UInt32)(i:Nat)(c:UInt32)(h:i<l.length):Zm (l.set i c)+4294967296^i*(l.getD i 0).toNat=Zm l+4294967296^i*c.toNat:=by have:=yw 4294967296 (nD l) i c.toNat (by simpa[nD] using h);rw[IX] at this;have e:(nD l).set i c.toNat=nD (l.set i c):=(by simp[nD,FA]);rw[e] at this;exact this
theorem GG (n:Nat):Qi (List.replicate n 0)=0:=by have:nW (List.replicate n 0)=List.replicate n 0:=(by simp[nW]);rw[Qi,this,KF]
theorem z8 (n:Nat):Zm (List.replicate n 0)=0:=by have:nD (List.replicate n 0)=List.replicate n 0:=(by simp[nD]);rw[Zm,this,KF]
theorem U0z (l:List UInt64)(c:UInt64):Qi (l++ [c])=Qi l+18446744073709551616^l.length*c.toNat:=by rw[Xz];simp[Qi,nW,val]
theorem U9 (l:List UInt32)(c:UInt32):Zm (l++ [c])=Zm l+4294967296^l.length*c.toNat:=by rw[YM];simp[Zm,nD,val]
theorem Wl {α:Type}(l:List α)(i:Nat)(d:α)(h:i<l.length):l.take (i+1)=l.take i++ [l.getD i d]:=by rw[List.take_succ_eq_append_getElem h,q_a,BB h];rfl
theorem Ze (l:List UInt64)(i:Nat)(h:i<l.length):Qi (l.take (i+1))=Qi (l.take i)+18446744073709551616^i*(l.getD i 0).toNat:=by rw[Wl l i 0 h,U0z,BX,DA oG]
theorem Xn (l:List UInt32)(i:Nat)(h:i<l.length):Zm (l.take (i+1))=Zm (l.take i)+4294967296^i*(l.getD i 0).toNat:=by rw[Wl l i 0 h,U9,BX,DA oG]
theorem Zf {n k:Nat}(h:n<18446744073709551616^k):(Qp n).length<=k:=by simp only[Qp,BR];exact JK (by decide) k n h
theorem G3 {n k:Nat}(h:n<4294967296^k):(Qj n).length<=k:=by simp only[Qj,BR];exact JK (by decide) k n h
theorem Gg (n:Nat):n<4294967296^(Qj n).length:=by have:=Is (Qj n);rwa [QK] at this
theorem Ji {n m:Nat}(h:n<=m):(Qp n).length<=(Qp m).length:=by simp only[Qp,BR];exact wL (by decide) h
theorem VO {n m:Nat}(h:n<=m):(Qj n).length<=(Qj m).length:=by simp only[Qj,BR];exact wL (by decide) h
theorem Z0j {a b:List UInt64}(ha:XL a=a)(hb:XL b=b)(h:a.length≠b.length):V2 a.length b.length=Y9 (Qi a) (Qi b):=by rw[<-Q3] at ha hb;have m1:Qi a<=Qi b->a.length<=b.length:=fun h=>(by have:=Ji h;rwa [ha,hb] at this);have m2:Qi b<=Qi a->b.length<=a.length:=fun h=>(by have:=Ji h;rwa [ha,hb] at this);by_cases hl:a.length<b.length;rw[Ke oG,Y9,Ke];have: ¬Qi b<=Qi a:=fun h=>(by have:=m2 h;omega);omega;rw[Kf oG,Y9,Kf];have: ¬Qi a<=Qi b:=fun h=>(by have:=m1 h;omega);omega
theorem Z0m {a b:Nat}(h:(Qj a).length≠(Qj b).length):V2 (Qj a).length (Qj b).length=Y9 a b:=by have m1:a<=b->(Qj a).length<=(Qj b).length:=VO;have m2:b<=a->(Qj b).length<=(Qj a).length:=VO;by_cases hl:(Qj a).length<(Qj b).length;rw[Ke oG,Y9,Ke];have: ¬b<=a:=fun h=>(by have:=m2 h;omega);omega;rw[Kf oG,Y9,Kf];have: ¬a<=b:=fun h=>(by have:=m1 h;omega);omega
theorem x1f {a b:List UInt64}(hl:a.length=b.length)(i:Nat)(hi:i<a.length)(heq: ∀j,i<j->j<a.length->a.getD j 0=b.getD j 0)(hne:a.getD i 0≠b.getD i 0):
 V2 (a.getD i 0).toNat (b.getD i 0).toNat=Y9 (Qi a) (Qi b):=by
 have hn:(a.getD i 0).toNat≠(b.getD i 0).toNat:=fun e=>hne (FH e);have la:(nW a).length=a.length:=(by simp[nW]);have lb:(nW b).length=b.length:=(by simp[nW]);by_cases h:(a.getD i 0).toNat<(b.getD i 0).toNat;have:=U7 (nW a) (nW b) i (Z1x a) oG oG (fun j h1 h2=>by rw[VK,VK,heq j h1 oG]) (by rw[VK,VK];exact h);rw[Ke oG,Y9,Ke];simp only[Qi];omega;have:=U7 (nW b) (nW a) i (Z1x b) oG oG (fun j h1 h2=>by rw[VK,VK,heq j h1 oG]) (by rw[VK,VK];omega);rw[Kf oG,Y9,Kf];simp only[Qi];omega
theorem z9 {a b:List UInt32}(hl:a.length=b.length)(i:Nat)(hi:i<a.length)(heq: ∀j,i<j->j<a.length->a.getD j 0=b.getD j 0)(h:(a.getD i 0).toNat<(b.getD i 0).toNat):Zm a<Zm b:=by have la:(nD a).length=a.length:=(by simp[nD]);have lb:(nD b).length=b.length:=(by simp[nD]);exact U7 (nD a) (nD b) i (H1v a) oG oG (fun j h1 h2=>by rw[IX,IX,heq j h1 oG]) (by rw[IX,IX];exact h)
theorem Vy {α:Type}{a b:List α}(d:α)(hl:a.length=b.length)(h: ∀j,j<a.length->a.getD j d=b.getD j d):a=b:=
 C9 hl fun j h1 h2=>by have:=h j h1;simpa[q_a,h1,h2] using this
theorem ZO {α:Type}(l:List α)(i j:Nat)(x d:α):(l.set i x).getD j d=if i=j/\j<l.length then x else l.getD j d:=by simp only[q_a,List.getElem?_set];by_cases h:i=j;subst h;by_cases h2:i<l.length;simp[h2];simp[h2];simp[h]
theorem Xq {α:Type}(n j:Nat)(x:α):(List.replicate n x).getD j x=x:=by simp only[q_a,List.getElem?_replicate];split<;>rfl
theorem YG {a b:Nat}(h:((a:Int) !=(b:Int))=true):a≠b:=by intro e;subst e;simp at h
theorem Vq {a b:Nat}(h:((a:Int) !=(b:Int))=false):a=b:=by have:(a:Int)=b:=(by simpa using h);omega
theorem JU {a b:Nat}(h:((a:Int)==(b:Int))=true):a=b:=by have:(a:Int)=b:=(by simpa using h);omega
theorem Vr {a b:Nat}(h:((a:Int)==(b:Int))=false):a≠b:=by intro e;subst e;simp at h
theorem VT {a b:Int}(h:(a !=b)=true):a≠b:=by intro e;subst e;simp at h
theorem Wh {a b:Int}(h:(a !=b)=false):a=b:=by simpa using h
theorem U0p {a b:Int}(h:(a==b)=true):a=b:=by simpa using h
theorem k1h {a b:Int}(h:(a==b)=false):a≠b:=by intro e;subst e;simp at h
end Go.Pv
end
