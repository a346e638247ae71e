/- Parts of the walk: PvTab, M1, M2. -/
import Derived.Test.YtldalepagmhnmaaGreatDoorZC
import Derived.Test.YtldalepagmhnmaaGreatDoorProg
import Derived.KernelRfl
set_option linter.unusedVariables false
set_option linter.unusedSimpArgs false
section
namespace Go.Proofs
open Go.Pv
@[go_sem] theorem Tryz.ti2 :ti Tryz.prog 2=some ⟨false,1,.int .i64,some (.int .i64 0)⟩:=by kernel_rfl
@[go_sem] theorem Tryz.ti3 :ti Tryz.prog 3=some ⟨false,1,.int .i64,some (.int .i64 0)⟩:=by kernel_rfl
@[go_sem] theorem Tryz.ti4 :ti Tryz.prog 4=some ⟨false,1,.bool,some (.bool false)⟩:=by kernel_rfl
@[go_sem] theorem Tryz.ti5 :ti Tryz.prog 5=some ⟨false,1,.int .u8,some (.int .u8 0)⟩:=by kernel_rfl
@[go_sem] theorem Tryz.ti9 :ti Tryz.prog 9=some ⟨false,1,.str,some (.string ByteArray.empty)⟩:=by kernel_rfl
@[go_sem] theorem Tryz.ti22 :ti Tryz.prog 22=some ⟨false,1,.slice ⟨89,1,8,false,true,false⟩,some (.slice none 0 0)⟩:=by kernel_rfl
@[go_sem] theorem Tryz.ti29 :ti Tryz.prog 29=some ⟨false,1,.slice ⟨34,6,80,true,true,false⟩,some (.slice none 0 0)⟩:=by kernel_rfl
@[go_sem] theorem Tryz.ti32 :ti Tryz.prog 32=some ⟨true,3,.struct [(0,⟨4,1,1,false,true,false⟩),(1,⟨2,1,8,false,true,false⟩),(2,⟨22,1,24,false,true,false⟩)],some (.agg #[.bool false,.int .i64 0,.slice none 0 0])⟩:=by kernel_rfl
@[go_sem] theorem Tryz.ti34 :ti Tryz.prog 34=some ⟨true,6,.struct [(0,⟨32,3,40,true,true,false⟩),(3,⟨32,3,40,true,true,false⟩)],some (.agg #[.bool false,.int .i64 0,.slice none 0 0,.bool false,.int .i64 0,.slice none 0 0])⟩:=by kernel_rfl
@[go_sem] theorem Tryz.ti40 :ti Tryz.prog 40=some ⟨false,1,.int .i64,some (.int .i64 0)⟩:=by kernel_rfl
@[go_sem] theorem Tryz.ti45 :ti Tryz.prog 45=some ⟨false,1,.slice ⟨32,3,40,true,true,false⟩,some (.slice none 0 0)⟩:=by kernel_rfl
@[go_sem] theorem Tryz.ti47 :ti Tryz.prog 47=some ⟨false,1,.slice ⟨29,1,24,false,true,false⟩,some (.slice none 0 0)⟩:=by kernel_rfl
@[go_sem] theorem Tryz.ti50 :ti Tryz.prog 50=some ⟨false,1,.slice ⟨190,1,4,false,true,false⟩,some (.slice none 0 0)⟩:=by kernel_rfl
@[go_sem] theorem Tryz.ti52 :ti Tryz.prog 52=some ⟨true,3,.struct [(0,⟨4,1,1,false,true,false⟩),(1,⟨50,1,24,false,true,false⟩),(2,⟨2,1,8,false,true,false⟩)],some (.agg #[.bool false,.slice none 0 0,.int .i64 0])⟩:=by kernel_rfl
@[go_sem] theorem Tryz.ti63 :ti Tryz.prog 63=some ⟨false,1,.slice ⟨45,1,24,false,true,false⟩,some (.slice none 0 0)⟩:=by kernel_rfl
@[go_sem] theorem Tryz.ti65 :ti Tryz.prog 65=some ⟨true,3,.struct [(0,⟨45,1,24,false,true,false⟩),(1,⟨63,1,24,false,true,false⟩),(2,⟨29,1,24,false,true,false⟩)],some (.agg #[.slice none 0 0,.slice none 0 0,.slice none 0 0])⟩:=by kernel_rfl
@[go_sem] theorem Tryz.ti89 :ti Tryz.prog 89=some ⟨false,1,.int .u64,some (.int .u64 0)⟩:=by kernel_rfl
@[go_sem] theorem Tryz.ti98 :ti Tryz.prog 98=some ⟨true,2,.struct [(0,⟨22,1,24,false,true,false⟩),(1,⟨3,1,8,false,true,false⟩)],some (.agg #[.slice none 0 0,.int .i64 0])⟩:=by kernel_rfl
@[go_sem] theorem Tryz.ti136 :ti Tryz.prog 136=some ⟨true,2,.struct [(0,⟨63,1,24,false,true,false⟩),(1,⟨47,1,24,false,true,false⟩)],some (.agg #[.slice none 0 0,.slice none 0 0])⟩:=by kernel_rfl
@[go_sem] theorem Tryz.ti159 :ti Tryz.prog 159=some ⟨false,1,.int .u64,some (.int .u64 0)⟩:=by kernel_rfl
@[go_sem] theorem Tryz.ti186 :ti Tryz.prog 186=some ⟨false,1,.other,some (.nilFunc)⟩:=by kernel_rfl
@[go_sem] theorem Tryz.ti187 :ti Tryz.prog 187=some ⟨false,1,.slice ⟨186,1,8,false,true,false⟩,some (.slice none 0 0)⟩:=by kernel_rfl
@[go_sem] theorem Tryz.ti189 :ti Tryz.prog 189=some ⟨false,1,.other,some (.nilFunc)⟩:=by kernel_rfl
@[go_sem] theorem Tryz.ti190 :ti Tryz.prog 190=some ⟨false,1,.int .u32,some (.int .u32 0)⟩:=by kernel_rfl
@[go_sem] theorem Tryz.ti258 :ti Tryz.prog 258=some ⟨true,3,.struct [(0,⟨63,1,24,false,true,false⟩),(1,⟨63,1,24,false,true,false⟩),(2,⟨3,1,8,false,true,false⟩)],some (.agg #[.slice none 0 0,.slice none 0 0,.int .i64 0])⟩:=by kernel_rfl
@[go_sem] theorem Tryz.ti273 :ti Tryz.prog 273=some ⟨true,64,.arr 64 ⟨5,1,1,false,true,true⟩,some (.agg #[.int .u8 0,.int .u8 0,.int .u8 0,.int .u8 0,.int .u8 0,.int .u8 0,.int .u8 0,.int .u8 0,.int .u8 0,.int .u8 0,.int .u8 0,.int .u8 0,.int .u8 0,.int .u8 0,.int .u8 0,.int .u8 0,.int .u8 0,.int .u8 0,.int .u8 0,.int .u8 0,.int .u8 0,.int .u8 0,.int .u8 0,.int .u8 0,.int .u8 0,.int .u8 0,.int .u8 0,.int .u8 0,.int .u8 0,.int .u8 0,.int .u8 0,.int .u8 0,.int .u8 0,.int .u8 0,.int .u8 0,.int .u8 0,.int .u8 0,.int .u8 0,.int .u8 0,.int .u8 0,.int .u8 0,.int .u8 0,.int .u8 0,.int .u8 0,.int .u8 0,.int .u8 0,.int .u8 0,.int .u8 0,.int .u8 0,.int .u8 0,.int .u8 0,.int .u8 0,.int .u8 0,.int .u8 0,.int .u8 0,.int .u8 0,.int .u8 0,.int .u8 0,.int .u8 0,.int .u8 0,.int .u8 0,.int .u8 0,.int .u8 0,.int .u8 0])⟩:=by kernel_rfl
@[go_sem] theorem Tryz.ca270 :Q0c Tryz.prog 270=false:=by kernel_rfl
@[go_sem] theorem Tryz.ca272 :Q0c Tryz.prog 272=false:=by kernel_rfl
theorem Tryz.res7 :Tryz.f7.results.toList= [.tmp 2]:=rfl
theorem Tryz.res12 :Tryz.f12.results.toList= [.tmp 2]:=rfl
theorem Tryz.res13 :Tryz.f13.results.toList= [.tmp 4]:=rfl
theorem Tryz.res15 :Tryz.f15.results.toList= [.tmp 4]:=rfl
theorem Tryz.res16 :Tryz.f16.results.toList= [.cell 2 34]:=rfl
theorem Tryz.res17 :Tryz.f17.results.toList= [.tmp 2]:=rfl
theorem Tryz.res21 :Tryz.f21.results.toList= [.tmp 4]:=rfl
theorem Tryz.res22 :Tryz.f22.results.toList= [.tmp 2]:=rfl
theorem Tryz.res27 :Tryz.f27.results.toList= [.cell 2 34]:=rfl
theorem Tryz.res28 :Tryz.f28.results.toList= [.tmp 6,.tmp 7]:=rfl
theorem Tryz.res29 :Tryz.f29.results.toList= [.cell 4 52]:=rfl
theorem Tryz.res30 :Tryz.f30.results.toList= [.tmp 0]:=rfl
theorem Tryz.res32 :Tryz.f32.results.toList= [.tmp 8]:=rfl
theorem Tryz.res33 :Tryz.f33.results.toList= [.tmp 4]:=rfl
theorem Tryz.res34 :Tryz.f34.results.toList= [.tmp 4]:=rfl
theorem Tryz.res35 :Tryz.f35.results.toList= [.tmp 2]:=rfl
theorem Tryz.res36 :Tryz.f36.results.toList= [.cell 4 65]:=rfl
theorem Tryz.res37 :Tryz.f37.results.toList= [.tmp 4]:=rfl
theorem Tryz.res38 :Tryz.f38.results.toList= [.tmp 4]:=rfl
theorem Tryz.res39 :Tryz.f39.results.toList= [.tmp 2]:=rfl
theorem Tryz.res40 :Tryz.f40.results.toList= [.tmp 4]:=rfl
theorem Tryz.res41 :Tryz.f41.results.toList= [.tmp 2]:=rfl
theorem Tryz.res42 :Tryz.f42.results.toList= [.cell 8 65,.tmp 9]:=rfl
theorem Tryz.res43 :Tryz.f43.results.toList= [.tmp 2]:=rfl
theorem Tryz.res46 :Tryz.f46.results.toList= [.cell 2 52]:=rfl
theorem Tryz.res47 :Tryz.f47.results.toList= [.cell 4 52]:=rfl
theorem Tryz.res48 :Tryz.f48.results.toList= [.cell 4 52]:=rfl
theorem Tryz.res50 :Tryz.f50.results.toList= [.tmp 2]:=rfl
theorem Tryz.res52 :Tryz.f52.results.toList= [.cell 4 65,.tmp 5]:=rfl
theorem Tryz.res53 :Tryz.f53.results.toList= [.tmp 2]:=rfl
theorem Tryz.res54 :Tryz.f54.results.toList= [.tmp 2]:=rfl
theorem Tryz.res55 :Tryz.f55.results.toList= [.tmp 4,.tmp 5]:=rfl
theorem Tryz.res58 :Tryz.f58.results.toList= [.tmp 4]:=rfl
theorem Tryz.res59 :Tryz.f59.results.toList= [.cell 2 52]:=rfl
theorem Tryz.res62 :Tryz.f62.results.toList= [.tmp 2]:=rfl
theorem Tryz.res64 :Tryz.f64.results.toList= [.cell 2 34]:=rfl
theorem Tryz.res65 :Tryz.f65.results.toList= [.cell 2 32]:=rfl
theorem Tryz.res66 :Tryz.f66.results.toList= [.cell 4 34]:=rfl
theorem Tryz.res77 :Tryz.f77.results.toList= [.cell 4 32]:=rfl
theorem Tryz.res78 :Tryz.f78.results.toList= [.tmp 2]:=rfl
theorem Tryz.res79 :Tryz.f79.results.toList= [.tmp 4]:=rfl
theorem Tryz.res80 :Tryz.f80.results.toList= [.tmp 4]:=rfl
theorem Tryz.res82 :Tryz.f82.results.toList= [.cell 4 32]:=rfl
theorem Tryz.res83 :Tryz.f83.results.toList= [.cell 4 34]:=rfl
theorem Tryz.res84 :Tryz.f84.results.toList= [.tmp 6]:=rfl
theorem Tryz.res85 :Tryz.f85.results.toList= [.tmp 2]:=rfl
theorem Tryz.res86 :Tryz.f86.results.toList= [.cell 6 34,.tmp 7]:=rfl
theorem Tryz.res87 :Tryz.f87.results.toList= [.cell 4 34,.cell 5 34]:=rfl
theorem Tryz.res88 :Tryz.f88.results.toList= [.cell 2 52]:=rfl
theorem Tryz.res89 :Tryz.f89.results.toList= [.tmp 4]:=rfl
theorem Tryz.res90 :Tryz.f90.results.toList= [.tmp 2]:=rfl
theorem Tryz.res91 :Tryz.f91.results.toList= [.tmp 4,.tmp 5]:=rfl
theorem Tryz.res92 :Tryz.f92.results.toList= [.cell 8 65,.tmp 9]:=rfl
theorem Tryz.res93 :Tryz.f93.results.toList= [.cell 4 65,.tmp 5]:=rfl
theorem Tryz.res94 :Tryz.f94.results.toList= [.tmp 4]:=rfl
theorem Tryz.res95 :Tryz.f95.results.toList= [.tmp 4]:=rfl
theorem Tryz.res96 :Tryz.f96.results.toList= [.tmp 4]:=rfl
theorem Tryz.res97 :Tryz.f97.results.toList= [.tmp 4]:=rfl
theorem Tryz.res98 :Tryz.f98.results.toList= [.cell 2 32]:=rfl
theorem Tryz.res99 :Tryz.f99.results.toList= [.cell 2 32]:=rfl
theorem Tryz.res100 :Tryz.f100.results.toList= [.tmp 4]:=rfl
theorem Tryz.res101 :Tryz.f101.results.toList= [.tmp 2]:=rfl
theorem Tryz.res102 :Tryz.f102.results.toList= [.tmp 2]:=rfl
theorem Tryz.res103 :Tryz.f103.results.toList= [.tmp 4,.tmp 5]:=rfl
theorem Tryz.res104 :Tryz.f104.results.toList= [.tmp 6,.tmp 7]:=rfl
theorem Tryz.res105 :Tryz.f105.results.toList= [.cell 4 136,.tmp 5]:=rfl
theorem Tryz.res106 :Tryz.f106.results.toList= [.tmp 6,.tmp 7]:=rfl
theorem Tryz.res107 :Tryz.f107.results.toList= [.tmp 10,.tmp 11]:=rfl
theorem Tryz.res108 :Tryz.f108.results.toList= [.tmp 2]:=rfl
theorem Tryz.res109 :Tryz.f109.results.toList= [.tmp 2]:=rfl
theorem Tryz.res110 :Tryz.f110.results.toList= [.tmp 2]:=rfl
theorem Tryz.res111 :Tryz.f111.results.toList= [.tmp 4]:=rfl
theorem Tryz.res112 :Tryz.f112.results.toList= [.tmp 2]:=rfl
theorem Tryz.res113 :Tryz.f113.results.toList= [.tmp 4]:=rfl
theorem Tryz.res114 :Tryz.f114.results.toList= [.cell 6 52]:=rfl
theorem Tryz.res115 :Tryz.f115.results.toList= [.tmp 4]:=rfl
theorem Tryz.res116 :Tryz.f116.results.toList= [.tmp 4]:=rfl
theorem Tryz.res117 :Tryz.f117.results.toList= [.tmp 4]:=rfl
theorem Tryz.res118 :Tryz.f118.results.toList= [.tmp 4]:=rfl
theorem Tryz.res121 :Tryz.f121.results.toList= [.tmp 2]:=rfl
theorem Tryz.res122 :Tryz.f122.results.toList= [.tmp 4,.tmp 5]:=rfl
theorem Tryz.res123 :Tryz.f123.results.toList= [.cell 4 34,.tmp 5]:=rfl
theorem Tryz.res124 :Tryz.f124.results.toList= [.cell 2 32]:=rfl
theorem Tryz.res125 :Tryz.f125.results.toList= [.tmp 6,.tmp 7]:=rfl
theorem Tryz.res126 :Tryz.f126.results.toList= [.tmp 6]:=rfl
theorem Tryz.res128 :Tryz.f128.results.toList= [.cell 4 34,.tmp 5]:=rfl
theorem Tryz.res133 :Tryz.f133.results.toList= [.cell 6 32]:=rfl
theorem Tryz.res134 :Tryz.f134.results.toList= [.tmp 4]:=rfl
theorem Tryz.res137 :Tryz.f137.results.toList= [.tmp 2]:=rfl
theorem Tryz.res138 :Tryz.f138.results.toList= [.tmp 2]:=rfl
theorem Tryz.res140 :Tryz.f140.results.toList= [.cell 8 34,.tmp 9]:=rfl
theorem Tryz.res142 :Tryz.f142.results.toList= [.tmp 2]:=rfl
theorem Tryz.res143 :Tryz.f143.results.toList= [.tmp 2]:=rfl
theorem Tryz.res144 :Tryz.f144.results.toList= [.tmp 2]:=rfl
theorem Tryz.res146 :Tryz.f146.results.toList= [.tmp 8,.tmp 9]:=rfl
theorem Tryz.res157 :Tryz.f157.results.toList= [.cell 2 32,.tmp 3]:=rfl
theorem Tryz.res158 :Tryz.f158.results.toList= [.tmp 2]:=rfl
theorem Tryz.res159 :Tryz.f159.results.toList= [.tmp 2]:=rfl
theorem Tryz.res160 :Tryz.f160.results.toList= [.tmp 4]:=rfl
theorem Tryz.res161 :Tryz.f161.results.toList= [.tmp 4]:=rfl
theorem Tryz.res162 :Tryz.f162.results.toList= [.cell 2 32,.tmp 3]:=rfl
theorem Tryz.res163 :Tryz.f163.results.toList= [.cell 4 32]:=rfl
theorem Tryz.res164 :Tryz.f164.results.toList= [.cell 2 32]:=rfl
theorem Tryz.res165 :Tryz.f165.results.toList= [.cell 2 32]:=rfl
theorem Tryz.res166 :Tryz.f166.results.toList= [.cell 6 34,.tmp 7]:=rfl
theorem Tryz.res167 :Tryz.f167.results.toList= [.cell 6 34,.tmp 7]:=rfl
theorem Tryz.res168 :Tryz.f168.results.toList= [.tmp 6,.tmp 7]:=rfl
theorem Tryz.res169 :Tryz.f169.results.toList= [.tmp 8,.tmp 9]:=rfl
theorem Tryz.res170 :Tryz.f170.results.toList= [.tmp 2]:=rfl
theorem Tryz.res171 :Tryz.f171.results.toList= [.tmp 4,.tmp 5]:=rfl
theorem Tryz.res172 :Tryz.f172.results.toList= [.tmp 6,.tmp 7]:=rfl
theorem Tryz.res173 :Tryz.f173.results.toList= [.tmp 4,.tmp 5,.tmp 6]:=rfl
theorem Tryz.res174 :Tryz.f174.results.toList= [.tmp 4]:=rfl
theorem Tryz.res175 :Tryz.f175.results.toList= [.tmp 4]:=rfl
theorem Tryz.res176 :Tryz.f176.results.toList= [.tmp 4,.tmp 5]:=rfl
theorem Tryz.res177 :Tryz.f177.results.toList= [.cell 5 32,.tmp 6]:=rfl
theorem Tryz.res178 :Tryz.f178.results.toList= [.cell 4 32,.tmp 5]:=rfl
theorem Tryz.res179 :Tryz.f179.results.toList= [.cell 7 34,.tmp 8]:=rfl
theorem Tryz.res180 :Tryz.f180.results.toList= [.cell 6 34,.cell 7 34]:=rfl
theorem Tryz.res181 :Tryz.f181.results.toList= [.cell 2 136,.tmp 3]:=rfl
theorem Tryz.res182 :Tryz.f182.results.toList= [.tmp 4,.tmp 5]:=rfl
theorem Tryz.res183 :Tryz.f183.results.toList= [.tmp 4,.tmp 5]:=rfl
theorem Tryz.res184 :Tryz.f184.results.toList= [.tmp 4,.tmp 5]:=rfl
theorem Tryz.res185 :Tryz.f185.results.toList= [.cell 1 136,.tmp 2]:=rfl
theorem Tryz.res186 :Tryz.f186.results.toList= [.tmp 6,.tmp 7]:=rfl
theorem Tryz.res187 :Tryz.f187.results.toList= [.cell 5 34,.tmp 6]:=rfl
theorem Tryz.res188 :Tryz.f188.results.toList= [.cell 6 34,.tmp 7]:=rfl
theorem Tryz.res189 :Tryz.f189.results.toList= [.tmp 2]:=rfl
theorem Tryz.res190 :Tryz.f190.results.toList= [.tmp 2]:=rfl
theorem Tryz.res191 :Tryz.f191.results.toList= [.tmp 4,.tmp 5]:=rfl
theorem Tryz.res192 :Tryz.f192.results.toList= [.tmp 4]:=rfl
theorem Tryz.res193 :Tryz.f193.results.toList= [.cell 6 32,.tmp 7]:=rfl
theorem Tryz.res194 :Tryz.f194.results.toList= [.cell 5 34,.tmp 6]:=rfl
theorem Tryz.res201 :Tryz.f201.results.toList= [.cell 6 32,.tmp 7]:=rfl
theorem Tryz.res203 :Tryz.f203.results.toList= [.tmp 2]:=rfl
theorem Tryz.res204 :Tryz.f204.results.toList= [.cell 4 34,.tmp 5]:=rfl
theorem Tryz.res205 :Tryz.f205.results.toList= [.cell 6 52]:=rfl
theorem Tryz.res207 :Tryz.f207.results.toList= [.cell 8 52]:=rfl
theorem Tryz.res208 :Tryz.f208.results.toList= [.cell 8 52]:=rfl
theorem Tryz.res209 :Tryz.f209.results.toList= [.tmp 2]:=rfl
theorem Tryz.res215 :Tryz.f215.results.toList= [.tmp 6]:=rfl
theorem Tryz.res217 :Tryz.f217.results.toList= [.cell 8 32,.tmp 9]:=rfl
theorem Tryz.res221 :Tryz.f221.results.toList= [.tmp 2]:=rfl
theorem Tryz.res222 :Tryz.f222.results.toList= [.tmp 2]:=rfl
theorem Tryz.res223 :Tryz.f223.results.toList= [.tmp 2]:=rfl
theorem Tryz.res224 :Tryz.f224.results.toList= [.tmp 2]:=rfl
theorem Tryz.res225 :Tryz.f225.results.toList= [.tmp 4]:=rfl
theorem Tryz.res226 :Tryz.f226.results.toList= [.tmp 4]:=rfl
theorem Tryz.res227 :Tryz.f227.results.toList= [.tmp 4]:=rfl
theorem Tryz.res228 :Tryz.f228.results.toList= [.tmp 4]:=rfl
theorem Tryz.res229 :Tryz.f229.results.toList= [.tmp 4,.tmp 5]:=rfl
theorem Tryz.res230 :Tryz.f230.results.toList= [.cell 4 32]:=rfl
theorem Tryz.res231 :Tryz.f231.results.toList= []:=rfl
theorem Tryz.res232 :Tryz.f232.results.toList= [.cell 4 32]:=rfl
theorem Tryz.res233 :Tryz.f233.results.toList= [.cell 4 32]:=rfl
theorem Tryz.res234 :Tryz.f234.results.toList= [.cell 6 34,.tmp 7]:=rfl
theorem Tryz.res235 :Tryz.f235.results.toList= [.cell 6 34,.tmp 7]:=rfl
theorem Tryz.res236 :Tryz.f236.results.toList= [.cell 4 32,.tmp 5]:=rfl
theorem Tryz.res237 :Tryz.f237.results.toList= [.tmp 4]:=rfl
theorem Tryz.res238 :Tryz.f238.results.toList= [.tmp 4,.tmp 5]:=rfl
theorem Tryz.res239 :Tryz.f239.results.toList= [.tmp 4,.tmp 5]:=rfl
theorem Tryz.res240 :Tryz.f240.results.toList= [.tmp 4,.tmp 5]:=rfl
theorem Tryz.res241 :Tryz.f241.results.toList= [.tmp 4]:=rfl
theorem Tryz.res242 :Tryz.f242.results.toList= [.cell 6 32]:=rfl
theorem Tryz.res243 :Tryz.f243.results.toList= [.cell 2 32]:=rfl
theorem Tryz.res244 :Tryz.f244.results.toList= [.tmp 2]:=rfl
theorem Tryz.res245 :Tryz.f245.results.toList= [.tmp 6,.tmp 7]:=rfl
theorem Tryz.res246 :Tryz.f246.results.toList= [.tmp 4,.tmp 5]:=rfl
theorem Tryz.res247 :Tryz.f247.results.toList= [.cell 6 32,.tmp 7]:=rfl
theorem Tryz.res248 :Tryz.f248.results.toList= [.tmp 4]:=rfl
theorem Tryz.res249 :Tryz.f249.results.toList= [.cell 6 32,.tmp 7]:=rfl
theorem Tryz.res250 :Tryz.f250.results.toList= [.cell 8 32,.tmp 9]:=rfl
theorem Tryz.res251 :Tryz.f251.results.toList= [.cell 8 32,.tmp 9]:=rfl
theorem Tryz.res252 :Tryz.f252.results.toList= [.tmp 4,.tmp 5]:=rfl
theorem Tryz.res253 :Tryz.f253.results.toList= [.cell 6 34,.tmp 7]:=rfl
theorem Tryz.res254 :Tryz.f254.results.toList= [.tmp 2]:=rfl
theorem Tryz.res255 :Tryz.f255.results.toList= [.tmp 4]:=rfl
theorem Tryz.res259 :Tryz.f259.results.toList= [.tmp 2]:=rfl
theorem Tryz.res260 :Tryz.f260.results.toList= [.cell 8 52]:=rfl
theorem Tryz.res265 :Tryz.f265.results.toList= [.cell 6 32,.tmp 7]:=rfl
theorem Tryz.res266 :Tryz.f266.results.toList= [.cell 6 32]:=rfl
theorem Tryz.res267 :Tryz.f267.results.toList= [.tmp 2]:=rfl
theorem Tryz.res268 :Tryz.f268.results.toList= [.tmp 2]:=rfl
theorem Tryz.res269 :Tryz.f269.results.toList= [.tmp 4]:=rfl
theorem Tryz.res271 :Tryz.f271.results.toList= [.tmp 2]:=rfl
theorem Tryz.res273 :Tryz.f273.results.toList= [.tmp 4]:=rfl
theorem Tryz.res274 :Tryz.f274.results.toList= [.tmp 6,.tmp 7]:=rfl
theorem Tryz.res275 :Tryz.f275.results.toList= [.tmp 2,.tmp 3]:=rfl
theorem Tryz.res276 :Tryz.f276.results.toList= [.cell 4 32,.tmp 5]:=rfl
theorem Tryz.res277 :Tryz.f277.results.toList= [.tmp 4,.tmp 5]:=rfl
theorem Tryz.res278 :Tryz.f278.results.toList= [.cell 4 32,.tmp 5]:=rfl
theorem Tryz.res279 :Tryz.f279.results.toList= [.cell 10 32,.tmp 11]:=rfl
theorem Tryz.res280 :Tryz.f280.results.toList= [.cell 6 32]:=rfl
theorem Tryz.res281 :Tryz.f281.results.toList= [.tmp 2]:=rfl
theorem Tryz.res282 :Tryz.f282.results.toList= [.tmp 6,.tmp 7]:=rfl
theorem Tryz.res283 :Tryz.f283.results.toList= [.tmp 2,.tmp 3]:=rfl
theorem Tryz.res284 :Tryz.f284.results.toList= [.tmp 2]:=rfl
theorem Tryz.res285 :Tryz.f285.results.toList= [.tmp 2]:=rfl
theorem Tryz.res286 :Tryz.f286.results.toList= [.tmp 2]:=rfl
theorem Tryz.res287 :Tryz.f287.results.toList= [.tmp 4]:=rfl
theorem Tryz.res288 :Tryz.f288.results.toList= [.tmp 6,.tmp 7]:=rfl
theorem Tryz.res289 :Tryz.f289.results.toList= [.cell 4 32,.tmp 5]:=rfl
theorem Tryz.res290 :Tryz.f290.results.toList= [.cell 8 32,.tmp 9]:=rfl
theorem Tryz.res291 :Tryz.f291.results.toList= [.cell 10 32,.tmp 11]:=rfl
theorem Tryz.res292 :Tryz.f292.results.toList= [.tmp 2]:=rfl
theorem Tryz.res294 :Tryz.f294.results.toList= [.tmp 4,.tmp 5]:=rfl
theorem Tryz.res297 :Tryz.f297.results.toList= [.cell 2 32]:=rfl
theorem Tryz.res298 :Tryz.f298.results.toList= [.tmp 4,.tmp 5,.tmp 6]:=rfl
theorem Tryz.res299 :Tryz.f299.results.toList= [.tmp 2]:=rfl
theorem Tryz.res300 :Tryz.f300.results.toList= [.tmp 2]:=rfl
theorem Tryz.res301 :Tryz.f301.results.toList= [.tmp 4,.tmp 5]:=rfl
theorem Tryz.res302 :Tryz.f302.results.toList= [.cell 6 32,.tmp 7]:=rfl
theorem Tryz.res303 :Tryz.f303.results.toList= [.cell 8 32,.tmp 9]:=rfl
theorem Tryz.res304 :Tryz.f304.results.toList= [.tmp 2]:=rfl
theorem Tryz.res305 :Tryz.f305.results.toList= [.cell 2 32]:=rfl
theorem Tryz.res306 :Tryz.f306.results.toList= [.tmp 4]:=rfl
theorem Tryz.res307 :Tryz.f307.results.toList= [.cell 6 52]:=rfl
theorem Tryz.res308 :Tryz.f308.results.toList= [.tmp 3]:=rfl
theorem Tryz.res309 :Tryz.f309.results.toList= [.cell 6 32,.tmp 7]:=rfl
theorem Tryz.res310 :Tryz.f310.results.toList= [.cell 2 32]:=rfl
theorem Tryz.res311 :Tryz.f311.results.toList= [.tmp 2]:=rfl
theorem Tryz.res312 :Tryz.f312.results.toList= [.cell 4 32,.tmp 5]:=rfl
theorem Tryz.res313 :Tryz.f313.results.toList= [.tmp 4]:=rfl
theorem Tryz.res314 :Tryz.f314.results.toList= [.tmp 6]:=rfl
theorem Tryz.res315 :Tryz.f315.results.toList= [.tmp 8]:=rfl
theorem Tryz.res316 :Tryz.f316.results.toList= [.cell 7 34,.tmp 8]:=rfl
theorem Tryz.res317 :Tryz.f317.results.toList= [.cell 2 32]:=rfl
theorem Tryz.res319 :Tryz.f319.results.toList= [.tmp 4,.tmp 5]:=rfl
theorem Tryz.res320 :Tryz.f320.results.toList= [.tmp 4,.tmp 5]:=rfl
theorem Tryz.res321 :Tryz.f321.results.toList= [.cell 4 32]:=rfl
theorem Tryz.res322 :Tryz.f322.results.toList= [.cell 2 32]:=rfl
theorem Tryz.res324 :Tryz.f324.results.toList= [.tmp 6,.tmp 7]:=rfl
theorem Tryz.res325 :Tryz.f325.results.toList= [.tmp 2]:=rfl
theorem Tryz.res326 :Tryz.f326.results.toList= [.tmp 4]:=rfl
theorem Tryz.res327 :Tryz.f327.results.toList= [.tmp 6]:=rfl
theorem Tryz.res328 :Tryz.f328.results.toList= []:=rfl
set_option maxRecDepth 100000 in
@[go_sem] theorem Tryz.caAll :Q0c Tryz.prog 12=true/\Q0c Tryz.prog 13=true/\Q0c Tryz.prog 15=true/\Q0c Tryz.prog 16=true/\Q0c Tryz.prog 17=true/\Q0c Tryz.prog 21=true/\Q0c Tryz.prog 22=true/\Q0c Tryz.prog 27=true/\Q0c Tryz.prog 28=true/\Q0c Tryz.prog 29=true/\Q0c Tryz.prog 30=true/\Q0c Tryz.prog 32=true/\Q0c Tryz.prog 33=true/\Q0c Tryz.prog 34=true/\Q0c Tryz.prog 35=true/\Q0c Tryz.prog 36=true/\Q0c Tryz.prog 37=true/\Q0c Tryz.prog 38=true/\Q0c Tryz.prog 39=true/\Q0c Tryz.prog 40=true/\Q0c Tryz.prog 41=true/\Q0c Tryz.prog 42=true/\Q0c Tryz.prog 43=true/\Q0c Tryz.prog 46=true/\Q0c Tryz.prog 47=true/\Q0c Tryz.prog 48=true/\Q0c Tryz.prog 50=true/\Q0c Tryz.prog 52=true/\Q0c Tryz.prog 53=true/\Q0c Tryz.prog 54=true/\Q0c Tryz.prog 55=true/\Q0c Tryz.prog 58=true/\Q0c Tryz.prog 59=true/\Q0c Tryz.prog 62=true/\Q0c Tryz.prog 64=true/\Q0c Tryz.prog 65=true/\Q0c Tryz.prog 66=true/\Q0c Tryz.prog 77=true/\Q0c Tryz.prog 78=true/\Q0c Tryz.prog 79=true/\Q0c Tryz.prog 80=true/\Q0c Tryz.prog 82=true/\Q0c Tryz.prog 83=true/\Q0c Tryz.prog 84=true/\Q0c Tryz.prog 85=true/\Q0c Tryz.prog 86=true/\Q0c Tryz.prog 88=true/\Q0c Tryz.prog 89=true/\Q0c Tryz.prog 90=true/\Q0c Tryz.prog 91=true/\Q0c Tryz.prog 92=true/\Q0c Tryz.prog 93=true/\Q0c Tryz.prog 94=true/\Q0c Tryz.prog 95=true/\Q0c Tryz.prog 96=true/\Q0c Tryz.prog 97=true/\Q0c Tryz.prog 98=true/\Q0c Tryz.prog 99=true/\Q0c Tryz.prog 100=true/\Q0c Tryz.prog 101=true/\Q0c Tryz.prog 102=true/\Q0c Tryz.prog 103=true/\Q0c Tryz.prog 104=true/\Q0c Tryz.prog 105=true/\Q0c Tryz.prog 106=true/\Q0c Tryz.prog 107=true/\Q0c Tryz.prog 108=true/\Q0c Tryz.prog 109=true/\Q0c Tryz.prog 110=true/\Q0c Tryz.prog 111=true/\Q0c Tryz.prog 112=true/\Q0c Tryz.prog 113=true/\Q0c Tryz.prog 114=true/\Q0c Tryz.prog 115=true/\Q0c Tryz.prog 116=true/\Q0c Tryz.prog 117=true/\Q0c Tryz.prog 118=true/\Q0c Tryz.prog 121=true/\Q0c Tryz.prog 122=true/\Q0c Tryz.prog 124=true/\Q0c Tryz.prog 125=true/\Q0c Tryz.prog 126=true/\Q0c Tryz.prog 128=true/\Q0c Tryz.prog 133=true/\Q0c Tryz.prog 134=true/\Q0c Tryz.prog 137=true/\Q0c Tryz.prog 138=true/\Q0c Tryz.prog 140=true/\Q0c Tryz.prog 142=true/\Q0c Tryz.prog 143=true/\Q0c Tryz.prog 144=true/\Q0c Tryz.prog 146=true/\Q0c Tryz.prog 157=true/\Q0c Tryz.prog 158=true/\Q0c Tryz.prog 159=true/\Q0c Tryz.prog 160=true/\Q0c Tryz.prog 161=true/\Q0c Tryz.prog 162=true/\Q0c Tryz.prog 163=true/\Q0c Tryz.prog 164=true/\Q0c Tryz.prog 165=true/\Q0c Tryz.prog 166=true/\Q0c Tryz.prog 167=true/\Q0c Tryz.prog 168=true/\Q0c Tryz.prog 169=true/\Q0c Tryz.prog 170=true/\Q0c Tryz.prog 171=true/\Q0c Tryz.prog 172=true/\Q0c Tryz.prog 173=true/\Q0c Tryz.prog 174=true/\Q0c Tryz.prog 176=true/\Q0c Tryz.prog 178=true/\Q0c Tryz.prog 181=true/\Q0c Tryz.prog 182=true/\Q0c Tryz.prog 183=true/\Q0c Tryz.prog 184=true/\Q0c Tryz.prog 185=true/\Q0c Tryz.prog 186=true/\Q0c Tryz.prog 188=true/\Q0c Tryz.prog 189=true/\Q0c Tryz.prog 190=true/\Q0c Tryz.prog 191=true/\Q0c Tryz.prog 192=true/\Q0c Tryz.prog 193=true/\Q0c Tryz.prog 201=true/\Q0c Tryz.prog 203=true/\Q0c Tryz.prog 204=true/\Q0c Tryz.prog 205=true/\Q0c Tryz.prog 207=true/\Q0c Tryz.prog 208=true/\Q0c Tryz.prog 209=true/\Q0c Tryz.prog 215=true/\Q0c Tryz.prog 217=true/\Q0c Tryz.prog 221=true/\Q0c Tryz.prog 222=true/\Q0c Tryz.prog 223=true/\Q0c Tryz.prog 224=true/\Q0c Tryz.prog 225=true/\Q0c Tryz.prog 226=true/\Q0c Tryz.prog 227=true/\Q0c Tryz.prog 228=true/\Q0c Tryz.prog 229=true/\Q0c Tryz.prog 230=true/\Q0c Tryz.prog 231=true/\Q0c Tryz.prog 232=true/\Q0c Tryz.prog 233=true/\Q0c Tryz.prog 234=true/\Q0c Tryz.prog 235=true/\Q0c Tryz.prog 236=true/\Q0c Tryz.prog 237=true/\Q0c Tryz.prog 238=true/\Q0c Tryz.prog 239=true/\Q0c Tryz.prog 240=true/\Q0c Tryz.prog 241=true/\Q0c Tryz.prog 242=true/\Q0c Tryz.prog 243=true/\Q0c Tryz.prog 244=true/\Q0c Tryz.prog 245=true/\Q0c Tryz.prog 246=true/\Q0c Tryz.prog 247=true/\Q0c Tryz.prog 248=true/\Q0c Tryz.prog 249=true/\Q0c Tryz.prog 250=true/\Q0c Tryz.prog 251=true/\Q0c Tryz.prog 252=true/\Q0c Tryz.prog 254=true/\Q0c Tryz.prog 255=true/\Q0c Tryz.prog 259=true/\Q0c Tryz.prog 260=true/\Q0c Tryz.prog 265=true/\Q0c Tryz.prog 266=true/\Q0c Tryz.prog 267=true/\Q0c Tryz.prog 268=true/\Q0c Tryz.prog 269=true/\Q0c Tryz.prog 271=true/\Q0c Tryz.prog 273=true/\Q0c Tryz.prog 274=true/\Q0c Tryz.prog 275=true/\Q0c Tryz.prog 276=true/\Q0c Tryz.prog 277=true/\Q0c Tryz.prog 278=true/\Q0c Tryz.prog 279=true/\Q0c Tryz.prog 280=true/\Q0c Tryz.prog 281=true/\Q0c Tryz.prog 282=true/\Q0c Tryz.prog 283=true/\Q0c Tryz.prog 284=true/\Q0c Tryz.prog 285=true/\Q0c Tryz.prog 286=true/\Q0c Tryz.prog 287=true/\Q0c Tryz.prog 288=true/\Q0c Tryz.prog 289=true/\Q0c Tryz.prog 290=true/\Q0c Tryz.prog 291=true/\Q0c Tryz.prog 292=true/\Q0c Tryz.prog 294=true/\Q0c Tryz.prog 297=true/\Q0c Tryz.prog 298=true/\Q0c Tryz.prog 299=true/\Q0c Tryz.prog 300=true/\Q0c Tryz.prog 301=true/\Q0c Tryz.prog 302=true/\Q0c Tryz.prog 303=true/\Q0c Tryz.prog 304=true/\Q0c Tryz.prog 305=true/\Q0c Tryz.prog 306=true/\Q0c Tryz.prog 307=true/\Q0c Tryz.prog 308=true/\Q0c Tryz.prog 309=true/\Q0c Tryz.prog 310=true/\Q0c Tryz.prog 311=true/\Q0c Tryz.prog 312=true/\Q0c Tryz.prog 313=true/\Q0c Tryz.prog 314=true/\Q0c Tryz.prog 315=true/\Q0c Tryz.prog 317=true/\Q0c Tryz.prog 319=true/\Q0c Tryz.prog 320=true/\Q0c Tryz.prog 321=true/\Q0c Tryz.prog 322=true/\Q0c Tryz.prog 324=true/\Q0c Tryz.prog 325=true/\Q0c Tryz.prog 326=true/\Q0c Tryz.prog 327=true/\Q0c Tryz.prog 328=true:=by and_intros<;>kernel_rfl
namespace Tryz
attribute [go_sem] res7 ntmps7 res12 ntmps12 res13 ntmps13 res15 ntmps15 res16 ntmps16 res17 ntmps17 res21 ntmps21 res22 ntmps22 res27 ntmps27 res28 ntmps28 res29 ntmps29 res30 ntmps30 res32 ntmps32 res33 ntmps33 res34 ntmps34 res35 ntmps35 res36 ntmps36 res37 ntmps37 res38 ntmps38 res39 ntmps39 res40 ntmps40 res41 ntmps41 res42 ntmps42 res43 ntmps43 res46 ntmps46 res47 ntmps47 res48 ntmps48 res50 ntmps50 res52 ntmps52 res53 ntmps53 res54 ntmps54 res55 ntmps55 res58 ntmps58 res59 ntmps59 res62 ntmps62 res64 ntmps64 res65 ntmps65 res66 ntmps66 res77 ntmps77 res78 ntmps78 res79 ntmps79 res80 ntmps80 res82 ntmps82 res83 ntmps83 res84 ntmps84 res85 ntmps85 res86 ntmps86 res87 ntmps87 res88 ntmps88 res89 ntmps89 res90 ntmps90 res91 ntmps91 res92 ntmps92 res93 ntmps93 res94 ntmps94 res95 ntmps95 res96 ntmps96 res97 ntmps97 res98 ntmps98 res99 ntmps99 res100 ntmps100 res101 ntmps101 res102 ntmps102 res103 ntmps103 res104 ntmps104 res105 ntmps105 res106 ntmps106 res107 ntmps107 res108 ntmps108 res109 ntmps109 res110 ntmps110 res111 ntmps111 res112 ntmps112 res113 ntmps113 res114 ntmps114 res115 ntmps115 res116 ntmps116 res117 ntmps117 res118 ntmps118 res121 ntmps121 res122 ntmps122 res123 ntmps123 res124 ntmps124 res125 ntmps125 res126 ntmps126 res128 ntmps128 res133 ntmps133 res134 ntmps134 res137 ntmps137 res138 ntmps138 res140 ntmps140 res142 ntmps142 res143 ntmps143 res144 ntmps144 res146 ntmps146 res157 ntmps157 res158 ntmps158 res159 ntmps159 res160 ntmps160 res161 ntmps161 res162 ntmps162 res163 ntmps163 res164 ntmps164 res165 ntmps165 res166 ntmps166 res167 ntmps167 res168 ntmps168 res169 ntmps169 res170 ntmps170 res171 ntmps171 res172 ntmps172 res173 ntmps173 res174 ntmps174 res175 ntmps175 res176 ntmps176 res177 ntmps177 res178 ntmps178 res179 ntmps179 res180 ntmps180 res181 ntmps181 res182 ntmps182 res183 ntmps183 res184 ntmps184 res185 ntmps185 res186 ntmps186 res187 ntmps187 res188 ntmps188 res189 ntmps189 res190 ntmps190 res191 ntmps191 res192 ntmps192 res193 ntmps193 res194 ntmps194 res201 ntmps201 res203 ntmps203 res204 ntmps204 res205 ntmps205 res207 ntmps207 res208 ntmps208 res209 ntmps209 res215 ntmps215 res217 ntmps217 res221 ntmps221 res222 ntmps222 res223 ntmps223 res224 ntmps224 res225 ntmps225 res226 ntmps226 res227 ntmps227 res228 ntmps228 res229 ntmps229 res230 ntmps230 res231 ntmps231 res232 ntmps232 res233 ntmps233 res234 ntmps234 res235 ntmps235 res236 ntmps236 res237 ntmps237 res238 ntmps238 res239 ntmps239 res240 ntmps240 res241 ntmps241 res242 ntmps242 res243 ntmps243 res244 ntmps244 res245 ntmps245 res246 ntmps246 res247 ntmps247 res248 ntmps248 res249 ntmps249 res250 ntmps250 res251 ntmps251 res252 ntmps252 res253 ntmps253 res254 ntmps254 res255 ntmps255 res259 ntmps259 res260 ntmps260 res265 ntmps265 res266 ntmps266 res267 ntmps267 res268 ntmps268 res269 ntmps269 res271 ntmps271 res273 ntmps273 res274 ntmps274 res275 ntmps275 res276 ntmps276 res277 ntmps277 res278 ntmps278 res279 ntmps279 res280 ntmps280 res281 ntmps281 res282 ntmps282 res283 ntmps283 res284 ntmps284 res285 ntmps285 res286 ntmps286 res287 ntmps287 res288 ntmps288 res289 ntmps289 res290 ntmps290 res291 ntmps291 res292 ntmps292 res294 ntmps294 res297 ntmps297 res298 ntmps298 res299 ntmps299 res300 ntmps300 res301 ntmps301 res302 ntmps302 res303 ntmps303 res304 ntmps304 res305 ntmps305 res306 ntmps306 res307 ntmps307 res308 ntmps308 res309 ntmps309 res310 ntmps310 res311 ntmps311 res312 ntmps312 res313 ntmps313 res314 ntmps314 res315 ntmps315 res316 ntmps316 res317 ntmps317 res319 ntmps319 res320 ntmps320 res321 ntmps321 res322 ntmps322 res324 ntmps324 res325 ntmps325 res326 ntmps326 res327 ntmps327 res328 ntmps328
end Tryz
end Go.Proofs
namespace Go.Pv
open Go.Proofs
abbrev PR (f:FuncId) (args:List PV) (st:Q0f) (R:PV):Prop:=PCalls Tryz.prog f args st (fun r st'=>r=R/\st'=st)
end Go.Pv
namespace Go.Proofs
end Go.Proofs
end
section
namespace Go.Pv
theorem H2n {α:Type}{P:List α->Prop}(nil:P [])(snoc: ∀l x,P l->P (l++ [x]))(l:List α):P l:=by
 have: ∀r:List α,P r.reverse:=fun r=>by
  induction r with
  | nil=>exact nil
  | cons x r ih=>rw[List.reverse_cons];exact snoc _ _ ih
 have h:=this l.reverse;rwa [List.reverse_reverse] at h
def val (B:Nat):List Nat->Nat
 | []=>0
 | x::l=>x+B*val B l
def digs (B:Nat)(n:Nat):List Nat:=if h:n=0\/B<2 then [] else n % B::digs B (n/B)
termination_by n
decreasing_by exact Nat.div_lt_self oG oG
theorem V0v (B:Nat):digs B 0= []:=by rw[digs,dif_pos (.inl rfl)]
theorem k0u {B n:Nat}(hB:2<=B)(h:n≠0):digs B n=n % B::digs B (n/B):=by rw[digs,dif_neg oG]
theorem H1j {B:Nat}(hB:2<=B)(n:Nat):val B (digs B n)=n:=by
 induction n using Nat.strongRecOn with
 | _ n ih=>
  by_cases h:n=0;subst h;simp[V0v,val];rw[k0u hB h,val,ih _ (Nat.div_lt_self oG oG)];exact Nat.mod_add_div n B
theorem Z2g {B:Nat}(hB:2<=B)(n:Nat): ∀x∈digs B n,x<B:=by
 induction n using Nat.strongRecOn with
 | _ n ih=>
  by_cases h:n=0;subst h;simp[V0v];rw[k0u hB h];intro x hx;rcases List.mem_cons.1 hx with rfl | hx;exact Nat.mod_lt _ oG;exact ih _ (Nat.div_lt_self oG oG) x hx
def Y1s (l:List Nat):List Nat:=(l.reverse.dropWhile (· ==0)).reverse
theorem q0v (l:List Nat)(x:Nat):Y1s (l++ [x])=if x=0 then Y1s l else l++ [x]:=by unfold Y1s;rw[List.reverse_append];simp only[List.reverse_cons,List.reverse_nil,List.nil_append,List.singleton_append,List.dropWhile_cons];by_cases h:x=0<;>simp[h]
theorem x1m :Y1s []= []:=rfl
theorem U1g (B:Nat)(l m:List Nat):val B (l++m)=val B l+B^l.length*val B m:=by
 induction l with
 | nil=>simp[val]
 | cons x l ih=>
  simp only[List.cons_append,val,ih,List.length_cons,Nat.pow_succ,Nat.mul_add];rw[Nat.mul_comm (B^l.length) B,Nat.mul_assoc];omega
theorem X2e {B:Nat}(hB:0<B): ∀l:List Nat,(∀x∈l,x<B)->val B l<B^l.length
 | [],_=>by simp[val]
 | x::l,h=>by have h1:=X2e hB l fun y hy=>h y (List.mem_cons_of_mem _ hy);have h2:=h x (List.mem_cons_self);simp only[val,List.length_cons,Nat.pow_succ];have:B*(val B l+1)<=B*B^l.length:=Nat.mul_le_mul_left _ h1;rw[Nat.mul_comm (B^l.length) B];rw[Nat.mul_add] at this;omega
theorem V2u (x:Nat)(l:List Nat):Y1s (x::l)=if Y1s l= [] then(if x=0 then [] else [x]) else x::Y1s l:=by
 induction l using H2n with
 | nil=>
  have:=q0v [] x;simpa[x1m] using this
 | snoc l y ih=>
  have e:x::(l++ [y])=(x::l)++ [y]:=rfl;rw[e,q0v,q0v];by_cases h:y=0;simp[h,ih];simp[h]
theorem z1h {B:Nat}(hB:2<=B): ∀l:List Nat,(∀x∈l,x<B)->digs B (val B l)=Y1s l
 | [],_=>by simp[val,V0v,x1m]
 | x::l,h=>by
  have ih:=z1h hB l fun y hy=>h y (List.mem_cons_of_mem _ hy);have h2:=h x (List.mem_cons_self);rw[V2u,<-ih,val];by_cases hv:val B l=0;rw[hv,V0v];simp only[Nat.mul_zero,Nat.add_zero,if_true];by_cases hx:x=0;rw[if_pos hx,hx,V0v];rw[if_neg hx,k0u hB hx,Nat.mod_eq_of_lt h2,Nat.div_eq_of_lt h2,V0v];have hne:x+B*val B l≠0:=by have:0<B*val B l:=Nat.mul_pos oG oG;omega
  rw[k0u hB hne,if_neg (by rw[k0u hB hv];simp),Nat.add_mul_mod_self_left,Nat.mod_eq_of_lt h2,Nat.add_mul_div_left _ _ oG,Nat.div_eq_of_lt h2,Nat.zero_add]
theorem U0o {B:Nat}(hB:2<=B)(k:Nat): ∀n,n<B^k->(digs B n).length<=k:=by
 induction k with
 | zero=>intro n h;have:n=0:=by simpa using h
         subst this;simp[V0v]
 | succ k ih=>
  intro n h;by_cases h0:n=0;subst h0;simp[V0v];rw[k0u hB h0,List.length_cons];have:=ih (n/B) (by rw[Nat.div_lt_iff_lt_mul oG];rw[Nat.pow_succ] at h;exact h);omega
def nW (l:List UInt64):List Nat:=l.map UInt64.toNat
def valW (l:List UInt64):Nat:=val 18446744073709551616 (nW l)
def Q0p (n:Nat):List UInt64:=(digs 18446744073709551616 n).map UInt64.ofNat
def nD (l:List UInt32):List Nat:=l.map UInt32.toNat
def valD (l:List UInt32):Nat:=val 4294967296 (nD l)
def Q0g (n:Nat):List UInt32:=(digs 4294967296 n).map UInt32.ofNat
def cutW (l:List UInt64):List UInt64:=(l.reverse.dropWhile (· ==0)).reverse
def cutD (l:List UInt32):List UInt32:=(l.reverse.dropWhile (· ==0)).reverse
theorem Z3p (l:List UInt64): ∀x∈nW l,x<18446744073709551616:=by intro x hx;obtain⟨c,_,rfl⟩:=List.mem_map.1 hx;exact UInt64.toNat_lt c
theorem H3q (l:List UInt32): ∀x∈nD l,x<4294967296:=by intro x hx;obtain⟨c,_,rfl⟩:=List.mem_map.1 hx;exact UInt32.toNat_lt c
theorem v1w (l:List UInt64)(x:UInt64):cutW (l++ [x])=if x=0 then cutW l else l++ [x]:=by unfold cutW;rw[List.reverse_append];simp only[List.reverse_cons,List.reverse_nil,List.nil_append,List.singleton_append,List.dropWhile_cons];by_cases h:x=0<;>simp[h]
theorem v1y (l:List UInt32)(x:UInt32):cutD (l++ [x])=if x=0 then cutD l else l++ [x]:=by unfold cutD;rw[List.reverse_append];simp only[List.reverse_cons,List.reverse_nil,List.nil_append,List.singleton_append,List.dropWhile_cons];by_cases h:x=0<;>simp[h]
theorem J1m (x:UInt64):x=0<->x.toNat=0:=⟨fun h=>by rw[h];rfl,fun h=>UInt64.toNat.inj h⟩
theorem k0e (x:UInt32):x=0<->x.toNat=0:=⟨fun h=>by rw[h];rfl,fun h=>UInt32.toNat.inj h⟩
theorem v3j (l:List UInt64):nW (cutW l)=Y1s (nW l):=by
 induction l using H2n with
 | nil=>rfl
 | snoc l x ih=>
  rw[v1w];have e:nW (l++ [x])=nW l++ [x.toNat]:=(by simp[nW]);rw[e,q0v];by_cases h:x=0;rw[if_pos h,if_pos ((J1m x).1 h),ih];rw[if_neg h,if_neg (fun e=>h ((J1m x).2 e)),e]
theorem v3k (l:List UInt32):nD (cutD l)=Y1s (nD l):=by
 induction l using H2n with
 | nil=>rfl
 | snoc l x ih=>
  rw[v1y];have e:nD (l++ [x])=nD l++ [x.toNat]:=(by simp[nD]);rw[e,q0v];by_cases h:x=0;rw[if_pos h,if_pos ((k0e x).1 h),ih];rw[if_neg h,if_neg (fun e=>h ((k0e x).2 e)),e]
theorem Z3c (l:List UInt64):(nW l).map UInt64.ofNat=l:=by
 simp only[nW,List.map_map]
 conv=>rhs;rw[<-List.map_id l]
 exact List.map_congr_left fun a _=>by simp
theorem Z3d (l:List UInt32):(nD l).map UInt32.ofNat=l:=by
 simp only[nD,List.map_map]
 conv=>rhs;rw[<-List.map_id l]
 exact List.map_congr_left fun a _=>by simp
theorem Z0a (l:List UInt64):Q0p (valW l)=cutW l:=by rw[Q0p,valW,z1h (by decide) _ (Z3p l),<-v3j,Z3c]
theorem K0g (l:List UInt32):Q0g (valD l)=cutD l:=by rw[Q0g,valD,z1h (by decide) _ (H3q l),<-v3k,Z3d]
theorem Y2g (n:Nat):nW (Q0p n)=digs 18446744073709551616 n:=by
 simp only[nW,Q0p,List.map_map]
 conv=>rhs;rw[<-List.map_id (digs _ n)]
 exact List.map_congr_left fun a ha=>by have:=Z2g (B:=18446744073709551616) (by decide) n a ha;simp only[Function.comp,id];rw[UInt64.toNat_ofNat'];omega
theorem Q2g (n:Nat):nD (Q0g n)=digs 4294967296 n:=by
 simp only[nD,Q0g,List.map_map]
 conv=>rhs;rw[<-List.map_id (digs _ n)]
 exact List.map_congr_left fun a ha=>by have:=Z2g (B:=4294967296) (by decide) n a ha;simp only[Function.comp,id];rw[UInt32.toNat_ofNat'];omega
theorem Z0i (n:Nat):valW (Q0p n)=n:=by rw[valW,Y2g,H1j (by decide)]
theorem Z0g (n:Nat):valD (Q0g n)=n:=by rw[valD,Q2g,H1j (by decide)]
theorem J0z (l:List UInt64):valW (cutW l)=valW l:=by rw[<-Z0a,Z0i]
theorem G0b (n:Nat):cutW (Q0p n)=Q0p n:=by rw[<-Z0a,Z0i]
theorem x0f (n:Nat):cutD (Q0g n)=Q0g n:=by rw[<-K0g,Z0g]
theorem V0y :valW []=0:=rfl
theorem H0r :valD []=0:=rfl
theorem J0e :Q0p 0= []:=by simp[Q0p,V0v]
theorem Z0o :Q0g 0= []:=by simp[Q0g,V0v]
theorem wordsOf_nil {n:Nat} :Q0p n= []<->n=0:=⟨fun h=>by rw[<-Z0i n,h,V0y],fun h=>by rw[h,J0e]⟩
theorem digitsOf_nil {n:Nat} :Q0g n= []<->n=0:=⟨fun h=>by rw[<-Z0g n,h,H0r],fun h=>by rw[h,Z0o]⟩
theorem V0n (l m:List UInt64):valW (l++m)=valW l+18446744073709551616^l.length*valW m:=by have e:nW (l++m)=nW l++nW m:=(by simp[nW]);rw[valW,e,U1g];simp[valW,nW]
theorem v0n (l m:List UInt32):valD (l++m)=valD l+4294967296^l.length*valD m:=by have e:nD (l++m)=nD l++nD m:=(by simp[nD]);rw[valD,e,U1g];simp[valD,nD]
theorem X0u (l:List UInt64):valW l<18446744073709551616^l.length:=by have:=X2e (B:=18446744073709551616) (by decide) _ (Z3p l);simpa[valW,nW] using this
theorem x0v (l:List UInt32):valD l<4294967296^l.length:=by have:=X2e (B:=4294967296) (by decide) _ (H3q l);simpa[valD,nD] using this
theorem V0h (l:List UInt64):(cutW l).length<=l.length:=by unfold cutW;rw[List.length_reverse];have:=(List.dropWhile_sublist (· ==(0:UInt64)) (l:=l.reverse)).length_le;simpa using this
theorem z3p (l:List UInt32):(cutD l).length<=l.length:=by unfold cutD;rw[List.length_reverse];have:=(List.dropWhile_sublist (· ==(0:UInt32)) (l:=l.reverse)).length_le;simpa using this
theorem Y1c (l:List UInt64)(h:l≠ []):(cutW l).length=l.length<->l.getD (l.length-1) 0≠0:=by obtain⟨i,x,rfl⟩: ∃i x,l=i++ [x]:=⟨l.dropLast,l.getLast h,(List.dropLast_concat_getLast h).symm⟩;rw[v1w];have e:(i++ [x]).getD ((i++ [x]).length-1) 0=x:=(by simp[q_a]);rw[e];have:=V0h i;by_cases hx:x=0;simp[hx];omega;simp[hx]
theorem k2l (l:List UInt64)(h:cutW l≠ []):(cutW l).getD ((cutW l).length-1) 0≠0:=by rw[<-Y1c _ h];congr 1;rw[<-Z0a l,G0b]
theorem v0l {α:Type}(p:α->Bool)(l:List α)(n:Nat)(d:α)(hn:n<=l.length)(hz: ∀j,n<=j->j<l.length->p (l.getD j d)=true)(hl:n=0\/p (l.getD (n-1) d)=false):(l.reverse.dropWhile p).reverse=l.take n:=by
 have e:l=l.take n++l.drop n:=(List.take_append_drop n l).symm;have hd: ∀x∈(l.drop n).reverse,p x=true:=fun x hx=>by rw[List.mem_reverse] at hx;obtain⟨j,hj,rfl⟩:=List.mem_iff_getElem.1 hx;rw[List.length_drop] at hj;have:=hz (n+j) oG oG;rw[q_a,List.getElem?_eq_getElem oG] at this;simp only[Option.getD_some] at this;rw[List.getElem_drop,this]
 conv=>lhs;rw[e]
 rw[List.reverse_append,List.dropWhile_append_of_pos hd];rcases hl with rfl | hl;simp;by_cases h0:n=0;subst h0;simp;have hne:l.take n=l.take (n-1)++ [l.getD (n-1) d]:=by have h1:n-1<l.length:=oG;have:=List.take_succ_eq_append_getElem h1;rw[show n-1+1=n from oG] at this;rw[this,q_a,List.getElem?_eq_getElem h1];rfl
 rw[hne,List.reverse_append];simp only[List.reverse_cons,List.reverse_nil,List.nil_append,List.singleton_append];rw[List.dropWhile_cons_of_neg (by simpa using hl)];simp
theorem Z2i (l:List UInt64)(n:Nat)(hn:n<=l.length)(hz: ∀j,n<=j->j<l.length->l.getD j 0=0)(hl:n=0\/l.getD (n-1) 0≠0):cutW l=l.take n:=
 v0l _ l n 0 hn (fun j h1 h2=>by simpa using hz j h1 h2) (hl.imp id fun h=>by simpa using h)
theorem z3q (l:List UInt32)(n:Nat)(hn:n<=l.length)(hz: ∀j,n<=j->j<l.length->l.getD j 0=0)(hl:n=0\/l.getD (n-1) 0≠0):cutD l=l.take n:=
 v0l _ l n 0 hn (fun j h1 h2=>by simpa using hz j h1 h2) (hl.imp id fun h=>by simpa using h)
def Q0i (n:Nat):Nat:=if n=0 then 0 else Nat.log2 n+1
theorem Z0h (n:Nat):n<2^Q0i n:=by unfold Q0i;split;rename_i h;subst h;decide;exact Nat.lt_log2_self
theorem K0x {n:Nat}(h:n≠0):2^(Q0i n-1)<=n:=by unfold Q0i;rw[if_neg h];exact Nat.log2_self_le h
theorem bitlen_le_iff {n k:Nat} :Q0i n<=k<->n<2^k:=by constructor;intro h;exact q_e (Z0h n) (Nat.pow_le_pow_right (by decide) h);intro h;by_cases h0:n=0;subst h0;simp[Q0i];apply Nat.le_of_not_lt;intro hk;have h1:=K0x h0;have h2:2^k<=2^(Q0i n-1):=Nat.pow_le_pow_right (by decide) oG;omega
theorem w1p {n k:Nat}(h1:2^k<=n)(h2:n<2^(k+1)):Q0i n=k+1:=by have a:=bitlen_le_iff.2 h2;have b: ¬Q0i n<=k:=fun h=>(by have:=bitlen_le_iff.1 h;omega);omega
theorem X0z :Q0i 0=0:=rfl
theorem U0k {n:Nat}(h:n≠0):0<Q0i n:=by unfold Q0i;rw[if_neg h];omega
theorem U0p (n k:Nat)(h:n≠0):Q0i (n*2^k)=Q0i n+k:=by have h1:=K0x h;have h2:=Z0h n;have h3:=U0k h;have e:Q0i n+k=(Q0i n-1+k)+1:=oG;rw[e];apply w1p;rw[Nat.pow_add];exact Nat.mul_le_mul_right _ h1;rw[show Q0i n-1+k+1=Q0i n+k from oG,Nat.pow_add];exact Nat.mul_lt_mul_of_pos_right h2 (Nat.pow_pos (by decide))
theorem k0c (v k:Nat)(h:v/2^k≠0):Q0i v=Q0i (v/2^k)+k:=by have h1:=K0x h;have h2:=Z0h (v/2^k);have h3:=U0k h;have e:Q0i (v/2^k)+k=(Q0i (v/2^k)-1+k)+1:=oG;rw[e];apply w1p;rw[Nat.pow_add];exact Nat.le_trans (Nat.mul_le_mul_right _ h1) (Nat.div_mul_le_self v (2^k));rw[show Q0i (v/2^k)-1+k+1=Q0i (v/2^k)+k from oG,Nat.pow_add];exact(Nat.div_lt_iff_lt_mul (Nat.pow_pos (by decide))).1 h2
theorem Y1j (n:Nat)(h:n<18446744073709551616):Q0i n<=64:=bitlen_le_iff.2 h
theorem w1o (n:Nat)(h:n<4294967296):Q0i n<=32:=bitlen_le_iff.2 h
theorem H1c (a x k:Nat)(ha:a<2^k)(hx:x≠0):Q0i (a+2^k*x)=k+Q0i x:=by have hp:0<2^k:=Nat.pow_pos (by decide);have e:(a+2^k*x)/2^k=x:=(by rw[Nat.add_mul_div_left _ _ hp,Nat.div_eq_of_lt ha,Nat.zero_add]);rw[k0c _ k (by rw[e];exact hx),e,Nat.add_comm]
def cmpI (a b:Int):Int:=if a<b then -1 else if a>b then 1 else 0
def cmpW (a b:Nat):Int:=cmpI (a:Int) (b:Int)
theorem G0e {a b:Int}(h:a<b):cmpI a b= -1:=by rw[cmpI,if_pos h]
theorem G0f {a b:Int}(h:b<a):cmpI a b=1:=by rw[cmpI,if_neg oG,if_pos h]
theorem X1n {a b:Int}(h:a=b):cmpI a b=0:=by rw[cmpI,if_neg oG,if_neg oG]
theorem w1d (a b:Int):cmpI b a= -cmpI a b:=by unfold cmpI;by_cases h1:a<b;rw[if_pos h1,if_neg oG,if_pos oG];rfl;by_cases h2:b<a;rw[if_pos h2,if_neg h1,if_pos oG];rw[if_neg h2,if_neg oG,if_neg h1,if_neg oG];rfl
theorem w1e (a b:Int):cmpI (-a) (-b)= -cmpI a b:=by rw[<-w1d];unfold cmpI;by_cases h1:b<a;rw[if_pos h1,if_pos oG];rw[if_neg h1,if_neg oG];by_cases h2:b>a;rw[if_pos h2,if_pos oG];rw[if_neg h2,if_neg oG]
theorem v1u {B n m:Nat}(hB:2<=B)(h:n<=m):(digs B n).length<=(digs B m).length:=by apply U0o hB;have h2:=X2e (B:=B) oG _ (Z2g hB m);rw[H1j hB] at h2;omega
theorem w0q {B:Nat} : ∀(l m:List Nat) (i:Nat),(∀x∈l,x<B)->l.length=m.length->i<l.length->
 (∀j,i<j->j<l.length->l.getD j 0=m.getD j 0)->l.getD i 0<m.getD i 0->val B l<val B m
 | [],_,_,_,_,h,_,_=>by simp at h
 | x::l,[],_,_,h,_,_,_=>by simp at h
 | x::l,y::m,0,hl,hlen,_,heq,hlt=>by
  have e:l=m:=List.ext_getElem (by simpa using hlen) fun j h1 h2=>by have:=heq (j+1) oG (by simp;omega);simpa[q_a,h1,h2] using this
  subst e;simp only[val];have:x<y:=(by simpa using hlt);omega
 | x::l,y::m,i+1,hl,hlen,hi,heq,hlt=>by
  have ih:=w0q l m i (fun z hz=>hl z (List.mem_cons_of_mem _ hz)) (by simpa using hlen) (by simpa using hi)
   (fun j h1 h2=>by have:=heq (j+1) oG (by simp;omega);simpa using this) (by simpa using hlt)
  have hx:=hl x List.mem_cons_self;simp only[val];have:B*(val B l+1)<=B*val B m:=Nat.mul_le_mul_left _ ih;rw[Nat.mul_add] at this;omega
theorem y1d (B:Nat): ∀(l:List Nat) (i x:Nat),i<l.length->val B (l.set i x)+B^i*l.getD i 0=val B l+B^i*x
 | [],i,x,h=>by simp at h
 | y::l,0,x,h=>by simp[val];omega
 | y::l,i+1,x,h=>by have ih:=y1d B l i x (by simpa using h);simp only[List.set_cons_succ,val,List.getD_cons_succ,Nat.pow_succ];have:B*(val B (l.set i x)+B^i*l.getD i 0)=B*(val B l+B^i*x):=(by rw[ih]);rw[Nat.mul_add,Nat.mul_add] at this;rw[Nat.mul_comm (B^i) B,Nat.mul_assoc,Nat.mul_assoc];omega
theorem H0p (B n:Nat):val B (List.replicate n 0)=0:=by
 induction n with
 | zero=>rfl
 | succ n ih=>rw[List.replicate_succ,val,ih];simp
theorem x0a (l:List UInt64)(i:Nat):(nW l).getD i 0=(l.getD i 0).toNat:=by simp only[nW,q_a,List.getElem?_map];cases l[i]?<;>rfl
theorem V1q (l:List UInt32)(i:Nat):(nD l).getD i 0=(l.getD i 0).toNat:=by simp only[nD,q_a,List.getElem?_map];cases l[i]?<;>rfl
theorem H0q (l:List UInt64)(i:Nat)(c:UInt64)(h:i<l.length):valW (l.set i c)+18446744073709551616^i*(l.getD i 0).toNat=valW l+18446744073709551616^i*c.toNat:=by have:=y1d 18446744073709551616 (nW l) i c.toNat (by simpa[nW] using h);rw[x0a] at this;have e:(nW l).set i c.toNat=nW (l.set i c):=(by simp[nW,List.map_set]);rw[e] at this;exact this
theorem w0t (l:List UInt32)(i:Nat)(c:UInt32)(h:i<l.length):valD (l.set i c)+4294967296^i*(l.getD i 0).toNat=valD l+4294967296^i*c.toNat:=by have:=y1d 4294967296 (nD l) i c.toNat (by simpa[nD] using h);rw[V1q] at this;have e:(nD l).set i c.toNat=nD (l.set i c):=(by simp[nD,List.map_set]);rw[e] at this;exact this
theorem Z1a (n:Nat):valW (List.replicate n 0)=0:=by have:nW (List.replicate n 0)=List.replicate n 0:=(by simp[nW]);rw[valW,this,H0p]
theorem Z1b (n:Nat):valD (List.replicate n 0)=0:=by have:nD (List.replicate n 0)=List.replicate n 0:=(by simp[nD]);rw[valD,this,H0p]
theorem G2e (l:List UInt64)(c:UInt64):valW (l++ [c])=valW l+18446744073709551616^l.length*c.toNat:=by rw[V0n];simp[valW,nW,val]
theorem w0s (l:List UInt32)(c:UInt32):valD (l++ [c])=valD l+4294967296^l.length*c.toNat:=by rw[v0n];simp[valD,nD,val]
theorem x0z {α:Type}(l:List α)(i:Nat)(d:α)(h:i<l.length):l.take (i+1)=l.take i++ [l.getD i d]:=by rw[List.take_succ_eq_append_getElem h,q_a,List.getElem?_eq_getElem h];rfl
theorem X0e (l:List UInt64)(i:Nat)(h:i<l.length):valW (l.take (i+1))=valW (l.take i)+18446744073709551616^i*(l.getD i 0).toNat:=by rw[x0z l i 0 h,G2e,List.length_take,Nat.min_eq_left oG]
theorem K0z (l:List UInt32)(i:Nat)(h:i<l.length):valD (l.take (i+1))=valD (l.take i)+4294967296^i*(l.getD i 0).toNat:=by rw[x0z l i 0 h,w0s,List.length_take,Nat.min_eq_left oG]
theorem X0g {n k:Nat}(h:n<18446744073709551616^k):(Q0p n).length<=k:=by simp only[Q0p,List.length_map];exact U0o (by decide) k n h
theorem q0f {n k:Nat}(h:n<4294967296^k):(Q0g n).length<=k:=by simp only[Q0g,List.length_map];exact U0o (by decide) k n h
theorem Q1b (n:Nat):n<4294967296^(Q0g n).length:=by have:=x0v (Q0g n);rwa [Z0g] at this
theorem W0z {n m:Nat}(h:n<=m):(Q0p n).length<=(Q0p m).length:=by simp only[Q0p,List.length_map];exact v1u (by decide) h
theorem x0e {n m:Nat}(h:n<=m):(Q0g n).length<=(Q0g m).length:=by simp only[Q0g,List.length_map];exact v1u (by decide) h
theorem Z2k {a b:List UInt64}(ha:cutW a=a)(hb:cutW b=b)(h:a.length≠b.length):cmpI a.length b.length=cmpW (valW a) (valW b):=by rw[<-Z0a] at ha hb;have m1:valW a<=valW b->a.length<=b.length:=fun h=>(by have:=W0z h;rwa [ha,hb] at this);have m2:valW b<=valW a->b.length<=a.length:=fun h=>(by have:=W0z h;rwa [ha,hb] at this);by_cases hl:a.length<b.length;rw[G0e oG,cmpW,G0e];have: ¬valW b<=valW a:=fun h=>(by have:=m2 h;omega);omega;rw[G0f oG,cmpW,G0f];have: ¬valW a<=valW b:=fun h=>(by have:=m1 h;omega);omega
theorem Z2n {a b:Nat}(h:(Q0g a).length≠(Q0g b).length):cmpI (Q0g a).length (Q0g b).length=cmpW a b:=by have m1:a<=b->(Q0g a).length<=(Q0g b).length:=x0e;have m2:b<=a->(Q0g b).length<=(Q0g a).length:=x0e;by_cases hl:(Q0g a).length<(Q0g b).length;rw[G0e oG,cmpW,G0e];have: ¬b<=a:=fun h=>(by have:=m2 h;omega);omega;rw[G0f oG,cmpW,G0f];have: ¬a<=b:=fun h=>(by have:=m1 h;omega);omega
theorem z3u {a b:List UInt64}(hl:a.length=b.length)(i:Nat)(hi:i<a.length)(heq: ∀j,i<j->j<a.length->a.getD j 0=b.getD j 0)(hne:a.getD i 0≠b.getD i 0):
 cmpI (a.getD i 0).toNat (b.getD i 0).toNat=cmpW (valW a) (valW b):=by
 have hn:(a.getD i 0).toNat≠(b.getD i 0).toNat:=fun e=>hne (UInt64.toNat.inj e);have la:(nW a).length=a.length:=(by simp[nW]);have lb:(nW b).length=b.length:=(by simp[nW]);by_cases h:(a.getD i 0).toNat<(b.getD i 0).toNat;have:=w0q (nW a) (nW b) i (Z3p a) oG oG (fun j h1 h2=>by rw[x0a,x0a,heq j h1 oG]) (by rw[x0a,x0a];exact h);rw[G0e oG,cmpW,G0e];simp only[valW];omega;have:=w0q (nW b) (nW a) i (Z3p b) oG oG (fun j h1 h2=>by rw[x0a,x0a,heq j h1 oG]) (by rw[x0a,x0a];omega);rw[G0f oG,cmpW,G0f];simp only[valW];omega
theorem U1h {a b:List UInt32}(hl:a.length=b.length)(i:Nat)(hi:i<a.length)(heq: ∀j,i<j->j<a.length->a.getD j 0=b.getD j 0)(h:(a.getD i 0).toNat<(b.getD i 0).toNat):valD a<valD b:=by have la:(nD a).length=a.length:=(by simp[nD]);have lb:(nD b).length=b.length:=(by simp[nD]);exact w0q (nD a) (nD b) i (H3q a) oG oG (fun j h1 h2=>by rw[V1q,V1q,heq j h1 oG]) (by rw[V1q,V1q];exact h)
theorem z0i {α:Type}{a b:List α}(d:α)(hl:a.length=b.length)(h: ∀j,j<a.length->a.getD j d=b.getD j d):a=b:=
 List.ext_getElem hl fun j h1 h2=>by have:=h j h1;simpa[q_a,h1,h2] using this
theorem K0e {α:Type}(l:List α)(i j:Nat)(x d:α):(l.set i x).getD j d=if i=j/\j<l.length then x else l.getD j d:=by simp only[q_a,List.getElem?_set];by_cases h:i=j;subst h;by_cases h2:i<l.length;simp[h2];simp[h2];simp[h]
theorem V0c {α:Type}(n j:Nat)(x:α):(List.replicate n x).getD j x=x:=by simp only[q_a,List.getElem?_replicate];split<;>rfl
theorem x0m {a b:Nat}(h:((a:Int) !=(b:Int))=true):a≠b:=by intro e;subst e;simp at h
theorem H0b {a b:Nat}(h:((a:Int) !=(b:Int))=false):a=b:=by have:(a:Int)=b:=(by simpa using h);omega
theorem Y0o {a b:Nat}(h:((a:Int)==(b:Int))=true):a=b:=by have:(a:Int)=b:=(by simpa using h);omega
theorem H0z {a b:Nat}(h:((a:Int)==(b:Int))=false):a≠b:=by intro e;subst e;simp at h
theorem W0k {a b:Int}(h:(a !=b)=true):a≠b:=by intro e;subst e;simp at h
theorem W0y {a b:Int}(h:(a !=b)=false):a=b:=by simpa using h
theorem U2r {a b:Int}(h:(a==b)=true):a=b:=by simpa using h
theorem j3p {a b:Int}(h:(a==b)=false):a≠b:=by intro e;subst e;simp at h
end Go.Pv
end
