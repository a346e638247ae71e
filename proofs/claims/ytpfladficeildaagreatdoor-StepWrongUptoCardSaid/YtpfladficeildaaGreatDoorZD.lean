/- Walk. -/
import Derived.Test.YtpfladficeildaaGreatDoorZC
import Derived.Test.YtpfladficeildaaGreatDoorProg
import Derived.KernelRfl
set_option linter.all false
set_option maxHeartbeats 160000000
section
namespace Go.Proofs
open Go.Pv
@[go_sem] theorem Tryz.ti2 :ti Tryz.prog 2=some ⟨false,1,.int .i64,some (.int .i64 0)⟩:=by kernel_rfl
@[go_sem] theorem Tryz.ti3 :ti Tryz.prog 3=some ⟨false,1,.int .i64,some (.int .i64 0)⟩:=by kernel_rfl
@[go_sem] theorem Tryz.ti4 :ti Tryz.prog 4=some ⟨false,1,.bool,some (.bool false)⟩:=by kernel_rfl
@[go_sem] theorem Tryz.ti5 :ti Tryz.prog 5=some ⟨false,1,.int .u8,some (.int .u8 0)⟩:=by kernel_rfl
@[go_sem] theorem Tryz.ti9 :ti Tryz.prog 9=some ⟨false,1,.str,some (.string ByteArray.empty)⟩:=by kernel_rfl
@[go_sem] theorem Tryz.ti22 :ti Tryz.prog 22=some ⟨false,1,.slice ⟨40,1,8,false,true,false⟩,some (.slice none 0 0)⟩:=by kernel_rfl
@[go_sem] theorem Tryz.ti24 :ti Tryz.prog 24=some ⟨true,3,.struct [(0,⟨4,1,1,false,true,false⟩),(1,⟨2,1,8,false,true,false⟩),(2,⟨22,1,24,false,true,false⟩)],some (.agg #[.bool false,.int .i64 0,.slice none 0 0])⟩:=by kernel_rfl
@[go_sem] theorem Tryz.ti25 :ti Tryz.prog 25=some ⟨false,1,.slice ⟨24,3,40,true,true,false⟩,some (.slice none 0 0)⟩:=by kernel_rfl
@[go_sem] theorem Tryz.ti26 :ti Tryz.prog 26=some ⟨false,1,.slice ⟨25,1,24,false,true,false⟩,some (.slice none 0 0)⟩:=by kernel_rfl
@[go_sem] theorem Tryz.ti27 :ti Tryz.prog 27=some ⟨false,1,.slice ⟨45,6,80,true,true,false⟩,some (.slice none 0 0)⟩:=by kernel_rfl
@[go_sem] theorem Tryz.ti29 :ti Tryz.prog 29=some ⟨true,3,.struct [(0,⟨25,1,24,false,true,false⟩),(1,⟨26,1,24,false,true,false⟩),(2,⟨27,1,24,false,true,false⟩)],some (.agg #[.slice none 0 0,.slice none 0 0,.slice none 0 0])⟩:=by kernel_rfl
@[go_sem] theorem Tryz.ti31 :ti Tryz.prog 31=some ⟨true,10,.struct [(0,⟨3,1,8,false,true,false⟩),(1,⟨24,3,40,true,true,false⟩),(4,⟨24,3,40,true,true,false⟩),(7,⟨29,3,72,true,true,false⟩)],some (.agg #[.int .i64 0,.bool false,.int .i64 0,.slice none 0 0,.bool false,.int .i64 0,.slice none 0 0,.slice none 0 0,.slice none 0 0,.slice none 0 0])⟩:=by kernel_rfl
@[go_sem] theorem Tryz.ti35 :ti Tryz.prog 35=some ⟨false,1,.slice ⟨93,1,24,false,true,false⟩,some (.slice none 0 0)⟩:=by kernel_rfl
@[go_sem] theorem Tryz.ti37 :ti Tryz.prog 37=some ⟨true,14,.struct [(0,⟨35,1,24,false,true,false⟩),(1,⟨27,1,24,false,true,false⟩),(2,⟨24,3,40,true,true,false⟩),(5,⟨24,3,40,true,true,false⟩),(8,⟨24,3,40,true,true,false⟩),(11,⟨3,1,8,false,true,false⟩),(12,⟨3,1,8,false,true,false⟩),(13,⟨3,1,8,false,true,false⟩)],some (.agg #[.slice none 0 0,.slice none 0 0,.bool false,.int .i64 0,.slice none 0 0,.bool false,.int .i64 0,.slice none 0 0,.bool false,.int .i64 0,.slice none 0 0,.int .i64 0,.int .i64 0,.int .i64 0])⟩:=by kernel_rfl
@[go_sem] theorem Tryz.ti40 :ti Tryz.prog 40=some ⟨false,1,.int .u64,some (.int .u64 0)⟩:=by kernel_rfl
@[go_sem] theorem Tryz.ti41 :ti Tryz.prog 41=some ⟨false,1,.int .i64,some (.int .i64 0)⟩:=by kernel_rfl
@[go_sem] theorem Tryz.ti45 :ti Tryz.prog 45=some ⟨true,6,.struct [(0,⟨24,3,40,true,true,false⟩),(3,⟨24,3,40,true,true,false⟩)],some (.agg #[.bool false,.int .i64 0,.slice none 0 0,.bool false,.int .i64 0,.slice none 0 0])⟩:=by kernel_rfl
@[go_sem] theorem Tryz.ti49 :ti Tryz.prog 49=some ⟨true,9,.struct [(0,⟨3,1,8,false,true,false⟩),(1,⟨3,1,8,false,true,false⟩),(2,⟨24,3,40,true,true,false⟩),(5,⟨24,3,40,true,true,false⟩),(8,⟨27,1,24,false,true,false⟩)],some (.agg #[.int .i64 0,.int .i64 0,.bool false,.int .i64 0,.slice none 0 0,.bool false,.int .i64 0,.slice none 0 0,.slice none 0 0])⟩:=by kernel_rfl
@[go_sem] theorem Tryz.ti62 :ti Tryz.prog 62=some ⟨true,2,.struct [(0,⟨22,1,24,false,true,false⟩),(1,⟨3,1,8,false,true,false⟩)],some (.agg #[.slice none 0 0,.int .i64 0])⟩:=by kernel_rfl
@[go_sem] theorem Tryz.ti75 :ti Tryz.prog 75=some ⟨true,5,.struct [(0,⟨24,3,40,true,true,false⟩),(3,⟨27,1,24,false,true,false⟩),(4,⟨4,1,1,false,true,false⟩)],some (.agg #[.bool false,.int .i64 0,.slice none 0 0,.slice none 0 0,.bool false])⟩:=by kernel_rfl
@[go_sem] theorem Tryz.ti90 :ti Tryz.prog 90=some ⟨false,1,.slice ⟨3,1,8,false,true,false⟩,some (.slice none 0 0)⟩:=by kernel_rfl
@[go_sem] theorem Tryz.ti92 :ti Tryz.prog 92=some ⟨true,4,.struct [(0,⟨24,3,40,true,true,false⟩),(3,⟨90,1,24,false,true,false⟩)],some (.agg #[.bool false,.int .i64 0,.slice none 0 0,.slice none 0 0])⟩:=by kernel_rfl
@[go_sem] theorem Tryz.ti93 :ti Tryz.prog 93=some ⟨false,1,.slice ⟨92,4,64,true,true,false⟩,some (.slice none 0 0)⟩:=by kernel_rfl
@[go_sem] theorem Tryz.ti100 :ti Tryz.prog 100=some ⟨false,1,.slice ⟨142,1,4,false,true,false⟩,some (.slice none 0 0)⟩:=by kernel_rfl
@[go_sem] theorem Tryz.ti103 :ti Tryz.prog 103=some ⟨true,3,.struct [(0,⟨4,1,1,false,true,false⟩),(1,⟨100,1,24,false,true,false⟩),(2,⟨2,1,8,false,true,false⟩)],some (.agg #[.bool false,.slice none 0 0,.int .i64 0])⟩:=by kernel_rfl
@[go_sem] theorem Tryz.ti107 :ti Tryz.prog 107=some ⟨false,1,.int .u64,some (.int .u64 0)⟩:=by kernel_rfl
@[go_sem] theorem Tryz.ti109 :ti Tryz.prog 109=some ⟨false,1,.slice ⟨27,1,24,false,true,false⟩,some (.slice none 0 0)⟩:=by kernel_rfl
@[go_sem] theorem Tryz.ti123 :ti Tryz.prog 123=some ⟨false,1,.slice ⟨109,1,24,false,true,false⟩,some (.slice none 0 0)⟩:=by kernel_rfl
@[go_sem] theorem Tryz.ti142 :ti Tryz.prog 142=some ⟨false,1,.int .u32,some (.int .u32 0)⟩:=by kernel_rfl
@[go_sem] theorem Tryz.ti154 :ti Tryz.prog 154=some ⟨false,1,.other,some (.nilFunc)⟩:=by kernel_rfl
@[go_sem] theorem Tryz.ti159 :ti Tryz.prog 159=some ⟨true,6,.struct [(0,⟨35,1,24,false,true,false⟩),(1,⟨27,1,24,false,true,false⟩),(2,⟨24,3,40,true,true,false⟩),(5,⟨3,1,8,false,true,false⟩)],some (.agg #[.slice none 0 0,.slice none 0 0,.bool false,.int .i64 0,.slice none 0 0,.int .i64 0])⟩:=by kernel_rfl
@[go_sem] theorem Tryz.ti165 :ti Tryz.prog 165=some ⟨true,2,.struct [(0,⟨26,1,24,false,true,false⟩),(1,⟨109,1,24,false,true,false⟩)],some (.agg #[.slice none 0 0,.slice none 0 0])⟩:=by kernel_rfl
@[go_sem] theorem Tryz.ti174 :ti Tryz.prog 174=some ⟨false,1,.slice ⟨35,1,24,false,true,false⟩,some (.slice none 0 0)⟩:=by kernel_rfl
@[go_sem] theorem Tryz.ti196 :ti Tryz.prog 196=some ⟨false,1,.slice ⟨199,4,64,true,true,false⟩,some (.slice none 0 0)⟩:=by kernel_rfl
@[go_sem] theorem Tryz.ti199 :ti Tryz.prog 199=some ⟨true,4,.struct [(0,⟨103,3,40,true,true,false⟩),(3,⟨90,1,24,false,true,false⟩)],some (.agg #[.bool false,.slice none 0 0,.int .i64 0,.slice none 0 0])⟩:=by kernel_rfl
@[go_sem] theorem Tryz.ti214 :ti Tryz.prog 214=some ⟨true,5,.struct [(0,⟨174,1,24,false,true,false⟩),(1,⟨109,1,24,false,true,false⟩),(2,⟨3,1,8,false,true,false⟩),(3,⟨123,1,24,false,true,false⟩),(4,⟨123,1,24,false,true,false⟩)],some (.agg #[.slice none 0 0,.slice none 0 0,.int .i64 0,.slice none 0 0,.slice none 0 0])⟩:=by kernel_rfl
@[go_sem] theorem Tryz.ti221 :ti Tryz.prog 221=some ⟨false,1,.other,some (.nilFunc)⟩:=by kernel_rfl
@[go_sem] theorem Tryz.ti222 :ti Tryz.prog 222=some ⟨false,1,.slice ⟨221,1,8,false,true,false⟩,some (.slice none 0 0)⟩:=by kernel_rfl
@[go_sem] theorem Tryz.ti251 :ti Tryz.prog 251=some ⟨true,64,.arr 64 ⟨5,1,1,false,true,true⟩,some (.agg #[.int .u8 0,.int .u8 0,.int .u8 0,.int .u8 0,.int .u8 0,.int .u8 0,.int .u8 0,.int .u8 0,.int .u8 0,.int .u8 0,.int .u8 0,.int .u8 0,.int .u8 0,.int .u8 0,.int .u8 0,.int .u8 0,.int .u8 0,.int .u8 0,.int .u8 0,.int .u8 0,.int .u8 0,.int .u8 0,.int .u8 0,.int .u8 0,.int .u8 0,.int .u8 0,.int .u8 0,.int .u8 0,.int .u8 0,.int .u8 0,.int .u8 0,.int .u8 0,.int .u8 0,.int .u8 0,.int .u8 0,.int .u8 0,.int .u8 0,.int .u8 0,.int .u8 0,.int .u8 0,.int .u8 0,.int .u8 0,.int .u8 0,.int .u8 0,.int .u8 0,.int .u8 0,.int .u8 0,.int .u8 0,.int .u8 0,.int .u8 0,.int .u8 0,.int .u8 0,.int .u8 0,.int .u8 0,.int .u8 0,.int .u8 0,.int .u8 0,.int .u8 0,.int .u8 0,.int .u8 0,.int .u8 0,.int .u8 0,.int .u8 0,.int .u8 0])⟩:=by kernel_rfl
@[go_sem] theorem Tryz.ti285 :ti Tryz.prog 285=some ⟨true,3,.struct [(0,⟨26,1,24,false,true,false⟩),(1,⟨26,1,24,false,true,false⟩),(2,⟨3,1,8,false,true,false⟩)],some (.agg #[.slice none 0 0,.slice none 0 0,.int .i64 0])⟩:=by kernel_rfl
@[go_sem] theorem Tryz.ca286 :QH Tryz.prog 286=false:=by kernel_rfl
@[go_sem] theorem Tryz.ca288 :QH Tryz.prog 288=false:=by kernel_rfl
set_option maxRecDepth 100000 in
@[go_sem] theorem Tryz.caLt (f:Nat)(h:f<286)(k:1<f):QH Tryz.prog f=true:=(show∀f,f<286->1<f->QH Tryz.prog f=true by decide+kernel) f h k
set_option maxRecDepth 100000 in
@[go_sem] theorem Tryz.caAll :QH Tryz.prog 287=true/\QH Tryz.prog 294=true/\QH Tryz.prog 300=true/\QH Tryz.prog 301=true/\QH Tryz.prog 302=true/\QH Tryz.prog 303=true/\QH Tryz.prog 304=true/\QH Tryz.prog 305=true/\QH Tryz.prog 306=true/\QH Tryz.prog 309=true/\QH Tryz.prog 310=true/\QH Tryz.prog 312=true/\QH Tryz.prog 314=true/\QH Tryz.prog 318=true/\QH Tryz.prog 319=true/\QH Tryz.prog 320=true/\QH Tryz.prog 321=true/\QH Tryz.prog 322=true/\QH Tryz.prog 323=true/\QH Tryz.prog 324=true/\QH Tryz.prog 325=true/\QH Tryz.prog 326=true/\QH Tryz.prog 327=true/\QH Tryz.prog 337=true/\QH Tryz.prog 338=true/\QH Tryz.prog 339=true/\QH Tryz.prog 340=true/\QH Tryz.prog 341=true/\QH Tryz.prog 342=true/\QH Tryz.prog 344=true/\QH Tryz.prog 345=true/\QH Tryz.prog 346=true/\QH Tryz.prog 348=true/\QH Tryz.prog 349=true/\QH Tryz.prog 350=true/\QH Tryz.prog 353=true/\QH Tryz.prog 357=true/\QH Tryz.prog 358=true/\QH Tryz.prog 359=true/\QH Tryz.prog 360=true/\QH Tryz.prog 362=true/\QH Tryz.prog 363=true/\QH Tryz.prog 364=true/\QH Tryz.prog 365=true/\QH Tryz.prog 366=true:=by and_intros<;>kernel_rfl
abbrev Qi (f:Func):List ResultVar:=f.results.toList
namespace Tryz
set_option maxRecDepth 100000 in
@[go_sem] theorem K2e :Qi f3= [.tmp 6]/\Qi f4= [.tmp 0]/\Qi f5= [.tmp 2]/\Qi f6= [.cell 2 37]/\Qi f7= [.cell 4 31]/\Qi f8= [.cell 4 24,.tmp 5]/\Qi f9= [.cell 2 45]/\Qi f10= [.cell 4 29]/\Qi f11= [.cell 4 49,.cell 5 31,.tmp 6]/\Qi f12= [.cell 4 49,.cell 5 31,.tmp 6]/\Qi f13= [.tmp 4]/\Qi f14= [.tmp 4]/\Qi f15= [.tmp 4]/\Qi f16= [.tmp 4]/\Qi f17= [.tmp 4]/\Qi f18= [.tmp 4]/\Qi f19= [.cell 2 37]/\Qi f20= [.cell 2 31,.tmp 3]/\Qi f21= [.tmp 2]/\Qi f22= [.tmp 4]/\Qi f23= [.tmp 4]/\Qi f24= [.cell 4 37]/\Qi f25= [.tmp 8]/\Qi f26= [.tmp 4]/\Qi f27= [.cell 2 31,.tmp 3]/\Qi f28= [.tmp 4]/\Qi f29= [.cell 4 24,.tmp 5]/\Qi f30= [.tmp 2]/\Qi f31= [.cell 2 24,.tmp 3]/\Qi f32= [.cell 4 45]/\Qi f33= [.tmp 4]/\Qi f34= [.cell 2 24]/\Qi f35= [.cell 2 24]/\Qi f36= [.cell 2 24]/\Qi f37= [.tmp 4,.tmp 5]/\Qi f38= [.cell 6 75,.tmp 7]/\Qi f39= [.cell 8 31,.tmp 9]/\Qi f42= [.cell 6 24,.tmp 7]/\Qi f43= [.tmp 4]/\Qi f45= [.tmp 2]/\Qi f46= [.tmp 6]/\Qi f47= [.tmp 2]/\Qi f48= [.tmp 2]/\Qi f49= [.tmp 2]/\Qi f50= [.tmp 2]/\Qi f51= [.tmp 4]/\Qi f52= [.tmp 4]/\Qi f53= [.tmp 4]/\Qi f54= [.tmp 4]/\Qi f55= [.cell 4 29,.tmp 5]/\Qi f56= [.tmp 4]/\Qi f57= [.cell 6 24]/\Qi f58= [.tmp 4]/\Qi f59= [.cell 2 24]/\Qi f60= [.tmp 8]/\Qi f61= [.tmp 2]/\Qi f62= [.cell 4 29,.tmp 5]/\Qi f63= [.tmp 2]/\Qi f64= [.cell 2 24,.tmp 3]/\Qi f65= [.tmp 2]/\Qi f66= [.cell 6 24,.tmp 7]/\Qi f67= [.cell 2 24]/\Qi f68= [.tmp 2]/\Qi f69= [.tmp 6,.tmp 7]/\Qi f70= [.tmp 2]/\Qi f71= [.tmp 6,.tmp 7]/\Qi f72= [.tmp 2]/\Qi f73= [.cell 4 24,.tmp 5]/\Qi f74= [.tmp 8,.tmp 9]/\Qi f75= [.tmp 6,.tmp 7]/\Qi f76= [.tmp 6,.tmp 7]/\Qi f77= [.cell 8 29,.tmp 9]/\Qi f78= [.cell 4 24,.tmp 5]/\Qi f79= [.cell 4 24,.tmp 5]/\Qi f83= [.tmp 2]/\Qi f85= [.cell 2 45]/\Qi f89= [.cell 6 103]/\Qi f90= [.cell 2 103]/\Qi f91= [.tmp 4]/\Qi f92= [.tmp 2]/\Qi f93= [.tmp 2]/\Qi f94= [.tmp 2]/\Qi f95= [.tmp 6]/\Qi f96= [.tmp 4]/\Qi f97= [.tmp 4]/\Qi f98= [.tmp 2]/\Qi f99= [.tmp 2]/\Qi f100= [.tmp 2]/\Qi f101= [.tmp 2]/\Qi f102= [.tmp 4]/\Qi f103= [.tmp 4]/\Qi f104= [.tmp 4]/\Qi f105= [.tmp 4]/\Qi f106= [.tmp 4,.tmp 5]/\Qi f107= [.tmp 6,.tmp 7]/\Qi f108= [.tmp 2]/\Qi f109= [.cell 6 24,.tmp 7]/\Qi f110= [.tmp 4,.tmp 5]/\Qi f111= [.tmp 8]/\Qi f112= [.tmp 4,.tmp 5]/\Qi f113= [.tmp 8,.tmp 9]/\Qi f114= [.tmp 2]/\Qi f115= [.tmp 2]/\Qi f116= [.tmp 2]/\Qi f117= [.tmp 2]/\Qi f118= [.tmp 2]/\Qi f119= [.tmp 2]/\Qi f120= [.tmp 4]/\Qi f121= [.tmp 6]/\Qi f122= [.cell 6 45,.tmp 7]/\Qi f123= [.cell 4 45,.cell 5 45]/\Qi f124= [.tmp 6,.tmp 7]/\Qi f125= [.cell 5 45,.tmp 6]/\Qi f126= [.cell 6 45,.tmp 7]/\Qi f127= [.cell 6 24,.tmp 7]/\Qi f128= [.cell 4 24]/\Qi f129= [.tmp 2]/\Qi f130= [.tmp 4]/\Qi f131= [.tmp 10]/\Qi f132= [.tmp 8,.tmp 9]/\Qi f133= [.tmp 6,.tmp 7]/\Qi f134= [.tmp 8,.tmp 9]/\Qi f135= [.tmp 6,.tmp 7]/\Qi f136= [.tmp 2]/\Qi f137= [.tmp 6,.tmp 7]/\Qi f138= [.cell 4 165,.tmp 5]/\Qi f139= [.tmp 10,.tmp 11]/\Qi f140= [.cell 4 24]/\Qi f149= [.cell 8 45,.tmp 9]/\Qi f155= [.tmp 2]/\Qi f161= [.cell 4 103]/\Qi f162= [.cell 4 103]/\Qi f164= [.tmp 2]/\Qi f165= [.tmp 4]/\Qi f166= [.tmp 2]/\Qi f167= [.tmp 2]/\Qi f168= [.tmp 4]/\Qi f169= [.tmp 6]/\Qi f170= [.tmp 4]/\Qi f171= [.tmp 2]/\Qi f172= [.tmp 4]/\Qi f173= [.tmp 4]/\Qi f174= [.tmp 4,.tmp 5]/\Qi f175= [.cell 5 24,.tmp 6]/\Qi f176= [.cell 4 24,.tmp 5]/\Qi f177= [.cell 5 45,.tmp 6]/\Qi f178= [.cell 6 45,.tmp 7]/\Qi f179= [.cell 2 24]/\Qi f180= [.tmp 2]/\Qi f181= [.cell 6 103]/\Qi f182= [.tmp 4]/\Qi f183= [.tmp 2,.tmp 3]/\Qi f184= [.tmp 6]/\Qi f185= [.tmp 2]/\Qi f186= [.cell 4 24,.tmp 5]/\Qi f187= [.tmp 2]/\Qi f188= [.tmp 2]/\Qi f189= [.cell 6 45,.tmp 7]/\Qi f190= [.tmp 4,.tmp 5]/\Qi f191= [.cell 6 45,.tmp 7]/\Qi f192= [.tmp 6]/\Qi f193= [.cell 6 45,.tmp 7]/\Qi f194= [.cell 2 24]/\Qi f195= []/\Qi f196= [.tmp 4,.tmp 5]/\Qi f197= [.tmp 6,.tmp 7]/\Qi f198= [.tmp 4]/\Qi f199= [.tmp 10,.tmp 11]/\Qi f200= [.cell 4 45,.tmp 5]/\Qi f201= [.cell 7 45,.tmp 8]/\Qi f202= [.cell 8 45,.tmp 9]/\Qi f203= [.cell 6 45,.tmp 7]/\Qi f204= [.cell 6 45,.tmp 7]/\Qi f205= [.tmp 2,.tmp 3]/\Qi f206= [.tmp 2]/\Qi f207= [.tmp 4]/\Qi f208= [.tmp 6,.tmp 7]/\Qi f209= [.tmp 6,.tmp 7]/\Qi f210= [.tmp 4,.tmp 5]/\Qi f211= [.cell 7 45,.tmp 8]/\Qi f212= [.cell 6 45,.cell 7 45]/\Qi f213= [.cell 2 165,.tmp 3]/\Qi f214= [.tmp 4,.tmp 5]/\Qi f215= [.tmp 4,.tmp 5]/\Qi f216= [.tmp 4,.tmp 5]/\Qi f217= [.cell 1 165,.tmp 2]/\Qi f218= [.tmp 4]/\Qi f219= [.tmp 4]/\Qi f220= [.tmp 4,.tmp 5]/\Qi f229= [.tmp 2]/\Qi f230= [.cell 4 45,.tmp 5]/\Qi f231= [.cell 6 103]/\Qi f241= [.tmp 4]/\Qi f242= [.tmp 4]/\Qi f243= [.tmp 4]/\Qi f244= [.tmp 4]/\Qi f245= [.cell 2 103]/\Qi f247= [.tmp 4]/\Qi f248= [.tmp 4]/\Qi f249= [.cell 2 24]/\Qi f250= [.tmp 4]/\Qi f251= [.tmp 2]/\Qi f252= [.tmp 4]/\Qi f253= [.tmp 4]/\Qi f254= [.cell 4 24]/\Qi f255= [.cell 6 24]/\Qi f256= [.cell 2 24]/\Qi f257= [.tmp 4,.tmp 5]/\Qi f258= [.cell 4 24]/\Qi f259= []/\Qi f260= [.cell 4 24]/\Qi f261= [.cell 6 24,.tmp 7]/\Qi f262= [.tmp 4,.tmp 5]/\Qi f263= [.tmp 4,.tmp 5]/\Qi f264= [.tmp 6]/\Qi f265= [.tmp 6,.tmp 7]/\Qi f266= [.tmp 6,.tmp 7]/\Qi f267= [.tmp 4]/\Qi f268= [.tmp 4]/\Qi f269= [.tmp 8,.tmp 9]/\Qi f271= [.cell 8 24,.tmp 9]/\Qi f272= [.cell 6 45,.tmp 7]/\Qi f273= [.tmp 6,.tmp 7]/\Qi f274= [.cell 4 45,.tmp 5]/\Qi f275= [.tmp 4]/\Qi f276= [.cell 8 45,.tmp 9]/\Qi f277= [.cell 7 45,.tmp 8]/\Qi f278= [.cell 7 45,.tmp 8]/\Qi f279= [.tmp 2]/\Qi f280= [.tmp 6,.tmp 7]/\Qi f281= [.tmp 4,.tmp 5]/\Qi f282= [.cell 6 24,.tmp 7]/\Qi f283= [.cell 6 24,.tmp 7]/\Qi f284= [.cell 8 24,.tmp 9]/\Qi f285= [.cell 8 24,.tmp 9]/\Qi f287= [.tmp 2]/\Qi f294= [.tmp 2]/\Qi f300= [.tmp 4]/\Qi f301= [.tmp 4]/\Qi f302= [.tmp 2]/\Qi f303= [.tmp 4]/\Qi f304= [.cell 6 24]/\Qi f305= [.tmp 2]/\Qi f306= [.tmp 4]/\Qi f307= [.cell 4 45,.tmp 5]/\Qi f308= [.cell 5 45,.tmp 6]/\Qi f309= [.cell 4 45,.tmp 5]/\Qi f310= [.cell 6 45,.tmp 7]/\Qi f311= [.cell 6 45,.tmp 7]/\Qi f312= [.tmp 8,.tmp 9]/\Qi f314= [.cell 6 24]/\Qi f318= [.tmp 2,.tmp 3]/\Qi f319= [.tmp 2]/\Qi f320= [.tmp 2]/\Qi f321= [.tmp 2]/\Qi f322= [.tmp 4]/\Qi f323= [.tmp 6,.tmp 7]/\Qi f324= [.cell 4 24,.tmp 5]/\Qi f325= [.cell 8 24,.tmp 9]/\Qi f326= [.cell 10 24,.tmp 11]/\Qi f327= [.tmp 2]/\Qi f337= [.tmp 2]/\Qi f338= [.tmp 3]/\Qi f339= [.tmp 4,.tmp 5]/\Qi f340= [.cell 8 45]/\Qi f341= [.cell 4 24,.tmp 5]/\Qi f342= [.tmp 4]/\Qi f343= [.tmp 2]/\Qi f344= [.cell 6 45,.tmp 7]/\Qi f345= [.cell 8 45,.cell 9 41]/\Qi f346= [.tmp 4,.tmp 5,.tmp 6]/\Qi f348= [.cell 2 24]/\Qi f349= [.tmp 4]/\Qi f350= [.tmp 6]/\Qi f352= [.cell 7 45,.tmp 8]/\Qi f353= [.cell 2 24]/\Qi f357= [.tmp 4]/\Qi f358= [.cell 6 45,.tmp 7]/\Qi f359= [.tmp 6]/\Qi f360= [.tmp 4,.tmp 5]/\Qi f362= [.cell 2 24]/\Qi f363= [.cell 4 24]/\Qi f364= []/\Qi f365= [.tmp 6,.tmp 7]/\Qi f366= [.tmp 2]:=by and_intros<;>rfl
end Tryz
namespace Tryz
attribute [go_sem] ntmps3 ntmps4 ntmps5 ntmps6 ntmps7 ntmps8 ntmps9 ntmps10 ntmps11 ntmps12 ntmps13 ntmps14 ntmps15 ntmps16 ntmps17 ntmps18 ntmps19 ntmps20 ntmps21 ntmps22 ntmps23 ntmps24 ntmps25 ntmps26 ntmps27 ntmps28 ntmps29 ntmps30 ntmps31 ntmps32 ntmps33 ntmps34 ntmps35 ntmps36 ntmps37 ntmps38 ntmps39 ntmps42 ntmps43 ntmps45 ntmps46 ntmps47 ntmps48 ntmps49 ntmps50 ntmps51 ntmps52 ntmps53 ntmps54 ntmps55 ntmps56 ntmps57 ntmps58 ntmps59 ntmps60 ntmps61 ntmps62 ntmps63 ntmps64 ntmps65 ntmps66 ntmps67 ntmps68 ntmps69 ntmps70 ntmps71 ntmps72 ntmps73 ntmps74 ntmps75 ntmps76 ntmps77 ntmps78 ntmps79 ntmps83 ntmps85 ntmps89 ntmps90 ntmps91 ntmps92 ntmps93 ntmps94 ntmps95 ntmps96 ntmps97 ntmps98 ntmps99 ntmps100 ntmps101 ntmps102 ntmps103 ntmps104 ntmps105 ntmps106 ntmps107 ntmps108 ntmps109 ntmps110 ntmps111 ntmps112 ntmps113 ntmps114 ntmps115 ntmps116 ntmps117 ntmps118 ntmps119 ntmps120 ntmps121 ntmps122 ntmps123 ntmps124 ntmps125 ntmps126 ntmps127 ntmps128 ntmps129 ntmps130 ntmps131 ntmps132 ntmps133 ntmps134 ntmps135 ntmps136 ntmps137 ntmps138 ntmps139 ntmps140 ntmps149 ntmps155 ntmps161 ntmps162 ntmps164 ntmps165 ntmps166 ntmps167 ntmps168 ntmps169 ntmps170 ntmps171 ntmps172 ntmps173 ntmps174 ntmps175 ntmps176 ntmps177 ntmps178 ntmps179 ntmps180 ntmps181 ntmps182 ntmps183 ntmps184 ntmps185 ntmps186 ntmps187 ntmps188 ntmps189 ntmps190 ntmps191 ntmps192 ntmps193 ntmps194 ntmps195 ntmps196 ntmps197 ntmps198 ntmps199 ntmps200 ntmps201 ntmps202 ntmps203 ntmps204 ntmps205 ntmps206 ntmps207 ntmps208 ntmps209 ntmps210 ntmps211 ntmps212 ntmps213 ntmps214 ntmps215 ntmps216 ntmps217 ntmps218 ntmps219 ntmps220 ntmps229 ntmps230 ntmps231 ntmps241 ntmps242 ntmps243 ntmps244 ntmps245 ntmps247 ntmps248 ntmps249 ntmps250 ntmps251 ntmps252 ntmps253 ntmps254 ntmps255 ntmps256 ntmps257 ntmps258 ntmps259 ntmps260 ntmps261 ntmps262 ntmps263 ntmps264 ntmps265 ntmps266 ntmps267 ntmps268 ntmps269 ntmps271 ntmps272 ntmps273 ntmps274 ntmps275 ntmps276 ntmps277 ntmps278 ntmps279 ntmps280 ntmps281 ntmps282 ntmps283 ntmps284 ntmps285 ntmps287 ntmps294 ntmps300 ntmps301 ntmps302 ntmps303 ntmps304 ntmps305 ntmps306 ntmps307 ntmps308 ntmps309 ntmps310 ntmps311 ntmps312 ntmps314 ntmps318 ntmps319 ntmps320 ntmps321 ntmps322 ntmps323 ntmps324 ntmps325 ntmps326 ntmps327 ntmps337 ntmps338 ntmps339 ntmps340 ntmps341 ntmps342 ntmps343 ntmps344 ntmps345 ntmps346 ntmps348 ntmps349 ntmps350 ntmps352 ntmps353 ntmps357 ntmps358 ntmps359 ntmps360 ntmps362 ntmps363 ntmps364 ntmps365 ntmps366
end Tryz
end Go.Proofs
namespace Go.Pv
open Go.Proofs
abbrev PR (f:FuncId) (args:List PV) (st:Qc) (R:PV):Prop:=PCalls Tryz.prog f args st (fun r st'=>r=R/\st'=st)
end Go.Pv
namespace Go.Proofs
end Go.Proofs
end
section
namespace Go.Pv
theorem jT {α:Type}{P:List α->Prop}(nil:P [])(snoc: ∀l x,P l->P (l++ [x]))(l:List α):P l:=by
 have: ∀r:List α,P r.reverse:=fun r=>by
  induction r with
  | nil=>exact nil
  | cons x r ih=>rw[FZ];exact snoc _ _ ih
 have h:=this l.reverse;rwa [List.reverse_reverse] at h
def val (B:Nat):List Nat->Nat
 | []=>0
 | x::l=>x+B*val B l
def J7 (B:Nat)(n:Nat):List Nat:=if h:n=0\/B<2 then [] else n % B::J7 B (n/B)
termination_by n
decreasing_by exact Nat.div_lt_self oG oG
theorem Wg (B:Nat):J7 B 0= []:=by rw[J7,dif_pos (.inl rfl)]
theorem H3 {B n:Nat}(hB:2<=B)(h:n≠0):J7 B n=n % B::J7 B (n/B):=by rw[J7,dif_neg oG]
theorem jm {B:Nat}(hB:2<=B)(n:Nat):val B (J7 B n)=n:=by
 induction n using Nat.strongRecOn with
 | _ n ih=>
  by_cases h:n=0;subst h;simp[Wg,val];rw[H3 hB h,val,ih _ (Nat.div_lt_self oG oG)];exact FH n B
theorem wY {B:Nat}(hB:2<=B)(n:Nat): ∀x∈J7 B n,x<B:=by
 induction n using Nat.strongRecOn with
 | _ n ih=>
  by_cases h:n=0;subst h;simp[Wg];rw[H3 hB h];intro x hx;rcases D8.1 hx with rfl | hx;exact CG _ oG;exact ih _ (Nat.div_lt_self oG oG) x hx
def Ws (l:List Nat):List Nat:=(l.reverse.dropWhile (· ==0)).reverse
theorem HP (l:Ln)(x:Nat):Ws (l++ [x])=if x=0 then Ws l else l++ [x]:=by unfold Ws;rw[FR];simp only[FZ,List.reverse_nil,CQ,FK,List.dropWhile_cons];by_cases h:x=0<;>simp[h]
theorem Cz :Ws []= []:=rfl
theorem Bu (B:Nat)(l m:Ln):val B (l++m)=val B l+B^l.length*val B m:=by
 induction l with
 | nil=>simp[val]
 | cons x l ih=>
  simp only[EG,val,ih,C1,B5,CE];rw[BM (B^l.length) B,BW];omega
theorem qI {B:Nat}(hB:0<B): ∀l:List Nat,(∀x∈l,x<B)->val B l<B^l.length
 | [],_=>by simp[val]
 | x::l,h=>by have h1:=qI hB l fun y hy=>h y (DL _ hy);have h2:=h x (DG);simp only[val,C1,B5];have:B*(val B l+1)<=B*B^l.length:=DP _ h1;rw[BM (B^l.length) B];rw[CE] at this;omega
theorem z0f (x:Nat)(l:Ln):Ws (x::l)=if Ws l= [] then(if x=0 then [] else [x]) else x::Ws l:=by
 induction l using jT with
 | nil=>
  have:=HP [] x;simpa[Cz] using this
 | snoc l y ih=>
  have e:x::(l++ [y])=(x::l)++ [y]:=rfl;rw[e,HP,HP];by_cases h:y=0;simp[h,ih];simp[h]
theorem wW {B:Nat}(hB:2<=B): ∀l:List Nat,(∀x∈l,x<B)->J7 B (val B l)=Ws l
 | [],_=>by simp[val,Wg,Cz]
 | x::l,h=>by
  have ih:=wW hB l fun y hy=>h y (DL _ hy);have h2:=h x (DG);rw[z0f,<-ih,val];by_cases hv:val B l=0;rw[hv,Wg];simp only[DQ,B1,D4];by_cases hx:x=0;rw[BC hx,hx,Wg];rw[BA hx,H3 hB hx,BJ h2,CP h2,Wg];have hne:x+B*val B l≠0:=by have:0<B*val B l:=Nat.mul_pos oG oG;omega
  rw[H3 hB hne,BA (by rw[H3 hB hv];simp),D7,BJ h2,EU _ _ oG,CP h2,CU]
theorem xI {B:Nat}(hB:2<=B)(k:Nat): ∀n,n<B^k->(J7 B n).length<=k:=by
 induction k with
 | zero=>intro n h;have:n=0:=by simpa using h
         subst this;simp[Wg]
 | succ k ih=>
  intro n h;by_cases h0:n=0;subst h0;simp[Wg];rw[H3 hB h0,C1];have:=ih (n/B) (by rw[DV oG];rw[B5] at h;exact h);omega
def nW (l:List UInt64):List Nat:=l.map UInt64.toNat
def Qd (l:List UInt64):Nat:=val 18446744073709551616 (nW l)
def QB (n:Nat):List UInt64:=(J7 18446744073709551616 n).map UInt64.ofNat
def nD (l:List UInt32):List Nat:=l.map UInt32.toNat
def Qz (l:List UInt32):Nat:=val 4294967296 (nD l)
def Qs (n:Nat):List UInt32:=(J7 4294967296 n).map UInt32.ofNat
def QM (l:List UInt64):List UInt64:=(l.reverse.dropWhile (· ==0)).reverse
def Kn (l:List UInt32):List UInt32:=(l.reverse.dropWhile (· ==0)).reverse
theorem xe (l:Lu): ∀x∈nW l,x<18446744073709551616:=by intro x hx;obtain⟨c,_,rfl⟩:=CF.1 hx;exact BT c
theorem vj (l:Ls): ∀x∈nD l,x<4294967296:=by intro x hx;obtain⟨c,_,rfl⟩:=CF.1 hx;exact CH c
theorem W0m (l:Lu)(x:UInt64):QM (l++ [x])=if x=0 then QM l else l++ [x]:=by unfold QM;rw[FR];simp only[FZ,List.reverse_nil,CQ,FK,List.dropWhile_cons];by_cases h:x=0<;>simp[h]
theorem W0n (l:Ls)(x:UInt32):Kn (l++ [x])=if x=0 then Kn l else l++ [x]:=by unfold Kn;rw[FR];simp only[FZ,List.reverse_nil,CQ,FK,List.dropWhile_cons];by_cases h:x=0<;>simp[h]
theorem qS (x:UInt64):x=0<->x.toNat=0:=⟨fun h=>by rw[h];rfl,fun h=>FE h⟩
theorem G1 (x:UInt32):x=0<->x.toNat=0:=⟨fun h=>by rw[h];rfl,fun h=>UInt32.toNat.inj h⟩
theorem V1t (l:Lu):nW (QM l)=Ws (nW l):=by
 induction l using jT with
 | nil=>rfl
 | snoc l x ih=>
  rw[W0m];have e:nW (l++ [x])=nW l++ [x.toNat]:=(by simp[nW]);rw[e,HP];by_cases h:x=0;rw[BC h,BC ((qS x).1 h),ih];rw[BA h,BA (fun e=>h ((qS x).2 e)),e]
theorem V1v (l:Ls):nD (Kn l)=Ws (nD l):=by
 induction l using jT with
 | nil=>rfl
 | snoc l x ih=>
  rw[W0n];have e:nD (l++ [x])=nD l++ [x.toNat]:=(by simp[nD]);rw[e,HP];by_cases h:x=0;rw[BC h,BC ((G1 x).1 h),ih];rw[BA h,BA (fun e=>h ((G1 x).2 e)),e]
theorem K1k (l:Lu):(nW l).map UInt64.ofNat=l:=by
 simp only[nW,DZ]
 conv=>rhs;rw[<-List.map_id l]
 exact C4 fun a _=>by simp
theorem K1l (l:Ls):(nD l).map UInt32.ofNat=l:=by
 simp only[nD,DZ]
 conv=>rhs;rw[<-List.map_id l]
 exact C4 fun a _=>by simp
theorem Xx (l:Lu):QB (Qd l)=QM l:=by rw[QB,Qd,wW (by decide) _ (xe l),<-V1t,K1k]
theorem H4 (l:Ls):Qs (Qz l)=Kn l:=by rw[Qs,Qz,wW (by decide) _ (vj l),<-V1v,K1l]
theorem V1s (n:Nat):nW (QB n)=J7 18446744073709551616 n:=by
 simp only[nW,QB,DZ]
 conv=>rhs;rw[<-List.map_id (J7 _ n)]
 exact C4 fun a ha=>by have:=wY (B:=18446744073709551616) (by decide) n a ha;simp only[Function.comp,id];rw[FC];omega
theorem V1u (n:Nat):nD (Qs n)=J7 4294967296 n:=by
 simp only[nD,Qs,DZ]
 conv=>rhs;rw[<-List.map_id (J7 _ n)]
 exact C4 fun a ha=>by have:=wY (B:=4294967296) (by decide) n a ha;simp only[Function.comp,id];rw[UInt32.toNat_ofNat'];omega
theorem Jf (n:Nat):Qd (QB n)=n:=by rw[Qd,V1s,jm (by decide)]
theorem Ka (n:Nat):Qz (Qs n)=n:=by rw[Qz,V1u,jm (by decide)]
theorem KS (l:Lu):Qd (QM l)=Qd l:=by rw[<-Xx,Jf]
theorem IU (n:Nat):QM (QB n)=QB n:=by rw[<-Xx,Jf]
theorem yg (n:Nat):Kn (Qs n)=Qs n:=by rw[<-H4,Ka]
theorem Vv :Qd []=0:=rfl
theorem Gy :Qz []=0:=rfl
theorem Wq :QB 0= []:=by simp[QB,Wg]
theorem VA :Qs 0= []:=by simp[Qs,Wg]
theorem wordsOf_nil {n:Nat} :QB n= []<->n=0:=⟨fun h=>by rw[<-Jf n,h,Vv],fun h=>by rw[h,Wq]⟩
theorem digitsOf_nil {n:Nat} :Qs n= []<->n=0:=⟨fun h=>by rw[<-Ka n,h,Gy],fun h=>by rw[h,VA]⟩
theorem HK (l m:Lu):Qd (l++m)=Qd l+18446744073709551616^l.length*Qd m:=by have e:nW (l++m)=nW l++nW m:=(by simp[nW]);rw[Qd,e,Bu];simp[Qd,nW]
theorem jp (l m:Ls):Qz (l++m)=Qz l+4294967296^l.length*Qz m:=by have e:nD (l++m)=nD l++nD m:=(by simp[nD]);rw[Qz,e,Bu];simp[Qz,nD]
theorem Jg (l:Lu):Qd l<18446744073709551616^l.length:=by have:=qI (B:=18446744073709551616) (by decide) _ (xe l);simpa[Qd,nW] using this
theorem Gz (l:Ls):Qz l<4294967296^l.length:=by have:=qI (B:=4294967296) (by decide) _ (vj l);simpa[Qz,nD] using this
theorem Km (l:Lu):(QM l).length<=l.length:=by unfold QM;rw[List.length_reverse];have:=(List.dropWhile_sublist (· ==(0:UInt64)) (l:=l.reverse)).length_le;simpa using this
theorem k1t (l:Ls):(Kn l).length<=l.length:=by unfold Kn;rw[List.length_reverse];have:=(List.dropWhile_sublist (· ==(0:UInt32)) (l:=l.reverse)).length_le;simpa using this
theorem yc (l:Lu)(h:l≠ []):(QM l).length=l.length<->l.getD (l.length-1) 0≠0:=by obtain⟨i,x,rfl⟩: ∃i x,l=i++ [x]:=⟨l.dropLast,l.getLast h,(List.dropLast_concat_getLast h).symm⟩;rw[W0m];have e:(i++ [x]).getD ((i++ [x]).length-1) 0=x:=(by simp[q_a]);rw[e];have:=Km i;by_cases hx:x=0;simp[hx];omega;simp[hx]
theorem k1s (l:Lu)(h:QM l≠ []):(QM l).getD ((QM l).length-1) 0≠0:=by rw[<-yc _ h];congr 1;rw[<-Xx l,IU]
theorem V0w {α:Type}(p:α->Bool)(l:List α)(n:Nat)(d:α)(hn:n<=l.length)(hz: ∀j,n<=j->j<l.length->p (l.getD j d)=true)(hl:n=0\/p (l.getD (n-1) d)=false):(l.reverse.dropWhile p).reverse=l.take n:=by
 have e:l=l.take n++l.drop n:=(List.take_append_drop n l).symm;have hd: ∀x∈(l.drop n).reverse,p x=true:=fun x hx=>by rw[List.mem_reverse] at hx;obtain⟨j,hj,rfl⟩:=CM.1 hx;rw[DM] at hj;have:=hz (n+j) oG oG;rw[q_a,BB oG] at this;simp only[D9] at this;rw[List.getElem_drop,this]
 conv=>lhs;rw[e]
 rw[FR,List.dropWhile_append_of_pos hd];rcases hl with rfl | hl;simp;by_cases h0:n=0;subst h0;simp;have hne:l.take n=l.take (n-1)++ [l.getD (n-1) d]:=by have h1:n-1<l.length:=oG;have:=FV h1;rw[show n-1+1=n from oG] at this;rw[this,q_a,BB h1];rfl
 rw[hne,FR];simp only[FZ,List.reverse_nil,CQ,FK];rw[List.dropWhile_cons_of_neg (by simpa using hl)];simp
theorem yd (l:Lu)(n:Nat)(hn:n<=l.length)(hz: ∀j,n<=j->j<l.length->l.getD j 0=0)(hl:n=0\/l.getD (n-1) 0≠0):QM l=l.take n:=
 V0w _ l n 0 hn (fun j h1 h2=>by simpa using hz j h1 h2) (hl.imp id fun h=>by simpa using h)
theorem k1u (l:Ls)(n:Nat)(hn:n<=l.length)(hz: ∀j,n<=j->j<l.length->l.getD j 0=0)(hl:n=0\/l.getD (n-1) 0≠0):Kn l=l.take n:=
 V0w _ l n 0 hn (fun j h1 h2=>by simpa using hz j h1 h2) (hl.imp id fun h=>by simpa using h)
def Qn (n:Nat):Nat:=if n=0 then 0 else Nat.log2 n+1
theorem KP (n:Nat):n<2^Qn n:=by unfold Qn;split;rename_i h;subst h;decide;exact Nat.lt_log2_self
theorem ky {n:Nat}(h:n≠0):2^(Qn n-1)<=n:=by unfold Qn;rw[BA h];exact Nat.log2_self_le h
theorem bitlen_le_iff {n k:Nat} :Qn n<=k<->n<2^k:=by constructor;intro h;exact q_e (KP n) (BS (by decide) h);intro h;by_cases h0:n=0;subst h0;simp[Qn];apply F5;intro hk;have h1:=ky h0;have h2:2^k<=2^(Qn n-1):=BS (by decide) oG;omega
theorem U0d {n k:Nat}(h1:2^k<=n)(h2:n<2^(k+1)):Qn n=k+1:=by have a:=bitlen_le_iff.2 h2;have b: ¬Qn n<=k:=fun h=>(by have:=bitlen_le_iff.1 h;omega);omega
theorem VH :Qn 0=0:=rfl
theorem ql {n:Nat}(h:n≠0):0<Qn n:=by unfold Qn;rw[BA h];omega
theorem qm (n k:Nat)(h:n≠0):Qn (n*2^k)=Qn n+k:=by have h1:=ky h;have h2:=KP n;have h3:=ql h;have e:Qn n+k=(Qn n-1+k)+1:=oG;rw[e];apply U0d;rw[B2];exact BG _ h1;rw[show Qn n-1+k+1=Qn n+k from oG,B2];exact C5 h2 (DJ (by decide))
theorem y7 (v k:Nat)(h:v/2^k≠0):Qn v=Qn (v/2^k)+k:=by have h1:=ky h;have h2:=KP (v/2^k);have h3:=ql h;have e:Qn (v/2^k)+k=(Qn (v/2^k)-1+k)+1:=oG;rw[e];apply U0d;rw[B2];exact B7 (BG _ h1) (Nat.div_mul_le_self v (2^k));rw[show Qn (v/2^k)-1+k+1=Qn (v/2^k)+k from oG,B2];exact(DV (DJ (by decide))).1 h2
theorem U0c (n:Nat)(h:n<18446744073709551616):Qn n<=64:=bitlen_le_iff.2 h
theorem y1v (n:Nat)(h:n<4294967296):Qn n<=32:=bitlen_le_iff.2 h
theorem U0a (a x k:Nat)(ha:a<2^k)(hx:x≠0):Qn (a+2^k*x)=k+Qn x:=by have hp:0<2^k:=DJ (by decide);have e:(a+2^k*x)/2^k=x:=(by rw[EU _ _ hp,CP ha,CU]);rw[y7 _ k (by rw[e];exact hx),e,EW]
def Zu (a b:Int):Int:=if a<b then -1 else if a>b then 1 else 0
def Xg (a b:Nat):Int:=Zu (a:Int) (b:Int)
theorem VB {a b:Int}(h:a<b):Zu a b= -1:=by rw[Zu,BC h]
theorem VD {a b:Int}(h:b<a):Zu a b=1:=by rw[Zu,BA oG,BC h]
theorem H6 {a b:Int}(h:a=b):Zu a b=0:=by rw[Zu,BA oG,BA oG]
theorem Y0a (a b:Int):Zu b a= -Zu a b:=by unfold Zu;by_cases h1:a<b;rw[BC h1,BA oG,BC oG];rfl;by_cases h2:b<a;rw[BC h2,BA h1,BC oG];rw[BA h2,BA oG,BA h1,BA oG];rfl
theorem v1n (a b:Int):Zu (-a) (-b)= -Zu a b:=by rw[<-Y0a];unfold Zu;by_cases h1:b<a;rw[BC h1,BC oG];rw[BA h1,BA oG];by_cases h2:b>a;rw[BC h2,BC oG];rw[BA h2,BA oG]
theorem W0g {B n m:Nat}(hB:2<=B)(h:n<=m):(J7 B n).length<=(J7 B m).length:=by apply xI hB;have h2:=qI (B:=B) oG _ (wY hB m);rw[jm hB] at h2;omega
theorem qH {B:Nat} : ∀(l m:Ln) (i:Nat),(∀x∈l,x<B)->l.length=m.length->i<l.length->
 (∀j,i<j->j<l.length->l.getD j 0=m.getD j 0)->l.getD i 0<m.getD i 0->val B l<val B m
 | [],_,_,_,_,h,_,_=>by simp at h
 | x::l,[],_,_,h,_,_,_=>by simp at h
 | x::l,y::m,0,hl,hlen,_,heq,hlt=>by
  have e:l=m:=C9 (by simpa using hlen) fun j h1 h2=>by have:=heq (j+1) oG (by simp;omega);simpa[q_a,h1,h2] using this
  subst e;simp only[val];have:x<y:=(by simpa using hlt);omega
 | x::l,y::m,i+1,hl,hlen,hi,heq,hlt=>by
  have ih:=qH l m i (fun z hz=>hl z (DL _ hz)) (by simpa using hlen) (by simpa using hi)
   (fun j h1 h2=>by have:=heq (j+1) oG (by simp;omega);simpa using this) (by simpa using hlt)
  have hx:=hl x DG;simp only[val];have:B*(val B l+1)<=B*val B m:=DP _ ih;rw[CE] at this;omega
theorem jl (B:Nat): ∀(l:Ln) (i x:Nat),i<l.length->val B (l.set i x)+B^i*l.getD i 0=val B l+B^i*x
 | [],i,x,h=>by simp at h
 | y::l,0,x,h=>by simp[val];omega
 | y::l,i+1,x,h=>by have ih:=jl B l i x (by simpa using h);simp only[LD,val,List.getD_cons_succ,B5];have:B*(val B (l.set i x)+B^i*l.getD i 0)=B*(val B l+B^i*x):=(by rw[ih]);rw[CE,CE] at this;rw[BM (B^i) B,BW,BW];omega
theorem Bq (B n:Nat):val B (List.replicate n 0)=0:=by
 induction n with
 | zero=>rfl
 | succ n ih=>rw[List.replicate_succ,val,ih];simp
theorem Yd (l:Lu)(i:Nat):(nW l).getD i 0=(l.getD i 0).toNat:=by simp only[nW,q_a,B8];cases l[i]?<;>rfl
theorem Iz (l:Ls)(i:Nat):(nD l).getD i 0=(l.getD i 0).toNat:=by simp only[nD,q_a,B8];cases l[i]?<;>rfl
theorem Gw (l:Lu)(i:Nat)(c:UInt64)(h:i<l.length):Qd (l.set i c)+18446744073709551616^i*(l.getD i 0).toNat=Qd l+18446744073709551616^i*c.toNat:=by have:=jl 18446744073709551616 (nW l) i c.toNat (by simpa[nW] using h);rw[Yd] at this;have e:(nW l).set i c.toNat=nW (l.set i c):=(by simp[nW,E6]);rw[e] at this;exact this
theorem Cc (l:Ls)(i:Nat)(c:UInt32)(h:i<l.length):Qz (l.set i c)+4294967296^i*(l.getD i 0).toNat=Qz l+4294967296^i*c.toNat:=by have:=jl 4294967296 (nD l) i c.toNat (by simpa[nD] using h);rw[Iz] at this;have e:(nD l).set i c.toNat=nD (l.set i c):=(by simp[nD,E6]);rw[e] at this;exact this
theorem Bv (n:Nat):Qd (List.replicate n 0)=0:=by have:nW (List.replicate n 0)=List.replicate n 0:=(by simp[nW]);rw[Qd,this,Bq]
theorem q0c (n:Nat):Qz (List.replicate n 0)=0:=by have:nD (List.replicate n 0)=List.replicate n 0:=(by simp[nD]);rw[Qz,this,Bq]
theorem q0a (l:Lu)(c:UInt64):Qd (l++ [c])=Qd l+18446744073709551616^l.length*c.toNat:=by rw[HK];simp[Qd,nW,val]
theorem qP (l:Ls)(c:UInt32):Qz (l++ [c])=Qz l+4294967296^l.length*c.toNat:=by rw[jp];simp[Qz,nD,val]
theorem HU {α:Type}(l:List α)(i:Nat)(d:α)(h:i<l.length):l.take (i+1)=l.take i++ [l.getD i d]:=by rw[FV h,q_a,BB h];rfl
theorem WN (l:Lu)(i:Nat)(h:i<l.length):Qd (l.take (i+1))=Qd (l.take i)+18446744073709551616^i*(l.getD i 0).toNat:=by rw[HU l i 0 h,q0a,BX,DA oG]
theorem qL (l:Ls)(i:Nat)(h:i<l.length):Qz (l.take (i+1))=Qz (l.take i)+4294967296^i*(l.getD i 0).toNat:=by rw[HU l i 0 h,qP,BX,DA oG]
theorem Gr {n k:Nat}(h:n<18446744073709551616^k):(QB n).length<=k:=by simp only[QB,BR];exact xI (by decide) k n h
theorem k1c {n k:Nat}(h:n<4294967296^k):(Qs n).length<=k:=by simp only[Qs,BR];exact xI (by decide) k n h
theorem Y1v (n:Nat):n<4294967296^(Qs n).length:=by have:=Gz (Qs n);rwa [Ka] at this
theorem Gq {n m:Nat}(h:n<=m):(QB n).length<=(QB m).length:=by simp only[QB,BR];exact W0g (by decide) h
theorem wZ {n m:Nat}(h:n<=m):(Qs n).length<=(Qs m).length:=by simp only[Qs,BR];exact W0g (by decide) h
theorem v1d {a b:Lu}(ha:QM a=a)(hb:QM b=b)(h:a.length≠b.length):Zu a.length b.length=Xg (Qd a) (Qd b):=by rw[<-Xx] at ha hb;have m1:Qd a<=Qd b->a.length<=b.length:=fun h=>(by have:=Gq h;rwa [ha,hb] at this);have m2:Qd b<=Qd a->b.length<=a.length:=fun h=>(by have:=Gq h;rwa [ha,hb] at this);by_cases hl:a.length<b.length;rw[VB oG,Xg,VB];have: ¬Qd b<=Qd a:=fun h=>(by have:=m2 h;omega);omega;rw[VD oG,Xg,VD];have: ¬Qd a<=Qd b:=fun h=>(by have:=m1 h;omega);omega
theorem v1v {a b:Nat}(h:(Qs a).length≠(Qs b).length):Zu (Qs a).length (Qs b).length=Xg a b:=by have m1:a<=b->(Qs a).length<=(Qs b).length:=wZ;have m2:b<=a->(Qs b).length<=(Qs a).length:=wZ;by_cases hl:(Qs a).length<(Qs b).length;rw[VB oG,Xg,VB];have: ¬b<=a:=fun h=>(by have:=m2 h;omega);omega;rw[VD oG,Xg,VD];have: ¬a<=b:=fun h=>(by have:=m1 h;omega);omega
theorem v1e {a b:Lu}(hl:a.length=b.length)(i:Nat)(hi:i<a.length)(heq: ∀j,i<j->j<a.length->a.getD j 0=b.getD j 0)(hne:a.getD i 0≠b.getD i 0):
 Zu (a.getD i 0).toNat (b.getD i 0).toNat=Xg (Qd a) (Qd b):=by
 have hn:(a.getD i 0).toNat≠(b.getD i 0).toNat:=fun e=>hne (FE e);have la:(nW a).length=a.length:=(by simp[nW]);have lb:(nW b).length=b.length:=(by simp[nW]);by_cases h:(a.getD i 0).toNat<(b.getD i 0).toNat;have:=qH (nW a) (nW b) i (xe a) oG oG (fun j h1 h2=>by rw[Yd,Yd,heq j h1 oG]) (by rw[Yd,Yd];exact h);rw[VB oG,Xg,VB];simp only[Qd];omega;have:=qH (nW b) (nW a) i (xe b) oG oG (fun j h1 h2=>by rw[Yd,Yd,heq j h1 oG]) (by rw[Yd,Yd];omega);rw[VD oG,Xg,VD];simp only[Qd];omega
theorem Cd {a b:Ls}(hl:a.length=b.length)(i:Nat)(hi:i<a.length)(heq: ∀j,i<j->j<a.length->a.getD j 0=b.getD j 0)(h:(a.getD i 0).toNat<(b.getD i 0).toNat):Qz a<Qz b:=by have la:(nD a).length=a.length:=(by simp[nD]);have lb:(nD b).length=b.length:=(by simp[nD]);exact qH (nD a) (nD b) i (vj a) oG oG (fun j h1 h2=>by rw[Iz,Iz,heq j h1 oG]) (by rw[Iz,Iz];exact h)
theorem IM {α:Type}{a b:List α}(d:α)(hl:a.length=b.length)(h: ∀j,j<a.length->a.getD j d=b.getD j d):a=b:=
 C9 hl fun j h1 h2=>by have:=h j h1;simpa[q_a,h1,h2] using this
theorem Vi {α:Type}(l:List α)(i j:Nat)(x d:α):(l.set i x).getD j d=if i=j/\j<l.length then x else l.getD j d:=by simp only[q_a,List.getElem?_set];by_cases h:i=j;subst h;by_cases h2:i<l.length;simp[h2];simp[h2];simp[h]
theorem IB {α:Type}(n j:Nat)(x:α):(List.replicate n x).getD j x=x:=by simp only[q_a,List.getElem?_replicate];split<;>rfl
theorem Ve {a b:Nat}(h:((a:Int) !=(b:Int))=true):a≠b:=by intro e;subst e;simp at h
theorem Kg {a b:Nat}(h:((a:Int) !=(b:Int))=false):a=b:=by have:(a:Int)=b:=(by simpa using h);omega
theorem JS {a b:Nat}(h:((a:Int)==(b:Int))=true):a=b:=by have:(a:Int)=b:=(by simpa using h);omega
theorem V2 {a b:Nat}(h:((a:Int)==(b:Int))=false):a≠b:=by intro e;subst e;simp at h
theorem Xm {a b:Int}(h:(a !=b)=true):a≠b:=by intro e;subst e;simp at h
theorem XA {a b:Int}(h:(a !=b)=false):a=b:=by simpa using h
theorem Ua {a b:Int}(h:(a==b)=true):a=b:=by simpa using h
theorem HE {a b:Int}(h:(a==b)=false):a≠b:=by intro e;subst e;simp at h
open Go.Proofs
attribute [go_sem] Int.reduceBNe Int.reduceBEq
theorem Qy :Tryz.prog.follows .mixedOrders=true:=by kernel_rfl
def Qo (l:List UInt64):List PV:=l.map fun c=>(.sc (.int .u64 c.toNat))
@[go_sem] theorem Wd (l:Lu):(Qo l).length=l.length:=by simp[Qo]
@[go_sem] theorem j1b :Qo []= []:=(rfl)
@[go_sem] theorem U2w (l:Lu):(Qo l).all (fun x=>x.cells.length==1)=true:=by simp[Qo,PV.cells]
@[go_sem] theorem U2y (l:Lu):(Qo l).all (fun x=>(x.cells.length==1)&&x.cells.all PV.cellOK)=true:=by simp[Qo,PV.cells,PV.cellOK,Value.oneCell']
@[go_sem] theorem U2v (l:Lu)(n:Nat):(Qo l).take n=Qo (l.take n):=by simp[Qo]
@[go_sem] theorem G2d (l:Lu)(n:Nat):(Qo l).drop n=Qo (l.drop n):=by simp[Qo]
@[go_sem] theorem x1z (l:Lu)(c:UInt64):Qo l++ [.sc (.int .u64 c.toNat)]=Qo (l++ [c]):=by simp[Qo]
theorem ZK (l:Lu)(n:Nat)(h:n<l.length):(Qo l).getD n .junk= .sc (.int .u64 (l.getD n 0).toNat):=by simp[Qo,q_a,h]
@[go_sem] theorem G2b (l:Lu)(i:Nat)(cs:Lp):(Qo l).map (PV.frz i cs)=Qo l:=by simp only[Qo,DZ];exact C4 fun a _=>rfl
theorem Yi (l:Lu)(n:Nat)(c:UInt64)(h:n<l.length):Q4 (Qo l) n [.sc (.int .u64 c.toNat)]=Qo (l.set n c):=by unfold Q4 Qo;rw[DS,BC h];simp
@[go_sem] theorem U2z (l:Lu)(a b:Nat):(Qo l).all (PV.lim a b)=true:=by simp[Qo,PV.lim,PV.lim1]
@[go_sem] theorem G2a (l:Lu):Zj (Qo l)=true:=by simp[Qo,Zj,PV.closed2,PV.closed1]
@[go_sem] theorem G2c (l:Lu):(Qo l).map PV.forget2=Qo l:=by simp only[Qo,DZ];exact C4 fun a _=>rfl
@[go_sem] theorem U2x (n:Nat):List.replicate n (PV.sc (.int .u64 0))=Qo (List.replicate n 0):=by simp[Qo]
def QD (l:List UInt32):List PV:=l.map fun c=>(.sc (.int .u32 c.toNat))
@[go_sem] theorem H2l (l:Ls):(QD l).length=l.length:=by simp[QD]
@[go_sem] theorem wO :QD []= []:=(rfl)
@[go_sem] theorem H2h (l:Ls):(QD l).all (fun x=>x.cells.length==1)=true:=by simp[QD,PV.cells]
@[go_sem] theorem H2g (l:Ls)(n:Nat):(QD l).take n=QD (l.take n):=by simp[QD]
@[go_sem] theorem H2p (l:Ls)(n:Nat):(QD l).drop n=QD (l.drop n):=by simp[QD]
@[go_sem] theorem H2i (l:Ls)(c:UInt32):QD l++ [.sc (.int .u32 c.toNat)]=QD (l++ [c]):=by simp[QD]
theorem KR (l:Ls)(n:Nat)(h:n<l.length):(QD l).getD n .junk= .sc (.int .u32 (l.getD n 0).toNat):=by simp[QD,q_a,h]
@[go_sem] theorem H2n (l:Ls)(i:Nat)(cs:Lp):(QD l).map (PV.frz i cs)=QD l:=by simp only[QD,DZ];exact C4 fun a _=>rfl
theorem V0p (l:Ls)(n:Nat)(c:UInt32)(h:n<l.length):Q4 (QD l) n [.sc (.int .u32 c.toNat)]=QD (l.set n c):=by unfold Q4 QD;rw[DS,BC h];simp
@[go_sem] theorem H2k (l:Ls)(a b:Nat):(QD l).all (PV.lim a b)=true:=by simp[QD,PV.lim,PV.lim1]
@[go_sem] theorem H2m (l:Ls):Zj (QD l)=true:=by simp[QD,Zj,PV.closed2,PV.closed1]
@[go_sem] theorem H2o (l:Ls):(QD l).map PV.forget2=QD l:=by simp only[QD,DZ];exact C4 fun a _=>rfl
@[go_sem] theorem H2j (n:Nat):List.replicate n (PV.sc (.int .u32 0))=QD (List.replicate n 0):=by simp[QD]
def QX (l:List Int):List PV:=l.map fun c=>(.sc (.int .i64 c))
@[go_sem] theorem U2r (l:Pq):(QX l).length=l.length:=by simp[QX]
@[go_sem] theorem U2q (l:Pq):(QX l).all (fun x=>(x.cells.length==1)&&x.cells.all PV.cellOK)=true:=by simp[QX,PV.cells,PV.cellOK,Value.oneCell']
@[go_sem] theorem U2p (l:Pq)(n:Nat):(QX l).take n=QX (l.take n):=by simp[QX]
@[go_sem] theorem U2u (l:Pq)(n:Nat):(QX l).drop n=QX (l.drop n):=by simp[QX]
theorem Yh (l:Pq)(n:Nat)(h:n<l.length):(QX l).getD n .junk= .sc (.int .i64 (l.getD n 0)):=by simp[QX,q_a,h]
@[go_sem] theorem U2s (l:Pq)(i:Nat)(cs:Lp):(QX l).map (PV.frz i cs)=QX l:=by simp only[QX,DZ];exact C4 fun a _=>rfl
@[go_sem] theorem x1x (l:Pq)(a b:Nat):(QX l).all (PV.lim a b)=true:=by simp[QX,PV.lim,PV.lim1]
@[go_sem] theorem x1y (l:Pq):Zj (QX l)=true:=by simp[QX,Zj,PV.closed2,PV.closed1]
@[go_sem] theorem U2t (l:Pq):(QX l).map PV.forget2=QX l:=by simp only[QX,DZ];exact C4 fun a _=>rfl
attribute [go_sem] j1o j1n
structure Nm where
 neg:Bool
 exp:Int
 w:List UInt64
 deriving DecidableEq
abbrev Ly :=List (List Nm)
abbrev Lx :=List Nm
instance : Inhabited Nm:=⟨⟨false,0,[]⟩⟩
def Qf (x:Nm):List PV:= [.sc (.bool x.neg),.sc (.int .i64 x.exp),.sl .no (Qo x.w)]
attribute [go_sem] Qf
structure Ivl where
 lo:Nm
 hi:Nm
 deriving DecidableEq
abbrev Lj :=List (List Ivl)
abbrev Li :=List Ivl
instance : Inhabited Ivl:=⟨⟨default,default⟩⟩
def Qm (x:Ivl):List PV:= [.sc (.bool x.lo.neg),.sc (.int .i64 x.lo.exp),.sl .no (Qo x.lo.w),.sc (.bool x.hi.neg),.sc (.int .i64 x.hi.exp),.sl .no (Qo x.hi.w)]
attribute [go_sem] Qm
def Q5 (l:List Nm):List PV:=l.map fun c=>(.agg (Qf c))
@[go_sem] theorem xB (l:Lx):(Q5 l).length=l.length:=by simp[Q5]
@[go_sem] theorem G2q :Q5 []= []:=(rfl)
@[go_sem] theorem G2o (l:Lx):(Q5 l).all (fun x=>x.cells.length==3)=true:=by simp[Q5,PV.cells,Qf]
@[go_sem] theorem G2p (l:Lx):(Q5 l).all (fun x=>(x.cells.length==3)&&x.cells.all PV.cellOK)=true:=by simp[Q5,PV.cells,PV.cellOK,Value.oneCell',Qf]
theorem JV (l:Lx)(n:Nat)(h:n<l.length):(Q5 l).getD n .junk= .agg (Qf (l.getD n default)):=by simp[Q5,q_a,h]
def Qj (l:List Ivl):List PV:=l.map fun c=>(.agg (Qm c))
@[go_sem] theorem K4 (l:Li):(Qj l).length=l.length:=by simp[Qj]
@[go_sem] theorem H2b :Qj []= []:=(rfl)
@[go_sem] theorem G2z (l:Li):(Qj l).all (fun x=>x.cells.length==6)=true:=by simp[Qj,PV.cells,Qm]
@[go_sem] theorem H2a (l:Li):(Qj l).all (fun x=>(x.cells.length==6)&&x.cells.all PV.cellOK)=true:=by simp[Qj,PV.cells,PV.cellOK,Value.oneCell',Qm]
@[go_sem] theorem G2y (l:Li)(n:Nat):(Qj l).take n=Qj (l.take n):=by simp[Qj]
@[go_sem] theorem H2c (l:Li)(n:Nat):(Qj l).drop n=Qj (l.drop n):=by simp[Qj]
@[go_sem] theorem V0n (l:Li)(c:Ivl):Qj l++ [.agg (Qm c)]=Qj (l++ [c]):=by simp[Qj]
theorem Zr (l:Li)(n:Nat)(h:n<l.length):(Qj l).getD n .junk= .agg (Qm (l.getD n default)):=by simp[Qj,q_a,h]
structure Sg where
 fr:Int
 to:Int
 t0:Nm
 t1:Nm
 box:List Ivl
 deriving DecidableEq
instance : Inhabited Sg:=⟨⟨0,0,default,default,[]⟩⟩
def UV (x:Sg):List PV:= [.sc (.int .i64 x.fr),.sc (.int .i64 x.to),.sc (.bool x.t0.neg),.sc (.int .i64 x.t0.exp),.sl .no (Qo x.t0.w),.sc (.bool x.t1.neg),.sc (.int .i64 x.t1.exp),.sl .no (Qo x.t1.w),.sl .no (Qj x.box)]
attribute [go_sem] UV
def PFS.claim (t sz:Nat)(s:PFS):PFS:=
 match s.pa.getD t .junk with
 | .sl .full []=>⟨s.pa.set t (.sl (.own s.T.length) []),s.L,s.T++ [(0,sz)],s.st⟩
 | _=>s
theorem H0j {E:Ent}{s:PFS}(t sz:Nat):Weak E s (s.claim t sz):=by
 intro a w g F h;unfold PFS.claim;split;rename_i he;obtain⟨es,hes⟩: ∃es:List PV,es= []:=⟨_,rfl⟩;rw[<-hes] at he⊢;have hv:=h.len_eq t;rw[he] at hv;have hbase: ∀v,RepF w g F s.T v (.sl .full es)->Rep w g v (.sl .full es):=fun v hv=>by cases hv with | base _ _ h=>exact h
 have hv:=hbase _ hv;have hri: ∀v,Rep w g v (.sl .full es)->Right w g none sz v es:=fun v hv=>by
  cases hv with
  | nil t ad ht=>exact⟨.inr ⟨_,rfl⟩,rfl⟩
  | sl t es b off sz cap cf ht hf hcap hsz hvis hc hr=>exact⟨.inr ⟨_,by rw[hf rfl]⟩,by rw[hes];rfl⟩
 rw[show(0:Nat)=es.length from by rw[hes];rfl];obtain⟨F',m1,m2,m3,m4,m5⟩:=h.mint es.length sz none (fun b hb=>by cases hb);have hlast:(s.T++ [(es.length,sz)]).getD s.T.length (0,0)=(es.length,sz):=(by simp[q_a]);have hown:RepF w g F' (s.T++ [(es.length,sz)]) (a.tmps.getD t undef) (.sl (.own s.T.length) es):=by refine .own _ _ _ hv.toNo (by simp) (by rw[hlast];exact BD _) fun _=> ?_;rw[hlast,m2];exact hri _ hv
 refine⟨g,F',m1.ext,m1.store,m1.frame,m1.defers,by rw[BL];exact m1.len,fun j hj=> ?_⟩;simp only[BL] at hj;by_cases e:t=j;subst e;rw[Z0 _ _ _ _ hj];exact hown;rw[Z3 _ _ _ _ _ e];exact m1.tmps j hj;exact⟨g,F,h⟩
theorem ZE {P:Pg}{E:Ent}{c:Code}{Q:Pe}{s:PFS}(t sz:Nat)(h:PWP P E c Q (s.claim t sz)):PWP P E c Q s:=J0 (H0j t sz) h
def clm (p:PV)(t sz:Nat)(pa:List PV)(L:Qc)(T:List (Nat×Nat))(st:Qc):PFS:=
 match p with
 | .sl .full []=>⟨pa.set t (.sl (.own T.length) []),L,T++ [(0,sz)],st⟩
 | _=>⟨pa,L,T,st⟩
@[go_sem] theorem q2d {t sz:Nat}{pa:Lp}{L st:Qc}{T:Lv} :(PFS.mk pa L T st).claim t sz=clm (pa.getD t .junk) t sz pa L T st:=by unfold PFS.claim clm;rfl
@[go_sem] theorem q2b {t sz:Nat}{pa:Lp}{L st:Qc}{T:Lv} :clm (.sl .full []) t sz pa L T st=⟨pa.set t (.sl (.own T.length) []),L,T++ [(0,sz)],st⟩:=(rfl)
def noL :List Bool->List PV->List PV
 | b::bs,p::ps=>(if b&&p.closed2 then p.forget2 else p)::noL bs ps
 | [],ps=>ps
 | _,[]=> []
theorem kZ : ∀(bs:Ld) (ps:Lp),(noL bs ps).length=ps.length
 | [],[]=>rfl
 | [],p::ps=>rfl
 | b::bs,[]=>rfl
 | b::bs,p::ps=>by simp[noL,kZ bs ps]
theorem Z0c : ∀(bs:Ld) (ps:Lp) (j:Nat),(noL bs ps).getD j .junk=ps.getD j .junk\/((ps.getD j .junk).closed2=true/\(noL bs ps).getD j .junk=(ps.getD j .junk).forget2)
 | [],ps,j=> .inl rfl
 | b::bs,[],j=> .inl rfl
 | b::bs,p::ps,j=>by
  cases j with
  | zero=>
   simp only[noL,LB];by_cases h:(b&&p.closed2)=true;rw[BC h];simp at h;exact .inr ⟨h.2,rfl⟩;rw[BA h];exact .inl rfl
  | succ j=>simpa[noL] using Z0c bs ps j
def PFS.plain (bs:List Bool)(s:PFS):PFS:=⟨noL bs s.pa,s.L,s.T,s.st⟩
theorem H0a {E:Ent}{s:PFS}(bs:Ld):Weak E s (s.plain bs):=by intro a w g F h;refine⟨g,F,h.ext,h.store,h.frame,h.defers,by simp only[PFS.plain,kZ];exact h.len,fun j hj=> ?_⟩;simp only[PFS.plain,kZ] at hj⊢;rcases Z0c bs s.pa j with e | ⟨e1,e2⟩;rw[e];exact h.tmps j hj;rw[e2];exact .base _ _ ((h.tmps j hj).forget2 e1)
theorem KG {P:Pg}{E:Ent}{c:Code}{Q:Pe}{s:PFS}(bs:Ld)(h:PWP P E c Q (s.plain bs)):PWP P E c Q s:=J0 (H0a bs) h
@[go_sem] theorem V2e {bs:Ld}{pa:Lp}{L st:Qc}{T:Lv} :(PFS.mk pa L T st).plain bs=⟨noL bs pa,L,T,st⟩:=(rfl)
@[go_sem] theorem V2l {ps:Lp} :noL [] ps=ps:=(rfl)
@[go_sem] theorem V2o {bs ps:Lp}{b:Ld}{p:PV} :noL (false::b) (p::ps)=p::noL b ps:=(rfl)
@[go_sem] theorem V2j {ps es:Lp}{b:Ld} :noL (true::b) (.sl .no es::ps)= .sl .no es::noL b ps:=(rfl)
@[go_sem] theorem V2m {ps es:Lp}{b:Ld} :noL (true::b) (.sl .full es::ps)= .sl .no es::noL b ps:=(rfl)
@[go_sem] theorem V2k {k:Nat}{ps es:Lp}{b:Ld} :noL (true::b) (.sl (.own k) es::ps)= .sl .no es::noL b ps:=(rfl)
@[go_sem] theorem V2p {ps cs:Lp}{b:Ld} :noL (true::b) (.agg cs::ps)=(if cs.all PV.closed1=true then .agg (cs.map PV.forget1) else .agg cs)::noL b ps:=by simp only[noL,PV.closed2,PV.forget2,FB]
def PFS.plainBox (i:Nat)(s:PFS):PFS:=if (s.L.getD i []).all PV.closed2=true/\i<s.L.length then⟨s.pa,s.L.set i ((s.L.getD i []).map PV.forget2),s.T,s.st⟩ else s
theorem HI {E:Ent}{s:PFS}(i:Nat):Weak E s (s.plainBox i):=by
 intro a w g F h;unfold PFS.plainBox;split;rename_i hc;have hne: ∀k,(s.L.set i ((s.L.getD i []).map PV.forget2)).getD k []≠ []->s.L.getD k []≠ []:=fun k hk=>by by_cases e:i=k;subst e;rw[Z0 _ _ _ _ hc.2] at hk;intro e2;rw[e2] at hk;exact hk rfl;rwa [Z3 _ _ _ _ _ e] at hk
 refine⟨g,F,h.ext,h.store,⟨by simpa using h.frame.nl,fun k hk=>h.frame.lo k (hne k hk),fun k hk=>h.frame.apart k (hne k hk),fun k j hk hj=>h.frame.inj k j (hne k hk) (hne j hj),fun k hk=> ?_,h.frame.tlo,fun k b h1 h2=>⟨(h.frame.tapart k b h1 h2).1,fun j hj=>(h.frame.tapart k b h1 h2).2 j (hne j hj)⟩,h.frame.tinj⟩,h.defers,h.len,h.tmps⟩;have hh:=h.frame.holds k (hne k hk);by_cases e:i=k;subst e;rw[Z0 _ _ _ _ hc.2];intro j hj;have hj':j<(s.L.getD i []).length:=(by simpa using hj);obtain⟨q1,c,q2,q3⟩:=hh j hj';refine⟨q1,c,q2,?_⟩;rw[Jb _ _ _ _ .junk hj'];exact .base _ _ (q3.forget2 (List.all_eq_true.1 hc.1 _ (QE _ _ _ hj')));rw[Z3 _ _ _ _ _ e];exact hh;exact⟨g,F,h⟩
theorem Va {P:Pg}{E:Ent}{c:Code}{Q:Pe}{s:PFS}(i:Nat)(h:PWP P E c Q (s.plainBox i)):PWP P E c Q s:=J0 (HI i) h
@[go_sem] theorem V2f {i:Nat}{pa:Lp}{L st:Qc}{T:Lv} :(PFS.mk pa L T st).plainBox i=if (L.getD i []).all PV.closed2=true/\i<L.length then⟨pa,L.set i ((L.getD i []).map PV.forget2),T,st⟩ else⟨pa,L,T,st⟩:=(rfl)
theorem PCalls.plain {P:Pg}{f:FuncId}{args es:Lp}{st:Qc}{sz:Nat}(h:PCalls P f args st (fun r st'=>r= .sl (.fresh sz) es/\st'=st)):PCalls P f args st (fun r st'=>r= .sl .no es/\st'=st):=
 fun w g vs hs hr=>(h w g vs hs hr).mono fun _ _ ⟨v,g',r,st',he,hx,ho,hv,q⟩=>by obtain⟨rfl,rfl⟩:=q;exact⟨v,g',.sl .no es,_,he,hx,ho,hv.1,rfl,rfl⟩
theorem K8 (n:Nat):IntKind.u64.wrap (n:Int)=((n % 18446744073709551616:Nat):Int):=by simp[IntKind.wrap,IntKind.bits,IntKind.signed]
theorem Vt (n:Nat):IntKind.u32.wrap (n:Int)=((n % 4294967296:Nat):Int):=by simp[IntKind.wrap,IntKind.bits,IntKind.signed]
theorem QP (n:Nat)(h:n<9223372036854775808):IntKind.i64.wrap (n:Int)=(n:Int):=Q2 _ oG oG
theorem qu (a b:Nat)(ha:a<18446744073709551616)(hb:b<18446744073709551616):bOr .u64 (a:Int) (b:Int)=((a|||b:Nat):Int):=by
 unfold bOr;have e:(BitVec.ofInt IntKind.u64.bits (a:Int)|||BitVec.ofInt IntKind.u64.bits (b:Int)).toNat=a|||b:=by
  have e1:BitVec.ofInt IntKind.u64.bits (a:Int)=BitVec.ofNat 64 a:=(by simp[IntKind.bits]);have e2:BitVec.ofInt IntKind.u64.bits (b:Int)=BitVec.ofNat 64 b:=(by simp[IntKind.bits]);rw[e1,e2];show(BitVec.ofNat 64 a|||BitVec.ofNat 64 b).toNat=a|||b
  rw[BitVec.toNat_or,D2,D2,BJ (by omega:a<2^64),BJ (by omega:b<2^64)]
 rw[e];exact JJ _ (FY (n:=64) ha hb)
theorem YN (a b:Nat)(ha:a<18446744073709551616)(hb:b<18446744073709551616):ZV .u64 (a:Int) (b:Int)=((a&&&b:Nat):Int):=by
 unfold ZV;have e:(BitVec.ofInt IntKind.u64.bits (a:Int)&&&BitVec.ofInt IntKind.u64.bits (b:Int)).toNat=a&&&b:=by have e1:BitVec.ofInt IntKind.u64.bits (a:Int)=BitVec.ofNat 64 a:=(by simp[IntKind.bits]);have e2:BitVec.ofInt IntKind.u64.bits (b:Int)=BitVec.ofNat 64 b:=(by simp[IntKind.bits]);rw[e1,e2];show(BitVec.ofNat 64 a&&&BitVec.ofNat 64 b).toNat=a&&&b;rw[BitVec.toNat_and,D2,D2,BJ (by omega:a<2^64),BJ (by omega:b<2^64)]
 rw[e];exact JJ _ (D1 Nat.and_le_left ha)
theorem Q2p (a b:Nat)(ha:a<4294967296)(hb:b<4294967296):bOr .u32 (a:Int) (b:Int)=((a|||b:Nat):Int):=by
 unfold bOr;have e:(BitVec.ofInt IntKind.u32.bits (a:Int)|||BitVec.ofInt IntKind.u32.bits (b:Int)).toNat=a|||b:=by
  have e1:BitVec.ofInt IntKind.u32.bits (a:Int)=BitVec.ofNat 32 a:=(by simp[IntKind.bits]);have e2:BitVec.ofInt IntKind.u32.bits (b:Int)=BitVec.ofNat 32 b:=(by simp[IntKind.bits]);rw[e1,e2];show(BitVec.ofNat 32 a|||BitVec.ofNat 32 b).toNat=a|||b
  rw[BitVec.toNat_or,D2,D2,BJ (by omega:a<2^32),BJ (by omega:b<2^32)]
 rw[e,Vt,BJ (FY (n:=32) ha hb)]
theorem U0j (a b:Nat)(ha:a<4294967296)(hb:b<4294967296):ZV .u32 (a:Int) (b:Int)=((a&&&b:Nat):Int):=by
 unfold ZV;have e:(BitVec.ofInt IntKind.u32.bits (a:Int)&&&BitVec.ofInt IntKind.u32.bits (b:Int)).toNat=a&&&b:=by have e1:BitVec.ofInt IntKind.u32.bits (a:Int)=BitVec.ofNat 32 a:=(by simp[IntKind.bits]);have e2:BitVec.ofInt IntKind.u32.bits (b:Int)=BitVec.ofNat 32 b:=(by simp[IntKind.bits]);rw[e1,e2];show(BitVec.ofNat 32 a&&&BitVec.ofNat 32 b).toNat=a&&&b;rw[BitVec.toNat_and,D2,D2,BJ (by omega:a<2^32),BJ (by omega:b<2^32)]
 rw[e,Vt,BJ (D1 Nat.and_le_left ha)]
theorem U0h (k:IntKind)(v c:Nat)(h:c<=k.bits):Jr k (v:Int) (c:Int)=k.wrap ((v*2^c:Nat):Int):=by unfold Jr;rw[FN,DA h];congr 1
theorem YM (v c:Nat)(h:c<=64):Jr .u64 (v:Int) (c:Int)=((v*2^c % 18446744073709551616:Nat):Int):=by rw[U0h .u64 v c h,K8]
theorem Q2o (v c:Nat)(h:c<=32):Jr .u32 (v:Int) (c:Int)=((v*2^c % 4294967296:Nat):Int):=by rw[U0h .u32 v c h,Vt]
theorem Vq (v c:Nat)(h:c<=64):Z7 .u64 (v:Int) (c:Int)=((v/2^c:Nat):Int):=qt .u64 v c h
theorem U0g (v c:Nat)(h:c<=32):Z7 .u32 (v:Int) (c:Int)=((v/2^c:Nat):Int):=qt .u32 v c h
theorem GZ (x y c:Nat)(hx:x<2^c)(hy:y % 2^c=0):x|||y=x+y:=by
 have e:y=2^c*(y/2^c):=by have:=D5 y (2^c);omega
 rw[Nat.or_comm,e,<-Nat.two_pow_add_eq_or_of_lt hx,EW]
theorem vk (w c:Nat)(h:c<=64):w*2^c % 18446744073709551616 % 2^c=0:=by have e:(18446744073709551616:Nat)=2^c*2^(64-c):=(by rw[<-B2,show c+(64-c)=64 from oG]);rw[e,Nat.mod_mul_right_mod,Nat.mul_mod_left]
theorem Mb (w c:Nat)(hw:w<18446744073709551616)(h:c<=64):w*2^c=w*2^c % 18446744073709551616+18446744073709551616*(w/2^(64-c)):=by have e:(18446744073709551616:Nat)=2^(64-c)*2^c:=(by rw[<-B2,show 64-c+c=64 from oG]);have d:w*2^c/18446744073709551616=w/2^(64-c):=(by rw[e,Nat.mul_div_mul_right _ _ (DJ (by decide))]);rw[<-d];exact(FH _ _).symm
theorem Ez (w c:Nat)(hw:w<18446744073709551616)(h:c<=64):w/2^(64-c)<2^c:=by rw[DV (DJ (by decide)),<-B2,show c+(64-c)=64 from oG];exact hw
theorem Uj (n m:Nat):(n:Int).tdiv (m:Int)=((n/m:Nat):Int):=(Int.ofNat_tdiv n m).symm
theorem Yv (n m:Nat):(n:Int).tmod (m:Int)=((n % m:Nat):Int):=(Int.ofNat_tmod n m).symm
theorem KI (k:Nat):18446744073709551616^k=2^(64*k):=by rw[show(18446744073709551616:Nat)=2^64 from rfl,<-Nat.pow_mul]
theorem Y1 (k:Nat):4294967296^k=2^(32*k):=by rw[show(4294967296:Nat)=2^32 from rfl,<-Nat.pow_mul]
theorem Xz (n:Nat)(h:n<18446744073709551616):(UInt64.ofNat n).toNat=n:=by rw[FC];omega
theorem VL (n:Nat)(h:n<4294967296):(UInt32.ofNat n).toNat=n:=by rw[UInt32.toNat_ofNat'];omega
theorem U0b {m n:Nat}(h:Qn m<Qn n):m<n:=by apply ES;intro hle;have:Qn n<=Qn m:=bitlen_le_iff.2 (D1 hle (KP m));omega
def Zc (l:List UInt64):Nat:=Qn (Qd l)
theorem y1t (l:Lu):Zc (QM l)=Zc l:=by simp only[Zc,KS]
theorem k1r (l:Lu):QM l= []<->Qd l=0:=by rw[<-Xx,wordsOf_nil]
theorem y1s (l:Lu)(h:QM l≠ []):Zc l=64*((QM l).length-1)+Qn ((QM l).getD ((QM l).length-1) 0).toNat:=by
 have hl:=k1s l h;rw[<-y1t];generalize QM l=c at*
 have hp:0<c.length:=EL.2 h;have e:Qd c=Qd (c.take (c.length-1))+18446744073709551616^(c.length-1)*(c.getD (c.length-1) 0).toNat:=(by rw[<-WN c (c.length-1) oG,show c.length-1+1=c.length from oG,B0]);have hb:=Jg (c.take (c.length-1));rw[BX,DA oG] at hb;rw[Zc,e];rw[KI] at hb⊢;exact U0a _ _ _ hb (fun h0=>hl ((qS _).2 h0))
theorem Wn (l:Lu):Zc l<=64*l.length:=by rw[Zc,bitlen_le_iff,<-KI];exact Jg l
def Z6 (x:Nm):Int:=if x.neg then -(Qd x.w:Int) else(Qd x.w:Int)
def XM (m:Int)(e:Int)(n:Int)(f:Int):Int:=Zu (m*2^(e-min e f).toNat) (n*2^(f-min e f).toNat)
def ZC (a b:Nm):Int:=XM (Z6 a) a.exp (Z6 b) b.exp
def sgn (m:Int):Int:=if m=0 then 0 else if m<0 then -1 else 1
theorem two_pow_pos (n:Nat):(0:Int)<2^n:=Int.pow_pos (by decide)
theorem GE (m:Int)(n:Nat):sgn (m*2^n)=sgn m:=by have h:=two_pow_pos n;unfold sgn;by_cases h0:m=0;simp[h0];have h1:m*2^n≠0:=Int.mul_ne_zero h0 oG;rw[BA h0,BA h1];by_cases hl:m<0;rw[BC hl,BC (Int.mul_neg_of_neg_of_pos hl h)];rw[BA hl,BA];have:0<m*2^n:=Int.mul_pos oG h;omega
theorem v1m {m n:Int}(h:sgn m≠sgn n):Zu m n=Zu (sgn m) (sgn n):=by
 unfold sgn at*
 unfold Zu
 repeat' split at h
 all_goals repeat' split
 all_goals first | omega | rfl | (exfalso;omega)
theorem v1q {m e n f:Int}(h:sgn m≠sgn n):XM m e n f=Zu (sgn m) (sgn n):=by unfold XM;rw[v1m (by rw[GE,GE];exact h),GE,GE]
theorem v1o {e f:Int} :XM 0 e 0 f=0:=by unfold XM;simp[H6]
theorem v1r {m e n f:Int} :XM (-m) e (-n) f= -XM m e n f:=by unfold XM;rw[DU,DU,v1n]
theorem v1p {m e n f:Int} :XM n f m e= -XM m e n f:=by unfold XM;rw[Int.min_comm f e,Y0a]
theorem yk (m n:Nat)(e f:Int):XM m e n f=Xg (m*2^(e-min e f).toNat) (n*2^(f-min e f).toNat):=by unfold XM Xg;rw[CN,CN,Int.natCast_pow,Int.natCast_pow];rfl
theorem v1u {m n:Nat}{e f:Int}(hm:m≠0)(hn:n≠0)(h:(Qn m:Int)+e≠(Qn n:Int)+f):XM m e n f=Zu ((Qn m:Int)+e) ((Qn n:Int)+f):=by rw[yk,Xg];have h1:=qm m (e-min e f).toNat hm;have h2:=qm n (f-min e f).toNat hn;by_cases hl:(Qn m:Int)+e<(Qn n:Int)+f;rw[VB hl,VB];exact Int.ofNat_lt.2 (U0b (by rw[h1,h2];omega));have hlt:n*2^(f-min e f).toNat<m*2^(e-min e f).toNat:=U0b (by rw[h1,h2];omega);have hlt':=Int.ofNat_lt.2 hlt;rw[VD (a:=(Qn m:Int)+e) oG,VD hlt']
theorem v1t {m n:Nat}{e f:Int}(h:f<e):XM m e n f=Xg (m*2^(e-f).toNat) n:=by rw[yk,Int.min_eq_right oG];simp
theorem v1s {m n:Nat}{e f:Int}(h:e<=f):XM m e n f=Xg m (n*2^(f-e).toNat):=by rw[yk,Int.min_eq_left h];simp
def sm (x:Nm):Prop:=x.w.length<=1000000/\ -1000000000<=x.exp/\x.exp<=1000000000
theorem mant_zero {x:Nm} :Z6 x=0<->Qd x.w=0:=by unfold Z6;split<;>omega
def QT (x:Nm):Int:=if Qd x.w=0 then 0 else if x.neg then -1 else 1
theorem Uu (x:Nm):QT x=sgn (Z6 x):=by unfold QT sgn Z6;by_cases h:Qd x.w=0;rw[BC h];simp[h];cases hn:x.neg;simp[h];simp[h]
theorem v1g (a b:Nm):ZC a b=if QT a≠QT b\/QT a=0 then Zu (QT a) (QT b) else QT a*XM (Qd a.w) a.exp (Qd b.w) b.exp:=by
 by_cases h:QT a≠QT b;rw[BC (.inl h),ZC,Uu,Uu];rw[Uu,Uu] at h;exact v1q h;have h':QT a=QT b:=Decidable.not_not.1 h;by_cases h0:QT a=0;rw[BC (.inr h0),h0,<-h',h0];have z: ∀x,QT x=0->Z6 x=0:=fun x hx=>by unfold QT at hx;by_cases hv:Qd x.w=0;exact mant_zero.2 hv;rw[BA hv] at hx;split at hx<;>cases hx
 rw[ZC,z a h0,z b (h'▸h0),v1o];rfl;rw[BA (by simp[h',h0];rw[<-h'];exact h0)];unfold QT at h' h0;unfold QT ZC Z6;by_cases ha:Qd a.w=0;rw[BC ha] at h0;exact absurd rfl h0;by_cases hb:Qd b.w=0;rw[BC hb] at h';exact absurd h' h0;rw[BA ha,BA hb] at h';cases hna:a.neg<;>cases hnb:b.neg<;>simp[hna,hnb,ha,hb,v1r] at h'⊢
theorem Wc {α:Type}(l:List α)(i:Nat)(d:α)(h:l.length<=i):l.getD i d=d:=by rw[q_a,C2 h];rfl
theorem Gx (l:Ls)(i:Nat):Qz (l.take (i+1))=Qz (l.take i)+4294967296^i*(l.getD i 0).toNat:=by by_cases h:i<l.length;exact qL l i h;rw[BF oG,BF oG,Wc l i 0 oG];show Qz l=Qz l+4294967296^i*0;omega
theorem qO (l:Ls)(i:Nat)(h:i<=l.length):Qz l=Qz (l.take i)+4294967296^i*Qz (l.drop i):=by
 conv=>lhs;rw[<-List.take_append_drop i l]
 rw[jp,BX,DA h]
theorem qQ (l:Ls)(i:Nat)(h:i<l.length):Qz (l.drop i)=(l.getD i 0).toNat+4294967296*Qz (l.drop (i+1)):=by rw[E8 h];simp only[Qz,nD,DX,val];rw[q_a,BB h];rfl
theorem jo (l:Ls)(i:Nat)(h:l.length<=i):Qz (l.drop i)=0:=by rw[C6 h];rfl
theorem Cg (l:Ls)(i:Nat):Qz (l.drop i)=(l.getD i 0).toNat+4294967296*Qz (l.drop (i+1)):=by by_cases h:i<l.length;exact qQ l i h;rw[jo l i oG,jo l (i+1) oG,Wc l i 0 oG];rfl
theorem W0b (l:Ls)(i:Nat)(h:i<=l.length):Qz l/4294967296^i=Qz (l.drop i):=by have hb:=Gz (l.take i);rw[BX,DA h] at hb;rw[qO l i h,EU _ _ (DJ (by decide)),CP hb,CU]
theorem U1i (a o:Ls)(k s i:Nat)(hs:s<32)(hi:i<a.length)(ho:o.length=a.length+k+1)
 (hv:Qz o=Qz (a.take i)*2^(32*k+s)) (hc:(o.getD (i+k) 0).toNat<2^s) (hz: ∀j,i+k<j->o.getD j 0=0):
 let x:=(a.getD i 0).toNat*2^s
 let lo:=UInt32.ofNat ((o.getD (i+k) 0).toNat+x % 4294967296)
 let hi':=UInt32.ofNat (x/4294967296)
 x<18446744073709551616/\bOr .u32 ((o.getD (i+k) 0).toNat:Int) ((x % 4294967296:Nat):Int)=(lo.toNat:Int)/\x/4294967296=hi'.toNat/\
 Qz ((o.set (i+k) lo).set (i+k+1) hi')=Qz (a.take (i+1))*2^(32*k+s)/\hi'.toNat<2^s:=by
 intro x lo hi';have hw:(a.getD i 0).toNat<4294967296:=CH _;have h32:2^s<=2^32:=BS (by decide) oG;have hx:x<4294967296*2^s:=C5 hw (DJ (by decide));have hx64:x<18446744073709551616:=q_e hx (by have:=DP 4294967296 h32;omega);have hmod:x % 4294967296 % 2^s=0:=by have e:(4294967296:Nat)=2^s*2^(32-s):=(by rw[<-B2,show s+(32-s)=32 from oG]);show(a.getD i 0).toNat*2^s % 4294967296 % 2^s=0;rw[e,Nat.mod_mul_right_mod,Nat.mul_mod_left]
 have hlt:=CG x (show 4294967296>0 by decide);have hor:=GZ (o.getD (i+k) 0).toNat (x % 4294967296) s hc hmod;have hsum:(o.getD (i+k) 0).toNat+x % 4294967296<4294967296:=by rw[<-hor];exact FY (n:=32) (CH _) hlt
 have elo:lo.toNat=(o.getD (i+k) 0).toNat+x % 4294967296:=VL _ hsum;have hdiv:x/4294967296<2^s:=(DV (by decide)).2 oG;have ehi:hi'.toNat=x/4294967296:=VL _ oG;refine⟨hx64,?_,ehi.symm,?_,by rw[ehi];exact hdiv⟩;rw[Q2p _ _ (CH _) hlt,hor,elo];have e1:=Cc o (i+k) lo oG;have e2:=Cc (o.set (i+k) lo) (i+k+1) hi' (by simp;omega);rw[Vi,BA oG,hz (i+k+1) oG] at e2;rw[qL a i hi,BQ,<-hv];have e3:4294967296^i*(a.getD i 0).toNat*2^(32*k+s)=4294967296^(i+k)*x:=by rw[B2 4294967296 i k,Y1 k,B2];simp only[x,BW,EJ,BM]
 rw[e3,<-FH x 4294967296,CE,<-BW,show 4294967296^(i+k)*4294967296=4294967296^(i+k+1) from(B5 ..).symm];rw[elo,CE] at e1;rw[ehi] at e2;have z0:(0:UInt32).toNat=0:=rfl;rw[z0,DQ] at e2;omega
theorem j1v (a b r s:Nat)(hs:s<32):(a+4294967296*(b+4294967296*r))/2^s % 4294967296=(a+4294967296*b)/2^s % 4294967296:=by
 have e:4294967296*(b+4294967296*r)=4294967296*b+2^s*(4294967296*(2^(32-s)*r)):=by have:(4294967296:Nat)=2^s*2^(32-s):=(by rw[<-B2,show s+(32-s)=32 from oG]);have e2:2^s*(4294967296*(2^(32-s)*r))=4294967296*(2^s*2^(32-s)*r):=(by simp only[BW,EJ]);rw[e2,<-this,CE]
 rw[e,<-DK,EU _ _ (DJ (by decide)),D7]
theorem Z0o (x B j:Nat):x % B^(j+1)=x % B^j+B^j*(x/B^j % B):=by rw[B5,Nat.mod_mul]
def tz (m:Nat):Nat:=if h:m=0\/m % 2=1 then 0 else tz (m/2)+1
termination_by m
decreasing_by omega
theorem js :tz 0=0:=by rw[tz];simp
theorem qT {m:Nat}(h:m % 2=1):tz m=0:=by rw[tz,dif_pos (.inr h)]
theorem jv {m:Nat}(h0:m≠0)(h:m % 2=0):tz m=tz (m/2)+1:=by rw[tz,dif_neg oG]
theorem HM (z q:Nat)(hq:q % 2=1):tz (2^z*q)=z:=by
 induction z with
 | zero=>simp[qT hq]
 | succ z ih=>
  have hp:0<2^z:=DJ (by decide);have e:2^(z+1)*q=2*(2^z*q):=(by rw[B5];simp only[BW,EJ,BM]);have h0:2^z*q≠0:=FU oG oG;rw[e,jv oG oG,EV _ (by decide),ih]
theorem G2 (m:Nat)(h:m≠0): ∃q,q % 2=1/\m=2^tz m*q:=by
 induction m using Nat.strongRecOn with
 | _ m ih=>
  by_cases ho:m % 2=1;exact⟨m,ho,by rw[qT ho];simp⟩
  . obtain⟨q,h1,h2⟩:=ih (m/2) oG oG;refine⟨q,h1,?_⟩;rw[jv h oG,B5];have:m=2*(m/2):=oG
    conv=>lhs;rw[this,h2]
    simp only[BW,EJ,BM]
theorem Ui (m:Nat)(h:m≠0):m/2^tz m % 2=1:=by
 obtain⟨q,h1,h2⟩:=G2 m h;have:m/2^tz m=q:=by
  conv=>lhs;lhs;rw[h2]
  exact EV _ (DJ (by decide))
 rw[this,h1]
theorem Cm (m:Nat):m % 2^tz m=0:=by
 by_cases h:m=0;subst h;simp
 . obtain⟨q,_,h2⟩:=G2 m h
   conv=>lhs;lhs;rw[h2]
   exact Nat.mul_mod_right _ _
theorem Co (m:Nat):m/2^tz m*2^tz m=m:=Nat.div_mul_cancel (Nat.dvd_of_mod_eq_zero (Cm m))
theorem qU (m:Nat)(h:m≠0):tz m<Qn m:=by apply ES;intro hle;have h1:m<2^tz m:=bitlen_le_iff.1 hle;have:=Cm m;rw[BJ h1] at this;exact h this
structure Vl where
 neg:Bool
 m:Nat
 e:Int
 deriving DecidableEq
instance : Inhabited Vl:=⟨⟨false,0,0⟩⟩
def Xl (v:Vl):List PV:= [.sc (.bool v.neg),.sl .no (QD (Qs v.m)),.sc (.int .i64 v.e)]
attribute [go_sem] Xl
theorem Wh (m:Nat):(Qs m).length<=(Qn m+31)/32:=by apply k1c;rw[Y1];exact q_e (KP m) (BS (by decide) oG)
theorem HH (m:Nat):(QB m).length<=(Qn m+63)/64:=by apply Gr;rw[KI];exact q_e (KP m) (BS (by decide) oG)
theorem H8 (m k:Nat):Qn (m*2^k)<=Qn m+k:=by by_cases h:m=0;subst h;simp[VH];rw[qm m k h];exact BD _
theorem qn (m n:Nat):Qn (m+n)<=max (Qn m) (Qn n)+1:=by rw[bitlen_le_iff,B5];have h1:m<2^max (Qn m) (Qn n):=q_e (KP m) (BS (by decide) oG);have h2:n<2^max (Qn m) (Qn n):=q_e (KP n) (BS (by decide) oG);omega
theorem Wo {m n:Nat}(h:m<=n):Qn m<=Qn n:=bitlen_le_iff.2 (D1 h (KP n))
theorem ju (m:Nat):tz m<=Qn m:=by by_cases h:m=0;subst h;rw[js];exact CX _;exact F0 (qU m h)
def QK (v:Vl):Int:=if v.neg then -(v.m:Int) else(v.m:Int)
def QN (neg:Bool)(m:Nat)(e:Int):Vl:=if m=0 then⟨false,0,0⟩ else⟨neg,m/2^tz m,e+tz m⟩
def mkV (s:Int)(e:Int):Vl:=QN (decide (s<0)) s.natAbs e
def ZI (v:Vl):Vl:=if v.m=0 then v else { v with neg:= !v.neg }
def Zz (a b:Vl):Vl:=if a.m=0 then b else if b.m=0 then a else
 mkV (QK a*2^(a.e-min a.e b.e).toNat+QK b*2^(b.e-min a.e b.e).toNat) (min a.e b.e)
def Xi (v:Vl):Int:=if v.m=0 then 0 else if v.neg then -1 else 1
def Jo (a b:Vl):Vl:=Zz a (ZI b)
def XX (a b:Vl):Int:=Xi (Jo a b)
theorem GD (v:Vl):Xi v=sgn (QK v):=by unfold Xi sgn QK;by_cases h:v.m=0;rw[BC h];simp[h];cases hn:v.neg;simp[h];simp[h]
theorem k0n (s e:Int):Xi (mkV s e)=sgn s:=by
 unfold mkV QN Xi sgn;by_cases h:s=0;subst h;simp;have h1:s.natAbs≠0:=oG;rw[BA h1];have h2:s.natAbs/2^tz s.natAbs≠0:=by have:=Ui s.natAbs h1;omega
 simp only;rw[BA h2,BA h];by_cases hl:s<0;simp[hl];simp[hl]
theorem v9 (v:Vl):QK (ZI v)= -QK v:=by unfold ZI;by_cases h:v.m=0;rw[BC h];simp[QK,h];rw[BA h];unfold QK;cases v.neg<;>simp
theorem G3 (v:Vl):(ZI v).m=v.m:=by unfold ZI;split<;>rfl
theorem G4 (v:Vl):(ZI v).e=v.e:=by unfold ZI;split<;>rfl
theorem v8 {v:Vl}(h:v.m=0):QK v=0:=by unfold QK;simp[h]
theorem v1l (a b:Int):Zu a b=sgn (a-b):=by unfold Zu sgn;by_cases h1:a<b;rw[BC h1,BA oG,BC oG];by_cases h2:a>b;rw[BA h1,BC h2,BA oG,BA oG];rw[BA h1,BA h2,BC oG]
theorem J1n (a b:Vl):XX a b=XM (QK a) a.e (QK b) b.e:=by unfold XX Jo Zz XM;rw[v1l,G3,G4];by_cases ha:a.m=0;rw[BC ha,GD,v9,v8 ha,Int.zero_mul,Int.zero_sub,<-DU,GE];rw[BA ha];by_cases hb:b.m=0;rw[BC hb,GD,v8 hb,Int.zero_mul,Int.sub_zero,GE];rw[BA hb,k0n,v9,DU];rfl
def ofN (x:Nm):Vl:=⟨x.neg,Qd x.w,x.exp⟩
theorem kM (a b:Nm):XX (ofN a) (ofN b)=ZC a b:=by rw[J1n];rfl
def Qg (x:Nm):Bool:=if x.w= [] then !x.neg&&x.exp==0 else decide ((QM x.w).length=x.w.length)&&decide (x.w.length<=64)&&decide ((x.w.getD 0 0).toNat % 2=1)&&decide (-65536<=x.exp)&&decide (x.exp<=65536)
def Q6 (a b:Nm):Int:=if Qg a=true/\Qg b=true then ZC a b else 0
def XR (x:Nm):Nm:=if Qg x=true then x else⟨false,0,[]⟩
theorem QZ {x:Nm}(h:Qg x=true):sm x:=by unfold Qg at h;split at h;rename_i hw;simp at h;simp[sm,hw,h];simp at h;obtain⟨⟨⟨⟨_,h1⟩,_⟩,h2⟩,h3⟩:=h;exact⟨oG,oG,oG⟩
theorem jR {x:Nm}(h:Qg x=true):QM x.w=x.w:=by unfold Qg at h;split at h;rename_i hw;rw[hw];rfl;simp at h;have e:=h.1.1.1.1;have h2:x.w.getD (x.w.length-1) 0≠0:=(yc x.w (by assumption)).1 e;rw[yd x.w x.w.length (BD _) (fun j h1 h2=>oG) (.inr h2)];simp
def wN (x:Nm):Prop:=x.w.length<=100000000000
def wI (x:Ivl):Prop:=wN x.lo/\wN x.hi
def Qr (x:Ivl):Bool:=Qg x.lo&&Qg x.hi&&decide (ZC x.lo x.hi<=0)
def ZG (a b:Nm):Nm:=if ZC b a<0 then b else a
def Z2 (a b:Nm):Nm:=if ZC b a>0 then b else a
def V3 (a b:Ivl):Ivl×Int:=if Qr a=true/\Qr b=true then(⟨ZG a.lo b.lo,Z2 a.hi b.hi⟩,0) else(default,1)
def inI (a b:Ivl):Bool:=Qr a&&Qr b&&decide (0<=ZC a.lo b.lo)&&decide (0<=ZC b.hi a.hi)
def rightB (l:List Ivl):Bool:=l.all Qr&&decide (1<=l.length)&&decide (l.length<=4)
def Z1 {α β:Type}(F:Nat->α->β×Int):Nat->List α->List β->List β×Int
 | _,[],acc=>(acc,0)
 | i,x::l,acc=>if (F i x).2≠0 then([],(F i x).2) else Z1 F (i+1) l (acc++ [(F i x).1])
theorem ZJ {x:Ivl}(h:Qr x=true):Qg x.lo=true/\Qg x.hi=true/\ZC x.lo x.hi<=0:=by unfold Qr at h;simp at h;exact⟨h.1.1,h.1.2,h.2⟩
theorem Xc {x:Nm}(h:sm x):wN x:=by have:=h.1;unfold wN;omega
theorem vJ {P:Nm->Prop}{a b:Nm}(ha:P a)(hb:P b):P (ZG a b):=by unfold ZG;split<;>assumption
theorem Hl {P:Nm->Prop}{a b:Nm}(ha:P a)(hb:P b):P (Z2 a b):=by unfold Z2;split<;>assumption
def Wa (a b:List Ivl):List Ivl×Int:=if rightB a=true/\rightB b=true/\a.length=b.length then Z1 (fun i x=>V3 x (b.getD i default)) 0 a [] else([],1)
def YP {α:Type}[Inhabited α](f:α->α->Bool)(a b:List α):Bool:=decide (a.length=b.length)&&(List.range a.length).all fun i=>f (a.getD i default) (b.getD i default)
def inB (a b:List Ivl):Bool:=rightB a&&rightB b&&YP inI a b
theorem cmpI_le {a b:Int} :Zu a b<=0<->a<=b:=by constructor;intro h;apply F8.1;intro hl;have:=VD hl;omega;intro h;rcases Int.lt_or_eq_of_le h with h | h;rw[VB h];decide;rw[H6 h];decide
theorem H5 (a b:Nm):ZC b a= -ZC a b:=v1p
theorem IX (a:Nm):ZC a a=0:=by unfold ZC XM;exact H6 rfl
theorem U1k (a b:Nm):ZC (ZG a b) a<=0:=by unfold ZG;split;omega;rw[IX];decide
theorem U1j (a b:Nm):ZC (ZG a b) b<=0:=by unfold ZG;split;rw[IX];decide;have:=H5 b a;omega
theorem H1w (a b:Nm):ZC a (Z2 a b)<=0:=by unfold Z2;split;have:=H5 b a;omega;rw[IX];decide
theorem H1v (a b:Nm):ZC b (Z2 a b)<=0:=by unfold Z2;split;rw[IX];decide;omega
theorem zu {x:Ivl}(h1:Qg x.lo=true)(h2:Qg x.hi=true)(h3:ZC x.lo x.hi<=0):Qr x=true:=by unfold Qr;rw[h1,h2,q_h h3];rfl
theorem H1g {a b:Ivl}(ha:Qr a=true)(hb:Qr b=true):V3 a b=(⟨ZG a.lo b.lo,Z2 a.hi b.hi⟩,0):=BC ⟨ha,hb⟩
theorem xD {α β:Type}[Inhabited α](F:Nat->α->β×Int): ∀(l:List α) (i:Nat) (acc:List β),(∀j,j<l.length->(F (i+j) (l.getD j default)).2=0)->
 Z1 F i l acc=(acc++(List.range l.length).map (fun j=>(F (i+j) (l.getD j default)).1),0)
 | [],i,acc,_=>by simp[Z1]
 | x::l,i,acc,h=>by have h0:=h 0 (by simp);simp only[B1,LB] at h0;rw[Z1,BA (fun e=>e h0),xD F l (i+1) _ (fun j hj=>by have:=h (j+1) (by simp;omega);rw[List.getD_cons_succ,<-DK,Nat.add_right_comm] at this;exact this)];rw[C1,List.range_succ_eq_map,DX,DZ,BP];simp only[B1,LB,FK,CZ,and_true];congr 2;apply C4;intro j _;simp only[Function.comp,List.getD_cons_succ];rw[show i+1+j=i+j.succ from oG]
theorem zw {l:Li}(h:rightB l=true): ∀i,i<l.length->Qr (l.getD i default)=true:=by unfold rightB at h;simp only[q_i,q_d] at h;intro i hi;refine h.1.1 _ ?_;rw[q_a,BB hi];exact EA hi
theorem GN {l:Li}(h: ∀i,i<l.length->Qr (l.getD i default)=true)(h1:1<=l.length)(h2:l.length<=4):rightB l=true:=by unfold rightB;rw[q_h h1,q_h h2,List.all_eq_true.2];rfl;intro x hx;obtain⟨i,hi,rfl⟩:=CM.1 hx;have:=h i hi;rwa [q_a,BB hi] at this
theorem Wx {l:Li}(h:rightB l=true):1<=l.length/\l.length<=4:=by unfold rightB at h;simp at h;omega
theorem H1j {a b:Li}(ha:rightB a=true)(hb:rightB b=true)(hl:a.length=b.length):
 Wa a b=((List.range a.length).map (fun j=>(V3 (a.getD j default) (b.getD j default)).1),0):=by
 rw[Wa,BC ⟨ha,hb,hl⟩,xD _ a 0 [] (fun j hj=>by rw[CU,H1g (zw ha j hj) (zw hb j oG)])];simp
theorem q1d {β:Type}(n:Nat)(f:Nat->β)(i:Nat)(d:β)(h:i<n):((List.range n).map f).getD i d=f i:=by simp[q_a,h]
def wB (l:List Ivl):Prop:=l.length<=100000000000/\ ∀i,i<l.length->wI (l.getD i default)
theorem Wp {x:Nm}(h:Qg x=true):Qd x.w=0<->x.w= []:=by constructor;intro hv;rw[<-jR h,<-Xx,hv,Wq];intro hw;rw[hw];rfl
theorem Bm :wN default:=by unfold wN;show([]:Lu).length<=_;simp
theorem qG :wI default:=⟨Bm,Bm⟩
theorem Kr :wB []:=⟨by simp,fun i hi=>by simp at hi⟩
theorem H0q {a b:Ivl}(ha:wI a)(hb:wI b):wI (V3 a b).1:=by unfold V3;split;exact⟨vJ ha.1 hb.1,Hl ha.2 hb.2⟩;exact qG
theorem Bp {a b:Li}(ha:wB a)(hb:wB b):wB (Wa a b).1:=by by_cases h:rightB a=true/\rightB b=true/\a.length=b.length;rw[H1j h.1 h.2.1 h.2.2];refine⟨by simpa using ha.1,fun i hi=> ?_⟩;have hi':i<a.length:=(by simpa using hi);rw[q1d _ _ _ _ hi'];exact H0q (ha.2 i hi') (hb.2 i oG);rw[Wa,BA h];exact Kr
theorem Gc {a b:Nm}(ha:Qg a=true)(hb:Qg b=true):Q6 a b=ZC a b:=BC ⟨ha,hb⟩
set_option maxRecDepth 100000
theorem X8 (l:Lu)(st:Qc)(hl:l.length<=9223372036854775807):PR 117 [.sl .no (Qo l)] st (.sl .no (Qo (QM l))):=by refine Ql Tryz.func117 fun E=> ?_;refine Q1 [true,false,false,true] 0 0 (fun n s=>n<=l.length/\(∀j,n<=j->j<l.length->l.getD j 0=0)/\s=⟨[.sl .no (Qo l),.junk,.junk,.sc (.int .i64 n)]++jk 17,[],[],st⟩) l.length ?_ ?_;refine Qq ?_;exact fun j h1 h2=>oG;rintro n s ⟨hn,hz,rfl⟩;have out:n=0\/l.getD (n-1) 0≠0->(PV.sl Tag.no (Qo (l.take n))=PV.sl .no (Qo (QM l))):=fun h=>(by rw[yd l n hn hz h]);rcases Nat.eq_zero_or_pos n with rfl | hp;have hd:decide (((0:Nat):Int)>0)=false:=(by simp);simp-dsimp only[go_sem,hd];refine Qp ?_;exact⟨oG,out (.inl rfl)⟩;have hd:decide ((n:Int)>0)=true:=q_h oG;have e1:IntKind.i64.wrap ((n:Int)-1)=((n-1:Nat):Int):=(by rw[Q2 _ oG oG];omega);have e2:=ZK l (n-1) oG;simp-dsimp only[go_sem,hd,e1,e2];refine⟨oG,ck (fun h=> ?_) (fun h=> ?_)⟩;simp-dsimp only[go_sem,e1];refine⟨n-1,oG,oG,fun j h1 h2=> ?_,rfl⟩;by_cases hj:j=n-1;subst hj;have h':((l.getD (n-1) 0).toNat:Int)=0:=(by simpa using h);exact FE (by have:(0:UInt64).toNat=0:=rfl;omega);exact hz j oG h2;refine Qq ?_;refine Qp ?_;refine⟨oG,out (.inr fun e=> ?_)⟩;rw[e] at h;cases h
--nat.Right
theorem V1p (l:Lu)(st:Qc)(hl:l.length<=9223372036854775807):PR 65 [.sl .no (Qo l)] st (.sc (.bool (decide ((QM l).length=l.length)))):=by refine Ql Tryz.func65 fun E=> ?_;refine(X8 l st hl).Q ?_;exact B4 (fun b=>PV.sc (.bool b)) (by by_cases h:(QM l).length=l.length;rw[q_h h,h];simp;rw[q_g h];simp;omega)
theorem U0i (n:Nat)(h:n<18446744073709551616):ZV .u64 (n:Int) 1=((n % 2:Nat):Int):=by
 unfold ZV;have e:(BitVec.ofInt IntKind.u64.bits (n:Int)&&&BitVec.ofInt IntKind.u64.bits 1).toNat=n % 2:=by have e1:BitVec.ofInt IntKind.u64.bits (n:Int)=BitVec.ofNat 64 n:=(by simp[IntKind.bits]);have e2:BitVec.ofInt IntKind.u64.bits 1=BitVec.ofNat 64 1:=rfl;rw[e1,e2];show(BitVec.ofNat 64 n&&&BitVec.ofNat 64 1).toNat=n % 2;rw[BitVec.toNat_and,D2,D2,BJ (by omega:n<2^64)];exact Nat.and_one_is_mod n
 rw[e];exact JJ _ oG
theorem XY (x:Nm)(st:Qc)(hl:x.w.length<=9223372036854775807):PR 30 [.agg (Qf x)] st (.sc (.bool (Qg x))):=by
 refine Ql Tryz.func30 fun E=> ?_;have hlen:(((x.w.length:Nat):Int)==0)=decide (x.w= []):=by
  cases hw:x.w<;>simp
  omega
 refine ck ?_ ?_<;>intro h;have hw:x.w= []:=(by rw[hlen] at h;exact q_b h);simp-dsimp only[go_sem,h];refine gkT ?_ ?_<;>intro h1;simp-dsimp only[go_sem,h,h1];simp[Qg,hw,h1];simp-dsimp only[go_sem,h,h1];simp[Qg,hw,h1]
 . have hw:x.w≠ []:=by rw[hlen] at h;exact q_c h
   simp-dsimp only[go_sem,h];refine(V1p x.w st hl).q ?_;simp-dsimp only[go_sem,h];have e0:=ZK x.w 0 (by cases hx:x.w with | nil=>exact absurd hx hw | cons=>simp);have e1:=U0i (x.w.getD 0 0).toNat (x.w.getD 0 0).toNat_lt;have hpos:0<x.w.length:=EL.2 hw
   repeat' (first
    | (refine gkF (fun h=> ?_) (fun h=> ?_)<;>simp-dsimp only[go_sem,h,e0,e1])
    | (refine gkT (fun h=> ?_) (fun h=> ?_)<;>simp-dsimp only[go_sem,h,e0,e1])
    | (refine ck (fun h=> ?_) (fun h=> ?_)<;>simp-dsimp only[go_sem,h,e0,e1])
    | refine And.intro oG ?_)
   all_goals simp_all [Qg]
   all_goals omega
theorem Jy (x:Nm)(st:Qc)(hl:x.w.length<=9223372036854775807):PR 49 [.agg (Qf x)] st (.sc (.bool (Qg x))):=by
 refine Ql Tryz.func49 fun E=> ?_;have hlen:(((x.w.length:Nat):Int)==0)=decide (x.w= []):=by
  cases hw:x.w<;>simp
  omega
 refine ck ?_ ?_<;>intro h;have hw:x.w= []:=(by rw[hlen] at h;exact q_b h);simp-dsimp only[go_sem,h];refine gkT ?_ ?_<;>intro h1;simp-dsimp only[go_sem,h,h1];simp[Qg,hw,h1];simp-dsimp only[go_sem,h,h1];simp[Qg,hw,h1]
 . have hw:x.w≠ []:=by rw[hlen] at h;exact q_c h
   have hpos:0<x.w.length:=EL.2 hw;have e0:=ZK x.w 0 hpos;have e1:=U0i (x.w.getD 0 0).toNat (x.w.getD 0 0).toNat_lt;have e2:IntKind.i64.wrap ((x.w.length:Int)-1)=((x.w.length-1:Nat):Int):=(by rw[Q2 _ oG oG];omega);have e3:=ZK x.w (x.w.length-1) oG;have hc:=yc x.w hw;simp-dsimp only[go_sem,h]
   repeat' (first
    | (refine gkF (fun h=> ?_) (fun h=> ?_)<;>simp-dsimp only[go_sem,h,e0,e1,e2,e3])
    | (refine gkT (fun h=> ?_) (fun h=> ?_)<;>simp-dsimp only[go_sem,h,e0,e1,e2,e3])
    | (refine ck (fun h=> ?_) (fun h=> ?_)<;>simp-dsimp only[go_sem,h,e0,e1,e2,e3])
    | refine And.intro oG ?_)
   all_goals rw[Qg,BA hw]
   all_goals clear e0 e1 e2 e3 hlen
   all_goals generalize x.w.getD (x.w.length-1) 0=z at*
   all_goals have hz:z=0<->z.toNat=0:=⟨fun h=>by rw[h];rfl,fun h=>FE h⟩
   all_goals simp_all
   all_goals omega
theorem WY (x y:Nm)(st:Qc)(hl:x.w.length<=9223372036854775806)(hl2:y.w.length<=9223372036854775806):PR 22 [.agg (Qf x),.agg (Qf y)] st (.sc (.bool (decide (x=y)))):=by
 refine Ql Tryz.func22 fun E=> ?_
 repeat' (first
  | (refine gkF (fun h=> ?_) (fun h=> ?_)<;>simp-dsimp only[go_sem,h])
  | (refine gkT (fun h=> ?_) (fun h=> ?_)<;>simp-dsimp only[go_sem,h])
  | (refine ck (fun h=> ?_) (fun h=> ?_)<;>simp-dsimp only[go_sem,h])
  | refine And.intro oG ?_)
 case refine_1.refine_1.refine_2=>
  have hneg:= ‹(!x.neg==y.neg)=false›;have hexp:= ‹(x.exp !=y.exp)=false›;have hn:= ‹((x.w.length:Int) !=(y.w.length:Int))=false›;have hneg':x.neg=y.neg:=(by cases hx:x.neg<;>cases hy:y.neg<;>simp[hx,hy] at hneg⊢);have hexp':x.exp=y.exp:=by simpa using hexp
  have hn':x.w.length=y.w.length:=by have:(x.w.length:Int)=y.w.length:=by simpa using hn
                                     omega
  refine Q1 [false,false,true,true,false,true] 2 0 (fun n s=> ∃i,n=x.w.length-i/\i<=x.w.length/\(∀j,j<i->x.w.getD j 0=y.w.getD j 0)/\s=⟨[.junk,.junk,.lp 0 0,.lp 1 0,.junk,.sc (.int .i64 i)]++jk 39,[Qf x,Qf y],[],st⟩) x.w.length ?_ ?_;refine Qq ?_;exact⟨0,oG,oG,fun j hj=>oG,rfl⟩;rintro n s ⟨i,rfl,hi,hj,rfl⟩;refine QS ?_ ?_<;>intro h;have hlt:i<x.w.length:=(oT h);have e1:=ZK x.w i hlt;have e2:=ZK y.w i oG;have e3:=J2v i oG;simp-dsimp only[go_sem,h];refine Q8 45 (Qk [0,1,2,3,4,5,6,7,8,9,10] .done) ?_;simp-dsimp only[go_sem,h,e1,e2];refine⟨oG,oG,ck (fun h2=> ?_) (fun h2=> ?_)⟩;simp-dsimp only[go_sem,h2];rw[q_g (fun e=>by subst e;simp at h2)];simp-dsimp only[go_sem,h2,e3];refine⟨x.w.length-(i+1),oG,i+1,rfl,oG,fun j hj'=> ?_,rfl⟩;by_cases hji:j=i
  subst hji;exact FE (by have:((x.w.getD j 0).toNat:Int)=(y.w.getD j 0).toNat:=by simpa using h2
                         omega)
  exact hj j oG;have hge:i=x.w.length:=(oF h);simp-dsimp only[go_sem,h];refine Qb ?_;simp-dsimp only[go_sem,h];rw[q_h];have hw:x.w=y.w:=C9 hn' fun j h1 h2=>by have:=hj j oG;simpa[q_a,h1,h2] using this
  cases x;cases y;simp_all
 all_goals rw[q_g (fun e=>by subst e;simp at*)]
theorem J0f (a:Int)(st:Qc):PR 251 [.sc (.int .i64 a)] st (.sc (.bool false)):=by refine Qh none Tryz.func251 rfl fun E=>Qb ?_;exact QA
theorem J0e (a:Int)(st:Qc):PR 302 [.sc (.int .i64 a)] st (.sc (.bool false)):=by refine Qh none Tryz.func302 rfl fun E=>Qb ?_;exact QA
theorem J0d (a:Int)(st:Qc):PR 337 [.sc (.int .u64 a)] st (.sc (.bool false)):=by refine Qh none Tryz.func337 rfl fun E=>Qb ?_;exact QA
theorem xK (a b:Int)(st:Qc):PR 172 [.sc (.int .i64 a),.sc (.int .i64 b)] st (.sc (.int .i64 (Zu a b))):=by
 refine Ql Tryz.func172 fun E=> ?_;refine(J0f a st).Q ?_;refine(J0f b st).Q ?_
 repeat' (refine ck (fun h=> ?_) (fun h=> ?_)<;>simp-dsimp only[go_sem,h])
 all_goals simp_all [Zu]
 rw[BA oG,BA oG]
theorem v1x (a b:Int)(st:Qc):PR 252 [.sc (.int .i64 a),.sc (.int .i64 b)] st (.sc (.int .i64 (Zu a b))):=by
 refine Ql Tryz.func252 fun E=> ?_;refine(J0e a st).Q ?_;refine(J0e b st).Q ?_
 repeat' (refine ck (fun h=> ?_) (fun h=> ?_)<;>simp-dsimp only[go_sem,h])
 all_goals simp_all [Zu]
 rw[BA oG,BA oG]
theorem v1w (a b:Int)(st:Qc):PR 303 [.sc (.int .u64 a),.sc (.int .u64 b)] st (.sc (.int .i64 (Zu a b))):=by
 refine Ql Tryz.func303 fun E=> ?_;refine(J0d a st).Q ?_;refine(J0d b st).Q ?_
 repeat' (refine ck (fun h=> ?_) (fun h=> ?_)<;>simp-dsimp only[go_sem,h])
 all_goals simp_all [Zu]
 rw[BA oG,BA oG]
theorem YC (T:Array UInt8)(hs:T.size=256)(hT: ∀n:Fin 256,(T.getD n 0).toNat=Qn n)(v m k:Nat)(c d:Int)(hm:v/2^k=m)(h:m<256)(hk:k=0\/m≠0)(hk2:k<=56)(hc:c=(m:Int))(hd:d=(k:Int)):
 (IntKind.u8.wrap c).toNat<T.size/\PV.sc (.int .i64 (IntKind.i64.wrap (d+IntKind.i64.wrap ((T.getD (IntKind.u8.wrap c).toNat 0).toNat:Int))))=PV.sc (.int .i64 (Qn v)):=by
 subst hc hd;have e1:(IntKind.u8.wrap (m:Int)).toNat=m:=(by rw[Bc,BJ h];simp);rw[e1,hs];refine⟨h,?_⟩;have hT':=hT ⟨m,h⟩;simp only at hT';rw[hT'];have hb:Qn v=Qn m+k:=by rcases hk with rfl | hk;simp at hm;simp[hm];rw[<-hm];exact y7 v k (by rw[hm];exact hk)
 have hle: ∀n:Fin 256,Qn n<=8:=(by decide+kernel);have hm8:=hle ⟨m,h⟩;simp only at hm8;have w1:IntKind.i64.wrap ((Qn m:Nat):Int)=(Qn m:Int):=Q2 _ oG oG;have w2:IntKind.i64.wrap ((k:Int)+(Qn m:Int))=(k:Int)+(Qn m:Int):=Q2 _ oG oG;rw[w1,w2,hb];congr 2;omega
theorem X0w (v:Nat)(hv:v<18446744073709551616)(st:Qc):PR 187 [.sc (.int .u64 v)] st (.sc (.int .i64 (Qn v))):=by
 refine Qh none Tryz.func187 rfl fun E=>Qb ?_;have s32:Z7 .u64 (v:Int) 32=((v/2^32:Nat):Int):=qt .u64 v 32 (by decide);have s16: ∀v:Nat,Z7 .u64 (v:Int) 16=((v/2^16:Nat):Int):=fun v=>qt .u64 v 16 (by decide);have s8: ∀v:Nat,Z7 .u64 (v:Int) 8=((v/2^8:Nat):Int):=fun v=>qt .u64 v 8 (by decide);refine QS (fun h1=> ?_) (fun h1=> ?_)<;>simp-dsimp only[go_sem,h1,s32]<;>
  refine ck (fun h2=> ?_) (fun h2=> ?_)<;>simp-dsimp only[go_sem,h1,s32,s16]<;>
  refine ck (fun h3=> ?_) (fun h3=> ?_)<;>simp-dsimp only[go_sem,h1,s32,s16,s8]
 all_goals simp only[BN,decide_eq_false_iff_not] at h1 h2 h3
 exact YC _ (by decide+kernel) (by decide+kernel) v _ 56 _ _ rfl oG (.inr oG) (by decide) (by rw[CV,CV]) (by decide);exact YC _ (by decide+kernel) (by decide+kernel) v _ 48 _ _ rfl oG (.inr oG) (by decide) (by rw[CV]) (by decide);exact YC _ (by decide+kernel) (by decide+kernel) v _ 40 _ _ rfl oG (.inr oG) (by decide) (by rw[CV]) (by decide);exact YC _ (by decide+kernel) (by decide+kernel) v _ 32 _ _ rfl oG (.inr oG) (by decide) rfl (by decide);exact YC _ (by decide+kernel) (by decide+kernel) v _ 24 _ _ rfl oG (.inr oG) (by decide) (by rw[CV]) (by decide);exact YC _ (by decide+kernel) (by decide+kernel) v _ 16 _ _ rfl oG (.inr oG) (by decide) rfl (by decide);exact YC _ (by decide+kernel) (by decide+kernel) v _ 8 _ _ rfl oG (.inr oG) (by decide) rfl (by decide);exact YC _ (by decide+kernel) (by decide+kernel) v _ 0 _ _ rfl oG (.inl rfl) (by decide) (by simp) (by decide)
theorem Y8 (l:Lu)(st:Qc)(hl:l.length<=100000000000000000):PR 118 [.sl .no (Qo l)] st (.sc (.int .i64 (Zc l))):=by
 refine Ql Tryz.func118 fun E=> ?_;refine(X8 l st oG).Q ?_;have hle:=Km l;refine ck ?_ ?_<;>intro h;simp-dsimp only[go_sem,h];have:QM l= []:=by
  cases hc:QM l with
  | nil=>rfl
  | cons a t=>rw[hc] at h;simp at h;omega
 rw[show Zc l=0 from by rw[Zc,(k1r l).1 this];rfl];rfl;have hne:QM l≠ []:=fun e=>(by rw[e] at h;simp at h);have hpos:0<(QM l).length:=EL.2 hne;have e2:IntKind.i64.wrap (((QM l).length:Int)-1)=(((QM l).length-1:Nat):Int):=(by rw[Q2 _ oG oG];omega);have e3:=ZK (QM l) ((QM l).length-1) oG;simp-dsimp only[go_sem,h,e2,e3];refine And.intro oG ?_;refine(X0w _ (BT _) st).q ?_;simp-dsimp only[go_sem,h,e2,e3];have hb:=U0c ((QM l).getD ((QM l).length-1) 0).toNat (BT _);rw[Q2 (64*_) oG oG,Q2 _ oG oG,y1s l hne];congr 2
theorem v1y (l:Lu)(st:Qc)(hl:l.length<=10000000000000):PR 327 [.sl .no (Qo l)] st (.sl (.fresh 1) (Qo l)):=by refine Qh (some 1) Tryz.func327 rfl fun E=>Qb ?_;refine Qq ?_;intro b hb;cases b;refine Qq ?_;omega;have:l= []:=(by have:=hb rfl;simpa[Qo] using this);subst this;exact QA
theorem za (l:Lu)(st:Qc)(hl:l.length<=10000000000000):PR 287 [.sl .no (Qo l)] st (.sl (.fresh 1) (Qo (QM l))):=by refine Ql Tryz.func287 fun E=> ?_;refine(X8 l st oG).Q ?_;refine(v1y _ st (B7 (Km l) hl)).Q0
theorem xd (a b:Lu)(st:Qc)(ha:a.length<=10000000000000)(hb:b.length<=10000000000000):PR 253 [.sl .no (Qo a),.sl .no (Qo b)] st (.sc (.int .i64 (Xg (Qd a) (Qd b)))):=by
 refine Ql Tryz.func253 fun E=> ?_;refine(X8 a st oG).Q ?_;refine(X8 b st oG).Q ?_;have la:=Km a;have lb:=Km b;have ea:QM (QM a)=QM a:=(by rw[<-Xx a,IU]);have eb:QM (QM b)=QM b:=(by rw[<-Xx b,IU]);rw[<-KS a,<-KS b];generalize QM a=a at*
 generalize QM b=b at*
 refine ck ?_ ?_<;>intro h;have hne:a.length≠b.length:=Ve h;refine Qq ?_;refine(xK _ _ st).Q ?_;rw[v1d ea eb hne];have hlen:a.length=b.length:=Kg h;have e1:IntKind.i64.wrap ((a.length:Int)-1)=(a.length:Int)-1:=Q2 _ oG oG;simp-dsimp only[go_sem,e1];refine Q1 [true,true,false,false,false,true] 0 0 (fun n s=>n<=a.length/\(∀j,n<=j->j<a.length->a.getD j 0=b.getD j 0)/\s=⟨[.sl .no (Qo a),.sl .no (Qo b),.junk,.junk,.junk,.sc (.int .i64 ((n:Int)-1))]++jk 39,[],[],st⟩) a.length ?_ ?_;refine Qq ?_;exact fun j h1 h2=>oG;rintro n s ⟨hn,hz,rfl⟩;refine QS ?_ ?_<;>intro h;have hp:0<n:=(oT h);have e0:((n:Int)-1)=((n-1:Nat):Int):=oG;have g1:=ZK a (n-1) oG;have g2:=ZK b (n-1) oG;have e3:IntKind.i64.wrap (((n-1:Nat):Int)-1)=((n-1:Nat):Int)-1:=Q2 _ oG oG;refine Qq ?_;rw[e0];refine Q8 45 (Qk [0,1,2,3,4,5,6,7,8] .done) ?_;simp-dsimp only[go_sem,g1,g2];refine⟨oG,oG,ck (fun h2=> ?_) (fun h2=> ?_)⟩;have hne:a.getD (n-1) 0≠b.getD (n-1) 0:=fun e=>(by rw[e] at h2;simp at h2);refine Qq ?_;refine Q8 45 (Qk [0,1,2,3,4,5,6,7,8,9] .done) ?_;simp-dsimp only[go_sem,g1,g2];refine⟨oG,oG,?_⟩;refine(v1w _ _ st).Q ?_;rw[v1e hlen (n-1) oG (fun j h1 h2=>hz j oG h2) hne];have heq:a.getD (n-1) 0=b.getD (n-1) 0:=FE (Kg h2);simp-dsimp only[go_sem,e3];refine⟨n-1,oG,oG,fun j h1 h2=> ?_,rfl⟩;by_cases hj:j=n-1;subst hj;exact heq;exact hz j oG h2;have h0:n=0:=(oF h);refine Qq ?_;refine Qp ?_;rw[IM 0 hlen (fun j hj=>hz j oG hj),Xg,H6 rfl]
theorem q0e (a o:Lu)(k s i:Nat)(hs:s<64)(hi:i<a.length)(ho:o.length=a.length+k+1)
 (hv:Qd o=Qd (a.take i)*2^(64*k+s)) (hc:(o.getD (i+k) 0).toNat<2^s) (hz: ∀j,i+k<j->o.getD j 0=0):
 let w:=(a.getD i 0).toNat
 let lo:=UInt64.ofNat ((o.getD (i+k) 0).toNat+w*2^s % 18446744073709551616)
 let hi':=UInt64.ofNat (w/2^(64-s))
 bOr .u64 ((o.getD (i+k) 0).toNat:Int) (Jr .u64 (w:Int) (s:Int))=(lo.toNat:Int)/\Z7 .u64 (w:Int) ((64-s:Nat):Int)=(hi'.toNat:Int)/\
 Qd ((o.set (i+k) lo).set (i+k+1) hi')=Qd (a.take (i+1))*2^(64*k+s)/\hi'.toNat<2^s:=by
 intro w lo hi';have hw:w<18446744073709551616:=BT _;have hlt:=CG (w*2^s) (show 18446744073709551616>0 by decide);have hor:=GZ (o.getD (i+k) 0).toNat (w*2^s % 18446744073709551616) s hc (vk w s oG);have hsum:(o.getD (i+k) 0).toNat+w*2^s % 18446744073709551616<18446744073709551616:=by rw[<-hor];exact FY (n:=64) (BT _) hlt
 have elo:lo.toNat=(o.getD (i+k) 0).toNat+w*2^s % 18446744073709551616:=Xz _ hsum;have hsr:=Ez w s hw oG;have h2:2^s<=2^64:=BS (by decide) oG;have ehi:hi'.toNat=w/2^(64-s):=Xz _ oG;refine⟨?_,?_,?_,by rw[ehi];exact hsr⟩;rw[YM w s oG,qu _ _ (BT _) hlt,hor,elo];rw[Vq w (64-s) oG,ehi];have e1:=Gw o (i+k) lo oG;have e2:=Gw (o.set (i+k) lo) (i+k+1) hi' (by simp;omega);rw[Vi,BA oG,hz (i+k+1) oG] at e2;rw[WN a i hi,BQ,<-hv];have e3:18446744073709551616^i*w*2^(64*k+s)=18446744073709551616^(i+k)*(w*2^s):=by rw[B2 18446744073709551616 i k,KI k,B2];simp only[BW,EJ,BM]
 show _=_+18446744073709551616^i*w*2^(64*k+s);rw[e3,Mb w s hw oG,CE,<-BW,show 18446744073709551616^(i+k)*18446744073709551616=18446744073709551616^(i+k+1) from(B5 ..).symm];rw[elo,CE] at e1;rw[ehi] at e2;have z0:(0:UInt64).toNat=0:=rfl;rw[z0,DQ] at e2;omega
theorem HL (a:Lu)(n:Nat)(st:Qc)(ha:a.length<=1000000000000)(hn:n<=1000000000000):PR 218 [.sl .no (Qo a),.sc (.int .i64 n)] st (.sl .no (Qo (QB (Qd a*2^n)))):=by
 refine Ql Tryz.func218 fun E=> ?_;refine(X8 a st oG).Q ?_;have la:=Km a;rw[<-KS a];generalize QM a=a at*
 refine ck ?_ ?_<;>intro h;have h0:a= []:=BZ.1 (JS (b:=0) h);subst h0;refine Qq ?_;simp[Vv,Wq,j1b];have h0:0<a.length:=(by have:=V2 (b:=0) h;omega);have eq:IntKind.i64.wrap ((n:Int).tdiv 64)=((n/64:Nat):Int):=(by rw[show(64:Int)=((64:Nat):Int) from rfl,Uj,QP _ oG]);have er:(n:Int).tmod 64=((n % 64:Nat):Int):=(by rw[show(64:Int)=((64:Nat):Int) from rfl,Yv]);have hnk:n=64*(n/64)+n % 64:=oG;generalize n/64=k at*
 generalize hs:n % 64=s at*
 have hs':s<64:=oG;have e1:IntKind.i64.wrap ((a.length:Int)+(k:Int))=((a.length+k:Nat):Int):=(by rw[<-C7,QP _ oG]);have e2:IntKind.i64.wrap (((a.length+k:Nat):Int)+1)=((a.length+k+1:Nat):Int):=(by rw[show(((a.length+k:Nat):Int)+1)=((a.length+k+1:Nat):Int) from rfl,QP _ oG]);obtain⟨m0,hm0⟩: ∃m0,m0=a.length+k+1:=⟨_,rfl⟩;rw[<-hm0] at e2;simp-dsimp only[go_sem,eq,er,e1,e2];refine⟨⟨oG,oG,oG⟩,?_⟩;refine Q1 ([false,false,false,false,false,true,true,true]++rF 17++ [true,true,true]) 1 0
  (fun m s'=> ∃i o,m=a.length-i/\i<=a.length/\o.length=m0/\Qd o=Qd (a.take i)*2^(64*k+s)/\(o.getD (i+k) 0).toNat<2^s/\(∀j,i+k<j->o.getD j 0=0)/\
   s'=⟨[.junk,.junk,.junk,.junk,.junk,.sc (.int .i64 k),.sc (.int .i64 s),.ms false 0 0 m0]++jk 17++ [.sl .no (Qo a),.sc (.int .i64 a.length),.sc (.int .i64 i)]++jk 28,[Qo o],[],st⟩) a.length ?_ ?_
 refine Qq ?_;refine⟨0,List.replicate m0 0,oG,oG,by simp,by simp[Bv,Vv],?_,fun j hj=>IB _ _ _,rfl⟩;rw[IB];exact DJ (by decide);rintro m s' ⟨i,o,rfl,hi,ho,hv,hc,hz,rfl⟩;refine QS ?_ ?_<;>intro h;have hlt:i<a.length:=(oT h);have g1:=ZK a i hlt;have g2:=ZK o (i+k) oG;obtain⟨s1,s2,s3,s4⟩:=q0e a o k s i hs' hlt oG hv hc hz;have x1:IntKind.i64.wrap ((i:Int)+(k:Int))=((i+k:Nat):Int):=(by rw[<-C7,QP _ oG]);have x2:IntKind.i64.wrap (((i+k:Nat):Int)+1)=((i+k+1:Nat):Int):=(by rw[show(((i+k:Nat):Int)+1)=((i+k+1:Nat):Int) from rfl,QP _ oG]);have x3:IntKind.i64.wrap (64-(s:Int))=((64-s:Nat):Int):=(by rw[show 64-(s:Int)=((64-s:Nat):Int) from oG,QP _ oG]);have x4:=J2v i oG;have x5:decide (0<=(s:Int))=true:=q_h oG;have x6:decide (0<=((64-s:Nat):Int))=true:=q_h oG;simp-dsimp only[go_sem,g1];refine⟨oG,?_⟩;refine Q8 43 (Qk [0,1,2,3,4,5,6,7,8,9,10,11] .done) ?_;have o1:=Yi o (i+k) (UInt64.ofNat ((o.getD (i+k) 0).toNat+(a.getD i 0).toNat*2^s % 18446744073709551616)) (show i+k<o.length by omega);have o2:=Yi (o.set (i+k) (UInt64.ofNat ((o.getD (i+k) 0).toNat+(a.getD i 0).toNat*2^s % 18446744073709551616))) (i+k+1) (UInt64.ofNat ((a.getD i 0).toNat/2^(64-s))) (by simp;omega);simp-dsimp only[go_sem,x1,x2,x3,x4,g2,s1,s2,x5,x6,o1,o2];refine⟨⟨oG,oG⟩,oG,⟨oG,oG⟩,⟨oG,oG⟩,⟨oG,oG⟩,⟨by simp;omega,by simp;omega⟩,a.length-(i+1),oG,i+1,_,rfl,oG,by simp[ho],s3,?_,fun j hj=> ?_,rfl⟩;rw[show i+1+k=i+k+1 from oG,Vi,BC ⟨rfl,by simp;omega⟩];exact s4;rw[Vi,BA oG,Vi,BA oG,hz j oG];have hge:i=a.length:=(oF h);subst hge;have ht:o.take m0=o:=BF oG;have hle:m0<=o.length:=oG;refine Qq ?_;refine Z5 0 ?_ ?_;exact QA;refine Qb ?_;simp-dsimp only[go_sem,ht,hle];refine(X8 o st oG).Q ?_;rw[<-Xx o,hv,B0,hnk]
def flat (ys:List PV):List PV:=(ys.map PV.cells).flatten
theorem xw (y:PV)(ys:Lp):flat (y::ys)=y.cells++flat ys:=by simp[flat]
theorem Kj {sz:Nat} : ∀ {ys:Lp},(∀i,i<ys.length->(ys.getD i .junk).cells.length=sz)->(flat ys).length=ys.length*sz
 | [],_=>by simp[flat]
 | y::ys,h=>by have h0:y.cells.length=sz:=h 0 (by simp);rw[xw,BH,h0,Kj (ys:=ys) (fun i hi=>h (i+1) (by simpa using hi)),C1,BQ];omega
theorem Vk {sz:Nat} : ∀ {ys:Lp},(∀i,i<ys.length->(ys.getD i .junk).cells.length=sz)-> ∀m,m<ys.length*sz->(flat ys).getD m .junk=(ys.getD (m/sz) .junk).cells.getD (m % sz) .junk
 | [],_,m,hm=>by simp at hm
 | y::ys,h,m,hm=>by
  have h0:y.cells.length=sz:=h 0 (by simp);have hp:0<sz:=by refine Nat.pos_of_ne_zero fun e=> ?_;rw[e] at hm;simp at hm
  rw[xw];by_cases hlt:m<sz;rw[QV _ _ _ _ oG,CP hlt,BJ hlt];rfl;have hm':m-sz<ys.length*sz:=(by rw[C1,BQ] at hm;omega);rw[Zi _ _ _ _ oG,h0,Vk (ys:=ys) (fun i hi=>h (i+1) (by simpa using hi)) _ hm'];have e1:m/sz=(m-sz)/sz+1:=Nat.div_eq_sub_div hp oG;rw[e1,<-Nat.mod_eq_sub_mod oG];rfl
theorem xp {w:Lw}{g:Gh}{F:Fr}{T:Lv}{v:Value}(h:RepF w g F T v (.sl .full [])): ∃ad,v= .slice ad 0 0:=by
 have h':Rep w g v (.sl .full []):=by cases h with | base _ _ h=>exact h
 have key: ∀es:List PV,es= []->Rep w g v (.sl .full es)-> ∃ad,v= .slice ad 0 0:=fun es he h=>by
  cases h with
  | nil t ad ht=>exact⟨ad,rfl⟩
  | sl t es b off sz cap cf ht hf hcap hsz hvis hc hr=>
   have:=hf rfl;subst he;exact⟨_,by rw[this];rfl⟩
 exact key [] rfl h'
theorem Q2z {P:Pg}{E:Ent}{a:Act}{w:Lw}{g:Gh}{F:Fr}{s:PFS}{t tx e':Lt}{e:EI}(hu:P.underlying t=some (.slice e.id))(hei:ei P e.id=some e)(hu2:P.underlying tx=some (.slice e')){ys:Lp}{v x:Value}{ty:Lt}
 (h:FSRep E a w g F s) (hv:RepF w g F s.T v (.sl .full [])) (hx:Rep w g x (.sl .no ys)) (hok:WK [] ys e) (h0:0<ys.length):
 X9 P E a w (do pure (.value (<-Builtin.append_ #[t,tx] ty #[v,x]))) (.ms false s.L.length 0 ys.length) { s with L:=s.L++ [flat ys] } :=by
 obtain⟨c1,c2,c3,_,c5⟩:=hok;obtain⟨news,hs⟩:=G8 (P:=P) hu2 hx c5;obtain⟨i,u,hi,hu',he⟩:=JW hei;have e1:i.size=e.sz:=(by rw[he]);have e2:i.bytes=e.by_:=(by rw[he]);obtain⟨z,hz,hzs⟩: ∃z,i.zero=some z/\z.cells.size=i.size:=by have:=B4 EI.zok he;rw[c1] at this;simp only at this;split at this;rename_i z hz;exact⟨z,hz,by simpa using this.symm⟩;cases this
 obtain⟨ad,rfl⟩:=xp hv;rw[<-e1] at hs;have hnl:news.length=ys.length*i.size:=hs.src.newsLen;have hcap:0<0+ys.length:=oG;have hold:(Builtin.firstCells i.size 0 (.slice ad 0 0)).run P w.drew= .ok ([]:Ps).toArray w.drew:=by
  cases ad with
  | none=>exact run_firstCells_none _ _ _ _ _
  | some a=>simp[Builtin.firstCells,loadCells,loadCellsFrom]
 simp only[D6,CU] at c2 c3;have hrun:=run_append_grow_src (P:=P) w t tx ty e.id i z hu hi hz ad 0 0 [] hold x ys.length news hs.src hcap oG (growslice_fits hcap (by rw[e2,CU];exact c3));generalize hvs:(([]:Ps)++news).toArray++Builtin.zeroCells z.cells (grownCap w (0+ys.length) 0 e.id-(0+ys.length))=vs at hrun;obtain⟨d1,d2⟩:=h.drew;have hfl:=Kj hs.each;have hge:=grownCap_ge w (0+ys.length) 0 e.id;have hsz:(flat ys).length<=vs.size:=by rw[<-hvs,Array.size_append,hfl];simp only[CQ,EY,hnl];omega
 obtain⟨g',F',f1,f2,f3,f4⟩:=d1.box_new_le e.id vs (flat ys) hsz (fun m hm=>by rw[hfl] at hm;have hlo:m<(([]:Ps)++news).toArray.size:=(by simp only[CQ,EY,hnl];exact hm);rw[<-hvs,Array.getD_append_left' _ _ _ _ hlo,Vh,Vk hs.each m hm,CQ];exact .base _ _ ((hs.rep m hm).mono (qa w g).le));refine⟨_,_,g',F',by simp only[Sem.run_bind,hrun,Result.andThen_ok,Sem.run_pure];rfl,f1,.inl ⟨_,rfl,?_⟩⟩;rw[CU];rw[CU] at hge;have:=RepF.lms (w:=w.drew.alloc (.cells vs e.id)) (g:=g') (F:=F') (T:=s.T) s.L.length 0 ys.length (grownCap w ys.length 0 e.id) f3 hge;rw[f2] at this;exact this
def yH (T U:Option TI)(x y:PV)(s:PFS)(K:PV->PFS->Prop):Prop:=
 match T,U,x,y with
 | some ⟨_,_,.slice e,_⟩,some ⟨_,_,.slice _,_⟩,.sl .full [],.sl _ ys=>(WK [] ys e/\0<ys.length)/\K (.ms false s.L.length 0 ys.length) { s with L:=s.L++ [flat ys] }
 | _,_,_,_=>False
def Gm (P:Program)(o:Oper)(K:PFS->Prop)(s:PFS):Prop:=
 match o.op with
 | .call { callee:= .builtin .append,args,argTypes } =>
  match argTypes.toList,args.toList with
  | [t,u],[x,y]=>yH (ti P t) (ti P u) (s.ev x) (s.ev y) s (fun p s'=>K (s'.put o.dst p))
  | _,_=>False
 | _=>False
theorem Z2y {P:Pg}{E:Ent}{a:Act}{w:Lw}{g:Gh}{F:Fr}{s:PFS}{o:Oper}{K:Pf}(h:FSRep E a w g F s)(hp:Gm P o K s){next:Act->World->Prop}{Q:Pt}
 (hn: ∀a' w' g' F' s',FSRep E a' w' g' F' s'->K s'->next a' w'):o.wp P a w next Q:=by
 unfold Gm at hp;split at hp;rotate_left;exact hp.elim;rename_i args ts heq;split at hp;rotate_left;exact hp.elim;rename_i t u o1 o2 hts hargs;unfold yH at hp;split at hp;rotate_left;exact hp.elim;rename_i e _ _ _ e2 _ tg ys hT hU h1 h2;obtain⟨⟨c1,c2⟩,hk⟩:=hp;obtain⟨_,_,_,hu,hT'⟩:=QU hT;obtain⟨rfl,hei⟩:=ZH (B4 TI.ud hT').symm;obtain⟨_,_,_,hu2,hU'⟩:=QU hU;obtain⟨rfl,_⟩:=ZH (B4 TI.ud hU').symm;have ha:args= #[o1,o2]:=(by rw[<-hargs]);have ht:ts= #[t,u]:=(by rw[<-hts]);subst ha ht;have hv:=h.ev o1;rw[h1] at hv;have hx:=h.ev o2;rw[h2] at hx;obtain⟨nx,w',g',F',r1,r2,r3⟩:=Q2z (P:=P) (ty:=o.type) hu hei hu2 h hv hx.slNo c1 c2;have hex:(execOp a.eval o).run P w= .ok nx w':=by unfold execOp;simp only[heq,resolve,invoke,Sem.run_bind,Sem.run_pure,Result.andThen_ok];show(do pure (Next.value (<-Builtin.append_ #[t,u] o.type (Array.map a.eval #[o1,o2]))):Sem Next).run P w=_;rw[<-r1];simp
 unfold Oper.wp;rw[hex];rcases r3 with ⟨v,rfl,hv⟩ | ⟨rfl,hj⟩;exact hn _ _ _ _ _ (r2.put o.dst hv) hk;cases hj
theorem X2a {P:Pg}{o:Oper}{K:Pf}{s:PFS}(hp:Gm P o K s): ∀c,o.op≠ .defer c:=by intro c hc;unfold Gm at hp;rw[hc] at hp;exact hp
theorem Z2z {P:Pg}{E:Ent}{a:Act}{w:Lw}{g:Gh}{F:Fr}{s:PFS}{o:Oper}{K:Pf}(h:FSRep E a w g F s)(hp:Gm P o K s){next:Act->World->Prop}{Q:Pt}
 (hn: ∀a' w' g' F' s',FSRep E a' w' g' F' s'->K s'->next a' w'):o.wpIn (fen E.rd) 0 P a w next Q:=
 Gp E.rd (X2a hp) (Z2y h hp hn)
def YX (P:Program)(ops:List Oper):List Bool->List Oper->(PFS->Prop)->PFS->Prop
 | _,[],K,s=>K s
 | [],rest,K,s=>OL0 P ops rest K s
 | true::bs,o::rest,K,s=>o.guard=none/\Gm P o (YX P ops bs rest K) s
 | false::bs,o::rest,K,s=>
  match o.guard with
  | none=>OC0 P o (YX P ops bs rest K) s
  | some (j,want)=>GK0 (ZA ops s j want) want (OC0 P o (YX P ops bs rest K) s) (YX P ops bs rest K (s.put o.dst (.tup [])))
theorem yR {P:Pg}{E:Ent}{ops:La}{Q:Pt}{K:Pf}(hK: ∀a' w' g' F' s',FSRep E a' w' g' F' s'->K s'->Q .normal a' w'):
 ∀(bs:Ld) (rest:Lo) (a:Act) (w:Lw) (g:Gh) (F:Fr) (s:PFS),FSRep E a w g F s->YX P ops.toList bs rest K s->wpListIn (fen E.rd) 0 P ops Q rest a w
 | bs,[],a,w,g,F,s,h,hp=>hK a w g F s h (by unfold YX at hp;exact hp)
 | [],o::rest,a,w,g,F,s,h,hp=>YT hK (o::rest) a w g F s h (YZ hp)
 | true::bs,o::rest,a,w,g,F,s,h,hp=>by obtain⟨hg,hp⟩:=hp;have ih:=yR (P:=P) (ops:=ops) hK bs rest;unfold wpListIn;rw[BC (by simp[Region.wanted,hg])];exact Z2z h hp fun a' w' g' F' s' hr hk=>ih a' w' g' F' s' hr hk
 | false::bs,o::rest,a,w,g,F,s,h,hp=>by
  have ih:=yR (P:=P) (ops:=ops) hK bs rest;unfold YX at hp;unfold wpListIn;cases hg:o.guard with
  | none=>
   rw[hg] at hp;rw[BC (by simp[Region.wanted,hg])];exact Jt h (Vs hp) fun a' w' g' F' s' hr hk=>ih a' w' g' F' s' hr hk
  | some x=>
   obtain⟨j,want⟩:=x;rw[hg] at hp;simp only at hp;cases hb:ZA ops.toList s j want with
   | none=>rw[hb] at hp;exact hp.elim
   | some b=>
    rw[hb] at hp;obtain⟨h1,h2⟩:=hp;have hy:=W9 h hb;by_cases e:b=want;have hx:=h1 e;subst e;rw[BC (by unfold Region.wanted;rw[hg];simp only;rw[hy];simp)];exact Jt h (Vs hx) fun a' w' g' F' s' hr hk=>ih a' w' g' F' s' hr hk;rw[BA (by unfold Region.wanted;rw[hg];simp only;rw[hy];simp[e])];exact⟨V7,ih _ w g F _ (h.put o.dst (.base _ _ (Wz _ _))) (h2 e)⟩
def OLm (P:Program)(ops:List Oper)(bs:List Bool)(rest:List Oper)(K:PFS->Prop)[Stop ops][Stop rest][Stop K](s:PFS):Prop:=YX P ops bs rest K s
def POm (P:Program)(o:Oper)(K:PFS->Prop)[Stop o][Stop K](s:PFS):Prop:=Gm P o K s
theorem Rk {P:Pg}{E:Ent}{id:Nat}{l:Lo}{Q:Pe}{s:PFS}(bs:Ld)(h:OLm P l bs l (Q .normal) s):PWP P E (.region id l.toArray false) Q s:=fun a w g F hr=>
 wpIn_region_list (yR (fun a' w' g' F' s' hr' hk=>⟨g',F',s',hr',hk⟩) bs l a w g F s hr h)
section
variable {P:Program} {s:PFS} {K:PFS->Prop} {d:Option Tmp} {ty:TypeId} {pos:String} {af:Array Edge}
@[go_sem] theorem j2z {ops rest:Lo} :OLm P ops [] rest K s=OL P ops rest K s:=by cases rest<;>rfl
@[go_sem] theorem j2w {ops rest:Lo}{bs:Ld}{op:Op} :OLm P ops (true::bs) (⟨d,op,ty,pos,af,none⟩::rest) K s=POm P ⟨d,op,ty,pos,af,none⟩ (OLm P ops bs rest K) s:=by show((none:Option (Nat×Bool))=none/\_)=_;simp only[F7];rfl
@[go_sem] theorem j2y {ops rest:Lo}{bs:Ld}{op:Op} :OLm P ops (false::bs) (⟨d,op,ty,pos,af,none⟩::rest) K s=OC P ⟨d,op,ty,pos,af,none⟩ (OLm P ops bs rest K) s:=(rfl)
@[go_sem] theorem j2x {ops rest:Lo}{bs:Ld}{op:Op}{j:Nat}{want:Bool} :OLm P ops (false::bs) (⟨d,op,ty,pos,af,some (j,want)⟩::rest) K s=
 GK (ZA ops s j want) want (OC P ⟨d,op,ty,pos,af,some (j,want)⟩ (OLm P ops bs rest K) s) (OLm P ops bs rest K (s.put d (.tup []))):=rfl
def U0m (T U:Option TI)(x y:PV)(s:PFS)(K:PV->PFS->Prop)[Stop K]:Prop:=yH T U x y s K
@[go_sem] theorem x2z {x y:Operand}{t u:Lt} :POm P ⟨d,.call ⟨.builtin .append,[x,y].toArray,[t,u].toArray⟩,ty,pos,af,none⟩ K s=U0m (ti P t) (ti P u) (s.ev x) (s.ev y) s (fun p s'=>K (s'.put d p)):=(rfl)
@[go_sem] theorem x2a {e e':EI}{x1 y1:Bool}{x2 y2:Nat}{x4 y4:Pr}{t:Tag}{ys:Lp}{K:Pw} :U0m (some ⟨x1,x2,.slice e,x4⟩) (some ⟨y1,y2,.slice e',y4⟩) (.sl .full []) (.sl t ys) s K=
 ((WK [] ys e/\0<ys.length)/\K (.ms false s.L.length 0 ys.length) { s with L:=s.L++ [flat ys] }):=(rfl)
end
def JI (sz:Nat):Nat->List PV->List PV
 | 0,_=> []
 | n+1,cs=> .agg (cs.take sz)::JI sz n (cs.drop sz)
theorem Vo (sz:Nat): ∀(n:Nat) (cs:Lp),(JI sz n cs).length=n
 | 0,_=>rfl
 | n+1,cs=>by simp[JI,Vo sz n]
theorem IY (sz:Nat): ∀(n:Nat) (cs:Lp) (i:Nat),i<n->(JI sz n cs).getD i .junk= .agg ((cs.drop (i*sz)).take sz)
 | 0,_,i,h=>by omega
 | n+1,cs,0,h=>by simp[JI]
 | n+1,cs,i+1,h=>by have:=IY sz n (cs.drop sz) i oG;show(JI sz n (cs.drop sz)).getD i .junk=_;rw[this,List.drop_drop,BQ,CY,EW]
theorem xL {sz:Nat} : ∀ {ys:Lp} (r:Lp),(∀y∈ys,y= .agg y.cells/\y.cells.length=sz)->JI sz ys.length (flat ys++r)=ys
 | [],r,_=>rfl
 | y::ys,r,h=>by obtain⟨h1,h2⟩:=h y (by simp);have ih:=xL (ys:=ys) r (fun z hz=>h z (by simp[hz]));simp only[C1,JI,xw];rw[BP,FG oG,BF oG,ET oG,C6 oG,CQ,ih,<-h1]
def PV.frzN1 (i sz:Nat)(cs:List PV):PV->PV
 | .lp k off=>if k=i then .ep cs off else .lp k off
 | .ms false k off len=>if k=i then(if off+len*sz<=cs.length then .sl .no (JI sz len (cs.drop off)) else .junk) else .ms false k off len
 | .mr k len cap=>if k=i then(if len*sz<=cs.length then .sl .no (JI sz len cs) else .junk) else .mr k len cap
 | p=>p
def PV.frzN (i sz:Nat)(cs:List PV):PV->PV
 | .agg l=> .agg (l.map (PV.frzN1 i sz cs))
 | .tup l=> .tup (l.map (PV.frzN1 i sz cs))
 | .fn f l m=> .fn f (l.map (PV.frzN1 i sz cs)) (m.map (PV.frzN1 i sz cs))
 | p=>p.frzN1 i sz cs
def PFS.freezeN (i sz:Nat)(s:PFS):PFS:=
 let cs:=(s.L.getD i []).map PV.forget2
 ⟨s.pa.map (PV.frzN i sz cs),(s.L.map fun l=>l.map (PV.frzN i sz cs)).set i [],s.T,s.st⟩
section
variable {w:World} {g g':Gh} {F:Fr} {T:List (Nat×Nat)} {i sz:Nat} {cs:List PV}
theorem RepF.frzN1 {v:Value}{p:PV}(hm: ∀v p,RepF w g F T v p->RepF w g' F T v p)(hz:Frozen w g' (F.lmu i) cs)(h:RepF w g F T v p):RepF w g' F T v (p.frzN1 i sz cs):=by
 obtain⟨cf,hcf⟩:=hz.cf;have h':=hm _ _ h;cases p with
 | lp k off=>
  simp only[PV.frzN1];split;rename_i e;subst e;cases h' with
  | base _ _ h'=>cases h'
  | lp k off hi=>
   have:=Rep.ep (w:=w) (g:=g') cs off (F.lmu k) 0 cf (by simpa using hz.vis) (fun j hj=>by simpa using(hcf j hj).1) (fun j hj=>(hcf j hj).2);rw[CU] at this;exact .base _ _ this
  exact h'
 | ms gl k off len=>
  cases gl with
  | true=>exact h'
  | false=>
   simp only[PV.frzN1];split;rename_i e;subst e;split;rename_i hle;cases h' with
   | base _ _ h'=>cases h'
   | lms k off len cap hi hcap=>
    have hin: ∀a b,a<len->b<sz->off+a*sz+b<cs.length:=fun a b ha hb=>by have:=Vf ha hb;omega
    have hfit: ∀a,a<len->a*sz+sz<=len*sz:=fun a ha=>by have:(a+1)*sz<=len*sz:=BG _ ha;rw[BQ,CY] at this;exact this
    have:=Rep.sl (w:=w) (g:=g') .no (JI sz len (cs.drop off)) (F.lmu k) off sz cap (fun a b=>cf (off+a*sz+b)) rfl (fun h=>by cases h) (by rw[Vo];exact hcap)
     (fun a ha=>by rw[Vo] at ha;rw[IY _ _ _ _ ha];show((List.drop (a*sz) (List.drop off cs)).take sz).length=sz;rw[BX,DM,DM];have:=hfit a ha;omega) (fun _=>by rw[Vo];have:=hz.vis;omega)
     (fun a b ha hb=>by rw[Vo] at ha;exact(hcf _ (hin a b ha hb)).1)
     (fun a b ha hb=>by rw[Vo] at ha;rw[IY _ _ _ _ ha];show Rep w g' _ (((List.drop (a*sz) (List.drop off cs)).take sz).getD b .junk);rw[WB _ _ _ _ hb];simp only[q_a,DH];have:=(hcf _ (hin a b ha hb)).2;rw[q_a] at this;rw[show off+(a*sz+b)=off+a*sz+b from oG];exact this)
    rw[Vo] at this;exact .base _ _ this
   exact .base _ _ (.junk _);exact h'
 | mr k len cap=>
  simp only[PV.frzN1];split;rename_i e;subst e;split;rename_i hle;cases h' with
  | base _ _ h'=>cases h'
  | lmr0 k ad hi=>exact .base _ _ (.nil .no ad rfl)
  | lmr k len cap hi hcap=>
   have hin: ∀a b,a<len->b<sz->a*sz+b<cs.length:=fun a b ha hb=>by have:=Vf ha hb;omega
   have hfit: ∀a,a<len->a*sz+sz<=len*sz:=fun a ha=>by have:(a+1)*sz<=len*sz:=BG _ ha;rw[BQ,CY] at this;exact this
   have:=Rep.sl (w:=w) (g:=g') .no (JI sz len cs) (F.lmu k) 0 sz cap (fun a b=>cf (a*sz+b)) rfl (fun h=>by cases h) (by rw[Vo];exact hcap)
    (fun a ha=>by rw[Vo] at ha;rw[IY _ _ _ _ ha];show((List.drop (a*sz) cs).take sz).length=sz;rw[BX,DM];have:=hfit a ha;omega) (fun _=>by rw[Vo];have:=hz.vis;omega)
    (fun a b ha hb=>by rw[Vo] at ha;rw[CU];exact(hcf _ (hin a b ha hb)).1)
    (fun a b ha hb=>by rw[Vo] at ha;rw[IY _ _ _ _ ha];show Rep w g' _ (((List.drop (a*sz) cs).take sz).getD b .junk);rw[WB _ _ _ _ hb];simp only[q_a,DH];have:=(hcf _ (hin a b ha hb)).2;rw[q_a] at this;exact this)
   rw[Vo] at this;exact .base _ _ this
  exact .base _ _ (.junk _);exact h'
 | _=>exact h'
theorem RepF.frzN {v:Value}{p:PV}(hm: ∀v p,RepF w g F T v p->RepF w g' F T v p)(hz:Frozen w g' (F.lmu i) cs)(h:RepF w g F T v p):RepF w g' F T v (p.frzN i sz cs):=by
 have gm: ∀(l:Lp) (j:Nat),(l.map (PV.frzN1 i sz cs)).getD j .junk=(l.getD j .junk).frzN1 i sz cs:=fun l j=>X5 rfl l j;cases p with
 | agg l=>
  cases h with
  | base _ _ h=>
   cases h with
   | agg vs cs' hl h=>exact .agg vs _ (by simpa using hl) fun j hj=>by rw[gm];exact RepF.frzN1 hm hz (.base _ _ (h j (by simpa using hj)))
  | agg vs cs' hl h=>exact .agg vs _ (by simpa using hl) fun j hj=>by rw[gm];exact RepF.frzN1 hm hz (h j (by simpa using hj))
 | tup l=>
  cases h with
  | base _ _ h=>
   cases h with
   | tup vs cs' hl h=>exact .tup vs _ (by simpa using hl) fun j hj=>by rw[gm];exact RepF.frzN1 hm hz (.base _ _ (h j (by simpa using hj)))
  | tup vs cs' hl h=>exact .tup vs _ (by simpa using hl) fun j hj=>by rw[gm];exact RepF.frzN1 hm hz (h j (by simpa using hj))
 | fn f l m=>
  cases h with
  | base _ _ h=>
   cases h with
   | fn f us vs bs cs' hk hl h0 h=>
    exact .fn f us vs _ _ (by simpa using hk) (by simpa using hl) (fun j hj=>by rw[gm];exact RepF.frzN1 hm hz (.base _ _ (h0 j (by simpa using hj)))) fun j hj=>by rw[gm];exact RepF.frzN1 hm hz (.base _ _ (h j (by simpa using hj)))
  | fn f us vs bs cs' hk hl h0 h=>
   exact .fn f us vs _ _ (by simpa using hk) (by simpa using hl) (fun j hj=>by rw[gm];exact RepF.frzN1 hm hz (h0 j (by simpa using hj))) fun j hj=>by rw[gm];exact RepF.frzN1 hm hz (h j (by simpa using hj))
 | _=>exact RepF.frzN1 (sz:=sz) hm hz h
end
theorem Bi {E:Ent}{s:PFS}(i sz:Nat)(hi:s.freezeOK i):Weak E s (s.freezeN i sz):=by
 intro a w g F h;by_cases hne:s.L.getD i []= []
 --a box without cells
 have hz:Frozen w g (F.lmu i) []:=⟨CX _,(fun p hp=>by cases hp),⟨fun _=>undef,fun j hj=>by simp at hj⟩⟩;have hf: ∀v p,RepF w g F s.T v p->RepF w g F s.T v (p.frzN i sz []):=fun v p hp=>RepF.frzN (fun _ _ h=>h) hz hp;have hL: ∀k,((s.L.map fun l=>l.map (PV.frzN i sz [])).set i []).getD k []≠ []->s.L.getD k []≠ []/\((s.L.map fun l=>l.map (PV.frzN i sz [])).set i []).getD k []=(s.L.getD k []).map (PV.frzN i sz []):=fun k hk=>by
  by_cases hki:i=k;subst hki;exfalso;apply hk;exact Yf _ _;have e:((s.L.map fun l=>l.map (PV.frzN i sz [])).set i []).getD k []=(s.L.getD k []).map (PV.frzN i sz []):=by rw[<-UQ (f:=fun l=>l.map (PV.frzN i sz [])) rfl];simp[q_a,DR hki]
  refine⟨fun e0=>hk (by rw[e,e0];rfl),e⟩
 have hcs:(s.L.getD i []).map PV.forget2= []:=by rw[hne];rfl
 refine⟨g,F,?_⟩;unfold PFS.freezeN;rw[hcs];refine⟨h.ext,h.store,⟨by simp[h.frame.nl],fun k hk=>h.frame.lo k (hL k hk).1,fun k hk=>h.frame.apart k (hL k hk).1,fun k j hk hj=>h.frame.inj k j (hL k hk).1 (hL j hj).1,fun k hk=> ?_,h.frame.tlo,fun k b hk hb=>⟨(h.frame.tapart k b hk hb).1,fun j hj=>(h.frame.tapart k b hk hb).2 j (hL j hj).1⟩,h.frame.tinj⟩,h.defers,by simp[h.len],fun t ht=> ?_⟩;obtain⟨h1,h2⟩:=hL k hk;simp only at hk⊢;rw[h2];intro j hj;obtain⟨q1,c,q2,q3⟩:=h.frame.holds k h1 j (by simpa using hj);exact⟨q1,c,q2,by rw[X5 (f:=PV.frzN i sz []) rfl];exact hf _ _ q3⟩;simp only at ht⊢;rw[X5 (f:=PV.frzN i sz []) rfl];exact hf _ _ (h.tmps t (by simpa using ht))
 let cs:=(s.L.getD i []).map PV.forget2
 obtain⟨l1,l2,l3⟩:=h.frame.lo i hne;obtain⟨k1,k2⟩:=yp w g (F.lmu i) cs.length (.inl l2) h.store.none;have hall:=List.all_eq_true.1 hi
 --all but the box
 have hLe:=k1.le
 let g':Gh:= { g with vis:=fun c=>if c=F.lmu i then max cs.length (g.vis c) else g.vis c }
 have htok:K6 w g F s.T w g' F s.T:=⟨BD _,fun k hk=>⟨BD _,fun _ v es hR=>hR.mono fun b hb=>⟨rfl,BA fun e=>(h.frame.tapart k b hk hb).2 i hne e.symm⟩⟩⟩;have hm: ∀v p,RepF w g F s.T v p->RepF w g' F s.T v p:=fun v p hr=>hr.mono hLe (BD _) (fun _ _=>rfl) htok;have hcell: ∀j,j<cs.length-> ∃c,w.cell? ⟨F.lmu i,j,none⟩=some c/\Rep w g' c (cs.getD j .junk):=fun j hj=>by have hj':j<(s.L.getD i []).length:=(by simpa[cs] using hj);obtain⟨q1,c,q2,q3⟩:=h.frame.holds i hne j hj';refine⟨c,q2,?_⟩;have e:cs.getD j .junk=((s.L.getD i []).getD j .junk).forget2:=X5 (f:=PV.forget2) rfl _ _;rw[e];exact(hm _ _ q3).forget2 (CR.1 (hall _ (QE _ _ _ hj'))).1
 have hz:Frozen w g' (F.lmu i) cs:=by refine⟨?_,fun p hp=> ?_,⟨fun j=>if h:j<cs.length then(hcell j h).choose else undef,fun j hj=> ?_⟩⟩;show cs.length<=(if F.lmu i=F.lmu i then max cs.length (g.vis (F.lmu i)) else _);rw[BC rfl];exact Nat.le_max_left _ _;simp only[cs,CF] at hp;obtain⟨q,hq,rfl⟩:=hp;have:=K0k (CR.1 (hall _ hq)).2;exact⟨by rw[this];rfl,this⟩;simp only[dif_pos hj];exact(hcell j hj).choose_spec
 have hf: ∀v p,RepF w g F s.T v p->RepF w g' F s.T v (p.frzN i sz cs):=fun v p hp=>RepF.frzN hm hz hp;have hL: ∀k,((s.L.map fun l=>l.map (PV.frzN i sz cs)).set i []).getD k []≠ []->k≠i/\s.L.getD k []≠ []/\((s.L.map fun l=>l.map (PV.frzN i sz cs)).set i []).getD k []=(s.L.getD k []).map (PV.frzN i sz cs):=fun k hk=>by
  by_cases hki:i=k;subst hki;exfalso;apply hk;exact Yf _ _;have e:((s.L.map fun l=>l.map (PV.frzN i sz cs)).set i []).getD k []=(s.L.getD k []).map (PV.frzN i sz cs):=by rw[<-UQ (f:=fun l=>l.map (PV.frzN i sz cs)) rfl];simp[q_a,DR hki]
  exact⟨fun e=>hki e.symm,fun e0=>hk (by rw[e,e0];rfl),e⟩
 have hvis: ∀k,k≠i->s.L.getD k []≠ []->g'.vis (F.lmu k)=g.vis (F.lmu k):=fun k hk hk0=>BA fun e=>hk (h.frame.inj k i hk0 hne e);have hst:StoreOK w g' s.st:=by refine⟨h.store.n,h.store.inj,h.store.lt,fun j hj hj0=> ?_,fun j hj=> ?_,k2,h.store.tab.mono hLe⟩;have:g'.vis (g.mu j)=g.vis (g.mu j):=BA fun e=>h.frame.apart i hne j hj e;exact this.trans (h.store.vis j hj hj0);exact(h.store.holds j hj).mono rfl fun v p hr=>hr.mono hLe
 refine⟨g',F,⟨h.ext.step k1 (fun b hb=> .inl (by rw[hb];exact l1)),hst,⟨by simp[PFS.freezeN,h.frame.nl],fun k hk=> ?_,fun k hk=> ?_,fun k j hk hj=> ?_,fun k hk=> ?_,h.frame.tlo,fun k b hk hb=>⟨(h.frame.tapart k b hk hb).1,fun j hj=> ?_⟩,h.frame.tinj⟩,h.defers,by simp[PFS.freezeN,h.len],fun t ht=> ?_⟩⟩;obtain⟨h1,h2,h3⟩:=hL k hk;obtain⟨a1,a2,a3⟩:=h.frame.lo k h2;exact⟨a1,a2,(hvis k h1 h2).trans a3⟩;exact h.frame.apart k (hL k hk).2.1;exact h.frame.inj k j (hL k hk).2.1 (hL j hj).2.1;obtain⟨h1,h2,h3⟩:=hL k hk;simp only[PFS.freezeN] at hk⊢;show Holds w _ _ (((s.L.map fun l=>l.map (PV.frzN i sz cs)).set i []).getD k []);rw[h3];intro j hj;obtain⟨q1,c,q2,q3⟩:=h.frame.holds k h2 j (by simpa using hj);exact⟨q1,c,q2,by rw[X5 (f:=PV.frzN i sz cs) rfl];exact hf _ _ q3⟩;exact(h.frame.tapart k b hk hb).2 j (hL j hj).2.1;simp only[PFS.freezeN] at ht⊢;show RepF w g' F s.T _ ((s.pa.map (PV.frzN i sz cs)).getD t .junk);rw[X5 (f:=PV.frzN i sz cs) rfl];exact hf _ _ (h.tmps t (by simpa using ht))
@[go_sem] theorem Y2n {i sz:Nat}{pa:Lp}{L st:Qc}{T:Lv} :(PFS.mk pa L T st).freezeN i sz=⟨pa.map (PV.frzN i sz ((L.getD i []).map PV.forget2)),(L.map fun l=>l.map (PV.frzN i sz ((L.getD i []).map PV.forget2))).set i [],T,st⟩:=(rfl)
attribute [go_sem] PV.frzN PV.frzN1
theorem GQ {P:Pg}{E:Ent}{c:Code}{Q:Pe}{s:PFS}(i sz:Nat)(hi:s.freezeOK i)(h:PWP P E c Q (s.freezeN i sz)):PWP P E c Q s:=J0 (Bi i sz hi) h
theorem K0q {sz:Nat}{ys:Lp}(h: ∀i,i<ys.length->(ys.getD i .junk).cells.length=sz){i o:Nat}{c:Lp}(hi:i<ys.length)(ho:o+c.length<=sz):
 Q4 (flat ys) (i*sz+o) c=flat (ys.set i (.agg (Q4 (ys.getD i .junk).cells o c))):=by
 have hl:=Kj h;have hb:i*sz+sz<=ys.length*sz:=by have:(i+1)*sz<=ys.length*sz:=BG _ hi;rw[BQ,CY] at this;exact this
 have hg: ∀j,j<ys.length->(ys.set i (.agg (Q4 (ys.getD i .junk).cells o c))).getD j .junk=if j=i then .agg (Q4 (ys.getD i .junk).cells o c) else ys.getD j .junk:=fun j hj=>by by_cases e:j=i;subst e;rw[BC rfl];simp[q_a,hj];rw[BA e];simp[q_a,DR (Ne.symm e)]
 have h': ∀j,j<(ys.set i (.agg (Q4 (ys.getD i .junk).cells o c))).length->((ys.set i (.agg (Q4 (ys.getD i .junk).cells o c))).getD j .junk).cells.length=sz:=fun j hj=>by rw[BL] at hj;rw[hg j hj];split;show(Q4 _ o c).length=sz;rw[Y4 _ _ _ (by rw[h i hi];exact ho)];exact h i hi;exact h j hj
 have hl':=Kj h';rw[BL] at hl';have hov:i*sz+o+c.length<=(flat ys).length:=oG;apply C9;rw[Y4 _ _ _ hov,hl,hl'];intro m h1 h2;have e1:=Y5 (flat ys) (i*sz+o) c hov m .junk;have hm:m<ys.length*sz:=(by rw[hl'] at h2;exact h2);have e2:=Vk h' m (by rw[BL];exact hm);have e3:=Vk h m hm;obtain⟨d1,d2⟩:=H2 hm;rw[q_a,BB h1,D9] at e1;rw[q_a,BB h2,D9] at e2;rw[e1,e2,hg _ d1];have hdm:=D5 m sz;by_cases e:m/sz=i;rw[BC e];show _=(Q4 (ys.getD i .junk).cells o c).getD (m % sz) .junk;rw[Y5 _ _ _ (by rw[h i hi];exact ho)];rw[e,BM] at hdm;by_cases c1:o<=m % sz/\m % sz<o+c.length;rw[BC c1,BC oG];congr 1;omega;rw[BA c1,BA oG,e3,e];rw[BA e,<-e3,BA];intro hc;apply e;have a1:i*sz<=m:=oG;have a2:m<i*sz+sz:=oG;have hp:0<sz:=oG;have b1:i<=m/sz:=(EN hp).2 a1;have b2:m/sz<i+1:=(DV hp).2 (by rw[BQ,CY];exact a2);omega
theorem Hx (l:Li): ∀i,i<(Qj l).length->((Qj l).getD i .junk).cells.length=6:=fun i hi=>by rw[K4] at hi;rw[Zr l i hi];rfl
theorem V0m (l:Lx): ∀i,i<(Q5 l).length->((Q5 l).getD i .junk).cells.length=3:=fun i hi=>by rw[xB] at hi;rw[JV l i hi];rfl
@[go_sem] theorem z1j (l:Li):(flat (Qj l)).length=l.length*6:=by rw[Kj (Hx l),K4]
@[go_sem] theorem Y2u (l:Lx):(flat (Q5 l)).length=l.length*3:=by rw[Kj (V0m l),xB]
theorem K0w (l:Li)(i:Nat)(x:Ivl)(h:i<l.length)(o:Nat)(c:Lp)(hc:o+c.length<=6)(e:Q4 (Qm (l.getD i default)) o c=Qm x):Q4 (flat (Qj l)) (i*6+o) c=flat (Qj (l.set i x)):=by rw[K0q (Hx l) (by rw[K4];exact h) hc,Zr l i h];show flat ((Qj l).set i (.agg (Q4 (Qm (l.getD i default)) o c)))=_;rw[e];congr 1;simp[Qj,E6]
theorem K0v (l:Lx)(i:Nat)(x:Nm)(h:i<l.length):Q4 (flat (Q5 l)) (i*3) (Qf x)=flat (Q5 (l.set i x)):=by have:=K0q (V0m l) (i:=i) (o:=0) (c:=Qf x) (by rw[xB];exact h) (by simp[Qf]);rw[B1] at this;rw[this,JV l i h];congr 1;simp[Q5,E6,Q4,Qf,PV.cells]
theorem W1y {ys:Lp}{p:PV}(h:p∈flat ys): ∃y∈ys,p∈y.cells:=by simp only[flat,List.mem_flatten,CF] at h;obtain⟨l,⟨y,hy,rfl⟩,hp⟩:=h;exact⟨y,hy,hp⟩
theorem vv {l:Li}{p:PV}(h:p∈flat (Qj l)): ∃x:Ivl,p∈Qm x:=by obtain⟨y,hy,hp⟩:=W1y h;obtain⟨x,_,rfl⟩:=CF.1 hy;exact⟨x,hp⟩
theorem Z0x {f:PV->PV}{l:Lp}(h: ∀p∈l,f p=p):l.map f=l:=by
 conv=>rhs;rw[<-List.map_id l]
 exact C4 fun p hp=>h p hp
@[go_sem] theorem Y2x (l:Li):(flat (Qj l)).map PV.forget2=flat (Qj l):=Z0x fun p hp=>by obtain⟨x,hx⟩:=vv hp;simp[Qm] at hx;rcases hx with rfl | rfl | rfl | rfl | rfl | rfl<;>rfl
@[go_sem] theorem Y2w (l:Li)(i sz:Nat)(cs:Lp):(flat (Qj l)).map (PV.frzN i sz cs)=flat (Qj l):=Z0x fun p hp=>by obtain⟨x,hx⟩:=vv hp;simp[Qm] at hx;rcases hx with rfl | rfl | rfl | rfl | rfl | rfl<;>rfl
@[go_sem] theorem Y2v (l:Li):Zj (flat (Qj l))=true:=by unfold Zj;rw[q_d];intro p hp;obtain⟨x,hx⟩:=vv hp;simp[Qm] at hx;rcases hx with rfl | rfl | rfl | rfl | rfl | rfl<;>rfl
theorem w1a (l:Li):JI 6 l.length (flat (Qj l))=Qj l:=by have:=xL (sz:=6) (ys:=Qj l) [] (fun y hy=>by obtain⟨x,_,rfl⟩:=CF.1 hy;exact⟨rfl,rfl⟩);rw[K4,B9] at this;exact this
theorem v1z (l:Lx):JI 3 l.length (flat (Q5 l))=Q5 l:=by have:=xL (sz:=3) (ys:=Q5 l) [] (fun y hy=>by obtain⟨x,_,rfl⟩:=CF.1 hy;exact⟨rfl,rfl⟩);rw[xB,B9] at this;exact this
theorem Y0b (l:Li)(n:Nat)(h:n=l.length):JI 6 n (flat (Qj l))=Qj l:=by subst h;exact w1a l
theorem yn (l:Lx)(n:Nat)(h:n=l.length):JI 3 n (flat (Q5 l))=Q5 l:=by subst h;exact v1z l
def Qt (l:List (List Ivl)):List PV:=l.map fun c=> .sl .no (Qj c)
@[go_sem] theorem G2t (l:Lj):(Qt l).length=l.length:=by simp[Qt]
@[go_sem] theorem G2s :Qt []= []:=(rfl)
@[go_sem] theorem G2r (l:Lj):(Qt l).all (fun x=>x.cells.length==1)=true:=by simp[Qt,PV.cells]
@[go_sem] theorem j1j (l:Lj)(c:Li):Qt l++ [.sl .no (Qj c)]=Qt (l++ [c]):=by simp[Qt]
theorem Kl (l:Lj)(n:Nat)(h:n<l.length):(Qt l).getD n .junk= .sl .no (Qj (l.getD n [])):=by simp[Qt,q_a,h]
def Qu (l:List (List Nm)):List PV:=l.map fun c=> .sl .no (Q5 c)
@[go_sem] theorem WC (l:Ly):(Qu l).length=l.length:=by simp[Qu]
@[go_sem] theorem G2k :Qu []= []:=(rfl)
@[go_sem] theorem G2h (l:Ly):(Qu l).all (fun x=>x.cells.length==1)=true:=by simp[Qu,PV.cells]
@[go_sem] theorem G2j (l:Ly):(Qu l).all (fun x=>(x.cells.length==1)&&x.cells.all PV.cellOK)=true:=by simp[Qu,PV.cells,PV.cellOK]
@[go_sem] theorem G2i (l:Ly)(c:Lx):Qu l++ [.sl .no (Q5 c)]=Qu (l++ [c]):=by simp[Qu]
theorem V8 (l:Ly)(n:Nat)(h:n<l.length):(Qu l).getD n .junk= .sl .no (Q5 (l.getD n [])):=by simp[Qu,q_a,h]
end Go.Pv
end
