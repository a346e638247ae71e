/- Walk. -/
import Derived.Test.YtfoiagbimnghjaaGreatDoorZC
import Derived.Test.YtfoiagbimnghjaaGreatDoorProg
import Derived.KernelRfl
set_option linter.all false
section
namespace Go.Proofs
open Go.Pv
@[go_sem] theorem Tryz.ti2 :ti Tryz.prog 2=some ⟨false,1,.int .i64,some (.int .i64 0)⟩:=by kernel_rfl
@[go_sem] theorem Tryz.ti3 :ti Tryz.prog 3=some ⟨false,1,.int .i64,some (.int .i64 0)⟩:=by kernel_rfl
@[go_sem] theorem Tryz.ti4 :ti Tryz.prog 4=some ⟨false,1,.bool,some (.bool false)⟩:=by kernel_rfl
@[go_sem] theorem Tryz.ti5 :ti Tryz.prog 5=some ⟨false,1,.int .u8,some (.int .u8 0)⟩:=by kernel_rfl
@[go_sem] theorem Tryz.ti9 :ti Tryz.prog 9=some ⟨false,1,.str,some (.string ByteArray.empty)⟩:=by kernel_rfl
@[go_sem] theorem Tryz.ti22 :ti Tryz.prog 22=some ⟨false,1,.slice ⟨40,1,8,false,true,false⟩,some (.slice none 0 0)⟩:=by kernel_rfl
@[go_sem] theorem Tryz.ti24 :ti Tryz.prog 24=some ⟨true,3,.struct [(0,⟨4,1,1,false,true,false⟩),(1,⟨2,1,8,false,true,false⟩),(2,⟨22,1,24,false,true,false⟩)],some (.agg #[.bool false,.int .i64 0,.slice none 0 0])⟩:=by kernel_rfl
@[go_sem] theorem Tryz.ti25 :ti Tryz.prog 25=some ⟨false,1,.slice ⟨24,3,40,true,true,false⟩,some (.slice none 0 0)⟩:=by kernel_rfl
@[go_sem] theorem Tryz.ti26 :ti Tryz.prog 26=some ⟨false,1,.slice ⟨25,1,24,false,true,false⟩,some (.slice none 0 0)⟩:=by kernel_rfl
@[go_sem] theorem Tryz.ti27 :ti Tryz.prog 27=some ⟨false,1,.slice ⟨45,6,80,true,true,false⟩,some (.slice none 0 0)⟩:=by kernel_rfl
@[go_sem] theorem Tryz.ti29 :ti Tryz.prog 29=some ⟨true,3,.struct [(0,⟨25,1,24,false,true,false⟩),(1,⟨26,1,24,false,true,false⟩),(2,⟨27,1,24,false,true,false⟩)],some (.agg #[.slice none 0 0,.slice none 0 0,.slice none 0 0])⟩:=by kernel_rfl
@[go_sem] theorem Tryz.ti31 :ti Tryz.prog 31=some ⟨true,10,.struct [(0,⟨3,1,8,false,true,false⟩),(1,⟨24,3,40,true,true,false⟩),(4,⟨24,3,40,true,true,false⟩),(7,⟨29,3,72,true,true,false⟩)],some (.agg #[.int .i64 0,.bool false,.int .i64 0,.slice none 0 0,.bool false,.int .i64 0,.slice none 0 0,.slice none 0 0,.slice none 0 0,.slice none 0 0])⟩:=by kernel_rfl
@[go_sem] theorem Tryz.ti35 :ti Tryz.prog 35=some ⟨false,1,.slice ⟨118,1,24,false,true,false⟩,some (.slice none 0 0)⟩:=by kernel_rfl
@[go_sem] theorem Tryz.ti37 :ti Tryz.prog 37=some ⟨true,14,.struct [(0,⟨35,1,24,false,true,false⟩),(1,⟨27,1,24,false,true,false⟩),(2,⟨24,3,40,true,true,false⟩),(5,⟨24,3,40,true,true,false⟩),(8,⟨24,3,40,true,true,false⟩),(11,⟨3,1,8,false,true,false⟩),(12,⟨3,1,8,false,true,false⟩),(13,⟨3,1,8,false,true,false⟩)],some (.agg #[.slice none 0 0,.slice none 0 0,.bool false,.int .i64 0,.slice none 0 0,.bool false,.int .i64 0,.slice none 0 0,.bool false,.int .i64 0,.slice none 0 0,.int .i64 0,.int .i64 0,.int .i64 0])⟩:=by kernel_rfl
@[go_sem] theorem Tryz.ti40 :ti Tryz.prog 40=some ⟨false,1,.int .u64,some (.int .u64 0)⟩:=by kernel_rfl
@[go_sem] theorem Tryz.ti41 :ti Tryz.prog 41=some ⟨false,1,.int .i64,some (.int .i64 0)⟩:=by kernel_rfl
@[go_sem] theorem Tryz.ti45 :ti Tryz.prog 45=some ⟨true,6,.struct [(0,⟨24,3,40,true,true,false⟩),(3,⟨24,3,40,true,true,false⟩)],some (.agg #[.bool false,.int .i64 0,.slice none 0 0,.bool false,.int .i64 0,.slice none 0 0])⟩:=by kernel_rfl
@[go_sem] theorem Tryz.ti49 :ti Tryz.prog 49=some ⟨true,9,.struct [(0,⟨3,1,8,false,true,false⟩),(1,⟨3,1,8,false,true,false⟩),(2,⟨24,3,40,true,true,false⟩),(5,⟨24,3,40,true,true,false⟩),(8,⟨27,1,24,false,true,false⟩)],some (.agg #[.int .i64 0,.int .i64 0,.bool false,.int .i64 0,.slice none 0 0,.bool false,.int .i64 0,.slice none 0 0,.slice none 0 0])⟩:=by kernel_rfl
@[go_sem] theorem Tryz.ti70 :ti Tryz.prog 70=some ⟨false,1,.slice ⟨192,1,4,false,true,false⟩,some (.slice none 0 0)⟩:=by kernel_rfl
@[go_sem] theorem Tryz.ti72 :ti Tryz.prog 72=some ⟨true,3,.struct [(0,⟨4,1,1,false,true,false⟩),(1,⟨70,1,24,false,true,false⟩),(2,⟨2,1,8,false,true,false⟩)],some (.agg #[.bool false,.slice none 0 0,.int .i64 0])⟩:=by kernel_rfl
@[go_sem] theorem Tryz.ti96 :ti Tryz.prog 96=some ⟨true,2,.struct [(0,⟨22,1,24,false,true,false⟩),(1,⟨3,1,8,false,true,false⟩)],some (.agg #[.slice none 0 0,.int .i64 0])⟩:=by kernel_rfl
@[go_sem] theorem Tryz.ti103 :ti Tryz.prog 103=some ⟨true,5,.struct [(0,⟨24,3,40,true,true,false⟩),(3,⟨27,1,24,false,true,false⟩),(4,⟨4,1,1,false,true,false⟩)],some (.agg #[.bool false,.int .i64 0,.slice none 0 0,.slice none 0 0,.bool false])⟩:=by kernel_rfl
@[go_sem] theorem Tryz.ti118 :ti Tryz.prog 118=some ⟨false,1,.slice ⟨124,4,64,true,true,false⟩,some (.slice none 0 0)⟩:=by kernel_rfl
@[go_sem] theorem Tryz.ti122 :ti Tryz.prog 122=some ⟨false,1,.slice ⟨3,1,8,false,true,false⟩,some (.slice none 0 0)⟩:=by kernel_rfl
@[go_sem] theorem Tryz.ti124 :ti Tryz.prog 124=some ⟨true,4,.struct [(0,⟨24,3,40,true,true,false⟩),(3,⟨122,1,24,false,true,false⟩)],some (.agg #[.bool false,.int .i64 0,.slice none 0 0,.slice none 0 0])⟩:=by kernel_rfl
@[go_sem] theorem Tryz.ti130 :ti Tryz.prog 130=some ⟨false,1,.slice ⟨27,1,24,false,true,false⟩,some (.slice none 0 0)⟩:=by kernel_rfl
@[go_sem] theorem Tryz.ti151 :ti Tryz.prog 151=some ⟨false,1,.int .u64,some (.int .u64 0)⟩:=by kernel_rfl
@[go_sem] theorem Tryz.ti162 :ti Tryz.prog 162=some ⟨false,1,.slice ⟨130,1,24,false,true,false⟩,some (.slice none 0 0)⟩:=by kernel_rfl
@[go_sem] theorem Tryz.ti187 :ti Tryz.prog 187=some ⟨false,1,.other,some (.nilFunc)⟩:=by kernel_rfl
@[go_sem] theorem Tryz.ti192 :ti Tryz.prog 192=some ⟨false,1,.int .u32,some (.int .u32 0)⟩:=by kernel_rfl
@[go_sem] theorem Tryz.ti206 :ti Tryz.prog 206=some ⟨true,6,.struct [(0,⟨35,1,24,false,true,false⟩),(1,⟨27,1,24,false,true,false⟩),(2,⟨24,3,40,true,true,false⟩),(5,⟨3,1,8,false,true,false⟩)],some (.agg #[.slice none 0 0,.slice none 0 0,.bool false,.int .i64 0,.slice none 0 0,.int .i64 0])⟩:=by kernel_rfl
@[go_sem] theorem Tryz.ti211 :ti Tryz.prog 211=some ⟨true,2,.struct [(0,⟨26,1,24,false,true,false⟩),(1,⟨130,1,24,false,true,false⟩)],some (.agg #[.slice none 0 0,.slice none 0 0])⟩:=by kernel_rfl
@[go_sem] theorem Tryz.ti219 :ti Tryz.prog 219=some ⟨false,1,.slice ⟨35,1,24,false,true,false⟩,some (.slice none 0 0)⟩:=by kernel_rfl
@[go_sem] theorem Tryz.ti252 :ti Tryz.prog 252=some ⟨true,5,.struct [(0,⟨219,1,24,false,true,false⟩),(1,⟨130,1,24,false,true,false⟩),(2,⟨3,1,8,false,true,false⟩),(3,⟨162,1,24,false,true,false⟩),(4,⟨162,1,24,false,true,false⟩)],some (.agg #[.slice none 0 0,.slice none 0 0,.int .i64 0,.slice none 0 0,.slice none 0 0])⟩:=by kernel_rfl
@[go_sem] theorem Tryz.ti259 :ti Tryz.prog 259=some ⟨false,1,.other,some (.nilFunc)⟩:=by kernel_rfl
@[go_sem] theorem Tryz.ti260 :ti Tryz.prog 260=some ⟨false,1,.slice ⟨259,1,8,false,true,false⟩,some (.slice none 0 0)⟩:=by kernel_rfl
@[go_sem] theorem Tryz.ti280 :ti Tryz.prog 280=some ⟨true,64,.arr 64 ⟨5,1,1,false,true,true⟩,some (.agg #[.int .u8 0,.int .u8 0,.int .u8 0,.int .u8 0,.int .u8 0,.int .u8 0,.int .u8 0,.int .u8 0,.int .u8 0,.int .u8 0,.int .u8 0,.int .u8 0,.int .u8 0,.int .u8 0,.int .u8 0,.int .u8 0,.int .u8 0,.int .u8 0,.int .u8 0,.int .u8 0,.int .u8 0,.int .u8 0,.int .u8 0,.int .u8 0,.int .u8 0,.int .u8 0,.int .u8 0,.int .u8 0,.int .u8 0,.int .u8 0,.int .u8 0,.int .u8 0,.int .u8 0,.int .u8 0,.int .u8 0,.int .u8 0,.int .u8 0,.int .u8 0,.int .u8 0,.int .u8 0,.int .u8 0,.int .u8 0,.int .u8 0,.int .u8 0,.int .u8 0,.int .u8 0,.int .u8 0,.int .u8 0,.int .u8 0,.int .u8 0,.int .u8 0,.int .u8 0,.int .u8 0,.int .u8 0,.int .u8 0,.int .u8 0,.int .u8 0,.int .u8 0,.int .u8 0,.int .u8 0,.int .u8 0,.int .u8 0,.int .u8 0,.int .u8 0])⟩:=by kernel_rfl
@[go_sem] theorem Tryz.ti309 :ti Tryz.prog 309=some ⟨true,3,.struct [(0,⟨26,1,24,false,true,false⟩),(1,⟨26,1,24,false,true,false⟩),(2,⟨3,1,8,false,true,false⟩)],some (.agg #[.slice none 0 0,.slice none 0 0,.int .i64 0])⟩:=by kernel_rfl
@[go_sem] theorem Tryz.ca240 :Qm Tryz.prog 240=false:=by kernel_rfl
@[go_sem] theorem Tryz.ca242 :Qm Tryz.prog 242=false:=by kernel_rfl
set_option maxRecDepth 100000 in
@[go_sem] theorem Tryz.caAll :Qm Tryz.prog 10=true/\Qm Tryz.prog 11=true/\Qm Tryz.prog 14=true/\Qm Tryz.prog 15=true/\Qm Tryz.prog 17=true/\Qm Tryz.prog 19=true/\Qm Tryz.prog 21=true/\Qm Tryz.prog 23=true/\Qm Tryz.prog 29=true/\Qm Tryz.prog 36=true/\Qm Tryz.prog 37=true/\Qm Tryz.prog 38=true/\Qm Tryz.prog 41=true/\Qm Tryz.prog 43=true/\Qm Tryz.prog 44=true/\Qm Tryz.prog 45=true/\Qm Tryz.prog 49=true/\Qm Tryz.prog 56=true/\Qm Tryz.prog 57=true/\Qm Tryz.prog 58=true/\Qm Tryz.prog 59=true/\Qm Tryz.prog 60=true/\Qm Tryz.prog 61=true/\Qm Tryz.prog 62=true/\Qm Tryz.prog 63=true/\Qm Tryz.prog 64=true/\Qm Tryz.prog 67=true/\Qm Tryz.prog 68=true/\Qm Tryz.prog 69=true/\Qm Tryz.prog 73=true/\Qm Tryz.prog 74=true/\Qm Tryz.prog 80=true/\Qm Tryz.prog 81=true/\Qm Tryz.prog 82=true/\Qm Tryz.prog 85=true/\Qm Tryz.prog 87=true/\Qm Tryz.prog 91=true/\Qm Tryz.prog 92=true/\Qm Tryz.prog 98=true/\Qm Tryz.prog 99=true/\Qm Tryz.prog 100=true/\Qm Tryz.prog 101=true/\Qm Tryz.prog 102=true/\Qm Tryz.prog 103=true/\Qm Tryz.prog 104=true/\Qm Tryz.prog 106=true/\Qm Tryz.prog 107=true/\Qm Tryz.prog 109=true/\Qm Tryz.prog 110=true/\Qm Tryz.prog 111=true/\Qm Tryz.prog 112=true/\Qm Tryz.prog 118=true/\Qm Tryz.prog 123=true/\Qm Tryz.prog 127=true/\Qm Tryz.prog 128=true/\Qm Tryz.prog 129=true/\Qm Tryz.prog 130=true/\Qm Tryz.prog 131=true/\Qm Tryz.prog 132=true/\Qm Tryz.prog 133=true/\Qm Tryz.prog 134=true/\Qm Tryz.prog 135=true/\Qm Tryz.prog 136=true/\Qm Tryz.prog 137=true/\Qm Tryz.prog 138=true/\Qm Tryz.prog 149=true/\Qm Tryz.prog 150=true/\Qm Tryz.prog 151=true/\Qm Tryz.prog 152=true/\Qm Tryz.prog 155=true/\Qm Tryz.prog 156=true/\Qm Tryz.prog 157=true/\Qm Tryz.prog 158=true/\Qm Tryz.prog 159=true/\Qm Tryz.prog 160=true/\Qm Tryz.prog 168=true/\Qm Tryz.prog 169=true/\Qm Tryz.prog 171=true/\Qm Tryz.prog 173=true/\Qm Tryz.prog 174=true/\Qm Tryz.prog 175=true/\Qm Tryz.prog 176=true/\Qm Tryz.prog 177=true/\Qm Tryz.prog 178=true/\Qm Tryz.prog 179=true/\Qm Tryz.prog 180=true/\Qm Tryz.prog 181=true/\Qm Tryz.prog 182=true/\Qm Tryz.prog 183=true/\Qm Tryz.prog 185=true/\Qm Tryz.prog 186=true/\Qm Tryz.prog 187=true/\Qm Tryz.prog 188=true/\Qm Tryz.prog 189=true/\Qm Tryz.prog 190=true/\Qm Tryz.prog 191=true/\Qm Tryz.prog 192=true/\Qm Tryz.prog 193=true/\Qm Tryz.prog 194=true/\Qm Tryz.prog 195=true/\Qm Tryz.prog 196=true/\Qm Tryz.prog 197=true/\Qm Tryz.prog 198=true/\Qm Tryz.prog 199=true/\Qm Tryz.prog 200=true/\Qm Tryz.prog 201=true/\Qm Tryz.prog 202=true/\Qm Tryz.prog 222=true/\Qm Tryz.prog 225=true/\Qm Tryz.prog 227=true/\Qm Tryz.prog 229=true/\Qm Tryz.prog 230=true/\Qm Tryz.prog 235=true/\Qm Tryz.prog 236=true/\Qm Tryz.prog 238=true/\Qm Tryz.prog 239=true/\Qm Tryz.prog 241=true/\Qm Tryz.prog 243=true/\Qm Tryz.prog 244=true/\Qm Tryz.prog 245=true/\Qm Tryz.prog 247=true/\Qm Tryz.prog 248=true/\Qm Tryz.prog 249=true/\Qm Tryz.prog 250=true/\Qm Tryz.prog 251=true/\Qm Tryz.prog 252=true/\Qm Tryz.prog 253=true/\Qm Tryz.prog 254=true/\Qm Tryz.prog 255=true/\Qm Tryz.prog 256=true/\Qm Tryz.prog 257=true/\Qm Tryz.prog 258=true/\Qm Tryz.prog 259=true/\Qm Tryz.prog 260=true/\Qm Tryz.prog 261=true/\Qm Tryz.prog 262=true/\Qm Tryz.prog 263=true/\Qm Tryz.prog 264=true/\Qm Tryz.prog 267=true/\Qm Tryz.prog 268=true/\Qm Tryz.prog 269=true/\Qm Tryz.prog 270=true/\Qm Tryz.prog 271=true/\Qm Tryz.prog 291=true/\Qm Tryz.prog 292=true/\Qm Tryz.prog 293=true/\Qm Tryz.prog 294=true/\Qm Tryz.prog 295=true/\Qm Tryz.prog 296=true/\Qm Tryz.prog 297=true/\Qm Tryz.prog 298=true/\Qm Tryz.prog 299=true/\Qm Tryz.prog 300=true/\Qm Tryz.prog 301=true/\Qm Tryz.prog 303=true/\Qm Tryz.prog 304=true/\Qm Tryz.prog 305=true/\Qm Tryz.prog 306=true/\Qm Tryz.prog 307=true/\Qm Tryz.prog 308=true/\Qm Tryz.prog 310=true/\Qm Tryz.prog 311=true/\Qm Tryz.prog 312=true/\Qm Tryz.prog 314=true/\Qm Tryz.prog 315=true/\Qm Tryz.prog 318=true/\Qm Tryz.prog 319=true/\Qm Tryz.prog 320=true/\Qm Tryz.prog 321=true/\Qm Tryz.prog 322=true/\Qm Tryz.prog 323=true/\Qm Tryz.prog 324=true/\Qm Tryz.prog 336=true/\Qm Tryz.prog 337=true/\Qm Tryz.prog 338=true/\Qm Tryz.prog 339=true/\Qm Tryz.prog 340=true/\Qm Tryz.prog 341=true/\Qm Tryz.prog 344=true/\Qm Tryz.prog 345=true/\Qm Tryz.prog 347=true/\Qm Tryz.prog 348=true/\Qm Tryz.prog 349=true/\Qm Tryz.prog 350=true/\Qm Tryz.prog 351=true/\Qm Tryz.prog 352=true/\Qm Tryz.prog 353=true/\Qm Tryz.prog 354=true/\Qm Tryz.prog 355=true/\Qm Tryz.prog 356=true/\Qm Tryz.prog 357=true/\Qm Tryz.prog 358=true/\Qm Tryz.prog 368=true/\Qm Tryz.prog 369=true/\Qm Tryz.prog 370=true/\Qm Tryz.prog 371=true/\Qm Tryz.prog 372=true/\Qm Tryz.prog 373=true/\Qm Tryz.prog 374=true/\Qm Tryz.prog 375=true/\Qm Tryz.prog 376=true/\Qm Tryz.prog 377=true/\Qm Tryz.prog 378=true/\Qm Tryz.prog 380=true/\Qm Tryz.prog 384=true/\Qm Tryz.prog 385=true/\Qm Tryz.prog 386=true/\Qm Tryz.prog 387=true/\Qm Tryz.prog 388=true/\Qm Tryz.prog 389=true/\Qm Tryz.prog 390=true/\Qm Tryz.prog 391=true/\Qm Tryz.prog 392=true/\Qm Tryz.prog 393=true:=by and_intros<;>kernel_rfl
@[go_sem] theorem Tryz.resAll :Tryz.f9.results.toList= [.tmp 2]/\Tryz.f10.results.toList= [.tmp 0]/\Tryz.f11.results.toList= [.tmp 2]/\Tryz.f14.results.toList= [.cell 4 24,.tmp 5]/\Tryz.f15.results.toList= [.cell 2 45]/\Tryz.f17.results.toList= [.cell 4 49,.cell 5 31,.tmp 6]/\Tryz.f19.results.toList= [.tmp 4]/\Tryz.f21.results.toList= [.tmp 4]/\Tryz.f23.results.toList= [.tmp 4]/\Tryz.f29.results.toList= [.cell 2 31,.tmp 3]/\Tryz.f36.results.toList= [.tmp 4,.tmp 5]/\Tryz.f37.results.toList= [.cell 4 24,.tmp 5]/\Tryz.f38.results.toList= [.tmp 4]/\Tryz.f41.results.toList= [.tmp 2]/\Tryz.f43.results.toList= [.cell 4 24,.tmp 5]/\Tryz.f44.results.toList= [.tmp 10]/\Tryz.f45.results.toList= [.tmp 4]/\Tryz.f49.results.toList= [.cell 2 24,.tmp 3]/\Tryz.f56.results.toList= [.tmp 2]/\Tryz.f57.results.toList= [.tmp 4]/\Tryz.f58.results.toList= [.tmp 2]/\Tryz.f59.results.toList= [.tmp 4]/\Tryz.f60.results.toList= [.cell 2 24]/\Tryz.f61.results.toList= [.cell 2 37]/\Tryz.f62.results.toList= [.cell 4 24,.tmp 5]/\Tryz.f63.results.toList= [.tmp 4]/\Tryz.f64.results.toList= [.tmp 4]/\Tryz.f67.results.toList= [.tmp 2]/\Tryz.f68.results.toList= [.cell 2 24,.tmp 3]/\Tryz.f69.results.toList= [.cell 4 45]/\Tryz.f73.results.toList= [.cell 6 103,.tmp 7]/\Tryz.f74.results.toList= [.cell 8 31,.tmp 9]/\Tryz.f80.results.toList= [.tmp 2]/\Tryz.f81.results.toList= [.tmp 6]/\Tryz.f82.results.toList= [.tmp 2]/\Tryz.f85.results.toList= [.tmp 4]/\Tryz.f87.results.toList= [.cell 6 24]/\Tryz.f91.results.toList= [.tmp 2]/\Tryz.f92.results.toList= [.cell 4 29,.tmp 5]/\Tryz.f98.results.toList= [.tmp 2]/\Tryz.f99.results.toList= [.tmp 6,.tmp 7]/\Tryz.f100.results.toList= [.tmp 2]/\Tryz.f101.results.toList= [.tmp 6,.tmp 7]/\Tryz.f102.results.toList= [.tmp 2]/\Tryz.f103.results.toList= [.cell 6 24,.tmp 7]/\Tryz.f104.results.toList= [.cell 4 24]/\Tryz.f106.results.toList= [.tmp 2]/\Tryz.f107.results.toList= [.tmp 4]/\Tryz.f109.results.toList= [.cell 4 24]/\Tryz.f110.results.toList= [.tmp 10,.tmp 11]/\Tryz.f111.results.toList= [.tmp 2]/\Tryz.f112.results.toList= [.tmp 6]/\Tryz.f113.results.toList= [.tmp 4]/\Tryz.f118.results.toList= [.cell 6 72]/\Tryz.f123.results.toList= [.tmp 2]/\Tryz.f127.results.toList= [.tmp 2]/\Tryz.f128.results.toList= [.cell 2 24]/\Tryz.f129.results.toList= [.cell 4 24]/\Tryz.f130.results.toList= [.tmp 4]/\Tryz.f131.results.toList= [.tmp 2]/\Tryz.f132.results.toList= [.cell 6 24,.tmp 7]/\Tryz.f133.results.toList= [.cell 2 24]/\Tryz.f134.results.toList= [.tmp 8,.tmp 9]/\Tryz.f135.results.toList= [.tmp 6,.tmp 7]/\Tryz.f136.results.toList= [.tmp 6,.tmp 7]/\Tryz.f137.results.toList= [.cell 8 29,.tmp 9]/\Tryz.f138.results.toList= [.cell 4 24,.tmp 5]/\Tryz.f149.results.toList= [.tmp 2]/\Tryz.f150.results.toList= [.tmp 2]/\Tryz.f151.results.toList= [.tmp 6]/\Tryz.f152.results.toList= [.tmp 4]/\Tryz.f155.results.toList= [.tmp 4]/\Tryz.f156.results.toList= [.tmp 4]/\Tryz.f157.results.toList= [.cell 6 24,.tmp 7]/\Tryz.f158.results.toList= [.tmp 4,.tmp 5]/\Tryz.f159.results.toList= [.tmp 6,.tmp 7]/\Tryz.f160.results.toList= [.tmp 2]/\Tryz.f168.results.toList= [.tmp 6]/\Tryz.f169.results.toList= [.cell 6 45,.tmp 7]/\Tryz.f170.results.toList= [.cell 4 45,.cell 5 45]/\Tryz.f171.results.toList= [.tmp 6,.tmp 7]/\Tryz.f172.results.toList= [.cell 5 45,.tmp 6]/\Tryz.f173.results.toList= [.cell 6 45,.tmp 7]/\Tryz.f174.results.toList= [.tmp 4]/\Tryz.f175.results.toList= [.tmp 4]/\Tryz.f176.results.toList= [.tmp 4,.tmp 5]/\Tryz.f177.results.toList= [.tmp 2]/\Tryz.f178.results.toList= [.tmp 4]/\Tryz.f179.results.toList= [.tmp 4]/\Tryz.f180.results.toList= [.cell 2 24]/\Tryz.f181.results.toList= [.tmp 6,.tmp 7]/\Tryz.f182.results.toList= [.tmp 6,.tmp 7]/\Tryz.f183.results.toList= [.tmp 6]/\Tryz.f185.results.toList= [.tmp 2]/\Tryz.f186.results.toList= [.tmp 4,.tmp 5]/\Tryz.f187.results.toList= [.tmp 4]/\Tryz.f188.results.toList= [.tmp 2]/\Tryz.f189.results.toList= [.tmp 2]/\Tryz.f190.results.toList= [.tmp 4]/\Tryz.f191.results.toList= [.tmp 2]/\Tryz.f192.results.toList= [.tmp 2]/\Tryz.f193.results.toList= [.tmp 4]/\Tryz.f194.results.toList= [.tmp 2]/\Tryz.f195.results.toList= [.tmp 8,.tmp 9]/\Tryz.f196.results.toList= [.tmp 6,.tmp 7]/\Tryz.f197.results.toList= [.tmp 8,.tmp 9]/\Tryz.f198.results.toList= [.tmp 6,.tmp 7]/\Tryz.f199.results.toList= [.tmp 2]/\Tryz.f200.results.toList= [.tmp 6,.tmp 7]/\Tryz.f201.results.toList= [.cell 4 211,.tmp 5]/\Tryz.f202.results.toList= [.tmp 10,.tmp 11]/\Tryz.f222.results.toList= [.tmp 4]/\Tryz.f224.results.toList= [.tmp 4]/\Tryz.f225.results.toList= [.tmp 4,.tmp 5]/\Tryz.f226.results.toList= [.cell 5 24,.tmp 6]/\Tryz.f227.results.toList= [.cell 4 24,.tmp 5]/\Tryz.f228.results.toList= [.cell 5 45,.tmp 6]/\Tryz.f229.results.toList= [.cell 6 45,.tmp 7]/\Tryz.f230.results.toList= [.cell 2 24]/\Tryz.f235.results.toList= [.cell 6 45,.tmp 7]/\Tryz.f236.results.toList= [.tmp 4,.tmp 5]/\Tryz.f237.results.toList= [.cell 6 45,.tmp 7]/\Tryz.f238.results.toList= [.tmp 6]/\Tryz.f239.results.toList= [.cell 6 45,.tmp 7]/\Tryz.f241.results.toList= [.tmp 4]/\Tryz.f243.results.toList= [.tmp 2]/\Tryz.f244.results.toList= [.tmp 4]/\Tryz.f245.results.toList= [.cell 6 45,.tmp 7]/\Tryz.f246.results.toList= [.cell 6 45,.tmp 7]/\Tryz.f247.results.toList= [.tmp 2]/\Tryz.f248.results.toList= [.tmp 2]/\Tryz.f249.results.toList= [.tmp 4,.tmp 5]/\Tryz.f250.results.toList= [.tmp 2]/\Tryz.f251.results.toList= []/\Tryz.f252.results.toList= [.tmp 4,.tmp 5]/\Tryz.f253.results.toList= [.tmp 6,.tmp 7]/\Tryz.f254.results.toList= [.cell 4 45,.tmp 5]/\Tryz.f255.results.toList= [.cell 7 45,.tmp 8]/\Tryz.f256.results.toList= [.cell 8 45,.tmp 9]/\Tryz.f257.results.toList= [.cell 6 45,.tmp 7]/\Tryz.f258.results.toList= [.cell 6 45,.tmp 7]/\Tryz.f259.results.toList= [.tmp 2,.tmp 3]/\Tryz.f260.results.toList= [.tmp 2]/\Tryz.f261.results.toList= [.tmp 4]/\Tryz.f262.results.toList= [.tmp 6,.tmp 7]/\Tryz.f263.results.toList= [.tmp 6,.tmp 7]/\Tryz.f264.results.toList= [.tmp 4,.tmp 5]/\Tryz.f265.results.toList= [.cell 7 45,.tmp 8]/\Tryz.f266.results.toList= [.cell 6 45,.cell 7 45]/\Tryz.f267.results.toList= [.cell 2 211,.tmp 3]/\Tryz.f268.results.toList= [.tmp 4,.tmp 5]/\Tryz.f269.results.toList= [.tmp 4,.tmp 5]/\Tryz.f270.results.toList= [.tmp 4,.tmp 5]/\Tryz.f271.results.toList= [.cell 1 211,.tmp 2]/\Tryz.f291.results.toList= [.tmp 4]/\Tryz.f292.results.toList= [.tmp 4]/\Tryz.f293.results.toList= [.cell 4 24]/\Tryz.f294.results.toList= [.cell 6 24]/\Tryz.f295.results.toList= [.cell 2 24]/\Tryz.f296.results.toList= []/\Tryz.f297.results.toList= [.cell 4 24]/\Tryz.f298.results.toList= [.cell 6 24,.tmp 7]/\Tryz.f299.results.toList= [.tmp 4]/\Tryz.f300.results.toList= [.tmp 2]/\Tryz.f301.results.toList= [.tmp 4]/\Tryz.f302.results.toList= [.tmp 2]/\Tryz.f303.results.toList= [.cell 6 45,.tmp 7]/\Tryz.f304.results.toList= [.tmp 4,.tmp 5]/\Tryz.f305.results.toList= [.tmp 4,.tmp 5]/\Tryz.f306.results.toList= [.tmp 4]/\Tryz.f307.results.toList= [.tmp 4]/\Tryz.f308.results.toList= [.tmp 8,.tmp 9]/\Tryz.f310.results.toList= [.cell 8 24,.tmp 9]/\Tryz.f311.results.toList= [.cell 6 45,.tmp 7]/\Tryz.f312.results.toList= [.tmp 6,.tmp 7]/\Tryz.f313.results.toList= [.cell 4 45,.tmp 5]/\Tryz.f314.results.toList= [.tmp 4]/\Tryz.f315.results.toList= [.cell 8 45,.tmp 9]/\Tryz.f316.results.toList= [.cell 7 45,.tmp 8]/\Tryz.f317.results.toList= [.cell 7 45,.tmp 8]/\Tryz.f318.results.toList= [.tmp 2]/\Tryz.f319.results.toList= [.tmp 6,.tmp 7]/\Tryz.f320.results.toList= [.tmp 4,.tmp 5]/\Tryz.f321.results.toList= [.cell 6 24,.tmp 7]/\Tryz.f322.results.toList= [.cell 6 24,.tmp 7]/\Tryz.f323.results.toList= [.cell 8 24,.tmp 9]/\Tryz.f324.results.toList= [.cell 8 24,.tmp 9]/\Tryz.f336.results.toList= [.tmp 4]/\Tryz.f337.results.toList= [.cell 6 24]/\Tryz.f338.results.toList= [.tmp 2]/\Tryz.f339.results.toList= [.tmp 2]/\Tryz.f340.results.toList= [.tmp 4]/\Tryz.f341.results.toList= [.cell 6 45,.tmp 7]/\Tryz.f342.results.toList= [.cell 4 45,.tmp 5]/\Tryz.f343.results.toList= [.cell 5 45,.tmp 6]/\Tryz.f344.results.toList= [.cell 4 45,.tmp 5]/\Tryz.f345.results.toList= [.tmp 8,.tmp 9]/\Tryz.f347.results.toList= [.cell 6 24]/\Tryz.f348.results.toList= [.tmp 2]/\Tryz.f349.results.toList= [.tmp 6,.tmp 7]/\Tryz.f350.results.toList= [.tmp 2,.tmp 3]/\Tryz.f351.results.toList= [.tmp 2]/\Tryz.f352.results.toList= [.tmp 2]/\Tryz.f353.results.toList= [.tmp 2]/\Tryz.f354.results.toList= [.tmp 4]/\Tryz.f355.results.toList= [.tmp 6,.tmp 7]/\Tryz.f356.results.toList= [.cell 4 24,.tmp 5]/\Tryz.f357.results.toList= [.cell 8 24,.tmp 9]/\Tryz.f358.results.toList= [.cell 10 24,.tmp 11]/\Tryz.f368.results.toList= [.tmp 3]/\Tryz.f369.results.toList= [.cell 4 24]/\Tryz.f370.results.toList= [.cell 8 45]/\Tryz.f371.results.toList= [.cell 4 24,.tmp 5]/\Tryz.f372.results.toList= [.cell 8 45,.cell 9 41]/\Tryz.f373.results.toList= [.tmp 4,.tmp 5,.tmp 6]/\Tryz.f374.results.toList= [.cell 6 24,.tmp 7]/\Tryz.f375.results.toList= [.cell 2 24]/\Tryz.f376.results.toList= [.tmp 4]/\Tryz.f377.results.toList= [.tmp 6]/\Tryz.f378.results.toList= [.tmp 8]/\Tryz.f379.results.toList= [.cell 7 45,.tmp 8]/\Tryz.f380.results.toList= [.cell 2 24]/\Tryz.f384.results.toList= [.tmp 6]/\Tryz.f385.results.toList= [.tmp 4,.tmp 5]/\Tryz.f386.results.toList= [.tmp 4,.tmp 5]/\Tryz.f387.results.toList= [.cell 2 24]/\Tryz.f388.results.toList= []/\Tryz.f389.results.toList= [.tmp 6,.tmp 7]/\Tryz.f390.results.toList= [.tmp 2]/\Tryz.f391.results.toList= [.tmp 4]/\Tryz.f392.results.toList= [.tmp 6]/\Tryz.f393.results.toList= []:=by and_intros<;>rfl
namespace Tryz
attribute [go_sem] ntmps9 ntmps10 ntmps11 ntmps14 ntmps15 ntmps17 ntmps19 ntmps21 ntmps23 ntmps29 ntmps36 ntmps37 ntmps38 ntmps41 ntmps43 ntmps44 ntmps45 ntmps49 ntmps56 ntmps57 ntmps58 ntmps59 ntmps60 ntmps61 ntmps62 ntmps63 ntmps64 ntmps67 ntmps68 ntmps69 ntmps73 ntmps74 ntmps80 ntmps81 ntmps82 ntmps85 ntmps87 ntmps91 ntmps92 ntmps98 ntmps99 ntmps100 ntmps101 ntmps102 ntmps103 ntmps104 ntmps106 ntmps107 ntmps109 ntmps110 ntmps111 ntmps112 ntmps113 ntmps118 ntmps123 ntmps127 ntmps128 ntmps129 ntmps130 ntmps131 ntmps132 ntmps133 ntmps134 ntmps135 ntmps136 ntmps137 ntmps138 ntmps149 ntmps150 ntmps151 ntmps152 ntmps155 ntmps156 ntmps157 ntmps158 ntmps159 ntmps160 ntmps168 ntmps169 ntmps170 ntmps171 ntmps172 ntmps173 ntmps174 ntmps175 ntmps176 ntmps177 ntmps178 ntmps179 ntmps180 ntmps181 ntmps182 ntmps183 ntmps185 ntmps186 ntmps187 ntmps188 ntmps189 ntmps190 ntmps191 ntmps192 ntmps193 ntmps194 ntmps195 ntmps196 ntmps197 ntmps198 ntmps199 ntmps200 ntmps201 ntmps202 ntmps222 ntmps224 ntmps225 ntmps226 ntmps227 ntmps228 ntmps229 ntmps230 ntmps235 ntmps236 ntmps237 ntmps238 ntmps239 ntmps241 ntmps243 ntmps244 ntmps245 ntmps246 ntmps247 ntmps248 ntmps249 ntmps250 ntmps251 ntmps252 ntmps253 ntmps254 ntmps255 ntmps256 ntmps257 ntmps258 ntmps259 ntmps260 ntmps261 ntmps262 ntmps263 ntmps264 ntmps265 ntmps266 ntmps267 ntmps268 ntmps269 ntmps270 ntmps271 ntmps291 ntmps292 ntmps293 ntmps294 ntmps295 ntmps296 ntmps297 ntmps298 ntmps299 ntmps300 ntmps301 ntmps302 ntmps303 ntmps304 ntmps305 ntmps306 ntmps307 ntmps308 ntmps310 ntmps311 ntmps312 ntmps313 ntmps314 ntmps315 ntmps316 ntmps317 ntmps318 ntmps319 ntmps320 ntmps321 ntmps322 ntmps323 ntmps324 ntmps336 ntmps337 ntmps338 ntmps339 ntmps340 ntmps341 ntmps342 ntmps343 ntmps344 ntmps345 ntmps347 ntmps348 ntmps349 ntmps350 ntmps351 ntmps352 ntmps353 ntmps354 ntmps355 ntmps356 ntmps357 ntmps358 ntmps368 ntmps369 ntmps370 ntmps371 ntmps372 ntmps373 ntmps374 ntmps375 ntmps376 ntmps377 ntmps378 ntmps379 ntmps380 ntmps384 ntmps385 ntmps386 ntmps387 ntmps388 ntmps389 ntmps390 ntmps391 ntmps392 ntmps393
end Tryz
end Go.Proofs
namespace Go.Pv
open Go.Proofs
abbrev PR (f:FuncId) (args:List PV) (st:Qd) (R:PV):Prop:=PCalls Tryz.prog f args st (fun r st'=>r=R/\st'=st)
end Go.Pv
namespace Go.Proofs
end Go.Proofs
end
section
namespace Go.Pv
theorem jZ {α:Type}{P:List α->Prop}(nil:P [])(snoc: ∀l x,P l->P (l++ [x]))(l:List α):P l:=by
 have: ∀r:List α,P r.reverse:=fun r=>by
  induction r with
  | nil=>exact nil
  | cons x r ih=>rw[F8];exact snoc _ _ ih
 have h:=this l.reverse;rwa [List.reverse_reverse] at h
def val (B:Nat):List Nat->Nat
 | []=>0
 | x::l=>x+B*val B l
def J7 (B:Nat)(n:Nat):List Nat:=if h:n=0\/B<2 then [] else n % B::J7 B (n/B)
termination_by n
decreasing_by exact Nat.div_lt_self oG oG
theorem Wx (B:Nat):J7 B 0= []:=by rw[J7,dif_pos (.inl rfl)]
theorem H0 {B n:Nat}(hB:2<=B)(h:n≠0):J7 B n=n % B::J7 B (n/B):=by rw[J7,dif_neg oG]
theorem jh {B:Nat}(hB:2<=B)(n:Nat):val B (J7 B n)=n:=by
 induction n using Nat.strongRecOn with
 | _ n ih=>
  by_cases h:n=0;subst h;simp[Wx,val];rw[H0 hB h,val,ih _ (Nat.div_lt_self oG oG)];exact FN n B
theorem wO {B:Nat}(hB:2<=B)(n:Nat): ∀x∈J7 B n,x<B:=by
 induction n using Nat.strongRecOn with
 | _ n ih=>
  by_cases h:n=0;subst h;simp[Wx];rw[H0 hB h];intro x hx;rcases D8.1 hx with rfl | hx;exact CG _ oG;exact ih _ (Nat.div_lt_self oG oG) x hx
def W4 (l:List Nat):List Nat:=(l.reverse.dropWhile (· ==0)).reverse
theorem HQ (l:Ln)(x:Nat):W4 (l++ [x])=if x=0 then W4 l else l++ [x]:=by unfold W4;rw[FZ];simp only[F8,List.reverse_nil,CQ,FR,List.dropWhile_cons];by_cases h:x=0<;>simp[h]
theorem Bx :W4 []= []:=rfl
theorem Bb (B:Nat)(l m:Ln):val B (l++m)=val B l+B^l.length*val B m:=by
 induction l with
 | nil=>simp[val]
 | cons x l ih=>
  simp only[EH,val,ih,C1,B5,CE];rw[BM (B^l.length) B,BW];omega
theorem qt {B:Nat}(hB:0<B): ∀l:List Nat,(∀x∈l,x<B)->val B l<B^l.length
 | [],_=>by simp[val]
 | x::l,h=>by have h1:=qt hB l fun y hy=>h y (DL _ hy);have h2:=h x (DG);simp only[val,C1,B5];have:B*(val B l+1)<=B*B^l.length:=DP _ h1;rw[BM (B^l.length) B];rw[CE] at this;omega
theorem q0r (x:Nat)(l:Ln):W4 (x::l)=if W4 l= [] then(if x=0 then [] else [x]) else x::W4 l:=by
 induction l using jZ with
 | nil=>
  have:=HQ [] x;simpa[Bx] using this
 | snoc l y ih=>
  have e:x::(l++ [y])=(x::l)++ [y]:=rfl;rw[e,HQ,HQ];by_cases h:y=0;simp[h,ih];simp[h]
theorem wL {B:Nat}(hB:2<=B): ∀l:List Nat,(∀x∈l,x<B)->J7 B (val B l)=W4 l
 | [],_=>by simp[val,Wx,Bx]
 | x::l,h=>by
  have ih:=wL hB l fun y hy=>h y (DL _ hy);have h2:=h x (DG);rw[q0r,<-ih,val];by_cases hv:val B l=0;rw[hv,Wx];simp only[DQ,B1,D4];by_cases hx:x=0;rw[BC hx,hx,Wx];rw[BA hx,H0 hB hx,BJ h2,CP h2,Wx];have hne:x+B*val B l≠0:=by have:0<B*val B l:=Nat.mul_pos oG oG;omega
  rw[H0 hB hne,BA (by rw[H0 hB hv];simp),D7,BJ h2,EX _ _ oG,CP h2,CU]
theorem xt {B:Nat}(hB:2<=B)(k:Nat): ∀n,n<B^k->(J7 B n).length<=k:=by
 induction k with
 | zero=>intro n h;have:n=0:=by simpa using h
         subst this;simp[Wx]
 | succ k ih=>
  intro n h;by_cases h0:n=0;subst h0;simp[Wx];rw[H0 hB h0,C1];have:=ih (n/B) (by rw[DV oG];rw[B5] at h;exact h);omega
def nW (l:List UInt64):List Nat:=l.map UInt64.toNat
def Qc (l:List UInt64):Nat:=val 18446744073709551616 (nW l)
def Qz (n:Nat):List UInt64:=(J7 18446744073709551616 n).map UInt64.ofNat
def nD (l:List UInt32):List Nat:=l.map UInt32.toNat
def QH (l:List UInt32):Nat:=val 4294967296 (nD l)
def QW (n:Nat):List UInt32:=(J7 4294967296 n).map UInt32.ofNat
def QE (l:List UInt64):List UInt64:=(l.reverse.dropWhile (· ==0)).reverse
def Va (l:List UInt32):List UInt32:=(l.reverse.dropWhile (· ==0)).reverse
theorem zN (l:Lu): ∀x∈nW l,x<18446744073709551616:=by intro x hx;obtain⟨c,_,rfl⟩:=CF.1 hx;exact BT c
theorem Q0f (l:Ls): ∀x∈nD l,x<4294967296:=by intro x hx;obtain⟨c,_,rfl⟩:=CF.1 hx;exact CH c
theorem V0s (l:Lu)(x:UInt64):QE (l++ [x])=if x=0 then QE l else l++ [x]:=by unfold QE;rw[FZ];simp only[F8,List.reverse_nil,CQ,FR,List.dropWhile_cons];by_cases h:x=0<;>simp[h]
theorem V0u (l:Ls)(x:UInt32):Va (l++ [x])=if x=0 then Va l else l++ [x]:=by unfold Va;rw[FZ];simp only[F8,List.reverse_nil,CQ,FR,List.dropWhile_cons];by_cases h:x=0<;>simp[h]
theorem q8 (x:UInt64):x=0<->x.toNat=0:=⟨fun h=>by rw[h];rfl,fun h=>FJ h⟩
theorem HN (x:UInt32):x=0<->x.toNat=0:=⟨fun h=>by rw[h];rfl,fun h=>UInt32.toNat.inj h⟩
theorem K1x (l:Lu):nW (QE l)=W4 (nW l):=by
 induction l using jZ with
 | nil=>rfl
 | snoc l x ih=>
  rw[V0s];have e:nW (l++ [x])=nW l++ [x.toNat]:=(by simp[nW]);rw[e,HQ];by_cases h:x=0;rw[BC h,BC ((q8 x).1 h),ih];rw[BA h,BA (fun e=>h ((q8 x).2 e)),e]
theorem K1z (l:Ls):nD (Va l)=W4 (nD l):=by
 induction l using jZ with
 | nil=>rfl
 | snoc l x ih=>
  rw[V0u];have e:nD (l++ [x])=nD l++ [x.toNat]:=(by simp[nD]);rw[e,HQ];by_cases h:x=0;rw[BC h,BC ((HN x).1 h),ih];rw[BA h,BA (fun e=>h ((HN x).2 e)),e]
theorem J1d (l:Lu):(nW l).map UInt64.ofNat=l:=by
 simp only[nW,DZ]
 conv=>rhs;rw[<-List.map_id l]
 exact C4 fun a _=>by simp
theorem J1e (l:Ls):(nD l).map UInt32.ofNat=l:=by
 simp only[nD,DZ]
 conv=>rhs;rw[<-List.map_id l]
 exact C4 fun a _=>by simp
theorem ZE (l:Lu):Qz (Qc l)=QE l:=by rw[Qz,Qc,wL (by decide) _ (zN l),<-K1x,J1d]
theorem wR (l:Ls):QW (QH l)=Va l:=by rw[QW,QH,wL (by decide) _ (Q0f l),<-K1z,J1e]
theorem K1w (n:Nat):nW (Qz n)=J7 18446744073709551616 n:=by
 simp only[nW,Qz,DZ]
 conv=>rhs;rw[<-List.map_id (J7 _ n)]
 exact C4 fun a ha=>by have:=wO (B:=18446744073709551616) (by decide) n a ha;simp only[Function.comp,id];rw[FG];omega
theorem K1y (n:Nat):nD (QW n)=J7 4294967296 n:=by
 simp only[nD,QW,DZ]
 conv=>rhs;rw[<-List.map_id (J7 _ n)]
 exact C4 fun a ha=>by have:=wO (B:=4294967296) (by decide) n a ha;simp only[Function.comp,id];rw[UInt32.toNat_ofNat'];omega
theorem Xu (n:Nat):Qc (Qz n)=n:=by rw[Qc,K1w,jh (by decide)]
theorem G4 (n:Nat):QH (QW n)=n:=by rw[QH,K1y,jh (by decide)]
theorem Jw (l:Lu):Qc (QE l)=Qc l:=by rw[<-ZE,Xu]
theorem IP (n:Nat):QE (Qz n)=Qz n:=by rw[<-ZE,Xu]
theorem V0v (n:Nat):Va (QW n)=QW n:=by rw[<-wR,G4]
theorem JU :Qc []=0:=rfl
theorem Bi :QH []=0:=rfl
theorem Vc :Qz 0= []:=by simp[Qz,Wx]
theorem H1 :QW 0= []:=by simp[QW,Wx]
theorem wordsOf_nil {n:Nat} :Qz n= []<->n=0:=⟨fun h=>by rw[<-Xu n,h,JU],fun h=>by rw[h,Vc]⟩
theorem digitsOf_nil {n:Nat} :QW n= []<->n=0:=⟨fun h=>by rw[<-G4 n,h,Bi],fun h=>by rw[h,H1]⟩
theorem YB (l m:Lu):Qc (l++m)=Qc l+18446744073709551616^l.length*Qc m:=by have e:nW (l++m)=nW l++nW m:=(by simp[nW]);rw[Qc,e,Bb];simp[Qc,nW]
theorem jq (l m:Ls):QH (l++m)=QH l+4294967296^l.length*QH m:=by have e:nD (l++m)=nD l++nD m:=(by simp[nD]);rw[QH,e,Bb];simp[QH,nD]
theorem Xe (l:Lu):Qc l<18446744073709551616^l.length:=by have:=qt (B:=18446744073709551616) (by decide) _ (zN l);simpa[Qc,nW] using this
theorem qv (l:Ls):QH l<4294967296^l.length:=by have:=qt (B:=4294967296) (by decide) _ (Q0f l);simpa[QH,nD] using this
theorem J8 (l:Lu):(QE l).length<=l.length:=by unfold QE;rw[List.length_reverse];have:=(List.dropWhile_sublist (· ==(0:UInt64)) (l:=l.reverse)).length_le;simpa using this
theorem k1o (l:Ls):(Va l).length<=l.length:=by unfold Va;rw[List.length_reverse];have:=(List.dropWhile_sublist (· ==(0:UInt32)) (l:=l.reverse)).length_le;simpa using this
theorem V0t (l:Lu)(h:l≠ []):(QE l).length=l.length<->l.getD (l.length-1) 0≠0:=by obtain⟨i,x,rfl⟩: ∃i x,l=i++ [x]:=⟨l.dropLast,l.getLast h,(List.dropLast_concat_getLast h).symm⟩;rw[V0s];have e:(i++ [x]).getD ((i++ [x]).length-1) 0=x:=(by simp[q_a]);rw[e];have:=J8 i;by_cases hx:x=0;simp[hx];omega;simp[hx]
theorem k1n (l:Lu)(h:QE l≠ []):(QE l).getD ((QE l).length-1) 0≠0:=by rw[<-V0t _ h];congr 1;rw[<-ZE l,IP]
theorem K0s {α:Type}(p:α->Bool)(l:List α)(n:Nat)(d:α)(hn:n<=l.length)(hz: ∀j,n<=j->j<l.length->p (l.getD j d)=true)(hl:n=0\/p (l.getD (n-1) d)=false):(l.reverse.dropWhile p).reverse=l.take n:=by
 have e:l=l.take n++l.drop n:=(FQ n l).symm;have hd: ∀x∈(l.drop n).reverse,p x=true:=fun x hx=>by rw[List.mem_reverse] at hx;obtain⟨j,hj,rfl⟩:=CM.1 hx;rw[DM] at hj;have:=hz (n+j) oG oG;rw[q_a,BB oG] at this;simp only[D9] at this;rw[List.getElem_drop,this]
 conv=>lhs;rw[e]
 rw[FZ,List.dropWhile_append_of_pos hd];rcases hl with rfl | hl;simp;by_cases h0:n=0;subst h0;simp;have hne:l.take n=l.take (n-1)++ [l.getD (n-1) d]:=by have h1:n-1<l.length:=oG;have:=F5 h1;rw[show n-1+1=n from oG] at this;rw[this,q_a,BB h1];rfl
 rw[hne,FZ];simp only[F8,List.reverse_nil,CQ,FR];rw[List.dropWhile_cons_of_neg (by simpa using hl)];simp
theorem wW (l:Lu)(n:Nat)(hn:n<=l.length)(hz: ∀j,n<=j->j<l.length->l.getD j 0=0)(hl:n=0\/l.getD (n-1) 0≠0):QE l=l.take n:=
 K0s _ l n 0 hn (fun j h1 h2=>by simpa using hz j h1 h2) (hl.imp id fun h=>by simpa using h)
theorem k1q (l:Ls)(n:Nat)(hn:n<=l.length)(hz: ∀j,n<=j->j<l.length->l.getD j 0=0)(hl:n=0\/l.getD (n-1) 0≠0):Va l=l.take n:=
 K0s _ l n 0 hn (fun j h1 h2=>by simpa using hz j h1 h2) (hl.imp id fun h=>by simpa using h)
def Qo (n:Nat):Nat:=if n=0 then 0 else Nat.log2 n+1
theorem KY (n:Nat):n<2^Qo n:=by unfold Qo;split;rename_i h;subst h;decide;exact Nat.lt_log2_self
theorem Im {n:Nat}(h:n≠0):2^(Qo n-1)<=n:=by unfold Qo;rw[BA h];exact Nat.log2_self_le h
theorem bitlen_le_iff {n k:Nat} :Qo n<=k<->n<2^k:=by constructor;intro h;exact q_e (KY n) (BS (by decide) h);intro h;by_cases h0:n=0;subst h0;simp[Qo];apply LB;intro hk;have h1:=Im h0;have h2:2^k<=2^(Qo n-1):=BS (by decide) oG;omega
theorem Y0j {n k:Nat}(h1:2^k<=n)(h2:n<2^(k+1)):Qo n=k+1:=by have a:=bitlen_le_iff.2 h2;have b: ¬Qo n<=k:=fun h=>(by have:=bitlen_le_iff.1 h;omega);omega
theorem Uf :Qo 0=0:=rfl
theorem Gs {n:Nat}(h:n≠0):0<Qo n:=by unfold Qo;rw[BA h];omega
theorem yv (n k:Nat)(h:n≠0):Qo (n*2^k)=Qo n+k:=by have h1:=Im h;have h2:=KY n;have h3:=Gs h;have e:Qo n+k=(Qo n-1+k)+1:=oG;rw[e];apply Y0j;rw[B2];exact BG _ h1;rw[show Qo n-1+k+1=Qo n+k from oG,B2];exact C5 h2 (DJ (by decide))
theorem Y0g (v k:Nat)(h:v/2^k≠0):Qo v=Qo (v/2^k)+k:=by have h1:=Im h;have h2:=KY (v/2^k);have h3:=Gs h;have e:Qo (v/2^k)+k=(Qo (v/2^k)-1+k)+1:=oG;rw[e];apply Y0j;rw[B2];exact B7 (BG _ h1) (LH v (2^k));rw[show Qo (v/2^k)-1+k+1=Qo (v/2^k)+k from oG,B2];exact(DV (DJ (by decide))).1 h2
theorem Y0i (n:Nat)(h:n<18446744073709551616):Qo n<=64:=bitlen_le_iff.2 h
theorem Q2k (a x k:Nat)(ha:a<2^k)(hx:x≠0):Qo (a+2^k*x)=k+Qo x:=by have hp:0<2^k:=DJ (by decide);have e:(a+2^k*x)/2^k=x:=(by rw[EX _ _ hp,CP ha,CU]);rw[Y0g _ k (by rw[e];exact hx),e,EZ]
def Zm (a b:Int):Int:=if a<b then -1 else if a>b then 1 else 0
def X0 (a b:Nat):Int:=Zm (a:Int) (b:Int)
theorem H3 {a b:Int}(h:a<b):Zm a b= -1:=by rw[Zm,BC h]
theorem H4 {a b:Int}(h:b<a):Zm a b=1:=by rw[Zm,BA oG,BC h]
theorem yh {a b:Int}(h:a=b):Zm a b=0:=by rw[Zm,BA oG,BA oG]
theorem W0g (a b:Int):Zm b a= -Zm a b:=by unfold Zm;by_cases h1:a<b;rw[BC h1,BA oG,BC oG];rfl;by_cases h2:b<a;rw[BC h2,BA h1,BC oG];rw[BA h2,BA oG,BA h1,BA oG];rfl
theorem v1n (a b:Int):Zm (-a) (-b)= -Zm a b:=by rw[<-W0g];unfold Zm;by_cases h1:b<a;rw[BC h1,BC oG];rw[BA h1,BA oG];by_cases h2:b>a;rw[BC h2,BC oG];rw[BA h2,BA oG]
theorem j1v {B n m:Nat}(hB:2<=B)(h:n<=m):(J7 B n).length<=(J7 B m).length:=by apply xt hB;have h2:=qt (B:=B) oG _ (wO hB m);rw[jh hB] at h2;omega
theorem jg {B:Nat} : ∀(l m:Ln) (i:Nat),(∀x∈l,x<B)->l.length=m.length->i<l.length->
 (∀j,i<j->j<l.length->l.getD j 0=m.getD j 0)->l.getD i 0<m.getD i 0->val B l<val B m
 | [],_,_,_,_,h,_,_=>by simp at h
 | x::l,[],_,_,h,_,_,_=>by simp at h
 | x::l,y::m,0,hl,hlen,_,heq,hlt=>by
  have e:l=m:=C9 (by simpa using hlen) fun j h1 h2=>by have:=heq (j+1) oG (by simp;omega);simpa[q_a,h1,h2] using this
  subst e;simp only[val];have:x<y:=(by simpa using hlt);omega
 | x::l,y::m,i+1,hl,hlen,hi,heq,hlt=>by
  have ih:=jg l m i (fun z hz=>hl z (DL _ hz)) (by simpa using hlen) (by simpa using hi)
   (fun j h1 h2=>by have:=heq (j+1) oG (by simp;omega);simpa using this) (by simpa using hlt)
  have hx:=hl x DG;simp only[val];have:B*(val B l+1)<=B*val B m:=DP _ ih;rw[CE] at this;omega
theorem yZ (B:Nat): ∀(l:Ln) (i x:Nat),i<l.length->val B (l.set i x)+B^i*l.getD i 0=val B l+B^i*x
 | [],i,x,h=>by simp at h
 | y::l,0,x,h=>by simp[val];omega
 | y::l,i+1,x,h=>by have ih:=yZ B l i x (by simpa using h);simp only[LM,val,List.getD_cons_succ,B5];have:B*(val B (l.set i x)+B^i*l.getD i 0)=B*(val B l+B^i*x):=(by rw[ih]);rw[CE,CE] at this;rw[BM (B^i) B,BW,BW];omega
theorem H0j (B n:Nat):val B (List.replicate n 0)=0:=by
 induction n with
 | zero=>rfl
 | succ n ih=>rw[List.replicate_succ,val,ih];simp
theorem Yv (l:Lu)(i:Nat):(nW l).getD i 0=(l.getD i 0).toNat:=by simp only[nW,q_a,B8];cases l[i]?<;>rfl
theorem YA (l:Lu)(i:Nat)(c:UInt64)(h:i<l.length):Qc (l.set i c)+18446744073709551616^i*(l.getD i 0).toNat=Qc l+18446744073709551616^i*c.toNat:=by have:=yZ 18446744073709551616 (nW l) i c.toNat (by simpa[nW] using h);rw[Yv] at this;have e:(nW l).set i c.toNat=nW (l.set i c):=(by simp[nW,FA]);rw[e] at this;exact this
theorem ji (n:Nat):Qc (List.replicate n 0)=0:=by have:nW (List.replicate n 0)=List.replicate n 0:=(by simp[nW]);rw[Qc,this,H0j]
theorem H0k (l:Lu)(c:UInt64):Qc (l++ [c])=Qc l+18446744073709551616^l.length*c.toNat:=by rw[YB];simp[Qc,nW,val]
theorem Bh (l:Ls)(c:UInt32):QH (l++ [c])=QH l+4294967296^l.length*c.toNat:=by rw[jq];simp[QH,nD,val]
theorem HT {α:Type}(l:List α)(i:Nat)(d:α)(h:i<l.length):l.take (i+1)=l.take i++ [l.getD i d]:=by rw[F5 h,q_a,BB h];rfl
theorem V7 (l:Lu)(i:Nat)(h:i<l.length):Qc (l.take (i+1))=Qc (l.take i)+18446744073709551616^i*(l.getD i 0).toNat:=by rw[HT l i 0 h,H0k,BX,DA oG]
theorem jn (l:Ls)(i:Nat)(h:i<l.length):QH (l.take (i+1))=QH (l.take i)+4294967296^i*(l.getD i 0).toNat:=by rw[HT l i 0 h,Bh,BX,DA oG]
theorem Ya {n k:Nat}(h:n<18446744073709551616^k):(Qz n).length<=k:=by simp only[Qz,BR];exact xt (by decide) k n h
theorem j1w {n k:Nat}(h:n<4294967296^k):(QW n).length<=k:=by simp only[QW,BR];exact xt (by decide) k n h
theorem W1p (n:Nat):n<4294967296^(QW n).length:=by have:=qv (QW n);rwa [G4] at this
theorem Uq {n m:Nat}(h:n<=m):(Qz n).length<=(Qz m).length:=by simp only[Qz,BR];exact j1v (by decide) h
theorem v1e {a b:Lu}(ha:QE a=a)(hb:QE b=b)(h:a.length≠b.length):Zm a.length b.length=X0 (Qc a) (Qc b):=by rw[<-ZE] at ha hb;have m1:Qc a<=Qc b->a.length<=b.length:=fun h=>(by have:=Uq h;rwa [ha,hb] at this);have m2:Qc b<=Qc a->b.length<=a.length:=fun h=>(by have:=Uq h;rwa [ha,hb] at this);by_cases hl:a.length<b.length;rw[H3 oG,X0,H3];have: ¬Qc b<=Qc a:=fun h=>(by have:=m2 h;omega);omega;rw[H4 oG,X0,H4];have: ¬Qc a<=Qc b:=fun h=>(by have:=m1 h;omega);omega
theorem v1f {a b:Lu}(hl:a.length=b.length)(i:Nat)(hi:i<a.length)(heq: ∀j,i<j->j<a.length->a.getD j 0=b.getD j 0)(hne:a.getD i 0≠b.getD i 0):
 Zm (a.getD i 0).toNat (b.getD i 0).toNat=X0 (Qc a) (Qc b):=by
 have hn:(a.getD i 0).toNat≠(b.getD i 0).toNat:=fun e=>hne (FJ e);have la:(nW a).length=a.length:=(by simp[nW]);have lb:(nW b).length=b.length:=(by simp[nW]);by_cases h:(a.getD i 0).toNat<(b.getD i 0).toNat;have:=jg (nW a) (nW b) i (zN a) oG oG (fun j h1 h2=>by rw[Yv,Yv,heq j h1 oG]) (by rw[Yv,Yv];exact h);rw[H3 oG,X0,H3];simp only[Qc];omega;have:=jg (nW b) (nW a) i (zN b) oG oG (fun j h1 h2=>by rw[Yv,Yv,heq j h1 oG]) (by rw[Yv,Yv];omega);rw[H4 oG,X0,H4];simp only[Qc];omega
theorem xl {α:Type}{a b:List α}(d:α)(hl:a.length=b.length)(h: ∀j,j<a.length->a.getD j d=b.getD j d):a=b:=
 C9 hl fun j h1 h2=>by have:=h j h1;simpa[q_a,h1,h2] using this
theorem Wp {α:Type}(l:List α)(i j:Nat)(x d:α):(l.set i x).getD j d=if i=j/\j<l.length then x else l.getD j d:=by simp only[q_a,List.getElem?_set];by_cases h:i=j;subst h;by_cases h2:i<l.length;simp[h2];simp[h2];simp[h]
theorem vH {α:Type}(n j:Nat)(x:α):(List.replicate n x).getD j x=x:=by simp only[q_a,List.getElem?_replicate];split<;>rfl
theorem WK {a b:Nat}(h:((a:Int) !=(b:Int))=true):a≠b:=by intro e;subst e;simp at h
theorem Vs {a b:Nat}(h:((a:Int) !=(b:Int))=false):a=b:=by have:(a:Int)=b:=(by simpa using h);omega
theorem Vt {a b:Nat}(h:((a:Int)==(b:Int))=true):a=b:=by have:(a:Int)=b:=(by simpa using h);omega
theorem Yu {a b:Nat}(h:((a:Int)==(b:Int))=false):a≠b:=by intro e;subst e;simp at h
theorem XI {a b:Int}(h:(a !=b)=true):a≠b:=by intro e;subst e;simp at h
theorem Jf {a b:Int}(h:(a !=b)=false):a=b:=by simpa using h
theorem Gw {a b:Int}(h:(a==b)=true):a=b:=by simpa using h
theorem ql {a b:Int}(h:(a==b)=false):a≠b:=by intro e;subst e;simp at h
open Go.Proofs
attribute [go_sem] Int.reduceBNe Int.reduceBEq
theorem Q1 :Tryz.prog.follows .mixedOrders=true:=by kernel_rfl
def Qf (l:List UInt64):List PV:=l.map fun c=>(.sc (.int .u64 c.toNat))
@[go_sem] theorem Jp (l:Lu):(Qf l).length=l.length:=by simp[Qf]
@[go_sem] theorem z1w :Qf []= []:=(rfl)
@[go_sem] theorem U2w (l:Lu):(Qf l).all (fun x=>x.cells.length==1)=true:=by simp[Qf,PV.cells]
@[go_sem] theorem U2y (l:Lu):(Qf l).all (fun x=>(x.cells.length==1)&&x.cells.all PV.cellOK)=true:=by simp[Qf,PV.cells,PV.cellOK,Value.oneCell']
@[go_sem] theorem U2v (l:Lu)(n:Nat):(Qf l).take n=Qf (l.take n):=by simp[Qf]
@[go_sem] theorem G2d (l:Lu)(n:Nat):(Qf l).drop n=Qf (l.drop n):=by simp[Qf]
@[go_sem] theorem z1v (l:Lu)(c:UInt64):Qf l++ [.sc (.int .u64 c.toNat)]=Qf (l++ [c]):=by simp[Qf]
theorem Zs (l:Lu)(n:Nat)(h:n<l.length):(Qf l).getD n .junk= .sc (.int .u64 (l.getD n 0).toNat):=by simp[Qf,q_a,h]
@[go_sem] theorem G2b (l:Lu)(i:Nat)(cs:Lp):(Qf l).map (PV.frz i cs)=Qf l:=by simp only[Qf,DZ];exact C4 fun a _=>rfl
theorem VS (l:Lu)(n:Nat)(c:UInt64)(h:n<l.length):Qu (Qf l) n [.sc (.int .u64 c.toNat)]=Qf (l.set n c):=by unfold Qu Qf;rw[DS,BC h];simp
@[go_sem] theorem U2z (l:Lu)(a b:Nat):(Qf l).all (PV.lim a b)=true:=by simp[Qf,PV.lim,PV.lim1]
@[go_sem] theorem G2a (l:Lu):Zo (Qf l)=true:=by simp[Qf,Zo,PV.closed2,PV.closed1]
@[go_sem] theorem G2c (l:Lu):(Qf l).map PV.forget2=Qf l:=by simp only[Qf,DZ];exact C4 fun a _=>rfl
@[go_sem] theorem U2x (n:Nat):List.replicate n (PV.sc (.int .u64 0))=Qf (List.replicate n 0):=by simp[Qf]
def Z7 (l:List UInt32):List PV:=l.map fun c=>(.sc (.int .u32 c.toNat))
@[go_sem] theorem H2c (l:Ls):(Z7 l).length=l.length:=by simp[Z7]
@[go_sem] theorem K0i :Z7 []= []:=(rfl)
@[go_sem] theorem H2a (l:Ls):(Z7 l).all (fun x=>x.cells.length==1)=true:=by simp[Z7,PV.cells]
@[go_sem] theorem G2z (l:Ls)(n:Nat):(Z7 l).take n=Z7 (l.take n):=by simp[Z7]
@[go_sem] theorem H2b (l:Ls)(c:UInt32):Z7 l++ [.sc (.int .u32 c.toNat)]=Z7 (l++ [c]):=by simp[Z7]
theorem Ub (l:Ls)(n:Nat)(h:n<l.length):(Z7 l).getD n .junk= .sc (.int .u32 (l.getD n 0).toNat):=by simp[Z7,q_a,h]
def QU (l:List Int):List PV:=l.map fun c=>(.sc (.int .i64 c))
@[go_sem] theorem Y0 (l:Pq):(QU l).length=l.length:=by simp[QU]
@[go_sem] theorem U2u :QU []= []:=(rfl)
@[go_sem] theorem U2t (l:Pq):(QU l).all (fun x=>(x.cells.length==1)&&x.cells.all PV.cellOK)=true:=by simp[QU,PV.cells,PV.cellOK,Value.oneCell']
theorem Wr (l:Pq)(n:Nat)(h:n<l.length):(QU l).getD n .junk= .sc (.int .i64 (l.getD n 0)):=by simp[QU,q_a,h]
attribute [go_sem] x1l x1k
structure Nm where
 neg:Bool
 exp:Int
 w:List UInt64
 deriving DecidableEq
abbrev Ly :=List (List Nm)
abbrev Lx :=List Nm
instance : Inhabited Nm:=⟨⟨false,0,[]⟩⟩
def Qg (x:Nm):List PV:= [.sc (.bool x.neg),.sc (.int .i64 x.exp),.sl .no (Qf x.w)]
attribute [go_sem] Qg
structure Ivl where
 lo:Nm
 hi:Nm
 deriving DecidableEq
abbrev Lj :=List (List Ivl)
abbrev Li :=List Ivl
instance : Inhabited Ivl:=⟨⟨default,default⟩⟩
def Qn (x:Ivl):List PV:= [.sc (.bool x.lo.neg),.sc (.int .i64 x.lo.exp),.sl .no (Qf x.lo.w),.sc (.bool x.hi.neg),.sc (.int .i64 x.hi.exp),.sl .no (Qf x.hi.w)]
attribute [go_sem] Qn
def Qy (l:List Nm):List PV:=l.map fun c=>(.agg (Qg c))
@[go_sem] theorem Kh (l:Lx):(Qy l).length=l.length:=by simp[Qy]
@[go_sem] theorem G2k :Qy []= []:=(rfl)
@[go_sem] theorem G2j (l:Lx):(Qy l).all (fun x=>x.cells.length==3)=true:=by simp[Qy,PV.cells,Qg]
@[go_sem] theorem x1c (l:Lx)(c:Nm):Qy l++ [.agg (Qg c)]=Qy (l++ [c]):=by simp[Qy]
theorem JN (l:Lx)(n:Nat)(h:n<l.length):(Qy l).getD n .junk= .agg (Qg (l.getD n default)):=by simp[Qy,q_a,h]
def Qk (l:List Ivl):List PV:=l.map fun c=>(.agg (Qn c))
@[go_sem] theorem Kk (l:Li):(Qk l).length=l.length:=by simp[Qk]
@[go_sem] theorem G2u :Qk []= []:=(rfl)
@[go_sem] theorem G2t (l:Li):(Qk l).all (fun x=>x.cells.length==6)=true:=by simp[Qk,PV.cells,Qn]
@[go_sem] theorem G2s (l:Li)(n:Nat):(Qk l).take n=Qk (l.take n):=by simp[Qk]
@[go_sem] theorem G2v (l:Li)(n:Nat):(Qk l).drop n=Qk (l.drop n):=by simp[Qk]
@[go_sem] theorem K0g (l:Li)(c:Ivl):Qk l++ [.agg (Qn c)]=Qk (l++ [c]):=by simp[Qk]
theorem Zt (l:Li)(n:Nat)(h:n<l.length):(Qk l).getD n .junk= .agg (Qn (l.getD n default)):=by simp[Qk,q_a,h]
structure Sg where
 fr:Int
 to:Int
 t0:Nm
 t1:Nm
 box:List Ivl
 deriving DecidableEq
instance : Inhabited Sg:=⟨⟨0,0,default,default,[]⟩⟩
def xm (x:Sg):List PV:= [.sc (.int .i64 x.fr),.sc (.int .i64 x.to),.sc (.bool x.t0.neg),.sc (.int .i64 x.t0.exp),.sl .no (Qf x.t0.w),.sc (.bool x.t1.neg),.sc (.int .i64 x.t1.exp),.sl .no (Qf x.t1.w),.sl .no (Qk x.box)]
attribute [go_sem] xm
def PFS.claim (t sz:Nat)(s:PFS):PFS:=
 match s.pa.getD t .junk with
 | .sl .full []=>⟨s.pa.set t (.sl (.own s.T.length) []),s.L,s.T++ [(0,sz)],s.st⟩
 | _=>s
theorem G0r {E:Ent}{s:PFS}(t sz:Nat):JQ E s (s.claim t sz):=by
 intro a w g F h;unfold PFS.claim;split;rename_i he;obtain⟨es,hes⟩: ∃es:List PV,es= []:=⟨_,rfl⟩;rw[<-hes] at he⊢;have hv:=h.len_eq t;rw[he] at hv;have hbase: ∀v,RepF w g F s.T v (.sl .full es)->Rep w g v (.sl .full es):=fun v hv=>by cases hv with | base _ _ h=>exact h
 have hv:=hbase _ hv;have hri: ∀v,Rep w g v (.sl .full es)->Right w g none sz v es:=fun v hv=>by
  cases hv with
  | nil t ad ht=>exact⟨.inr ⟨_,rfl⟩,rfl⟩
  | sl t es b off sz cap cf ht hf hcap hsz hvis hc hr=>exact⟨.inr ⟨_,by rw[hf rfl]⟩,by rw[hes];rfl⟩
 rw[show(0:Nat)=es.length from by rw[hes];rfl];obtain⟨F',m1,m2,m3,m4,m5⟩:=h.mint es.length sz none (fun b hb=>by cases hb);have hlast:(s.T++ [(es.length,sz)]).getD s.T.length (0,0)=(es.length,sz):=(by simp[q_a]);have hown:RepF w g F' (s.T++ [(es.length,sz)]) (a.tmps.getD t undef) (.sl (.own s.T.length) es):=by refine .own _ _ _ hv.toNo (by simp) (by rw[hlast];exact BD _) fun _=> ?_;rw[hlast,m2];exact hri _ hv
 refine⟨g,F',m1.ext,m1.store,m1.frame,m1.defers,by rw[BL];exact m1.len,fun j hj=> ?_⟩;simp only[BL] at hj;by_cases e:t=j;subst e;rw[Zw _ _ _ _ hj];exact hown;rw[Zg _ _ _ _ _ e];exact m1.tmps j hj;exact⟨g,F,h⟩
theorem X7 {P:Pg}{E:Ent}{c:Code}{Q:Pe}{s:PFS}(t sz:Nat)(h:PWP P E c Q (s.claim t sz)):PWP P E c Q s:=Kt (G0r t sz) h
def clm (p:PV)(t sz:Nat)(pa:List PV)(L:Qd)(T:List (Nat×Nat))(st:Qd):PFS:=
 match p with
 | .sl .full []=>⟨pa.set t (.sl (.own T.length) []),L,T++ [(0,sz)],st⟩
 | _=>⟨pa,L,T,st⟩
@[go_sem] theorem H2q {t sz:Nat}{pa:Lp}{L st:Qd}{T:Lv} :(PFS.mk pa L T st).claim t sz=clm (pa.getD t .junk) t sz pa L T st:=by unfold PFS.claim clm;rfl
@[go_sem] theorem H2p {t sz:Nat}{pa:Lp}{L st:Qd}{T:Lv} :clm (.sl .full []) t sz pa L T st=⟨pa.set t (.sl (.own T.length) []),L,T++ [(0,sz)],st⟩:=(rfl)
def noL :List Bool->List PV->List PV
 | b::bs,p::ps=>(if b&&p.closed2 then p.forget2 else p)::noL bs ps
 | [],ps=>ps
 | _,[]=> []
theorem kS : ∀(bs:Ld) (ps:Lp),(noL bs ps).length=ps.length
 | [],[]=>rfl
 | [],p::ps=>rfl
 | b::bs,[]=>rfl
 | b::bs,p::ps=>by simp[noL,kS bs ps]
theorem Tz : ∀(bs:Ld) (ps:Lp) (j:Nat),(noL bs ps).getD j .junk=ps.getD j .junk\/((ps.getD j .junk).closed2=true/\(noL bs ps).getD j .junk=(ps.getD j .junk).forget2)
 | [],ps,j=> .inl rfl
 | b::bs,[],j=> .inl rfl
 | b::bs,p::ps,j=>by
  cases j with
  | zero=>
   simp only[noL,LJ];by_cases h:(b&&p.closed2)=true;rw[BC h];simp at h;exact .inr ⟨h.2,rfl⟩;rw[BA h];exact .inl rfl
  | succ j=>simpa[noL] using Tz bs ps j
def PFS.plain (bs:List Bool)(s:PFS):PFS:=⟨noL bs s.pa,s.L,s.T,s.st⟩
theorem G0i {E:Ent}{s:PFS}(bs:Ld):JQ E s (s.plain bs):=by intro a w g F h;refine⟨g,F,h.ext,h.store,h.frame,h.defers,by simp only[PFS.plain,kS];exact h.len,fun j hj=> ?_⟩;simp only[PFS.plain,kS] at hj⊢;rcases Tz bs s.pa j with e | ⟨e1,e2⟩;rw[e];exact h.tmps j hj;rw[e2];exact .base _ _ ((h.tmps j hj).forget2 e1)
theorem WF {P:Pg}{E:Ent}{c:Code}{Q:Pe}{s:PFS}(bs:Ld)(h:PWP P E c Q (s.plain bs)):PWP P E c Q s:=Kt (G0i bs) h
@[go_sem] theorem V2b {bs:Ld}{pa:Lp}{L st:Qd}{T:Lv} :(PFS.mk pa L T st).plain bs=⟨noL bs pa,L,T,st⟩:=(rfl)
@[go_sem] theorem V2i {ps:Lp} :noL [] ps=ps:=(rfl)
@[go_sem] theorem V2l {bs ps:Lp}{b:Ld}{p:PV} :noL (false::b) (p::ps)=p::noL b ps:=(rfl)
@[go_sem] theorem V2g {ps es:Lp}{b:Ld} :noL (true::b) (.sl .no es::ps)= .sl .no es::noL b ps:=(rfl)
@[go_sem] theorem V2j {ps es:Lp}{b:Ld} :noL (true::b) (.sl .full es::ps)= .sl .no es::noL b ps:=(rfl)
@[go_sem] theorem V2h {k:Nat}{ps es:Lp}{b:Ld} :noL (true::b) (.sl (.own k) es::ps)= .sl .no es::noL b ps:=(rfl)
@[go_sem] theorem V2m {ps cs:Lp}{b:Ld} :noL (true::b) (.agg cs::ps)=(if cs.all PV.closed1=true then .agg (cs.map PV.forget1) else .agg cs)::noL b ps:=by simp only[noL,PV.closed2,PV.forget2,FF]
def PFS.plainBox (i:Nat)(s:PFS):PFS:=if (s.L.getD i []).all PV.closed2=true/\i<s.L.length then⟨s.pa,s.L.set i ((s.L.getD i []).map PV.forget2),s.T,s.st⟩ else s
theorem qo {E:Ent}{s:PFS}(i:Nat):JQ E s (s.plainBox i):=by
 intro a w g F h;unfold PFS.plainBox;split;rename_i hc;have hne: ∀k,(s.L.set i ((s.L.getD i []).map PV.forget2)).getD k []≠ []->s.L.getD k []≠ []:=fun k hk=>by by_cases e:i=k;subst e;rw[Zw _ _ _ _ hc.2] at hk;intro e2;rw[e2] at hk;exact hk rfl;rwa [Zg _ _ _ _ _ e] at hk
 refine⟨g,F,h.ext,h.store,⟨by simpa using h.frame.nl,fun k hk=>h.frame.lo k (hne k hk),fun k hk=>h.frame.apart k (hne k hk),fun k j hk hj=>h.frame.inj k j (hne k hk) (hne j hj),fun k hk=> ?_,h.frame.tlo,fun k b h1 h2=>⟨(h.frame.tapart k b h1 h2).1,fun j hj=>(h.frame.tapart k b h1 h2).2 j (hne j hj)⟩,h.frame.tinj⟩,h.defers,h.len,h.tmps⟩;have hh:=h.frame.holds k (hne k hk);by_cases e:i=k;subst e;rw[Zw _ _ _ _ hc.2];intro j hj;have hj':j<(s.L.getD i []).length:=(by simpa using hj);obtain⟨q1,c,q2,q3⟩:=hh j hj';refine⟨q1,c,q2,?_⟩;rw[Ji _ _ _ _ .junk hj'];exact .base _ _ (q3.forget2 (List.all_eq_true.1 hc.1 _ (Q8 _ _ _ hj')));rw[Zg _ _ _ _ _ e];exact hh;exact⟨g,F,h⟩
theorem Vm {P:Pg}{E:Ent}{c:Code}{Q:Pe}{s:PFS}(i:Nat)(h:PWP P E c Q (s.plainBox i)):PWP P E c Q s:=Kt (qo i) h
@[go_sem] theorem V2c {i:Nat}{pa:Lp}{L st:Qd}{T:Lv} :(PFS.mk pa L T st).plainBox i=if (L.getD i []).all PV.closed2=true/\i<L.length then⟨pa,L.set i ((L.getD i []).map PV.forget2),T,st⟩ else⟨pa,L,T,st⟩:=(rfl)
theorem PCalls.plain {P:Pg}{f:FuncId}{args es:Lp}{st:Qd}{sz:Nat}(h:PCalls P f args st (fun r st'=>r= .sl (.fresh sz) es/\st'=st)):PCalls P f args st (fun r st'=>r= .sl .no es/\st'=st):=
 fun w g vs hs hr=>(h w g vs hs hr).mono fun _ _ ⟨v,g',r,st',he,hx,ho,hv,q⟩=>by obtain⟨rfl,rfl⟩:=q;exact⟨v,g',.sl .no es,_,he,hx,ho,hv.1,rfl,rfl⟩
theorem ZW (n:Nat):IntKind.u64.wrap (n:Int)=((n % 18446744073709551616:Nat):Int):=by simp[IntKind.wrap,IntKind.bits,IntKind.signed]
theorem Gx (n:Nat):IntKind.u32.wrap (n:Int)=((n % 4294967296:Nat):Int):=by simp[IntKind.wrap,IntKind.bits,IntKind.signed]
theorem Zd (n:Nat)(h:n<9223372036854775808):IntKind.i64.wrap (n:Int)=(n:Int):=Q4 _ oG oG
theorem HA (a b:Nat)(ha:a<18446744073709551616)(hb:b<18446744073709551616):bOr .u64 (a:Int) (b:Int)=((a|||b:Nat):Int):=by
 unfold bOr;have e:(BitVec.ofInt IntKind.u64.bits (a:Int)|||BitVec.ofInt IntKind.u64.bits (b:Int)).toNat=a|||b:=by
  have e1:BitVec.ofInt IntKind.u64.bits (a:Int)=BitVec.ofNat 64 a:=(by simp[IntKind.bits]);have e2:BitVec.ofInt IntKind.u64.bits (b:Int)=BitVec.ofNat 64 b:=(by simp[IntKind.bits]);rw[e1,e2];show(BitVec.ofNat 64 a|||BitVec.ofNat 64 b).toNat=a|||b
  rw[BitVec.toNat_or,D2,D2,BJ (by omega:a<2^64),BJ (by omega:b<2^64)]
 rw[e];exact Uo _ (Nat.or_lt_two_pow (n:=64) ha hb)
theorem xJ (a b:Nat)(ha:a<18446744073709551616)(hb:b<18446744073709551616):Xm .u64 (a:Int) (b:Int)=((a&&&b:Nat):Int):=by
 unfold Xm;have e:(BitVec.ofInt IntKind.u64.bits (a:Int)&&&BitVec.ofInt IntKind.u64.bits (b:Int)).toNat=a&&&b:=by have e1:BitVec.ofInt IntKind.u64.bits (a:Int)=BitVec.ofNat 64 a:=(by simp[IntKind.bits]);have e2:BitVec.ofInt IntKind.u64.bits (b:Int)=BitVec.ofNat 64 b:=(by simp[IntKind.bits]);rw[e1,e2];show(BitVec.ofNat 64 a&&&BitVec.ofNat 64 b).toNat=a&&&b;rw[BitVec.toNat_and,D2,D2,BJ (by omega:a<2^64),BJ (by omega:b<2^64)]
 rw[e];exact Uo _ (D1 Nat.and_le_left ha)
theorem Y0n (a b:Nat)(ha:a<4294967296)(hb:b<4294967296):Xm .u32 (a:Int) (b:Int)=((a&&&b:Nat):Int):=by
 unfold Xm;have e:(BitVec.ofInt IntKind.u32.bits (a:Int)&&&BitVec.ofInt IntKind.u32.bits (b:Int)).toNat=a&&&b:=by have e1:BitVec.ofInt IntKind.u32.bits (a:Int)=BitVec.ofNat 32 a:=(by simp[IntKind.bits]);have e2:BitVec.ofInt IntKind.u32.bits (b:Int)=BitVec.ofNat 32 b:=(by simp[IntKind.bits]);rw[e1,e2];show(BitVec.ofNat 32 a&&&BitVec.ofNat 32 b).toNat=a&&&b;rw[BitVec.toNat_and,D2,D2,BJ (by omega:a<2^32),BJ (by omega:b<2^32)]
 rw[e,Gx,BJ (D1 Nat.and_le_left ha)]
theorem Y0m (k:IntKind)(v c:Nat)(h:c<=k.bits):XH k (v:Int) (c:Int)=k.wrap ((v*2^c:Nat):Int):=by unfold XH;rw[FV,DA h];congr 1
theorem WW (v c:Nat)(h:c<=64):XH .u64 (v:Int) (c:Int)=((v*2^c % 18446744073709551616:Nat):Int):=by rw[Y0m .u64 v c h,ZW]
theorem Q2r (v c:Nat)(h:c<=32):XH .u32 (v:Int) (c:Int)=((v*2^c % 4294967296:Nat):Int):=by rw[Y0m .u32 v c h,Gx]
theorem V4 (v c:Nat)(h:c<=64):Zq .u64 (v:Int) (c:Int)=((v/2^c:Nat):Int):=qg .u64 v c h
theorem Q2q (v c:Nat)(h:c<=32):Zq .u32 (v:Int) (c:Int)=((v/2^c:Nat):Int):=qg .u32 v c h
theorem Hf (x y c:Nat)(hx:x<2^c)(hy:y % 2^c=0):x|||y=x+y:=by
 have e:y=2^c*(y/2^c):=by have:=D5 y (2^c);omega
 rw[Nat.or_comm,e,<-Nat.two_pow_add_eq_or_of_lt hx,EZ]
theorem kZ (w c:Nat)(h:c<=64):w*2^c % 18446744073709551616 % 2^c=0:=by have e:(18446744073709551616:Nat)=2^c*2^(64-c):=(by rw[<-B2,show c+(64-c)=64 from oG]);rw[e,Nat.mod_mul_right_mod,Nat.mul_mod_left]
theorem jJ (w c:Nat)(hw:w<18446744073709551616)(h:c<=64):w*2^c=w*2^c % 18446744073709551616+18446744073709551616*(w/2^(64-c)):=by have e:(18446744073709551616:Nat)=2^(64-c)*2^c:=(by rw[<-B2,show 64-c+c=64 from oG]);have d:w*2^c/18446744073709551616=w/2^(64-c):=(by rw[e,Nat.mul_div_mul_right _ _ (DJ (by decide))]);rw[<-d];exact(FN _ _).symm
theorem jI (w c:Nat)(hw:w<18446744073709551616)(h:c<=64):w/2^(64-c)<2^c:=by rw[DV (DJ (by decide)),<-B2,show c+(64-c)=64 from oG];exact hw
theorem Ye (n m:Nat):(n:Int).tdiv (m:Int)=((n/m:Nat):Int):=(Int.ofNat_tdiv n m).symm
theorem G8 (n m:Nat):(n:Int).tmod (m:Int)=((n % m:Nat):Int):=(Int.ofNat_tmod n m).symm
theorem KV (k:Nat):18446744073709551616^k=2^(64*k):=by rw[show(18446744073709551616:Nat)=2^64 from rfl,<-Nat.pow_mul]
theorem Hc (k:Nat):4294967296^k=2^(32*k):=by rw[show(4294967296:Nat)=2^32 from rfl,<-Nat.pow_mul]
theorem Xn (n:Nat)(h:n<18446744073709551616):(UInt64.ofNat n).toNat=n:=by rw[FG];omega
theorem G5 (n:Nat)(h:n<4294967296):(UInt32.ofNat n).toNat=n:=by rw[UInt32.toNat_ofNat'];omega
theorem Y0h {m n:Nat}(h:Qo m<Qo n):m<n:=by apply EV;intro hle;have:Qo n<=Qo m:=bitlen_le_iff.2 (D1 hle (KY m));omega
def QF (l:List UInt64):Nat:=Qo (Qc l)
theorem Q2j (l:Lu):QF (QE l)=QF l:=by simp only[QF,Jw]
theorem k1m (l:Lu):QE l= []<->Qc l=0:=by rw[<-ZE,wordsOf_nil]
theorem Q2i (l:Lu)(h:QE l≠ []):QF l=64*((QE l).length-1)+Qo ((QE l).getD ((QE l).length-1) 0).toNat:=by
 have hl:=k1n l h;rw[<-Q2j];generalize QE l=c at*
 have hp:0<c.length:=EM.2 h;have e:Qc c=Qc (c.take (c.length-1))+18446744073709551616^(c.length-1)*(c.getD (c.length-1) 0).toNat:=(by rw[<-V7 c (c.length-1) oG,show c.length-1+1=c.length from oG,B0]);have hb:=Xe (c.take (c.length-1));rw[BX,DA oG] at hb;rw[QF,e];rw[KV] at hb⊢;exact Q2k _ _ _ hb (fun h0=>hl ((q8 _).2 h0))
theorem Vb (l:Lu):QF l<=64*l.length:=by rw[QF,bitlen_le_iff,<-KV];exact Xe l
def ZQ (x:Nm):Int:=if x.neg then -(Qc x.w:Int) else(Qc x.w:Int)
def Je (m:Int)(e:Int)(n:Int)(f:Int):Int:=Zm (m*2^(e-min e f).toNat) (n*2^(f-min e f).toNat)
def ZJ (a b:Nm):Int:=Je (ZQ a) a.exp (ZQ b) b.exp
def sgn (m:Int):Int:=if m=0 then 0 else if m<0 then -1 else 1
theorem two_pow_pos (n:Nat):(0:Int)<2^n:=Int.pow_pos (by decide)
theorem GM (m:Int)(n:Nat):sgn (m*2^n)=sgn m:=by have h:=two_pow_pos n;unfold sgn;by_cases h0:m=0;simp[h0];have h1:m*2^n≠0:=Int.mul_ne_zero h0 oG;rw[BA h0,BA h1];by_cases hl:m<0;rw[BC hl,BC (Int.mul_neg_of_neg_of_pos hl h)];rw[BA hl,BA];have:0<m*2^n:=Int.mul_pos oG h;omega
theorem v1m {m n:Int}(h:sgn m≠sgn n):Zm m n=Zm (sgn m) (sgn n):=by
 unfold sgn at*
 unfold Zm
 repeat' split at h
 all_goals repeat' split
 all_goals first | omega | rfl | (exfalso;omega)
theorem v1q {m e n f:Int}(h:sgn m≠sgn n):Je m e n f=Zm (sgn m) (sgn n):=by unfold Je;rw[v1m (by rw[GM,GM];exact h),GM,GM]
theorem v1o {e f:Int} :Je 0 e 0 f=0:=by unfold Je;simp[yh]
theorem v1r {m e n f:Int} :Je (-m) e (-n) f= -Je m e n f:=by unfold Je;rw[DU,DU,v1n]
theorem v1p {m e n f:Int} :Je n f m e= -Je m e n f:=by unfold Je;rw[Int.min_comm f e,W0g]
theorem yi (m n:Nat)(e f:Int):Je m e n f=X0 (m*2^(e-min e f).toNat) (n*2^(f-min e f).toNat):=by unfold Je X0;rw[CN,CN,Int.natCast_pow,Int.natCast_pow];rfl
theorem v1u {m n:Nat}{e f:Int}(hm:m≠0)(hn:n≠0)(h:(Qo m:Int)+e≠(Qo n:Int)+f):Je m e n f=Zm ((Qo m:Int)+e) ((Qo n:Int)+f):=by rw[yi,X0];have h1:=yv m (e-min e f).toNat hm;have h2:=yv n (f-min e f).toNat hn;by_cases hl:(Qo m:Int)+e<(Qo n:Int)+f;rw[H3 hl,H3];exact Int.ofNat_lt.2 (Y0h (by rw[h1,h2];omega));have hlt:n*2^(f-min e f).toNat<m*2^(e-min e f).toNat:=Y0h (by rw[h1,h2];omega);have hlt':=Int.ofNat_lt.2 hlt;rw[H4 (a:=(Qo m:Int)+e) oG,H4 hlt']
theorem v1t {m n:Nat}{e f:Int}(h:f<e):Je m e n f=X0 (m*2^(e-f).toNat) n:=by rw[yi,Int.min_eq_right oG];simp
theorem v1s {m n:Nat}{e f:Int}(h:e<=f):Je m e n f=X0 m (n*2^(f-e).toNat):=by rw[yi,Int.min_eq_left h];simp
def sm (x:Nm):Prop:=x.w.length<=1000000/\ -1000000000<=x.exp/\x.exp<=1000000000
theorem mant_zero {x:Nm} :ZQ x=0<->Qc x.w=0:=by unfold ZQ;split<;>omega
def QJ (x:Nm):Int:=if Qc x.w=0 then 0 else if x.neg then -1 else 1
theorem U1 (x:Nm):QJ x=sgn (ZQ x):=by unfold QJ sgn ZQ;by_cases h:Qc x.w=0;rw[BC h];simp[h];cases hn:x.neg;simp[h];simp[h]
theorem v1g (a b:Nm):ZJ a b=if QJ a≠QJ b\/QJ a=0 then Zm (QJ a) (QJ b) else QJ a*Je (Qc a.w) a.exp (Qc b.w) b.exp:=by
 by_cases h:QJ a≠QJ b;rw[BC (.inl h),ZJ,U1,U1];rw[U1,U1] at h;exact v1q h;have h':QJ a=QJ b:=Decidable.not_not.1 h;by_cases h0:QJ a=0;rw[BC (.inr h0),h0,<-h',h0];have z: ∀x,QJ x=0->ZQ x=0:=fun x hx=>by unfold QJ at hx;by_cases hv:Qc x.w=0;exact mant_zero.2 hv;rw[BA hv] at hx;split at hx<;>cases hx
 rw[ZJ,z a h0,z b (h'▸h0),v1o];rfl;rw[BA (by simp[h',h0];rw[<-h'];exact h0)];unfold QJ at h' h0;unfold QJ ZJ ZQ;by_cases ha:Qc a.w=0;rw[BC ha] at h0;exact absurd rfl h0;by_cases hb:Qc b.w=0;rw[BC hb] at h';exact absurd h' h0;rw[BA ha,BA hb] at h';cases hna:a.neg<;>cases hnb:b.neg<;>simp[hna,hnb,ha,hb,v1r] at h'⊢
theorem UY {α:Type}(l:List α)(i:Nat)(d:α)(h:l.length<=i):l.getD i d=d:=by rw[q_a,C2 h];rfl
theorem Bg (l:Ls)(i:Nat):QH (l.take (i+1))=QH (l.take i)+4294967296^i*(l.getD i 0).toNat:=by by_cases h:i<l.length;exact jn l i h;rw[BF oG,BF oG,UY l i 0 oG];show QH l=QH l+4294967296^i*0;omega
theorem jo (l:Ls)(i:Nat)(h:i<=l.length):QH l=QH (l.take i)+4294967296^i*QH (l.drop i):=by
 conv=>lhs;rw[<-FQ i l]
 rw[jq,BX,DA h]
theorem jp (l:Ls)(i:Nat)(h:i<l.length):QH (l.drop i)=(l.getD i 0).toNat+4294967296*QH (l.drop (i+1)):=by rw[FC h];simp only[QH,nD,DX,val];rw[q_a,BB h];rfl
theorem Bj (l:Ls)(i:Nat)(h:l.length<=i):QH (l.drop i)=0:=by rw[C6 h];rfl
theorem Bk (l:Ls)(i:Nat):QH (l.drop i)=(l.getD i 0).toNat+4294967296*QH (l.drop (i+1)):=by by_cases h:i<l.length;exact jp l i h;rw[Bj l i oG,Bj l (i+1) oG,UY l i 0 oG];rfl
theorem V0f (l:Ls)(i:Nat)(h:i<=l.length):QH l/4294967296^i=QH (l.drop i):=by have hb:=qv (l.take i);rw[BX,DA h] at hb;rw[jo l i h,EX _ _ (DJ (by decide)),CP hb,CU]
theorem x1y (a b r s:Nat)(hs:s<32):(a+4294967296*(b+4294967296*r))/2^s % 4294967296=(a+4294967296*b)/2^s % 4294967296:=by
 have e:4294967296*(b+4294967296*r)=4294967296*b+2^s*(4294967296*(2^(32-s)*r)):=by have:(4294967296:Nat)=2^s*2^(32-s):=(by rw[<-B2,show s+(32-s)=32 from oG]);have e2:2^s*(4294967296*(2^(32-s)*r))=4294967296*(2^s*2^(32-s)*r):=(by simp only[BW,EK]);rw[e2,<-this,CE]
 rw[e,<-DK,EX _ _ (DJ (by decide)),D7]
theorem Q0k (x B j:Nat):x % B^(j+1)=x % B^j+B^j*(x/B^j % B):=by rw[B5,Nat.mod_mul]
def tz (m:Nat):Nat:=if h:m=0\/m % 2=1 then 0 else tz (m/2)+1
termination_by m
decreasing_by omega
theorem jt :tz 0=0:=by rw[tz];simp
theorem q9 {m:Nat}(h:m % 2=1):tz m=0:=by rw[tz,dif_pos (.inr h)]
theorem jw {m:Nat}(h0:m≠0)(h:m % 2=0):tz m=tz (m/2)+1:=by rw[tz,dif_neg oG]
theorem HP (z q:Nat)(hq:q % 2=1):tz (2^z*q)=z:=by
 induction z with
 | zero=>simp[q9 hq]
 | succ z ih=>
  have hp:0<2^z:=DJ (by decide);have e:2^(z+1)*q=2*(2^z*q):=(by rw[B5];simp only[BW,EK,BM]);have h0:2^z*q≠0:=F0 oG oG;rw[e,jw oG oG,EY _ (by decide),ih]
theorem G6 (m:Nat)(h:m≠0): ∃q,q % 2=1/\m=2^tz m*q:=by
 induction m using Nat.strongRecOn with
 | _ m ih=>
  by_cases ho:m % 2=1;exact⟨m,ho,by rw[q9 ho];simp⟩
  . obtain⟨q,h1,h2⟩:=ih (m/2) oG oG;refine⟨q,h1,?_⟩;rw[jw h oG,B5];have:m=2*(m/2):=oG
    conv=>lhs;rw[this,h2]
    simp only[BW,EK,BM]
theorem HO (m:Nat)(h:m≠0):m/2^tz m % 2=1:=by
 obtain⟨q,h1,h2⟩:=G6 m h;have:m/2^tz m=q:=by
  conv=>lhs;lhs;rw[h2]
  exact EY _ (DJ (by decide))
 rw[this,h1]
theorem Bp (m:Nat):m % 2^tz m=0:=by
 by_cases h:m=0;subst h;simp
 . obtain⟨q,_,h2⟩:=G6 m h
   conv=>lhs;lhs;rw[h2]
   exact Nat.mul_mod_right _ _
theorem q0e (m:Nat):m/2^tz m*2^tz m=m:=Nat.div_mul_cancel (Nat.dvd_of_mod_eq_zero (Bp m))
theorem ju (m:Nat)(h:m≠0):tz m<Qo m:=by apply EV;intro hle;have h1:m<2^tz m:=bitlen_le_iff.1 hle;have:=Bp m;rw[BJ h1] at this;exact h this
structure Vl where
 neg:Bool
 m:Nat
 e:Int
 deriving DecidableEq
instance : Inhabited Vl:=⟨⟨false,0,0⟩⟩
def w5 (v:Vl):List PV:= [.sc (.bool v.neg),.sl .no (Z7 (QW v.m)),.sc (.int .i64 v.e)]
attribute [go_sem] w5
theorem wT (m:Nat):(QW m).length<=(Qo m+31)/32:=by apply j1w;rw[Hc];exact q_e (KY m) (BS (by decide) oG)
theorem Gz (m:Nat):(Qz m).length<=(Qo m+63)/64:=by apply Ya;rw[KV];exact q_e (KY m) (BS (by decide) oG)
theorem qe {m n:Nat}(h:m<=n):Qo m<=Qo n:=bitlen_le_iff.2 (D1 h (KY n))
theorem Bq (m:Nat):tz m<=Qo m:=by by_cases h:m=0;subst h;rw[jt];exact CX _;exact F9 (ju m h)
def Z0 (v:Vl):Int:=if v.neg then -(v.m:Int) else(v.m:Int)
def Zf (neg:Bool)(m:Nat)(e:Int):Vl:=if m=0 then⟨false,0,0⟩ else⟨neg,m/2^tz m,e+tz m⟩
def mkV (s:Int)(e:Int):Vl:=Zf (decide (s<0)) s.natAbs e
def Xf (v:Vl):Vl:=if v.m=0 then v else { v with neg:= !v.neg }
def Vn (a b:Vl):Vl:=if a.m=0 then b else if b.m=0 then a else
 mkV (Z0 a*2^(a.e-min a.e b.e).toNat+Z0 b*2^(b.e-min a.e b.e).toNat) (min a.e b.e)
def Ko (v:Vl):Int:=if v.m=0 then 0 else if v.neg then -1 else 1
def JJ (a b:Vl):Vl:=Vn a (Xf b)
def Kc (a b:Vl):Int:=Ko (JJ a b)
theorem GL (v:Vl):Ko v=sgn (Z0 v):=by unfold Ko sgn Z0;by_cases h:v.m=0;rw[BC h];simp[h];cases hn:v.neg;simp[h];simp[h]
theorem j0z (s e:Int):Ko (mkV s e)=sgn s:=by
 unfold mkV Zf Ko sgn;by_cases h:s=0;subst h;simp;have h1:s.natAbs≠0:=oG;rw[BA h1];have h2:s.natAbs/2^tz s.natAbs≠0:=by have:=HO s.natAbs h1;omega
 simp only;rw[BA h2,BA h];by_cases hl:s<0;simp[hl];simp[hl]
theorem vp (v:Vl):Z0 (Xf v)= -Z0 v:=by unfold Xf;by_cases h:v.m=0;rw[BC h];simp[Z0,h];rw[BA h];unfold Z0;cases v.neg<;>simp
theorem qC (v:Vl):(Xf v).m=v.m:=by unfold Xf;split<;>rfl
theorem qD (v:Vl):(Xf v).e=v.e:=by unfold Xf;split<;>rfl
theorem vo {v:Vl}(h:v.m=0):Z0 v=0:=by unfold Z0;simp[h]
theorem v1l (a b:Int):Zm a b=sgn (a-b):=by unfold Zm sgn;by_cases h1:a<b;rw[BC h1,BA oG,BC oG];by_cases h2:a>b;rw[BA h1,BC h2,BA oG,BA oG];rw[BA h1,BA h2,BC oG]
theorem X1p (a b:Vl):Kc a b=Je (Z0 a) a.e (Z0 b) b.e:=by unfold Kc JJ Vn Je;rw[v1l,qC,qD];by_cases ha:a.m=0;rw[BC ha,GL,vp,vo ha,Int.zero_mul,Int.zero_sub,<-DU,GM];rw[BA ha];by_cases hb:b.m=0;rw[BC hb,GL,vo hb,Int.zero_mul,Int.sub_zero,GM];rw[BA hb,j0z,vp,DU];rfl
def ofN (x:Nm):Vl:=⟨x.neg,Qc x.w,x.exp⟩
theorem Sh (a b:Nm):Kc (ofN a) (ofN b)=ZJ a b:=by rw[X1p];rfl
def Qh (x:Nm):Bool:=if x.w= [] then !x.neg&&x.exp==0 else decide ((QE x.w).length=x.w.length)&&decide (x.w.length<=64)&&decide ((x.w.getD 0 0).toNat % 2=1)&&decide (-65536<=x.exp)&&decide (x.exp<=65536)
def Q9 (a b:Nm):Int:=if Qh a=true/\Qh b=true then ZJ a b else 0
def XD (x:Nm):Nm:=if Qh x=true then x else⟨false,0,[]⟩
theorem QT {x:Nm}(h:Qh x=true):sm x:=by unfold Qh at h;split at h;rename_i hw;simp at h;simp[sm,hw,h];simp at h;obtain⟨⟨⟨⟨_,h1⟩,_⟩,h2⟩,h3⟩:=h;exact⟨oG,oG,oG⟩
theorem jW {x:Nm}(h:Qh x=true):QE x.w=x.w:=by unfold Qh at h;split at h;rename_i hw;rw[hw];rfl;simp at h;have e:=h.1.1.1.1;have h2:x.w.getD (x.w.length-1) 0≠0:=(V0t x.w (by assumption)).1 e;rw[wW x.w x.w.length (BD _) (fun j h1 h2=>oG) (.inr h2)];simp
def wN (x:Nm):Prop:=x.w.length<=100000000000
def wI (x:Ivl):Prop:=wN x.lo/\wN x.hi
def Qp (x:Ivl):Bool:=Qh x.lo&&Qh x.hi&&decide (ZJ x.lo x.hi<=0)
def Z9 (a b:Nm):Nm:=if ZJ b a<0 then b else a
def Zv (a b:Nm):Nm:=if ZJ b a>0 then b else a
def VL (a b:Ivl):Ivl×Int:=if Qp a=true/\Qp b=true then(⟨Z9 a.lo b.lo,Zv a.hi b.hi⟩,0) else(default,1)
def inI (a b:Ivl):Bool:=Qp a&&Qp b&&decide (0<=ZJ a.lo b.lo)&&decide (0<=ZJ b.hi a.hi)
def rightB (l:List Ivl):Bool:=l.all Qp&&decide (1<=l.length)&&decide (l.length<=4)
def ZD {α β:Type}(F:Nat->α->β×Int):Nat->List α->List β->List β×Int
 | _,[],acc=>(acc,0)
 | i,x::l,acc=>if (F i x).2≠0 then([],(F i x).2) else ZD F (i+1) l (acc++ [(F i x).1])
theorem Xg {x:Ivl}(h:Qp x=true):Qh x.lo=true/\Qh x.hi=true/\ZJ x.lo x.hi<=0:=by unfold Qp at h;simp at h;exact⟨h.1.1,h.1.2,h.2⟩
theorem ZF {x:Nm}(h:sm x):wN x:=by have:=h.1;unfold wN;omega
theorem v5 {P:Nm->Prop}{a b:Nm}(ha:P a)(hb:P b):P (Z9 a b):=by unfold Z9;split<;>assumption
theorem Ho {P:Nm->Prop}{a b:Nm}(ha:P a)(hb:P b):P (Zv a b):=by unfold Zv;split<;>assumption
def Wm (a b:List Ivl):List Ivl×Int:=if rightB a=true/\rightB b=true/\a.length=b.length then ZD (fun i x=>VL x (b.getD i default)) 0 a [] else([],1)
def Ui {α:Type}[Inhabited α](f:α->α->Bool)(a b:List α):Bool:=decide (a.length=b.length)&&(List.range a.length).all fun i=>f (a.getD i default) (b.getD i default)
def inB (a b:List Ivl):Bool:=rightB a&&rightB b&&Ui inI a b
theorem xx (a b:Nm):ZJ b a= -ZJ a b:=v1p
theorem IS (a:Nm):ZJ a a=0:=by unfold ZJ Je;exact yh rfl
theorem Y1h (a b:Nm):ZJ (Z9 a b) a<=0:=by unfold Z9;split;omega;rw[IS];decide
theorem Y1g (a b:Nm):ZJ (Z9 a b) b<=0:=by unfold Z9;split;rw[IS];decide;have:=xx b a;omega
theorem G1z (a b:Nm):ZJ a (Zv a b)<=0:=by unfold Zv;split;have:=xx b a;omega;rw[IS];decide
theorem G1y (a b:Nm):ZJ b (Zv a b)<=0:=by unfold Zv;split;rw[IS];decide;omega
theorem Ig {x:Ivl}(h1:Qh x.lo=true)(h2:Qh x.hi=true)(h3:ZJ x.lo x.hi<=0):Qp x=true:=by unfold Qp;rw[h1,h2,q_h h3];rfl
theorem G1a {a b:Ivl}(ha:Qp a=true)(hb:Qp b=true):VL a b=(⟨Z9 a.lo b.lo,Zv a.hi b.hi⟩,0):=BC ⟨ha,hb⟩
theorem K0o {α β:Type}[Inhabited α](F:Nat->α->β×Int): ∀(l:List α) (i:Nat) (acc:List β),(∀j,j<l.length->(F (i+j) (l.getD j default)).2=0)->
 ZD F i l acc=(acc++(List.range l.length).map (fun j=>(F (i+j) (l.getD j default)).1),0)
 | [],i,acc,_=>by simp[ZD]
 | x::l,i,acc,h=>by have h0:=h 0 (by simp);simp only[B1,LJ] at h0;rw[ZD,BA (fun e=>e h0),K0o F l (i+1) _ (fun j hj=>by have:=h (j+1) (by simp;omega);rw[List.getD_cons_succ,<-DK,Nat.add_right_comm] at this;exact this)];rw[C1,List.range_succ_eq_map,DX,DZ,BP];simp only[B1,LJ,FR,CZ,and_true];congr 2;apply C4;intro j _;simp only[Function.comp,List.getD_cons_succ];rw[show i+1+j=i+j.succ from oG]
theorem zd {l:Li}(h:rightB l=true): ∀i,i<l.length->Qp (l.getD i default)=true:=by unfold rightB at h;simp only[q_i,q_d] at h;intro i hi;refine h.1.1 _ ?_;rw[q_a,BB hi];exact EA hi
theorem GV {l:Li}(h: ∀i,i<l.length->Qp (l.getD i default)=true)(h1:1<=l.length)(h2:l.length<=4):rightB l=true:=by unfold rightB;rw[q_h h1,q_h h2,List.all_eq_true.2];rfl;intro x hx;obtain⟨i,hi,rfl⟩:=CM.1 hx;have:=h i hi;rwa [q_a,BB hi] at this
theorem WB {l:Li}(h:rightB l=true):1<=l.length/\l.length<=4:=by unfold rightB at h;simp at h;omega
theorem G1d {a b:Li}(ha:rightB a=true)(hb:rightB b=true)(hl:a.length=b.length):
 Wm a b=((List.range a.length).map (fun j=>(VL (a.getD j default) (b.getD j default)).1),0):=by
 rw[Wm,BC ⟨ha,hb,hl⟩,K0o _ a 0 [] (fun j hj=>by rw[CU,G1a (zd ha j hj) (zd hb j oG)])];simp
theorem H1d {β:Type}(n:Nat)(f:Nat->β)(i:Nat)(d:β)(h:i<n):((List.range n).map f).getD i d=f i:=by simp[q_a,h]
def wB (l:List Ivl):Prop:=l.length<=100000000000/\ ∀i,i<l.length->wI (l.getD i default)
def wS (s:Sg):Prop:=wN s.t0/\wN s.t1/\wB s.box
def v0x (s:Sg):Bool:=decide (1<=s.fr)&&decide (s.fr<=s.to)&&decide (s.to<=4096)&&Qh s.t0&&Qh s.t1&& !s.t0.neg&&decide (Q9 s.t0 s.t1<0)&&rightB s.box
def Q2o (a b:Sg):Bool:=decide (b.fr=IntKind.i64.wrap (a.to+1))&&decide (Q9 a.t1 b.t0=0)&&decide (a.box.length=b.box.length)
def rowAt (l:List Sg)(i:Nat):Bool:=v0x (l.getD i default)&&(decide (i=0)||Q2o (l.getD (i-1) default) (l.getD i default))
theorem KO {x:Nm}(h:Qh x=true):Qc x.w=0<->x.w= []:=by constructor;intro hv;rw[<-jW h,<-ZE,hv,Vc];intro hw;rw[hw];rfl
theorem k0e {x:Nm}(h:Qh x=true):QJ (XD x)=0<->x.w.length=0:=by rw[XD,BC h,BZ,<-KO h];unfold QJ;by_cases hv:Qc x.w=0;rw[BC hv];simp[hv];rw[BA hv];cases x.neg<;>simp[hv]
theorem yT :wN default:=by unfold wN;show([]:Lu).length<=_;simp
theorem HJ :wI default:=⟨yT,yT⟩
theorem JT :wB []:=⟨by simp,fun i hi=>by simp at hi⟩
theorem G0w {a b:Ivl}(ha:wI a)(hb:wI b):wI (VL a b).1:=by unfold VL;split;exact⟨v5 ha.1 hb.1,Ho ha.2 hb.2⟩;exact HJ
theorem yW {a b:Li}(ha:wB a)(hb:wB b):wB (Wm a b).1:=by by_cases h:rightB a=true/\rightB b=true/\a.length=b.length;rw[G1d h.1 h.2.1 h.2.2];refine⟨by simpa using ha.1,fun i hi=> ?_⟩;have hi':i<a.length:=(by simpa using hi);rw[H1d _ _ _ _ hi'];exact G0w (ha.2 i hi') (hb.2 i oG);rw[Wm,BA h];exact JT
theorem IQ {a b:Nm}(ha:Qh a=true)(hb:Qh b=true):Q9 a b=ZJ a b:=BC ⟨ha,hb⟩
def flat (ys:List PV):List PV:=(ys.map PV.cells).flatten
theorem xg (y:PV)(ys:Lp):flat (y::ys)=y.cells++flat ys:=by simp[flat]
theorem KJ {sz:Nat} : ∀ {ys:Lp},(∀i,i<ys.length->(ys.getD i .junk).cells.length=sz)->(flat ys).length=ys.length*sz
 | [],_=>by simp[flat]
 | y::ys,h=>by have h0:y.cells.length=sz:=h 0 (by simp);rw[xg,BH,h0,KJ (ys:=ys) (fun i hi=>h (i+1) (by simpa using hi)),C1,BQ];omega
theorem VQ {sz:Nat} : ∀ {ys:Lp},(∀i,i<ys.length->(ys.getD i .junk).cells.length=sz)-> ∀m,m<ys.length*sz->(flat ys).getD m .junk=(ys.getD (m/sz) .junk).cells.getD (m % sz) .junk
 | [],_,m,hm=>by simp at hm
 | y::ys,h,m,hm=>by
  have h0:y.cells.length=sz:=h 0 (by simp);have hp:0<sz:=by refine EU fun e=> ?_;rw[e] at hm;simp at hm
  rw[xg];by_cases hlt:m<sz;rw[QQ _ _ _ _ oG,CP hlt,BJ hlt];rfl;have hm':m-sz<ys.length*sz:=(by rw[C1,BQ] at hm;omega);rw[Zl _ _ _ _ oG,h0,VQ (ys:=ys) (fun i hi=>h (i+1) (by simpa using hi)) _ hm'];have e1:m/sz=(m-sz)/sz+1:=Nat.div_eq_sub_div hp oG;rw[e1,<-Nat.mod_eq_sub_mod oG];rfl
theorem X0s {w:Lw}{g:Gh}{F:Fr}{T:Lv}{v:Value}(h:RepF w g F T v (.sl .full [])): ∃ad,v= .slice ad 0 0:=by
 have h':Rep w g v (.sl .full []):=by cases h with | base _ _ h=>exact h
 have key: ∀es:List PV,es= []->Rep w g v (.sl .full es)-> ∃ad,v= .slice ad 0 0:=fun es he h=>by
  cases h with
  | nil t ad ht=>exact⟨ad,rfl⟩
  | sl t es b off sz cap cf ht hf hcap hsz hvis hc hr=>
   have:=hf rfl;subst he;exact⟨_,by rw[this];rfl⟩
 exact key [] rfl h'
section
variable {P:Program} {s:PFS} {K:PFS->Prop} {d:Option Tmp} {ty:TypeId} {pos:String} {af:Array Edge}
end
def K4 (sz:Nat):Nat->List PV->List PV
 | 0,_=> []
 | n+1,cs=> .agg (cs.take sz)::K4 sz n (cs.drop sz)
theorem V3 (sz:Nat): ∀(n:Nat) (cs:Lp),(K4 sz n cs).length=n
 | 0,_=>rfl
 | n+1,cs=>by simp[K4,V3 sz n]
theorem IT (sz:Nat): ∀(n:Nat) (cs:Lp) (i:Nat),i<n->(K4 sz n cs).getD i .junk= .agg ((cs.drop (i*sz)).take sz)
 | 0,_,i,h=>by omega
 | n+1,cs,0,h=>by simp[K4]
 | n+1,cs,i+1,h=>by have:=IT sz n (cs.drop sz) i oG;show(K4 sz n (cs.drop sz)).getD i .junk=_;rw[this,LP,BQ,CY,EZ]
theorem yj {sz:Nat} : ∀ {ys:Lp} (r:Lp),(∀y∈ys,y= .agg y.cells/\y.cells.length=sz)->K4 sz ys.length (flat ys++r)=ys
 | [],r,_=>rfl
 | y::ys,r,h=>by obtain⟨h1,h2⟩:=h y (by simp);have ih:=yj (ys:=ys) r (fun z hz=>h z (by simp[hz]));simp only[C1,K4,xg];rw[BP,FL oG,BF oG,EW oG,C6 oG,CQ,ih,<-h1]
def PV.frzN1 (i sz:Nat)(cs:List PV):PV->PV
 | .lp k off=>if k=i then .ep cs off else .lp k off
 | .ms false k off len=>if k=i then(if off+len*sz<=cs.length then .sl .no (K4 sz len (cs.drop off)) else .junk) else .ms false k off len
 | .mr k len cap=>if k=i then(if len*sz<=cs.length then .sl .no (K4 sz len cs) else .junk) else .mr k len cap
 | p=>p
def PV.frzN (i sz:Nat)(cs:List PV):PV->PV
 | .agg l=> .agg (l.map (PV.frzN1 i sz cs))
 | .tup l=> .tup (l.map (PV.frzN1 i sz cs))
 | .fn f l m=> .fn f (l.map (PV.frzN1 i sz cs)) (m.map (PV.frzN1 i sz cs))
 | p=>p.frzN1 i sz cs
def PFS.freezeN (i sz:Nat)(s:PFS):PFS:=
 let cs:=(s.L.getD i []).map PV.forget2
 ⟨s.pa.map (PV.frzN i sz cs),(s.L.map fun l=>l.map (PV.frzN i sz cs)).set i [],s.T,s.st⟩
section
variable {w:World} {g g':Gh} {F:Fr} {T:List (Nat×Nat)} {i sz:Nat} {cs:List PV}
theorem RepF.frzN1 {v:Value}{p:PV}(hm: ∀v p,RepF w g F T v p->RepF w g' F T v p)(hz:Frozen w g' (F.lmu i) cs)(h:RepF w g F T v p):RepF w g' F T v (p.frzN1 i sz cs):=by
 obtain⟨cf,hcf⟩:=hz.cf;have h':=hm _ _ h;cases p with
 | lp k off=>
  simp only[PV.frzN1];split;rename_i e;subst e;cases h' with
  | base _ _ h'=>cases h'
  | lp k off hi=>
   have:=Rep.ep (w:=w) (g:=g') cs off (F.lmu k) 0 cf (by simpa using hz.vis) (fun j hj=>by simpa using(hcf j hj).1) (fun j hj=>(hcf j hj).2);rw[CU] at this;exact .base _ _ this
  exact h'
 | ms gl k off len=>
  cases gl with
  | true=>exact h'
  | false=>
   simp only[PV.frzN1];split;rename_i e;subst e;split;rename_i hle;cases h' with
   | base _ _ h'=>cases h'
   | lms k off len cap hi hcap=>
    have hin: ∀a b,a<len->b<sz->off+a*sz+b<cs.length:=fun a b ha hb=>by have:=Vu ha hb;omega
    have hfit: ∀a,a<len->a*sz+sz<=len*sz:=fun a ha=>by have:(a+1)*sz<=len*sz:=BG _ ha;rw[BQ,CY] at this;exact this
    have:=Rep.sl (w:=w) (g:=g') .no (K4 sz len (cs.drop off)) (F.lmu k) off sz cap (fun a b=>cf (off+a*sz+b)) rfl (fun h=>by cases h) (by rw[V3];exact hcap)
     (fun a ha=>by rw[V3] at ha;rw[IT _ _ _ _ ha];show((List.drop (a*sz) (List.drop off cs)).take sz).length=sz;rw[BX,DM,DM];have:=hfit a ha;omega) (fun _=>by rw[V3];have:=hz.vis;omega)
     (fun a b ha hb=>by rw[V3] at ha;exact(hcf _ (hin a b ha hb)).1)
     (fun a b ha hb=>by rw[V3] at ha;rw[IT _ _ _ _ ha];show Rep w g' _ (((List.drop (a*sz) (List.drop off cs)).take sz).getD b .junk);rw[WS _ _ _ _ hb];simp only[q_a,DH];have:=(hcf _ (hin a b ha hb)).2;rw[q_a] at this;rw[show off+(a*sz+b)=off+a*sz+b from oG];exact this)
    rw[V3] at this;exact .base _ _ this
   exact .base _ _ (.junk _);exact h'
 | mr k len cap=>
  simp only[PV.frzN1];split;rename_i e;subst e;split;rename_i hle;cases h' with
  | base _ _ h'=>cases h'
  | lmr0 k ad hi=>exact .base _ _ (.nil .no ad rfl)
  | lmr k len cap hi hcap=>
   have hin: ∀a b,a<len->b<sz->a*sz+b<cs.length:=fun a b ha hb=>by have:=Vu ha hb;omega
   have hfit: ∀a,a<len->a*sz+sz<=len*sz:=fun a ha=>by have:(a+1)*sz<=len*sz:=BG _ ha;rw[BQ,CY] at this;exact this
   have:=Rep.sl (w:=w) (g:=g') .no (K4 sz len cs) (F.lmu k) 0 sz cap (fun a b=>cf (a*sz+b)) rfl (fun h=>by cases h) (by rw[V3];exact hcap)
    (fun a ha=>by rw[V3] at ha;rw[IT _ _ _ _ ha];show((List.drop (a*sz) cs).take sz).length=sz;rw[BX,DM];have:=hfit a ha;omega) (fun _=>by rw[V3];have:=hz.vis;omega)
    (fun a b ha hb=>by rw[V3] at ha;rw[CU];exact(hcf _ (hin a b ha hb)).1)
    (fun a b ha hb=>by rw[V3] at ha;rw[IT _ _ _ _ ha];show Rep w g' _ (((List.drop (a*sz) cs).take sz).getD b .junk);rw[WS _ _ _ _ hb];simp only[q_a,DH];have:=(hcf _ (hin a b ha hb)).2;rw[q_a] at this;exact this)
   rw[V3] at this;exact .base _ _ this
  exact .base _ _ (.junk _);exact h'
 | _=>exact h'
theorem RepF.frzN {v:Value}{p:PV}(hm: ∀v p,RepF w g F T v p->RepF w g' F T v p)(hz:Frozen w g' (F.lmu i) cs)(h:RepF w g F T v p):RepF w g' F T v (p.frzN i sz cs):=by
 have gm: ∀(l:Lp) (j:Nat),(l.map (PV.frzN1 i sz cs)).getD j .junk=(l.getD j .junk).frzN1 i sz cs:=fun l j=>Xs rfl l j;cases p with
 | agg l=>
  cases h with
  | base _ _ h=>
   cases h with
   | agg vs cs' hl h=>exact .agg vs _ (by simpa using hl) fun j hj=>by rw[gm];exact RepF.frzN1 hm hz (.base _ _ (h j (by simpa using hj)))
  | agg vs cs' hl h=>exact .agg vs _ (by simpa using hl) fun j hj=>by rw[gm];exact RepF.frzN1 hm hz (h j (by simpa using hj))
 | tup l=>
  cases h with
  | base _ _ h=>
   cases h with
   | tup vs cs' hl h=>exact .tup vs _ (by simpa using hl) fun j hj=>by rw[gm];exact RepF.frzN1 hm hz (.base _ _ (h j (by simpa using hj)))
  | tup vs cs' hl h=>exact .tup vs _ (by simpa using hl) fun j hj=>by rw[gm];exact RepF.frzN1 hm hz (h j (by simpa using hj))
 | fn f l m=>
  cases h with
  | base _ _ h=>
   cases h with
   | fn f us vs bs cs' hk hl h0 h=>
    exact .fn f us vs _ _ (by simpa using hk) (by simpa using hl) (fun j hj=>by rw[gm];exact RepF.frzN1 hm hz (.base _ _ (h0 j (by simpa using hj)))) fun j hj=>by rw[gm];exact RepF.frzN1 hm hz (.base _ _ (h j (by simpa using hj)))
  | fn f us vs bs cs' hk hl h0 h=>
   exact .fn f us vs _ _ (by simpa using hk) (by simpa using hl) (fun j hj=>by rw[gm];exact RepF.frzN1 hm hz (h0 j (by simpa using hj))) fun j hj=>by rw[gm];exact RepF.frzN1 hm hz (h j (by simpa using hj))
 | _=>exact RepF.frzN1 (sz:=sz) hm hz h
end
theorem G0m {E:Ent}{s:PFS}(i sz:Nat)(hi:s.freezeOK i):JQ E s (s.freezeN i sz):=by
 intro a w g F h;by_cases hne:s.L.getD i []= []
 --a box without cells
 have hz:Frozen w g (F.lmu i) []:=⟨CX _,(fun p hp=>by cases hp),⟨fun _=>undef,fun j hj=>by simp at hj⟩⟩;have hf: ∀v p,RepF w g F s.T v p->RepF w g F s.T v (p.frzN i sz []):=fun v p hp=>RepF.frzN (fun _ _ h=>h) hz hp;have hL: ∀k,((s.L.map fun l=>l.map (PV.frzN i sz [])).set i []).getD k []≠ []->s.L.getD k []≠ []/\((s.L.map fun l=>l.map (PV.frzN i sz [])).set i []).getD k []=(s.L.getD k []).map (PV.frzN i sz []):=fun k hk=>by
  by_cases hki:i=k;subst hki;exfalso;apply hk;exact Wo _ _;have e:((s.L.map fun l=>l.map (PV.frzN i sz [])).set i []).getD k []=(s.L.getD k []).map (PV.frzN i sz []):=by rw[<-YX (f:=fun l=>l.map (PV.frzN i sz [])) rfl];simp[q_a,DR hki]
  refine⟨fun e0=>hk (by rw[e,e0];rfl),e⟩
 have hcs:(s.L.getD i []).map PV.forget2= []:=by rw[hne];rfl
 refine⟨g,F,?_⟩;unfold PFS.freezeN;rw[hcs];refine⟨h.ext,h.store,⟨by simp[h.frame.nl],fun k hk=>h.frame.lo k (hL k hk).1,fun k hk=>h.frame.apart k (hL k hk).1,fun k j hk hj=>h.frame.inj k j (hL k hk).1 (hL j hj).1,fun k hk=> ?_,h.frame.tlo,fun k b hk hb=>⟨(h.frame.tapart k b hk hb).1,fun j hj=>(h.frame.tapart k b hk hb).2 j (hL j hj).1⟩,h.frame.tinj⟩,h.defers,by simp[h.len],fun t ht=> ?_⟩;obtain⟨h1,h2⟩:=hL k hk;simp only at hk⊢;rw[h2];intro j hj;obtain⟨q1,c,q2,q3⟩:=h.frame.holds k h1 j (by simpa using hj);exact⟨q1,c,q2,by rw[Xs (f:=PV.frzN i sz []) rfl];exact hf _ _ q3⟩;simp only at ht⊢;rw[Xs (f:=PV.frzN i sz []) rfl];exact hf _ _ (h.tmps t (by simpa using ht))
 let cs:=(s.L.getD i []).map PV.forget2
 obtain⟨l1,l2,l3⟩:=h.frame.lo i hne;obtain⟨k1,k2⟩:=xz w g (F.lmu i) cs.length (.inl l2) h.store.none;have hall:=List.all_eq_true.1 hi
 --all but the box
 have hLe:=k1.le
 let g':Gh:= { g with vis:=fun c=>if c=F.lmu i then max cs.length (g.vis c) else g.vis c }
 have htok:KN w g F s.T w g' F s.T:=⟨BD _,fun k hk=>⟨BD _,fun _ v es hR=>hR.mono fun b hb=>⟨rfl,BA fun e=>(h.frame.tapart k b hk hb).2 i hne e.symm⟩⟩⟩;have hm: ∀v p,RepF w g F s.T v p->RepF w g' F s.T v p:=fun v p hr=>hr.mono hLe (BD _) (fun _ _=>rfl) htok;have hcell: ∀j,j<cs.length-> ∃c,w.cell? ⟨F.lmu i,j,none⟩=some c/\Rep w g' c (cs.getD j .junk):=fun j hj=>by have hj':j<(s.L.getD i []).length:=(by simpa[cs] using hj);obtain⟨q1,c,q2,q3⟩:=h.frame.holds i hne j hj';refine⟨c,q2,?_⟩;have e:cs.getD j .junk=((s.L.getD i []).getD j .junk).forget2:=Xs (f:=PV.forget2) rfl _ _;rw[e];exact(hm _ _ q3).forget2 (CR.1 (hall _ (Q8 _ _ _ hj'))).1
 have hz:Frozen w g' (F.lmu i) cs:=by refine⟨?_,fun p hp=> ?_,⟨fun j=>if h:j<cs.length then(hcell j h).choose else undef,fun j hj=> ?_⟩⟩;show cs.length<=(if F.lmu i=F.lmu i then max cs.length (g.vis (F.lmu i)) else _);rw[BC rfl];exact Nat.le_max_left _ _;simp only[cs,CF] at hp;obtain⟨q,hq,rfl⟩:=hp;have:=J0b (CR.1 (hall _ hq)).2;exact⟨by rw[this];rfl,this⟩;simp only[dif_pos hj];exact(hcell j hj).choose_spec
 have hf: ∀v p,RepF w g F s.T v p->RepF w g' F s.T v (p.frzN i sz cs):=fun v p hp=>RepF.frzN hm hz hp;have hL: ∀k,((s.L.map fun l=>l.map (PV.frzN i sz cs)).set i []).getD k []≠ []->k≠i/\s.L.getD k []≠ []/\((s.L.map fun l=>l.map (PV.frzN i sz cs)).set i []).getD k []=(s.L.getD k []).map (PV.frzN i sz cs):=fun k hk=>by
  by_cases hki:i=k;subst hki;exfalso;apply hk;exact Wo _ _;have e:((s.L.map fun l=>l.map (PV.frzN i sz cs)).set i []).getD k []=(s.L.getD k []).map (PV.frzN i sz cs):=by rw[<-YX (f:=fun l=>l.map (PV.frzN i sz cs)) rfl];simp[q_a,DR hki]
  exact⟨fun e=>hki e.symm,fun e0=>hk (by rw[e,e0];rfl),e⟩
 have hvis: ∀k,k≠i->s.L.getD k []≠ []->g'.vis (F.lmu k)=g.vis (F.lmu k):=fun k hk hk0=>BA fun e=>hk (h.frame.inj k i hk0 hne e);have hst:StoreOK w g' s.st:=by refine⟨h.store.n,h.store.inj,h.store.lt,fun j hj hj0=> ?_,fun j hj=> ?_,k2,h.store.tab.mono hLe⟩;have:g'.vis (g.mu j)=g.vis (g.mu j):=BA fun e=>h.frame.apart i hne j hj e;exact this.trans (h.store.vis j hj hj0);exact(h.store.holds j hj).mono rfl fun v p hr=>hr.mono hLe
 refine⟨g',F,⟨h.ext.step k1 (fun b hb=> .inl (by rw[hb];exact l1)),hst,⟨by simp[PFS.freezeN,h.frame.nl],fun k hk=> ?_,fun k hk=> ?_,fun k j hk hj=> ?_,fun k hk=> ?_,h.frame.tlo,fun k b hk hb=>⟨(h.frame.tapart k b hk hb).1,fun j hj=> ?_⟩,h.frame.tinj⟩,h.defers,by simp[PFS.freezeN,h.len],fun t ht=> ?_⟩⟩;obtain⟨h1,h2,h3⟩:=hL k hk;obtain⟨a1,a2,a3⟩:=h.frame.lo k h2;exact⟨a1,a2,(hvis k h1 h2).trans a3⟩;exact h.frame.apart k (hL k hk).2.1;exact h.frame.inj k j (hL k hk).2.1 (hL j hj).2.1;obtain⟨h1,h2,h3⟩:=hL k hk;simp only[PFS.freezeN] at hk⊢;show Holds w _ _ (((s.L.map fun l=>l.map (PV.frzN i sz cs)).set i []).getD k []);rw[h3];intro j hj;obtain⟨q1,c,q2,q3⟩:=h.frame.holds k h2 j (by simpa using hj);exact⟨q1,c,q2,by rw[Xs (f:=PV.frzN i sz cs) rfl];exact hf _ _ q3⟩;exact(h.frame.tapart k b hk hb).2 j (hL j hj).2.1;simp only[PFS.freezeN] at ht⊢;show RepF w g' F s.T _ ((s.pa.map (PV.frzN i sz cs)).getD t .junk);rw[Xs (f:=PV.frzN i sz cs) rfl];exact hf _ _ (h.tmps t (by simpa using ht))
@[go_sem] theorem Y2o {i sz:Nat}{pa:Lp}{L st:Qd}{T:Lv} :(PFS.mk pa L T st).freezeN i sz=⟨pa.map (PV.frzN i sz ((L.getD i []).map PV.forget2)),(L.map fun l=>l.map (PV.frzN i sz ((L.getD i []).map PV.forget2))).set i [],T,st⟩:=(rfl)
attribute [go_sem] PV.frzN PV.frzN1
theorem kv {P:Pg}{E:Ent}{c:Code}{Q:Pe}{s:PFS}(i sz:Nat)(hi:s.freezeOK i)(h:PWP P E c Q (s.freezeN i sz)):PWP P E c Q s:=Kt (G0m i sz hi) h
theorem J0i {sz:Nat}{ys:Lp}(h: ∀i,i<ys.length->(ys.getD i .junk).cells.length=sz){i o:Nat}{c:Lp}(hi:i<ys.length)(ho:o+c.length<=sz):
 Qu (flat ys) (i*sz+o) c=flat (ys.set i (.agg (Qu (ys.getD i .junk).cells o c))):=by
 have hl:=KJ h;have hb:i*sz+sz<=ys.length*sz:=by have:(i+1)*sz<=ys.length*sz:=BG _ hi;rw[BQ,CY] at this;exact this
 have hg: ∀j,j<ys.length->(ys.set i (.agg (Qu (ys.getD i .junk).cells o c))).getD j .junk=if j=i then .agg (Qu (ys.getD i .junk).cells o c) else ys.getD j .junk:=fun j hj=>by by_cases e:j=i;subst e;rw[BC rfl];simp[q_a,hj];rw[BA e];simp[q_a,DR (Ne.symm e)]
 have h': ∀j,j<(ys.set i (.agg (Qu (ys.getD i .junk).cells o c))).length->((ys.set i (.agg (Qu (ys.getD i .junk).cells o c))).getD j .junk).cells.length=sz:=fun j hj=>by rw[BL] at hj;rw[hg j hj];split;show(Qu _ o c).length=sz;rw[YM _ _ _ (by rw[h i hi];exact ho)];exact h i hi;exact h j hj
 have hl':=KJ h';rw[BL] at hl';have hov:i*sz+o+c.length<=(flat ys).length:=oG;apply C9;rw[YM _ _ _ hov,hl,hl'];intro m h1 h2;have e1:=YN (flat ys) (i*sz+o) c hov m .junk;have hm:m<ys.length*sz:=(by rw[hl'] at h2;exact h2);have e2:=VQ h' m (by rw[BL];exact hm);have e3:=VQ h m hm;obtain⟨d1,d2⟩:=Hy hm;rw[q_a,BB h1,D9] at e1;rw[q_a,BB h2,D9] at e2;rw[e1,e2,hg _ d1];have hdm:=D5 m sz;by_cases e:m/sz=i;rw[BC e];show _=(Qu (ys.getD i .junk).cells o c).getD (m % sz) .junk;rw[YN _ _ _ (by rw[h i hi];exact ho)];rw[e,BM] at hdm;by_cases c1:o<=m % sz/\m % sz<o+c.length;rw[BC c1,BC oG];congr 1;omega;rw[BA c1,BA oG,e3,e];rw[BA e,<-e3,BA];intro hc;apply e;have a1:i*sz<=m:=oG;have a2:m<i*sz+sz:=oG;have hp:0<sz:=oG;have b1:i<=m/sz:=(EQ hp).2 a1;have b2:m/sz<i+1:=(DV hp).2 (by rw[BQ,CY];exact a2);omega
theorem Hu (l:Li): ∀i,i<(Qk l).length->((Qk l).getD i .junk).cells.length=6:=fun i hi=>by rw[Kk] at hi;rw[Zt l i hi];rfl
theorem K0f (l:Lx): ∀i,i<(Qy l).length->((Qy l).getD i .junk).cells.length=3:=fun i hi=>by rw[Kh] at hi;rw[JN l i hi];rfl
@[go_sem] theorem q1g (l:Li):(flat (Qk l)).length=l.length*6:=by rw[KJ (Hu l),Kk]
@[go_sem] theorem Y2y (l:Lx):(flat (Qy l)).length=l.length*3:=by rw[KJ (K0f l),Kh]
theorem q1f (l:Li)(i:Nat)(x:Ivl)(h:i<l.length)(o:Nat)(c:Lp)(hc:o+c.length<=6)(e:Qu (Qn (l.getD i default)) o c=Qn x):Qu (flat (Qk l)) (i*6+o) c=flat (Qk (l.set i x)):=by rw[J0i (Hu l) (by rw[Kk];exact h) hc,Zt l i h];show flat ((Qk l).set i (.agg (Qu (Qn (l.getD i default)) o c)))=_;rw[e];congr 1;simp[Qk,FA]
theorem J0l (l:Lx)(i:Nat)(x:Nm)(h:i<l.length):Qu (flat (Qy l)) (i*3) (Qg x)=flat (Qy (l.set i x)):=by have:=J0i (K0f l) (i:=i) (o:=0) (c:=Qg x) (by rw[Kh];exact h) (by simp[Qg]);rw[B1] at this;rw[this,JN l i h];congr 1;simp[Qy,FA,Qu,Qg,PV.cells]
theorem V1x {ys:Lp}{p:PV}(h:p∈flat ys): ∃y∈ys,p∈y.cells:=by simp only[flat,List.mem_flatten,CF] at h;obtain⟨l,⟨y,hy,rfl⟩,hp⟩:=h;exact⟨y,hy,hp⟩
theorem zP {l:Lx}{p:PV}(h:p∈flat (Qy l)): ∃x:Nm,p∈Qg x:=by obtain⟨y,hy,hp⟩:=V1x h;obtain⟨x,_,rfl⟩:=CF.1 hy;exact⟨x,hp⟩
theorem Q0w {f:PV->PV}{l:Lp}(h: ∀p∈l,f p=p):l.map f=l:=by
 conv=>rhs;rw[<-List.map_id l]
 exact C4 fun p hp=>h p hp
@[go_sem] theorem U2b (l:Lx):(flat (Qy l)).map PV.forget2=flat (Qy l):=Q0w fun p hp=>by obtain⟨x,hx⟩:=zP hp;simp[Qg] at hx;rcases hx with rfl | rfl | rfl<;>rfl
@[go_sem] theorem U2a (l:Lx)(i sz:Nat)(cs:Lp):(flat (Qy l)).map (PV.frzN i sz cs)=flat (Qy l):=Q0w fun p hp=>by obtain⟨x,hx⟩:=zP hp;simp[Qg] at hx;rcases hx with rfl | rfl | rfl<;>rfl
@[go_sem] theorem Y2z (l:Lx):Zo (flat (Qy l))=true:=by unfold Zo;rw[q_d];intro p hp;obtain⟨x,hx⟩:=zP hp;simp[Qg] at hx;rcases hx with rfl | rfl | rfl<;>rfl
@[go_sem] theorem Y2x (l:Lx)(a b:Nat):(flat (Qy l)).all (PV.lim a b)=true:=by rw[q_d];intro p hp;obtain⟨x,hx⟩:=zP hp;simp[Qg] at hx;rcases hx with rfl | rfl | rfl<;>rfl
theorem w1c (l:Li):K4 6 l.length (flat (Qk l))=Qk l:=by have:=yj (sz:=6) (ys:=Qk l) [] (fun y hy=>by obtain⟨x,_,rfl⟩:=CF.1 hy;exact⟨rfl,rfl⟩);rw[Kk,B9] at this;exact this
theorem w1a (l:Lx):K4 3 l.length (flat (Qy l))=Qy l:=by have:=yj (sz:=3) (ys:=Qy l) [] (fun y hy=>by obtain⟨x,_,rfl⟩:=CF.1 hy;exact⟨rfl,rfl⟩);rw[Kh,B9] at this;exact this
theorem w1b (l:Li)(n:Nat)(h:n=l.length):K4 6 n (flat (Qk l))=Qk l:=by subst h;exact w1c l
theorem W0h (l:Lx)(n:Nat)(h:n=l.length):K4 3 n (flat (Qy l))=Qy l:=by subst h;exact w1a l
def Qw (l:List (List Ivl)):List PV:=l.map fun c=> .sl .no (Qk c)
@[go_sem] theorem G2n (l:Lj):(Qw l).length=l.length:=by simp[Qw]
@[go_sem] theorem G2m :Qw []= []:=(rfl)
@[go_sem] theorem G2l (l:Lj):(Qw l).all (fun x=>x.cells.length==1)=true:=by simp[Qw,PV.cells]
@[go_sem] theorem x1d (l:Lj)(c:Li):Qw l++ [.sl .no (Qk c)]=Qw (l++ [c]):=by simp[Qw]
theorem Kj (l:Lj)(n:Nat)(h:n<l.length):(Qw l).getD n .junk= .sl .no (Qk (l.getD n [])):=by simp[Qw,q_a,h]
def QL (l:List (List Nm)):List PV:=l.map fun c=> .sl .no (Qy c)
@[go_sem] theorem G2h (l:Ly):(QL l).length=l.length:=by simp[QL]
@[go_sem] theorem G2g :QL []= []:=(rfl)
@[go_sem] theorem G2e (l:Ly):(QL l).all (fun x=>x.cells.length==1)=true:=by simp[QL,PV.cells]
@[go_sem] theorem G2f (l:Ly)(c:Lx):QL l++ [.sl .no (Qy c)]=QL (l++ [c]):=by simp[QL]
theorem Wt (l:Ly)(n:Nat)(h:n<l.length):(QL l).getD n .junk= .sl .no (Qy (l.getD n [])):=by simp[QL,q_a,h]
end Go.Pv
end
