/- Parts of the walk: PvTab, M1, M2. -/
import Derived.Test.YtldalepagmhnmaaGreatDoorZC
import Derived.Test.YtldalepagmhnmaaGreatDoorProg
import Derived.KernelRfl
set_option linter.unusedVariables false
set_option linter.unusedSimpArgs false
section
namespace Go.Proofs
open Go.Pv
@[go_sem] theorem Tryz.ti2 :ti Tryz.prog 2=some ⟨false,1,.int .i64,some (.int .i64 0)⟩:=by kernel_rfl
@[go_sem] theorem Tryz.ti3 :ti Tryz.prog 3=some ⟨false,1,.int .i64,some (.int .i64 0)⟩:=by kernel_rfl
@[go_sem] theorem Tryz.ti4 :ti Tryz.prog 4=some ⟨false,1,.bool,some (.bool false)⟩:=by kernel_rfl
@[go_sem] theorem Tryz.ti5 :ti Tryz.prog 5=some ⟨false,1,.int .u8,some (.int .u8 0)⟩:=by kernel_rfl
@[go_sem] theorem Tryz.ti9 :ti Tryz.prog 9=some ⟨false,1,.str,some (.string ByteArray.empty)⟩:=by kernel_rfl
@[go_sem] theorem Tryz.ti22 :ti Tryz.prog 22=some ⟨false,1,.slice ⟨89,1,8,false,true,false⟩,some (.slice none 0 0)⟩:=by kernel_rfl
@[go_sem] theorem Tryz.ti27 :ti Tryz.prog 27=some ⟨false,1,.slice ⟨93,1,24,false,true,false⟩,some (.slice none 0 0)⟩:=by kernel_rfl
@[go_sem] theorem Tryz.ti29 :ti Tryz.prog 29=some ⟨false,1,.slice ⟨34,6,80,true,true,false⟩,some (.slice none 0 0)⟩:=by kernel_rfl
@[go_sem] theorem Tryz.ti32 :ti Tryz.prog 32=some ⟨true,3,.struct [(0,⟨4,1,1,false,true,false⟩),(1,⟨2,1,8,false,true,false⟩),(2,⟨22,1,24,false,true,false⟩)],some (.agg #[.bool false,.int .i64 0,.slice none 0 0])⟩:=by kernel_rfl
@[go_sem] theorem Tryz.ti34 :ti Tryz.prog 34=some ⟨true,6,.struct [(0,⟨32,3,40,true,true,false⟩),(3,⟨32,3,40,true,true,false⟩)],some (.agg #[.bool false,.int .i64 0,.slice none 0 0,.bool false,.int .i64 0,.slice none 0 0])⟩:=by kernel_rfl
@[go_sem] theorem Tryz.ti39 :ti Tryz.prog 39=some ⟨false,1,.slice ⟨47,1,24,false,true,false⟩,some (.slice none 0 0)⟩:=by kernel_rfl
@[go_sem] theorem Tryz.ti40 :ti Tryz.prog 40=some ⟨false,1,.int .i64,some (.int .i64 0)⟩:=by kernel_rfl
@[go_sem] theorem Tryz.ti43 :ti Tryz.prog 43=some ⟨false,1,.slice ⟨54,1,24,false,true,false⟩,some (.slice none 0 0)⟩:=by kernel_rfl
@[go_sem] theorem Tryz.ti45 :ti Tryz.prog 45=some ⟨false,1,.slice ⟨32,3,40,true,true,false⟩,some (.slice none 0 0)⟩:=by kernel_rfl
@[go_sem] theorem Tryz.ti47 :ti Tryz.prog 47=some ⟨false,1,.slice ⟨29,1,24,false,true,false⟩,some (.slice none 0 0)⟩:=by kernel_rfl
@[go_sem] theorem Tryz.ti50 :ti Tryz.prog 50=some ⟨false,1,.slice ⟨190,1,4,false,true,false⟩,some (.slice none 0 0)⟩:=by kernel_rfl
@[go_sem] theorem Tryz.ti52 :ti Tryz.prog 52=some ⟨true,3,.struct [(0,⟨4,1,1,false,true,false⟩),(1,⟨50,1,24,false,true,false⟩),(2,⟨2,1,8,false,true,false⟩)],some (.agg #[.bool false,.slice none 0 0,.int .i64 0])⟩:=by kernel_rfl
@[go_sem] theorem Tryz.ti53 :ti Tryz.prog 53=some ⟨false,1,.slice ⟨52,3,40,true,true,false⟩,some (.slice none 0 0)⟩:=by kernel_rfl
@[go_sem] theorem Tryz.ti54 :ti Tryz.prog 54=some ⟨false,1,.slice ⟨53,1,24,false,true,false⟩,some (.slice none 0 0)⟩:=by kernel_rfl
@[go_sem] theorem Tryz.ti89 :ti Tryz.prog 89=some ⟨false,1,.int .u64,some (.int .u64 0)⟩:=by kernel_rfl
@[go_sem] theorem Tryz.ti90 :ti Tryz.prog 90=some ⟨false,1,.slice ⟨3,1,8,false,true,false⟩,some (.slice none 0 0)⟩:=by kernel_rfl
@[go_sem] theorem Tryz.ti92 :ti Tryz.prog 92=some ⟨true,4,.struct [(0,⟨32,3,40,true,true,false⟩),(3,⟨90,1,24,false,true,false⟩)],some (.agg #[.bool false,.int .i64 0,.slice none 0 0,.slice none 0 0])⟩:=by kernel_rfl
@[go_sem] theorem Tryz.ti93 :ti Tryz.prog 93=some ⟨false,1,.slice ⟨92,4,64,true,true,false⟩,some (.slice none 0 0)⟩:=by kernel_rfl
@[go_sem] theorem Tryz.ti98 :ti Tryz.prog 98=some ⟨true,2,.struct [(0,⟨22,1,24,false,true,false⟩),(1,⟨3,1,8,false,true,false⟩)],some (.agg #[.slice none 0 0,.int .i64 0])⟩:=by kernel_rfl
@[go_sem] theorem Tryz.ti106 :ti Tryz.prog 106=some ⟨false,1,.slice ⟨27,1,24,false,true,false⟩,some (.slice none 0 0)⟩:=by kernel_rfl
@[go_sem] theorem Tryz.ti111 :ti Tryz.prog 111=some ⟨true,5,.struct [(0,⟨106,1,24,false,true,false⟩),(1,⟨47,1,24,false,true,false⟩),(2,⟨3,1,8,false,true,false⟩),(3,⟨39,1,24,false,true,false⟩),(4,⟨39,1,24,false,true,false⟩)],some (.agg #[.slice none 0 0,.slice none 0 0,.int .i64 0,.slice none 0 0,.slice none 0 0])⟩:=by kernel_rfl
@[go_sem] theorem Tryz.ti159 :ti Tryz.prog 159=some ⟨false,1,.int .u64,some (.int .u64 0)⟩:=by kernel_rfl
@[go_sem] theorem Tryz.ti190 :ti Tryz.prog 190=some ⟨false,1,.int .u32,some (.int .u32 0)⟩:=by kernel_rfl
@[go_sem] theorem Tryz.ti198 :ti Tryz.prog 198=some ⟨false,1,.slice ⟨201,4,64,true,true,false⟩,some (.slice none 0 0)⟩:=by kernel_rfl
@[go_sem] theorem Tryz.ti201 :ti Tryz.prog 201=some ⟨true,4,.struct [(0,⟨52,3,40,true,true,false⟩),(3,⟨90,1,24,false,true,false⟩)],some (.agg #[.bool false,.slice none 0 0,.int .i64 0,.slice none 0 0])⟩:=by kernel_rfl
@[go_sem] theorem Tryz.ti273 :ti Tryz.prog 273=some ⟨true,64,.arr 64 ⟨5,1,1,false,true,true⟩,some (.agg #[.int .u8 0,.int .u8 0,.int .u8 0,.int .u8 0,.int .u8 0,.int .u8 0,.int .u8 0,.int .u8 0,.int .u8 0,.int .u8 0,.int .u8 0,.int .u8 0,.int .u8 0,.int .u8 0,.int .u8 0,.int .u8 0,.int .u8 0,.int .u8 0,.int .u8 0,.int .u8 0,.int .u8 0,.int .u8 0,.int .u8 0,.int .u8 0,.int .u8 0,.int .u8 0,.int .u8 0,.int .u8 0,.int .u8 0,.int .u8 0,.int .u8 0,.int .u8 0,.int .u8 0,.int .u8 0,.int .u8 0,.int .u8 0,.int .u8 0,.int .u8 0,.int .u8 0,.int .u8 0,.int .u8 0,.int .u8 0,.int .u8 0,.int .u8 0,.int .u8 0,.int .u8 0,.int .u8 0,.int .u8 0,.int .u8 0,.int .u8 0,.int .u8 0,.int .u8 0,.int .u8 0,.int .u8 0,.int .u8 0,.int .u8 0,.int .u8 0,.int .u8 0,.int .u8 0,.int .u8 0,.int .u8 0,.int .u8 0,.int .u8 0,.int .u8 0])⟩:=by kernel_rfl
@[go_sem] theorem Tryz.ca11 :Q0c Tryz.prog 11=true:=by kernel_rfl
@[go_sem] theorem Tryz.ca12 :Q0c Tryz.prog 12=true:=by kernel_rfl
@[go_sem] theorem Tryz.ca13 :Q0c Tryz.prog 13=true:=by kernel_rfl
@[go_sem] theorem Tryz.ca14 :Q0c Tryz.prog 14=true:=by kernel_rfl
@[go_sem] theorem Tryz.ca15 :Q0c Tryz.prog 15=true:=by kernel_rfl
@[go_sem] theorem Tryz.ca16 :Q0c Tryz.prog 16=true:=by kernel_rfl
@[go_sem] theorem Tryz.ca17 :Q0c Tryz.prog 17=true:=by kernel_rfl
@[go_sem] theorem Tryz.ca19 :Q0c Tryz.prog 19=true:=by kernel_rfl
@[go_sem] theorem Tryz.ca20 :Q0c Tryz.prog 20=true:=by kernel_rfl
@[go_sem] theorem Tryz.ca21 :Q0c Tryz.prog 21=true:=by kernel_rfl
@[go_sem] theorem Tryz.ca22 :Q0c Tryz.prog 22=true:=by kernel_rfl
@[go_sem] theorem Tryz.ca23 :Q0c Tryz.prog 23=true:=by kernel_rfl
@[go_sem] theorem Tryz.ca24 :Q0c Tryz.prog 24=true:=by kernel_rfl
@[go_sem] theorem Tryz.ca25 :Q0c Tryz.prog 25=true:=by kernel_rfl
@[go_sem] theorem Tryz.ca27 :Q0c Tryz.prog 27=true:=by kernel_rfl
@[go_sem] theorem Tryz.ca29 :Q0c Tryz.prog 29=true:=by kernel_rfl
@[go_sem] theorem Tryz.ca38 :Q0c Tryz.prog 38=true:=by kernel_rfl
@[go_sem] theorem Tryz.ca46 :Q0c Tryz.prog 46=true:=by kernel_rfl
@[go_sem] theorem Tryz.ca47 :Q0c Tryz.prog 47=true:=by kernel_rfl
@[go_sem] theorem Tryz.ca48 :Q0c Tryz.prog 48=true:=by kernel_rfl
@[go_sem] theorem Tryz.ca50 :Q0c Tryz.prog 50=true:=by kernel_rfl
@[go_sem] theorem Tryz.ca54 :Q0c Tryz.prog 54=true:=by kernel_rfl
@[go_sem] theorem Tryz.ca59 :Q0c Tryz.prog 59=true:=by kernel_rfl
@[go_sem] theorem Tryz.ca60 :Q0c Tryz.prog 60=true:=by kernel_rfl
@[go_sem] theorem Tryz.ca61 :Q0c Tryz.prog 61=true:=by kernel_rfl
@[go_sem] theorem Tryz.ca62 :Q0c Tryz.prog 62=true:=by kernel_rfl
@[go_sem] theorem Tryz.ca63 :Q0c Tryz.prog 63=true:=by kernel_rfl
@[go_sem] theorem Tryz.ca64 :Q0c Tryz.prog 64=true:=by kernel_rfl
@[go_sem] theorem Tryz.ca65 :Q0c Tryz.prog 65=true:=by kernel_rfl
@[go_sem] theorem Tryz.ca66 :Q0c Tryz.prog 66=true:=by kernel_rfl
@[go_sem] theorem Tryz.ca71 :Q0c Tryz.prog 71=true:=by kernel_rfl
@[go_sem] theorem Tryz.ca72 :Q0c Tryz.prog 72=true:=by kernel_rfl
@[go_sem] theorem Tryz.ca73 :Q0c Tryz.prog 73=true:=by kernel_rfl
@[go_sem] theorem Tryz.ca74 :Q0c Tryz.prog 74=true:=by kernel_rfl
@[go_sem] theorem Tryz.ca75 :Q0c Tryz.prog 75=true:=by kernel_rfl
@[go_sem] theorem Tryz.ca76 :Q0c Tryz.prog 76=true:=by kernel_rfl
@[go_sem] theorem Tryz.ca77 :Q0c Tryz.prog 77=true:=by kernel_rfl
@[go_sem] theorem Tryz.ca78 :Q0c Tryz.prog 78=true:=by kernel_rfl
@[go_sem] theorem Tryz.ca79 :Q0c Tryz.prog 79=true:=by kernel_rfl
@[go_sem] theorem Tryz.ca80 :Q0c Tryz.prog 80=true:=by kernel_rfl
@[go_sem] theorem Tryz.ca81 :Q0c Tryz.prog 81=true:=by kernel_rfl
@[go_sem] theorem Tryz.ca83 :Q0c Tryz.prog 83=true:=by kernel_rfl
@[go_sem] theorem Tryz.ca84 :Q0c Tryz.prog 84=true:=by kernel_rfl
@[go_sem] theorem Tryz.ca85 :Q0c Tryz.prog 85=true:=by kernel_rfl
@[go_sem] theorem Tryz.ca88 :Q0c Tryz.prog 88=true:=by kernel_rfl
@[go_sem] theorem Tryz.ca101 :Q0c Tryz.prog 101=true:=by kernel_rfl
@[go_sem] theorem Tryz.ca102 :Q0c Tryz.prog 102=true:=by kernel_rfl
@[go_sem] theorem Tryz.ca110 :Q0c Tryz.prog 110=true:=by kernel_rfl
@[go_sem] theorem Tryz.ca112 :Q0c Tryz.prog 112=true:=by kernel_rfl
@[go_sem] theorem Tryz.ca113 :Q0c Tryz.prog 113=true:=by kernel_rfl
@[go_sem] theorem Tryz.ca114 :Q0c Tryz.prog 114=true:=by kernel_rfl
@[go_sem] theorem Tryz.ca115 :Q0c Tryz.prog 115=true:=by kernel_rfl
@[go_sem] theorem Tryz.ca116 :Q0c Tryz.prog 116=true:=by kernel_rfl
@[go_sem] theorem Tryz.ca117 :Q0c Tryz.prog 117=true:=by kernel_rfl
@[go_sem] theorem Tryz.ca118 :Q0c Tryz.prog 118=true:=by kernel_rfl
@[go_sem] theorem Tryz.ca122 :Q0c Tryz.prog 122=true:=by kernel_rfl
@[go_sem] theorem Tryz.ca124 :Q0c Tryz.prog 124=true:=by kernel_rfl
@[go_sem] theorem Tryz.ca128 :Q0c Tryz.prog 128=true:=by kernel_rfl
@[go_sem] theorem Tryz.ca129 :Q0c Tryz.prog 129=true:=by kernel_rfl
@[go_sem] theorem Tryz.ca130 :Q0c Tryz.prog 130=true:=by kernel_rfl
@[go_sem] theorem Tryz.ca131 :Q0c Tryz.prog 131=true:=by kernel_rfl
@[go_sem] theorem Tryz.ca132 :Q0c Tryz.prog 132=true:=by kernel_rfl
@[go_sem] theorem Tryz.ca133 :Q0c Tryz.prog 133=true:=by kernel_rfl
@[go_sem] theorem Tryz.ca134 :Q0c Tryz.prog 134=true:=by kernel_rfl
@[go_sem] theorem Tryz.ca147 :Q0c Tryz.prog 147=true:=by kernel_rfl
@[go_sem] theorem Tryz.ca148 :Q0c Tryz.prog 148=true:=by kernel_rfl
@[go_sem] theorem Tryz.ca149 :Q0c Tryz.prog 149=true:=by kernel_rfl
@[go_sem] theorem Tryz.ca150 :Q0c Tryz.prog 150=true:=by kernel_rfl
@[go_sem] theorem Tryz.ca151 :Q0c Tryz.prog 151=true:=by kernel_rfl
@[go_sem] theorem Tryz.ca152 :Q0c Tryz.prog 152=true:=by kernel_rfl
@[go_sem] theorem Tryz.ca153 :Q0c Tryz.prog 153=true:=by kernel_rfl
@[go_sem] theorem Tryz.ca154 :Q0c Tryz.prog 154=true:=by kernel_rfl
@[go_sem] theorem Tryz.ca155 :Q0c Tryz.prog 155=true:=by kernel_rfl
@[go_sem] theorem Tryz.ca156 :Q0c Tryz.prog 156=true:=by kernel_rfl
@[go_sem] theorem Tryz.ca157 :Q0c Tryz.prog 157=true:=by kernel_rfl
@[go_sem] theorem Tryz.ca158 :Q0c Tryz.prog 158=true:=by kernel_rfl
@[go_sem] theorem Tryz.ca159 :Q0c Tryz.prog 159=true:=by kernel_rfl
@[go_sem] theorem Tryz.ca160 :Q0c Tryz.prog 160=true:=by kernel_rfl
@[go_sem] theorem Tryz.ca161 :Q0c Tryz.prog 161=true:=by kernel_rfl
@[go_sem] theorem Tryz.ca162 :Q0c Tryz.prog 162=true:=by kernel_rfl
@[go_sem] theorem Tryz.ca163 :Q0c Tryz.prog 163=true:=by kernel_rfl
@[go_sem] theorem Tryz.ca165 :Q0c Tryz.prog 165=true:=by kernel_rfl
@[go_sem] theorem Tryz.ca166 :Q0c Tryz.prog 166=true:=by kernel_rfl
@[go_sem] theorem Tryz.ca167 :Q0c Tryz.prog 167=true:=by kernel_rfl
@[go_sem] theorem Tryz.ca189 :Q0c Tryz.prog 189=true:=by kernel_rfl
@[go_sem] theorem Tryz.ca190 :Q0c Tryz.prog 190=true:=by kernel_rfl
@[go_sem] theorem Tryz.ca191 :Q0c Tryz.prog 191=true:=by kernel_rfl
@[go_sem] theorem Tryz.ca192 :Q0c Tryz.prog 192=true:=by kernel_rfl
@[go_sem] theorem Tryz.ca193 :Q0c Tryz.prog 193=true:=by kernel_rfl
@[go_sem] theorem Tryz.ca198 :Q0c Tryz.prog 198=true:=by kernel_rfl
@[go_sem] theorem Tryz.ca199 :Q0c Tryz.prog 199=true:=by kernel_rfl
@[go_sem] theorem Tryz.ca200 :Q0c Tryz.prog 200=true:=by kernel_rfl
@[go_sem] theorem Tryz.ca201 :Q0c Tryz.prog 201=true:=by kernel_rfl
@[go_sem] theorem Tryz.ca211 :Q0c Tryz.prog 211=true:=by kernel_rfl
@[go_sem] theorem Tryz.ca212 :Q0c Tryz.prog 212=true:=by kernel_rfl
@[go_sem] theorem Tryz.ca213 :Q0c Tryz.prog 213=true:=by kernel_rfl
@[go_sem] theorem Tryz.ca214 :Q0c Tryz.prog 214=true:=by kernel_rfl
@[go_sem] theorem Tryz.ca215 :Q0c Tryz.prog 215=true:=by kernel_rfl
@[go_sem] theorem Tryz.ca217 :Q0c Tryz.prog 217=true:=by kernel_rfl
@[go_sem] theorem Tryz.ca218 :Q0c Tryz.prog 218=true:=by kernel_rfl
@[go_sem] theorem Tryz.ca219 :Q0c Tryz.prog 219=true:=by kernel_rfl
@[go_sem] theorem Tryz.ca220 :Q0c Tryz.prog 220=true:=by kernel_rfl
@[go_sem] theorem Tryz.ca221 :Q0c Tryz.prog 221=true:=by kernel_rfl
@[go_sem] theorem Tryz.ca222 :Q0c Tryz.prog 222=true:=by kernel_rfl
@[go_sem] theorem Tryz.ca223 :Q0c Tryz.prog 223=true:=by kernel_rfl
@[go_sem] theorem Tryz.ca224 :Q0c Tryz.prog 224=true:=by kernel_rfl
@[go_sem] theorem Tryz.ca225 :Q0c Tryz.prog 225=true:=by kernel_rfl
@[go_sem] theorem Tryz.ca226 :Q0c Tryz.prog 226=true:=by kernel_rfl
@[go_sem] theorem Tryz.ca227 :Q0c Tryz.prog 227=true:=by kernel_rfl
@[go_sem] theorem Tryz.ca228 :Q0c Tryz.prog 228=true:=by kernel_rfl
@[go_sem] theorem Tryz.ca229 :Q0c Tryz.prog 229=true:=by kernel_rfl
@[go_sem] theorem Tryz.ca230 :Q0c Tryz.prog 230=true:=by kernel_rfl
@[go_sem] theorem Tryz.ca231 :Q0c Tryz.prog 231=true:=by kernel_rfl
@[go_sem] theorem Tryz.ca232 :Q0c Tryz.prog 232=true:=by kernel_rfl
@[go_sem] theorem Tryz.ca233 :Q0c Tryz.prog 233=true:=by kernel_rfl
@[go_sem] theorem Tryz.ca234 :Q0c Tryz.prog 234=true:=by kernel_rfl
@[go_sem] theorem Tryz.ca242 :Q0c Tryz.prog 242=true:=by kernel_rfl
@[go_sem] theorem Tryz.ca254 :Q0c Tryz.prog 254=true:=by kernel_rfl
@[go_sem] theorem Tryz.ca255 :Q0c Tryz.prog 255=true:=by kernel_rfl
@[go_sem] theorem Tryz.ca256 :Q0c Tryz.prog 256=true:=by kernel_rfl
@[go_sem] theorem Tryz.ca261 :Q0c Tryz.prog 261=true:=by kernel_rfl
@[go_sem] theorem Tryz.ca262 :Q0c Tryz.prog 262=true:=by kernel_rfl
@[go_sem] theorem Tryz.ca263 :Q0c Tryz.prog 263=true:=by kernel_rfl
@[go_sem] theorem Tryz.ca265 :Q0c Tryz.prog 265=true:=by kernel_rfl
@[go_sem] theorem Tryz.ca266 :Q0c Tryz.prog 266=true:=by kernel_rfl
@[go_sem] theorem Tryz.ca267 :Q0c Tryz.prog 267=true:=by kernel_rfl
@[go_sem] theorem Tryz.ca268 :Q0c Tryz.prog 268=true:=by kernel_rfl
@[go_sem] theorem Tryz.ca269 :Q0c Tryz.prog 269=true:=by kernel_rfl
@[go_sem] theorem Tryz.ca271 :Q0c Tryz.prog 271=true:=by kernel_rfl
@[go_sem] theorem Tryz.ca273 :Q0c Tryz.prog 273=true:=by kernel_rfl
@[go_sem] theorem Tryz.ca280 :Q0c Tryz.prog 280=true:=by kernel_rfl
@[go_sem] theorem Tryz.ca281 :Q0c Tryz.prog 281=true:=by kernel_rfl
@[go_sem] theorem Tryz.ca292 :Q0c Tryz.prog 292=true:=by kernel_rfl
@[go_sem] theorem Tryz.ca295 :Q0c Tryz.prog 295=true:=by kernel_rfl
@[go_sem] theorem Tryz.ca296 :Q0c Tryz.prog 296=true:=by kernel_rfl
@[go_sem] theorem Tryz.ca298 :Q0c Tryz.prog 298=true:=by kernel_rfl
@[go_sem] theorem Tryz.ca299 :Q0c Tryz.prog 299=true:=by kernel_rfl
@[go_sem] theorem Tryz.ca300 :Q0c Tryz.prog 300=true:=by kernel_rfl
@[go_sem] theorem Tryz.ca301 :Q0c Tryz.prog 301=true:=by kernel_rfl
@[go_sem] theorem Tryz.ca308 :Q0c Tryz.prog 308=true:=by kernel_rfl
@[go_sem] theorem Tryz.ca318 :Q0c Tryz.prog 318=true:=by kernel_rfl
@[go_sem] theorem Tryz.ca319 :Q0c Tryz.prog 319=true:=by kernel_rfl
@[go_sem] theorem Tryz.ca323 :Q0c Tryz.prog 323=true:=by kernel_rfl
@[go_sem] theorem Tryz.ca324 :Q0c Tryz.prog 324=true:=by kernel_rfl
@[go_sem] theorem Tryz.ca325 :Q0c Tryz.prog 325=true:=by kernel_rfl
@[go_sem] theorem Tryz.ca270 :Q0c Tryz.prog 270=false:=by kernel_rfl
@[go_sem] theorem Tryz.ca272 :Q0c Tryz.prog 272=false:=by kernel_rfl
@[go_sem] theorem Tryz.res4 :Tryz.f4.results.toList= [.tmp 2]:=rfl
attribute [go_sem] Tryz.ntmps4
@[go_sem] theorem Tryz.res11 :Tryz.f11.results.toList= [.tmp 0]:=rfl
attribute [go_sem] Tryz.ntmps11
@[go_sem] theorem Tryz.res12 :Tryz.f12.results.toList= [.tmp 2]:=rfl
attribute [go_sem] Tryz.ntmps12
@[go_sem] theorem Tryz.res13 :Tryz.f13.results.toList= [.tmp 4]:=rfl
attribute [go_sem] Tryz.ntmps13
@[go_sem] theorem Tryz.res14 :Tryz.f14.results.toList= [.tmp 8]:=rfl
attribute [go_sem] Tryz.ntmps14
@[go_sem] theorem Tryz.res15 :Tryz.f15.results.toList= [.tmp 4]:=rfl
attribute [go_sem] Tryz.ntmps15
@[go_sem] theorem Tryz.res16 :Tryz.f16.results.toList= [.cell 2 34]:=rfl
attribute [go_sem] Tryz.ntmps16
@[go_sem] theorem Tryz.res17 :Tryz.f17.results.toList= [.tmp 2]:=rfl
attribute [go_sem] Tryz.ntmps17
@[go_sem] theorem Tryz.res19 :Tryz.f19.results.toList= [.tmp 8,.tmp 9]:=rfl
attribute [go_sem] Tryz.ntmps19
@[go_sem] theorem Tryz.res20 :Tryz.f20.results.toList= [.tmp 6]:=rfl
attribute [go_sem] Tryz.ntmps20
@[go_sem] theorem Tryz.res21 :Tryz.f21.results.toList= [.tmp 4]:=rfl
attribute [go_sem] Tryz.ntmps21
@[go_sem] theorem Tryz.res22 :Tryz.f22.results.toList= [.tmp 2]:=rfl
attribute [go_sem] Tryz.ntmps22
@[go_sem] theorem Tryz.res23 :Tryz.f23.results.toList= [.tmp 6]:=rfl
attribute [go_sem] Tryz.ntmps23
@[go_sem] theorem Tryz.res24 :Tryz.f24.results.toList= [.cell 2 52]:=rfl
attribute [go_sem] Tryz.ntmps24
@[go_sem] theorem Tryz.res25 :Tryz.f25.results.toList= [.tmp 6]:=rfl
attribute [go_sem] Tryz.ntmps25
@[go_sem] theorem Tryz.res27 :Tryz.f27.results.toList= [.cell 2 34]:=rfl
attribute [go_sem] Tryz.ntmps27
@[go_sem] theorem Tryz.res29 :Tryz.f29.results.toList= [.cell 4 52]:=rfl
attribute [go_sem] Tryz.ntmps29
@[go_sem] theorem Tryz.res38 :Tryz.f38.results.toList= [.tmp 4]:=rfl
attribute [go_sem] Tryz.ntmps38
@[go_sem] theorem Tryz.res46 :Tryz.f46.results.toList= [.cell 2 52]:=rfl
attribute [go_sem] Tryz.ntmps46
@[go_sem] theorem Tryz.res47 :Tryz.f47.results.toList= [.cell 4 52]:=rfl
attribute [go_sem] Tryz.ntmps47
@[go_sem] theorem Tryz.res48 :Tryz.f48.results.toList= [.cell 4 52]:=rfl
attribute [go_sem] Tryz.ntmps48
@[go_sem] theorem Tryz.res50 :Tryz.f50.results.toList= [.tmp 2]:=rfl
attribute [go_sem] Tryz.ntmps50
@[go_sem] theorem Tryz.res54 :Tryz.f54.results.toList= [.tmp 2]:=rfl
attribute [go_sem] Tryz.ntmps54
@[go_sem] theorem Tryz.res59 :Tryz.f59.results.toList= [.cell 2 52]:=rfl
attribute [go_sem] Tryz.ntmps59
@[go_sem] theorem Tryz.res60 :Tryz.f60.results.toList= [.tmp 6,.tmp 7]:=rfl
attribute [go_sem] Tryz.ntmps60
@[go_sem] theorem Tryz.res61 :Tryz.f61.results.toList= [.tmp 4]:=rfl
attribute [go_sem] Tryz.ntmps61
@[go_sem] theorem Tryz.res62 :Tryz.f62.results.toList= [.tmp 2]:=rfl
attribute [go_sem] Tryz.ntmps62
@[go_sem] theorem Tryz.res63 :Tryz.f63.results.toList= [.tmp 8]:=rfl
attribute [go_sem] Tryz.ntmps63
@[go_sem] theorem Tryz.res64 :Tryz.f64.results.toList= [.cell 2 34]:=rfl
attribute [go_sem] Tryz.ntmps64
@[go_sem] theorem Tryz.res65 :Tryz.f65.results.toList= [.cell 2 32]:=rfl
attribute [go_sem] Tryz.ntmps65
@[go_sem] theorem Tryz.res66 :Tryz.f66.results.toList= [.cell 4 34]:=rfl
attribute [go_sem] Tryz.ntmps66
@[go_sem] theorem Tryz.res71 :Tryz.f71.results.toList= [.tmp 8,.tmp 9]:=rfl
attribute [go_sem] Tryz.ntmps71
@[go_sem] theorem Tryz.res72 :Tryz.f72.results.toList= [.tmp 2,.tmp 3]:=rfl
attribute [go_sem] Tryz.ntmps72
@[go_sem] theorem Tryz.res73 :Tryz.f73.results.toList= [.tmp 4]:=rfl
attribute [go_sem] Tryz.ntmps73
@[go_sem] theorem Tryz.res74 :Tryz.f74.results.toList= [.tmp 2,.tmp 3]:=rfl
attribute [go_sem] Tryz.ntmps74
@[go_sem] theorem Tryz.res75 :Tryz.f75.results.toList= [.cell 6 52]:=rfl
attribute [go_sem] Tryz.ntmps75
@[go_sem] theorem Tryz.res76 :Tryz.f76.results.toList= [.cell 6 52]:=rfl
attribute [go_sem] Tryz.ntmps76
@[go_sem] theorem Tryz.res77 :Tryz.f77.results.toList= [.cell 4 32]:=rfl
attribute [go_sem] Tryz.ntmps77
@[go_sem] theorem Tryz.res78 :Tryz.f78.results.toList= [.tmp 2]:=rfl
attribute [go_sem] Tryz.ntmps78
@[go_sem] theorem Tryz.res79 :Tryz.f79.results.toList= [.tmp 4]:=rfl
attribute [go_sem] Tryz.ntmps79
@[go_sem] theorem Tryz.res80 :Tryz.f80.results.toList= [.tmp 4]:=rfl
attribute [go_sem] Tryz.ntmps80
@[go_sem] theorem Tryz.res81 :Tryz.f81.results.toList= [.cell 6 32,.tmp 7]:=rfl
attribute [go_sem] Tryz.ntmps81
@[go_sem] theorem Tryz.res83 :Tryz.f83.results.toList= [.cell 4 34]:=rfl
attribute [go_sem] Tryz.ntmps83
@[go_sem] theorem Tryz.res84 :Tryz.f84.results.toList= [.tmp 6]:=rfl
attribute [go_sem] Tryz.ntmps84
@[go_sem] theorem Tryz.res85 :Tryz.f85.results.toList= [.tmp 2]:=rfl
attribute [go_sem] Tryz.ntmps85
@[go_sem] theorem Tryz.res88 :Tryz.f88.results.toList= [.cell 2 52]:=rfl
attribute [go_sem] Tryz.ntmps88
@[go_sem] theorem Tryz.res101 :Tryz.f101.results.toList= [.tmp 2]:=rfl
attribute [go_sem] Tryz.ntmps101
@[go_sem] theorem Tryz.res102 :Tryz.f102.results.toList= [.tmp 2]:=rfl
attribute [go_sem] Tryz.ntmps102
@[go_sem] theorem Tryz.res110 :Tryz.f110.results.toList= [.tmp 2]:=rfl
attribute [go_sem] Tryz.ntmps110
@[go_sem] theorem Tryz.res112 :Tryz.f112.results.toList= [.tmp 2]:=rfl
attribute [go_sem] Tryz.ntmps112
@[go_sem] theorem Tryz.res113 :Tryz.f113.results.toList= [.tmp 4]:=rfl
attribute [go_sem] Tryz.ntmps113
@[go_sem] theorem Tryz.res114 :Tryz.f114.results.toList= [.cell 6 52]:=rfl
attribute [go_sem] Tryz.ntmps114
@[go_sem] theorem Tryz.res115 :Tryz.f115.results.toList= [.tmp 4]:=rfl
attribute [go_sem] Tryz.ntmps115
@[go_sem] theorem Tryz.res116 :Tryz.f116.results.toList= [.tmp 4]:=rfl
attribute [go_sem] Tryz.ntmps116
@[go_sem] theorem Tryz.res117 :Tryz.f117.results.toList= [.tmp 4]:=rfl
attribute [go_sem] Tryz.ntmps117
@[go_sem] theorem Tryz.res118 :Tryz.f118.results.toList= [.tmp 4]:=rfl
attribute [go_sem] Tryz.ntmps118
@[go_sem] theorem Tryz.res122 :Tryz.f122.results.toList= [.tmp 4,.tmp 5]:=rfl
attribute [go_sem] Tryz.ntmps122
@[go_sem] theorem Tryz.res123 :Tryz.f123.results.toList= [.cell 4 34,.tmp 5]:=rfl
attribute [go_sem] Tryz.ntmps123
@[go_sem] theorem Tryz.res124 :Tryz.f124.results.toList= [.cell 2 32]:=rfl
attribute [go_sem] Tryz.ntmps124
@[go_sem] theorem Tryz.res128 :Tryz.f128.results.toList= [.cell 4 34,.tmp 5]:=rfl
attribute [go_sem] Tryz.ntmps128
@[go_sem] theorem Tryz.res129 :Tryz.f129.results.toList= [.tmp 6,.tmp 7]:=rfl
attribute [go_sem] Tryz.ntmps129
@[go_sem] theorem Tryz.res130 :Tryz.f130.results.toList= [.tmp 6,.tmp 7]:=rfl
attribute [go_sem] Tryz.ntmps130
@[go_sem] theorem Tryz.res131 :Tryz.f131.results.toList= [.tmp 4,.tmp 5]:=rfl
attribute [go_sem] Tryz.ntmps131
@[go_sem] theorem Tryz.res132 :Tryz.f132.results.toList= [.tmp 8]:=rfl
attribute [go_sem] Tryz.ntmps132
@[go_sem] theorem Tryz.res133 :Tryz.f133.results.toList= [.cell 6 32]:=rfl
attribute [go_sem] Tryz.ntmps133
@[go_sem] theorem Tryz.res134 :Tryz.f134.results.toList= [.tmp 4]:=rfl
attribute [go_sem] Tryz.ntmps134
@[go_sem] theorem Tryz.res147 :Tryz.f147.results.toList= [.tmp 2]:=rfl
attribute [go_sem] Tryz.ntmps147
@[go_sem] theorem Tryz.res148 :Tryz.f148.results.toList= [.cell 7 34,.tmp 8]:=rfl
attribute [go_sem] Tryz.ntmps148
@[go_sem] theorem Tryz.res149 :Tryz.f149.results.toList= [.cell 8 34,.tmp 9]:=rfl
attribute [go_sem] Tryz.ntmps149
@[go_sem] theorem Tryz.res150 :Tryz.f150.results.toList= [.cell 6 34,.tmp 7]:=rfl
attribute [go_sem] Tryz.ntmps150
@[go_sem] theorem Tryz.res151 :Tryz.f151.results.toList= [.tmp 6,.tmp 7]:=rfl
attribute [go_sem] Tryz.ntmps151
@[go_sem] theorem Tryz.res152 :Tryz.f152.results.toList= [.tmp 4]:=rfl
attribute [go_sem] Tryz.ntmps152
@[go_sem] theorem Tryz.res153 :Tryz.f153.results.toList= [.cell 8 34,.tmp 9]:=rfl
attribute [go_sem] Tryz.ntmps153
@[go_sem] theorem Tryz.res154 :Tryz.f154.results.toList= [.tmp 2]:=rfl
attribute [go_sem] Tryz.ntmps154
@[go_sem] theorem Tryz.res155 :Tryz.f155.results.toList= [.tmp 6,.tmp 7]:=rfl
attribute [go_sem] Tryz.ntmps155
@[go_sem] theorem Tryz.res156 :Tryz.f156.results.toList= [.tmp 4]:=rfl
attribute [go_sem] Tryz.ntmps156
@[go_sem] theorem Tryz.res157 :Tryz.f157.results.toList= [.cell 2 32,.tmp 3]:=rfl
attribute [go_sem] Tryz.ntmps157
@[go_sem] theorem Tryz.res158 :Tryz.f158.results.toList= [.tmp 2]:=rfl
attribute [go_sem] Tryz.ntmps158
@[go_sem] theorem Tryz.res159 :Tryz.f159.results.toList= [.tmp 2]:=rfl
attribute [go_sem] Tryz.ntmps159
@[go_sem] theorem Tryz.res160 :Tryz.f160.results.toList= [.tmp 4]:=rfl
attribute [go_sem] Tryz.ntmps160
@[go_sem] theorem Tryz.res161 :Tryz.f161.results.toList= [.tmp 4]:=rfl
attribute [go_sem] Tryz.ntmps161
@[go_sem] theorem Tryz.res162 :Tryz.f162.results.toList= [.cell 2 32,.tmp 3]:=rfl
attribute [go_sem] Tryz.ntmps162
@[go_sem] theorem Tryz.res163 :Tryz.f163.results.toList= [.cell 4 32]:=rfl
attribute [go_sem] Tryz.ntmps163
@[go_sem] theorem Tryz.res165 :Tryz.f165.results.toList= [.cell 2 32]:=rfl
attribute [go_sem] Tryz.ntmps165
@[go_sem] theorem Tryz.res166 :Tryz.f166.results.toList= [.cell 6 34,.tmp 7]:=rfl
attribute [go_sem] Tryz.ntmps166
@[go_sem] theorem Tryz.res167 :Tryz.f167.results.toList= [.cell 6 34,.tmp 7]:=rfl
attribute [go_sem] Tryz.ntmps167
@[go_sem] theorem Tryz.res189 :Tryz.f189.results.toList= [.tmp 2]:=rfl
attribute [go_sem] Tryz.ntmps189
@[go_sem] theorem Tryz.res190 :Tryz.f190.results.toList= [.tmp 2]:=rfl
attribute [go_sem] Tryz.ntmps190
@[go_sem] theorem Tryz.res191 :Tryz.f191.results.toList= [.tmp 4,.tmp 5]:=rfl
attribute [go_sem] Tryz.ntmps191
@[go_sem] theorem Tryz.res192 :Tryz.f192.results.toList= [.tmp 4]:=rfl
attribute [go_sem] Tryz.ntmps192
@[go_sem] theorem Tryz.res193 :Tryz.f193.results.toList= [.cell 6 32,.tmp 7]:=rfl
attribute [go_sem] Tryz.ntmps193
@[go_sem] theorem Tryz.res196 :Tryz.f196.results.toList= [.cell 7 34,.tmp 8]:=rfl
attribute [go_sem] Tryz.ntmps196
@[go_sem] theorem Tryz.res197 :Tryz.f197.results.toList= [.cell 7 34,.tmp 8]:=rfl
attribute [go_sem] Tryz.ntmps197
@[go_sem] theorem Tryz.res198 :Tryz.f198.results.toList= [.tmp 4]:=rfl
attribute [go_sem] Tryz.ntmps198
@[go_sem] theorem Tryz.res199 :Tryz.f199.results.toList= [.tmp 2,.tmp 3]:=rfl
attribute [go_sem] Tryz.ntmps199
@[go_sem] theorem Tryz.res200 :Tryz.f200.results.toList= [.tmp 6]:=rfl
attribute [go_sem] Tryz.ntmps200
@[go_sem] theorem Tryz.res201 :Tryz.f201.results.toList= [.cell 6 32,.tmp 7]:=rfl
attribute [go_sem] Tryz.ntmps201
@[go_sem] theorem Tryz.res211 :Tryz.f211.results.toList= [.tmp 4]:=rfl
attribute [go_sem] Tryz.ntmps211
@[go_sem] theorem Tryz.res212 :Tryz.f212.results.toList= [.tmp 4]:=rfl
attribute [go_sem] Tryz.ntmps212
@[go_sem] theorem Tryz.res213 :Tryz.f213.results.toList= [.tmp 4]:=rfl
attribute [go_sem] Tryz.ntmps213
@[go_sem] theorem Tryz.res214 :Tryz.f214.results.toList= [.tmp 8,.tmp 9]:=rfl
attribute [go_sem] Tryz.ntmps214
@[go_sem] theorem Tryz.res215 :Tryz.f215.results.toList= [.tmp 6]:=rfl
attribute [go_sem] Tryz.ntmps215
@[go_sem] theorem Tryz.res217 :Tryz.f217.results.toList= [.cell 8 32,.tmp 9]:=rfl
attribute [go_sem] Tryz.ntmps217
@[go_sem] theorem Tryz.res218 :Tryz.f218.results.toList= [.cell 4 32,.tmp 5]:=rfl
attribute [go_sem] Tryz.ntmps218
@[go_sem] theorem Tryz.res219 :Tryz.f219.results.toList= [.tmp 2]:=rfl
attribute [go_sem] Tryz.ntmps219
@[go_sem] theorem Tryz.res220 :Tryz.f220.results.toList= [.tmp 4]:=rfl
attribute [go_sem] Tryz.ntmps220
@[go_sem] theorem Tryz.res221 :Tryz.f221.results.toList= [.tmp 2]:=rfl
attribute [go_sem] Tryz.ntmps221
@[go_sem] theorem Tryz.res222 :Tryz.f222.results.toList= [.tmp 2]:=rfl
attribute [go_sem] Tryz.ntmps222
@[go_sem] theorem Tryz.res223 :Tryz.f223.results.toList= [.tmp 2]:=rfl
attribute [go_sem] Tryz.ntmps223
@[go_sem] theorem Tryz.res224 :Tryz.f224.results.toList= [.tmp 2]:=rfl
attribute [go_sem] Tryz.ntmps224
@[go_sem] theorem Tryz.res225 :Tryz.f225.results.toList= [.tmp 4]:=rfl
attribute [go_sem] Tryz.ntmps225
@[go_sem] theorem Tryz.res226 :Tryz.f226.results.toList= [.tmp 4]:=rfl
attribute [go_sem] Tryz.ntmps226
@[go_sem] theorem Tryz.res227 :Tryz.f227.results.toList= [.tmp 4]:=rfl
attribute [go_sem] Tryz.ntmps227
@[go_sem] theorem Tryz.res228 :Tryz.f228.results.toList= [.tmp 4]:=rfl
attribute [go_sem] Tryz.ntmps228
@[go_sem] theorem Tryz.res229 :Tryz.f229.results.toList= [.tmp 4,.tmp 5]:=rfl
attribute [go_sem] Tryz.ntmps229
@[go_sem] theorem Tryz.res230 :Tryz.f230.results.toList= [.cell 4 32]:=rfl
attribute [go_sem] Tryz.ntmps230
@[go_sem] theorem Tryz.res231 :Tryz.f231.results.toList= []:=rfl
attribute [go_sem] Tryz.ntmps231
@[go_sem] theorem Tryz.res232 :Tryz.f232.results.toList= [.cell 4 32]:=rfl
attribute [go_sem] Tryz.ntmps232
@[go_sem] theorem Tryz.res233 :Tryz.f233.results.toList= [.cell 4 32]:=rfl
attribute [go_sem] Tryz.ntmps233
@[go_sem] theorem Tryz.res234 :Tryz.f234.results.toList= [.cell 6 34,.tmp 7]:=rfl
attribute [go_sem] Tryz.ntmps234
@[go_sem] theorem Tryz.res242 :Tryz.f242.results.toList= [.cell 6 32]:=rfl
attribute [go_sem] Tryz.ntmps242
@[go_sem] theorem Tryz.res254 :Tryz.f254.results.toList= [.tmp 2]:=rfl
attribute [go_sem] Tryz.ntmps254
@[go_sem] theorem Tryz.res255 :Tryz.f255.results.toList= [.tmp 4]:=rfl
attribute [go_sem] Tryz.ntmps255
@[go_sem] theorem Tryz.res256 :Tryz.f256.results.toList= [.tmp 4]:=rfl
attribute [go_sem] Tryz.ntmps256
@[go_sem] theorem Tryz.res261 :Tryz.f261.results.toList= [.tmp 4]:=rfl
attribute [go_sem] Tryz.ntmps261
@[go_sem] theorem Tryz.res262 :Tryz.f262.results.toList= [.tmp 4]:=rfl
attribute [go_sem] Tryz.ntmps262
@[go_sem] theorem Tryz.res263 :Tryz.f263.results.toList= [.tmp 8,.tmp 9]:=rfl
attribute [go_sem] Tryz.ntmps263
@[go_sem] theorem Tryz.res265 :Tryz.f265.results.toList= [.cell 6 32,.tmp 7]:=rfl
attribute [go_sem] Tryz.ntmps265
@[go_sem] theorem Tryz.res266 :Tryz.f266.results.toList= [.cell 6 32]:=rfl
attribute [go_sem] Tryz.ntmps266
@[go_sem] theorem Tryz.res267 :Tryz.f267.results.toList= [.tmp 2]:=rfl
attribute [go_sem] Tryz.ntmps267
@[go_sem] theorem Tryz.res268 :Tryz.f268.results.toList= [.tmp 2]:=rfl
attribute [go_sem] Tryz.ntmps268
@[go_sem] theorem Tryz.res269 :Tryz.f269.results.toList= [.tmp 4]:=rfl
attribute [go_sem] Tryz.ntmps269
@[go_sem] theorem Tryz.res271 :Tryz.f271.results.toList= [.tmp 2]:=rfl
attribute [go_sem] Tryz.ntmps271
@[go_sem] theorem Tryz.res273 :Tryz.f273.results.toList= [.tmp 4]:=rfl
attribute [go_sem] Tryz.ntmps273
@[go_sem] theorem Tryz.res280 :Tryz.f280.results.toList= [.cell 6 32]:=rfl
attribute [go_sem] Tryz.ntmps280
@[go_sem] theorem Tryz.res281 :Tryz.f281.results.toList= [.tmp 2]:=rfl
attribute [go_sem] Tryz.ntmps281
@[go_sem] theorem Tryz.res292 :Tryz.f292.results.toList= [.tmp 2]:=rfl
attribute [go_sem] Tryz.ntmps292
@[go_sem] theorem Tryz.res295 :Tryz.f295.results.toList= [.tmp 4]:=rfl
attribute [go_sem] Tryz.ntmps295
@[go_sem] theorem Tryz.res296 :Tryz.f296.results.toList= [.cell 8 34,.cell 9 40]:=rfl
attribute [go_sem] Tryz.ntmps296
@[go_sem] theorem Tryz.res298 :Tryz.f298.results.toList= [.tmp 4,.tmp 5,.tmp 6]:=rfl
attribute [go_sem] Tryz.ntmps298
@[go_sem] theorem Tryz.res299 :Tryz.f299.results.toList= [.tmp 2]:=rfl
attribute [go_sem] Tryz.ntmps299
@[go_sem] theorem Tryz.res300 :Tryz.f300.results.toList= [.tmp 2]:=rfl
attribute [go_sem] Tryz.ntmps300
@[go_sem] theorem Tryz.res301 :Tryz.f301.results.toList= [.tmp 4,.tmp 5]:=rfl
attribute [go_sem] Tryz.ntmps301
@[go_sem] theorem Tryz.res308 :Tryz.f308.results.toList= [.tmp 3]:=rfl
attribute [go_sem] Tryz.ntmps308
@[go_sem] theorem Tryz.res318 :Tryz.f318.results.toList= [.tmp 6]:=rfl
attribute [go_sem] Tryz.ntmps318
@[go_sem] theorem Tryz.res319 :Tryz.f319.results.toList= [.tmp 4,.tmp 5]:=rfl
attribute [go_sem] Tryz.ntmps319
@[go_sem] theorem Tryz.res323 :Tryz.f323.results.toList= []:=rfl
attribute [go_sem] Tryz.ntmps323
@[go_sem] theorem Tryz.res324 :Tryz.f324.results.toList= [.tmp 6,.tmp 7]:=rfl
attribute [go_sem] Tryz.ntmps324
@[go_sem] theorem Tryz.res325 :Tryz.f325.results.toList= [.tmp 2]:=rfl
attribute [go_sem] Tryz.ntmps325
end Go.Proofs
end
section
namespace Go.Pv
theorem U2s {α:Type}{P:List α->Prop}(nil:P [])(snoc: ∀l x,P l->P (l++ [x]))(l:List α):P l:=by
 have: ∀r:List α,P r.reverse:=fun r=>by
  induction r with
  | nil=>exact nil
  | cons x r ih=>rw[List.reverse_cons];exact snoc _ _ ih
 have h:=this l.reverse;rwa [List.reverse_reverse] at h
def val (B:Nat):List Nat->Nat
 | []=>0
 | x::l=>x+B*val B l
def digs (B:Nat)(n:Nat):List Nat:=if h:n=0\/B<2 then [] else n % B::digs B (n/B)
termination_by n
decreasing_by exact Nat.div_lt_self (by omega) (by omega)
theorem V0k (B:Nat):digs B 0= []:=by rw[digs,dif_pos (.inl rfl)]
theorem j0q {B n:Nat}(hB:2<=B)(h:n≠0):digs B n=n % B::digs B (n/B):=by rw[digs,dif_neg (by omega)]
theorem U1p {B:Nat}(hB:2<=B)(n:Nat):val B (digs B n)=n:=by
 induction n using Nat.strongRecOn with
 | _ n ih=>
  by_cases h:n=0;subst h;simp[V0k,val];rw[j0q hB h,val,ih _ (Nat.div_lt_self (by omega) (by omega))];exact Nat.mod_add_div n B
theorem y1c {B:Nat}(hB:2<=B)(n:Nat): ∀x∈digs B n,x<B:=by
 induction n using Nat.strongRecOn with
 | _ n ih=>
  by_cases h:n=0;subst h;simp[V0k];rw[j0q hB h];intro x hx;rcases List.mem_cons.1 hx with rfl | hx;exact Nat.mod_lt _ (by omega);exact ih _ (Nat.div_lt_self (by omega) (by omega)) x hx
def W1a (l:List Nat):List Nat:=(l.reverse.dropWhile (· ==0)).reverse
theorem H0x (l:List Nat)(x:Nat):W1a (l++ [x])=if x=0 then W1a l else l++ [x]:=by unfold W1a;rw[List.reverse_append];simp only[List.reverse_cons,List.reverse_nil,List.nil_append,List.singleton_append,List.dropWhile_cons];by_cases h:x=0<;>simp[h]
theorem H1x :W1a []= []:=rfl
theorem W1k (B:Nat)(l m:List Nat):val B (l++m)=val B l+B^l.length*val B m:=by
 induction l with
 | nil=>simp[val]
 | cons x l ih=>
  simp only[List.cons_append,val,ih,List.length_cons,Nat.pow_succ,Nat.mul_add];rw[Nat.mul_comm (B^l.length) B,Nat.mul_assoc];omega
theorem Q2h {B:Nat}(hB:0<B): ∀l:List Nat,(∀x∈l,x<B)->val B l<B^l.length
 | [],_=>by simp[val]
 | x::l,h=>by have h1:=Q2h hB l fun y hy=>h y (List.mem_cons_of_mem _ hy);have h2:=h x (List.mem_cons_self);simp only[val,List.length_cons,Nat.pow_succ];have:B*(val B l+1)<=B*B^l.length:=Nat.mul_le_mul_left _ h1;rw[Nat.mul_comm (B^l.length) B];rw[Nat.mul_add] at this;omega
theorem J2i (x:Nat)(l:List Nat):W1a (x::l)=if W1a l= [] then(if x=0 then [] else [x]) else x::W1a l:=by
 induction l using U2s with
 | nil=>
  have:=H0x [] x;simpa[H1x] using this
 | snoc l y ih=>
  have e:x::(l++ [y])=(x::l)++ [y]:=rfl;rw[e,H0x,H0x];by_cases h:y=0;simp[h,ih];simp[h]
theorem H1b {B:Nat}(hB:2<=B): ∀l:List Nat,(∀x∈l,x<B)->digs B (val B l)=W1a l
 | [],_=>by simp[val,V0k,H1x]
 | x::l,h=>by
  have ih:=H1b hB l fun y hy=>h y (List.mem_cons_of_mem _ hy);have h2:=h x (List.mem_cons_self);rw[J2i,<-ih,val];by_cases hv:val B l=0;rw[hv,V0k];simp only[Nat.mul_zero,Nat.add_zero,if_true];by_cases hx:x=0;rw[if_pos hx,hx,V0k];rw[if_neg hx,j0q hB hx,Nat.mod_eq_of_lt h2,Nat.div_eq_of_lt h2,V0k];have hne:x+B*val B l≠0:=by have:0<B*val B l:=Nat.mul_pos (by omega) (by omega);omega
  rw[j0q hB hne,if_neg (by rw[j0q hB hv];simp),Nat.add_mul_mod_self_left,Nat.mod_eq_of_lt h2,Nat.add_mul_div_left _ _ (by omega),Nat.div_eq_of_lt h2,Nat.zero_add]
theorem Y0m {B:Nat}(hB:2<=B)(k:Nat): ∀n,n<B^k->(digs B n).length<=k:=by
 induction k with
 | zero=>intro n h;have:n=0:=by simpa using h
         subst this;simp[V0k]
 | succ k ih=>
  intro n h;by_cases h0:n=0;subst h0;simp[V0k];rw[j0q hB h0,List.length_cons];have:=ih (n/B) (by rw[Nat.div_lt_iff_lt_mul (by omega)];rw[Nat.pow_succ] at h;exact h);omega
def nW (l:List UInt64):List Nat:=l.map UInt64.toNat
def valW (l:List UInt64):Nat:=val 18446744073709551616 (nW l)
def Q0s (n:Nat):List UInt64:=(digs 18446744073709551616 n).map UInt64.ofNat
def nD (l:List UInt32):List Nat:=l.map UInt32.toNat
def valD (l:List UInt32):Nat:=val 4294967296 (nD l)
def Q0e (n:Nat):List UInt32:=(digs 4294967296 n).map UInt32.ofNat
def cutW (l:List UInt64):List UInt64:=(l.reverse.dropWhile (· ==0)).reverse
def cutD (l:List UInt32):List UInt32:=(l.reverse.dropWhile (· ==0)).reverse
theorem y2s (l:List UInt64): ∀x∈nW l,x<18446744073709551616:=by intro x hx;obtain⟨c,_,rfl⟩:=List.mem_map.1 hx;exact UInt64.toNat_lt c
theorem U3m (l:List UInt32): ∀x∈nD l,x<4294967296:=by intro x hx;obtain⟨c,_,rfl⟩:=List.mem_map.1 hx;exact UInt32.toNat_lt c
theorem j1p (l:List UInt64)(x:UInt64):cutW (l++ [x])=if x=0 then cutW l else l++ [x]:=by unfold cutW;rw[List.reverse_append];simp only[List.reverse_cons,List.reverse_nil,List.nil_append,List.singleton_append,List.dropWhile_cons];by_cases h:x=0<;>simp[h]
theorem j1r (l:List UInt32)(x:UInt32):cutD (l++ [x])=if x=0 then cutD l else l++ [x]:=by unfold cutD;rw[List.reverse_append];simp only[List.reverse_cons,List.reverse_nil,List.nil_append,List.singleton_append,List.dropWhile_cons];by_cases h:x=0<;>simp[h]
theorem Z1z (x:UInt64):x=0<->x.toNat=0:=⟨fun h=>by rw[h];rfl,fun h=>UInt64.toNat.inj h⟩
theorem v0v (x:UInt32):x=0<->x.toNat=0:=⟨fun h=>by rw[h];rfl,fun h=>UInt32.toNat.inj h⟩
theorem k3s (l:List UInt64):nW (cutW l)=W1a (nW l):=by
 induction l using U2s with
 | nil=>rfl
 | snoc l x ih=>
  rw[j1p];have e:nW (l++ [x])=nW l++ [x.toNat]:=(by simp[nW]);rw[e,H0x];by_cases h:x=0;rw[if_pos h,if_pos ((Z1z x).1 h),ih];rw[if_neg h,if_neg (fun e=>h ((Z1z x).2 e)),e]
theorem k3t (l:List UInt32):nD (cutD l)=W1a (nD l):=by
 induction l using U2s with
 | nil=>rfl
 | snoc l x ih=>
  rw[j1r];have e:nD (l++ [x])=nD l++ [x.toNat]:=(by simp[nD]);rw[e,H0x];by_cases h:x=0;rw[if_pos h,if_pos ((v0v x).1 h),ih];rw[if_neg h,if_neg (fun e=>h ((v0v x).2 e)),e]
theorem y2h (l:List UInt64):(nW l).map UInt64.ofNat=l:=by
 simp only[nW,List.map_map]
 conv=>rhs;rw[<-List.map_id l]
 exact List.map_congr_left fun a _=>by simp
theorem y2i (l:List UInt32):(nD l).map UInt32.ofNat=l:=by
 simp only[nD,List.map_map]
 conv=>rhs;rw[<-List.map_id l]
 exact List.map_congr_left fun a _=>by simp
theorem Q0x (l:List UInt64):Q0s (valW l)=cutW l:=by rw[Q0s,valW,H1b (by decide) _ (y2s l),<-k3s,y2h]
theorem K0s (l:List UInt32):Q0e (valD l)=cutD l:=by rw[Q0e,valD,H1b (by decide) _ (U3m l),<-k3t,y2i]
theorem V2c (n:Nat):nW (Q0s n)=digs 18446744073709551616 n:=by
 simp only[nW,Q0s,List.map_map]
 conv=>rhs;rw[<-List.map_id (digs _ n)]
 exact List.map_congr_left fun a ha=>by have:=y1c (B:=18446744073709551616) (by decide) n a ha;simp only[Function.comp,id];rw[UInt64.toNat_ofNat'];omega
theorem w1c (n:Nat):nD (Q0e n)=digs 4294967296 n:=by
 simp only[nD,Q0e,List.map_map]
 conv=>rhs;rw[<-List.map_id (digs _ n)]
 exact List.map_congr_left fun a ha=>by have:=y1c (B:=4294967296) (by decide) n a ha;simp only[Function.comp,id];rw[UInt32.toNat_ofNat'];omega
theorem Z0e (n:Nat):valW (Q0s n)=n:=by rw[valW,V2c,U1p (by decide)]
theorem Z0f (n:Nat):valD (Q0e n)=n:=by rw[valD,w1c,U1p (by decide)]
theorem V0o (l:List UInt64):valW (cutW l)=valW l:=by rw[<-Q0x,Z0e]
theorem Y0z (n:Nat):cutW (Q0s n)=Q0s n:=by rw[<-Q0x,Z0e]
theorem y0f (n:Nat):cutD (Q0e n)=Q0e n:=by rw[<-K0s,Z0f]
theorem W0c :valW []=0:=rfl
theorem G0z :valD []=0:=rfl
theorem J0c :Q0s 0= []:=by simp[Q0s,V0k]
theorem Z0b :Q0e 0= []:=by simp[Q0e,V0k]
theorem wordsOf_nil {n:Nat} :Q0s n= []<->n=0:=⟨fun h=>by rw[<-Z0e n,h,W0c],fun h=>by rw[h,J0c]⟩
theorem digitsOf_nil {n:Nat} :Q0e n= []<->n=0:=⟨fun h=>by rw[<-Z0f n,h,G0z],fun h=>by rw[h,Z0b]⟩
theorem U0x (l m:List UInt64):valW (l++m)=valW l+18446744073709551616^l.length*valW m:=by have e:nW (l++m)=nW l++nW m:=(by simp[nW]);rw[valW,e,W1k];simp[valW,nW]
theorem k0l (l m:List UInt32):valD (l++m)=valD l+4294967296^l.length*valD m:=by have e:nD (l++m)=nD l++nD m:=(by simp[nD]);rw[valD,e,W1k];simp[valD,nD]
theorem K0d (l:List UInt64):valW l<18446744073709551616^l.length:=by have:=Q2h (B:=18446744073709551616) (by decide) _ (y2s l);simpa[valW,nW] using this
theorem X1s (l:List UInt32):valD l<4294967296^l.length:=by have:=Q2h (B:=4294967296) (by decide) _ (U3m l);simpa[valD,nD] using this
theorem V0t (l:List UInt64):(cutW l).length<=l.length:=by unfold cutW;rw[List.length_reverse];have:=(List.dropWhile_sublist (· ==(0:UInt64)) (l:=l.reverse)).length_le;simpa using this
theorem H3s (l:List UInt32):(cutD l).length<=l.length:=by unfold cutD;rw[List.length_reverse];have:=(List.dropWhile_sublist (· ==(0:UInt32)) (l:=l.reverse)).length_le;simpa using this
theorem V1f (l:List UInt64)(h:l≠ []):(cutW l).length=l.length<->l.getD (l.length-1) 0≠0:=by obtain⟨i,x,rfl⟩: ∃i x,l=i++ [x]:=⟨l.dropLast,l.getLast h,(List.dropLast_concat_getLast h).symm⟩;rw[j1p];have e:(i++ [x]).getD ((i++ [x]).length-1) 0=x:=(by simp[q_a]);rw[e];have:=V0t i;by_cases hx:x=0;simp[hx];omega;simp[hx]
theorem x2x (l:List UInt64)(h:cutW l≠ []):(cutW l).getD ((cutW l).length-1) 0≠0:=by rw[<-V1f _ h];congr 1;rw[<-Q0x l,Y0z]
theorem k0h {α:Type}(p:α->Bool)(l:List α)(n:Nat)(d:α)(hn:n<=l.length)(hz: ∀j,n<=j->j<l.length->p (l.getD j d)=true)(hl:n=0\/p (l.getD (n-1) d)=false):(l.reverse.dropWhile p).reverse=l.take n:=by
 have e:l=l.take n++l.drop n:=(List.take_append_drop n l).symm;have hd: ∀x∈(l.drop n).reverse,p x=true:=fun x hx=>by rw[List.mem_reverse] at hx;obtain⟨j,hj,rfl⟩:=List.mem_iff_getElem.1 hx;rw[List.length_drop] at hj;have:=hz (n+j) (by omega) (by omega);rw[q_a,List.getElem?_eq_getElem (by omega)] at this;simp only[Option.getD_some] at this;rw[List.getElem_drop,this]
 conv=>lhs;rw[e]
 rw[List.reverse_append,List.dropWhile_append_of_pos hd];rcases hl with rfl | hl;simp;by_cases h0:n=0;subst h0;simp;have hne:l.take n=l.take (n-1)++ [l.getD (n-1) d]:=by have h1:n-1<l.length:=(by omega);have:=List.take_succ_eq_append_getElem h1;rw[show n-1+1=n from by omega] at this;rw[this,q_a,List.getElem?_eq_getElem h1];rfl
 rw[hne,List.reverse_append];simp only[List.reverse_cons,List.reverse_nil,List.nil_append,List.singleton_append];rw[List.dropWhile_cons_of_neg (by simpa using hl)];simp
theorem y1f (l:List UInt64)(n:Nat)(hn:n<=l.length)(hz: ∀j,n<=j->j<l.length->l.getD j 0=0)(hl:n=0\/l.getD (n-1) 0≠0):cutW l=l.take n:=
 k0h _ l n 0 hn (fun j h1 h2=>by simpa using hz j h1 h2) (hl.imp id fun h=>by simpa using h)
theorem H3t (l:List UInt32)(n:Nat)(hn:n<=l.length)(hz: ∀j,n<=j->j<l.length->l.getD j 0=0)(hl:n=0\/l.getD (n-1) 0≠0):cutD l=l.take n:=
 k0h _ l n 0 hn (fun j h1 h2=>by simpa using hz j h1 h2) (hl.imp id fun h=>by simpa using h)
def Q0j (n:Nat):Nat:=if n=0 then 0 else Nat.log2 n+1
theorem Z0g (n:Nat):n<2^Q0j n:=by unfold Q0j;split;rename_i h;subst h;decide;exact Nat.lt_log2_self
theorem U0b {n:Nat}(h:n≠0):2^(Q0j n-1)<=n:=by unfold Q0j;rw[if_neg h];exact Nat.log2_self_le h
theorem bitlen_le_iff {n k:Nat} :Q0j n<=k<->n<2^k:=by constructor;intro h;exact q_e (Z0g n) (Nat.pow_le_pow_right (by decide) h);intro h;by_cases h0:n=0;subst h0;simp[Q0j];apply Nat.le_of_not_lt;intro hk;have h1:=U0b h0;have h2:2^k<=2^(Q0j n-1):=Nat.pow_le_pow_right (by decide) (by omega);omega
theorem k1f {n k:Nat}(h1:2^k<=n)(h2:n<2^(k+1)):Q0j n=k+1:=by have a:=bitlen_le_iff.2 h2;have b: ¬Q0j n<=k:=fun h=>(by have:=bitlen_le_iff.1 h;omega);omega
theorem J0l :Q0j 0=0:=rfl
theorem q0o {n:Nat}(h:n≠0):0<Q0j n:=by unfold Q0j;rw[if_neg h];omega
theorem W0b (n k:Nat)(h:n≠0):Q0j (n*2^k)=Q0j n+k:=by have h1:=U0b h;have h2:=Z0g n;have h3:=q0o h;have e:Q0j n+k=(Q0j n-1+k)+1:=(by omega);rw[e];apply k1f;rw[Nat.pow_add];exact Nat.mul_le_mul_right _ h1;rw[show Q0j n-1+k+1=Q0j n+k from by omega,Nat.pow_add];exact Nat.mul_lt_mul_of_pos_right h2 (Nat.pow_pos (by decide))
theorem Z1s (v k:Nat)(h:v/2^k≠0):Q0j v=Q0j (v/2^k)+k:=by have h1:=U0b h;have h2:=Z0g (v/2^k);have h3:=q0o h;have e:Q0j (v/2^k)+k=(Q0j (v/2^k)-1+k)+1:=(by omega);rw[e];apply k1f;rw[Nat.pow_add];exact Nat.le_trans (Nat.mul_le_mul_right _ h1) (Nat.div_mul_le_self v (2^k));rw[show Q0j (v/2^k)-1+k+1=Q0j (v/2^k)+k from by omega,Nat.pow_add];exact(Nat.div_lt_iff_lt_mul (Nat.pow_pos (by decide))).1 h2
theorem V1q (n:Nat)(h:n<18446744073709551616):Q0j n<=64:=bitlen_le_iff.2 h
theorem W2m (a x k:Nat)(ha:a<2^k)(hx:x≠0):Q0j (a+2^k*x)=k+Q0j x:=by have hp:0<2^k:=Nat.pow_pos (by decide);have e:(a+2^k*x)/2^k=x:=(by rw[Nat.add_mul_div_left _ _ hp,Nat.div_eq_of_lt ha,Nat.zero_add]);rw[Z1s _ k (by rw[e];exact hx),e,Nat.add_comm]
def cmpI (a b:Int):Int:=if a<b then -1 else if a>b then 1 else 0
def cmpW (a b:Nat):Int:=cmpI (a:Int) (b:Int)
theorem G0p {a b:Int}(h:a<b):cmpI a b= -1:=by rw[cmpI,if_pos h]
theorem G0q {a b:Int}(h:b<a):cmpI a b=1:=by rw[cmpI,if_neg (by omega),if_pos h]
theorem V1i {a b:Int}(h:a=b):cmpI a b=0:=by rw[cmpI,if_neg (by omega),if_neg (by omega)]
theorem j1v (a b:Int):cmpI b a= -cmpI a b:=by unfold cmpI;by_cases h1:a<b;rw[if_pos h1,if_neg (by omega),if_pos (by omega)];rfl;by_cases h2:b<a;rw[if_pos h2,if_neg h1,if_pos (by omega)];rw[if_neg h2,if_neg (by omega),if_neg h1,if_neg (by omega)];rfl
theorem j1w (a b:Int):cmpI (-a) (-b)= -cmpI a b:=by rw[<-j1v];unfold cmpI;by_cases h1:b<a;rw[if_pos h1,if_pos (by omega)];rw[if_neg h1,if_neg (by omega)];by_cases h2:b>a;rw[if_pos h2,if_pos (by omega)];rw[if_neg h2,if_neg (by omega)]
theorem j1o {B n m:Nat}(hB:2<=B)(h:n<=m):(digs B n).length<=(digs B m).length:=by apply Y0m hB;have h2:=Q2h (B:=B) (by omega) _ (y1c hB m);rw[U1p hB] at h2;omega
theorem v0r {B:Nat} : ∀(l m:List Nat) (i:Nat),(∀x∈l,x<B)->l.length=m.length->i<l.length->
 (∀j,i<j->j<l.length->l.getD j 0=m.getD j 0)->l.getD i 0<m.getD i 0->val B l<val B m
 | [],_,_,_,_,h,_,_=>by simp at h
 | x::l,[],_,_,h,_,_,_=>by simp at h
 | x::l,y::m,0,hl,hlen,_,heq,hlt=>by
  have e:l=m:=List.ext_getElem (by simpa using hlen) fun j h1 h2=>by have:=heq (j+1) (by omega) (by simp;omega);simpa[q_a,h1,h2] using this
  subst e;simp only[val];have:x<y:=(by simpa using hlt);omega
 | x::l,y::m,i+1,hl,hlen,hi,heq,hlt=>by
  have ih:=v0r l m i (fun z hz=>hl z (List.mem_cons_of_mem _ hz)) (by simpa using hlen) (by simpa using hi)
   (fun j h1 h2=>by have:=heq (j+1) (by omega) (by simp;omega);simpa using this) (by simpa using hlt)
  have hx:=hl x List.mem_cons_self;simp only[val];have:B*(val B l+1)<=B*val B m:=Nat.mul_le_mul_left _ ih;rw[Nat.mul_add] at this;omega
theorem k1t (B:Nat): ∀(l:List Nat) (i x:Nat),i<l.length->val B (l.set i x)+B^i*l.getD i 0=val B l+B^i*x
 | [],i,x,h=>by simp at h
 | y::l,0,x,h=>by simp[val];omega
 | y::l,i+1,x,h=>by have ih:=k1t B l i x (by simpa using h);simp only[List.set_cons_succ,val,List.getD_cons_succ,Nat.pow_succ];have:B*(val B (l.set i x)+B^i*l.getD i 0)=B*(val B l+B^i*x):=(by rw[ih]);rw[Nat.mul_add,Nat.mul_add] at this;rw[Nat.mul_comm (B^i) B,Nat.mul_assoc,Nat.mul_assoc];omega
theorem G0y (B n:Nat):val B (List.replicate n 0)=0:=by
 induction n with
 | zero=>rfl
 | succ n ih=>rw[List.replicate_succ,val,ih];simp
theorem z0b (l:List UInt64)(i:Nat):(nW l).getD i 0=(l.getD i 0).toNat:=by simp only[nW,q_a,List.getElem?_map];cases l[i]?<;>rfl
theorem K1e (l:List UInt32)(i:Nat):(nD l).getD i 0=(l.getD i 0).toNat:=by simp only[nD,q_a,List.getElem?_map];cases l[i]?<;>rfl
theorem x0y (l:List UInt64)(i:Nat)(c:UInt64)(h:i<l.length):valW (l.set i c)+18446744073709551616^i*(l.getD i 0).toNat=valW l+18446744073709551616^i*c.toNat:=by have:=k1t 18446744073709551616 (nW l) i c.toNat (by simpa[nW] using h);rw[z0b] at this;have e:(nW l).set i c.toNat=nW (l.set i c):=(by simp[nW,List.map_set]);rw[e] at this;exact this
theorem v0u (l:List UInt32)(i:Nat)(c:UInt32)(h:i<l.length):valD (l.set i c)+4294967296^i*(l.getD i 0).toNat=valD l+4294967296^i*c.toNat:=by have:=k1t 4294967296 (nD l) i c.toNat (by simpa[nD] using h);rw[K1e] at this;have e:(nD l).set i c.toNat=nD (l.set i c):=(by simp[nD,List.map_set]);rw[e] at this;exact this
theorem W1l (n:Nat):valW (List.replicate n 0)=0:=by have:nW (List.replicate n 0)=List.replicate n 0:=(by simp[nW]);rw[valW,this,G0y]
theorem W1m (n:Nat):valD (List.replicate n 0)=0:=by have:nD (List.replicate n 0)=List.replicate n 0:=(by simp[nD]);rw[valD,this,G0y]
theorem Y2g (l:List UInt64)(c:UInt64):valW (l++ [c])=valW l+18446744073709551616^l.length*c.toNat:=by rw[U0x];simp[valW,nW,val]
theorem v0t (l:List UInt32)(c:UInt32):valD (l++ [c])=valD l+4294967296^l.length*c.toNat:=by rw[k0l];simp[valD,nD,val]
theorem X1x {α:Type}(l:List α)(i:Nat)(d:α)(h:i<l.length):l.take (i+1)=l.take i++ [l.getD i d]:=by rw[List.take_succ_eq_append_getElem h,q_a,List.getElem?_eq_getElem h];rfl
theorem X0m (l:List UInt64)(i:Nat)(h:i<l.length):valW (l.take (i+1))=valW (l.take i)+18446744073709551616^i*(l.getD i 0).toNat:=by rw[X1x l i 0 h,Y2g,List.length_take,Nat.min_eq_left (by omega)]
theorem K0v (l:List UInt32)(i:Nat)(h:i<l.length):valD (l.take (i+1))=valD (l.take i)+4294967296^i*(l.getD i 0).toNat:=by rw[X1x l i 0 h,v0t,List.length_take,Nat.min_eq_left (by omega)]
theorem J0e {n k:Nat}(h:n<18446744073709551616^k):(Q0s n).length<=k:=by simp only[Q0s,List.length_map];exact Y0m (by decide) k n h
theorem y0d {n k:Nat}(h:n<4294967296^k):(Q0e n).length<=k:=by simp only[Q0e,List.length_map];exact Y0m (by decide) k n h
theorem w0t (n:Nat):n<4294967296^(Q0e n).length:=by have:=X1s (Q0e n);rwa [Z0f] at this
theorem W0k {n m:Nat}(h:n<=m):(Q0s n).length<=(Q0s m).length:=by simp only[Q0s,List.length_map];exact j1o (by decide) h
theorem z0h {n m:Nat}(h:n<=m):(Q0e n).length<=(Q0e m).length:=by simp only[Q0e,List.length_map];exact j1o (by decide) h
theorem y1h {a b:List UInt64}(ha:cutW a=a)(hb:cutW b=b)(h:a.length≠b.length):cmpI a.length b.length=cmpW (valW a) (valW b):=by rw[<-Q0x] at ha hb;have m1:valW a<=valW b->a.length<=b.length:=fun h=>(by have:=W0k h;rwa [ha,hb] at this);have m2:valW b<=valW a->b.length<=a.length:=fun h=>(by have:=W0k h;rwa [ha,hb] at this);by_cases hl:a.length<b.length;rw[G0p (by omega),cmpW,G0p];have: ¬valW b<=valW a:=fun h=>(by have:=m2 h;omega);omega;rw[G0q (by omega),cmpW,G0q];have: ¬valW a<=valW b:=fun h=>(by have:=m1 h;omega);omega
theorem y1k {a b:Nat}(h:(Q0e a).length≠(Q0e b).length):cmpI (Q0e a).length (Q0e b).length=cmpW a b:=by have m1:a<=b->(Q0e a).length<=(Q0e b).length:=z0h;have m2:b<=a->(Q0e b).length<=(Q0e a).length:=z0h;by_cases hl:(Q0e a).length<(Q0e b).length;rw[G0p (by omega),cmpW,G0p];have: ¬b<=a:=fun h=>(by have:=m2 h;omega);omega;rw[G0q (by omega),cmpW,G0q];have: ¬a<=b:=fun h=>(by have:=m1 h;omega);omega
theorem H3w {a b:List UInt64}(hl:a.length=b.length)(i:Nat)(hi:i<a.length)(heq: ∀j,i<j->j<a.length->a.getD j 0=b.getD j 0)(hne:a.getD i 0≠b.getD i 0):
 cmpI (a.getD i 0).toNat (b.getD i 0).toNat=cmpW (valW a) (valW b):=by
 have hn:(a.getD i 0).toNat≠(b.getD i 0).toNat:=fun e=>hne (UInt64.toNat.inj e);have la:(nW a).length=a.length:=(by simp[nW]);have lb:(nW b).length=b.length:=(by simp[nW]);by_cases h:(a.getD i 0).toNat<(b.getD i 0).toNat;have:=v0r (nW a) (nW b) i (y2s a) (by omega) (by omega) (fun j h1 h2=>by rw[z0b,z0b,heq j h1 (by omega)]) (by rw[z0b,z0b];exact h);rw[G0p (by omega),cmpW,G0p];simp only[valW];omega;have:=v0r (nW b) (nW a) i (y2s b) (by omega) (by omega) (fun j h1 h2=>by rw[z0b,z0b,heq j h1 (by omega)]) (by rw[z0b,z0b];omega);rw[G0q (by omega),cmpW,G0q];simp only[valW];omega
theorem W1n {a b:List UInt32}(hl:a.length=b.length)(i:Nat)(hi:i<a.length)(heq: ∀j,i<j->j<a.length->a.getD j 0=b.getD j 0)(h:(a.getD i 0).toNat<(b.getD i 0).toNat):valD a<valD b:=by have la:(nD a).length=a.length:=(by simp[nD]);have lb:(nD b).length=b.length:=(by simp[nD]);exact v0r (nD a) (nD b) i (U3m a) (by omega) (by omega) (fun j h1 h2=>by rw[K1e,K1e,heq j h1 (by omega)]) (by rw[K1e,K1e];exact h)
theorem Q1r {α:Type}{a b:List α}(d:α)(hl:a.length=b.length)(h: ∀j,j<a.length->a.getD j d=b.getD j d):a=b:=
 List.ext_getElem hl fun j h1 h2=>by have:=h j h1;simpa[q_a,h1,h2] using this
theorem K0q {α:Type}(l:List α)(i j:Nat)(x d:α):(l.set i x).getD j d=if i=j/\j<l.length then x else l.getD j d:=by simp only[q_a,List.getElem?_set];by_cases h:i=j;subst h;by_cases h2:i<l.length;simp[h2];simp[h2];simp[h]
theorem K0x {α:Type}(n j:Nat)(x:α):(List.replicate n x).getD j x=x:=by simp only[q_a,List.getElem?_replicate];split<;>rfl
theorem z1r {a b:Nat}(h:((a:Int) !=(b:Int))=true):a≠b:=by intro e;subst e;simp at h
theorem K1d {a b:Nat}(h:((a:Int) !=(b:Int))=false):a=b:=by have:(a:Int)=b:=(by simpa using h);omega
theorem G0c {a b:Nat}(h:((a:Int)==(b:Int))=true):a=b:=by have:(a:Int)=b:=(by simpa using h);omega
theorem z0o {a b:Nat}(h:((a:Int)==(b:Int))=false):a≠b:=by intro e;subst e;simp at h
theorem G0x {a b:Int}(h:(a !=b)=true):a≠b:=by intro e;subst e;simp at h
theorem H0t {a b:Int}(h:(a !=b)=false):a=b:=by simpa using h
theorem Z1c {a b:Int}(h:(a==b)=true):a=b:=by simpa using h
theorem W1h {a b:Int}(h:(a==b)=false):a≠b:=by intro e;subst e;simp at h
end Go.Pv
end
