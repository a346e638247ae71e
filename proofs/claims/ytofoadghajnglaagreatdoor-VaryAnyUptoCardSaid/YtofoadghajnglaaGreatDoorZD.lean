/- Parts of the walk: PvTab, M1, M2. -/
import Derived.Test.YtofoadghajnglaaGreatDoorZC
import Derived.Test.YtofoadghajnglaaGreatDoorProg
import Derived.KernelRfl
set_option linter.unusedVariables false
set_option linter.unusedSimpArgs false
section
namespace Go.Proofs
open Go.Pv
@[go_sem] theorem Tryz.ti2 :ti Tryz.prog 2=some ⟨false,1,.int .i64,some (.int .i64 0)⟩:=by kernel_rfl
@[go_sem] theorem Tryz.ti3 :ti Tryz.prog 3=some ⟨false,1,.int .i64,some (.int .i64 0)⟩:=by kernel_rfl
@[go_sem] theorem Tryz.ti4 :ti Tryz.prog 4=some ⟨false,1,.bool,some (.bool false)⟩:=by kernel_rfl
@[go_sem] theorem Tryz.ti5 :ti Tryz.prog 5=some ⟨false,1,.int .u8,some (.int .u8 0)⟩:=by kernel_rfl
@[go_sem] theorem Tryz.ti9 :ti Tryz.prog 9=some ⟨false,1,.str,some (.string ByteArray.empty)⟩:=by kernel_rfl
@[go_sem] theorem Tryz.ti22 :ti Tryz.prog 22=some ⟨false,1,.slice ⟨35,1,24,false,true,false⟩,some (.slice none 0 0)⟩:=by kernel_rfl
@[go_sem] theorem Tryz.ti26 :ti Tryz.prog 26=some ⟨false,1,.slice ⟨60,1,8,false,true,false⟩,some (.slice none 0 0)⟩:=by kernel_rfl
@[go_sem] theorem Tryz.ti33 :ti Tryz.prog 33=some ⟨true,3,.struct [(0,⟨4,1,1,false,true,false⟩),(1,⟨2,1,8,false,true,false⟩),(2,⟨26,1,24,false,true,false⟩)],some (.agg #[.bool false,.int .i64 0,.slice none 0 0])⟩:=by kernel_rfl
@[go_sem] theorem Tryz.ti35 :ti Tryz.prog 35=some ⟨false,1,.slice ⟨33,3,40,true,true,false⟩,some (.slice none 0 0)⟩:=by kernel_rfl
@[go_sem] theorem Tryz.ti37 :ti Tryz.prog 37=some ⟨false,1,.slice ⟨47,1,24,false,true,false⟩,some (.slice none 0 0)⟩:=by kernel_rfl
@[go_sem] theorem Tryz.ti38 :ti Tryz.prog 38=some ⟨false,1,.int .i64,some (.int .i64 0)⟩:=by kernel_rfl
@[go_sem] theorem Tryz.ti43 :ti Tryz.prog 43=some ⟨false,1,.slice ⟨191,1,4,false,true,false⟩,some (.slice none 0 0)⟩:=by kernel_rfl
@[go_sem] theorem Tryz.ti45 :ti Tryz.prog 45=some ⟨true,3,.struct [(0,⟨4,1,1,false,true,false⟩),(1,⟨43,1,24,false,true,false⟩),(2,⟨2,1,8,false,true,false⟩)],some (.agg #[.bool false,.slice none 0 0,.int .i64 0])⟩:=by kernel_rfl
@[go_sem] theorem Tryz.ti47 :ti Tryz.prog 47=some ⟨false,1,.slice ⟨52,6,80,true,true,false⟩,some (.slice none 0 0)⟩:=by kernel_rfl
@[go_sem] theorem Tryz.ti52 :ti Tryz.prog 52=some ⟨true,6,.struct [(0,⟨33,3,40,true,true,false⟩),(3,⟨33,3,40,true,true,false⟩)],some (.agg #[.bool false,.int .i64 0,.slice none 0 0,.bool false,.int .i64 0,.slice none 0 0])⟩:=by kernel_rfl
@[go_sem] theorem Tryz.ti59 :ti Tryz.prog 59=some ⟨false,1,.slice ⟨3,1,8,false,true,false⟩,some (.slice none 0 0)⟩:=by kernel_rfl
@[go_sem] theorem Tryz.ti60 :ti Tryz.prog 60=some ⟨false,1,.int .u64,some (.int .u64 0)⟩:=by kernel_rfl
@[go_sem] theorem Tryz.ti65 :ti Tryz.prog 65=some ⟨false,1,.slice ⟨66,1,24,false,true,false⟩,some (.slice none 0 0)⟩:=by kernel_rfl
@[go_sem] theorem Tryz.ti66 :ti Tryz.prog 66=some ⟨false,1,.slice ⟨68,4,64,true,true,false⟩,some (.slice none 0 0)⟩:=by kernel_rfl
@[go_sem] theorem Tryz.ti68 :ti Tryz.prog 68=some ⟨true,4,.struct [(0,⟨33,3,40,true,true,false⟩),(3,⟨59,1,24,false,true,false⟩)],some (.agg #[.bool false,.int .i64 0,.slice none 0 0,.slice none 0 0])⟩:=by kernel_rfl
@[go_sem] theorem Tryz.ti74 :ti Tryz.prog 74=some ⟨false,1,.slice ⟨37,1,24,false,true,false⟩,some (.slice none 0 0)⟩:=by kernel_rfl
@[go_sem] theorem Tryz.ti95 :ti Tryz.prog 95=some ⟨false,1,.int .u64,some (.int .u64 0)⟩:=by kernel_rfl
@[go_sem] theorem Tryz.ti130 :ti Tryz.prog 130=some ⟨false,1,.slice ⟨65,1,24,false,true,false⟩,some (.slice none 0 0)⟩:=by kernel_rfl
@[go_sem] theorem Tryz.ti135 :ti Tryz.prog 135=some ⟨true,5,.struct [(0,⟨130,1,24,false,true,false⟩),(1,⟨37,1,24,false,true,false⟩),(2,⟨3,1,8,false,true,false⟩),(3,⟨74,1,24,false,true,false⟩),(4,⟨74,1,24,false,true,false⟩)],some (.agg #[.slice none 0 0,.slice none 0 0,.int .i64 0,.slice none 0 0,.slice none 0 0])⟩:=by kernel_rfl
@[go_sem] theorem Tryz.ti191 :ti Tryz.prog 191=some ⟨false,1,.int .u32,some (.int .u32 0)⟩:=by kernel_rfl
@[go_sem] theorem Tryz.ti202 :ti Tryz.prog 202=some ⟨false,1,.slice ⟨205,4,64,true,true,false⟩,some (.slice none 0 0)⟩:=by kernel_rfl
@[go_sem] theorem Tryz.ti205 :ti Tryz.prog 205=some ⟨true,4,.struct [(0,⟨45,3,40,true,true,false⟩),(3,⟨59,1,24,false,true,false⟩)],some (.agg #[.bool false,.slice none 0 0,.int .i64 0,.slice none 0 0])⟩:=by kernel_rfl
@[go_sem] theorem Tryz.ti231 :ti Tryz.prog 231=some ⟨true,64,.arr 64 ⟨5,1,1,false,true,true⟩,some (.agg #[.int .u8 0,.int .u8 0,.int .u8 0,.int .u8 0,.int .u8 0,.int .u8 0,.int .u8 0,.int .u8 0,.int .u8 0,.int .u8 0,.int .u8 0,.int .u8 0,.int .u8 0,.int .u8 0,.int .u8 0,.int .u8 0,.int .u8 0,.int .u8 0,.int .u8 0,.int .u8 0,.int .u8 0,.int .u8 0,.int .u8 0,.int .u8 0,.int .u8 0,.int .u8 0,.int .u8 0,.int .u8 0,.int .u8 0,.int .u8 0,.int .u8 0,.int .u8 0,.int .u8 0,.int .u8 0,.int .u8 0,.int .u8 0,.int .u8 0,.int .u8 0,.int .u8 0,.int .u8 0,.int .u8 0,.int .u8 0,.int .u8 0,.int .u8 0,.int .u8 0,.int .u8 0,.int .u8 0,.int .u8 0,.int .u8 0,.int .u8 0,.int .u8 0,.int .u8 0,.int .u8 0,.int .u8 0,.int .u8 0,.int .u8 0,.int .u8 0,.int .u8 0,.int .u8 0,.int .u8 0,.int .u8 0,.int .u8 0,.int .u8 0,.int .u8 0])⟩:=by kernel_rfl
@[go_sem] theorem Tryz.ca25 :Q0e Tryz.prog 25=true:=by kernel_rfl
@[go_sem] theorem Tryz.ca27 :Q0e Tryz.prog 27=true:=by kernel_rfl
@[go_sem] theorem Tryz.ca28 :Q0e Tryz.prog 28=true:=by kernel_rfl
@[go_sem] theorem Tryz.ca33 :Q0e Tryz.prog 33=true:=by kernel_rfl
@[go_sem] theorem Tryz.ca37 :Q0e Tryz.prog 37=true:=by kernel_rfl
@[go_sem] theorem Tryz.ca38 :Q0e Tryz.prog 38=true:=by kernel_rfl
@[go_sem] theorem Tryz.ca43 :Q0e Tryz.prog 43=true:=by kernel_rfl
@[go_sem] theorem Tryz.ca44 :Q0e Tryz.prog 44=true:=by kernel_rfl
@[go_sem] theorem Tryz.ca46 :Q0e Tryz.prog 46=true:=by kernel_rfl
@[go_sem] theorem Tryz.ca47 :Q0e Tryz.prog 47=true:=by kernel_rfl
@[go_sem] theorem Tryz.ca50 :Q0e Tryz.prog 50=true:=by kernel_rfl
@[go_sem] theorem Tryz.ca54 :Q0e Tryz.prog 54=true:=by kernel_rfl
@[go_sem] theorem Tryz.ca56 :Q0e Tryz.prog 56=true:=by kernel_rfl
@[go_sem] theorem Tryz.ca65 :Q0e Tryz.prog 65=true:=by kernel_rfl
@[go_sem] theorem Tryz.ca69 :Q0e Tryz.prog 69=true:=by kernel_rfl
@[go_sem] theorem Tryz.ca70 :Q0e Tryz.prog 70=true:=by kernel_rfl
@[go_sem] theorem Tryz.ca71 :Q0e Tryz.prog 71=true:=by kernel_rfl
@[go_sem] theorem Tryz.ca72 :Q0e Tryz.prog 72=true:=by kernel_rfl
@[go_sem] theorem Tryz.ca74 :Q0e Tryz.prog 74=true:=by kernel_rfl
@[go_sem] theorem Tryz.ca75 :Q0e Tryz.prog 75=true:=by kernel_rfl
@[go_sem] theorem Tryz.ca76 :Q0e Tryz.prog 76=true:=by kernel_rfl
@[go_sem] theorem Tryz.ca77 :Q0e Tryz.prog 77=true:=by kernel_rfl
@[go_sem] theorem Tryz.ca78 :Q0e Tryz.prog 78=true:=by kernel_rfl
@[go_sem] theorem Tryz.ca79 :Q0e Tryz.prog 79=true:=by kernel_rfl
@[go_sem] theorem Tryz.ca84 :Q0e Tryz.prog 84=true:=by kernel_rfl
@[go_sem] theorem Tryz.ca89 :Q0e Tryz.prog 89=true:=by kernel_rfl
@[go_sem] theorem Tryz.ca95 :Q0e Tryz.prog 95=true:=by kernel_rfl
@[go_sem] theorem Tryz.ca96 :Q0e Tryz.prog 96=true:=by kernel_rfl
@[go_sem] theorem Tryz.ca97 :Q0e Tryz.prog 97=true:=by kernel_rfl
@[go_sem] theorem Tryz.ca99 :Q0e Tryz.prog 99=true:=by kernel_rfl
@[go_sem] theorem Tryz.ca101 :Q0e Tryz.prog 101=true:=by kernel_rfl
@[go_sem] theorem Tryz.ca102 :Q0e Tryz.prog 102=true:=by kernel_rfl
@[go_sem] theorem Tryz.ca103 :Q0e Tryz.prog 103=true:=by kernel_rfl
@[go_sem] theorem Tryz.ca104 :Q0e Tryz.prog 104=true:=by kernel_rfl
@[go_sem] theorem Tryz.ca105 :Q0e Tryz.prog 105=true:=by kernel_rfl
@[go_sem] theorem Tryz.ca106 :Q0e Tryz.prog 106=true:=by kernel_rfl
@[go_sem] theorem Tryz.ca107 :Q0e Tryz.prog 107=true:=by kernel_rfl
@[go_sem] theorem Tryz.ca108 :Q0e Tryz.prog 108=true:=by kernel_rfl
@[go_sem] theorem Tryz.ca109 :Q0e Tryz.prog 109=true:=by kernel_rfl
@[go_sem] theorem Tryz.ca110 :Q0e Tryz.prog 110=true:=by kernel_rfl
@[go_sem] theorem Tryz.ca111 :Q0e Tryz.prog 111=true:=by kernel_rfl
@[go_sem] theorem Tryz.ca115 :Q0e Tryz.prog 115=true:=by kernel_rfl
@[go_sem] theorem Tryz.ca116 :Q0e Tryz.prog 116=true:=by kernel_rfl
@[go_sem] theorem Tryz.ca117 :Q0e Tryz.prog 117=true:=by kernel_rfl
@[go_sem] theorem Tryz.ca119 :Q0e Tryz.prog 119=true:=by kernel_rfl
@[go_sem] theorem Tryz.ca120 :Q0e Tryz.prog 120=true:=by kernel_rfl
@[go_sem] theorem Tryz.ca123 :Q0e Tryz.prog 123=true:=by kernel_rfl
@[go_sem] theorem Tryz.ca125 :Q0e Tryz.prog 125=true:=by kernel_rfl
@[go_sem] theorem Tryz.ca129 :Q0e Tryz.prog 129=true:=by kernel_rfl
@[go_sem] theorem Tryz.ca135 :Q0e Tryz.prog 135=true:=by kernel_rfl
@[go_sem] theorem Tryz.ca137 :Q0e Tryz.prog 137=true:=by kernel_rfl
@[go_sem] theorem Tryz.ca139 :Q0e Tryz.prog 139=true:=by kernel_rfl
@[go_sem] theorem Tryz.ca140 :Q0e Tryz.prog 140=true:=by kernel_rfl
@[go_sem] theorem Tryz.ca141 :Q0e Tryz.prog 141=true:=by kernel_rfl
@[go_sem] theorem Tryz.ca142 :Q0e Tryz.prog 142=true:=by kernel_rfl
@[go_sem] theorem Tryz.ca143 :Q0e Tryz.prog 143=true:=by kernel_rfl
@[go_sem] theorem Tryz.ca144 :Q0e Tryz.prog 144=true:=by kernel_rfl
@[go_sem] theorem Tryz.ca145 :Q0e Tryz.prog 145=true:=by kernel_rfl
@[go_sem] theorem Tryz.ca146 :Q0e Tryz.prog 146=true:=by kernel_rfl
@[go_sem] theorem Tryz.ca147 :Q0e Tryz.prog 147=true:=by kernel_rfl
@[go_sem] theorem Tryz.ca148 :Q0e Tryz.prog 148=true:=by kernel_rfl
@[go_sem] theorem Tryz.ca155 :Q0e Tryz.prog 155=true:=by kernel_rfl
@[go_sem] theorem Tryz.ca157 :Q0e Tryz.prog 157=true:=by kernel_rfl
@[go_sem] theorem Tryz.ca158 :Q0e Tryz.prog 158=true:=by kernel_rfl
@[go_sem] theorem Tryz.ca159 :Q0e Tryz.prog 159=true:=by kernel_rfl
@[go_sem] theorem Tryz.ca160 :Q0e Tryz.prog 160=true:=by kernel_rfl
@[go_sem] theorem Tryz.ca161 :Q0e Tryz.prog 161=true:=by kernel_rfl
@[go_sem] theorem Tryz.ca166 :Q0e Tryz.prog 166=true:=by kernel_rfl
@[go_sem] theorem Tryz.ca167 :Q0e Tryz.prog 167=true:=by kernel_rfl
@[go_sem] theorem Tryz.ca168 :Q0e Tryz.prog 168=true:=by kernel_rfl
@[go_sem] theorem Tryz.ca169 :Q0e Tryz.prog 169=true:=by kernel_rfl
@[go_sem] theorem Tryz.ca170 :Q0e Tryz.prog 170=true:=by kernel_rfl
@[go_sem] theorem Tryz.ca171 :Q0e Tryz.prog 171=true:=by kernel_rfl
@[go_sem] theorem Tryz.ca172 :Q0e Tryz.prog 172=true:=by kernel_rfl
@[go_sem] theorem Tryz.ca173 :Q0e Tryz.prog 173=true:=by kernel_rfl
@[go_sem] theorem Tryz.ca174 :Q0e Tryz.prog 174=true:=by kernel_rfl
@[go_sem] theorem Tryz.ca175 :Q0e Tryz.prog 175=true:=by kernel_rfl
@[go_sem] theorem Tryz.ca176 :Q0e Tryz.prog 176=true:=by kernel_rfl
@[go_sem] theorem Tryz.ca177 :Q0e Tryz.prog 177=true:=by kernel_rfl
@[go_sem] theorem Tryz.ca178 :Q0e Tryz.prog 178=true:=by kernel_rfl
@[go_sem] theorem Tryz.ca180 :Q0e Tryz.prog 180=true:=by kernel_rfl
@[go_sem] theorem Tryz.ca181 :Q0e Tryz.prog 181=true:=by kernel_rfl
@[go_sem] theorem Tryz.ca182 :Q0e Tryz.prog 182=true:=by kernel_rfl
@[go_sem] theorem Tryz.ca183 :Q0e Tryz.prog 183=true:=by kernel_rfl
@[go_sem] theorem Tryz.ca184 :Q0e Tryz.prog 184=true:=by kernel_rfl
@[go_sem] theorem Tryz.ca185 :Q0e Tryz.prog 185=true:=by kernel_rfl
@[go_sem] theorem Tryz.ca187 :Q0e Tryz.prog 187=true:=by kernel_rfl
@[go_sem] theorem Tryz.ca189 :Q0e Tryz.prog 189=true:=by kernel_rfl
@[go_sem] theorem Tryz.ca190 :Q0e Tryz.prog 190=true:=by kernel_rfl
@[go_sem] theorem Tryz.ca192 :Q0e Tryz.prog 192=true:=by kernel_rfl
@[go_sem] theorem Tryz.ca196 :Q0e Tryz.prog 196=true:=by kernel_rfl
@[go_sem] theorem Tryz.ca200 :Q0e Tryz.prog 200=true:=by kernel_rfl
@[go_sem] theorem Tryz.ca201 :Q0e Tryz.prog 201=true:=by kernel_rfl
@[go_sem] theorem Tryz.ca202 :Q0e Tryz.prog 202=true:=by kernel_rfl
@[go_sem] theorem Tryz.ca203 :Q0e Tryz.prog 203=true:=by kernel_rfl
@[go_sem] theorem Tryz.ca204 :Q0e Tryz.prog 204=true:=by kernel_rfl
@[go_sem] theorem Tryz.ca205 :Q0e Tryz.prog 205=true:=by kernel_rfl
@[go_sem] theorem Tryz.ca206 :Q0e Tryz.prog 206=true:=by kernel_rfl
@[go_sem] theorem Tryz.ca207 :Q0e Tryz.prog 207=true:=by kernel_rfl
@[go_sem] theorem Tryz.ca208 :Q0e Tryz.prog 208=true:=by kernel_rfl
@[go_sem] theorem Tryz.ca209 :Q0e Tryz.prog 209=true:=by kernel_rfl
@[go_sem] theorem Tryz.ca210 :Q0e Tryz.prog 210=true:=by kernel_rfl
@[go_sem] theorem Tryz.ca211 :Q0e Tryz.prog 211=true:=by kernel_rfl
@[go_sem] theorem Tryz.ca212 :Q0e Tryz.prog 212=true:=by kernel_rfl
@[go_sem] theorem Tryz.ca213 :Q0e Tryz.prog 213=true:=by kernel_rfl
@[go_sem] theorem Tryz.ca214 :Q0e Tryz.prog 214=true:=by kernel_rfl
@[go_sem] theorem Tryz.ca215 :Q0e Tryz.prog 215=true:=by kernel_rfl
@[go_sem] theorem Tryz.ca216 :Q0e Tryz.prog 216=true:=by kernel_rfl
@[go_sem] theorem Tryz.ca221 :Q0e Tryz.prog 221=true:=by kernel_rfl
@[go_sem] theorem Tryz.ca222 :Q0e Tryz.prog 222=true:=by kernel_rfl
@[go_sem] theorem Tryz.ca223 :Q0e Tryz.prog 223=true:=by kernel_rfl
@[go_sem] theorem Tryz.ca224 :Q0e Tryz.prog 224=true:=by kernel_rfl
@[go_sem] theorem Tryz.ca225 :Q0e Tryz.prog 225=true:=by kernel_rfl
@[go_sem] theorem Tryz.ca226 :Q0e Tryz.prog 226=true:=by kernel_rfl
@[go_sem] theorem Tryz.ca227 :Q0e Tryz.prog 227=true:=by kernel_rfl
@[go_sem] theorem Tryz.ca228 :Q0e Tryz.prog 228=true:=by kernel_rfl
@[go_sem] theorem Tryz.ca229 :Q0e Tryz.prog 229=true:=by kernel_rfl
@[go_sem] theorem Tryz.ca231 :Q0e Tryz.prog 231=true:=by kernel_rfl
@[go_sem] theorem Tryz.ca232 :Q0e Tryz.prog 232=true:=by kernel_rfl
@[go_sem] theorem Tryz.ca233 :Q0e Tryz.prog 233=true:=by kernel_rfl
@[go_sem] theorem Tryz.ca234 :Q0e Tryz.prog 234=true:=by kernel_rfl
@[go_sem] theorem Tryz.ca236 :Q0e Tryz.prog 236=true:=by kernel_rfl
@[go_sem] theorem Tryz.ca237 :Q0e Tryz.prog 237=true:=by kernel_rfl
@[go_sem] theorem Tryz.ca238 :Q0e Tryz.prog 238=true:=by kernel_rfl
@[go_sem] theorem Tryz.ca239 :Q0e Tryz.prog 239=true:=by kernel_rfl
@[go_sem] theorem Tryz.ca240 :Q0e Tryz.prog 240=true:=by kernel_rfl
@[go_sem] theorem Tryz.ca241 :Q0e Tryz.prog 241=true:=by kernel_rfl
@[go_sem] theorem Tryz.ca242 :Q0e Tryz.prog 242=true:=by kernel_rfl
@[go_sem] theorem Tryz.ca243 :Q0e Tryz.prog 243=true:=by kernel_rfl
@[go_sem] theorem Tryz.ca244 :Q0e Tryz.prog 244=true:=by kernel_rfl
@[go_sem] theorem Tryz.ca245 :Q0e Tryz.prog 245=true:=by kernel_rfl
@[go_sem] theorem Tryz.ca248 :Q0e Tryz.prog 248=true:=by kernel_rfl
@[go_sem] theorem Tryz.ca249 :Q0e Tryz.prog 249=true:=by kernel_rfl
@[go_sem] theorem Tryz.ca250 :Q0e Tryz.prog 250=true:=by kernel_rfl
@[go_sem] theorem Tryz.ca251 :Q0e Tryz.prog 251=true:=by kernel_rfl
@[go_sem] theorem Tryz.ca252 :Q0e Tryz.prog 252=true:=by kernel_rfl
@[go_sem] theorem Tryz.ca254 :Q0e Tryz.prog 254=true:=by kernel_rfl
@[go_sem] theorem Tryz.ca256 :Q0e Tryz.prog 256=true:=by kernel_rfl
@[go_sem] theorem Tryz.ca257 :Q0e Tryz.prog 257=true:=by kernel_rfl
@[go_sem] theorem Tryz.ca258 :Q0e Tryz.prog 258=true:=by kernel_rfl
@[go_sem] theorem Tryz.ca259 :Q0e Tryz.prog 259=true:=by kernel_rfl
@[go_sem] theorem Tryz.ca260 :Q0e Tryz.prog 260=true:=by kernel_rfl
@[go_sem] theorem Tryz.ca261 :Q0e Tryz.prog 261=true:=by kernel_rfl
@[go_sem] theorem Tryz.ca263 :Q0e Tryz.prog 263=true:=by kernel_rfl
@[go_sem] theorem Tryz.ca264 :Q0e Tryz.prog 264=true:=by kernel_rfl
@[go_sem] theorem Tryz.ca265 :Q0e Tryz.prog 265=true:=by kernel_rfl
@[go_sem] theorem Tryz.ca266 :Q0e Tryz.prog 266=true:=by kernel_rfl
@[go_sem] theorem Tryz.ca267 :Q0e Tryz.prog 267=true:=by kernel_rfl
@[go_sem] theorem Tryz.ca268 :Q0e Tryz.prog 268=true:=by kernel_rfl
@[go_sem] theorem Tryz.ca270 :Q0e Tryz.prog 270=true:=by kernel_rfl
@[go_sem] theorem Tryz.ca271 :Q0e Tryz.prog 271=true:=by kernel_rfl
@[go_sem] theorem Tryz.ca272 :Q0e Tryz.prog 272=true:=by kernel_rfl
@[go_sem] theorem Tryz.ca273 :Q0e Tryz.prog 273=true:=by kernel_rfl
@[go_sem] theorem Tryz.ca274 :Q0e Tryz.prog 274=true:=by kernel_rfl
@[go_sem] theorem Tryz.ca275 :Q0e Tryz.prog 275=true:=by kernel_rfl
@[go_sem] theorem Tryz.ca276 :Q0e Tryz.prog 276=true:=by kernel_rfl
@[go_sem] theorem Tryz.ca277 :Q0e Tryz.prog 277=true:=by kernel_rfl
@[go_sem] theorem Tryz.ca281 :Q0e Tryz.prog 281=true:=by kernel_rfl
@[go_sem] theorem Tryz.ca282 :Q0e Tryz.prog 282=true:=by kernel_rfl
@[go_sem] theorem Tryz.ca253 :Q0e Tryz.prog 253=false:=by kernel_rfl
@[go_sem] theorem Tryz.ca255 :Q0e Tryz.prog 255=false:=by kernel_rfl
@[go_sem] theorem Tryz.res8 :Tryz.f8.results.toList= [.tmp 10]:=rfl
attribute [go_sem] Tryz.ntmps8
@[go_sem] theorem Tryz.res25 :Tryz.f25.results.toList= [.tmp 2]:=rfl
attribute [go_sem] Tryz.ntmps25
@[go_sem] theorem Tryz.res27 :Tryz.f27.results.toList= [.cell 2 45]:=rfl
attribute [go_sem] Tryz.ntmps27
@[go_sem] theorem Tryz.res28 :Tryz.f28.results.toList= [.tmp 2]:=rfl
attribute [go_sem] Tryz.ntmps28
@[go_sem] theorem Tryz.res33 :Tryz.f33.results.toList= [.tmp 2]:=rfl
attribute [go_sem] Tryz.ntmps33
@[go_sem] theorem Tryz.res37 :Tryz.f37.results.toList= [.tmp 0]:=rfl
attribute [go_sem] Tryz.ntmps37
@[go_sem] theorem Tryz.res38 :Tryz.f38.results.toList= [.tmp 10]:=rfl
attribute [go_sem] Tryz.ntmps38
@[go_sem] theorem Tryz.res43 :Tryz.f43.results.toList= [.tmp 6,.tmp 7]:=rfl
attribute [go_sem] Tryz.ntmps43
@[go_sem] theorem Tryz.res44 :Tryz.f44.results.toList= [.tmp 6,.tmp 7]:=rfl
attribute [go_sem] Tryz.ntmps44
@[go_sem] theorem Tryz.res46 :Tryz.f46.results.toList= [.tmp 4]:=rfl
attribute [go_sem] Tryz.ntmps46
@[go_sem] theorem Tryz.res47 :Tryz.f47.results.toList= [.tmp 8,.tmp 9]:=rfl
attribute [go_sem] Tryz.ntmps47
@[go_sem] theorem Tryz.res50 :Tryz.f50.results.toList= [.tmp 2]:=rfl
attribute [go_sem] Tryz.ntmps50
@[go_sem] theorem Tryz.res54 :Tryz.f54.results.toList= [.cell 2 52]:=rfl
attribute [go_sem] Tryz.ntmps54
@[go_sem] theorem Tryz.res56 :Tryz.f56.results.toList= [.cell 4 45]:=rfl
attribute [go_sem] Tryz.ntmps56
@[go_sem] theorem Tryz.res65 :Tryz.f65.results.toList= [.cell 2 33]:=rfl
attribute [go_sem] Tryz.ntmps65
@[go_sem] theorem Tryz.res69 :Tryz.f69.results.toList= [.cell 4 52,.tmp 5]:=rfl
attribute [go_sem] Tryz.ntmps69
@[go_sem] theorem Tryz.res70 :Tryz.f70.results.toList= [.cell 2 45]:=rfl
attribute [go_sem] Tryz.ntmps70
@[go_sem] theorem Tryz.res71 :Tryz.f71.results.toList= [.cell 2 45]:=rfl
attribute [go_sem] Tryz.ntmps71
@[go_sem] theorem Tryz.res72 :Tryz.f72.results.toList= [.cell 4 45]:=rfl
attribute [go_sem] Tryz.ntmps72
@[go_sem] theorem Tryz.res74 :Tryz.f74.results.toList= [.cell 4 45]:=rfl
attribute [go_sem] Tryz.ntmps74
@[go_sem] theorem Tryz.res75 :Tryz.f75.results.toList= [.tmp 2]:=rfl
attribute [go_sem] Tryz.ntmps75
@[go_sem] theorem Tryz.res76 :Tryz.f76.results.toList= [.tmp 4]:=rfl
attribute [go_sem] Tryz.ntmps76
@[go_sem] theorem Tryz.res77 :Tryz.f77.results.toList= [.tmp 4]:=rfl
attribute [go_sem] Tryz.ntmps77
@[go_sem] theorem Tryz.res78 :Tryz.f78.results.toList= [.tmp 6]:=rfl
attribute [go_sem] Tryz.ntmps78
@[go_sem] theorem Tryz.res79 :Tryz.f79.results.toList= [.tmp 4,.tmp 5]:=rfl
attribute [go_sem] Tryz.ntmps79
@[go_sem] theorem Tryz.res84 :Tryz.f84.results.toList= [.tmp 2]:=rfl
attribute [go_sem] Tryz.ntmps84
@[go_sem] theorem Tryz.res87 :Tryz.f87.results.toList= [.cell 4 52,.tmp 5]:=rfl
attribute [go_sem] Tryz.ntmps87
@[go_sem] theorem Tryz.res89 :Tryz.f89.results.toList= [.tmp 2]:=rfl
attribute [go_sem] Tryz.ntmps89
@[go_sem] theorem Tryz.res95 :Tryz.f95.results.toList= [.tmp 4]:=rfl
attribute [go_sem] Tryz.ntmps95
@[go_sem] theorem Tryz.res96 :Tryz.f96.results.toList= [.tmp 8,.tmp 9]:=rfl
attribute [go_sem] Tryz.ntmps96
@[go_sem] theorem Tryz.res97 :Tryz.f97.results.toList= [.tmp 4]:=rfl
attribute [go_sem] Tryz.ntmps97
@[go_sem] theorem Tryz.res99 :Tryz.f99.results.toList= [.cell 2 52]:=rfl
attribute [go_sem] Tryz.ntmps99
@[go_sem] theorem Tryz.res101 :Tryz.f101.results.toList= [.tmp 6,.tmp 7]:=rfl
attribute [go_sem] Tryz.ntmps101
@[go_sem] theorem Tryz.res102 :Tryz.f102.results.toList= [.tmp 6,.tmp 7]:=rfl
attribute [go_sem] Tryz.ntmps102
@[go_sem] theorem Tryz.res103 :Tryz.f103.results.toList= [.tmp 2]:=rfl
attribute [go_sem] Tryz.ntmps103
@[go_sem] theorem Tryz.res104 :Tryz.f104.results.toList= [.tmp 2]:=rfl
attribute [go_sem] Tryz.ntmps104
@[go_sem] theorem Tryz.res105 :Tryz.f105.results.toList= [.tmp 6,.tmp 7]:=rfl
attribute [go_sem] Tryz.ntmps105
@[go_sem] theorem Tryz.res106 :Tryz.f106.results.toList= [.tmp 8,.tmp 9]:=rfl
attribute [go_sem] Tryz.ntmps106
@[go_sem] theorem Tryz.res107 :Tryz.f107.results.toList= [.tmp 4]:=rfl
attribute [go_sem] Tryz.ntmps107
@[go_sem] theorem Tryz.res108 :Tryz.f108.results.toList= [.tmp 8,.tmp 9]:=rfl
attribute [go_sem] Tryz.ntmps108
@[go_sem] theorem Tryz.res109 :Tryz.f109.results.toList= [.tmp 2,.tmp 3]:=rfl
attribute [go_sem] Tryz.ntmps109
@[go_sem] theorem Tryz.res110 :Tryz.f110.results.toList= [.tmp 4]:=rfl
attribute [go_sem] Tryz.ntmps110
@[go_sem] theorem Tryz.res111 :Tryz.f111.results.toList= [.tmp 2,.tmp 3]:=rfl
attribute [go_sem] Tryz.ntmps111
@[go_sem] theorem Tryz.res115 :Tryz.f115.results.toList= [.tmp 2]:=rfl
attribute [go_sem] Tryz.ntmps115
@[go_sem] theorem Tryz.res116 :Tryz.f116.results.toList= [.tmp 4]:=rfl
attribute [go_sem] Tryz.ntmps116
@[go_sem] theorem Tryz.res117 :Tryz.f117.results.toList= [.cell 6 33,.tmp 7]:=rfl
attribute [go_sem] Tryz.ntmps117
@[go_sem] theorem Tryz.res119 :Tryz.f119.results.toList= [.cell 4 52]:=rfl
attribute [go_sem] Tryz.ntmps119
@[go_sem] theorem Tryz.res120 :Tryz.f120.results.toList= [.tmp 2]:=rfl
attribute [go_sem] Tryz.ntmps120
@[go_sem] theorem Tryz.res123 :Tryz.f123.results.toList= [.tmp 2]:=rfl
attribute [go_sem] Tryz.ntmps123
@[go_sem] theorem Tryz.res125 :Tryz.f125.results.toList= [.tmp 2]:=rfl
attribute [go_sem] Tryz.ntmps125
@[go_sem] theorem Tryz.res129 :Tryz.f129.results.toList= [.tmp 2]:=rfl
attribute [go_sem] Tryz.ntmps129
@[go_sem] theorem Tryz.res135 :Tryz.f135.results.toList= [.cell 6 33,.tmp 7]:=rfl
attribute [go_sem] Tryz.ntmps135
@[go_sem] theorem Tryz.res137 :Tryz.f137.results.toList= [.cell 8 33,.tmp 9]:=rfl
attribute [go_sem] Tryz.ntmps137
@[go_sem] theorem Tryz.res139 :Tryz.f139.results.toList= [.cell 4 33]:=rfl
attribute [go_sem] Tryz.ntmps139
@[go_sem] theorem Tryz.res140 :Tryz.f140.results.toList= [.tmp 2]:=rfl
attribute [go_sem] Tryz.ntmps140
@[go_sem] theorem Tryz.res141 :Tryz.f141.results.toList= [.cell 6 45]:=rfl
attribute [go_sem] Tryz.ntmps141
@[go_sem] theorem Tryz.res142 :Tryz.f142.results.toList= [.tmp 4]:=rfl
attribute [go_sem] Tryz.ntmps142
@[go_sem] theorem Tryz.res143 :Tryz.f143.results.toList= [.tmp 4]:=rfl
attribute [go_sem] Tryz.ntmps143
@[go_sem] theorem Tryz.res144 :Tryz.f144.results.toList= [.tmp 4]:=rfl
attribute [go_sem] Tryz.ntmps144
@[go_sem] theorem Tryz.res145 :Tryz.f145.results.toList= [.tmp 4]:=rfl
attribute [go_sem] Tryz.ntmps145
@[go_sem] theorem Tryz.res146 :Tryz.f146.results.toList= [.tmp 4]:=rfl
attribute [go_sem] Tryz.ntmps146
@[go_sem] theorem Tryz.res147 :Tryz.f147.results.toList= [.cell 6 52,.tmp 7]:=rfl
attribute [go_sem] Tryz.ntmps147
@[go_sem] theorem Tryz.res148 :Tryz.f148.results.toList= [.cell 6 52,.tmp 7]:=rfl
attribute [go_sem] Tryz.ntmps148
@[go_sem] theorem Tryz.res155 :Tryz.f155.results.toList= [.tmp 4]:=rfl
attribute [go_sem] Tryz.ntmps155
@[go_sem] theorem Tryz.res157 :Tryz.f157.results.toList= [.tmp 8,.tmp 9]:=rfl
attribute [go_sem] Tryz.ntmps157
@[go_sem] theorem Tryz.res158 :Tryz.f158.results.toList= [.tmp 8,.tmp 9]:=rfl
attribute [go_sem] Tryz.ntmps158
@[go_sem] theorem Tryz.res159 :Tryz.f159.results.toList= [.cell 10 52,.tmp 11]:=rfl
attribute [go_sem] Tryz.ntmps159
@[go_sem] theorem Tryz.res160 :Tryz.f160.results.toList= [.cell 8 52,.tmp 9]:=rfl
attribute [go_sem] Tryz.ntmps160
@[go_sem] theorem Tryz.res161 :Tryz.f161.results.toList= [.cell 2 52]:=rfl
attribute [go_sem] Tryz.ntmps161
@[go_sem] theorem Tryz.res164 :Tryz.f164.results.toList= [.cell 7 52,.tmp 8]:=rfl
attribute [go_sem] Tryz.ntmps164
@[go_sem] theorem Tryz.res165 :Tryz.f165.results.toList= [.cell 7 52,.tmp 8]:=rfl
attribute [go_sem] Tryz.ntmps165
@[go_sem] theorem Tryz.res166 :Tryz.f166.results.toList= [.tmp 2]:=rfl
attribute [go_sem] Tryz.ntmps166
@[go_sem] theorem Tryz.res167 :Tryz.f167.results.toList= [.tmp 6,.tmp 7]:=rfl
attribute [go_sem] Tryz.ntmps167
@[go_sem] theorem Tryz.res168 :Tryz.f168.results.toList= [.tmp 8,.tmp 9]:=rfl
attribute [go_sem] Tryz.ntmps168
@[go_sem] theorem Tryz.res169 :Tryz.f169.results.toList= [.tmp 4]:=rfl
attribute [go_sem] Tryz.ntmps169
@[go_sem] theorem Tryz.res170 :Tryz.f170.results.toList= [.tmp 2]:=rfl
attribute [go_sem] Tryz.ntmps170
@[go_sem] theorem Tryz.res171 :Tryz.f171.results.toList= [.cell 7 52,.tmp 8]:=rfl
attribute [go_sem] Tryz.ntmps171
@[go_sem] theorem Tryz.res172 :Tryz.f172.results.toList= [.cell 8 52,.tmp 9]:=rfl
attribute [go_sem] Tryz.ntmps172
@[go_sem] theorem Tryz.res173 :Tryz.f173.results.toList= [.cell 6 52,.tmp 7]:=rfl
attribute [go_sem] Tryz.ntmps173
@[go_sem] theorem Tryz.res174 :Tryz.f174.results.toList= [.tmp 6,.tmp 7]:=rfl
attribute [go_sem] Tryz.ntmps174
@[go_sem] theorem Tryz.res175 :Tryz.f175.results.toList= [.tmp 4]:=rfl
attribute [go_sem] Tryz.ntmps175
@[go_sem] theorem Tryz.res176 :Tryz.f176.results.toList= [.cell 8 52,.tmp 9]:=rfl
attribute [go_sem] Tryz.ntmps176
@[go_sem] theorem Tryz.res177 :Tryz.f177.results.toList= [.tmp 2]:=rfl
attribute [go_sem] Tryz.ntmps177
@[go_sem] theorem Tryz.res178 :Tryz.f178.results.toList= [.tmp 6,.tmp 7]:=rfl
attribute [go_sem] Tryz.ntmps178
@[go_sem] theorem Tryz.res180 :Tryz.f180.results.toList= [.cell 2 33,.tmp 3]:=rfl
attribute [go_sem] Tryz.ntmps180
@[go_sem] theorem Tryz.res181 :Tryz.f181.results.toList= [.tmp 2]:=rfl
attribute [go_sem] Tryz.ntmps181
@[go_sem] theorem Tryz.res182 :Tryz.f182.results.toList= [.tmp 2]:=rfl
attribute [go_sem] Tryz.ntmps182
@[go_sem] theorem Tryz.res183 :Tryz.f183.results.toList= [.tmp 4]:=rfl
attribute [go_sem] Tryz.ntmps183
@[go_sem] theorem Tryz.res184 :Tryz.f184.results.toList= [.tmp 4]:=rfl
attribute [go_sem] Tryz.ntmps184
@[go_sem] theorem Tryz.res185 :Tryz.f185.results.toList= [.cell 2 33,.tmp 3]:=rfl
attribute [go_sem] Tryz.ntmps185
@[go_sem] theorem Tryz.res187 :Tryz.f187.results.toList= [.cell 2 33]:=rfl
attribute [go_sem] Tryz.ntmps187
@[go_sem] theorem Tryz.res189 :Tryz.f189.results.toList= [.cell 8 45]:=rfl
attribute [go_sem] Tryz.ntmps189
@[go_sem] theorem Tryz.res190 :Tryz.f190.results.toList= [.cell 6 45]:=rfl
attribute [go_sem] Tryz.ntmps190
@[go_sem] theorem Tryz.res192 :Tryz.f192.results.toList= [.tmp 2]:=rfl
attribute [go_sem] Tryz.ntmps192
@[go_sem] theorem Tryz.res196 :Tryz.f196.results.toList= [.tmp 2]:=rfl
attribute [go_sem] Tryz.ntmps196
@[go_sem] theorem Tryz.res200 :Tryz.f200.results.toList= [.tmp 2]:=rfl
attribute [go_sem] Tryz.ntmps200
@[go_sem] theorem Tryz.res201 :Tryz.f201.results.toList= [.tmp 2]:=rfl
attribute [go_sem] Tryz.ntmps201
@[go_sem] theorem Tryz.res202 :Tryz.f202.results.toList= [.tmp 4]:=rfl
attribute [go_sem] Tryz.ntmps202
@[go_sem] theorem Tryz.res203 :Tryz.f203.results.toList= [.cell 4 33]:=rfl
attribute [go_sem] Tryz.ntmps203
@[go_sem] theorem Tryz.res204 :Tryz.f204.results.toList= [.cell 6 33,.tmp 7]:=rfl
attribute [go_sem] Tryz.ntmps204
@[go_sem] theorem Tryz.res205 :Tryz.f205.results.toList= [.cell 6 33]:=rfl
attribute [go_sem] Tryz.ntmps205
@[go_sem] theorem Tryz.res206 :Tryz.f206.results.toList= [.tmp 4]:=rfl
attribute [go_sem] Tryz.ntmps206
@[go_sem] theorem Tryz.res207 :Tryz.f207.results.toList= [.tmp 4]:=rfl
attribute [go_sem] Tryz.ntmps207
@[go_sem] theorem Tryz.res208 :Tryz.f208.results.toList= [.tmp 4,.tmp 5]:=rfl
attribute [go_sem] Tryz.ntmps208
@[go_sem] theorem Tryz.res209 :Tryz.f209.results.toList= [.tmp 2]:=rfl
attribute [go_sem] Tryz.ntmps209
@[go_sem] theorem Tryz.res210 :Tryz.f210.results.toList= [.tmp 4,.tmp 5]:=rfl
attribute [go_sem] Tryz.ntmps210
@[go_sem] theorem Tryz.res211 :Tryz.f211.results.toList= [.tmp 4]:=rfl
attribute [go_sem] Tryz.ntmps211
@[go_sem] theorem Tryz.res212 :Tryz.f212.results.toList= [.tmp 6]:=rfl
attribute [go_sem] Tryz.ntmps212
@[go_sem] theorem Tryz.res213 :Tryz.f213.results.toList= []:=rfl
attribute [go_sem] Tryz.ntmps213
@[go_sem] theorem Tryz.res214 :Tryz.f214.results.toList= [.cell 4 33]:=rfl
attribute [go_sem] Tryz.ntmps214
@[go_sem] theorem Tryz.res215 :Tryz.f215.results.toList= [.cell 4 33]:=rfl
attribute [go_sem] Tryz.ntmps215
@[go_sem] theorem Tryz.res216 :Tryz.f216.results.toList= [.cell 6 52,.tmp 7]:=rfl
attribute [go_sem] Tryz.ntmps216
@[go_sem] theorem Tryz.res221 :Tryz.f221.results.toList= [.cell 8 52,.tmp 9]:=rfl
attribute [go_sem] Tryz.ntmps221
@[go_sem] theorem Tryz.res222 :Tryz.f222.results.toList= [.tmp 2]:=rfl
attribute [go_sem] Tryz.ntmps222
@[go_sem] theorem Tryz.res223 :Tryz.f223.results.toList= [.tmp 4]:=rfl
attribute [go_sem] Tryz.ntmps223
@[go_sem] theorem Tryz.res224 :Tryz.f224.results.toList= [.cell 4 52,.tmp 5]:=rfl
attribute [go_sem] Tryz.ntmps224
@[go_sem] theorem Tryz.res225 :Tryz.f225.results.toList= [.cell 10 52,.tmp 11]:=rfl
attribute [go_sem] Tryz.ntmps225
@[go_sem] theorem Tryz.res226 :Tryz.f226.results.toList= [.cell 8 45]:=rfl
attribute [go_sem] Tryz.ntmps226
@[go_sem] theorem Tryz.res227 :Tryz.f227.results.toList= [.cell 8 45]:=rfl
attribute [go_sem] Tryz.ntmps227
@[go_sem] theorem Tryz.res228 :Tryz.f228.results.toList= [.tmp 4]:=rfl
attribute [go_sem] Tryz.ntmps228
@[go_sem] theorem Tryz.res229 :Tryz.f229.results.toList= [.tmp 2,.tmp 3]:=rfl
attribute [go_sem] Tryz.ntmps229
@[go_sem] theorem Tryz.res231 :Tryz.f231.results.toList= [.tmp 4]:=rfl
attribute [go_sem] Tryz.ntmps231
@[go_sem] theorem Tryz.res232 :Tryz.f232.results.toList= [.tmp 4]:=rfl
attribute [go_sem] Tryz.ntmps232
@[go_sem] theorem Tryz.res233 :Tryz.f233.results.toList= [.tmp 4]:=rfl
attribute [go_sem] Tryz.ntmps233
@[go_sem] theorem Tryz.res234 :Tryz.f234.results.toList= [.tmp 8,.tmp 9]:=rfl
attribute [go_sem] Tryz.ntmps234
@[go_sem] theorem Tryz.res236 :Tryz.f236.results.toList= [.cell 4 33,.tmp 5]:=rfl
attribute [go_sem] Tryz.ntmps236
@[go_sem] theorem Tryz.res237 :Tryz.f237.results.toList= [.tmp 2]:=rfl
attribute [go_sem] Tryz.ntmps237
@[go_sem] theorem Tryz.res238 :Tryz.f238.results.toList= [.tmp 4]:=rfl
attribute [go_sem] Tryz.ntmps238
@[go_sem] theorem Tryz.res239 :Tryz.f239.results.toList= [.tmp 2]:=rfl
attribute [go_sem] Tryz.ntmps239
@[go_sem] theorem Tryz.res240 :Tryz.f240.results.toList= [.tmp 2]:=rfl
attribute [go_sem] Tryz.ntmps240
@[go_sem] theorem Tryz.res241 :Tryz.f241.results.toList= [.tmp 2]:=rfl
attribute [go_sem] Tryz.ntmps241
@[go_sem] theorem Tryz.res242 :Tryz.f242.results.toList= [.tmp 4]:=rfl
attribute [go_sem] Tryz.ntmps242
@[go_sem] theorem Tryz.res243 :Tryz.f243.results.toList= [.tmp 4]:=rfl
attribute [go_sem] Tryz.ntmps243
@[go_sem] theorem Tryz.res244 :Tryz.f244.results.toList= [.tmp 2]:=rfl
attribute [go_sem] Tryz.ntmps244
@[go_sem] theorem Tryz.res245 :Tryz.f245.results.toList= [.tmp 4,.tmp 5]:=rfl
attribute [go_sem] Tryz.ntmps245
@[go_sem] theorem Tryz.res248 :Tryz.f248.results.toList= [.tmp 2]:=rfl
attribute [go_sem] Tryz.ntmps248
@[go_sem] theorem Tryz.res249 :Tryz.f249.results.toList= [.tmp 2]:=rfl
attribute [go_sem] Tryz.ntmps249
@[go_sem] theorem Tryz.res250 :Tryz.f250.results.toList= [.tmp 4]:=rfl
attribute [go_sem] Tryz.ntmps250
@[go_sem] theorem Tryz.res251 :Tryz.f251.results.toList= [.cell 6 33]:=rfl
attribute [go_sem] Tryz.ntmps251
@[go_sem] theorem Tryz.res252 :Tryz.f252.results.toList= [.tmp 4,.tmp 5,.tmp 6]:=rfl
attribute [go_sem] Tryz.ntmps252
@[go_sem] theorem Tryz.res254 :Tryz.f254.results.toList= [.tmp 2]:=rfl
attribute [go_sem] Tryz.ntmps254
@[go_sem] theorem Tryz.res256 :Tryz.f256.results.toList= [.tmp 4]:=rfl
attribute [go_sem] Tryz.ntmps256
@[go_sem] theorem Tryz.res257 :Tryz.f257.results.toList= [.tmp 8,.tmp 9]:=rfl
attribute [go_sem] Tryz.ntmps257
@[go_sem] theorem Tryz.res258 :Tryz.f258.results.toList= [.tmp 4]:=rfl
attribute [go_sem] Tryz.ntmps258
@[go_sem] theorem Tryz.res259 :Tryz.f259.results.toList= [.tmp 4]:=rfl
attribute [go_sem] Tryz.ntmps259
@[go_sem] theorem Tryz.res260 :Tryz.f260.results.toList= [.tmp 4]:=rfl
attribute [go_sem] Tryz.ntmps260
@[go_sem] theorem Tryz.res261 :Tryz.f261.results.toList= [.tmp 8,.tmp 9]:=rfl
attribute [go_sem] Tryz.ntmps261
@[go_sem] theorem Tryz.res263 :Tryz.f263.results.toList= [.tmp 2]:=rfl
attribute [go_sem] Tryz.ntmps263
@[go_sem] theorem Tryz.res264 :Tryz.f264.results.toList= [.tmp 4]:=rfl
attribute [go_sem] Tryz.ntmps264
@[go_sem] theorem Tryz.res265 :Tryz.f265.results.toList= [.tmp 4,.tmp 5]:=rfl
attribute [go_sem] Tryz.ntmps265
@[go_sem] theorem Tryz.res266 :Tryz.f266.results.toList= [.cell 6 33]:=rfl
attribute [go_sem] Tryz.ntmps266
@[go_sem] theorem Tryz.res267 :Tryz.f267.results.toList= [.tmp 2]:=rfl
attribute [go_sem] Tryz.ntmps267
@[go_sem] theorem Tryz.res268 :Tryz.f268.results.toList= [.tmp 4,.tmp 5]:=rfl
attribute [go_sem] Tryz.ntmps268
@[go_sem] theorem Tryz.res270 :Tryz.f270.results.toList= [.tmp 2]:=rfl
attribute [go_sem] Tryz.ntmps270
@[go_sem] theorem Tryz.res271 :Tryz.f271.results.toList= [.cell 8 52,.tmp 9]:=rfl
attribute [go_sem] Tryz.ntmps271
@[go_sem] theorem Tryz.res272 :Tryz.f272.results.toList= [.tmp 4]:=rfl
attribute [go_sem] Tryz.ntmps272
@[go_sem] theorem Tryz.res273 :Tryz.f273.results.toList= [.cell 8 52,.cell 9 38]:=rfl
attribute [go_sem] Tryz.ntmps273
@[go_sem] theorem Tryz.res274 :Tryz.f274.results.toList= [.tmp 2]:=rfl
attribute [go_sem] Tryz.ntmps274
@[go_sem] theorem Tryz.res275 :Tryz.f275.results.toList= [.tmp 3]:=rfl
attribute [go_sem] Tryz.ntmps275
@[go_sem] theorem Tryz.res276 :Tryz.f276.results.toList= [.tmp 6,.tmp 7]:=rfl
attribute [go_sem] Tryz.ntmps276
@[go_sem] theorem Tryz.res277 :Tryz.f277.results.toList= [.tmp 2]:=rfl
attribute [go_sem] Tryz.ntmps277
@[go_sem] theorem Tryz.res281 :Tryz.f281.results.toList= [.tmp 6]:=rfl
attribute [go_sem] Tryz.ntmps281
@[go_sem] theorem Tryz.res282 :Tryz.f282.results.toList= []:=rfl
attribute [go_sem] Tryz.ntmps282
end Go.Proofs
end
section
namespace Go.Pv
theorem K2x {α:Type} {P:List α->Prop} (nil:P []) (snoc: ∀l x,P l->P (l++ [x])) (l:List α):P l:=by
 have: ∀r:List α,P r.reverse:=fun r=>by
  induction r with
  | nil=>exact nil
  | cons x r ih=>rw [List.reverse_cons];exact snoc _ _ ih
 have h:=this l.reverse;rwa [List.reverse_reverse] at h
def val (B:Nat):List Nat->Nat
 | []=>0
 | x::l=>x+B*val B l
def digs (B:Nat) (n:Nat):List Nat:=if h:n=0\/B<2 then [] else n % B::digs B (n/B)
termination_by n
decreasing_by exact Nat.div_lt_self (by omega) (by omega)
theorem V0l (B:Nat):digs B 0= []:=by rw [digs,dif_pos (.inl rfl)]
theorem x0z {B n:Nat} (hB:2<=B) (h:n≠0):digs B n=n % B::digs B (n/B):=by rw [digs,dif_neg (by omega)]
theorem Y1f {B:Nat} (hB:2<=B) (n:Nat):val B (digs B n)=n:=by
 induction n using Nat.strongRecOn with
 | _ n ih=>
  by_cases h:n=0;subst h;simp [V0l,val];rw [x0z hB h,val,ih _ (Nat.div_lt_self (by omega) (by omega))];exact Nat.mod_add_div n B
theorem k1e {B:Nat} (hB:2<=B) (n:Nat): ∀x∈digs B n,x<B:=by
 induction n using Nat.strongRecOn with
 | _ n ih=>
  by_cases h:n=0;subst h;simp [V0l];rw [x0z hB h];intro x hx;rcases List.mem_cons.1 hx with rfl | hx;exact Nat.mod_lt _ (by omega);exact ih _ (Nat.div_lt_self (by omega) (by omega)) x hx
def K1r (l:List Nat):List Nat:=(l.reverse.dropWhile (· ==0)).reverse
theorem H0l (l:List Nat) (x:Nat):K1r (l++ [x])=if x=0 then K1r l else l++ [x]:=by unfold K1r;rw [List.reverse_append];simp only [List.reverse_cons,List.reverse_nil,List.nil_append,List.singleton_append,List.dropWhile_cons];by_cases h:x=0<;>simp [h]
theorem G1k :K1r []= []:=rfl
theorem V1e (B:Nat) (l m:List Nat):val B (l++m)=val B l+B^l.length*val B m:=by
 induction l with
 | nil=>simp [val]
 | cons x l ih=>
  simp only [List.cons_append,val,ih,List.length_cons,Nat.pow_succ,Nat.mul_add];rw [Nat.mul_comm (B^l.length) B,Nat.mul_assoc];omega
theorem v1d {B:Nat} (hB:0<B): ∀l:List Nat,(∀x∈l,x<B)->val B l<B^l.length
 | [],_=>by simp [val]
 | x::l,h=>by have h1:=v1d hB l fun y hy=>h y (List.mem_cons_of_mem _ hy);have h2:=h x (List.mem_cons_self);simp only [val,List.length_cons,Nat.pow_succ];have:B*(val B l+1)<=B*B^l.length:=Nat.mul_le_mul_left _ h1;rw [Nat.mul_comm (B^l.length) B];rw [Nat.mul_add] at this;omega
theorem Q2a (x:Nat) (l:List Nat):K1r (x::l)=if K1r l= [] then(if x=0 then [] else [x]) else x::K1r l:=by
 induction l using K2x with
 | nil=>
  have:=H0l [] x;simpa [G1k] using this
 | snoc l y ih=>
  have e:x::(l++ [y])=(x::l)++ [y]:=rfl;rw [e,H0l,H0l];by_cases h:y=0;simp [h,ih];simp [h]
theorem U1j {B:Nat} (hB:2<=B): ∀l:List Nat,(∀x∈l,x<B)->digs B (val B l)=K1r l
 | [],_=>by simp [val,V0l,G1k]
 | x::l,h=>by
  have ih:=U1j hB l fun y hy=>h y (List.mem_cons_of_mem _ hy);have h2:=h x (List.mem_cons_self);rw [Q2a,<-ih,val];by_cases hv:val B l=0;rw [hv,V0l];simp only [Nat.mul_zero,Nat.add_zero,if_true];by_cases hx:x=0;rw [if_pos hx,hx,V0l];rw [if_neg hx,x0z hB hx,Nat.mod_eq_of_lt h2,Nat.div_eq_of_lt h2,V0l];have hne:x+B*val B l≠0:=by have:0<B*val B l:=Nat.mul_pos (by omega) (by omega);omega
  rw [x0z hB hne,if_neg (by rw [x0z hB hv];simp),Nat.add_mul_mod_self_left,Nat.mod_eq_of_lt h2,Nat.add_mul_div_left _ _ (by omega),Nat.div_eq_of_lt h2,Nat.zero_add]
theorem Y0n {B:Nat} (hB:2<=B) (k:Nat): ∀n,n<B^k->(digs B n).length<=k:=by
 induction k with
 | zero=>intro n h;have:n=0:=by simpa using h
         subst this;simp [V0l]
 | succ k ih=>
  intro n h;by_cases h0:n=0;subst h0;simp [V0l];rw [x0z hB h0,List.length_cons];have:=ih (n/B) (by rw [Nat.div_lt_iff_lt_mul (by omega)];rw [Nat.pow_succ] at h;exact h);omega
def nW (l:List UInt64):List Nat:=l.map UInt64.toNat
def valW (l:List UInt64):Nat:=val 18446744073709551616 (nW l)
def Q0q (n:Nat):List UInt64:=(digs 18446744073709551616 n).map UInt64.ofNat
def nD (l:List UInt32):List Nat:=l.map UInt32.toNat
def valD (l:List UInt32):Nat:=val 4294967296 (nD l)
def Q0c (n:Nat):List UInt32:=(digs 4294967296 n).map UInt32.ofNat
def cutW (l:List UInt64):List UInt64:=(l.reverse.dropWhile (· ==0)).reverse
def cutD (l:List UInt32):List UInt32:=(l.reverse.dropWhile (· ==0)).reverse
theorem j2l (l:List UInt64): ∀x∈nW l,x<18446744073709551616:=by intro x hx;obtain⟨c,_,rfl⟩:=List.mem_map.1 hx;exact UInt64.toNat_lt c
theorem J3i (l:List UInt32): ∀x∈nD l,x<4294967296:=by intro x hx;obtain⟨c,_,rfl⟩:=List.mem_map.1 hx;exact UInt32.toNat_lt c
theorem q1x (l:List UInt64) (x:UInt64):cutW (l++ [x])=if x=0 then cutW l else l++ [x]:=by unfold cutW;rw [List.reverse_append];simp only [List.reverse_cons,List.reverse_nil,List.nil_append,List.singleton_append,List.dropWhile_cons];by_cases h:x=0<;>simp [h]
theorem q1z (l:List UInt32) (x:UInt32):cutD (l++ [x])=if x=0 then cutD l else l++ [x]:=by unfold cutD;rw [List.reverse_append];simp only [List.reverse_cons,List.reverse_nil,List.nil_append,List.singleton_append,List.dropWhile_cons];by_cases h:x=0<;>simp [h]
theorem Q1t (x:UInt64):x=0<->x.toNat=0:=⟨fun h=>by rw [h];rfl,fun h=>UInt64.toNat.inj h⟩
theorem x0f (x:UInt32):x=0<->x.toNat=0:=⟨fun h=>by rw [h];rfl,fun h=>UInt32.toNat.inj h⟩
theorem G3q (l:List UInt64):nW (cutW l)=K1r (nW l):=by
 induction l using K2x with
 | nil=>rfl
 | snoc l x ih=>
  rw [q1x];have e:nW (l++ [x])=nW l++ [x.toNat]:=(by simp [nW]);rw [e,H0l];by_cases h:x=0;rw [if_pos h,if_pos ((Q1t x).1 h),ih];rw [if_neg h,if_neg (fun e=>h ((Q1t x).2 e)),e]
theorem G3r (l:List UInt32):nD (cutD l)=K1r (nD l):=by
 induction l using K2x with
 | nil=>rfl
 | snoc l x ih=>
  rw [q1z];have e:nD (l++ [x])=nD l++ [x.toNat]:=(by simp [nD]);rw [e,H0l];by_cases h:x=0;rw [if_pos h,if_pos ((x0f x).1 h),ih];rw [if_neg h,if_neg (fun e=>h ((x0f x).2 e)),e]
theorem j2a (l:List UInt64):(nW l).map UInt64.ofNat=l:=by
 simp only [nW,List.map_map]
 conv=>rhs;rw [<-List.map_id l]
 exact List.map_congr_left fun a _=>by simp
theorem j2b (l:List UInt32):(nD l).map UInt32.ofNat=l:=by
 simp only [nD,List.map_map]
 conv=>rhs;rw [<-List.map_id l]
 exact List.map_congr_left fun a _=>by simp
theorem Q0w (l:List UInt64):Q0q (valW l)=cutW l:=by rw [Q0q,valW,U1j (by decide) _ (j2l l),<-G3q,j2a]
theorem J0u (l:List UInt32):Q0c (valD l)=cutD l:=by rw [Q0c,valD,U1j (by decide) _ (J3i l),<-G3r,j2b]
theorem Z2w (n:Nat):nW (Q0q n)=digs 18446744073709551616 n:=by
 simp only [nW,Q0q,List.map_map]
 conv=>rhs;rw [<-List.map_id (digs _ n)]
 exact List.map_congr_left fun a ha=>by have:=k1e (B:=18446744073709551616) (by decide) n a ha;simp only [Function.comp,id];rw [UInt64.toNat_ofNat'];omega
theorem j1g (n:Nat):nD (Q0c n)=digs 4294967296 n:=by
 simp only [nD,Q0c,List.map_map]
 conv=>rhs;rw [<-List.map_id (digs _ n)]
 exact List.map_congr_left fun a ha=>by have:=k1e (B:=4294967296) (by decide) n a ha;simp only [Function.comp,id];rw [UInt32.toNat_ofNat'];omega
theorem Z0f (n:Nat):valW (Q0q n)=n:=by rw [valW,Z2w,Y1f (by decide)]
theorem Q0x (n:Nat):valD (Q0c n)=n:=by rw [valD,j1g,Y1f (by decide)]
theorem V0p (l:List UInt64):valW (cutW l)=valW l:=by rw [<-Q0w,Z0f]
theorem U0b (n:Nat):cutW (Q0q n)=Q0q n:=by rw [<-Q0w,Z0f]
theorem q0o (n:Nat):cutD (Q0c n)=Q0c n:=by rw [<-J0u,Q0x]
theorem V0y :valW []=0:=rfl
theorem G0q :valD []=0:=rfl
theorem J0c :Q0q 0= []:=by simp [Q0q,V0l]
theorem Z0j :Q0c 0= []:=by simp [Q0c,V0l]
theorem wordsOf_nil {n:Nat} :Q0q n= []<->n=0:=⟨fun h=>by rw [<-Z0f n,h,V0y],fun h=>by rw [h,J0c]⟩
theorem digitsOf_nil {n:Nat} :Q0c n= []<->n=0:=⟨fun h=>by rw [<-Q0x n,h,G0q],fun h=>by rw [h,Z0j]⟩
theorem U0v (l m:List UInt64):valW (l++m)=valW l+18446744073709551616^l.length*valW m:=by have e:nW (l++m)=nW l++nW m:=(by simp [nW]);rw [valW,e,V1e];simp [valW,nW]
theorem j0s (l m:List UInt32):valD (l++m)=valD l+4294967296^l.length*valD m:=by have e:nD (l++m)=nD l++nD m:=(by simp [nD]);rw [valD,e,V1e];simp [valD,nD]
theorem K0c (l:List UInt64):valW l<18446744073709551616^l.length:=by have:=v1d (B:=18446744073709551616) (by decide) _ (j2l l);simpa [valW,nW] using this
theorem z0a (l:List UInt32):valD l<4294967296^l.length:=by have:=v1d (B:=4294967296) (by decide) _ (J3i l);simpa [valD,nD] using this
theorem V0u (l:List UInt64):(cutW l).length<=l.length:=by unfold cutW;rw [List.length_reverse];have:=(List.dropWhile_sublist (· ==(0:UInt64)) (l:=l.reverse)).length_le;simpa using this
theorem V3a (l:List UInt32):(cutD l).length<=l.length:=by unfold cutD;rw [List.length_reverse];have:=(List.dropWhile_sublist (· ==(0:UInt32)) (l:=l.reverse)).length_le;simpa using this
theorem J1y (l:List UInt64) (h:l≠ []):(cutW l).length=l.length<->l.getD (l.length-1) 0≠0:=by obtain⟨i,x,rfl⟩: ∃i x,l=i++ [x]:=⟨l.dropLast,l.getLast h,(List.dropLast_concat_getLast h).symm⟩;rw [q1x];have e:(i++ [x]).getD ((i++ [x]).length-1) 0=x:=(by simp [List.getD_eq_getElem?_getD]);rw [e];have:=V0u i;by_cases hx:x=0;simp [hx];omega;simp [hx]
theorem G2k (l:List UInt64) (h:cutW l≠ []):(cutW l).getD ((cutW l).length-1) 0≠0:=by rw [<-J1y _ h];congr 1;rw [<-Q0w l,U0b]
theorem j0p {α:Type} (p:α->Bool) (l:List α) (n:Nat) (d:α) (hn:n<=l.length) (hz: ∀j,n<=j->j<l.length->p (l.getD j d)=true) (hl:n=0\/p (l.getD (n-1) d)=false):(l.reverse.dropWhile p).reverse=l.take n:=by
 have e:l=l.take n++l.drop n:=(List.take_append_drop n l).symm;have hd: ∀x∈(l.drop n).reverse,p x=true:=fun x hx=>by rw [List.mem_reverse] at hx;obtain⟨j,hj,rfl⟩:=List.mem_iff_getElem.1 hx;rw [List.length_drop] at hj;have:=hz (n+j) (by omega) (by omega);rw [List.getD_eq_getElem?_getD,List.getElem?_eq_getElem (by omega)] at this;simp only [Option.getD_some] at this;rw [List.getElem_drop,this]
 conv=>lhs;rw [e]
 rw [List.reverse_append,List.dropWhile_append_of_pos hd];rcases hl with rfl | hl;simp;by_cases h0:n=0;subst h0;simp;have hne:l.take n=l.take (n-1)++ [l.getD (n-1) d]:=by have h1:n-1<l.length:=(by omega);have:=List.take_succ_eq_append_getElem h1;rw [show n-1+1=n from by omega] at this;rw [this,List.getD_eq_getElem?_getD,List.getElem?_eq_getElem h1];rfl
 rw [hne,List.reverse_append];simp only [List.reverse_cons,List.reverse_nil,List.nil_append,List.singleton_append];rw [List.dropWhile_cons_of_neg (by simpa using hl)];simp
theorem k1g (l:List UInt64) (n:Nat) (hn:n<=l.length) (hz: ∀j,n<=j->j<l.length->l.getD j 0=0) (hl:n=0\/l.getD (n-1) 0≠0):cutW l=l.take n:=
 j0p _ l n 0 hn (fun j h1 h2=>by simpa using hz j h1 h2) (hl.imp id fun h=>by simpa using h)
theorem V3b (l:List UInt32) (n:Nat) (hn:n<=l.length) (hz: ∀j,n<=j->j<l.length->l.getD j 0=0) (hl:n=0\/l.getD (n-1) 0≠0):cutD l=l.take n:=
 j0p _ l n 0 hn (fun j h1 h2=>by simpa using hz j h1 h2) (hl.imp id fun h=>by simpa using h)
def Q0g (n:Nat):Nat:=if n=0 then 0 else Nat.log2 n+1
theorem Z0a (n:Nat):n<2^Q0g n:=by unfold Q0g;split;rename_i h;subst h;decide;exact Nat.lt_log2_self
theorem U0c {n:Nat} (h:n≠0):2^(Q0g n-1)<=n:=by unfold Q0g;rw [if_neg h];exact Nat.log2_self_le h
theorem bitlen_le_iff {n k:Nat} :Q0g n<=k<->n<2^k:=by constructor;intro h;exact Nat.lt_of_lt_of_le (Z0a n) (Nat.pow_le_pow_right (by decide) h);intro h;by_cases h0:n=0;subst h0;simp [Q0g];apply Nat.le_of_not_lt;intro hk;have h1:=U0c h0;have h2:2^k<=2^(Q0g n-1):=Nat.pow_le_pow_right (by decide) (by omega);omega
theorem z1o {n k:Nat} (h1:2^k<=n) (h2:n<2^(k+1)):Q0g n=k+1:=by have a:=bitlen_le_iff.2 h2;have b: ¬Q0g n<=k:=fun h=>(by have:=bitlen_le_iff.1 h;omega);omega
theorem J0j :Q0g 0=0:=rfl
theorem q0a {n:Nat} (h:n≠0):0<Q0g n:=by unfold Q0g;rw [if_neg h];omega
theorem Y0p (n k:Nat) (h:n≠0):Q0g (n*2^k)=Q0g n+k:=by have h1:=U0c h;have h2:=Z0a n;have h3:=q0a h;have e:Q0g n+k=(Q0g n-1+k)+1:=(by omega);rw [e];apply z1o;rw [Nat.pow_add];exact Nat.mul_le_mul_right _ h1;rw [show Q0g n-1+k+1=Q0g n+k from by omega,Nat.pow_add];exact Nat.mul_lt_mul_of_pos_right h2 (Nat.pow_pos (by decide))
theorem x0b (v k:Nat) (h:v/2^k≠0):Q0g v=Q0g (v/2^k)+k:=by have h1:=U0c h;have h2:=Z0a (v/2^k);have h3:=q0a h;have e:Q0g (v/2^k)+k=(Q0g (v/2^k)-1+k)+1:=(by omega);rw [e];apply z1o;rw [Nat.pow_add];exact Nat.le_trans (Nat.mul_le_mul_right _ h1) (Nat.div_mul_le_self v (2^k));rw [show Q0g (v/2^k)-1+k+1=Q0g (v/2^k)+k from by omega,Nat.pow_add];exact(Nat.div_lt_iff_lt_mul (Nat.pow_pos (by decide))).1 h2
theorem K1h (n:Nat) (h:n<18446744073709551616):Q0g n<=64:=bitlen_le_iff.2 h
theorem z1n (n:Nat) (h:n<4294967296):Q0g n<=32:=bitlen_le_iff.2 h
theorem W1x (a x k:Nat) (ha:a<2^k) (hx:x≠0):Q0g (a+2^k*x)=k+Q0g x:=by have hp:0<2^k:=Nat.pow_pos (by decide);have e:(a+2^k*x)/2^k=x:=(by rw [Nat.add_mul_div_left _ _ hp,Nat.div_eq_of_lt ha,Nat.zero_add]);rw [x0b _ k (by rw [e];exact hx),e,Nat.add_comm]
def cmpI (a b:Int):Int:=if a<b then -1 else if a>b then 1 else 0
def cmpW (a b:Nat):Int:=cmpI (a:Int) (b:Int)
theorem G0i {a b:Int} (h:a<b):cmpI a b= -1:=by rw [cmpI,if_pos h]
theorem G0j {a b:Int} (h:b<a):cmpI a b=1:=by rw [cmpI,if_neg (by omega),if_pos h]
theorem K1a {a b:Int} (h:a=b):cmpI a b=0:=by rw [cmpI,if_neg (by omega),if_neg (by omega)]
theorem z1d (a b:Int):cmpI b a= -cmpI a b:=by unfold cmpI;by_cases h1:a<b;rw [if_pos h1,if_neg (by omega),if_pos (by omega)];rfl;by_cases h2:b<a;rw [if_pos h2,if_neg h1,if_pos (by omega)];rw [if_neg h2,if_neg (by omega),if_neg h1,if_neg (by omega)];rfl
theorem z1e (a b:Int):cmpI (-a) (-b)= -cmpI a b:=by rw [<-z1d];unfold cmpI;by_cases h1:b<a;rw [if_pos h1,if_pos (by omega)];rw [if_neg h1,if_neg (by omega)];by_cases h2:b>a;rw [if_pos h2,if_pos (by omega)];rw [if_neg h2,if_neg (by omega)]
theorem q1v {B n m:Nat} (hB:2<=B) (h:n<=m):(digs B n).length<=(digs B m).length:=by apply Y0n hB;have h2:=v1d (B:=B) (by omega) _ (k1e hB m);rw [Y1f hB] at h2;omega
theorem k0y {B:Nat} : ∀(l m:List Nat) (i:Nat),(∀x∈l,x<B)->l.length=m.length->i<l.length->
 (∀j,i<j->j<l.length->l.getD j 0=m.getD j 0)->l.getD i 0<m.getD i 0->val B l<val B m
 | [],_,_,_,_,h,_,_=>by simp at h
 | x::l,[],_,_,h,_,_,_=>by simp at h
 | x::l,y::m,0,hl,hlen,_,heq,hlt=>by
  have e:l=m:=List.ext_getElem (by simpa using hlen) fun j h1 h2=>by have:=heq (j+1) (by omega) (by simp;omega);simpa [List.getD_eq_getElem?_getD,h1,h2] using this
  subst e;simp only [val];have:x<y:=(by simpa using hlt);omega
 | x::l,y::m,i+1,hl,hlen,hi,heq,hlt=>by
  have ih:=k0y l m i (fun z hz=>hl z (List.mem_cons_of_mem _ hz)) (by simpa using hlen) (by simpa using hi)
   (fun j h1 h2=>by have:=heq (j+1) (by omega) (by simp;omega);simpa using this) (by simpa using hlt)
  have hx:=hl x List.mem_cons_self;simp only [val];have:B*(val B l+1)<=B*val B m:=Nat.mul_le_mul_left _ ih;rw [Nat.mul_add] at this;omega
theorem x1b (B:Nat): ∀(l:List Nat) (i x:Nat),i<l.length->val B (l.set i x)+B^i*l.getD i 0=val B l+B^i*x
 | [],i,x,h=>by simp at h
 | y::l,0,x,h=>by simp [val];omega
 | y::l,i+1,x,h=>by have ih:=x1b B l i x (by simpa using h);simp only [List.set_cons_succ,val,List.getD_cons_succ,Nat.pow_succ];have:B*(val B (l.set i x)+B^i*l.getD i 0)=B*(val B l+B^i*x):=(by rw [ih]);rw [Nat.mul_add,Nat.mul_add] at this;rw [Nat.mul_comm (B^i) B,Nat.mul_assoc,Nat.mul_assoc];omega
theorem G0p (B n:Nat):val B (List.replicate n 0)=0:=by
 induction n with
 | zero=>rfl
 | succ n ih=>rw [List.replicate_succ,val,ih];simp
theorem q0k (l:List UInt64) (i:Nat):(nW l).getD i 0=(l.getD i 0).toNat:=by simp only [nW,List.getD_eq_getElem?_getD,List.getElem?_map];cases l[i]?<;>rfl
theorem X1z (l:List UInt32) (i:Nat):(nD l).getD i 0=(l.getD i 0).toNat:=by simp only [nD,List.getD_eq_getElem?_getD,List.getElem?_map];cases l[i]?<;>rfl
theorem x0d (l:List UInt64) (i:Nat) (c:UInt64) (h:i<l.length):valW (l.set i c)+18446744073709551616^i*(l.getD i 0).toNat=valW l+18446744073709551616^i*c.toNat:=by have:=x1b 18446744073709551616 (nW l) i c.toNat (by simpa [nW] using h);rw [q0k] at this;have e:(nW l).set i c.toNat=nW (l.set i c):=(by simp [nW,List.map_set]);rw [e] at this;exact this
theorem v0b (l:List UInt32) (i:Nat) (c:UInt32) (h:i<l.length):valD (l.set i c)+4294967296^i*(l.getD i 0).toNat=valD l+4294967296^i*c.toNat:=by have:=x1b 4294967296 (nD l) i c.toNat (by simpa [nD] using h);rw [X1z] at this;have e:(nD l).set i c.toNat=nD (l.set i c):=(by simp [nD,List.map_set]);rw [e] at this;exact this
theorem V1f (n:Nat):valW (List.replicate n 0)=0:=by have:nW (List.replicate n 0)=List.replicate n 0:=(by simp [nW]);rw [valW,this,G0p]
theorem w0s (n:Nat):valD (List.replicate n 0)=0:=by have:nD (List.replicate n 0)=List.replicate n 0:=(by simp [nD]);rw [valD,this,G0p]
theorem J2u (l:List UInt64) (c:UInt64):valW (l++ [c])=valW l+18446744073709551616^l.length*c.toNat:=by rw [U0v];simp [valW,nW,val]
theorem v0a (l:List UInt32) (c:UInt32):valD (l++ [c])=valD l+4294967296^l.length*c.toNat:=by rw [j0s];simp [valD,nD,val]
theorem z0e {α:Type} (l:List α) (i:Nat) (d:α) (h:i<l.length):l.take (i+1)=l.take i++ [l.getD i d]:=by rw [List.take_succ_eq_append_getElem h,List.getD_eq_getElem?_getD,List.getElem?_eq_getElem h];rfl
theorem X0l (l:List UInt64) (i:Nat) (h:i<l.length):valW (l.take (i+1))=valW (l.take i)+18446744073709551616^i*(l.getD i 0).toNat:=by rw [z0e l i 0 h,J2u,List.length_take,Nat.min_eq_left (by omega)]
theorem K0u (l:List UInt32) (i:Nat) (h:i<l.length):valD (l.take (i+1))=valD (l.take i)+4294967296^i*(l.getD i 0).toNat:=by rw [z0e l i 0 h,v0a,List.length_take,Nat.min_eq_left (by omega)]
theorem J0e {n k:Nat} (h:n<18446744073709551616^k):(Q0q n).length<=k:=by simp only [Q0q,List.length_map];exact Y0n (by decide) k n h
theorem G0x {n k:Nat} (h:n<4294967296^k):(Q0c n).length<=k:=by simp only [Q0c,List.length_map];exact Y0n (by decide) k n h
theorem w0a (n:Nat):n<4294967296^(Q0c n).length:=by have:=z0a (Q0c n);rwa [Q0x] at this
theorem W0j {n m:Nat} (h:n<=m):(Q0q n).length<=(Q0q m).length:=by simp only [Q0q,List.length_map];exact q1v (by decide) h
theorem q0n {n m:Nat} (h:n<=m):(Q0c n).length<=(Q0c m).length:=by simp only [Q0c,List.length_map];exact q1v (by decide) h
theorem k1i {a b:List UInt64} (ha:cutW a=a) (hb:cutW b=b) (h:a.length≠b.length):cmpI a.length b.length=cmpW (valW a) (valW b):=by rw [<-Q0w] at ha hb;have m1:valW a<=valW b->a.length<=b.length:=fun h=>(by have:=W0j h;rwa [ha,hb] at this);have m2:valW b<=valW a->b.length<=a.length:=fun h=>(by have:=W0j h;rwa [ha,hb] at this);by_cases hl:a.length<b.length;rw [G0i (by omega),cmpW,G0i];have: ¬valW b<=valW a:=fun h=>(by have:=m2 h;omega);omega;rw [G0j (by omega),cmpW,G0j];have: ¬valW a<=valW b:=fun h=>(by have:=m1 h;omega);omega
theorem k1l {a b:Nat} (h:(Q0c a).length≠(Q0c b).length):cmpI (Q0c a).length (Q0c b).length=cmpW a b:=by have m1:a<=b->(Q0c a).length<=(Q0c b).length:=q0n;have m2:b<=a->(Q0c b).length<=(Q0c a).length:=q0n;by_cases hl:(Q0c a).length<(Q0c b).length;rw [G0i (by omega),cmpW,G0i];have: ¬b<=a:=fun h=>(by have:=m2 h;omega);omega;rw [G0j (by omega),cmpW,G0j];have: ¬a<=b:=fun h=>(by have:=m1 h;omega);omega
theorem V3e {a b:List UInt64} (hl:a.length=b.length) (i:Nat) (hi:i<a.length) (heq: ∀j,i<j->j<a.length->a.getD j 0=b.getD j 0) (hne:a.getD i 0≠b.getD i 0):
 cmpI (a.getD i 0).toNat (b.getD i 0).toNat=cmpW (valW a) (valW b):=by
 have hn:(a.getD i 0).toNat≠(b.getD i 0).toNat:=fun e=>hne (UInt64.toNat.inj e);have la:(nW a).length=a.length:=(by simp [nW]);have lb:(nW b).length=b.length:=(by simp [nW]);by_cases h:(a.getD i 0).toNat<(b.getD i 0).toNat;have:=k0y (nW a) (nW b) i (j2l a) (by omega) (by omega) (fun j h1 h2=>by rw [q0k,q0k,heq j h1 (by omega)]) (by rw [q0k,q0k];exact h);rw [G0i (by omega),cmpW,G0i];simp only [valW];omega;have:=k0y (nW b) (nW a) i (j2l b) (by omega) (by omega) (fun j h1 h2=>by rw [q0k,q0k,heq j h1 (by omega)]) (by rw [q0k,q0k];omega);rw [G0j (by omega),cmpW,G0j];simp only [valW];omega
theorem V1g {a b:List UInt32} (hl:a.length=b.length) (i:Nat) (hi:i<a.length) (heq: ∀j,i<j->j<a.length->a.getD j 0=b.getD j 0) (h:(a.getD i 0).toNat<(b.getD i 0).toNat):valD a<valD b:=by have la:(nD a).length=a.length:=(by simp [nD]);have lb:(nD b).length=b.length:=(by simp [nD]);exact k0y (nD a) (nD b) i (J3i a) (by omega) (by omega) (fun j h1 h2=>by rw [X1z,X1z,heq j h1 (by omega)]) (by rw [X1z,X1z];exact h)
theorem U0q {α:Type} {a b:List α} (d:α) (hl:a.length=b.length) (h: ∀j,j<a.length->a.getD j d=b.getD j d):a=b:=
 List.ext_getElem hl fun j h1 h2=>by have:=h j h1;simpa [List.getD_eq_getElem?_getD,h1,h2] using this
theorem K0n {α:Type} (l:List α) (i j:Nat) (x d:α):(l.set i x).getD j d=if i=j/\j<l.length then x else l.getD j d:=by simp only [List.getD_eq_getElem?_getD,List.getElem?_set];by_cases h:i=j;subst h;by_cases h2:i<l.length;simp [h2];simp [h2];simp [h]
theorem K0x {α:Type} (n j:Nat) (x:α):(List.replicate n x).getD j x=x:=by simp only [List.getD_eq_getElem?_getD,List.getElem?_replicate];split<;>rfl
theorem v0v {a b:Nat} (h:((a:Int) !=(b:Int))=true):a≠b:=by intro e;subst e;simp at h
theorem z0l {a b:Nat} (h:((a:Int) !=(b:Int))=false):a=b:=by have:(a:Int)=b:=(by simpa using h);omega
theorem H0q {a b:Nat} (h:((a:Int)==(b:Int))=true):a=b:=by have:(a:Int)=b:=(by simpa using h);omega
theorem j0m {a b:Nat} (h:((a:Int)==(b:Int))=false):a≠b:=by intro e;subst e;simp at h
theorem U0u {a b:Int} (h:(a !=b)=true):a≠b:=by intro e;subst e;simp at h
theorem G0o {a b:Int} (h:(a !=b)=false):a=b:=by simpa using h
theorem V1b {a b:Int} (h:(a==b)=true):a=b:=by simpa using h
theorem k1y {a b:Int} (h:(a==b)=false):a≠b:=by intro e;subst e;simp at h
end Go.Pv
end
