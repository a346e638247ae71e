/- Parts of the walk: N60, N63. -/
import Derived.Test.YtelmlebahoeikaaGreatDoorZBH
import Derived.Test.YtelmlebahoeikaaGreatDoorZBI
set_option linter.unusedVariables false
set_option linter.unusedSimpArgs false
section
/- Layer 11: known. -/
set_option linter.unusedVariables false
set_option linter.unusedSimpArgs false
set_option maxRecDepth 100000
namespace Go.Pv
open Go.Proofs
def kF : List (List Mn) := [[⟨⟨false, 0, [1]⟩, [1, 1]⟩], [⟨⟨false, 0, [1]⟩, [0, 0]⟩]]
def kFx : List Nm := [⟨false, 1, [1]⟩, ⟨false, 0, [3]⟩]
def kFb : List Ivl := [⟨default, ⟨false, 0, [1]⟩⟩, ⟨⟨false, 0, [1]⟩, ⟨false, 0, [1]⟩⟩]
theorem kJ_eq : (jacF kF).2 = 0 ∧ (jacF kF).1.length = 2 ∧ ((jacF kF).1.getD 0 []).length = 2 ∧ (((jacF kF).1.getD 0 []).getD 0 []).length = 1 ∧ ((((jacF kF).1.getD 0 []).getD 0 []).getD 0 default).ks = [0, 1] ∧ (((jacF kF).1.getD 1 []).getD 0 []).length = 0 ∧ 0 < ((jacF kF).1.getD 1 []).length := by decide +kernel
theorem kA_eq : atFd kF kFx = ([⟨false, 1, [3]⟩, ⟨false, 0, [1]⟩], 0) := by decide +kernel
theorem kR_eq : (rangeFd kF kFb 16).2 = 0 ∧ (rangeFd kF kFb 16).1.length = 2 ∧ hasI ((rangeFd kF kFb 16).1.getD 0 default) ⟨false, 0, [1]⟩ = true := by decide +kernel
theorem kF_right : rightF kF = true ∧ degF kF = 2 := by decide +kernel
theorem kF_w : wF kF := by unfold wF wP wMn wN wK; decide
theorem kFx_w : wNs kFx := by unfold wNs wN; decide
theorem kFb_w : wB kFb := by unfold wB wI wN; decide
set_option maxHeartbeats 4000000 in
theorem known11_c (st : Store) : PCalls Tryz.prog 15 [] st (fun r st' => r = .sc (.bool true) ∧ st' = st) := by
  refine pcalls_enter none Tryz.func15 rfl fun E => pwp_of_vc ?_
  simp -dsimp only [go_sem]
  refine (fieldJac_c kF _ kF_w).mono ?_
  rintro r st ⟨rfl, rfl⟩
  simp -dsimp only [go_sem]
  refine (fieldAt_c kF kFx _ kF_w kFx_w.1 kFx_w.2).mono ?_
  rintro r st ⟨rfl, rfl⟩
  simp -dsimp only [go_sem]
  refine (fieldRange_c kF kFb 16 _ kF_w kFb_w).mono ?_
  rintro r st ⟨rfl, rfl⟩
  obtain ⟨j1, j2, j3, j4, j5, j6, hne⟩ := kJ_eq
  obtain ⟨r1, r2, r3⟩ := kR_eq
  have a1 := kA_eq
  generalize jacF kF = Q at *
  generalize rangeFd kF kFb 16 = R at *
  rw [a1]
  have z0 : ((0 : Int) == 0) = true := rfl
  simp -dsimp only [go_sem, j1, r1, z0, List.append_eq, List.cons_append, List.nil_append]
  refine pwp_drawS mixed 145 [⟨0, 0, false, false⟩, ⟨1, 1, false, false⟩, ⟨2, 2, false, false⟩, ⟨3, 4, false, false⟩, ⟨4, 12, false, false⟩, ⟨5, 20, false, false⟩, ⟨6, 36, false, false⟩, ⟨7, 64, false, false⟩, ⟨8, 192, false, false⟩, ⟨9, 320, false, false⟩, ⟨10, 576, false, false⟩, ⟨11, 1024, false, false⟩, ⟨12, 3072, false, false⟩, ⟨13, 5120, false, false⟩, ⟨14, 9216, false, false⟩, ⟨15, 17408, false, false⟩, ⟨16, 32768, false, false⟩, ⟨17, 98304, false, false⟩, ⟨18, 163840, true, false⟩, ⟨19, 294912, false, false⟩, ⟨20, 557056, false, false⟩, ⟨21, 1081344, false, false⟩, ⟨22, 2129920, false, false⟩, ⟨23, 4194304, false, false⟩, ⟨24, 12582912, false, false⟩, ⟨25, 20971520, true, false⟩, ⟨26, 37748736, false, false⟩, ⟨27, 71303168, true, false⟩, ⟨28, 138412032, false, false⟩, ⟨29, 272629760, false, false⟩, ⟨30, 541065216, false, false⟩, ⟨31, 1077936128, false, false⟩, ⟨32, 2147483648, false, false⟩, ⟨33, 6442450944, false, false⟩, ⟨34, 10737418240, true, false⟩, ⟨35, 19327352832, false, false⟩, ⟨36, 36507222016, true, false⟩, ⟨37, 70866960384, false, false⟩, ⟨38, 139586437120, false, false⟩, ⟨39, 277025390592, true, false⟩, ⟨40, 551903297536, false, false⟩, ⟨41, 1101659111424, true, false⟩, ⟨42, 2201170739200, false, false⟩, ⟨43, 4400193994752, false, false⟩, ⟨44, 8798240505856, false, false⟩, ⟨45, 17592186044416, false, false⟩, ⟨46, 52776558133248, false, false⟩, ⟨47, 87960930222080, true, false⟩, ⟨48, 158329674399744, false, false⟩, ⟨49, 299067162755072, true, false⟩, ⟨50, 580542139465728, false, false⟩, ⟨51, 1143492092887040, false, false⟩, ⟨52, 2269391999729664, false, false⟩, ⟨53, 4521191813414912, false, false⟩, ⟨54, 9007199254740992, false, false⟩, ⟨55, 27021597764222976, false, false⟩, ⟨56, 45035996273704960, false, false⟩, ⟨57, 81064793292668928, false, false⟩, ⟨58, 153122387330596864, false, false⟩, ⟨59, 288230376151711744, false, false⟩, ⟨60, 864691128455135232, false, false⟩, ⟨61, 1441151880758558720, false, false⟩, ⟨62, 2594073385365405696, true, false⟩, ⟨63, 4899916394579099648, false, false⟩, ⟨64, 9511602413006487552, false, false⟩, ⟨65, 18734974449861263360, false, false⟩, ⟨66, 36893488147419103232, false, false⟩, ⟨67, 110680464442257309696, false, false⟩, ⟨68, 184467440737095516160, false, false⟩, ⟨69, 332041393326771929088, true, false⟩, ⟨70, 36893488147419103232, false, false⟩, ⟨71, 1807780919223536058368, false, true⟩, ⟨72, 2398076729582241710080, false, false⟩, ⟨73, 7083549724304467820544, false, false⟩, ⟨74, 9444732965739290427392, false, false⟩, ⟨75, 28334198897217871282176, false, false⟩, ⟨76, 47223664828696452136960, false, false⟩, ⟨77, 85002596691653613846528, false, false⟩, ⟨78, 160560460417567937265664, false, false⟩, ⟨79, 302231454903657293676544, false, false⟩, ⟨80, 906694364710971881029632, false, false⟩, ⟨81, 1511157274518286468382720, true, false⟩, ⟨82, 302231454903657293676544, true, false⟩, ⟨83, 7555786372591432341913600, false, true⟩, ⟨84, 9973638011820690691325952, false, false⟩, ⟨85, 29014219670751100192948224, false, false⟩, ⟨86, 38685626227668133590597632, false, false⟩, ⟨87, 116056878683004400771792896, false, true⟩, ⟨88, 193428131138340667952988160, false, false⟩, ⟨89, 464227514732017603087171584, false, false⟩, ⟨90, 618970019642690137449562112, false, false⟩, ⟨91, 1856910058928070412348686336, false, true⟩, ⟨92, 3094850098213450687247810560, false, false⟩, ⟨93, 5570730176784211237046059008, false, false⟩, ⟨94, 12379400392853802748991242240, false, false⟩, ⟨95, 19807040628566084398385987584, false, false⟩, ⟨96, 19807040628566084398385987584, false, false⟩, ⟨97, 138649284399962590788701913088, false, true⟩, ⟨98, 178263365657094759585473888256, false, false⟩, ⟨99, 633825300114114700748351602687, false, false⟩] (.step 0 [] (.step 1 [] (.step 2 [] (.step 3 [] (.step 4 [] (.step 5 [] (.step 6 [] (.step 7 [] (.step 8 [] (.step 9 [] (.step 10 [] (.step 11 [] (.step 12 [] (.step 13 [] (.step 14 [] (.step 15 [] (.step 16 [] (.step 17 [] (.step 18 [] (.step 19 [] (.step 20 [] (.step 21 [] (.step 22 [] (.step 23 [] (.step 24 [] (.step 25 [] (.step 26 [] (.step 27 [] (.step 28 [] (.step 29 [] (.step 30 [] (.step 31 [] (.step 32 [] (.step 33 [] (.step 34 [] (.step 35 [] (.step 36 [] (.step 37 [] (.step 38 [] (.step 39 [] (.step 40 [] (.step 41 [] (.step 42 [] (.step 43 [] (.step 44 [] (.step 45 [] (.step 46 [] (.step 47 [] (.step 48 [] (.step 49 [] (.step 50 [] (.step 51 [] (.step 52 [] (.step 53 [] (.step 54 [] (.step 55 [] (.step 56 [] (.step 57 [] (.step 58 [] (.step 59 [] (.step 60 [] (.step 61 [] (.step 62 [] (.step 63 [] (.step 64 [] (.step 65 [] (.step 66 [] (.step 67 [] (.step 68 [] (.step 69 [] (.step 70 [] (.step 71 [18, 25, 27, 34, 36, 39, 41, 47, 49, 62] (.step 72 [] (.step 73 [] (.step 74 [] (.step 75 [] (.step 76 [] (.step 77 [] (.step 78 [] (.step 79 [] (.step 80 [] (.step 81 [] (.step 82 [] (.step 83 [18, 25, 27, 34, 36, 39, 41, 47, 49, 62, 69] (.step 84 [] (.step 85 [] (.step 86 [] (.step 87 [18, 25, 27, 34, 36, 39, 41, 47, 49, 62, 69] (.step 88 [] (.step 89 [] (.step 90 [] (.step 91 [18, 25, 27, 34, 36, 39, 41, 47, 49, 62, 69, 81, 82] (.step 92 [] (.step 93 [] (.step 94 [] (.step 95 [] (.step 96 [] (.step 97 [18, 25, 27, 34, 36, 39, 41, 47, 49, 62, 69, 81, 82] (.step 98 [] (.step 99 [] (.done))))))))))))))))))))))))))))))))))))))))))))))))))))))))))))))))))))))))))))))))))))))))))))))))))))) (by decide +kernel) (by decide +kernel) (by simp) ?_
  have q1 := encJs_get Q.1 0 (by omega)
  have q2 := encJs_get Q.1 1 (by omega)
  have q3 := encFs_get (Q.1.getD 0 []) 0 (by omega)
  have q4 := encPs_get ((Q.1.getD 0 []).getD 0 []) 0 (by omega)
  have q5 : (encZ [0, 1]).getD 1 .junk = .sc (.int .i64 1) := rfl
  have q6 := encFs_get (Q.1.getD 1 []) 0 hne
  have q7 : (encNs [⟨false, 1, [3]⟩, ⟨false, 0, [1]⟩]).getD 0 .junk = .agg (encN ⟨false, 1, [3]⟩) := rfl
  have z2 : (((2 : Nat) : Int) == 2) = true := rfl
  have z1 : (((1 : Nat) : Int) == 1) = true := rfl
  have z3 : (((0 : Nat) : Int) == 0) = true := rfl
  have z4 : ((1 : Int) == 1) = true := rfl
  have z5 : ((2 : Int) == 2) = true := rfl
  simp -dsimp only [go_sem, OL_app, OL_app0, List.append_eq, List.cons_append, List.nil_append, j1, r1, z0, z1, z2, z3, z4, q1, q2, q3, q4, q5, q6, q7, j2, j3, j4, j5, j6]
  refine ⟨hne, ?_⟩
  refine (helpWords_c [3] [3] _ (by decide) (by decide)).mono ?_
  rintro r st ⟨rfl, rfl⟩
  have d1 : decide (([3] : List UInt64) = [3]) = true := rfl
  have hbox := encIs_get R.1 0 (by omega)
  simp -dsimp only [go_sem, OL_app, OL_app0, List.append_eq, List.cons_append, List.nil_append, z0, z1, z2, z3, z4, q1, q2, q3, q4, q5, q6, q7, j2, j3, j4, j5, j6, d1, r2, hbox, hne]
  have hwr : wI (R.1.getD 0 default) := wI_right (mem_hasI r3).1
  refine (ivHas_c (R.1.getD 0 default) ⟨false, 0, [1]⟩ _ hwr (by unfold wN; decide)).mono ?_
  rintro r st ⟨rfl, rfl⟩
  rw [r3]
  simp -dsimp only [go_sem, OL_app, OL_app0, List.append_eq, List.cons_append, List.nil_append, z0, z1, z2, z3, z4, z5, q1, q2, q3, q4, q5, q6, q7, j2, j3, j4, j5, j6, d1, r2, hbox, hne]
  refine (fieldRight_c kF _ kF_w).mono ?_
  rintro r st ⟨rfl, rfl⟩
  rw [kF_right.1]
  simp -dsimp only [go_sem, OL_app, OL_app0, List.append_eq, List.cons_append, List.nil_append, z0, z1, z2, z3, z4, z5, q1, q2, q3, q4, q5, q6, q7, j2, j3, j4, j5, j6, d1, r2, hbox, hne]
  refine (fieldDegree_c kF _ kF_w).mono ?_
  rintro r st ⟨rfl, rfl⟩
  rw [kF_right.2]
  simp -dsimp only [go_sem, OL_app, OL_app0, List.append_eq, List.cons_append, List.nil_append, z0, z1, z2, z3, z4, z5, q1, q2, q3, q4, q5, q6, q7, j2, j3, j4, j5, j6, d1, r2, hbox, hne]
  refine (fieldSame_c kF kF _ kF_w kF_w).mono ?_
  rintro r st ⟨rfl, rfl⟩
  rw [decide_eq_true (rfl : kF = kF)]
  simp -dsimp only [go_sem, OL_app, OL_app0, List.append_eq, List.cons_append, List.nil_append, z0, z1, z2, z3, z4, z5, q1, q2, q3, q4, q5, q6, q7, j2, j3, j4, j5, j6, d1, r2, hbox, hne]
end Go.Pv
end

section
/- Layer 11: FieldAny. -/
set_option linter.unusedVariables false
set_option linter.unusedSimpArgs false
set_option maxRecDepth 100000
namespace Go.Pv
open Go.Proofs
set_option maxHeartbeats 4000000 in
theorem fieldAny_c (f g : List (List Mn)) (x : List Nm) (b : List Ivl) (p : Int) (st : Store) (hf : wF f) (hg : wF g) (hx : wNs x) (hb : wB b) :
    PCalls Tryz.prog 3 [.sl .no (encFs f), .sl .no (encFs g), .sl .no (encNs x), .sl .no (encIs b), .sc (.int .i64 p)] st (fun r st' => r = .sc (.bool true) ∧ st' = st) := by
  have hxl := hx.1
  have hbl := hb.1
  refine pcalls_enter none Tryz.func3 rfl fun E => pwp_of_vc ?_
  simp -dsimp only [go_sem]
  refine (known11_c _).mono ?_
  rintro r st ⟨rfl, rfl⟩
  simp -dsimp only [go_sem]
  refine (light11_c f _ hf).mono ?_
  rintro r st ⟨⟨b1, rfl⟩, rfl⟩
  cases b1 with
  | false => simp -dsimp only [go_sem, Bool.not_false]
  | true =>
    simp -dsimp only [go_sem, Bool.not_true]
    refine (light11_c g _ hg).mono ?_
    rintro r st ⟨⟨b2, rfl⟩, rfl⟩
    cases b2 with
    | false => simp -dsimp only [go_sem, Bool.not_false]
    | true =>
      simp -dsimp only [go_sem, Bool.not_true]
      refine gkF (fun h1 => ?_) (fun h1 => ?_)
      · simp -dsimp only [go_sem, h1]
        refine ck (fun h2 => ?_) (fun h2 => ?_)
        · simp -dsimp only [go_sem]
        · simp -dsimp only [go_sem]
          refine pwp_loop_mask [true, true, true, true, true, false, false, false, false, false, false, true] 0 0
            (fun n s => ∃ i, n = x.length - i ∧ i ≤ x.length ∧ s = ⟨[.sl .no (encFs f), .sl .no (encFs g), .sl .no (encNs x), .sl .no (encIs b), .sc (.int .i64 p), .junk, .junk, .junk, .junk, .junk, .junk, .sc (.int .i64 (i : Nat))] ++ List.replicate 64 .junk, [], [], st⟩) x.length ?_ ?_
          · simp -dsimp only [go_sem]
            exact ⟨0, by omega, by omega, rfl⟩
          · rintro n s ⟨i, rfl, hi, rfl⟩
            simp -dsimp only [go_sem]
            refine ck (fun h3 => ?_) (fun h3 => ?_)
            · have hlt : i < x.length := by have := of_decide_eq_true h3; omega
              have e1 := encNs_get x i hlt
              have e3 := succW i (by omega)
              simp -dsimp only [go_sem, e1]
              refine ⟨by omega, ck (fun h4 => ?_) (fun h4 => ?_)⟩
              · simp -dsimp only [go_sem]
              · simp -dsimp only [go_sem, e3]
                exact ⟨x.length - (i + 1), by omega, i + 1, rfl, by omega, rfl⟩
            · simp -dsimp only [go_sem]
              refine pwp_of_vc ?_
              simp -dsimp only [go_sem]
              refine pwp_loop_mask [true, true, true, true, true, false, false, false, false, false, false, false, true] 0 0
                (fun n s => ∃ i, n = b.length - i ∧ i ≤ b.length ∧ s = ⟨[.sl .no (encFs f), .sl .no (encFs g), .sl .no (encNs x), .sl .no (encIs b), .sc (.int .i64 p), .junk, .junk, .junk, .junk, .junk, .junk, .junk, .sc (.int .i64 (i : Nat))] ++ List.replicate 63 .junk, [], [], st⟩) b.length ?_ ?_
              · simp -dsimp only [go_sem]
                exact ⟨0, by omega, by omega, rfl⟩
              · rintro n s ⟨j, rfl, hj, rfl⟩
                simp -dsimp only [go_sem]
                refine ck (fun h5 => ?_) (fun h5 => ?_)
                · have hlt : j < b.length := by have := of_decide_eq_true h5; omega
                  have e1 := encIs_get b j hlt
                  have e3 := succW j (by omega)
                  simp -dsimp only [go_sem, e1]
                  refine ⟨by omega, gkF (fun h6 => ?_) (fun h6 => ?_)⟩
                  · simp -dsimp only [go_sem, h6, e1]
                    refine ⟨by omega, ck (fun h7 => ?_) (fun h7 => ?_)⟩
                    · simp -dsimp only [go_sem]
                    · simp -dsimp only [go_sem, e3]
                      exact ⟨b.length - (j + 1), by omega, j + 1, rfl, by omega, rfl⟩
                  · simp -dsimp only [go_sem, h6]
                · simp -dsimp only [go_sem]
                  refine pwp_of_vc ?_
                  simp -dsimp only [go_sem]
                  refine (told11_c f g x b p _ hf hg hx hb).mono ?_
                  rintro r st ⟨rfl, rfl⟩
                  simp -dsimp only [go_sem]
      · simp -dsimp only [go_sem, h1]
end Go.Pv
end
