/- The functions' texts, laid out by a program for this claim. -/
import Derived.Test.YtjfmapoangigoaaL0
import Derived.Test.YtjfmapoangigoaaProg
namespace Go.Proofs.Ytjfmapoangigoaa.F
open Go Go.Proofs.Ytjfmapoangigoaa.E
set_option linter.unusedVariables false
set_option maxRecDepth 100000
/-! 4 tocsin/tocsinlaw16.PortKeeps -/
noncomputable abbrev f4 := Try.f4
noncomputable def c4 : Code := bodyOf f4
theorem ok4 : codeOk p c4 = true := by kernel_rfl
noncomputable def c4_1111010 : Code := codeAt [1, 1, 1, 1, 0, 1, 0, 0] c4
theorem ok4_1111010 : codeOk p c4_1111010 = true := by kernel_rfl
noncomputable def c4_111111010 : Code := codeAt [1, 1, 1, 1, 1, 1, 0, 1, 0, 0] c4
theorem ok4_111111010 : codeOk p c4_111111010 = true := by kernel_rfl
noncomputable def c4_11111101001001010 : Code := codeAt [1, 1, 1, 1, 1, 1, 0, 1, 0, 0, 1, 0, 0, 1, 0, 1, 0, 0] c4
theorem ok4_11111101001001010 : codeOk p c4_11111101001001010 = true := by kernel_rfl
noncomputable def c4_111111010010011010 : Code := codeAt [1, 1, 1, 1, 1, 1, 0, 1, 0, 0, 1, 0, 0, 1, 1, 0, 1, 0, 0] c4
theorem ok4_111111010010011010 : codeOk p c4_111111010010011010 = true := by kernel_rfl
theorem eq4 (W : World) (x0 x1 : Value) (S : St) : cw W 4 #[x0, x1] S =
 bindS (aCall p (cw W) S (.func (.func 7) #[] #[]) #[]) fun v1 S2 =>
 bindV (aUn p .not v1) fun v3 =>
 condK v3
  (
   some ((.bool false), S2)
  )
  (
   bindV (aBin p .rem 5 x0 (.int .u8 64)) fun v4 =>
   bindS (aConv p W S2 5 3 v4) fun v5 S6 =>
   bindV (aBin p .add 3 (.int .i64 1) v5) fun v7 =>
   bindS (aCall p (cw W) S6 (.func (.func 8) #[] #[]) #[v7]) fun v8 S9 =>
   bindV (still p (Instr.extract v8 0)) fun v10 =>
   bindV (still p (Instr.extract v8 1)) fun v11 =>
   bindV (aLen p W S9 #[22] #[x1]) fun v12 =>
   bindO (la W c4_1111010 ⟨#[x0, x1, undef, undef, (.bool false), v10, v11, (.slice none 0 0), (.slice none 0 0), undef, undef, undef, undef, undef, undef, undef, undef, undef, undef, undef, undef, v1, v3, v8, x0, v4, v5, v7, v8, v10, v11, x1, v12, (.int .i64 0), undef, undef, undef, undef, undef, undef, undef, undef, undef, undef, undef, undef, undef, undef, undef, undef, undef, undef, undef, undef, undef, undef, undef, undef, undef, undef, undef, undef, undef, undef, undef, undef, undef, undef, undef, undef, undef, undef, undef, undef, undef, undef, undef, undef, undef, undef, undef, undef, undef, undef, undef, undef, undef, undef, undef, undef, undef, undef, undef, undef, undef, undef, undef, undef, undef, undef, undef, undef, undef, undef, undef, undef, undef, undef, undef, undef, undef, undef, undef, undef, undef, undef, undef, undef, undef, undef], []⟩ S9) (kc W c4 [1, 1, 1, 1, 0, 1, 0] f4)
  )
  := (fn_eq Try.func4 rfl ok4 _ _).trans (by kernel_rfl)
theorem r4_1111010 (W : World) (y0 y1 y2 y3 y4 y5 y6 y7 y8 y9 y10 y11 y12 y13 y14 y15 y16 y17 y18 y19 y20 y21 y22 y23 y24 y25 y26 y27 y28 y29 y30 y31 y32 y33 y34 y35 y36 y37 y38 y39 y40 y41 y42 y43 y44 y45 y46 y47 y48 y49 y50 y51 y52 y53 y54 y55 y56 y57 y58 y59 y60 y61 y62 y63 y64 y65 y66 y67 y68 y69 y70 y71 y72 y73 y74 y75 y76 y77 y78 y79 y80 y81 y82 y83 y84 y85 y86 y87 y88 y89 y90 y91 y92 y93 y94 y95 y96 y97 y98 y99 y100 y101 y102 y103 y104 y105 y106 y107 y108 y109 y110 y111 y112 y113 y114 y115 y116 y117 y118 y119 : Value) (S : St) : la W c4_1111010 ⟨#[y0, y1, y2, y3, y4, y5, y6, y7, y8, y9, y10, y11, y12, y13, y14, y15, y16, y17, y18, y19, y20, y21, y22, y23, y24, y25, y26, y27, y28, y29, y30, y31, y32, y33, y34, y35, y36, y37, y38, y39, y40, y41, y42, y43, y44, y45, y46, y47, y48, y49, y50, y51, y52, y53, y54, y55, y56, y57, y58, y59, y60, y61, y62, y63, y64, y65, y66, y67, y68, y69, y70, y71, y72, y73, y74, y75, y76, y77, y78, y79, y80, y81, y82, y83, y84, y85, y86, y87, y88, y89, y90, y91, y92, y93, y94, y95, y96, y97, y98, y99, y100, y101, y102, y103, y104, y105, y106, y107, y108, y109, y110, y111, y112, y113, y114, y115, y116, y117, y118, y119], []⟩ S =
 bindV (aBin p .lss 3 y33 y32) fun v13 =>
 condK v13
  (
   bindV (aIndexAddr p 22 y31 y33) fun v14 =>
   bindV (aLoad p W S 32 v14) fun v15 =>
   bindS (aAlloc p S 32) fun v16 S17 =>
   bindT (aStore p S17 32 v16 v15) fun S18 =>
   bindV (aFieldAddr p 32 v16 0) fun v19 =>
   bindV (aLoad p W S18 3 v19) fun v20 =>
   bindV (aBin p .eql 3 v20 (.int .i64 1)) fun v21 =>
   condK v21
    (
     bindV (aBin p .rem 3 y33 (.int .i64 2)) fun v22 =>
     bindV (aBin p .add 3 (.int .i64 2) v22) fun v23 =>
     bindS (aCall p (cw W) S18 (.func (.func 19) #[] #[]) #[v23, y33]) fun v24 S25 =>
     bindS (aAlloc p S25 30) fun v26 S27 =>
     bindT (aStore p S27 30 v26 v24) fun S28 =>
     bindV (aLoad p W S28 30 v26) fun v29 =>
     bindS (aCall p (cw W) S28 (.func (.func 11) #[] #[]) #[y5, v29]) fun v30 S31 =>
     bindV (aBin p .eql 25 v30 (.int .i64 0)) fun v32 =>
     condK v32
      (
       bindV (aLoad p W S31 30 v26) fun v33 =>
       bindS (aBuildSlice p S31 28 1 #[(0, v33)]) fun v34 S35 =>
       bindS (aBuiltin p W S35 .append #[28, 28] #[y7, v34]) fun v36 S37 =>
       bindV (aLen p W S37 #[28] #[y8]) fun v38 =>
       bindS (aCall p (cw W) S37 (.func (.func 17) #[] #[]) #[y5]) fun v39 S40 =>
       bindV (aBin p .add 3 v38 v39) fun v41 =>
       bindV (aLen p W S40 #[28] #[v36]) fun v42 =>
       bindV (aBin p .neq 3 v41 v42) fun v43 =>
       condK v43
        (
         some (.ret, ⟨#[y0, y1, y2, y3, (.bool false), y5, y6, v36, y8, y33, v16, v26, junk, junk, y14, y15, y16, y17, y18, y19, y20, y21, y22, y23, y24, y25, y26, y27, y28, y29, y30, y31, y32, y33, v13, y33, v14, v15, v19, v20, v21, y33, v22, v23, y33, v24, y5, v29, v30, v32, y7, v33, v34, v36, junk, junk, junk, junk, junk, junk, junk, junk, junk, junk, y8, v38, y5, v39, v41, v36, v42, v43, junk, y73, y74, y75, y76, y77, y78, y79, y80, y81, y82, y83, y84, y85, y86, y87, y88, y89, y90, y91, y92, y93, y94, y95, y96, y97, y98, y99, y100, y101, y102, y103, y104, y105, y106, y107, y108, y109, y110, y111, y112, y113, y114, y115, y116, y117, y118, y119], []⟩, S40)
        )
        (
         bindV (aBin p .add 3 y33 (.int .i64 1)) fun v44 =>
         la W c4_1111010 ⟨#[y0, y1, y2, y3, junk, y5, y6, v36, y8, y33, v16, v26, junk, junk, y14, y15, y16, y17, y18, y19, y20, y21, y22, y23, y24, y25, y26, y27, y28, y29, y30, y31, y32, v44, v13, y33, v14, v15, v19, v20, v21, y33, v22, v23, y33, v24, y5, v29, v30, v32, y7, v33, v34, v36, junk, junk, junk, junk, junk, junk, junk, junk, junk, junk, y8, v38, y5, v39, v41, v36, v42, v43, v44, y73, y74, y75, y76, y77, y78, y79, y80, y81, y82, y83, y84, y85, y86, y87, y88, y89, y90, y91, y92, y93, y94, y95, y96, y97, y98, y99, y100, y101, y102, y103, y104, y105, y106, y107, y108, y109, y110, y111, y112, y113, y114, y115, y116, y117, y118, y119], []⟩ S40
        )
      )
      (
       bindV (aLen p W S31 #[28] #[y8]) fun v45 =>
       bindS (aCall p (cw W) S31 (.func (.func 17) #[] #[]) #[y5]) fun v46 S47 =>
       bindV (aBin p .add 3 v45 v46) fun v48 =>
       bindV (aLen p W S47 #[28] #[y7]) fun v49 =>
       bindV (aBin p .neq 3 v48 v49) fun v50 =>
       condK v50
        (
         some (.ret, ⟨#[y0, y1, y2, y3, (.bool false), y5, y6, y7, y8, y33, v16, v26, junk, junk, y14, y15, y16, y17, y18, y19, y20, y21, y22, y23, y24, y25, y26, y27, y28, y29, y30, y31, y32, y33, v13, y33, v14, v15, v19, v20, v21, y33, v22, v23, y33, v24, y5, v29, v30, v32, junk, junk, junk, junk, junk, junk, junk, junk, junk, junk, junk, junk, junk, junk, y8, v45, y5, v46, v48, y7, v49, v50, junk, y73, y74, y75, y76, y77, y78, y79, y80, y81, y82, y83, y84, y85, y86, y87, y88, y89, y90, y91, y92, y93, y94, y95, y96, y97, y98, y99, y100, y101, y102, y103, y104, y105, y106, y107, y108, y109, y110, y111, y112, y113, y114, y115, y116, y117, y118, y119], []⟩, S47)
        )
        (
         bindV (aBin p .add 3 y33 (.int .i64 1)) fun v51 =>
         la W c4_1111010 ⟨#[y0, y1, y2, y3, junk, y5, y6, y7, y8, y33, v16, v26, junk, junk, y14, y15, y16, y17, y18, y19, y20, y21, y22, y23, y24, y25, y26, y27, y28, y29, y30, y31, y32, v51, v13, y33, v14, v15, v19, v20, v21, y33, v22, v23, y33, v24, y5, v29, v30, v32, junk, junk, junk, junk, junk, junk, junk, junk, junk, junk, junk, junk, junk, junk, y8, v45, y5, v46, v48, y7, v49, v50, v51, y73, y74, y75, y76, y77, y78, y79, y80, y81, y82, y83, y84, y85, y86, y87, y88, y89, y90, y91, y92, y93, y94, y95, y96, y97, y98, y99, y100, y101, y102, y103, y104, y105, y106, y107, y108, y109, y110, y111, y112, y113, y114, y115, y116, y117, y118, y119], []⟩ S47
        )
      )
    )
    (
     bindS (aCall p (cw W) S18 (.func (.func 13) #[] #[]) #[y5]) fun v52 S53 =>
     bindV (still p (Instr.extract v52 0)) fun v54 =>
     bindV (still p (Instr.extract v52 1)) fun v55 =>
     bindS (aAlloc p S53 30) fun v56 S57 =>
     bindT (aStore p S57 30 v56 v54) fun S58 =>
     condK v55
      (
       bindV (aLoad p W S58 30 v56) fun v59 =>
       bindS (aBuildSlice p S58 28 1 #[(0, v59)]) fun v60 S61 =>
       bindS (aBuiltin p W S61 .append #[28, 28] #[y8, v60]) fun v62 S63 =>
       bindV (aLen p W S63 #[28] #[v62]) fun v64 =>
       bindS (aCall p (cw W) S63 (.func (.func 17) #[] #[]) #[y5]) fun v65 S66 =>
       bindV (aBin p .add 3 v64 v65) fun v67 =>
       bindV (aLen p W S66 #[28] #[y7]) fun v68 =>
       bindV (aBin p .neq 3 v67 v68) fun v69 =>
       condK v69
        (
         some (.ret, ⟨#[y0, y1, y2, y3, (.bool false), y5, y6, y7, v62, y33, v16, junk, v56, v55, y14, y15, y16, y17, y18, y19, y20, y21, y22, y23, y24, y25, y26, y27, y28, y29, y30, y31, y32, y33, v13, y33, v14, v15, v19, v20, v21, junk, junk, junk, junk, junk, junk, junk, junk, junk, junk, junk, junk, junk, v52, y5, v52, v54, v55, v55, y8, v59, v60, v62, v62, v64, y5, v65, v67, y7, v68, v69, junk, y73, y74, y75, y76, y77, y78, y79, y80, y81, y82, y83, y84, y85, y86, y87, y88, y89, y90, y91, y92, y93, y94, y95, y96, y97, y98, y99, y100, y101, y102, y103, y104, y105, y106, y107, y108, y109, y110, y111, y112, y113, y114, y115, y116, y117, y118, y119], []⟩, S66)
        )
        (
         bindV (aBin p .add 3 y33 (.int .i64 1)) fun v70 =>
         la W c4_1111010 ⟨#[y0, y1, y2, y3, junk, y5, y6, y7, v62, y33, v16, junk, v56, v55, y14, y15, y16, y17, y18, y19, y20, y21, y22, y23, y24, y25, y26, y27, y28, y29, y30, y31, y32, v70, v13, y33, v14, v15, v19, v20, v21, junk, junk, junk, junk, junk, junk, junk, junk, junk, junk, junk, junk, junk, v52, y5, v52, v54, v55, v55, y8, v59, v60, v62, v62, v64, y5, v65, v67, y7, v68, v69, v70, y73, y74, y75, y76, y77, y78, y79, y80, y81, y82, y83, y84, y85, y86, y87, y88, y89, y90, y91, y92, y93, y94, y95, y96, y97, y98, y99, y100, y101, y102, y103, y104, y105, y106, y107, y108, y109, y110, y111, y112, y113, y114, y115, y116, y117, y118, y119], []⟩ S66
        )
      )
      (
       bindV (aLen p W S58 #[28] #[y8]) fun v71 =>
       bindS (aCall p (cw W) S58 (.func (.func 17) #[] #[]) #[y5]) fun v72 S73 =>
       bindV (aBin p .add 3 v71 v72) fun v74 =>
       bindV (aLen p W S73 #[28] #[y7]) fun v75 =>
       bindV (aBin p .neq 3 v74 v75) fun v76 =>
       condK v76
        (
         some (.ret, ⟨#[y0, y1, y2, y3, (.bool false), y5, y6, y7, y8, y33, v16, junk, v56, v55, y14, y15, y16, y17, y18, y19, y20, y21, y22, y23, y24, y25, y26, y27, y28, y29, y30, y31, y32, y33, v13, y33, v14, v15, v19, v20, v21, junk, junk, junk, junk, junk, junk, junk, junk, junk, junk, junk, junk, junk, v52, y5, v52, v54, v55, v55, junk, junk, junk, junk, y8, v71, y5, v72, v74, y7, v75, v76, junk, y73, y74, y75, y76, y77, y78, y79, y80, y81, y82, y83, y84, y85, y86, y87, y88, y89, y90, y91, y92, y93, y94, y95, y96, y97, y98, y99, y100, y101, y102, y103, y104, y105, y106, y107, y108, y109, y110, y111, y112, y113, y114, y115, y116, y117, y118, y119], []⟩, S73)
        )
        (
         bindV (aBin p .add 3 y33 (.int .i64 1)) fun v77 =>
         la W c4_1111010 ⟨#[y0, y1, y2, y3, junk, y5, y6, y7, y8, y33, v16, junk, v56, v55, y14, y15, y16, y17, y18, y19, y20, y21, y22, y23, y24, y25, y26, y27, y28, y29, y30, y31, y32, v77, v13, y33, v14, v15, v19, v20, v21, junk, junk, junk, junk, junk, junk, junk, junk, junk, junk, junk, junk, junk, v52, y5, v52, v54, v55, v55, junk, junk, junk, junk, y8, v71, y5, v72, v74, y7, v75, v76, v77, y73, y74, y75, y76, y77, y78, y79, y80, y81, y82, y83, y84, y85, y86, y87, y88, y89, y90, y91, y92, y93, y94, y95, y96, y97, y98, y99, y100, y101, y102, y103, y104, y105, y106, y107, y108, y109, y110, y111, y112, y113, y114, y115, y116, y117, y118, y119], []⟩ S73
        )
      )
    )
  )
  (
   some (.exit 0, ⟨#[y0, y1, y2, y3, junk, y5, y6, y7, y8, junk, junk, junk, junk, junk, y14, y15, y16, y17, y18, y19, y20, y21, y22, y23, y24, y25, y26, y27, y28, y29, y30, y31, y32, y33, v13, junk, junk, junk, junk, junk, junk, junk, junk, junk, junk, junk, junk, junk, junk, junk, junk, junk, junk, junk, junk, junk, junk, junk, junk, junk, junk, junk, junk, junk, junk, junk, junk, junk, junk, junk, junk, junk, junk, y73, y74, y75, y76, y77, y78, y79, y80, y81, y82, y83, y84, y85, y86, y87, y88, y89, y90, y91, y92, y93, y94, y95, y96, y97, y98, y99, y100, y101, y102, y103, y104, y105, y106, y107, y108, y109, y110, y111, y112, y113, y114, y115, y116, y117, y118, y119], []⟩, S)
  )
  := (round_eq ok4_1111010 _ _).trans (by kernel_rfl)
theorem r4_111111010 (W : World) (y0 y1 y2 y3 y4 y5 y6 y7 y8 y9 y10 y11 y12 y13 y14 y15 y16 y17 y18 y19 y20 y21 y22 y23 y24 y25 y26 y27 y28 y29 y30 y31 y32 y33 y34 y35 y36 y37 y38 y39 y40 y41 y42 y43 y44 y45 y46 y47 y48 y49 y50 y51 y52 y53 y54 y55 y56 y57 y58 y59 y60 y61 y62 y63 y64 y65 y66 y67 y68 y69 y70 y71 y72 y73 y74 y75 y76 y77 y78 y79 y80 y81 y82 y83 y84 y85 y86 y87 y88 y89 y90 y91 y92 y93 y94 y95 y96 y97 y98 y99 y100 y101 y102 y103 y104 y105 y106 y107 y108 y109 y110 y111 y112 y113 y114 y115 y116 y117 y118 y119 : Value) (S : St) : la W c4_111111010 ⟨#[y0, y1, y2, y3, y4, y5, y6, y7, y8, y9, y10, y11, y12, y13, y14, y15, y16, y17, y18, y19, y20, y21, y22, y23, y24, y25, y26, y27, y28, y29, y30, y31, y32, y33, y34, y35, y36, y37, y38, y39, y40, y41, y42, y43, y44, y45, y46, y47, y48, y49, y50, y51, y52, y53, y54, y55, y56, y57, y58, y59, y60, y61, y62, y63, y64, y65, y66, y67, y68, y69, y70, y71, y72, y73, y74, y75, y76, y77, y78, y79, y80, y81, y82, y83, y84, y85, y86, y87, y88, y89, y90, y91, y92, y93, y94, y95, y96, y97, y98, y99, y100, y101, y102, y103, y104, y105, y106, y107, y108, y109, y110, y111, y112, y113, y114, y115, y116, y117, y118, y119], []⟩ S =
 bindV (aBin p .leq 3 y14 (.int .i64 3)) fun v78 =>
 condK v78
  (
   bindV (aLen p W S #[28] #[y7]) fun v79 =>
   bindO (la W c4_11111101001001010 ⟨#[y0, y1, y2, y3, junk, y5, y6, y7, y8, y9, y10, y11, y12, y13, y14, (.slice none 0 0), (.slice none 0 0), y17, junk, y19, junk, y21, y22, y23, y24, y25, y26, y27, y28, y29, y30, y31, y32, y33, y34, y35, y36, y37, y38, y39, y40, y41, y42, y43, y44, y45, y46, y47, y48, y49, y50, y51, y52, y53, y54, y55, y56, y57, y58, y59, y60, y61, y62, y63, y64, y65, y66, y67, y68, y69, y70, y71, y72, y73, y74, y75, y76, y14, v78, junk, junk, y7, v79, (.int .i64 0), junk, junk, junk, junk, junk, junk, junk, junk, junk, junk, junk, junk, junk, junk, junk, junk, junk, junk, junk, junk, junk, junk, junk, junk, junk, junk, junk, junk, junk, junk, junk, y115, y116, y117, y118, y119], []⟩ S) (rk W c4_111111010 [1, 0, 0, 1, 0, 1, 0])
  )
  (
   some (.exit 2, ⟨#[y0, y1, y2, y3, junk, y5, y6, y7, y8, y9, y10, y11, y12, y13, y14, junk, junk, y17, junk, y19, junk, y21, y22, y23, y24, y25, y26, y27, y28, y29, y30, y31, y32, y33, y34, y35, y36, y37, y38, y39, y40, y41, y42, y43, y44, y45, y46, y47, y48, y49, y50, y51, y52, y53, y54, y55, y56, y57, y58, y59, y60, y61, y62, y63, y64, y65, y66, y67, y68, y69, y70, y71, y72, y73, y74, y75, y76, y14, v78, junk, junk, junk, junk, junk, junk, junk, junk, junk, junk, junk, junk, junk, junk, junk, junk, junk, junk, junk, junk, junk, junk, junk, junk, junk, junk, junk, junk, junk, junk, junk, junk, junk, junk, junk, junk, y115, y116, y117, y118, y119], []⟩, S)
  )
  := (round_eq ok4_111111010 _ _).trans (by kernel_rfl)
theorem r4_11111101001001010 (W : World) (y0 y1 y2 y3 y4 y5 y6 y7 y8 y9 y10 y11 y12 y13 y14 y15 y16 y17 y18 y19 y20 y21 y22 y23 y24 y25 y26 y27 y28 y29 y30 y31 y32 y33 y34 y35 y36 y37 y38 y39 y40 y41 y42 y43 y44 y45 y46 y47 y48 y49 y50 y51 y52 y53 y54 y55 y56 y57 y58 y59 y60 y61 y62 y63 y64 y65 y66 y67 y68 y69 y70 y71 y72 y73 y74 y75 y76 y77 y78 y79 y80 y81 y82 y83 y84 y85 y86 y87 y88 y89 y90 y91 y92 y93 y94 y95 y96 y97 y98 y99 y100 y101 y102 y103 y104 y105 y106 y107 y108 y109 y110 y111 y112 y113 y114 y115 y116 y117 y118 y119 : Value) (S : St) : la W c4_11111101001001010 ⟨#[y0, y1, y2, y3, y4, y5, y6, y7, y8, y9, y10, y11, y12, y13, y14, y15, y16, y17, y18, y19, y20, y21, y22, y23, y24, y25, y26, y27, y28, y29, y30, y31, y32, y33, y34, y35, y36, y37, y38, y39, y40, y41, y42, y43, y44, y45, y46, y47, y48, y49, y50, y51, y52, y53, y54, y55, y56, y57, y58, y59, y60, y61, y62, y63, y64, y65, y66, y67, y68, y69, y70, y71, y72, y73, y74, y75, y76, y77, y78, y79, y80, y81, y82, y83, y84, y85, y86, y87, y88, y89, y90, y91, y92, y93, y94, y95, y96, y97, y98, y99, y100, y101, y102, y103, y104, y105, y106, y107, y108, y109, y110, y111, y112, y113, y114, y115, y116, y117, y118, y119], []⟩ S =
 bindV (aBin p .lss 3 y83 y82) fun v80 =>
 condK v80
  (
   bindV (aIndexAddr p 28 y81 y83) fun v81 =>
   bindV (aLoad p W S 30 v81) fun v82 =>
   bindS (aAlloc p S 30) fun v83 S84 =>
   bindT (aStore p S84 30 v83 v82) fun S85 =>
   bindV (aFieldAddr p 30 v83 0) fun v86 =>
   bindV (aLoad p W S85 3 v86) fun v87 =>
   bindV (aBin p .eql 3 v87 y14) fun v88 =>
   condK v88
    (
     bindV (aLoad p W S85 30 v83) fun v89 =>
     bindS (aBuildSlice p S85 28 1 #[(0, v89)]) fun v90 S91 =>
     bindS (aBuiltin p W S91 .append #[28, 28] #[y15, v90]) fun v92 S93 =>
     bindV (aBin p .add 3 y83 (.int .i64 1)) fun v94 =>
     la W c4_11111101001001010 ⟨#[y0, y1, y2, y3, y4, y5, y6, y7, y8, y9, y10, y11, y12, y13, y14, v92, y16, y17, v83, y19, y20, y21, y22, y23, y24, y25, y26, y27, y28, y29, y30, y31, y32, y33, y34, y35, y36, y37, y38, y39, y40, y41, y42, y43, y44, y45, y46, y47, y48, y49, y50, y51, y52, y53, y54, y55, y56, y57, y58, y59, y60, y61, y62, y63, y64, y65, y66, y67, y68, y69, y70, y71, y72, y73, y74, y75, y76, y77, y78, y79, y80, y81, y82, v94, v80, v81, v82, v86, v87, y14, v88, y15, v89, v90, v92, v94, y96, y97, y98, y99, y100, y101, y102, y103, y104, y105, y106, y107, y108, y109, y110, y111, y112, y113, y114, y115, y116, y117, y118, y119], []⟩ S93
    )
    (
     bindV (aBin p .add 3 y83 (.int .i64 1)) fun v95 =>
     la W c4_11111101001001010 ⟨#[y0, y1, y2, y3, y4, y5, y6, y7, y8, y9, y10, y11, y12, y13, y14, y15, y16, y17, v83, y19, y20, y21, y22, y23, y24, y25, y26, y27, y28, y29, y30, y31, y32, y33, y34, y35, y36, y37, y38, y39, y40, y41, y42, y43, y44, y45, y46, y47, y48, y49, y50, y51, y52, y53, y54, y55, y56, y57, y58, y59, y60, y61, y62, y63, y64, y65, y66, y67, y68, y69, y70, y71, y72, y73, y74, y75, y76, y77, y78, y79, y80, y81, y82, v95, v80, v81, v82, v86, v87, y14, v88, junk, junk, junk, junk, v95, y96, y97, y98, y99, y100, y101, y102, y103, y104, y105, y106, y107, y108, y109, y110, y111, y112, y113, y114, y115, y116, y117, y118, y119], []⟩ S85
    )
  )
  (
   some (.exit 4, ⟨#[y0, y1, y2, y3, y4, y5, y6, y7, y8, y9, y10, y11, y12, y13, y14, y15, y16, y17, junk, y19, y20, y21, y22, y23, y24, y25, y26, y27, y28, y29, y30, y31, y32, y33, y34, y35, y36, y37, y38, y39, y40, y41, y42, y43, y44, y45, y46, y47, y48, y49, y50, y51, y52, y53, y54, y55, y56, y57, y58, y59, y60, y61, y62, y63, y64, y65, y66, y67, y68, y69, y70, y71, y72, y73, y74, y75, y76, y77, y78, y79, y80, y81, y82, y83, v80, junk, junk, junk, junk, junk, junk, junk, junk, junk, junk, junk, y96, y97, y98, y99, y100, y101, y102, y103, y104, y105, y106, y107, y108, y109, y110, y111, y112, y113, y114, y115, y116, y117, y118, y119], []⟩, S)
  )
  := (round_eq ok4_11111101001001010 _ _).trans (by kernel_rfl)
theorem r4_111111010010011010 (W : World) (y0 y1 y2 y3 y4 y5 y6 y7 y8 y9 y10 y11 y12 y13 y14 y15 y16 y17 y18 y19 y20 y21 y22 y23 y24 y25 y26 y27 y28 y29 y30 y31 y32 y33 y34 y35 y36 y37 y38 y39 y40 y41 y42 y43 y44 y45 y46 y47 y48 y49 y50 y51 y52 y53 y54 y55 y56 y57 y58 y59 y60 y61 y62 y63 y64 y65 y66 y67 y68 y69 y70 y71 y72 y73 y74 y75 y76 y77 y78 y79 y80 y81 y82 y83 y84 y85 y86 y87 y88 y89 y90 y91 y92 y93 y94 y95 y96 y97 y98 y99 y100 y101 y102 y103 y104 y105 y106 y107 y108 y109 y110 y111 y112 y113 y114 y115 y116 y117 y118 y119 : Value) (S : St) : la W c4_111111010010011010 ⟨#[y0, y1, y2, y3, y4, y5, y6, y7, y8, y9, y10, y11, y12, y13, y14, y15, y16, y17, y18, y19, y20, y21, y22, y23, y24, y25, y26, y27, y28, y29, y30, y31, y32, y33, y34, y35, y36, y37, y38, y39, y40, y41, y42, y43, y44, y45, y46, y47, y48, y49, y50, y51, y52, y53, y54, y55, y56, y57, y58, y59, y60, y61, y62, y63, y64, y65, y66, y67, y68, y69, y70, y71, y72, y73, y74, y75, y76, y77, y78, y79, y80, y81, y82, y83, y84, y85, y86, y87, y88, y89, y90, y91, y92, y93, y94, y95, y96, y97, y98, y99, y100, y101, y102, y103, y104, y105, y106, y107, y108, y109, y110, y111, y112, y113, y114, y115, y116, y117, y118, y119], []⟩ S =
 bindV (aBin p .lss 3 y98 y97) fun v96 =>
 condK v96
  (
   bindV (aIndexAddr p 28 y96 y98) fun v97 =>
   bindV (aLoad p W S 30 v97) fun v98 =>
   bindS (aAlloc p S 30) fun v99 S100 =>
   bindT (aStore p S100 30 v99 v98) fun S101 =>
   bindV (aFieldAddr p 30 v99 0) fun v102 =>
   bindV (aLoad p W S101 3 v102) fun v103 =>
   bindV (aBin p .eql 3 v103 y14) fun v104 =>
   condK v104
    (
     bindV (aLoad p W S101 30 v99) fun v105 =>
     bindS (aBuildSlice p S101 28 1 #[(0, v105)]) fun v106 S107 =>
     bindS (aBuiltin p W S107 .append #[28, 28] #[y16, v106]) fun v108 S109 =>
     bindV (aBin p .add 3 y98 (.int .i64 1)) fun v110 =>
     la W c4_111111010010011010 ⟨#[y0, y1, y2, y3, y4, y5, y6, y7, y8, y9, y10, y11, y12, y13, y14, y15, v108, y17, y18, y19, v99, y21, y22, y23, y24, y25, y26, y27, y28, y29, y30, y31, y32, y33, y34, y35, y36, y37, y38, y39, y40, y41, y42, y43, y44, y45, y46, y47, y48, y49, y50, y51, y52, y53, y54, y55, y56, y57, y58, y59, y60, y61, y62, y63, y64, y65, y66, y67, y68, y69, y70, y71, y72, y73, y74, y75, y76, y77, y78, y79, y80, y81, y82, y83, y84, y85, y86, y87, y88, y89, y90, y91, y92, y93, y94, y95, y96, y97, v110, v96, v97, v98, v102, v103, y14, v104, y16, v105, v106, v108, v110, y111, y112, y113, y114, y115, y116, y117, y118, y119], []⟩ S109
    )
    (
     bindV (aBin p .add 3 y98 (.int .i64 1)) fun v111 =>
     la W c4_111111010010011010 ⟨#[y0, y1, y2, y3, y4, y5, y6, y7, y8, y9, y10, y11, y12, y13, y14, y15, y16, y17, y18, y19, v99, y21, y22, y23, y24, y25, y26, y27, y28, y29, y30, y31, y32, y33, y34, y35, y36, y37, y38, y39, y40, y41, y42, y43, y44, y45, y46, y47, y48, y49, y50, y51, y52, y53, y54, y55, y56, y57, y58, y59, y60, y61, y62, y63, y64, y65, y66, y67, y68, y69, y70, y71, y72, y73, y74, y75, y76, y77, y78, y79, y80, y81, y82, y83, y84, y85, y86, y87, y88, y89, y90, y91, y92, y93, y94, y95, y96, y97, v111, v96, v97, v98, v102, v103, y14, v104, junk, junk, junk, junk, v111, y111, y112, y113, y114, y115, y116, y117, y118, y119], []⟩ S101
    )
  )
  (
   some (.exit 6, ⟨#[y0, y1, y2, y3, y4, y5, y6, y7, y8, y9, y10, y11, y12, y13, y14, y15, y16, y17, y18, y19, junk, y21, y22, y23, y24, y25, y26, y27, y28, y29, y30, y31, y32, y33, y34, y35, y36, y37, y38, y39, y40, y41, y42, y43, y44, y45, y46, y47, y48, y49, y50, y51, y52, y53, y54, y55, y56, y57, y58, y59, y60, y61, y62, y63, y64, y65, y66, y67, y68, y69, y70, y71, y72, y73, y74, y75, y76, y77, y78, y79, y80, y81, y82, y83, y84, y85, y86, y87, y88, y89, y90, y91, y92, y93, y94, y95, y96, y97, y98, v96, junk, junk, junk, junk, junk, junk, junk, junk, junk, junk, junk, y111, y112, y113, y114, y115, y116, y117, y118, y119], []⟩, S)
  )
  := (round_eq ok4_111111010010011010 _ _).trans (by kernel_rfl)
theorem k4_1111010_0 (W : World) (y0 y1 y2 y3 y4 y5 y6 y7 y8 y9 y10 y11 y12 y13 y14 y15 y16 y17 y18 y19 y20 y21 y22 y23 y24 y25 y26 y27 y28 y29 y30 y31 y32 y33 y34 y35 y36 y37 y38 y39 y40 y41 y42 y43 y44 y45 y46 y47 y48 y49 y50 y51 y52 y53 y54 y55 y56 y57 y58 y59 y60 y61 y62 y63 y64 y65 y66 y67 y68 y69 y70 y71 y72 y73 y74 y75 y76 y77 y78 y79 y80 y81 y82 y83 y84 y85 y86 y87 y88 y89 y90 y91 y92 y93 y94 y95 y96 y97 y98 y99 y100 y101 y102 y103 y104 y105 y106 y107 y108 y109 y110 y111 y112 y113 y114 y115 y116 y117 y118 y119 : Value) (S : St) : kc W c4 [1, 1, 1, 1, 0, 1, 0] f4 (.exit 0) ⟨#[y0, y1, y2, y3, y4, y5, y6, y7, y8, y9, y10, y11, y12, y13, y14, y15, y16, y17, y18, y19, y20, y21, y22, y23, y24, y25, y26, y27, y28, y29, y30, y31, y32, y33, y34, y35, y36, y37, y38, y39, y40, y41, y42, y43, y44, y45, y46, y47, y48, y49, y50, y51, y52, y53, y54, y55, y56, y57, y58, y59, y60, y61, y62, y63, y64, y65, y66, y67, y68, y69, y70, y71, y72, y73, y74, y75, y76, y77, y78, y79, y80, y81, y82, y83, y84, y85, y86, y87, y88, y89, y90, y91, y92, y93, y94, y95, y96, y97, y98, y99, y100, y101, y102, y103, y104, y105, y106, y107, y108, y109, y110, y111, y112, y113, y114, y115, y116, y117, y118, y119], []⟩ S =
 bindS (aCall p (cw W) S (.func (.func 16) #[] #[]) #[y5]) fun v1 S2 =>
 bindS (aBuiltin p W S2 .append #[28, 28] #[y8, v1]) fun v3 S4 =>
 bindO (la W c4_111111010 ⟨#[y0, y1, y2, y3, y4, y5, y6, y7, v3, y9, y10, y11, y12, y13, (.int .i64 2), y15, y16, y17, y18, y19, y20, y21, y22, y23, y24, y25, y26, y27, y28, y29, y30, y31, y32, y33, y34, y35, y36, y37, y38, y39, y40, y41, y42, y43, y44, y45, y46, y47, y48, y49, y50, y51, y52, y53, y54, y55, y56, y57, y58, y59, y60, y61, y62, y63, y64, y65, y66, y67, y68, y69, y70, y71, y72, y8, y5, v1, v3, y77, y78, y79, y80, y81, y82, y83, y84, y85, y86, y87, y88, y89, y90, y91, y92, y93, y94, y95, y96, y97, y98, y99, y100, y101, y102, y103, y104, y105, y106, y107, y108, y109, y110, y111, y112, y113, y114, y115, y116, y117, y118, y119], []⟩ S4) (kc W c4 [1, 1, 1, 1, 1, 1, 0, 1, 0] f4)
  := by kernel_rfl
theorem k4_1111010_ret (W : World) (y0 y1 y2 y3 y4 y5 y6 y7 y8 y9 y10 y11 y12 y13 y14 y15 y16 y17 y18 y19 y20 y21 y22 y23 y24 y25 y26 y27 y28 y29 y30 y31 y32 y33 y34 y35 y36 y37 y38 y39 y40 y41 y42 y43 y44 y45 y46 y47 y48 y49 y50 y51 y52 y53 y54 y55 y56 y57 y58 y59 y60 y61 y62 y63 y64 y65 y66 y67 y68 y69 y70 y71 y72 y73 y74 y75 y76 y77 y78 y79 y80 y81 y82 y83 y84 y85 y86 y87 y88 y89 y90 y91 y92 y93 y94 y95 y96 y97 y98 y99 y100 y101 y102 y103 y104 y105 y106 y107 y108 y109 y110 y111 y112 y113 y114 y115 y116 y117 y118 y119 : Value) (S : St) : kc W c4 [1, 1, 1, 1, 0, 1, 0] f4 (.ret) ⟨#[y0, y1, y2, y3, y4, y5, y6, y7, y8, y9, y10, y11, y12, y13, y14, y15, y16, y17, y18, y19, y20, y21, y22, y23, y24, y25, y26, y27, y28, y29, y30, y31, y32, y33, y34, y35, y36, y37, y38, y39, y40, y41, y42, y43, y44, y45, y46, y47, y48, y49, y50, y51, y52, y53, y54, y55, y56, y57, y58, y59, y60, y61, y62, y63, y64, y65, y66, y67, y68, y69, y70, y71, y72, y73, y74, y75, y76, y77, y78, y79, y80, y81, y82, y83, y84, y85, y86, y87, y88, y89, y90, y91, y92, y93, y94, y95, y96, y97, y98, y99, y100, y101, y102, y103, y104, y105, y106, y107, y108, y109, y110, y111, y112, y113, y114, y115, y116, y117, y118, y119], []⟩ S =
 some (y4, S)
  := by kernel_rfl
theorem k4_111111010_2 (W : World) (y0 y1 y2 y3 y4 y5 y6 y7 y8 y9 y10 y11 y12 y13 y14 y15 y16 y17 y18 y19 y20 y21 y22 y23 y24 y25 y26 y27 y28 y29 y30 y31 y32 y33 y34 y35 y36 y37 y38 y39 y40 y41 y42 y43 y44 y45 y46 y47 y48 y49 y50 y51 y52 y53 y54 y55 y56 y57 y58 y59 y60 y61 y62 y63 y64 y65 y66 y67 y68 y69 y70 y71 y72 y73 y74 y75 y76 y77 y78 y79 y80 y81 y82 y83 y84 y85 y86 y87 y88 y89 y90 y91 y92 y93 y94 y95 y96 y97 y98 y99 y100 y101 y102 y103 y104 y105 y106 y107 y108 y109 y110 y111 y112 y113 y114 y115 y116 y117 y118 y119 : Value) (S : St) : kc W c4 [1, 1, 1, 1, 1, 1, 0, 1, 0] f4 (.exit 2) ⟨#[y0, y1, y2, y3, y4, y5, y6, y7, y8, y9, y10, y11, y12, y13, y14, y15, y16, y17, y18, y19, y20, y21, y22, y23, y24, y25, y26, y27, y28, y29, y30, y31, y32, y33, y34, y35, y36, y37, y38, y39, y40, y41, y42, y43, y44, y45, y46, y47, y48, y49, y50, y51, y52, y53, y54, y55, y56, y57, y58, y59, y60, y61, y62, y63, y64, y65, y66, y67, y68, y69, y70, y71, y72, y73, y74, y75, y76, y77, y78, y79, y80, y81, y82, y83, y84, y85, y86, y87, y88, y89, y90, y91, y92, y93, y94, y95, y96, y97, y98, y99, y100, y101, y102, y103, y104, y105, y106, y107, y108, y109, y110, y111, y112, y113, y114, y115, y116, y117, y118, y119], []⟩ S =
 bindV (aLen p W S #[28] #[y7]) fun v1 =>
 bindV (aLen p W S #[28] #[y8]) fun v2 =>
 bindV (aBin p .eql 3 v1 v2) fun v3 =>
 some (v3, S)
  := by kernel_rfl
theorem k4_111111010_ret (W : World) (y0 y1 y2 y3 y4 y5 y6 y7 y8 y9 y10 y11 y12 y13 y14 y15 y16 y17 y18 y19 y20 y21 y22 y23 y24 y25 y26 y27 y28 y29 y30 y31 y32 y33 y34 y35 y36 y37 y38 y39 y40 y41 y42 y43 y44 y45 y46 y47 y48 y49 y50 y51 y52 y53 y54 y55 y56 y57 y58 y59 y60 y61 y62 y63 y64 y65 y66 y67 y68 y69 y70 y71 y72 y73 y74 y75 y76 y77 y78 y79 y80 y81 y82 y83 y84 y85 y86 y87 y88 y89 y90 y91 y92 y93 y94 y95 y96 y97 y98 y99 y100 y101 y102 y103 y104 y105 y106 y107 y108 y109 y110 y111 y112 y113 y114 y115 y116 y117 y118 y119 : Value) (S : St) : kc W c4 [1, 1, 1, 1, 1, 1, 0, 1, 0] f4 (.ret) ⟨#[y0, y1, y2, y3, y4, y5, y6, y7, y8, y9, y10, y11, y12, y13, y14, y15, y16, y17, y18, y19, y20, y21, y22, y23, y24, y25, y26, y27, y28, y29, y30, y31, y32, y33, y34, y35, y36, y37, y38, y39, y40, y41, y42, y43, y44, y45, y46, y47, y48, y49, y50, y51, y52, y53, y54, y55, y56, y57, y58, y59, y60, y61, y62, y63, y64, y65, y66, y67, y68, y69, y70, y71, y72, y73, y74, y75, y76, y77, y78, y79, y80, y81, y82, y83, y84, y85, y86, y87, y88, y89, y90, y91, y92, y93, y94, y95, y96, y97, y98, y99, y100, y101, y102, y103, y104, y105, y106, y107, y108, y109, y110, y111, y112, y113, y114, y115, y116, y117, y118, y119], []⟩ S =
 some (y4, S)
  := by kernel_rfl
theorem k4_11111101001001010_4 (W : World) (y0 y1 y2 y3 y4 y5 y6 y7 y8 y9 y10 y11 y12 y13 y14 y15 y16 y17 y18 y19 y20 y21 y22 y23 y24 y25 y26 y27 y28 y29 y30 y31 y32 y33 y34 y35 y36 y37 y38 y39 y40 y41 y42 y43 y44 y45 y46 y47 y48 y49 y50 y51 y52 y53 y54 y55 y56 y57 y58 y59 y60 y61 y62 y63 y64 y65 y66 y67 y68 y69 y70 y71 y72 y73 y74 y75 y76 y77 y78 y79 y80 y81 y82 y83 y84 y85 y86 y87 y88 y89 y90 y91 y92 y93 y94 y95 y96 y97 y98 y99 y100 y101 y102 y103 y104 y105 y106 y107 y108 y109 y110 y111 y112 y113 y114 y115 y116 y117 y118 y119 : Value) (S : St) : rk W c4_111111010 [1, 0, 0, 1, 0, 1, 0] (.exit 4) ⟨#[y0, y1, y2, y3, y4, y5, y6, y7, y8, y9, y10, y11, y12, y13, y14, y15, y16, y17, y18, y19, y20, y21, y22, y23, y24, y25, y26, y27, y28, y29, y30, y31, y32, y33, y34, y35, y36, y37, y38, y39, y40, y41, y42, y43, y44, y45, y46, y47, y48, y49, y50, y51, y52, y53, y54, y55, y56, y57, y58, y59, y60, y61, y62, y63, y64, y65, y66, y67, y68, y69, y70, y71, y72, y73, y74, y75, y76, y77, y78, y79, y80, y81, y82, y83, y84, y85, y86, y87, y88, y89, y90, y91, y92, y93, y94, y95, y96, y97, y98, y99, y100, y101, y102, y103, y104, y105, y106, y107, y108, y109, y110, y111, y112, y113, y114, y115, y116, y117, y118, y119], []⟩ S =
 bindV (aLen p W S #[28] #[y8]) fun v1 =>
 bindO (la W c4_111111010010011010 ⟨#[y0, y1, y2, y3, y4, y5, y6, y7, y8, y9, y10, y11, y12, y13, y14, y15, y16, y17, y18, y19, y20, y21, y22, y23, y24, y25, y26, y27, y28, y29, y30, y31, y32, y33, y34, y35, y36, y37, y38, y39, y40, y41, y42, y43, y44, y45, y46, y47, y48, y49, y50, y51, y52, y53, y54, y55, y56, y57, y58, y59, y60, y61, y62, y63, y64, y65, y66, y67, y68, y69, y70, y71, y72, y73, y74, y75, y76, y77, y78, y79, y80, y81, y82, y83, y84, y85, y86, y87, y88, y89, y90, y91, y92, y93, y94, y95, y8, v1, (.int .i64 0), y99, y100, y101, y102, y103, y104, y105, y106, y107, y108, y109, y110, y111, y112, y113, y114, y115, y116, y117, y118, y119], []⟩ S) (rk W c4_111111010 [1, 0, 0, 1, 1, 0, 1, 0])
  := by kernel_rfl
theorem k4_111111010010011010_6 (W : World) (y0 y1 y2 y3 y4 y5 y6 y7 y8 y9 y10 y11 y12 y13 y14 y15 y16 y17 y18 y19 y20 y21 y22 y23 y24 y25 y26 y27 y28 y29 y30 y31 y32 y33 y34 y35 y36 y37 y38 y39 y40 y41 y42 y43 y44 y45 y46 y47 y48 y49 y50 y51 y52 y53 y54 y55 y56 y57 y58 y59 y60 y61 y62 y63 y64 y65 y66 y67 y68 y69 y70 y71 y72 y73 y74 y75 y76 y77 y78 y79 y80 y81 y82 y83 y84 y85 y86 y87 y88 y89 y90 y91 y92 y93 y94 y95 y96 y97 y98 y99 y100 y101 y102 y103 y104 y105 y106 y107 y108 y109 y110 y111 y112 y113 y114 y115 y116 y117 y118 y119 : Value) (S : St) : rk W c4_111111010 [1, 0, 0, 1, 1, 0, 1, 0] (.exit 6) ⟨#[y0, y1, y2, y3, y4, y5, y6, y7, y8, y9, y10, y11, y12, y13, y14, y15, y16, y17, y18, y19, y20, y21, y22, y23, y24, y25, y26, y27, y28, y29, y30, y31, y32, y33, y34, y35, y36, y37, y38, y39, y40, y41, y42, y43, y44, y45, y46, y47, y48, y49, y50, y51, y52, y53, y54, y55, y56, y57, y58, y59, y60, y61, y62, y63, y64, y65, y66, y67, y68, y69, y70, y71, y72, y73, y74, y75, y76, y77, y78, y79, y80, y81, y82, y83, y84, y85, y86, y87, y88, y89, y90, y91, y92, y93, y94, y95, y96, y97, y98, y99, y100, y101, y102, y103, y104, y105, y106, y107, y108, y109, y110, y111, y112, y113, y114, y115, y116, y117, y118, y119], []⟩ S =
 bindS (aCall p (cw W) S (.func (.func 15) #[] #[]) #[y15, y16]) fun v1 S2 =>
 bindV (aUn p .not v1) fun v3 =>
 condK v3
  (
   some (.ret, ⟨#[y0, y1, y2, y3, (.bool false), y5, y6, y7, y8, y9, y10, y11, y12, y13, y14, y15, y16, y17, y18, y19, y20, y21, y22, y23, y24, y25, y26, y27, y28, y29, y30, y31, y32, y33, y34, y35, y36, y37, y38, y39, y40, y41, y42, y43, y44, y45, y46, y47, y48, y49, y50, y51, y52, y53, y54, y55, y56, y57, y58, y59, y60, y61, y62, y63, y64, y65, y66, y67, y68, y69, y70, y71, y72, y73, y74, y75, y76, y77, y78, y79, y80, y81, y82, y83, y84, y85, y86, y87, y88, y89, y90, y91, y92, y93, y94, y95, y96, y97, y98, y99, y100, y101, y102, y103, y104, y105, y106, y107, y108, y109, y110, y15, y16, v1, v3, y115, y116, y117, y118, y119], []⟩, S2)
  )
  (
   bindV (aBin p .add 3 y14 (.int .i64 1)) fun v4 =>
   la W c4_111111010 ⟨#[y0, y1, y2, y3, y4, y5, y6, y7, y8, y9, y10, y11, y12, y13, v4, y15, y16, y17, y18, y19, y20, y21, y22, y23, y24, y25, y26, y27, y28, y29, y30, y31, y32, y33, y34, y35, y36, y37, y38, y39, y40, y41, y42, y43, y44, y45, y46, y47, y48, y49, y50, y51, y52, y53, y54, y55, y56, y57, y58, y59, y60, y61, y62, y63, y64, y65, y66, y67, y68, y69, y70, y71, y72, y73, y74, y75, y76, y77, y78, y14, v4, y81, y82, y83, y84, y85, y86, y87, y88, y89, y90, y91, y92, y93, y94, y95, y96, y97, y98, y99, y100, y101, y102, y103, y104, y105, y106, y107, y108, y109, y110, y15, y16, v1, v3, y115, y116, y117, y118, y119], []⟩ S2
  )
  := by kernel_rfl
/-! 5 tocsin/tocsinlaw16.PortRated -/
noncomputable abbrev f5 := Try.f5
noncomputable def c5 : Code := bodyOf f5
theorem ok5 : codeOk p c5 = true := by kernel_rfl
noncomputable def c5_11111010 : Code := codeAt [1, 1, 1, 1, 1, 0, 1, 0, 0] c5
theorem ok5_11111010 : codeOk p c5_11111010 = true := by kernel_rfl
noncomputable def c5_1111111010 : Code := codeAt [1, 1, 1, 1, 1, 1, 1, 0, 1, 0, 0] c5
theorem ok5_1111111010 : codeOk p c5_1111111010 = true := by kernel_rfl
theorem eq5 (W : World) (x0 : Value) (S : St) : cw W 5 #[x0] S =
 bindS (aCall p (cw W) S (.func (.func 7) #[] #[]) #[]) fun v1 S2 =>
 bindV (aUn p .not v1) fun v3 =>
 condK v3
  (
   some ((.bool false), S2)
  )
  (
   bindV (aLen p W S2 #[45] #[x0]) fun v4 =>
   bindS (aBuiltin p W S2 .min #[3, 3] #[v4, (.int .i64 64)]) fun v5 S6 =>
   bindV (aSlice p W S6 45 x0 none (some v5) none) fun v7 =>
   bindS (aCall p (cw W) S6 (.func (.func 8) #[] #[]) #[(.int .i64 64)]) fun v8 S9 =>
   bindV (still p (Instr.extract v8 0)) fun v10 =>
   bindV (still p (Instr.extract v8 1)) fun v11 =>
   bindV (aLen p W S9 #[45] #[v7]) fun v12 =>
   bindO (la W c5_11111010 ⟨#[v7, undef, (.bool false), v10, v11, (.int .i64 0), undef, undef, undef, undef, undef, undef, undef, undef, undef, undef, undef, undef, v1, v3, x0, x0, v4, v5, v7, v8, v8, v10, v11, v7, v12, (.int .i64 0), undef, undef, undef, undef, undef, undef, undef, undef, undef, undef, undef, undef, undef, undef, undef, undef, undef, undef, undef, undef, undef, undef, undef, undef, undef, undef, undef, undef, undef, undef, undef, undef, undef, undef, undef, undef, undef, undef, undef, undef, undef, undef, undef, undef, undef, undef, undef, undef, undef, undef, undef, undef, undef, undef, undef, undef, undef, undef, undef, undef, undef, undef, undef, undef, undef, undef, undef, undef, undef, undef, undef, undef, undef, undef, undef, undef, undef, undef, undef, undef, undef, undef, undef], []⟩ S9) (kc W c5 [1, 1, 1, 1, 1, 0, 1, 0] f5)
  )
  := (fn_eq Try.func5 rfl ok5 _ _).trans (by kernel_rfl)
theorem r5_11111010 (W : World) (y0 y1 y2 y3 y4 y5 y6 y7 y8 y9 y10 y11 y12 y13 y14 y15 y16 y17 y18 y19 y20 y21 y22 y23 y24 y25 y26 y27 y28 y29 y30 y31 y32 y33 y34 y35 y36 y37 y38 y39 y40 y41 y42 y43 y44 y45 y46 y47 y48 y49 y50 y51 y52 y53 y54 y55 y56 y57 y58 y59 y60 y61 y62 y63 y64 y65 y66 y67 y68 y69 y70 y71 y72 y73 y74 y75 y76 y77 y78 y79 y80 y81 y82 y83 y84 y85 y86 y87 y88 y89 y90 y91 y92 y93 y94 y95 y96 y97 y98 y99 y100 y101 y102 y103 y104 y105 y106 y107 y108 y109 y110 y111 y112 y113 y114 : Value) (S : St) : la W c5_11111010 ⟨#[y0, y1, y2, y3, y4, y5, y6, y7, y8, y9, y10, y11, y12, y13, y14, y15, y16, y17, y18, y19, y20, y21, y22, y23, y24, y25, y26, y27, y28, y29, y30, y31, y32, y33, y34, y35, y36, y37, y38, y39, y40, y41, y42, y43, y44, y45, y46, y47, y48, y49, y50, y51, y52, y53, y54, y55, y56, y57, y58, y59, y60, y61, y62, y63, y64, y65, y66, y67, y68, y69, y70, y71, y72, y73, y74, y75, y76, y77, y78, y79, y80, y81, y82, y83, y84, y85, y86, y87, y88, y89, y90, y91, y92, y93, y94, y95, y96, y97, y98, y99, y100, y101, y102, y103, y104, y105, y106, y107, y108, y109, y110, y111, y112, y113, y114], []⟩ S =
 bindV (aBin p .lss 3 y31 y30) fun v13 =>
 condK v13
  (
   bindV (aIndexAddr p 45 y29 y31) fun v14 =>
   bindV (aLoad p W S 4 v14) fun v15 =>
   condK v15
    (
     bindV (aBin p .add 3 y5 (.int .i64 1)) fun v16 =>
     bindS (aCall p (cw W) S (.func (.func 19) #[] #[]) #[(.int .i64 2), y31]) fun v17 S18 =>
     bindS (aCall p (cw W) S18 (.func (.func 11) #[] #[]) #[y3, v17]) fun v19 S20 =>
     bindV (aBin p .neq 25 v19 (.int .i64 0)) fun v21 =>
     condK v21
      (
       some (.ret, ⟨#[y0, y1, (.bool false), y3, y4, v16, y31, v15, (.int .i64 2), y9, y10, y11, y12, y13, y14, y15, y16, y17, y18, y19, y20, y21, y22, y23, y24, y25, y26, y27, y28, y29, y30, y31, v13, y31, v14, v15, v15, y5, v16, y3, (.int .i64 2), y31, v17, v19, v21, junk, y46, y47, y48, y49, y50, y51, y52, y53, y54, y55, y56, y57, y58, y59, y60, y61, y62, y63, y64, y65, y66, y67, y68, y69, y70, y71, y72, y73, y74, y75, y76, y77, y78, y79, y80, y81, y82, y83, y84, y85, y86, y87, y88, y89, y90, y91, y92, y93, y94, y95, y96, y97, y98, y99, y100, y101, y102, y103, y104, y105, y106, y107, y108, y109, y110, y111, y112, y113, y114], []⟩, S20)
      )
      (
       bindV (aBin p .add 3 y31 (.int .i64 1)) fun v22 =>
       la W c5_11111010 ⟨#[y0, y1, junk, y3, y4, v16, y31, v15, (.int .i64 2), y9, y10, y11, y12, y13, y14, y15, y16, y17, y18, y19, y20, y21, y22, y23, y24, y25, y26, y27, y28, y29, y30, v22, v13, y31, v14, v15, v15, y5, v16, y3, (.int .i64 2), y31, v17, v19, v21, v22, y46, y47, y48, y49, y50, y51, y52, y53, y54, y55, y56, y57, y58, y59, y60, y61, y62, y63, y64, y65, y66, y67, y68, y69, y70, y71, y72, y73, y74, y75, y76, y77, y78, y79, y80, y81, y82, y83, y84, y85, y86, y87, y88, y89, y90, y91, y92, y93, y94, y95, y96, y97, y98, y99, y100, y101, y102, y103, y104, y105, y106, y107, y108, y109, y110, y111, y112, y113, y114], []⟩ S20
      )
    )
    (
     bindS (aCall p (cw W) S (.func (.func 19) #[] #[]) #[(.int .i64 3), y31]) fun v23 S24 =>
     bindS (aCall p (cw W) S24 (.func (.func 11) #[] #[]) #[y3, v23]) fun v25 S26 =>
     bindV (aBin p .neq 25 v25 (.int .i64 0)) fun v27 =>
     condK v27
      (
       some (.ret, ⟨#[y0, y1, (.bool false), y3, y4, y5, y31, v15, (.int .i64 3), y9, y10, y11, y12, y13, y14, y15, y16, y17, y18, y19, y20, y21, y22, y23, y24, y25, y26, y27, y28, y29, y30, y31, v13, y31, v14, v15, v15, junk, junk, y3, (.int .i64 3), y31, v23, v25, v27, junk, y46, y47, y48, y49, y50, y51, y52, y53, y54, y55, y56, y57, y58, y59, y60, y61, y62, y63, y64, y65, y66, y67, y68, y69, y70, y71, y72, y73, y74, y75, y76, y77, y78, y79, y80, y81, y82, y83, y84, y85, y86, y87, y88, y89, y90, y91, y92, y93, y94, y95, y96, y97, y98, y99, y100, y101, y102, y103, y104, y105, y106, y107, y108, y109, y110, y111, y112, y113, y114], []⟩, S26)
      )
      (
       bindV (aBin p .add 3 y31 (.int .i64 1)) fun v28 =>
       la W c5_11111010 ⟨#[y0, y1, junk, y3, y4, y5, y31, v15, (.int .i64 3), y9, y10, y11, y12, y13, y14, y15, y16, y17, y18, y19, y20, y21, y22, y23, y24, y25, y26, y27, y28, y29, y30, v28, v13, y31, v14, v15, v15, junk, junk, y3, (.int .i64 3), y31, v23, v25, v27, v28, y46, y47, y48, y49, y50, y51, y52, y53, y54, y55, y56, y57, y58, y59, y60, y61, y62, y63, y64, y65, y66, y67, y68, y69, y70, y71, y72, y73, y74, y75, y76, y77, y78, y79, y80, y81, y82, y83, y84, y85, y86, y87, y88, y89, y90, y91, y92, y93, y94, y95, y96, y97, y98, y99, y100, y101, y102, y103, y104, y105, y106, y107, y108, y109, y110, y111, y112, y113, y114], []⟩ S26
      )
    )
  )
  (
   some (.exit 0, ⟨#[y0, y1, junk, y3, y4, y5, junk, junk, junk, y9, y10, y11, y12, y13, y14, y15, y16, y17, y18, y19, y20, y21, y22, y23, y24, y25, y26, y27, y28, y29, y30, y31, v13, junk, junk, junk, junk, junk, junk, junk, junk, junk, junk, junk, junk, junk, y46, y47, y48, y49, y50, y51, y52, y53, y54, y55, y56, y57, y58, y59, y60, y61, y62, y63, y64, y65, y66, y67, y68, y69, y70, y71, y72, y73, y74, y75, y76, y77, y78, y79, y80, y81, y82, y83, y84, y85, y86, y87, y88, y89, y90, y91, y92, y93, y94, y95, y96, y97, y98, y99, y100, y101, y102, y103, y104, y105, y106, y107, y108, y109, y110, y111, y112, y113, y114], []⟩, S)
  )
  := (round_eq ok5_11111010 _ _).trans (by kernel_rfl)
theorem r5_1111111010 (W : World) (y0 y1 y2 y3 y4 y5 y6 y7 y8 y9 y10 y11 y12 y13 y14 y15 y16 y17 y18 y19 y20 y21 y22 y23 y24 y25 y26 y27 y28 y29 y30 y31 y32 y33 y34 y35 y36 y37 y38 y39 y40 y41 y42 y43 y44 y45 y46 y47 y48 y49 y50 y51 y52 y53 y54 y55 y56 y57 y58 y59 y60 y61 y62 y63 y64 y65 y66 y67 y68 y69 y70 y71 y72 y73 y74 y75 y76 y77 y78 y79 y80 y81 y82 y83 y84 y85 y86 y87 y88 y89 y90 y91 y92 y93 y94 y95 y96 y97 y98 y99 y100 y101 y102 y103 y104 y105 y106 y107 y108 y109 y110 y111 y112 y113 y114 : Value) (S : St) : la W c5_1111111010 ⟨#[y0, y1, y2, y3, y4, y5, y6, y7, y8, y9, y10, y11, y12, y13, y14, y15, y16, y17, y18, y19, y20, y21, y22, y23, y24, y25, y26, y27, y28, y29, y30, y31, y32, y33, y34, y35, y36, y37, y38, y39, y40, y41, y42, y43, y44, y45, y46, y47, y48, y49, y50, y51, y52, y53, y54, y55, y56, y57, y58, y59, y60, y61, y62, y63, y64, y65, y66, y67, y68, y69, y70, y71, y72, y73, y74, y75, y76, y77, y78, y79, y80, y81, y82, y83, y84, y85, y86, y87, y88, y89, y90, y91, y92, y93, y94, y95, y96, y97, y98, y99, y100, y101, y102, y103, y104, y105, y106, y107, y108, y109, y110, y111, y112, y113, y114], []⟩ S =
 bindV (aBin p .lss 3 y48 y47) fun v29 =>
 condK v29
  (
   bindS (aCall p (cw W) S (.func (.func 13) #[] #[]) #[y3]) fun v30 S31 =>
   bindV (still p (Instr.extract v30 0)) fun v32 =>
   bindV (still p (Instr.extract v30 1)) fun v33 =>
   bindS (aAlloc p S31 30) fun v34 S35 =>
   bindT (aStore p S35 30 v34 v32) fun S36 =>
   bindV (aUn p .not v33) fun v37 =>
   gV v37 false fun g38 =>
   bindV (wO g38 (aFieldAddr p 30 v34 0)) fun v39 =>
   gV v37 false fun g40 =>
   bindV (wO g40 (aLoad p W S36 3 v39)) fun v41 =>
   gV v37 false fun g42 =>
   bindV (wO g42 (aBin p .eql 3 v41 (.int .i64 2))) fun v43 =>
   gV v37 false fun g44 =>
   gV v37 false fun g45 =>
   gV v37 false fun g46 =>
   bindV (wO g46 (aBin p .lss 3 (wV g44 y48) (wV g45 y5))) fun v47 =>
   gV v37 false fun g48 =>
   bindV (wO g48 (aBin p .neq 4 v43 v47)) fun v49 =>
   bindV (aPick v37 (.bool true) v49) fun v50 =>
   condK v50
    (
     some (.ret, ⟨#[y0, y1, (.bool false), y3, y4, y5, y6, y7, y8, y9, y48, v34, v33, y13, y14, y15, y16, y17, y18, y19, y20, y21, y22, y23, y24, y25, y26, y27, y28, y29, y30, y31, y32, y33, y34, y35, y36, y37, y38, y39, y40, y41, y42, y43, y44, y45, y46, y47, y48, v29, y48, v30, y3, v30, v32, v33, v33, v37, v37, v39, v41, v43, (wV g44 y48), (wV g45 y5), v47, v49, v50, junk, junk, junk, junk, junk, junk, junk, junk, junk, junk, y77, y78, y79, y80, y81, y82, y83, y84, y85, y86, y87, y88, y89, y90, y91, y92, y93, y94, y95, y96, y97, y98, y99, y100, y101, y102, y103, y104, y105, y106, y107, y108, y109, y110, y111, y112, y113, y114], []⟩, S36)
    )
    (
     bindV (aBin p .eql 3 y48 y5) fun v51 =>
     condK v51
      (
       bindV (aFieldAddr p 30 v34 2) fun v52 =>
       bindV (aLoad p W S36 3 v52) fun v53 =>
       bindV (aBin p .leq 3 v53 (.int .i64 (-1))) fun v54 =>
       condK v54
        (
         some (.ret, ⟨#[y0, y1, (.bool false), y3, y4, y5, y6, y7, y8, (.int .i64 (-1)), y48, v34, v33, y13, y14, y15, y16, y17, y18, y19, y20, y21, y22, y23, y24, y25, y26, y27, y28, y29, y30, y31, y32, y33, y34, y35, y36, y37, y38, y39, y40, y41, y42, y43, y44, y45, y46, y47, y48, v29, y48, v30, y3, v30, v32, v33, v33, v37, v37, v39, v41, v43, (wV g44 y48), (wV g45 y5), v47, v49, v50, y48, y5, v51, v52, v53, (.int .i64 (-1)), v54, junk, junk, junk, y77, y78, y79, y80, y81, y82, y83, y84, y85, y86, y87, y88, y89, y90, y91, y92, y93, y94, y95, y96, y97, y98, y99, y100, y101, y102, y103, y104, y105, y106, y107, y108, y109, y110, y111, y112, y113, y114], []⟩, S36)
        )
        (
         bindV (aFieldAddr p 30 v34 2) fun v55 =>
         bindV (aLoad p W S36 3 v55) fun v56 =>
         bindV (aBin p .add 3 y48 (.int .i64 1)) fun v57 =>
         la W c5_1111111010 ⟨#[y0, y1, junk, y3, y4, y5, y6, y7, y8, v56, y48, v34, v33, y13, y14, y15, y16, y17, y18, y19, y20, y21, y22, y23, y24, y25, y26, y27, y28, y29, y30, y31, y32, y33, y34, y35, y36, y37, y38, y39, y40, y41, y42, y43, y44, y45, y46, y47, v57, v29, y48, v30, y3, v30, v32, v33, v33, v37, v37, v39, v41, v43, (wV g44 y48), (wV g45 y5), v47, v49, v50, y48, y5, v51, v52, v53, (.int .i64 (-1)), v54, v55, v56, v57, y77, y78, y79, y80, y81, y82, y83, y84, y85, y86, y87, y88, y89, y90, y91, y92, y93, y94, y95, y96, y97, y98, y99, y100, y101, y102, y103, y104, y105, y106, y107, y108, y109, y110, y111, y112, y113, y114], []⟩ S36
        )
      )
      (
       bindV (aFieldAddr p 30 v34 2) fun v58 =>
       bindV (aLoad p W S36 3 v58) fun v59 =>
       bindV (aBin p .leq 3 v59 y9) fun v60 =>
       condK v60
        (
         some (.ret, ⟨#[y0, y1, (.bool false), y3, y4, y5, y6, y7, y8, y9, y48, v34, v33, y13, y14, y15, y16, y17, y18, y19, y20, y21, y22, y23, y24, y25, y26, y27, y28, y29, y30, y31, y32, y33, y34, y35, y36, y37, y38, y39, y40, y41, y42, y43, y44, y45, y46, y47, y48, v29, y48, v30, y3, v30, v32, v33, v33, v37, v37, v39, v41, v43, (wV g44 y48), (wV g45 y5), v47, v49, v50, y48, y5, v51, v58, v59, y9, v60, junk, junk, junk, y77, y78, y79, y80, y81, y82, y83, y84, y85, y86, y87, y88, y89, y90, y91, y92, y93, y94, y95, y96, y97, y98, y99, y100, y101, y102, y103, y104, y105, y106, y107, y108, y109, y110, y111, y112, y113, y114], []⟩, S36)
        )
        (
         bindV (aFieldAddr p 30 v34 2) fun v61 =>
         bindV (aLoad p W S36 3 v61) fun v62 =>
         bindV (aBin p .add 3 y48 (.int .i64 1)) fun v63 =>
         la W c5_1111111010 ⟨#[y0, y1, junk, y3, y4, y5, y6, y7, y8, v62, y48, v34, v33, y13, y14, y15, y16, y17, y18, y19, y20, y21, y22, y23, y24, y25, y26, y27, y28, y29, y30, y31, y32, y33, y34, y35, y36, y37, y38, y39, y40, y41, y42, y43, y44, y45, y46, y47, v63, v29, y48, v30, y3, v30, v32, v33, v33, v37, v37, v39, v41, v43, (wV g44 y48), (wV g45 y5), v47, v49, v50, y48, y5, v51, v58, v59, y9, v60, v61, v62, v63, y77, y78, y79, y80, y81, y82, y83, y84, y85, y86, y87, y88, y89, y90, y91, y92, y93, y94, y95, y96, y97, y98, y99, y100, y101, y102, y103, y104, y105, y106, y107, y108, y109, y110, y111, y112, y113, y114], []⟩ S36
        )
      )
    )
  )
  (
   some (.exit 2, ⟨#[y0, y1, junk, y3, y4, y5, y6, y7, y8, y9, junk, junk, junk, y13, y14, y15, y16, y17, y18, y19, y20, y21, y22, y23, y24, y25, y26, y27, y28, y29, y30, y31, y32, y33, y34, y35, y36, y37, y38, y39, y40, y41, y42, y43, y44, y45, y46, y47, y48, v29, junk, junk, junk, junk, junk, junk, junk, junk, junk, junk, junk, junk, junk, junk, junk, junk, junk, junk, junk, junk, junk, junk, junk, junk, junk, junk, junk, y77, y78, y79, y80, y81, y82, y83, y84, y85, y86, y87, y88, y89, y90, y91, y92, y93, y94, y95, y96, y97, y98, y99, y100, y101, y102, y103, y104, y105, y106, y107, y108, y109, y110, y111, y112, y113, y114], []⟩, S)
  )
  := (round_eq ok5_1111111010 _ _).trans (by kernel_rfl)
theorem k5_11111010_0 (W : World) (y0 y1 y2 y3 y4 y5 y6 y7 y8 y9 y10 y11 y12 y13 y14 y15 y16 y17 y18 y19 y20 y21 y22 y23 y24 y25 y26 y27 y28 y29 y30 y31 y32 y33 y34 y35 y36 y37 y38 y39 y40 y41 y42 y43 y44 y45 y46 y47 y48 y49 y50 y51 y52 y53 y54 y55 y56 y57 y58 y59 y60 y61 y62 y63 y64 y65 y66 y67 y68 y69 y70 y71 y72 y73 y74 y75 y76 y77 y78 y79 y80 y81 y82 y83 y84 y85 y86 y87 y88 y89 y90 y91 y92 y93 y94 y95 y96 y97 y98 y99 y100 y101 y102 y103 y104 y105 y106 y107 y108 y109 y110 y111 y112 y113 y114 : Value) (S : St) : kc W c5 [1, 1, 1, 1, 1, 0, 1, 0] f5 (.exit 0) ⟨#[y0, y1, y2, y3, y4, y5, y6, y7, y8, y9, y10, y11, y12, y13, y14, y15, y16, y17, y18, y19, y20, y21, y22, y23, y24, y25, y26, y27, y28, y29, y30, y31, y32, y33, y34, y35, y36, y37, y38, y39, y40, y41, y42, y43, y44, y45, y46, y47, y48, y49, y50, y51, y52, y53, y54, y55, y56, y57, y58, y59, y60, y61, y62, y63, y64, y65, y66, y67, y68, y69, y70, y71, y72, y73, y74, y75, y76, y77, y78, y79, y80, y81, y82, y83, y84, y85, y86, y87, y88, y89, y90, y91, y92, y93, y94, y95, y96, y97, y98, y99, y100, y101, y102, y103, y104, y105, y106, y107, y108, y109, y110, y111, y112, y113, y114], []⟩ S =
 bindV (aLen p W S #[45] #[y0]) fun v1 =>
 bindO (la W c5_1111111010 ⟨#[y0, y1, y2, y3, y4, y5, y6, y7, y8, (.int .i64 (-1)), y10, y11, y12, y13, y14, y15, y16, y17, y18, y19, y20, y21, y22, y23, y24, y25, y26, y27, y28, y29, y30, y31, y32, y33, y34, y35, y36, y37, y38, y39, y40, y41, y42, y43, y44, y45, y0, v1, (.int .i64 0), y49, y50, y51, y52, y53, y54, y55, y56, y57, y58, y59, y60, y61, y62, y63, y64, y65, y66, y67, y68, y69, y70, y71, y72, y73, y74, y75, y76, y77, y78, y79, y80, y81, y82, y83, y84, y85, y86, y87, y88, y89, y90, y91, y92, y93, y94, y95, y96, y97, y98, y99, y100, y101, y102, y103, y104, y105, y106, y107, y108, y109, y110, y111, y112, y113, y114], []⟩ S) (kc W c5 [1, 1, 1, 1, 1, 1, 1, 0, 1, 0] f5)
  := by kernel_rfl
theorem k5_11111010_ret (W : World) (y0 y1 y2 y3 y4 y5 y6 y7 y8 y9 y10 y11 y12 y13 y14 y15 y16 y17 y18 y19 y20 y21 y22 y23 y24 y25 y26 y27 y28 y29 y30 y31 y32 y33 y34 y35 y36 y37 y38 y39 y40 y41 y42 y43 y44 y45 y46 y47 y48 y49 y50 y51 y52 y53 y54 y55 y56 y57 y58 y59 y60 y61 y62 y63 y64 y65 y66 y67 y68 y69 y70 y71 y72 y73 y74 y75 y76 y77 y78 y79 y80 y81 y82 y83 y84 y85 y86 y87 y88 y89 y90 y91 y92 y93 y94 y95 y96 y97 y98 y99 y100 y101 y102 y103 y104 y105 y106 y107 y108 y109 y110 y111 y112 y113 y114 : Value) (S : St) : kc W c5 [1, 1, 1, 1, 1, 0, 1, 0] f5 (.ret) ⟨#[y0, y1, y2, y3, y4, y5, y6, y7, y8, y9, y10, y11, y12, y13, y14, y15, y16, y17, y18, y19, y20, y21, y22, y23, y24, y25, y26, y27, y28, y29, y30, y31, y32, y33, y34, y35, y36, y37, y38, y39, y40, y41, y42, y43, y44, y45, y46, y47, y48, y49, y50, y51, y52, y53, y54, y55, y56, y57, y58, y59, y60, y61, y62, y63, y64, y65, y66, y67, y68, y69, y70, y71, y72, y73, y74, y75, y76, y77, y78, y79, y80, y81, y82, y83, y84, y85, y86, y87, y88, y89, y90, y91, y92, y93, y94, y95, y96, y97, y98, y99, y100, y101, y102, y103, y104, y105, y106, y107, y108, y109, y110, y111, y112, y113, y114], []⟩ S =
 some (y2, S)
  := by kernel_rfl
theorem k5_1111111010_2 (W : World) (y0 y1 y2 y3 y4 y5 y6 y7 y8 y9 y10 y11 y12 y13 y14 y15 y16 y17 y18 y19 y20 y21 y22 y23 y24 y25 y26 y27 y28 y29 y30 y31 y32 y33 y34 y35 y36 y37 y38 y39 y40 y41 y42 y43 y44 y45 y46 y47 y48 y49 y50 y51 y52 y53 y54 y55 y56 y57 y58 y59 y60 y61 y62 y63 y64 y65 y66 y67 y68 y69 y70 y71 y72 y73 y74 y75 y76 y77 y78 y79 y80 y81 y82 y83 y84 y85 y86 y87 y88 y89 y90 y91 y92 y93 y94 y95 y96 y97 y98 y99 y100 y101 y102 y103 y104 y105 y106 y107 y108 y109 y110 y111 y112 y113 y114 : Value) (S : St) : kc W c5 [1, 1, 1, 1, 1, 1, 1, 0, 1, 0] f5 (.exit 2) ⟨#[y0, y1, y2, y3, y4, y5, y6, y7, y8, y9, y10, y11, y12, y13, y14, y15, y16, y17, y18, y19, y20, y21, y22, y23, y24, y25, y26, y27, y28, y29, y30, y31, y32, y33, y34, y35, y36, y37, y38, y39, y40, y41, y42, y43, y44, y45, y46, y47, y48, y49, y50, y51, y52, y53, y54, y55, y56, y57, y58, y59, y60, y61, y62, y63, y64, y65, y66, y67, y68, y69, y70, y71, y72, y73, y74, y75, y76, y77, y78, y79, y80, y81, y82, y83, y84, y85, y86, y87, y88, y89, y90, y91, y92, y93, y94, y95, y96, y97, y98, y99, y100, y101, y102, y103, y104, y105, y106, y107, y108, y109, y110, y111, y112, y113, y114], []⟩ S =
 bindS (aCall p (cw W) S (.func (.func 12) #[] #[]) #[(.pointer none)]) fun v1 S2 =>
 bindV (still p (Instr.extract v1 0)) fun v3 =>
 bindV (still p (Instr.extract v1 1)) fun v4 =>
 bindS (aAlloc p S2 30) fun v5 S6 =>
 bindT (aStore p S6 30 v5 v3) fun S7 =>
 bindS (aCall p (cw W) S7 (.func (.func 13) #[] #[]) #[(.pointer none)]) fun v8 S9 =>
 bindV (still p (Instr.extract v8 0)) fun v10 =>
 bindV (still p (Instr.extract v8 1)) fun v11 =>
 bindS (aAlloc p S9 30) fun v12 S13 =>
 bindT (aStore p S13 30 v12 v10) fun S14 =>
 bindS (aCall p (cw W) S14 (.func (.func 19) #[] #[]) #[(.int .i64 2), (.int .i64 1)]) fun v15 S16 =>
 bindS (aCall p (cw W) S16 (.func (.func 11) #[] #[]) #[(.pointer none), v15]) fun v17 S18 =>
 bindV (aBin p .eql 25 v17 (.int .i64 1)) fun v19 =>
 gV v19 true fun g20 =>
 gV v19 true fun g21 =>
 bindV (wO g21 (aUn p .not (wV g20 v4))) fun v22 =>
 bindV (aPick v19 v22 (.bool false)) fun v23 =>
 gV v23 true fun g24 =>
 gV v23 true fun g25 =>
 bindV (wO g25 (aUn p .not (wV g24 v11))) fun v26 =>
 bindV (aPick v23 v26 (.bool false)) fun v27 =>
 gV v27 true fun g28 =>
 gV v27 true fun g29 =>
 bindS (wS g29 S18 (aCall p (cw W) S18 (.func (.func 17) #[] #[]) #[(wV g28 (.pointer none))])) fun v30 S31 =>
 gV v27 true fun g32 =>
 bindV (wO g32 (aBin p .eql 3 v30 (.int .i64 0))) fun v33 =>
 bindV (aPick v27 v33 (.bool false)) fun v34 =>
 gV v34 true fun g35 =>
 gV v34 true fun g36 =>
 bindS (wS g36 S31 (aCall p (cw W) S31 (.func (.func 16) #[] #[]) #[(wV g35 (.pointer none))])) fun v37 S38 =>
 gV v34 true fun g39 =>
 bindV (wO g39 (aLen p W S38 #[28] #[v37])) fun v40 =>
 gV v34 true fun g41 =>
 bindV (wO g41 (aBin p .eql 3 v40 (.int .i64 0))) fun v42 =>
 bindV (aPick v34 v42 (.bool false)) fun v43 =>
 gV v43 true fun g44 =>
 gV v43 true fun g45 =>
 bindS (wS g45 S38 (aCall p (cw W) S38 (.func (.func 18) #[] #[]) #[(wV g44 (.pointer none))])) fun v46 S47 =>
 gV v43 true fun g48 =>
 bindV (wO g48 (aBin p .eql 3 v46 (.int .i64 0))) fun v49 =>
 bindV (aPick v43 v49 (.bool false)) fun v50 =>
 some (v50, S47)
  := by kernel_rfl
theorem k5_1111111010_ret (W : World) (y0 y1 y2 y3 y4 y5 y6 y7 y8 y9 y10 y11 y12 y13 y14 y15 y16 y17 y18 y19 y20 y21 y22 y23 y24 y25 y26 y27 y28 y29 y30 y31 y32 y33 y34 y35 y36 y37 y38 y39 y40 y41 y42 y43 y44 y45 y46 y47 y48 y49 y50 y51 y52 y53 y54 y55 y56 y57 y58 y59 y60 y61 y62 y63 y64 y65 y66 y67 y68 y69 y70 y71 y72 y73 y74 y75 y76 y77 y78 y79 y80 y81 y82 y83 y84 y85 y86 y87 y88 y89 y90 y91 y92 y93 y94 y95 y96 y97 y98 y99 y100 y101 y102 y103 y104 y105 y106 y107 y108 y109 y110 y111 y112 y113 y114 : Value) (S : St) : kc W c5 [1, 1, 1, 1, 1, 1, 1, 0, 1, 0] f5 (.ret) ⟨#[y0, y1, y2, y3, y4, y5, y6, y7, y8, y9, y10, y11, y12, y13, y14, y15, y16, y17, y18, y19, y20, y21, y22, y23, y24, y25, y26, y27, y28, y29, y30, y31, y32, y33, y34, y35, y36, y37, y38, y39, y40, y41, y42, y43, y44, y45, y46, y47, y48, y49, y50, y51, y52, y53, y54, y55, y56, y57, y58, y59, y60, y61, y62, y63, y64, y65, y66, y67, y68, y69, y70, y71, y72, y73, y74, y75, y76, y77, y78, y79, y80, y81, y82, y83, y84, y85, y86, y87, y88, y89, y90, y91, y92, y93, y94, y95, y96, y97, y98, y99, y100, y101, y102, y103, y104, y105, y106, y107, y108, y109, y110, y111, y112, y113, y114], []⟩ S =
 some (y2, S)
  := by kernel_rfl
end Go.Proofs.Ytjfmapoangigoaa.F
