/- The functions' texts, laid out by a program for this claim. -/
import Derived.Test.YtjfmapoangigoaaL0
import Derived.Test.YtjfmapoangigoaaProg
namespace Go.Proofs.Ytjfmapoangigoaa.F
open Go Go.Proofs.Ytjfmapoangigoaa.E
set_option linter.unusedVariables false
set_option maxRecDepth 100000
/-! 6 tocsin/tocsinlaw16.PortFills -/
noncomputable abbrev f6 := Try.f6
noncomputable def c6 : Code := bodyOf f6
theorem ok6 : codeOk p c6 = true := by kernel_rfl
noncomputable def c6_11111010 : Code := codeAt [1, 1, 1, 1, 1, 0, 1, 0, 0] c6
theorem ok6_11111010 : codeOk p c6_11111010 = true := by kernel_rfl
theorem eq6 (W : World) (x0 x1 : Value) (S : St) : cw W 6 #[x0, x1] S =
 bindS (aCall p (cw W) S (.func (.func 7) #[] #[]) #[]) fun v1 S2 =>
 bindV (aUn p .not v1) fun v3 =>
 condK v3
  (
   some ((.bool false), S2)
  )
  (
   bindV (aBin p .rem 5 x0 (.int .u8 64)) fun v4 =>
   bindS (aConv p W S2 5 3 v4) fun v5 S6 =>
   bindV (aBin p .add 3 (.int .i64 1) v5) fun v7 =>
   bindS (aCall p (cw W) S6 (.func (.func 8) #[] #[]) #[v7]) fun v8 S9 =>
   bindV (still p (Instr.extract v8 0)) fun v10 =>
   bindV (still p (Instr.extract v8 1)) fun v11 =>
   bindV (aBin p .neq 25 v11 (.int .i64 0)) fun v12 =>
   condK v12
    (
     some ((.bool false), S9)
    )
    (
     bindV (aLen p W S9 #[45] #[x1]) fun v13 =>
     bindO (la W c6_11111010 ⟨#[x0, x1, undef, undef, (.bool false), v7, v10, v11, undef, undef, undef, undef, undef, undef, v1, v3, x0, v4, v5, v7, v8, v7, v8, v10, v11, v11, v12, x1, v13, (.int .i64 0), undef, undef, undef, undef, undef, undef, undef, undef, undef, undef, undef, undef, undef, undef, undef, undef, undef, undef, undef, undef, undef, undef, undef, undef, undef, undef, undef, undef, undef, undef, undef, undef, undef, undef, undef, undef, undef, undef, undef, undef, undef, undef, undef, undef, undef, undef, undef, undef, undef, undef, undef, undef, undef, undef, undef, undef, undef, undef, undef, undef], []⟩ S9) (kc W c6 [1, 1, 1, 1, 1, 0, 1, 0] f6)
    )
  )
  := (fn_eq Try.func6 rfl ok6 _ _).trans (by kernel_rfl)
theorem r6_11111010 (W : World) (y0 y1 y2 y3 y4 y5 y6 y7 y8 y9 y10 y11 y12 y13 y14 y15 y16 y17 y18 y19 y20 y21 y22 y23 y24 y25 y26 y27 y28 y29 y30 y31 y32 y33 y34 y35 y36 y37 y38 y39 y40 y41 y42 y43 y44 y45 y46 y47 y48 y49 y50 y51 y52 y53 y54 y55 y56 y57 y58 y59 y60 y61 y62 y63 y64 y65 y66 y67 y68 y69 y70 y71 y72 y73 y74 y75 y76 y77 y78 y79 y80 y81 y82 y83 y84 y85 y86 y87 y88 y89 : Value) (S : St) : la W c6_11111010 ⟨#[y0, y1, y2, y3, y4, y5, y6, y7, y8, y9, y10, y11, y12, y13, y14, y15, y16, y17, y18, y19, y20, y21, y22, y23, y24, y25, y26, y27, y28, y29, y30, y31, y32, y33, y34, y35, y36, y37, y38, y39, y40, y41, y42, y43, y44, y45, y46, y47, y48, y49, y50, y51, y52, y53, y54, y55, y56, y57, y58, y59, y60, y61, y62, y63, y64, y65, y66, y67, y68, y69, y70, y71, y72, y73, y74, y75, y76, y77, y78, y79, y80, y81, y82, y83, y84, y85, y86, y87, y88, y89], []⟩ S =
 bindV (aBin p .lss 3 y29 y28) fun v14 =>
 condK v14
  (
   bindV (aIndexAddr p 45 y27 y29) fun v15 =>
   bindV (aLoad p W S 4 v15) fun v16 =>
   condK v16
    (
     bindV (aBin p .geq 3 y29 y5) fun v17 =>
     condK v17
      (
       bindS (aCall p (cw W) S (.func (.func 19) #[] #[]) #[(.int .i64 2), y29]) fun v18 S19 =>
       bindS (aCall p (cw W) S19 (.func (.func 11) #[] #[]) #[y6, v18]) fun v20 S21 =>
       bindV (aBin p .neq 25 v20 (.int .i64 6)) fun v22 =>
       gV v22 false fun g23 =>
       gV v22 false fun g24 =>
       bindS (wS g24 S21 (aCall p (cw W) S21 (.func (.func 17) #[] #[]) #[(wV g23 y6)])) fun v25 S26 =>
       gV v22 false fun g27 =>
       gV v22 false fun g28 =>
       bindV (wO g28 (aBin p .add 3 (wV g27 y29) (.int .i64 1))) fun v29 =>
       gV v22 false fun g30 =>
       gV v22 false fun g31 =>
       bindS (wS g31 S26 (aBuiltin p W S26 .min #[3, 3] #[v29, (wV g30 y5)])) fun v32 S33 =>
       gV v22 false fun g34 =>
       bindV (wO g34 (aBin p .neq 3 v25 v32)) fun v35 =>
       bindV (aPick v22 (.bool true) v35) fun v36 =>
       gV v36 false fun g37 =>
       gV v36 false fun g38 =>
       bindS (wS g38 S33 (aCall p (cw W) S33 (.func (.func 18) #[] #[]) #[(wV g37 y6)])) fun v39 S40 =>
       gV v36 false fun g41 =>
       gV v36 false fun g42 =>
       bindV (wO g42 (aBin p .add 3 (wV g41 y29) (.int .i64 1))) fun v43 =>
       gV v36 false fun g44 =>
       gV v36 false fun g45 =>
       bindV (wO g45 (aBin p .sub 3 v43 (wV g44 y5))) fun v46 =>
       gV v36 false fun g47 =>
       bindS (wS g47 S40 (aBuiltin p W S40 .max #[3, 3] #[(.int .i64 0), v46])) fun v48 S49 =>
       gV v36 false fun g50 =>
       bindV (wO g50 (aBin p .neq 3 v39 v48)) fun v51 =>
       bindV (aPick v36 (.bool true) v51) fun v52 =>
       condK v52
        (
         some (.ret, ⟨#[y0, y1, y2, y3, (.bool false), y5, y6, y7, y29, v16, (.int .i64 2), (.int .i64 6), y12, y13, y14, y15, y16, y17, y18, y19, y20, y21, y22, y23, y24, y25, y26, y27, y28, y29, v14, y29, v15, v16, v16, y29, y5, v17, y6, (.int .i64 2), y29, v18, v20, (.int .i64 6), v22, v22, (wV g23 y6), v25, (wV g27 y29), v29, (wV g30 y5), v32, v35, v36, v36, (wV g37 y6), v39, (wV g41 y29), v43, (wV g44 y5), v46, v48, v51, v52, junk, y65, y66, y67, y68, y69, y70, y71, y72, y73, y74, y75, y76, y77, y78, y79, y80, y81, y82, y83, y84, y85, y86, y87, y88, y89], []⟩, S49)
        )
        (
         bindV (aBin p .add 3 y29 (.int .i64 1)) fun v53 =>
         la W c6_11111010 ⟨#[y0, y1, y2, y3, junk, y5, y6, y7, y29, v16, (.int .i64 2), (.int .i64 6), y12, y13, y14, y15, y16, y17, y18, y19, y20, y21, y22, y23, y24, y25, y26, y27, y28, v53, v14, y29, v15, v16, v16, y29, y5, v17, y6, (.int .i64 2), y29, v18, v20, (.int .i64 6), v22, v22, (wV g23 y6), v25, (wV g27 y29), v29, (wV g30 y5), v32, v35, v36, v36, (wV g37 y6), v39, (wV g41 y29), v43, (wV g44 y5), v46, v48, v51, v52, v53, y65, y66, y67, y68, y69, y70, y71, y72, y73, y74, y75, y76, y77, y78, y79, y80, y81, y82, y83, y84, y85, y86, y87, y88, y89], []⟩ S49
        )
      )
      (
       bindS (aCall p (cw W) S (.func (.func 19) #[] #[]) #[(.int .i64 2), y29]) fun v54 S55 =>
       bindS (aCall p (cw W) S55 (.func (.func 11) #[] #[]) #[y6, v54]) fun v56 S57 =>
       bindV (aBin p .neq 25 v56 (.int .i64 0)) fun v58 =>
       gV v58 false fun g59 =>
       gV v58 false fun g60 =>
       bindS (wS g60 S57 (aCall p (cw W) S57 (.func (.func 17) #[] #[]) #[(wV g59 y6)])) fun v61 S62 =>
       gV v58 false fun g63 =>
       gV v58 false fun g64 =>
       bindV (wO g64 (aBin p .add 3 (wV g63 y29) (.int .i64 1))) fun v65 =>
       gV v58 false fun g66 =>
       gV v58 false fun g67 =>
       bindS (wS g67 S62 (aBuiltin p W S62 .min #[3, 3] #[v65, (wV g66 y5)])) fun v68 S69 =>
       gV v58 false fun g70 =>
       bindV (wO g70 (aBin p .neq 3 v61 v68)) fun v71 =>
       bindV (aPick v58 (.bool true) v71) fun v72 =>
       gV v72 false fun g73 =>
       gV v72 false fun g74 =>
       bindS (wS g74 S69 (aCall p (cw W) S69 (.func (.func 18) #[] #[]) #[(wV g73 y6)])) fun v75 S76 =>
       gV v72 false fun g77 =>
       gV v72 false fun g78 =>
       bindV (wO g78 (aBin p .add 3 (wV g77 y29) (.int .i64 1))) fun v79 =>
       gV v72 false fun g80 =>
       gV v72 false fun g81 =>
       bindV (wO g81 (aBin p .sub 3 v79 (wV g80 y5))) fun v82 =>
       gV v72 false fun g83 =>
       bindS (wS g83 S76 (aBuiltin p W S76 .max #[3, 3] #[(.int .i64 0), v82])) fun v84 S85 =>
       gV v72 false fun g86 =>
       bindV (wO g86 (aBin p .neq 3 v75 v84)) fun v87 =>
       bindV (aPick v72 (.bool true) v87) fun v88 =>
       condK v88
        (
         some (.ret, ⟨#[y0, y1, y2, y3, (.bool false), y5, y6, y7, y29, v16, (.int .i64 2), (.int .i64 0), y12, y13, y14, y15, y16, y17, y18, y19, y20, y21, y22, y23, y24, y25, y26, y27, y28, y29, v14, y29, v15, v16, v16, y29, y5, v17, y6, (.int .i64 2), y29, v54, v56, (.int .i64 0), v58, v58, (wV g59 y6), v61, (wV g63 y29), v65, (wV g66 y5), v68, v71, v72, v72, (wV g73 y6), v75, (wV g77 y29), v79, (wV g80 y5), v82, v84, v87, v88, junk, y65, y66, y67, y68, y69, y70, y71, y72, y73, y74, y75, y76, y77, y78, y79, y80, y81, y82, y83, y84, y85, y86, y87, y88, y89], []⟩, S85)
        )
        (
         bindV (aBin p .add 3 y29 (.int .i64 1)) fun v89 =>
         la W c6_11111010 ⟨#[y0, y1, y2, y3, junk, y5, y6, y7, y29, v16, (.int .i64 2), (.int .i64 0), y12, y13, y14, y15, y16, y17, y18, y19, y20, y21, y22, y23, y24, y25, y26, y27, y28, v89, v14, y29, v15, v16, v16, y29, y5, v17, y6, (.int .i64 2), y29, v54, v56, (.int .i64 0), v58, v58, (wV g59 y6), v61, (wV g63 y29), v65, (wV g66 y5), v68, v71, v72, v72, (wV g73 y6), v75, (wV g77 y29), v79, (wV g80 y5), v82, v84, v87, v88, v89, y65, y66, y67, y68, y69, y70, y71, y72, y73, y74, y75, y76, y77, y78, y79, y80, y81, y82, y83, y84, y85, y86, y87, y88, y89], []⟩ S85
        )
      )
    )
    (
     bindV (aBin p .geq 3 y29 y5) fun v90 =>
     condK v90
      (
       bindS (aCall p (cw W) S (.func (.func 19) #[] #[]) #[(.int .i64 3), y29]) fun v91 S92 =>
       bindS (aCall p (cw W) S92 (.func (.func 11) #[] #[]) #[y6, v91]) fun v93 S94 =>
       bindV (aBin p .neq 25 v93 (.int .i64 6)) fun v95 =>
       gV v95 false fun g96 =>
       gV v95 false fun g97 =>
       bindS (wS g97 S94 (aCall p (cw W) S94 (.func (.func 17) #[] #[]) #[(wV g96 y6)])) fun v98 S99 =>
       gV v95 false fun g100 =>
       gV v95 false fun g101 =>
       bindV (wO g101 (aBin p .add 3 (wV g100 y29) (.int .i64 1))) fun v102 =>
       gV v95 false fun g103 =>
       gV v95 false fun g104 =>
       bindS (wS g104 S99 (aBuiltin p W S99 .min #[3, 3] #[v102, (wV g103 y5)])) fun v105 S106 =>
       gV v95 false fun g107 =>
       bindV (wO g107 (aBin p .neq 3 v98 v105)) fun v108 =>
       bindV (aPick v95 (.bool true) v108) fun v109 =>
       gV v109 false fun g110 =>
       gV v109 false fun g111 =>
       bindS (wS g111 S106 (aCall p (cw W) S106 (.func (.func 18) #[] #[]) #[(wV g110 y6)])) fun v112 S113 =>
       gV v109 false fun g114 =>
       gV v109 false fun g115 =>
       bindV (wO g115 (aBin p .add 3 (wV g114 y29) (.int .i64 1))) fun v116 =>
       gV v109 false fun g117 =>
       gV v109 false fun g118 =>
       bindV (wO g118 (aBin p .sub 3 v116 (wV g117 y5))) fun v119 =>
       gV v109 false fun g120 =>
       bindS (wS g120 S113 (aBuiltin p W S113 .max #[3, 3] #[(.int .i64 0), v119])) fun v121 S122 =>
       gV v109 false fun g123 =>
       bindV (wO g123 (aBin p .neq 3 v112 v121)) fun v124 =>
       bindV (aPick v109 (.bool true) v124) fun v125 =>
       condK v125
        (
         some (.ret, ⟨#[y0, y1, y2, y3, (.bool false), y5, y6, y7, y29, v16, (.int .i64 3), (.int .i64 6), y12, y13, y14, y15, y16, y17, y18, y19, y20, y21, y22, y23, y24, y25, y26, y27, y28, y29, v14, y29, v15, v16, v16, y29, y5, v90, y6, (.int .i64 3), y29, v91, v93, (.int .i64 6), v95, v95, (wV g96 y6), v98, (wV g100 y29), v102, (wV g103 y5), v105, v108, v109, v109, (wV g110 y6), v112, (wV g114 y29), v116, (wV g117 y5), v119, v121, v124, v125, junk, y65, y66, y67, y68, y69, y70, y71, y72, y73, y74, y75, y76, y77, y78, y79, y80, y81, y82, y83, y84, y85, y86, y87, y88, y89], []⟩, S122)
        )
        (
         bindV (aBin p .add 3 y29 (.int .i64 1)) fun v126 =>
         la W c6_11111010 ⟨#[y0, y1, y2, y3, junk, y5, y6, y7, y29, v16, (.int .i64 3), (.int .i64 6), y12, y13, y14, y15, y16, y17, y18, y19, y20, y21, y22, y23, y24, y25, y26, y27, y28, v126, v14, y29, v15, v16, v16, y29, y5, v90, y6, (.int .i64 3), y29, v91, v93, (.int .i64 6), v95, v95, (wV g96 y6), v98, (wV g100 y29), v102, (wV g103 y5), v105, v108, v109, v109, (wV g110 y6), v112, (wV g114 y29), v116, (wV g117 y5), v119, v121, v124, v125, v126, y65, y66, y67, y68, y69, y70, y71, y72, y73, y74, y75, y76, y77, y78, y79, y80, y81, y82, y83, y84, y85, y86, y87, y88, y89], []⟩ S122
        )
      )
      (
       bindS (aCall p (cw W) S (.func (.func 19) #[] #[]) #[(.int .i64 3), y29]) fun v127 S128 =>
       bindS (aCall p (cw W) S128 (.func (.func 11) #[] #[]) #[y6, v127]) fun v129 S130 =>
       bindV (aBin p .neq 25 v129 (.int .i64 0)) fun v131 =>
       gV v131 false fun g132 =>
       gV v131 false fun g133 =>
       bindS (wS g133 S130 (aCall p (cw W) S130 (.func (.func 17) #[] #[]) #[(wV g132 y6)])) fun v134 S135 =>
       gV v131 false fun g136 =>
       gV v131 false fun g137 =>
       bindV (wO g137 (aBin p .add 3 (wV g136 y29) (.int .i64 1))) fun v138 =>
       gV v131 false fun g139 =>
       gV v131 false fun g140 =>
       bindS (wS g140 S135 (aBuiltin p W S135 .min #[3, 3] #[v138, (wV g139 y5)])) fun v141 S142 =>
       gV v131 false fun g143 =>
       bindV (wO g143 (aBin p .neq 3 v134 v141)) fun v144 =>
       bindV (aPick v131 (.bool true) v144) fun v145 =>
       gV v145 false fun g146 =>
       gV v145 false fun g147 =>
       bindS (wS g147 S142 (aCall p (cw W) S142 (.func (.func 18) #[] #[]) #[(wV g146 y6)])) fun v148 S149 =>
       gV v145 false fun g150 =>
       gV v145 false fun g151 =>
       bindV (wO g151 (aBin p .add 3 (wV g150 y29) (.int .i64 1))) fun v152 =>
       gV v145 false fun g153 =>
       gV v145 false fun g154 =>
       bindV (wO g154 (aBin p .sub 3 v152 (wV g153 y5))) fun v155 =>
       gV v145 false fun g156 =>
       bindS (wS g156 S149 (aBuiltin p W S149 .max #[3, 3] #[(.int .i64 0), v155])) fun v157 S158 =>
       gV v145 false fun g159 =>
       bindV (wO g159 (aBin p .neq 3 v148 v157)) fun v160 =>
       bindV (aPick v145 (.bool true) v160) fun v161 =>
       condK v161
        (
         some (.ret, ⟨#[y0, y1, y2, y3, (.bool false), y5, y6, y7, y29, v16, (.int .i64 3), (.int .i64 0), y12, y13, y14, y15, y16, y17, y18, y19, y20, y21, y22, y23, y24, y25, y26, y27, y28, y29, v14, y29, v15, v16, v16, y29, y5, v90, y6, (.int .i64 3), y29, v127, v129, (.int .i64 0), v131, v131, (wV g132 y6), v134, (wV g136 y29), v138, (wV g139 y5), v141, v144, v145, v145, (wV g146 y6), v148, (wV g150 y29), v152, (wV g153 y5), v155, v157, v160, v161, junk, y65, y66, y67, y68, y69, y70, y71, y72, y73, y74, y75, y76, y77, y78, y79, y80, y81, y82, y83, y84, y85, y86, y87, y88, y89], []⟩, S158)
        )
        (
         bindV (aBin p .add 3 y29 (.int .i64 1)) fun v162 =>
         la W c6_11111010 ⟨#[y0, y1, y2, y3, junk, y5, y6, y7, y29, v16, (.int .i64 3), (.int .i64 0), y12, y13, y14, y15, y16, y17, y18, y19, y20, y21, y22, y23, y24, y25, y26, y27, y28, v162, v14, y29, v15, v16, v16, y29, y5, v90, y6, (.int .i64 3), y29, v127, v129, (.int .i64 0), v131, v131, (wV g132 y6), v134, (wV g136 y29), v138, (wV g139 y5), v141, v144, v145, v145, (wV g146 y6), v148, (wV g150 y29), v152, (wV g153 y5), v155, v157, v160, v161, v162, y65, y66, y67, y68, y69, y70, y71, y72, y73, y74, y75, y76, y77, y78, y79, y80, y81, y82, y83, y84, y85, y86, y87, y88, y89], []⟩ S158
        )
      )
    )
  )
  (
   some (.exit 0, ⟨#[y0, y1, y2, y3, junk, y5, y6, y7, junk, junk, junk, junk, y12, y13, y14, y15, y16, y17, y18, y19, y20, y21, y22, y23, y24, y25, y26, y27, y28, y29, v14, junk, junk, junk, junk, junk, junk, junk, junk, junk, junk, junk, junk, junk, junk, junk, junk, junk, junk, junk, junk, junk, junk, junk, junk, junk, junk, junk, junk, junk, junk, junk, junk, junk, junk, y65, y66, y67, y68, y69, y70, y71, y72, y73, y74, y75, y76, y77, y78, y79, y80, y81, y82, y83, y84, y85, y86, y87, y88, y89], []⟩, S)
  )
  := (round_eq ok6_11111010 _ _).trans (by kernel_rfl)
theorem k6_11111010_0 (W : World) (y0 y1 y2 y3 y4 y5 y6 y7 y8 y9 y10 y11 y12 y13 y14 y15 y16 y17 y18 y19 y20 y21 y22 y23 y24 y25 y26 y27 y28 y29 y30 y31 y32 y33 y34 y35 y36 y37 y38 y39 y40 y41 y42 y43 y44 y45 y46 y47 y48 y49 y50 y51 y52 y53 y54 y55 y56 y57 y58 y59 y60 y61 y62 y63 y64 y65 y66 y67 y68 y69 y70 y71 y72 y73 y74 y75 y76 y77 y78 y79 y80 y81 y82 y83 y84 y85 y86 y87 y88 y89 : Value) (S : St) : kc W c6 [1, 1, 1, 1, 1, 0, 1, 0] f6 (.exit 0) ⟨#[y0, y1, y2, y3, y4, y5, y6, y7, y8, y9, y10, y11, y12, y13, y14, y15, y16, y17, y18, y19, y20, y21, y22, y23, y24, y25, y26, y27, y28, y29, y30, y31, y32, y33, y34, y35, y36, y37, y38, y39, y40, y41, y42, y43, y44, y45, y46, y47, y48, y49, y50, y51, y52, y53, y54, y55, y56, y57, y58, y59, y60, y61, y62, y63, y64, y65, y66, y67, y68, y69, y70, y71, y72, y73, y74, y75, y76, y77, y78, y79, y80, y81, y82, y83, y84, y85, y86, y87, y88, y89], []⟩ S =
 bindV (aLen p W S #[45] #[y1]) fun v1 =>
 bindV (aBin p .lss 3 v1 y5) fun v2 =>
 condK v2
  (
   bindS (aCall p (cw W) S (.func (.func 18) #[] #[]) #[y6]) fun v3 S4 =>
   bindV (aBin p .eql 3 v3 (.int .i64 0)) fun v5 =>
   some (v5, S4)
  )
  (
   bindS (aCall p (cw W) S (.func (.func 13) #[] #[]) #[y6]) fun v6 S7 =>
   bindV (still p (Instr.extract v6 0)) fun v8 =>
   bindV (still p (Instr.extract v6 1)) fun v9 =>
   bindS (aAlloc p S7 30) fun v10 S11 =>
   bindT (aStore p S11 30 v10 v8) fun S12 =>
   gV v9 true fun g13 =>
   gV v9 true fun g14 =>
   bindS (wS g14 S12 (aCall p (cw W) S12 (.func (.func 19) #[] #[]) #[(.int .i64 2), (.int .i64 9)])) fun v15 S16 =>
   gV v9 true fun g17 =>
   bindS (wS g17 S16 (aCall p (cw W) S16 (.func (.func 11) #[] #[]) #[(wV g13 y6), v15])) fun v18 S19 =>
   gV v9 true fun g20 =>
   bindV (wO g20 (aBin p .eql 25 v18 (.int .i64 0))) fun v21 =>
   bindV (aPick v9 v21 (.bool false)) fun v22 =>
   gV v22 true fun g23 =>
   gV v22 true fun g24 =>
   bindS (wS g24 S19 (aCall p (cw W) S19 (.func (.func 19) #[] #[]) #[(.int .i64 2), (.int .i64 9)])) fun v25 S26 =>
   gV v22 true fun g27 =>
   bindS (wS g27 S26 (aCall p (cw W) S26 (.func (.func 11) #[] #[]) #[(wV g23 y6), v25])) fun v28 S29 =>
   gV v22 true fun g30 =>
   bindV (wO g30 (aBin p .eql 25 v28 (.int .i64 6))) fun v31 =>
   bindV (aPick v22 v31 (.bool false)) fun v32 =>
   some (v32, S29)
  )
  := by kernel_rfl
theorem k6_11111010_ret (W : World) (y0 y1 y2 y3 y4 y5 y6 y7 y8 y9 y10 y11 y12 y13 y14 y15 y16 y17 y18 y19 y20 y21 y22 y23 y24 y25 y26 y27 y28 y29 y30 y31 y32 y33 y34 y35 y36 y37 y38 y39 y40 y41 y42 y43 y44 y45 y46 y47 y48 y49 y50 y51 y52 y53 y54 y55 y56 y57 y58 y59 y60 y61 y62 y63 y64 y65 y66 y67 y68 y69 y70 y71 y72 y73 y74 y75 y76 y77 y78 y79 y80 y81 y82 y83 y84 y85 y86 y87 y88 y89 : Value) (S : St) : kc W c6 [1, 1, 1, 1, 1, 0, 1, 0] f6 (.ret) ⟨#[y0, y1, y2, y3, y4, y5, y6, y7, y8, y9, y10, y11, y12, y13, y14, y15, y16, y17, y18, y19, y20, y21, y22, y23, y24, y25, y26, y27, y28, y29, y30, y31, y32, y33, y34, y35, y36, y37, y38, y39, y40, y41, y42, y43, y44, y45, y46, y47, y48, y49, y50, y51, y52, y53, y54, y55, y56, y57, y58, y59, y60, y61, y62, y63, y64, y65, y66, y67, y68, y69, y70, y71, y72, y73, y74, y75, y76, y77, y78, y79, y80, y81, y82, y83, y84, y85, y86, y87, y88, y89], []⟩ S =
 some (y4, S)
  := by kernel_rfl
end Go.Proofs.Ytjfmapoangigoaa.F
