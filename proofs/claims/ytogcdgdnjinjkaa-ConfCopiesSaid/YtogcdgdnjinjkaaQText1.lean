/- The functions that the laws run, laid out for the evaluator, and facts about the types they use; printed by a program for this claim. No condition. -/
import Derived.Test.YtogcdgdnjinjkaaProg
import Derived.Test.YtogcdgdnjinjkaaQText0
set_option linter.unusedVariables false
set_option linter.unusedSimpArgs false
section
namespace Go.Proofs.Ytogcdgdnjinjkaa.F
open Go Go.Proofs.Ytogcdgdnjinjkaa.E
set_option linter.unusedVariables false
set_option maxRecDepth 100000
noncomputable abbrev f37 := Try.f37
noncomputable def c37 : Code := bodyOf f37
theorem ok37 : codeOk p c37 = true := by kernel_rfl
noncomputable def c37_11010 : Code := codeAt [1, 1, 0, 1, 0, 0] c37
theorem ok37_11010 : codeOk p c37_11010 = true := by kernel_rfl
noncomputable def l37_11010 (W : World) (y0 y1 y2 y3 y5 y11 y12 y13 y14 y15 y16 y17 y18 : Value) (S : St) : Out := la W c37_11010 ⟨#[y0, y1, y2, y3, junk, y5, junk, junk, junk, junk, junk, y11, y12, y13, y14, y15, y16, y17, y18, junk, junk, junk, junk, junk, junk, junk, junk, junk, junk, junk, junk, junk, junk, junk, junk, junk, junk, junk, junk, junk, junk, junk, junk, junk, junk, junk, junk, junk, junk, junk, junk, junk, junk, junk, junk, junk, junk, junk, junk, junk, junk, junk, junk, junk, junk, junk, junk, junk, junk, junk, junk, junk, junk, junk, junk, junk, junk, junk, junk, junk, junk, junk, junk, junk, junk, junk, junk, junk, junk, junk, junk, junk, junk, junk, junk, junk, junk, junk, junk, junk, junk, junk, junk, junk, junk, junk, junk, junk, junk, junk, junk, junk, junk, junk, junk, junk, junk, junk, junk, junk, junk, junk, junk, junk, junk, junk, junk, junk, junk, junk, junk], []⟩ S
noncomputable def c37_11010010011110 : Code := codeAt [1, 1, 0, 1, 0, 0, 1, 0, 0, 1, 1, 1, 1, 0, 0] c37
theorem ok37_11010010011110 : codeOk p c37_11010010011110 = true := by kernel_rfl
noncomputable def l37_11010010011110 (W : World) (y0 y1 y2 y3 y5 y6 y7 y11 y12 y13 y14 y15 y16 y17 y18 y19 y20 y21 y22 y23 y24 y25 y26 y27 y28 y29 y30 y31 y32 y33 y34 y35 y36 y37 y38 y39 y40 y41 y42 y43 y44 y45 y46 y47 y48 y49 y50 y51 y52 y53 y54 y55 y56 y57 y58 y59 y60 y61 y62 y63 y64 y65 y66 y67 y68 y69 : Value) (S : St) : Out := la W c37_11010010011110 ⟨#[y0, y1, y2, y3, junk, y5, y6, y7, junk, junk, junk, y11, y12, y13, y14, y15, y16, y17, y18, y19, y20, y21, y22, y23, y24, y25, y26, y27, y28, y29, y30, y31, y32, y33, y34, y35, y36, y37, y38, y39, y40, y41, y42, y43, y44, y45, y46, y47, y48, y49, y50, y51, y52, y53, y54, y55, y56, y57, y58, y59, y60, y61, y62, y63, y64, y65, y66, y67, y68, y69, junk, junk, junk, junk, junk, junk, junk, junk, junk, junk, junk, junk, junk, junk, junk, junk, junk, junk, junk, junk, junk, junk, junk, junk, junk, junk, junk, junk, junk, junk, junk, junk, junk, junk, junk, junk, junk, junk, junk, junk, junk, junk, junk, junk, junk, junk, junk, junk, junk, junk, junk, junk, junk, junk, junk, junk, junk, junk, junk, junk, junk], []⟩ S
theorem eq37 (W : World) (x0 x1 : Value) (S : St) : cw W 37 #[x0, x1] S =
 gcR #[x0, x1] S (
 bindS (aBox S x0) fun v1 S2 =>
 bindV (aBin p .eql 3 x1 (.int .i64 5)) fun v3 =>
 gV v3 true fun g4 =>
 bindV (wO g4 (aFieldAddr p 26 v1 6)) fun v5 =>
 gV v3 true fun g6 =>
 bindV (wO g6 (aLoad p W S2 23 v5)) fun v7 =>
 gV v3 true fun g8 =>
 bindV (wO g8 (aLen p W S2 #[23] #[v7])) fun v9 =>
 gV v3 true fun g10 =>
 bindV (wO g10 (aBin p .gtr 3 v9 (.int .i64 16))) fun v11 =>
 bindV (aPick v3 v11 (.bool false)) fun v12 =>
 condK v12
  (
   some ((.bool true), S2)
  )
  (
   bindO (l37_11010 W x0 x1 v1 undef (.int .i64 0) x1 v3 v3 v5 v7 v9 v11 v12 S2) (kc W c37 [1, 1, 0, 1, 0] f37)
  )
 )
  := (fn_eq Try.func37 rfl ok37 _ _).trans (by kernel_rfl)
theorem r37_11010 (W : World) (y0 y1 y2 y3 y5 y11 y12 y13 y14 y15 y16 y17 y18 : Value) (S : St) : l37_11010 W y0 y1 y2 y3 y5 y11 y12 y13 y14 y15 y16 y17 y18 S =
 bindV (aFieldAddr p 26 y2 6) fun v13 =>
 bindV (aLoad p W S 23 v13) fun v14 =>
 bindV (aLen p W S #[23] #[v14]) fun v15 =>
 bindV (aBin p .lss 3 y5 v15) fun v16 =>
 condK v16
  (
   bindV (aFieldAddr p 26 y2 6) fun v17 =>
   bindV (aLoad p W S 23 v17) fun v18 =>
   bindV (aIndexAddr p 23 v18 y5) fun v19 =>
   bindV (aLoad p W S 32 v19) fun v20 =>
   bindS (aAlloc p S 32) fun v21 S22 =>
   bindT (aStore p S22 32 v21 v20) fun S23 =>
   bindV (aBin p .eql 3 y1 (.int .i64 5)) fun v24 =>
   gV v24 true fun g25 =>
   bindV (wO g25 (aFieldAddr p 26 y2 0)) fun v26 =>
   gV v24 true fun g27 =>
   bindV (wO g27 (aLoad p W S23 3 v26)) fun v28 =>
   gV v24 true fun g29 =>
   bindV (wO g29 (aFieldAddr p 32 v21 0)) fun v30 =>
   gV v24 true fun g31 =>
   bindV (wO g31 (aLoad p W S23 3 v30)) fun v32 =>
   gV v24 true fun g33 =>
   bindV (wO g33 (aFieldAddr p 32 v21 1)) fun v34 =>
   gV v24 true fun g35 =>
   bindV (wO g35 (aLoad p W S23 30 v34)) fun v36 =>
   gV v24 true fun g37 =>
   bindV (wO g37 (aFieldAddr p 32 v21 3)) fun v38 =>
   gV v24 true fun g39 =>
   bindV (wO g39 (aLoad p W S23 3 v38)) fun v40 =>
   gV v24 true fun g41 =>
   bindS (wS g41 S23 (aCall p (cw W) S23 (.func (.func 38) #[] #[]) #[v28, v32, v36, v40])) fun v42 S43 =>
   gV v24 true fun g44 =>
   bindV (wO g44 (aUn p .not v42)) fun v45 =>
   bindV (aPick v24 v45 (.bool false)) fun v46 =>
   condK v46
    (
     some (.ret, ⟨#[y0, y1, y2, y3, (.bool true), y5, v21, junk, junk, junk, junk, y11, y12, y13, y14, y15, y16, y17, y18, y5, v13, v14, v15, v16, junk, junk, v17, v18, y5, v19, v20, y1, v24, v24, v26, v28, v30, v32, v34, v36, v38, v40, v42, v45, v46, junk, junk, junk, junk, junk, junk, junk, junk, junk, junk, junk, junk, junk, junk, junk, junk, junk, junk, junk, junk, junk, junk, junk, junk, junk, junk, junk, junk, junk, junk, junk, junk, junk, junk, junk, junk, junk, junk, junk, junk, junk, junk, junk, junk, junk, junk, junk, junk, junk, junk, junk, junk, junk, junk, junk, junk, junk, junk, junk, junk, junk, junk, junk, junk, junk, junk, junk, junk, junk, junk, junk, junk, junk, junk, junk, junk, junk, junk, junk, junk, junk, junk, junk, junk, junk, junk], []⟩, S43)
    )
    (
     bindV (aBin p .eql 3 y1 (.int .i64 6)) fun v47 =>
     gV v47 true fun g48 =>
     bindV (wO g48 (aFieldAddr p 32 v21 2)) fun v49 =>
     gV v47 true fun g50 =>
     bindV (wO g50 (aLoad p W S43 2 v49)) fun v51 =>
     gV v47 true fun g52 =>
     bindV (wO g52 (aLoad p W S43 26 y2)) fun v53 =>
     gV v47 true fun g54 =>
     bindS (wS g54 S43 (qS true S43 fun S_ => aCall p (cw W) S_ (.func (.func 20) #[] #[]) #[v53])) fun v55 S56 =>
     gV v47 true fun g57 =>
     bindV (wO g57 (aBin p .lss 2 v51 v55)) fun v58 =>
     gV v47 true fun g59 =>
     gV (wV g59 v58) false fun g60 =>
     bindV (wO g60 (aFieldAddr p 32 v21 2)) fun v61 =>
     gV (wV g59 v58) false fun g62 =>
     bindV (wO g62 (aLoad p W S56 2 v61)) fun v63 =>
     gV (wV g59 v58) false fun g64 =>
     bindV (wO g64 (aFieldAddr p 26 y2 1)) fun v65 =>
     gV (wV g59 v58) false fun g66 =>
     bindV (wO g66 (aLoad p W S56 2 v65)) fun v67 =>
     gV (wV g59 v58) false fun g68 =>
     bindV (wO g68 (aBin p .geq 2 v63 v67)) fun v69 =>
     gV v47 true fun g70 =>
     bindV (wO g70 (aPick (wV g59 v58) (.bool true) v69)) fun v71 =>
     gV v47 true fun g72 =>
     gV (wV g72 v71) false fun g73 =>
     bindV (wO g73 (aLoad p W S56 26 y2)) fun v74 =>
     gV (wV g72 v71) false fun g75 =>
     bindV (wO g75 (aLoad p W S56 32 v21)) fun v76 =>
     gV (wV g72 v71) false fun g77 =>
     bindS (wS g77 S56 (qS true S56 fun S_ => aCall p (cw W) S_ (.func (.func 14) #[] #[]) #[v74, v76])) fun v78 S79 =>
     gV (wV g72 v71) false fun g80 =>
     bindV (wO g80 (still p (Instr.index 33 v78 (.int .i64 4)))) fun v81 =>
     gV (wV g72 v71) false fun g82 =>
     bindV (wO g82 (aFieldAddr p 26 y2 1)) fun v83 =>
     gV (wV g72 v71) false fun g84 =>
     bindV (wO g84 (aLoad p W S79 2 v83)) fun v85 =>
     gV (wV g72 v71) false fun g86 =>
     bindV (wO g86 (aBin p .geq 2 v81 v85)) fun v87 =>
     gV v47 true fun g88 =>
     bindV (wO g88 (aPick (wV g72 v71) (.bool true) v87)) fun v89 =>
     bindV (aPick v47 v89 (.bool false)) fun v90 =>
     condK v90
      (
       some (.ret, ⟨#[y0, y1, y2, y3, (.bool true), y5, v21, junk, junk, junk, junk, y11, y12, y13, y14, y15, y16, y17, y18, y5, v13, v14, v15, v16, junk, junk, v17, v18, y5, v19, v20, y1, v24, v24, v26, v28, v30, v32, v34, v36, v38, v40, v42, v45, v46, y1, v47, v47, v49, v51, v53, v55, v58, (wV g59 v58), v61, v63, v65, v67, v69, v71, (wV g72 v71), v74, v76, v78, v81, v83, v85, v87, v89, v90, junk, junk, junk, junk, junk, junk, junk, junk, junk, junk, junk, junk, junk, junk, junk, junk, junk, junk, junk, junk, junk, junk, junk, junk, junk, junk, junk, junk, junk, junk, junk, junk, junk, junk, junk, junk, junk, junk, junk, junk, junk, junk, junk, junk, junk, junk, junk, junk, junk, junk, junk, junk, junk, junk, junk, junk, junk, junk, junk, junk, junk], []⟩, S79)
      )
      (
       bindO (l37_11010010011110 W y0 y1 y2 y3 y5 v21 (.int .i64 0) y11 y12 y13 y14 y15 y16 y17 y18 y5 v13 v14 v15 v16 junk junk v17 v18 y5 v19 v20 y1 v24 v24 v26 v28 v30 v32 v34 v36 v38 v40 v42 v45 v46 y1 v47 v47 v49 v51 v53 v55 v58 (wV g59 v58) v61 v63 v65 v67 v69 v71 (wV g72 v71) v74 v76 v78 v81 v83 v85 v87 v89 v90 S79) (rk W c37_11010 [1, 0, 0, 1, 1, 1, 1, 0])
      )
    )
  )
  (
   some (.exit 0, ⟨#[y0, y1, y2, y3, junk, y5, junk, junk, junk, junk, junk, y11, y12, y13, y14, y15, y16, y17, y18, y5, v13, v14, v15, v16, junk, junk, junk, junk, junk, junk, junk, junk, junk, junk, junk, junk, junk, junk, junk, junk, junk, junk, junk, junk, junk, junk, junk, junk, junk, junk, junk, junk, junk, junk, junk, junk, junk, junk, junk, junk, junk, junk, junk, junk, junk, junk, junk, junk, junk, junk, junk, junk, junk, junk, junk, junk, junk, junk, junk, junk, junk, junk, junk, junk, junk, junk, junk, junk, junk, junk, junk, junk, junk, junk, junk, junk, junk, junk, junk, junk, junk, junk, junk, junk, junk, junk, junk, junk, junk, junk, junk, junk, junk, junk, junk, junk, junk, junk, junk, junk, junk, junk, junk, junk, junk, junk, junk, junk, junk, junk, junk], []⟩, S)
  )
  := (round_eq ok37_11010 ⟨#[y0, y1, y2, y3, junk, y5, junk, junk, junk, junk, junk, y11, y12, y13, y14, y15, y16, y17, y18, junk, junk, junk, junk, junk, junk, junk, junk, junk, junk, junk, junk, junk, junk, junk, junk, junk, junk, junk, junk, junk, junk, junk, junk, junk, junk, junk, junk, junk, junk, junk, junk, junk, junk, junk, junk, junk, junk, junk, junk, junk, junk, junk, junk, junk, junk, junk, junk, junk, junk, junk, junk, junk, junk, junk, junk, junk, junk, junk, junk, junk, junk, junk, junk, junk, junk, junk, junk, junk, junk, junk, junk, junk, junk, junk, junk, junk, junk, junk, junk, junk, junk, junk, junk, junk, junk, junk, junk, junk, junk, junk, junk, junk, junk, junk, junk, junk, junk, junk, junk, junk, junk, junk, junk, junk, junk, junk, junk, junk, junk, junk, junk], []⟩ S).trans (by kernel_rfl)
theorem r37_11010010011110 (W : World) (y0 y1 y2 y3 y5 y6 y7 y11 y12 y13 y14 y15 y16 y17 y18 y19 y20 y21 y22 y23 y24 y25 y26 y27 y28 y29 y30 y31 y32 y33 y34 y35 y36 y37 y38 y39 y40 y41 y42 y43 y44 y45 y46 y47 y48 y49 y50 y51 y52 y53 y54 y55 y56 y57 y58 y59 y60 y61 y62 y63 y64 y65 y66 y67 y68 y69 : Value) (S : St) : l37_11010010011110 W y0 y1 y2 y3 y5 y6 y7 y11 y12 y13 y14 y15 y16 y17 y18 y19 y20 y21 y22 y23 y24 y25 y26 y27 y28 y29 y30 y31 y32 y33 y34 y35 y36 y37 y38 y39 y40 y41 y42 y43 y44 y45 y46 y47 y48 y49 y50 y51 y52 y53 y54 y55 y56 y57 y58 y59 y60 y61 y62 y63 y64 y65 y66 y67 y68 y69 S =
 bindV (aBin p .lss 3 y7 y5) fun v91 =>
 gV v91 true fun g92 =>
 gV v91 true fun g93 =>
 bindV (wO g93 (aBin p .gtr 3 (wV g92 y1) (.int .i64 6))) fun v94 =>
 bindV (aPick v91 v94 (.bool false)) fun v95 =>
 condK v95
  (
   bindV (aFieldAddr p 26 y2 6) fun v96 =>
   bindV (aLoad p W S 23 v96) fun v97 =>
   bindV (aIndexAddr p 23 v97 y7) fun v98 =>
   bindV (aLoad p W S 32 v98) fun v99 =>
   bindS (aAlloc p S 32) fun v100 S101 =>
   bindT (aStore p S101 32 v100 v99) fun S102 =>
   bindV (aFieldAddr p 32 y6 3) fun v103 =>
   bindV (aLoad p W S102 3 v103) fun v104 =>
   bindS (qS true S102 fun S_ => aCall p (cw W) S_ (.func (.func 39) #[] #[]) #[v104]) fun v105 S106 =>
   bindV (aFieldAddr p 32 v100 3) fun v107 =>
   bindV (aLoad p W S106 3 v107) fun v108 =>
   bindS (aCall p (cw W) S106 (.func (.func 39) #[] #[]) #[v108]) fun v109 S110 =>
   bindV (aBin p .eql 3 y1 (.int .i64 7)) fun v111 =>
   gV v111 true fun g112 =>
   bindV (wO g112 (aFieldAddr p 32 y6 0)) fun v113 =>
   gV v111 true fun g114 =>
   bindV (wO g114 (aLoad p W S110 3 v113)) fun v115 =>
   gV v111 true fun g116 =>
   bindV (wO g116 (aFieldAddr p 32 v100 0)) fun v117 =>
   gV v111 true fun g118 =>
   bindV (wO g118 (aLoad p W S110 3 v117)) fun v119 =>
   gV v111 true fun g120 =>
   bindV (wO g120 (aBin p .eql 3 v115 v119)) fun v121 =>
   bindV (aPick v111 v121 (.bool false)) fun v122 =>
   gV v122 true fun g123 =>
   bindV (wO g123 (aFieldAddr p 32 y6 2)) fun v124 =>
   gV v122 true fun g125 =>
   bindV (wO g125 (aLoad p W S110 2 v124)) fun v126 =>
   gV v122 true fun g127 =>
   gV v122 true fun g128 =>
   bindV (wO g128 (aFieldAddr p 32 v100 2)) fun v129 =>
   gV v122 true fun g130 =>
   bindV (wO g130 (aLoad p W S110 2 v129)) fun v131 =>
   gV v122 true fun g132 =>
   gV v122 true fun g133 =>
   bindS (wS g133 S110 (aCall p (cw W) S110 (.func (.func 66) #[] #[]) #[v126, (wV g127 v105), v131, (wV g132 v109)])) fun v134 S135 =>
   bindV (aPick v122 v134 (.bool false)) fun v136 =>
   condK v136
    (
     some (.ret, ⟨#[y0, y1, y2, y3, (.bool true), y5, y6, y7, v100, v105, v109, y11, y12, y13, y14, y15, y16, y17, y18, y19, y20, y21, y22, y23, y24, y25, y26, y27, y28, y29, y30, y31, y32, y33, y34, y35, y36, y37, y38, y39, y40, y41, y42, y43, y44, y45, y46, y47, y48, y49, y50, y51, y52, y53, y54, y55, y56, y57, y58, y59, y60, y61, y62, y63, y64, y65, y66, y67, y68, y69, y7, y5, v91, v91, (wV g92 y1), v94, v95, junk, junk, v96, v97, y7, v98, v99, v103, v104, v105, v107, v108, v109, y1, v111, v111, v113, v115, v117, v119, v121, v122, v122, v124, v126, (wV g127 v105), v129, v131, (wV g132 v109), v134, v136, junk, junk, junk, junk, junk, junk, junk, junk, junk, junk, junk, junk, junk, junk, junk, junk, junk, junk, junk, junk, junk, junk, junk], []⟩, S135)
    )
    (
     bindV (aBin p .eql 3 y1 (.int .i64 8)) fun v137 =>
     gV v137 true fun g138 =>
     bindV (wO g138 (aFieldAddr p 32 y6 1)) fun v139 =>
     gV v137 true fun g140 =>
     bindV (wO g140 (aLoad p W S135 30 v139)) fun v141 =>
     gV v137 true fun g142 =>
     bindV (wO g142 (aFieldAddr p 32 v100 1)) fun v143 =>
     gV v137 true fun g144 =>
     bindV (wO g144 (aLoad p W S135 30 v143)) fun v145 =>
     gV v137 true fun g146 =>
     bindV (wO g146 (aBin p .and 30 v141 v145)) fun v147 =>
     gV v137 true fun g148 =>
     bindV (wO g148 (aBin p .neq 30 v147 (.int .u32 0))) fun v149 =>
     bindV (aPick v137 v149 (.bool false)) fun v150 =>
     gV v150 true fun g151 =>
     bindV (wO g151 (aLoad p W S135 26 y2)) fun v152 =>
     gV v150 true fun g153 =>
     bindV (wO g153 (aLoad p W S135 32 y6)) fun v154 =>
     gV v150 true fun g155 =>
     bindS (wS g155 S135 (qS true S135 fun S_ => aCall p (cw W) S_ (.func (.func 14) #[] #[]) #[v152, v154])) fun v156 S157 =>
     gV v150 true fun g158 =>
     bindV (wO g158 (still p (Instr.index 33 v156 (.int .i64 2)))) fun v159 =>
     gV v150 true fun g160 =>
     gV v150 true fun g161 =>
     bindV (wO g161 (aLoad p W S157 26 y2)) fun v162 =>
     gV v150 true fun g163 =>
     bindV (wO g163 (aLoad p W S157 32 v100)) fun v164 =>
     gV v150 true fun g165 =>
     bindS (wS g165 S157 (aCall p (cw W) S157 (.func (.func 14) #[] #[]) #[v162, v164])) fun v166 S167 =>
     gV v150 true fun g168 =>
     bindV (wO g168 (still p (Instr.index 33 v166 (.int .i64 2)))) fun v169 =>
     gV v150 true fun g170 =>
     gV v150 true fun g171 =>
     bindS (wS g171 S167 (aCall p (cw W) S167 (.func (.func 66) #[] #[]) #[v159, (wV g160 v105), v169, (wV g170 v109)])) fun v172 S173 =>
     bindV (aPick v150 v172 (.bool false)) fun v174 =>
     condK v174
      (
       some (.ret, ⟨#[y0, y1, y2, y3, (.bool true), y5, y6, y7, v100, v105, v109, y11, y12, y13, y14, y15, y16, y17, y18, y19, y20, y21, y22, y23, y24, y25, y26, y27, y28, y29, y30, y31, y32, y33, y34, y35, y36, y37, y38, y39, y40, y41, y42, y43, y44, y45, y46, y47, y48, y49, y50, y51, y52, y53, y54, y55, y56, y57, y58, y59, y60, y61, y62, y63, y64, y65, y66, y67, y68, y69, y7, y5, v91, v91, (wV g92 y1), v94, v95, junk, junk, v96, v97, y7, v98, v99, v103, v104, v105, v107, v108, v109, y1, v111, v111, v113, v115, v117, v119, v121, v122, v122, v124, v126, (wV g127 v105), v129, v131, (wV g132 v109), v134, v136, y1, v137, v137, v139, v141, v143, v145, v147, v149, v150, v150, v152, v154, v156, v159, (wV g160 v105), v162, v164, v166, v169, (wV g170 v109), v172, v174], []⟩, S173)
      )
      (
       bindV (aBin p .add 3 y7 (.int .i64 1)) fun v175 =>
       l37_11010010011110 W y0 y1 y2 y3 y5 y6 v175 y11 y12 y13 y14 y15 y16 y17 y18 y19 y20 y21 y22 y23 y24 y25 y26 y27 y28 y29 y30 y31 y32 y33 y34 y35 y36 y37 y38 y39 y40 y41 y42 y43 y44 y45 y46 y47 y48 y49 y50 y51 y52 y53 y54 y55 y56 y57 y58 y59 y60 y61 y62 y63 y64 y65 y66 y67 y68 y69 S173
      )
    )
  )
  (
   some (.exit 2, ⟨#[y0, y1, y2, y3, junk, y5, y6, y7, junk, junk, junk, y11, y12, y13, y14, y15, y16, y17, y18, y19, y20, y21, y22, y23, y24, y25, y26, y27, y28, y29, y30, y31, y32, y33, y34, y35, y36, y37, y38, y39, y40, y41, y42, y43, y44, y45, y46, y47, y48, y49, y50, y51, y52, y53, y54, y55, y56, y57, y58, y59, y60, y61, y62, y63, y64, y65, y66, y67, y68, y69, y7, y5, v91, v91, (wV g92 y1), v94, v95, junk, junk, junk, junk, junk, junk, junk, junk, junk, junk, junk, junk, junk, junk, junk, junk, junk, junk, junk, junk, junk, junk, junk, junk, junk, junk, junk, junk, junk, junk, junk, junk, junk, junk, junk, junk, junk, junk, junk, junk, junk, junk, junk, junk, junk, junk, junk, junk, junk, junk, junk, junk, junk, junk], []⟩, S)
  )
  := (round_eq ok37_11010010011110 ⟨#[y0, y1, y2, y3, junk, y5, y6, y7, junk, junk, junk, y11, y12, y13, y14, y15, y16, y17, y18, y19, y20, y21, y22, y23, y24, y25, y26, y27, y28, y29, y30, y31, y32, y33, y34, y35, y36, y37, y38, y39, y40, y41, y42, y43, y44, y45, y46, y47, y48, y49, y50, y51, y52, y53, y54, y55, y56, y57, y58, y59, y60, y61, y62, y63, y64, y65, y66, y67, y68, y69, junk, junk, junk, junk, junk, junk, junk, junk, junk, junk, junk, junk, junk, junk, junk, junk, junk, junk, junk, junk, junk, junk, junk, junk, junk, junk, junk, junk, junk, junk, junk, junk, junk, junk, junk, junk, junk, junk, junk, junk, junk, junk, junk, junk, junk, junk, junk, junk, junk, junk, junk, junk, junk, junk, junk, junk, junk, junk, junk, junk, junk], []⟩ S).trans (by kernel_rfl)
theorem k37_11010_0 (W : World) (y0 y1 y2 y3 y4 y5 y6 y7 y8 y9 y10 y11 y12 y13 y14 y15 y16 y17 y18 y19 y20 y21 y22 y23 y24 y25 y26 y27 y28 y29 y30 y31 y32 y33 y34 y35 y36 y37 y38 y39 y40 y41 y42 y43 y44 y45 y46 y47 y48 y49 y50 y51 y52 y53 y54 y55 y56 y57 y58 y59 y60 y61 y62 y63 y64 y65 y66 y67 y68 y69 y70 y71 y72 y73 y74 y75 y76 y77 y78 y79 y80 y81 y82 y83 y84 y85 y86 y87 y88 y89 y90 y91 y92 y93 y94 y95 y96 y97 y98 y99 y100 y101 y102 y103 y104 y105 y106 y107 y108 y109 y110 y111 y112 y113 y114 y115 y116 y117 y118 y119 y120 y121 y122 y123 y124 y125 y126 y127 y128 y129 y130 : Value) (S : St) : kc W c37 [1, 1, 0, 1, 0] f37 (.exit 0) ⟨#[y0, y1, y2, y3, y4, y5, y6, y7, y8, y9, y10, y11, y12, y13, y14, y15, y16, y17, y18, y19, y20, y21, y22, y23, y24, y25, y26, y27, y28, y29, y30, y31, y32, y33, y34, y35, y36, y37, y38, y39, y40, y41, y42, y43, y44, y45, y46, y47, y48, y49, y50, y51, y52, y53, y54, y55, y56, y57, y58, y59, y60, y61, y62, y63, y64, y65, y66, y67, y68, y69, y70, y71, y72, y73, y74, y75, y76, y77, y78, y79, y80, y81, y82, y83, y84, y85, y86, y87, y88, y89, y90, y91, y92, y93, y94, y95, y96, y97, y98, y99, y100, y101, y102, y103, y104, y105, y106, y107, y108, y109, y110, y111, y112, y113, y114, y115, y116, y117, y118, y119, y120, y121, y122, y123, y124, y125, y126, y127, y128, y129, y130], []⟩ S =
 some ((.bool false), S)
  := by kernel_rfl
theorem k37_11010_ret (W : World) (y0 y1 y2 y3 y4 y5 y6 y7 y8 y9 y10 y11 y12 y13 y14 y15 y16 y17 y18 y19 y20 y21 y22 y23 y24 y25 y26 y27 y28 y29 y30 y31 y32 y33 y34 y35 y36 y37 y38 y39 y40 y41 y42 y43 y44 y45 y46 y47 y48 y49 y50 y51 y52 y53 y54 y55 y56 y57 y58 y59 y60 y61 y62 y63 y64 y65 y66 y67 y68 y69 y70 y71 y72 y73 y74 y75 y76 y77 y78 y79 y80 y81 y82 y83 y84 y85 y86 y87 y88 y89 y90 y91 y92 y93 y94 y95 y96 y97 y98 y99 y100 y101 y102 y103 y104 y105 y106 y107 y108 y109 y110 y111 y112 y113 y114 y115 y116 y117 y118 y119 y120 y121 y122 y123 y124 y125 y126 y127 y128 y129 y130 : Value) (S : St) : kc W c37 [1, 1, 0, 1, 0] f37 (.ret) ⟨#[y0, y1, y2, y3, y4, y5, y6, y7, y8, y9, y10, y11, y12, y13, y14, y15, y16, y17, y18, y19, y20, y21, y22, y23, y24, y25, y26, y27, y28, y29, y30, y31, y32, y33, y34, y35, y36, y37, y38, y39, y40, y41, y42, y43, y44, y45, y46, y47, y48, y49, y50, y51, y52, y53, y54, y55, y56, y57, y58, y59, y60, y61, y62, y63, y64, y65, y66, y67, y68, y69, y70, y71, y72, y73, y74, y75, y76, y77, y78, y79, y80, y81, y82, y83, y84, y85, y86, y87, y88, y89, y90, y91, y92, y93, y94, y95, y96, y97, y98, y99, y100, y101, y102, y103, y104, y105, y106, y107, y108, y109, y110, y111, y112, y113, y114, y115, y116, y117, y118, y119, y120, y121, y122, y123, y124, y125, y126, y127, y128, y129, y130], []⟩ S =
 some (y4, S)
  := by kernel_rfl
theorem k37_11010010011110_2 (W : World) (y0 y1 y2 y3 y4 y5 y6 y7 y8 y9 y10 y11 y12 y13 y14 y15 y16 y17 y18 y19 y20 y21 y22 y23 y24 y25 y26 y27 y28 y29 y30 y31 y32 y33 y34 y35 y36 y37 y38 y39 y40 y41 y42 y43 y44 y45 y46 y47 y48 y49 y50 y51 y52 y53 y54 y55 y56 y57 y58 y59 y60 y61 y62 y63 y64 y65 y66 y67 y68 y69 y70 y71 y72 y73 y74 y75 y76 y77 y78 y79 y80 y81 y82 y83 y84 y85 y86 y87 y88 y89 y90 y91 y92 y93 y94 y95 y96 y97 y98 y99 y100 y101 y102 y103 y104 y105 y106 y107 y108 y109 y110 y111 y112 y113 y114 y115 y116 y117 y118 y119 y120 y121 y122 y123 y124 y125 y126 y127 y128 y129 y130 : Value) (S : St) : rk W c37_11010 [1, 0, 0, 1, 1, 1, 1, 0] (.exit 2) ⟨#[y0, y1, y2, y3, y4, y5, y6, y7, y8, y9, y10, y11, y12, y13, y14, y15, y16, y17, y18, y19, y20, y21, y22, y23, y24, y25, y26, y27, y28, y29, y30, y31, y32, y33, y34, y35, y36, y37, y38, y39, y40, y41, y42, y43, y44, y45, y46, y47, y48, y49, y50, y51, y52, y53, y54, y55, y56, y57, y58, y59, y60, y61, y62, y63, y64, y65, y66, y67, y68, y69, y70, y71, y72, y73, y74, y75, y76, y77, y78, y79, y80, y81, y82, y83, y84, y85, y86, y87, y88, y89, y90, y91, y92, y93, y94, y95, y96, y97, y98, y99, y100, y101, y102, y103, y104, y105, y106, y107, y108, y109, y110, y111, y112, y113, y114, y115, y116, y117, y118, y119, y120, y121, y122, y123, y124, y125, y126, y127, y128, y129, y130], []⟩ S =
 bindV (aBin p .add 3 y5 (.int .i64 1)) fun v1 =>
 l37_11010 W y0 y1 y2 y3 v1 y11 y12 y13 y14 y15 y16 y17 y18 S
  := by kernel_rfl
theorem k37_11010010011110_ret (W : World) (y0 y1 y2 y3 y4 y5 y6 y7 y8 y9 y10 y11 y12 y13 y14 y15 y16 y17 y18 y19 y20 y21 y22 y23 y24 y25 y26 y27 y28 y29 y30 y31 y32 y33 y34 y35 y36 y37 y38 y39 y40 y41 y42 y43 y44 y45 y46 y47 y48 y49 y50 y51 y52 y53 y54 y55 y56 y57 y58 y59 y60 y61 y62 y63 y64 y65 y66 y67 y68 y69 y70 y71 y72 y73 y74 y75 y76 y77 y78 y79 y80 y81 y82 y83 y84 y85 y86 y87 y88 y89 y90 y91 y92 y93 y94 y95 y96 y97 y98 y99 y100 y101 y102 y103 y104 y105 y106 y107 y108 y109 y110 y111 y112 y113 y114 y115 y116 y117 y118 y119 y120 y121 y122 y123 y124 y125 y126 y127 y128 y129 y130 : Value) (S : St) : rk W c37_11010 [1, 0, 0, 1, 1, 1, 1, 0] (.ret) ⟨#[y0, y1, y2, y3, y4, y5, y6, y7, y8, y9, y10, y11, y12, y13, y14, y15, y16, y17, y18, y19, y20, y21, y22, y23, y24, y25, y26, y27, y28, y29, y30, y31, y32, y33, y34, y35, y36, y37, y38, y39, y40, y41, y42, y43, y44, y45, y46, y47, y48, y49, y50, y51, y52, y53, y54, y55, y56, y57, y58, y59, y60, y61, y62, y63, y64, y65, y66, y67, y68, y69, y70, y71, y72, y73, y74, y75, y76, y77, y78, y79, y80, y81, y82, y83, y84, y85, y86, y87, y88, y89, y90, y91, y92, y93, y94, y95, y96, y97, y98, y99, y100, y101, y102, y103, y104, y105, y106, y107, y108, y109, y110, y111, y112, y113, y114, y115, y116, y117, y118, y119, y120, y121, y122, y123, y124, y125, y126, y127, y128, y129, y130], []⟩ S =
 some (.ret, ⟨#[y0, y1, y2, y3, y4, y5, y6, y7, y8, y9, y10, y11, y12, y13, y14, y15, y16, y17, y18, y19, y20, y21, y22, y23, y24, y25, y26, y27, y28, y29, y30, y31, y32, y33, y34, y35, y36, y37, y38, y39, y40, y41, y42, y43, y44, y45, y46, y47, y48, y49, y50, y51, y52, y53, y54, y55, y56, y57, y58, y59, y60, y61, y62, y63, y64, y65, y66, y67, y68, y69, y70, y71, y72, y73, y74, y75, y76, y77, y78, y79, y80, y81, y82, y83, y84, y85, y86, y87, y88, y89, y90, y91, y92, y93, y94, y95, y96, y97, y98, y99, y100, y101, y102, y103, y104, y105, y106, y107, y108, y109, y110, y111, y112, y113, y114, y115, y116, y117, y118, y119, y120, y121, y122, y123, y124, y125, y126, y127, y128, y129, y130], []⟩, S)
  := by kernel_rfl
noncomputable abbrev f38 := Try.f38
noncomputable def c38 : Code := bodyOf f38
theorem ok38 : codeOk p c38 = true := by kernel_rfl
noncomputable def c38_111010 : Code := codeAt [1, 1, 1, 0, 1, 0, 0] c38
theorem ok38_111010 : codeOk p c38_111010 = true := by kernel_rfl
noncomputable def l38_111010 (W : World) (y0 y1 y2 y3 y4 y5 y6 y7 y8 y9 y10 y11 y12 y13 y14 y15 y16 y17 y18 y19 y20 y21 y22 y23 y24 y25 y26 y27 y28 y29 y37 y38 y39 y40 y41 y42 y43 y44 y45 : Value) (S : St) : Out := la W c38_111010 ⟨#[y0, y1, y2, y3, y4, y5, y6, y7, y8, y9, y10, y11, y12, y13, y14, y15, y16, y17, y18, y19, y20, y21, y22, y23, y24, y25, y26, y27, y28, y29, junk, junk, junk, junk, junk, junk, junk, y37, y38, y39, y40, y41, y42, y43, y44, y45], []⟩ S
theorem eq38 (W : World) (x0 x1 x2 x3 : Value) (S : St) : cw W 38 #[x0, x1, x2, x3] S =
 gcR #[x0, x1, x2, x3] S (
 bindV (aBin p .lss 3 x1 (.int .i64 0)) fun v1 =>
 gV v1 false fun g2 =>
 gV v1 false fun g3 =>
 gV v1 false fun g4 =>
 bindV (wO g4 (aBin p .geq 3 (wV g2 x1) (wV g3 x0))) fun v5 =>
 bindV (aPick v1 (.bool true) v5) fun v6 =>
 gV v6 false fun g7 =>
 gV v6 false fun g8 =>
 bindV (wO g8 (aBin p .eql 30 (wV g7 x2) (.int .u32 0))) fun v9 =>
 bindV (aPick v6 (.bool true) v9) fun v10 =>
 gV v10 false fun g11 =>
 gV v10 false fun g12 =>
 bindV (wO g12 (aBin p .lss 3 (wV g11 x3) (.int .i64 64))) fun v13 =>
 bindV (aPick v10 (.bool true) v13) fun v14 =>
 gV v14 false fun g15 =>
 gV v14 false fun g16 =>
 bindV (wO g16 (aBin p .gtr 3 (wV g15 x3) (.int .i64 1518))) fun v17 =>
 bindV (aPick v14 (.bool true) v17) fun v18 =>
 condK v18
  (
   some ((.bool false), S)
  )
  (
   bindO (l38_111010 W x0 x1 x2 x3 undef undef undef undef (.bool false) (.int .u32 1) (.int .i64 0) x1 v1 v1 (wV g2 x1) (wV g3 x0) v5 v6 v6 (wV g7 x2) v9 v10 v10 (wV g11 x3) v13 v14 v14 (wV g15 x3) v17 v18 undef undef undef undef undef undef undef undef undef S) (kc W c38 [1, 1, 1, 0, 1, 0] f38)
  )
 )
  := (fn_eq Try.func38 rfl ok38 _ _).trans (by kernel_rfl)
theorem r38_111010 (W : World) (y0 y1 y2 y3 y4 y5 y6 y7 y8 y9 y10 y11 y12 y13 y14 y15 y16 y17 y18 y19 y20 y21 y22 y23 y24 y25 y26 y27 y28 y29 y37 y38 y39 y40 y41 y42 y43 y44 y45 : Value) (S : St) : l38_111010 W y0 y1 y2 y3 y4 y5 y6 y7 y8 y9 y10 y11 y12 y13 y14 y15 y16 y17 y18 y19 y20 y21 y22 y23 y24 y25 y26 y27 y28 y29 y37 y38 y39 y40 y41 y42 y43 y44 y45 S =
 bindV (aBin p .lss 3 y10 y0) fun v19 =>
 condK v19
  (
   bindV (aBin p .mul 30 y9 (.int .u32 2)) fun v20 =>
   bindV (aBin p .add 3 y10 (.int .i64 1)) fun v21 =>
   l38_111010 W y0 y1 y2 y3 y4 y5 y6 y7 y8 v20 v21 y11 y12 y13 y14 y15 y16 y17 y18 y19 y20 y21 y22 y23 y24 y25 y26 y27 y28 y29 y37 y38 y39 y40 y41 y42 y43 y44 y45 S
  )
  (
   some (.exit 0, ⟨#[y0, y1, y2, y3, y4, y5, y6, y7, y8, y9, y10, y11, y12, y13, y14, y15, y16, y17, y18, y19, y20, y21, y22, y23, y24, y25, y26, y27, y28, y29, y10, y0, v19, junk, junk, junk, junk, y37, y38, y39, y40, y41, y42, y43, y44, y45], []⟩, S)
  )
  := (round_eq ok38_111010 ⟨#[y0, y1, y2, y3, y4, y5, y6, y7, y8, y9, y10, y11, y12, y13, y14, y15, y16, y17, y18, y19, y20, y21, y22, y23, y24, y25, y26, y27, y28, y29, junk, junk, junk, junk, junk, junk, junk, y37, y38, y39, y40, y41, y42, y43, y44, y45], []⟩ S).trans (by kernel_rfl)
theorem k38_111010_0 (W : World) (y0 y1 y2 y3 y4 y5 y6 y7 y8 y9 y10 y11 y12 y13 y14 y15 y16 y17 y18 y19 y20 y21 y22 y23 y24 y25 y26 y27 y28 y29 y30 y31 y32 y33 y34 y35 y36 y37 y38 y39 y40 y41 y42 y43 y44 y45 : Value) (S : St) : kc W c38 [1, 1, 1, 0, 1, 0] f38 (.exit 0) ⟨#[y0, y1, y2, y3, y4, y5, y6, y7, y8, y9, y10, y11, y12, y13, y14, y15, y16, y17, y18, y19, y20, y21, y22, y23, y24, y25, y26, y27, y28, y29, y30, y31, y32, y33, y34, y35, y36, y37, y38, y39, y40, y41, y42, y43, y44, y45], []⟩ S =
 bindV (aBin p .lss 30 y2 y9) fun v1 =>
 gV v1 true fun g2 =>
 gV v1 true fun g3 =>
 gV v1 true fun g4 =>
 bindS (wS g4 S (aCall p (cw W) S (.func (.func 67) #[] #[]) #[(wV g2 y2), (wV g3 y1)])) fun v5 S6 =>
 gV v1 true fun g7 =>
 bindV (wO g7 (aUn p .not v5)) fun v8 =>
 bindV (aPick v1 v8 (.bool false)) fun v9 =>
 some (v9, S6)
  := by kernel_rfl
noncomputable abbrev f39 := Try.f39
noncomputable def c39 : Code := bodyOf f39
theorem ok39 : codeOk p c39 = true := by kernel_rfl
theorem eq39 (W : World) (x0 : Value) (S : St) : cw W 39 #[x0] S =
 gcR #[x0] S (
 bindV (aBin p .lss 3 x0 (.int .i64 64)) fun v1 =>
 condK v1
  (
   some ((.int .i64 512), S)
  )
  (
   bindV (aBin p .gtr 3 x0 (.int .i64 1518)) fun v2 =>
   condK v2
    (
     some ((.int .i64 12144), S)
    )
    (
     bindV (aBin p .mul 2 x0 (.int .i64 8)) fun v3 =>
     some (v3, S)
    )
  )
 )
  := (fn_eq Try.func39 rfl ok39 _ _).trans (by kernel_rfl)
noncomputable abbrev f40 := Try.f40
noncomputable def c40 : Code := bodyOf f40
theorem ok40 : codeOk p c40 = true := by kernel_rfl
theorem eq40 (W : World) (x0 x1 : Value) (S : St) : cw W 40 #[x0, x1] S =
 gcR #[x0, x1] S (
 bindS (aBox S x0) fun v1 S2 =>
 bindS (aBox S2 x1) fun v3 S4 =>
 bindV (aLoad p W S4 26 v1) fun v5 =>
 bindS (aCall p (cw W) S4 (.func (.func 29) #[] #[]) #[v5]) fun v6 S7 =>
 gV v6 true fun g8 =>
 bindV (wO g8 (aFieldAddr p 32 v3 0)) fun v9 =>
 gV v6 true fun g10 =>
 bindV (wO g10 (aLoad p W S7 3 v9)) fun v11 =>
 gV v6 true fun g12 =>
 bindV (wO g12 (aFieldAddr p 32 v3 1)) fun v13 =>
 gV v6 true fun g14 =>
 bindV (wO g14 (aLoad p W S7 30 v13)) fun v15 =>
 gV v6 true fun g16 =>
 bindV (wO g16 (aFieldAddr p 32 v3 3)) fun v17 =>
 gV v6 true fun g18 =>
 bindV (wO g18 (aLoad p W S7 3 v17)) fun v19 =>
 gV v6 true fun g20 =>
 bindS (wS g20 S7 (aCall p (cw W) S7 (.func (.func 34) #[] #[]) #[(.int .i64 6), v11, v15, v19])) fun v21 S22 =>
 bindV (aPick v6 v21 (.bool false)) fun v23 =>
 gV v23 true fun g24 =>
 bindV (wO g24 (aFieldAddr p 32 v3 2)) fun v25 =>
 gV v23 true fun g26 =>
 bindV (wO g26 (aLoad p W S22 2 v25)) fun v27 =>
 gV v23 true fun g28 =>
 bindS (wS g28 S22 (aCall p (cw W) S22 (.func (.func 28) #[] #[]) #[v27, (.int .i64 (-1125899906842624)), (.int .i64 1125899906842624)])) fun v29 S30 =>
 bindV (aPick v23 v29 (.bool false)) fun v31 =>
 some (v31, S30)
 )
  := (fn_eq Try.func40 rfl ok40 _ _).trans (by kernel_rfl)
noncomputable abbrev f41 := Try.f41
noncomputable def c41 : Code := bodyOf f41
theorem ok41 : codeOk p c41 = true := by kernel_rfl
theorem eq41 (W : World) (x0 : Value) (S : St) : cw W 41 #[x0] S =
 gcR #[x0] S (
 bindS (aBox S x0) fun v1 S2 =>
 bindV (aFieldAddr p 26 v1 2) fun v3 =>
 bindV (aLoad p W S2 2 v3) fun v4 =>
 bindV (aBin p .mul 2 (.int .i64 2) v4) fun v5 =>
 bindV (aFieldAddr p 26 v1 3) fun v6 =>
 bindV (aLoad p W S2 2 v6) fun v7 =>
 bindV (aBin p .add 2 v5 v7) fun v8 =>
 bindV (aFieldAddr p 26 v1 4) fun v9 =>
 bindV (aLoad p W S2 2 v9) fun v10 =>
 bindV (aBin p .mul 2 (.int .i64 4) v10) fun v11 =>
 bindV (aBin p .add 2 v8 v11) fun v12 =>
 some (v12, S2)
 )
  := (fn_eq Try.func41 rfl ok41 _ _).trans (by kernel_rfl)
noncomputable abbrev f42 := Try.f42
noncomputable def c42 : Code := bodyOf f42
theorem ok42 : codeOk p c42 = true := by kernel_rfl
noncomputable def c42_111010 : Code := codeAt [1, 1, 1, 0, 1, 0, 0] c42
theorem ok42_111010 : codeOk p c42_111010 = true := by kernel_rfl
noncomputable def l42_111010 (W : World) (y0 y1 y2 y3 y4 y5 y28 : Value) (S : St) : Out := la W c42_111010 ⟨#[y0, y1, y2, y3, y4, y5, junk, junk, junk, junk, junk, junk, junk, junk, junk, junk, junk, junk, junk, junk, junk, junk, junk, junk, junk, junk, junk, junk, y28], []⟩ S
noncomputable def c42_1110100100010 : Code := codeAt [1, 1, 1, 0, 1, 0, 0, 1, 0, 0, 0, 1, 0, 0] c42
theorem ok42_1110100100010 : codeOk p c42_1110100100010 = true := by kernel_rfl
noncomputable def l42_1110100100010 (W : World) (y0 y1 y2 y3 y4 y5 y6 y7 y8 y9 y10 y26 y27 y28 : Value) (S : St) : Out := la W c42_1110100100010 ⟨#[y0, y1, y2, y3, y4, y5, y6, y7, y8, y9, y10, junk, junk, junk, junk, junk, junk, junk, junk, junk, junk, junk, junk, junk, junk, junk, y26, y27, y28], []⟩ S
theorem eq42 (W : World) (x0 : Value) (S : St) : cw W 42 #[x0] S =
 gcR #[x0] S (
 bindO (l42_111010 W x0 undef (.int .u32 0) (.int .u32 0) (.int .u32 1) (.int .i64 0) undef S) (kc W c42 [1, 1, 1, 0, 1, 0] f42)
 )
  := (fn_eq Try.func42 rfl ok42 _ _).trans (by kernel_rfl)
theorem r42_111010 (W : World) (y0 y1 y2 y3 y4 y5 y28 : Value) (S : St) : l42_111010 W y0 y1 y2 y3 y4 y5 y28 S =
 bindV (aBin p .lss 3 y5 (.int .i64 6)) fun v1 =>
 condK v1
  (
   bindO (l42_1110100100010 W y0 y1 y2 y3 y4 y5 (.int .i64 0) y5 v1 junk junk junk junk y28 S) (rk W c42_111010 [1, 0, 0, 0, 1, 0])
  )
  (
   some (.exit 0, ⟨#[y0, y1, y2, y3, y4, y5, junk, y5, v1, junk, junk, junk, junk, junk, junk, junk, junk, junk, junk, junk, junk, junk, junk, junk, junk, junk, junk, junk, y28], []⟩, S)
  )
  := (round_eq ok42_111010 ⟨#[y0, y1, y2, y3, y4, y5, junk, junk, junk, junk, junk, junk, junk, junk, junk, junk, junk, junk, junk, junk, junk, junk, junk, junk, junk, junk, junk, junk, y28], []⟩ S).trans (by kernel_rfl)
theorem r42_1110100100010 (W : World) (y0 y1 y2 y3 y4 y5 y6 y7 y8 y9 y10 y26 y27 y28 : Value) (S : St) : l42_1110100100010 W y0 y1 y2 y3 y4 y5 y6 y7 y8 y9 y10 y26 y27 y28 S =
 bindV (aLen p W S #[57] #[y0]) fun v2 =>
 bindV (aBin p .lss 3 y6 v2) fun v3 =>
 condK v3
  (
   bindV (aIndexAddr p 57 y0 y6) fun v4 =>
   bindV (aLoad p W S 3 v4) fun v5 =>
   bindV (aBin p .eql 3 v5 y5) fun v6 =>
   condK v6
    (
     bindV (aBin p .add 30 y3 y4) fun v7 =>
     some (.exit 2, ⟨#[y0, y1, y2, v7, y4, y5, y6, y7, y8, y9, y10, y6, y0, v2, v3, junk, junk, y0, y6, v4, v5, y5, v6, y3, y4, v7, y26, y27, y28], []⟩, S)
    )
    (
     bindV (aBin p .add 3 y6 (.int .i64 1)) fun v8 =>
     l42_1110100100010 W y0 y1 y2 y3 y4 y5 v8 y7 y8 y9 y10 y26 y27 y28 S
    )
  )
  (
   some (.exit 2, ⟨#[y0, y1, y2, y3, y4, y5, y6, y7, y8, y9, y10, y6, y0, v2, v3, junk, junk, junk, junk, junk, junk, junk, junk, junk, junk, junk, y26, y27, y28], []⟩, S)
  )
  := (round_eq ok42_1110100100010 ⟨#[y0, y1, y2, y3, y4, y5, y6, y7, y8, y9, y10, junk, junk, junk, junk, junk, junk, junk, junk, junk, junk, junk, junk, junk, junk, junk, y26, y27, y28], []⟩ S).trans (by kernel_rfl)
theorem k42_111010_0 (W : World) (y0 y1 y2 y3 y4 y5 y6 y7 y8 y9 y10 y11 y12 y13 y14 y15 y16 y17 y18 y19 y20 y21 y22 y23 y24 y25 y26 y27 y28 : Value) (S : St) : kc W c42 [1, 1, 1, 0, 1, 0] f42 (.exit 0) ⟨#[y0, y1, y2, y3, y4, y5, y6, y7, y8, y9, y10, y11, y12, y13, y14, y15, y16, y17, y18, y19, y20, y21, y22, y23, y24, y25, y26, y27, y28], []⟩ S =
 some (y3, S)
  := by kernel_rfl
theorem k42_1110100100010_2 (W : World) (y0 y1 y2 y3 y4 y5 y6 y7 y8 y9 y10 y11 y12 y13 y14 y15 y16 y17 y18 y19 y20 y21 y22 y23 y24 y25 y26 y27 y28 : Value) (S : St) : rk W c42_111010 [1, 0, 0, 0, 1, 0] (.exit 2) ⟨#[y0, y1, y2, y3, y4, y5, y6, y7, y8, y9, y10, y11, y12, y13, y14, y15, y16, y17, y18, y19, y20, y21, y22, y23, y24, y25, y26, y27, y28], []⟩ S =
 bindV (aBin p .mul 30 y4 (.int .u32 2)) fun v1 =>
 bindV (aBin p .add 3 y5 (.int .i64 1)) fun v2 =>
 l42_111010 W y0 y1 y2 y3 v1 v2 y28 S
  := by kernel_rfl
noncomputable abbrev f43 := Try.f43
noncomputable def c43 : Code := bodyOf f43
theorem ok43 : codeOk p c43 = true := by kernel_rfl
noncomputable def c43_11010 : Code := codeAt [1, 1, 0, 1, 0, 0] c43
theorem ok43_11010 : codeOk p c43_11010 = true := by kernel_rfl
noncomputable def l43_11010 (W : World) (y0 y1 y2 y3 y4 y5 y10 y11 y12 y13 y14 y15 y16 y17 : Value) (S : St) : Out := la W c43_11010 ⟨#[y0, y1, y2, y3, y4, y5, junk, junk, junk, junk, y10, y11, y12, y13, y14, y15, y16, y17, junk, junk, junk, junk, junk, junk, junk, junk, junk, junk, junk, junk, junk, junk], []⟩ S
theorem eq43 (W : World) (x0 x1 x2 : Value) (S : St) : cw W 43 #[x0, x1, x2] S =
 gcR #[x0, x1, x2] S (
 bindV (aLen p W S #[22] #[x0]) fun v1 =>
 bindV (aLen p W S #[22] #[x1]) fun v2 =>
 bindV (aBin p .neq 3 v1 v2) fun v3 =>
 condK v3
  (
   some ((.bool false), S)
  )
  (
   bindV (aLen p W S #[22] #[x0]) fun v4 =>
   bindO (l43_11010 W x0 x1 x2 undef undef undef x0 v1 x1 v2 v3 x0 v4 (.int .i64 0) S) (kc W c43 [1, 1, 0, 1, 0] f43)
  )
 )
  := (fn_eq Try.func43 rfl ok43 _ _).trans (by kernel_rfl)
theorem r43_11010 (W : World) (y0 y1 y2 y3 y4 y5 y10 y11 y12 y13 y14 y15 y16 y17 : Value) (S : St) : l43_11010 W y0 y1 y2 y3 y4 y5 y10 y11 y12 y13 y14 y15 y16 y17 S =
 bindV (aBin p .lss 3 y17 y16) fun v5 =>
 condK v5
  (
   bindV (aIndexAddr p 22 y15 y17) fun v6 =>
   bindV (aLoad p W S 45 v6) fun v7 =>
   bindV (aIndexAddr p 22 y1 y17) fun v8 =>
   bindV (aLoad p W S 45 v8) fun v9 =>
   bindS (aCall p (cw W) S y2 #[v7, v9]) fun v10 S11 =>
   bindV (aUn p .not v10) fun v12 =>
   condK v12
    (
     some (.ret, ⟨#[y0, y1, y2, y3, y4, y5, (.bool false), y17, v7, v9, y10, y11, y12, y13, y14, y15, y16, y17, v5, y17, v6, v7, y1, y17, v8, v9, y2, v7, v9, v10, v12, junk], []⟩, S11)
    )
    (
     bindV (aBin p .add 3 y17 (.int .i64 1)) fun v13 =>
     l43_11010 W y0 y1 y2 y3 y4 y5 y10 y11 y12 y13 y14 y15 y16 v13 S11
    )
  )
  (
   some (.exit 0, ⟨#[y0, y1, y2, y3, y4, y5, junk, junk, junk, junk, y10, y11, y12, y13, y14, y15, y16, y17, v5, junk, junk, junk, junk, junk, junk, junk, junk, junk, junk, junk, junk, junk], []⟩, S)
  )
  := (round_eq ok43_11010 ⟨#[y0, y1, y2, y3, y4, y5, junk, junk, junk, junk, y10, y11, y12, y13, y14, y15, y16, y17, junk, junk, junk, junk, junk, junk, junk, junk, junk, junk, junk, junk, junk, junk], []⟩ S).trans (by kernel_rfl)
theorem k43_11010_0 (W : World) (y0 y1 y2 y3 y4 y5 y6 y7 y8 y9 y10 y11 y12 y13 y14 y15 y16 y17 y18 y19 y20 y21 y22 y23 y24 y25 y26 y27 y28 y29 y30 y31 : Value) (S : St) : kc W c43 [1, 1, 0, 1, 0] f43 (.exit 0) ⟨#[y0, y1, y2, y3, y4, y5, y6, y7, y8, y9, y10, y11, y12, y13, y14, y15, y16, y17, y18, y19, y20, y21, y22, y23, y24, y25, y26, y27, y28, y29, y30, y31], []⟩ S =
 some ((.bool true), S)
  := by kernel_rfl
theorem k43_11010_ret (W : World) (y0 y1 y2 y3 y4 y5 y6 y7 y8 y9 y10 y11 y12 y13 y14 y15 y16 y17 y18 y19 y20 y21 y22 y23 y24 y25 y26 y27 y28 y29 y30 y31 : Value) (S : St) : kc W c43 [1, 1, 0, 1, 0] f43 (.ret) ⟨#[y0, y1, y2, y3, y4, y5, y6, y7, y8, y9, y10, y11, y12, y13, y14, y15, y16, y17, y18, y19, y20, y21, y22, y23, y24, y25, y26, y27, y28, y29, y30, y31], []⟩ S =
 some (y6, S)
  := by kernel_rfl
noncomputable abbrev f44 := Try.f44
noncomputable def c44 : Code := bodyOf f44
theorem ok44 : codeOk p c44 = true := by kernel_rfl
noncomputable def c44_11010 : Code := codeAt [1, 1, 0, 1, 0, 0] c44
theorem ok44_11010 : codeOk p c44_11010 = true := by kernel_rfl
noncomputable def l44_11010 (W : World) (y0 y1 y2 y3 y6 y7 y8 y9 y10 y11 y12 y13 : Value) (S : St) : Out := la W c44_11010 ⟨#[y0, y1, y2, y3, junk, junk, y6, y7, y8, y9, y10, y11, y12, y13, junk, junk, junk, junk, junk, junk, junk, junk, junk, junk, junk, junk], []⟩ S
theorem eq44 (W : World) (x0 x1 : Value) (S : St) : cw W 44 #[x0, x1] S =
 gcR #[x0, x1] S (
 bindV (aLen p W S #[45] #[x0]) fun v1 =>
 bindV (aLen p W S #[45] #[x1]) fun v2 =>
 bindV (aBin p .neq 3 v1 v2) fun v3 =>
 condK v3
  (
   some ((.bool false), S)
  )
  (
   bindV (aLen p W S #[45] #[x0]) fun v4 =>
   bindO (l44_11010 W x0 x1 undef undef x0 v1 x1 v2 v3 x0 v4 (.int .i64 0) S) (kc W c44 [1, 1, 0, 1, 0] f44)
  )
 )
  := (fn_eq Try.func44 rfl ok44 _ _).trans (by kernel_rfl)
theorem r44_11010 (W : World) (y0 y1 y2 y3 y6 y7 y8 y9 y10 y11 y12 y13 : Value) (S : St) : l44_11010 W y0 y1 y2 y3 y6 y7 y8 y9 y10 y11 y12 y13 S =
 bindV (aBin p .lss 3 y13 y12) fun v5 =>
 condK v5
  (
   bindV (aIndexAddr p 45 y0 y13) fun v6 =>
   bindV (aLoad p W S 2 v6) fun v7 =>
   bindV (aIndexAddr p 45 y1 y13) fun v8 =>
   bindV (aLoad p W S 2 v8) fun v9 =>
   bindV (aBin p .neq 2 v7 v9) fun v10 =>
   condK v10
    (
     some (.ret, ⟨#[y0, y1, y2, y3, (.bool false), y13, y6, y7, y8, y9, y10, y11, y12, y13, v5, y13, y0, y13, v6, v7, y1, y13, v8, v9, v10, junk], []⟩, S)
    )
    (
     bindV (aBin p .add 3 y13 (.int .i64 1)) fun v11 =>
     l44_11010 W y0 y1 y2 y3 y6 y7 y8 y9 y10 y11 y12 v11 S
    )
  )
  (
   some (.exit 0, ⟨#[y0, y1, y2, y3, junk, junk, y6, y7, y8, y9, y10, y11, y12, y13, v5, junk, junk, junk, junk, junk, junk, junk, junk, junk, junk, junk], []⟩, S)
  )
  := (round_eq ok44_11010 ⟨#[y0, y1, y2, y3, junk, junk, y6, y7, y8, y9, y10, y11, y12, y13, junk, junk, junk, junk, junk, junk, junk, junk, junk, junk, junk, junk], []⟩ S).trans (by kernel_rfl)
theorem k44_11010_0 (W : World) (y0 y1 y2 y3 y4 y5 y6 y7 y8 y9 y10 y11 y12 y13 y14 y15 y16 y17 y18 y19 y20 y21 y22 y23 y24 y25 : Value) (S : St) : kc W c44 [1, 1, 0, 1, 0] f44 (.exit 0) ⟨#[y0, y1, y2, y3, y4, y5, y6, y7, y8, y9, y10, y11, y12, y13, y14, y15, y16, y17, y18, y19, y20, y21, y22, y23, y24, y25], []⟩ S =
 some ((.bool true), S)
  := by kernel_rfl
theorem k44_11010_ret (W : World) (y0 y1 y2 y3 y4 y5 y6 y7 y8 y9 y10 y11 y12 y13 y14 y15 y16 y17 y18 y19 y20 y21 y22 y23 y24 y25 : Value) (S : St) : kc W c44 [1, 1, 0, 1, 0] f44 (.ret) ⟨#[y0, y1, y2, y3, y4, y5, y6, y7, y8, y9, y10, y11, y12, y13, y14, y15, y16, y17, y18, y19, y20, y21, y22, y23, y24, y25], []⟩ S =
 some (y4, S)
  := by kernel_rfl
noncomputable abbrev f45 := Try.f45
noncomputable def c45 : Code := bodyOf f45
theorem ok45 : codeOk p c45 = true := by kernel_rfl
noncomputable def c45_11010 : Code := codeAt [1, 1, 0, 1, 0, 0] c45
theorem ok45_11010 : codeOk p c45_11010 = true := by kernel_rfl
noncomputable def l45_11010 (W : World) (y0 y1 y2 y3 y6 y7 y8 y9 y10 y11 y12 y13 : Value) (S : St) : Out := la W c45_11010 ⟨#[y0, y1, y2, y3, junk, junk, y6, y7, y8, y9, y10, y11, y12, y13, junk, junk, junk, junk, junk, junk, junk, junk, junk, junk, junk, junk], []⟩ S
theorem eq45 (W : World) (x0 x1 : Value) (S : St) : cw W 45 #[x0, x1] S =
 gcR #[x0, x1] S (
 bindV (aLen p W S #[23] #[x0]) fun v1 =>
 bindV (aLen p W S #[23] #[x1]) fun v2 =>
 bindV (aBin p .neq 3 v1 v2) fun v3 =>
 condK v3
  (
   some ((.bool false), S)
  )
  (
   bindV (aLen p W S #[23] #[x0]) fun v4 =>
   bindO (l45_11010 W x0 x1 undef undef x0 v1 x1 v2 v3 x0 v4 (.int .i64 0) S) (kc W c45 [1, 1, 0, 1, 0] f45)
  )
 )
  := (fn_eq Try.func45 rfl ok45 _ _).trans (by kernel_rfl)
theorem r45_11010 (W : World) (y0 y1 y2 y3 y6 y7 y8 y9 y10 y11 y12 y13 : Value) (S : St) : l45_11010 W y0 y1 y2 y3 y6 y7 y8 y9 y10 y11 y12 y13 S =
 bindV (aBin p .lss 3 y13 y12) fun v5 =>
 condK v5
  (
   bindV (aIndexAddr p 23 y0 y13) fun v6 =>
   bindV (aLoad p W S 32 v6) fun v7 =>
   bindV (aIndexAddr p 23 y1 y13) fun v8 =>
   bindV (aLoad p W S 32 v8) fun v9 =>
   bindV (aBin p .neq 32 v7 v9) fun v10 =>
   condK v10
    (
     some (.ret, ⟨#[y0, y1, y2, y3, (.bool false), y13, y6, y7, y8, y9, y10, y11, y12, y13, v5, y13, y0, y13, v6, v7, y1, y13, v8, v9, v10, junk], []⟩, S)
    )
    (
     bindV (aBin p .add 3 y13 (.int .i64 1)) fun v11 =>
     l45_11010 W y0 y1 y2 y3 y6 y7 y8 y9 y10 y11 y12 v11 S
    )
  )
  (
   some (.exit 0, ⟨#[y0, y1, y2, y3, junk, junk, y6, y7, y8, y9, y10, y11, y12, y13, v5, junk, junk, junk, junk, junk, junk, junk, junk, junk, junk, junk], []⟩, S)
  )
  := (round_eq ok45_11010 ⟨#[y0, y1, y2, y3, junk, junk, y6, y7, y8, y9, y10, y11, y12, y13, junk, junk, junk, junk, junk, junk, junk, junk, junk, junk, junk, junk], []⟩ S).trans (by kernel_rfl)
theorem k45_11010_0 (W : World) (y0 y1 y2 y3 y4 y5 y6 y7 y8 y9 y10 y11 y12 y13 y14 y15 y16 y17 y18 y19 y20 y21 y22 y23 y24 y25 : Value) (S : St) : kc W c45 [1, 1, 0, 1, 0] f45 (.exit 0) ⟨#[y0, y1, y2, y3, y4, y5, y6, y7, y8, y9, y10, y11, y12, y13, y14, y15, y16, y17, y18, y19, y20, y21, y22, y23, y24, y25], []⟩ S =
 some ((.bool true), S)
  := by kernel_rfl
theorem k45_11010_ret (W : World) (y0 y1 y2 y3 y4 y5 y6 y7 y8 y9 y10 y11 y12 y13 y14 y15 y16 y17 y18 y19 y20 y21 y22 y23 y24 y25 : Value) (S : St) : kc W c45 [1, 1, 0, 1, 0] f45 (.ret) ⟨#[y0, y1, y2, y3, y4, y5, y6, y7, y8, y9, y10, y11, y12, y13, y14, y15, y16, y17, y18, y19, y20, y21, y22, y23, y24, y25], []⟩ S =
 some (y4, S)
  := by kernel_rfl
noncomputable abbrev f46 := Try.f46
noncomputable def c46 : Code := bodyOf f46
theorem ok46 : codeOk p c46 = true := by kernel_rfl
noncomputable def c46_11010 : Code := codeAt [1, 1, 0, 1, 0, 0] c46
theorem ok46_11010 : codeOk p c46_11010 = true := by kernel_rfl
noncomputable def l46_11010 (W : World) (y0 y1 y2 y3 y6 y7 y8 y9 y10 y11 y12 y13 : Value) (S : St) : Out := la W c46_11010 ⟨#[y0, y1, y2, y3, junk, junk, y6, y7, y8, y9, y10, y11, y12, y13, junk, junk, junk, junk, junk, junk, junk, junk, junk, junk, junk, junk], []⟩ S
theorem eq46 (W : World) (x0 x1 : Value) (S : St) : cw W 46 #[x0, x1] S =
 gcR #[x0, x1] S (
 bindV (aLen p W S #[24] #[x0]) fun v1 =>
 bindV (aLen p W S #[24] #[x1]) fun v2 =>
 bindV (aBin p .neq 3 v1 v2) fun v3 =>
 condK v3
  (
   some ((.bool false), S)
  )
  (
   bindV (aLen p W S #[24] #[x0]) fun v4 =>
   bindO (l46_11010 W x0 x1 undef undef x0 v1 x1 v2 v3 x0 v4 (.int .i64 0) S) (kc W c46 [1, 1, 0, 1, 0] f46)
  )
 )
  := (fn_eq Try.func46 rfl ok46 _ _).trans (by kernel_rfl)
theorem r46_11010 (W : World) (y0 y1 y2 y3 y6 y7 y8 y9 y10 y11 y12 y13 : Value) (S : St) : l46_11010 W y0 y1 y2 y3 y6 y7 y8 y9 y10 y11 y12 y13 S =
 bindV (aBin p .lss 3 y13 y12) fun v5 =>
 condK v5
  (
   bindV (aIndexAddr p 24 y0 y13) fun v6 =>
   bindV (aLoad p W S 47 v6) fun v7 =>
   bindV (aIndexAddr p 24 y1 y13) fun v8 =>
   bindV (aLoad p W S 47 v8) fun v9 =>
   bindV (aBin p .neq 47 v7 v9) fun v10 =>
   condK v10
    (
     some (.ret, ⟨#[y0, y1, y2, y3, (.bool false), y13, y6, y7, y8, y9, y10, y11, y12, y13, v5, y13, y0, y13, v6, v7, y1, y13, v8, v9, v10, junk], []⟩, S)
    )
    (
     bindV (aBin p .add 3 y13 (.int .i64 1)) fun v11 =>
     l46_11010 W y0 y1 y2 y3 y6 y7 y8 y9 y10 y11 y12 v11 S
    )
  )
  (
   some (.exit 0, ⟨#[y0, y1, y2, y3, junk, junk, y6, y7, y8, y9, y10, y11, y12, y13, v5, junk, junk, junk, junk, junk, junk, junk, junk, junk, junk, junk], []⟩, S)
  )
  := (round_eq ok46_11010 ⟨#[y0, y1, y2, y3, junk, junk, y6, y7, y8, y9, y10, y11, y12, y13, junk, junk, junk, junk, junk, junk, junk, junk, junk, junk, junk, junk], []⟩ S).trans (by kernel_rfl)
theorem k46_11010_0 (W : World) (y0 y1 y2 y3 y4 y5 y6 y7 y8 y9 y10 y11 y12 y13 y14 y15 y16 y17 y18 y19 y20 y21 y22 y23 y24 y25 : Value) (S : St) : kc W c46 [1, 1, 0, 1, 0] f46 (.exit 0) ⟨#[y0, y1, y2, y3, y4, y5, y6, y7, y8, y9, y10, y11, y12, y13, y14, y15, y16, y17, y18, y19, y20, y21, y22, y23, y24, y25], []⟩ S =
 some ((.bool true), S)
  := by kernel_rfl
theorem k46_11010_ret (W : World) (y0 y1 y2 y3 y4 y5 y6 y7 y8 y9 y10 y11 y12 y13 y14 y15 y16 y17 y18 y19 y20 y21 y22 y23 y24 y25 : Value) (S : St) : kc W c46 [1, 1, 0, 1, 0] f46 (.ret) ⟨#[y0, y1, y2, y3, y4, y5, y6, y7, y8, y9, y10, y11, y12, y13, y14, y15, y16, y17, y18, y19, y20, y21, y22, y23, y24, y25], []⟩ S =
 some (y4, S)
  := by kernel_rfl
noncomputable abbrev f47 := Try.f47
noncomputable def c47 : Code := bodyOf f47
theorem ok47 : codeOk p c47 = true := by kernel_rfl
theorem eq47 (W : World) (x0 : Value) (S : St) : cw W 47 #[x0] S =
 bindV (aBin p .eql 45 x0 (.slice none 0 0)) fun v1 =>
 condK v1
  (
   some ((.slice none 0 0), S)
  )
  (
   bindS (aBuildSlice p S 45 0 #[]) fun v2 S3 =>
   bindS (aBuiltin p W S3 .append #[45, 45] #[v2, x0]) fun v4 S5 =>
   some (v4, S5)
  )
  := (fn_eq Try.func47 rfl ok47 _ _).trans (by kernel_rfl)
noncomputable abbrev f48 := Try.f48
noncomputable def c48 : Code := bodyOf f48
theorem ok48 : codeOk p c48 = true := by kernel_rfl
theorem eq48 (W : World) (x0 : Value) (S : St) : cw W 48 #[x0] S =
 bindV (aBin p .eql 23 x0 (.slice none 0 0)) fun v1 =>
 condK v1
  (
   some ((.slice none 0 0), S)
  )
  (
   bindS (aBuildSlice p S 23 0 #[]) fun v2 S3 =>
   bindS (aBuiltin p W S3 .append #[23, 23] #[v2, x0]) fun v4 S5 =>
   some (v4, S5)
  )
  := (fn_eq Try.func48 rfl ok48 _ _).trans (by kernel_rfl)
noncomputable abbrev f49 := Try.f49
noncomputable def c49 : Code := bodyOf f49
theorem ok49 : codeOk p c49 = true := by kernel_rfl
theorem eq49 (W : World) (x0 : Value) (S : St) : cw W 49 #[x0] S =
 bindV (aBin p .eql 24 x0 (.slice none 0 0)) fun v1 =>
 condK v1
  (
   some ((.slice none 0 0), S)
  )
  (
   bindS (aBuildSlice p S 24 0 #[]) fun v2 S3 =>
   bindS (aBuiltin p W S3 .append #[24, 24] #[v2, x0]) fun v4 S5 =>
   some (v4, S5)
  )
  := (fn_eq Try.func49 rfl ok49 _ _).trans (by kernel_rfl)
noncomputable abbrev f50 := Try.f50
noncomputable def c50 : Code := bodyOf f50
theorem ok50 : codeOk p c50 = true := by kernel_rfl
theorem eq50 (W : World) (x0 x1 : Value) (S : St) : cw W 50 #[x0, x1] S =
 gcR #[x0, x1] S (
 bindS (aCall p (cw W) S (.func (.func 68) #[] #[]) #[x0, x1]) fun v1 S2 =>
 bindV (aBin p .geq 3 v1 (.int .i64 0)) fun v3 =>
 some (v3, S2)
 )
  := (fn_eq Try.func50 rfl ok50 _ _).trans (by kernel_rfl)
noncomputable abbrev f51 := Try.f51
noncomputable def c51 : Code := bodyOf f51
theorem ok51 : codeOk p c51 = true := by kernel_rfl
theorem eq51 (W : World) (x0 x1 : Value) (S : St) : cw W 51 #[x0, x1] S =
 gcR #[x0, x1] S (
 bindV (aLen p W S #[45] #[x0]) fun v1 =>
 bindV (aBin p .neq 3 v1 (.int .i64 2)) fun v2 =>
 gV v2 false fun g3 =>
 gV v2 false fun g4 =>
 gV v2 false fun g5 =>
 bindS (wS g5 S (aCall p (cw W) S (.func (.func 52) #[] #[]) #[(wV g3 x0), (wV g4 (.func (.func 53) #[] #[x1]))])) fun v6 S7 =>
 bindV (aPick v2 (.bool true) v6) fun v8 =>
 some (v8, S7)
 )
  := (fn_eq Try.func51 rfl ok51 _ _).trans (by kernel_rfl)
noncomputable abbrev f52 := Try.f52
noncomputable def c52 : Code := bodyOf f52
theorem ok52 : codeOk p c52 = true := by kernel_rfl
theorem eq52 (W : World) (x0 x1 : Value) (S : St) : cw W 52 #[x0, x1] S =
 gcR #[x0, x1] S (
 bindS (aCall p (cw W) S (.func (.func 69) #[] #[]) #[x0, x1]) fun v1 S2 =>
 bindV (aBin p .geq 3 v1 (.int .i64 0)) fun v3 =>
 some (v3, S2)
 )
  := (fn_eq Try.func52 rfl ok52 _ _).trans (by kernel_rfl)
noncomputable abbrev f53 := Try.f53
noncomputable def c53 : Code := bodyOf f53
theorem ok53 : codeOk p c53 = true := by kernel_rfl
theorem eq53 (W : World) (x0 x1 : Value) (S : St) : cw W 53 #[x0, x1] S =
 gcR #[x0, x1] S (
 bindV (aFieldAddr p 26 x1 2) fun v1 =>
 bindV (aLoad p W S 2 v1) fun v2 =>
 bindS (aCall p (cw W) S (.func (.func 28) #[] #[]) #[x0, (.int .i64 0), v2]) fun v3 S4 =>
 bindV (aUn p .not v3) fun v5 =>
 some (v5, S4)
 )
  := (fn_eq Try.func53 rfl ok53 _ _).trans (by kernel_rfl)
noncomputable abbrev f54 := Try.f54
noncomputable def c54 : Code := bodyOf f54
theorem ok54 : codeOk p c54 = true := by kernel_rfl
theorem eq54 (W : World) (x0 : Value) (S : St) : cw W 54 #[x0] S =
 gcR #[x0] S (
 bindS (aBox S x0) fun v1 S2 =>
 bindV (aFieldAddr p 32 v1 2) fun v3 =>
 bindV (aLoad p W S2 2 v3) fun v4 =>
 some (v4, S2)
 )
  := (fn_eq Try.func54 rfl ok54 _ _).trans (by kernel_rfl)
noncomputable abbrev f55 := Try.f55
noncomputable def c55 : Code := bodyOf f55
theorem ok55 : codeOk p c55 = true := by kernel_rfl
theorem eq55 (W : World) (x0 x1 : Value) (S : St) : cw W 55 #[x0, x1] S =
 gcR #[x0, x1] S (
 bindS (aBox S x0) fun v1 S2 =>
 bindV (aLoad p W S2 26 x1) fun v3 =>
 bindV (aLoad p W S2 32 v1) fun v4 =>
 bindS (aCall p (cw W) S2 (.func (.func 16) #[] #[]) #[v3, v4]) fun v5 S6 =>
 some (v5, S6)
 )
  := (fn_eq Try.func55 rfl ok55 _ _).trans (by kernel_rfl)
noncomputable abbrev f56 := Try.f56
noncomputable def c56 : Code := bodyOf f56
theorem ok56 : codeOk p c56 = true := by kernel_rfl
theorem eq56 (W : World) (x0 x1 : Value) (S : St) : cw W 56 #[x0, x1] S =
 gcR #[x0, x1] S (
 bindS (aCall p (cw W) S (.func (.func 70) #[] #[]) #[x0, x1]) fun v1 S2 =>
 bindV (aBin p .geq 3 v1 (.int .i64 0)) fun v3 =>
 some (v3, S2)
 )
  := (fn_eq Try.func56 rfl ok56 _ _).trans (by kernel_rfl)
noncomputable abbrev f57 := Try.f57
noncomputable def c57 : Code := bodyOf f57
theorem ok57 : codeOk p c57 = true := by kernel_rfl
theorem eq57 (W : World) (x0 x1 : Value) (S : St) : cw W 57 #[x0, x1] S =
 gcR #[x0, x1] S (
 bindS (aBox S x0) fun v1 S2 =>
 bindV (aFieldAddr p 26 x1 0) fun v3 =>
 bindV (aLoad p W S2 3 v3) fun v4 =>
 bindV (aFieldAddr p 32 v1 0) fun v5 =>
 bindV (aLoad p W S2 3 v5) fun v6 =>
 bindV (aFieldAddr p 32 v1 1) fun v7 =>
 bindV (aLoad p W S2 30 v7) fun v8 =>
 bindV (aFieldAddr p 32 v1 3) fun v9 =>
 bindV (aLoad p W S2 3 v9) fun v10 =>
 bindS (aCall p (cw W) S2 (.func (.func 34) #[] #[]) #[v4, v6, v8, v10]) fun v11 S12 =>
 bindV (aUn p .not v11) fun v13 =>
 some (v13, S12)
 )
  := (fn_eq Try.func57 rfl ok57 _ _).trans (by kernel_rfl)
noncomputable abbrev f58 := Try.f58
noncomputable def c58 : Code := bodyOf f58
theorem ok58 : codeOk p c58 = true := by kernel_rfl
theorem eq58 (W : World) (x0 x1 : Value) (S : St) : cw W 58 #[x0, x1] S =
 gcR #[x0, x1] S (
 bindS (aBox S x0) fun v1 S2 =>
 bindV (aFieldAddr p 32 v1 2) fun v3 =>
 bindV (aLoad p W S2 2 v3) fun v4 =>
 bindV (aLoad p W S2 26 x1) fun v5 =>
 bindS (qS true S2 fun S_ => aCall p (cw W) S_ (.func (.func 41) #[] #[]) #[v5]) fun v6 S7 =>
 bindV (aBin p .lss 2 v4 v6) fun v8 =>
 gV v8 false fun g9 =>
 bindV (wO g9 (aFieldAddr p 32 v1 2)) fun v10 =>
 gV v8 false fun g11 =>
 bindV (wO g11 (aLoad p W S7 2 v10)) fun v12 =>
 gV v8 false fun g13 =>
 bindV (wO g13 (aFieldAddr p 26 x1 1)) fun v14 =>
 gV v8 false fun g15 =>
 bindV (wO g15 (aLoad p W S7 2 v14)) fun v16 =>
 gV v8 false fun g17 =>
 bindV (wO g17 (aBin p .geq 2 v12 v16)) fun v18 =>
 bindV (aPick v8 (.bool true) v18) fun v19 =>
 gV v19 false fun g20 =>
 bindV (wO g20 (aLoad p W S7 26 x1)) fun v21 =>
 gV v19 false fun g22 =>
 bindV (wO g22 (aLoad p W S7 32 v1)) fun v23 =>
 gV v19 false fun g24 =>
 bindS (wS g24 S7 (qS true S7 fun S_ => aCall p (cw W) S_ (.func (.func 18) #[] #[]) #[v21, v23])) fun v25 S26 =>
 gV v19 false fun g27 =>
 bindV (wO g27 (aFieldAddr p 26 x1 1)) fun v28 =>
 gV v19 false fun g29 =>
 bindV (wO g29 (aLoad p W S26 2 v28)) fun v30 =>
 gV v19 false fun g31 =>
 bindV (wO g31 (aBin p .geq 2 v25 v30)) fun v32 =>
 bindV (aPick v19 (.bool true) v32) fun v33 =>
 some (v33, S26)
 )
  := (fn_eq Try.func58 rfl ok58 _ _).trans (by kernel_rfl)
noncomputable abbrev f59 := Try.f59
noncomputable def c59 : Code := bodyOf f59
theorem ok59 : codeOk p c59 = true := by kernel_rfl
noncomputable def c59_1010 : Code := codeAt [1, 0, 1, 0, 0] c59
theorem ok59_1010 : codeOk p c59_1010 = true := by kernel_rfl
noncomputable def l59_1010 (W : World) (y0 y1 y2 y3 y7 y8 y9 : Value) (S : St) : Out := la W c59_1010 ⟨#[y0, y1, y2, y3, junk, junk, junk, y7, y8, y9, junk, junk, junk, junk, junk, junk, junk, junk, junk, junk], []⟩ S
theorem eq59 (W : World) (x0 x1 : Value) (S : St) : cw W 59 #[x0, x1] S =
 gcR #[x0, x1] S (
 bindS (aBox S x1) fun v1 S2 =>
 bindV (aLen p W S2 #[23] #[x0]) fun v3 =>
 bindO (l59_1010 W x0 x1 undef v1 x0 v3 (.int .i64 0) S2) (kc W c59 [1, 0, 1, 0] f59)
 )
  := (fn_eq Try.func59 rfl ok59 _ _).trans (by kernel_rfl)
theorem r59_1010 (W : World) (y0 y1 y2 y3 y7 y8 y9 : Value) (S : St) : l59_1010 W y0 y1 y2 y3 y7 y8 y9 S =
 bindV (aBin p .lss 3 y9 y8) fun v4 =>
 condK v4
  (
   bindV (aIndexAddr p 23 y7 y9) fun v5 =>
   bindV (aLoad p W S 32 v5) fun v6 =>
   bindS (aAlloc p S 32) fun v7 S8 =>
   bindT (aStore p S8 32 v7 v6) fun S9 =>
   bindV (aSlice p W S9 23 y0 none (some y9) none) fun v10 =>
   bindS (aCall p (cw W) S9 (.func (.func 56) #[] #[]) #[v10, (.func (.func 71) #[] #[y3, v7])]) fun v11 S12 =>
   condK v11
    (
     some (.ret, ⟨#[y0, y1, y2, y3, (.bool true), y9, v7, y7, y8, y9, v4, y9, v5, v6, y0, y9, v10, (.func (.func 71) #[] #[y3, v7]), v11, junk], []⟩, S12)
    )
    (
     bindV (aBin p .add 3 y9 (.int .i64 1)) fun v13 =>
     l59_1010 W y0 y1 y2 y3 y7 y8 v13 S12
    )
  )
  (
   some (.exit 0, ⟨#[y0, y1, y2, y3, junk, junk, junk, y7, y8, y9, v4, junk, junk, junk, junk, junk, junk, junk, junk, junk], []⟩, S)
  )
  := (round_eq ok59_1010 ⟨#[y0, y1, y2, y3, junk, junk, junk, y7, y8, y9, junk, junk, junk, junk, junk, junk, junk, junk, junk, junk], []⟩ S).trans (by kernel_rfl)
theorem k59_1010_0 (W : World) (y0 y1 y2 y3 y4 y5 y6 y7 y8 y9 y10 y11 y12 y13 y14 y15 y16 y17 y18 y19 : Value) (S : St) : kc W c59 [1, 0, 1, 0] f59 (.exit 0) ⟨#[y0, y1, y2, y3, y4, y5, y6, y7, y8, y9, y10, y11, y12, y13, y14, y15, y16, y17, y18, y19], []⟩ S =
 some ((.bool false), S)
  := by kernel_rfl
theorem k59_1010_ret (W : World) (y0 y1 y2 y3 y4 y5 y6 y7 y8 y9 y10 y11 y12 y13 y14 y15 y16 y17 y18 y19 : Value) (S : St) : kc W c59 [1, 0, 1, 0] f59 (.ret) ⟨#[y0, y1, y2, y3, y4, y5, y6, y7, y8, y9, y10, y11, y12, y13, y14, y15, y16, y17, y18, y19], []⟩ S =
 some (y4, S)
  := by kernel_rfl
noncomputable abbrev f60 := Try.f60
noncomputable def c60 : Code := bodyOf f60
theorem ok60 : codeOk p c60 = true := by kernel_rfl
theorem eq60 (W : World) (x0 x1 x2 : Value) (S : St) : cw W 60 #[x0, x1, x2] S =
 gcR #[x0, x1, x2] S (
 bindS (aBox S x0) fun v1 S2 =>
 bindS (aBox S2 x1) fun v3 S4 =>
 bindV (aFieldAddr p 32 v1 0) fun v5 =>
 bindV (aLoad p W S4 3 v5) fun v6 =>
 bindV (aFieldAddr p 32 v3 0) fun v7 =>
 bindV (aLoad p W S4 3 v7) fun v8 =>
 bindV (aBin p .eql 3 v6 v8) fun v9 =>
 gV v9 true fun g10 =>
 bindV (wO g10 (aLoad p W S4 32 v1)) fun v11 =>
 gV v9 true fun g12 =>
 bindV (wO g12 (aLoad p W S4 32 v3)) fun v13 =>
 gV v9 true fun g14 =>
 bindV (wO g14 (aLoad p W S4 70 x2)) fun v15 =>
 gV v9 true fun g16 =>
 bindS (wS g16 S4 (aCall p (cw W) S4 (.func (.func 61) #[] #[]) #[v11, v13, v15])) fun v17 S18 =>
 bindV (aPick v9 v17 (.bool false)) fun v19 =>
 some (v19, S18)
 )
  := (fn_eq Try.func60 rfl ok60 _ _).trans (by kernel_rfl)
end Go.Proofs.Ytogcdgdnjinjkaa.F
end
section
namespace Go.Proofs.Ytogcdgdnjinjkaa.F
open Go Go.Proofs.Ytogcdgdnjinjkaa.E
set_option linter.unusedVariables false
set_option maxRecDepth 100000
noncomputable abbrev f61 := Try.f61
noncomputable def c61 : Code := bodyOf f61
theorem ok61 : codeOk p c61 = true := by kernel_rfl
theorem eq61 (W : World) (x0 x1 x2 : Value) (S : St) : cw W 61 #[x0, x1, x2] S =
 gcR #[x0, x1, x2] S (
 bindS (aBox S x0) fun v1 S2 =>
 bindS (aBox S2 x1) fun v3 S4 =>
 bindV (aLoad p W S4 32 v1) fun v5 =>
 bindS (qS true S4 fun S_ => aCall p (cw W) S_ x2 #[v5]) fun v6 S7 =>
 bindV (aLoad p W S7 32 v3) fun v8 =>
 bindS (qS true S7 fun S_ => aCall p (cw W) S_ x2 #[v8]) fun v9 S10 =>
 bindV (aFieldAddr p 32 v3 3) fun v11 =>
 bindV (aLoad p W S10 3 v11) fun v12 =>
 bindS (aCall p (cw W) S10 (.func (.func 21) #[] #[]) #[v12]) fun v13 S14 =>
 bindV (aBin p .add 2 v9 v13) fun v15 =>
 bindV (aBin p .lss 2 v6 v15) fun v16 =>
 gV v16 true fun g17 =>
 gV v16 true fun g18 =>
 bindV (wO g18 (aLoad p W S14 32 v3)) fun v19 =>
 gV v16 true fun g20 =>
 bindS (wS g20 S14 (qS true S14 fun S_ => aCall p (cw W) S_ (wV g17 x2) #[v19])) fun v21 S22 =>
 gV v16 true fun g23 =>
 gV v16 true fun g24 =>
 bindV (wO g24 (aLoad p W S22 32 v1)) fun v25 =>
 gV v16 true fun g26 =>
 bindS (wS g26 S22 (qS true S22 fun S_ => aCall p (cw W) S_ (wV g23 x2) #[v25])) fun v27 S28 =>
 gV v16 true fun g29 =>
 bindV (wO g29 (aFieldAddr p 32 v1 3)) fun v30 =>
 gV v16 true fun g31 =>
 bindV (wO g31 (aLoad p W S28 3 v30)) fun v32 =>
 gV v16 true fun g33 =>
 bindS (wS g33 S28 (aCall p (cw W) S28 (.func (.func 21) #[] #[]) #[v32])) fun v34 S35 =>
 gV v16 true fun g36 =>
 bindV (wO g36 (aBin p .add 2 v27 v34)) fun v37 =>
 gV v16 true fun g38 =>
 bindV (wO g38 (aBin p .lss 2 v21 v37)) fun v39 =>
 bindV (aPick v16 v39 (.bool false)) fun v40 =>
 some (v40, S35)
 )
  := (fn_eq Try.func61 rfl ok61 _ _).trans (by kernel_rfl)
noncomputable abbrev f62 := Try.f62
noncomputable def c62 : Code := bodyOf f62
theorem ok62 : codeOk p c62 = true := by kernel_rfl
theorem eq62 (W : World) (x0 x1 x2 : Value) (S : St) : cw W 62 #[x0, x1, x2] S =
 gcR #[x0, x1, x2] S (
 bindS (aBox S x0) fun v1 S2 =>
 bindS (aBox S2 x1) fun v3 S4 =>
 bindV (aFieldAddr p 32 v1 1) fun v5 =>
 bindV (aLoad p W S4 30 v5) fun v6 =>
 bindV (aFieldAddr p 32 v3 1) fun v7 =>
 bindV (aLoad p W S4 30 v7) fun v8 =>
 bindV (aBin p .and 30 v6 v8) fun v9 =>
 bindV (aBin p .neq 30 v9 (.int .u32 0)) fun v10 =>
 gV v10 true fun g11 =>
 bindV (wO g11 (aLoad p W S4 32 v1)) fun v12 =>
 gV v10 true fun g13 =>
 bindV (wO g13 (aLoad p W S4 32 v3)) fun v14 =>
 gV v10 true fun g15 =>
 bindV (wO g15 (aLoad p W S4 70 x2)) fun v16 =>
 gV v10 true fun g17 =>
 bindS (wS g17 S4 (aCall p (cw W) S4 (.func (.func 61) #[] #[]) #[v12, v14, v16])) fun v18 S19 =>
 bindV (aPick v10 v18 (.bool false)) fun v20 =>
 some (v20, S19)
 )
  := (fn_eq Try.func62 rfl ok62 _ _).trans (by kernel_rfl)
noncomputable abbrev f63 := Try.f63
noncomputable def c63 : Code := bodyOf f63
theorem ok63 : codeOk p c63 = true := by kernel_rfl
noncomputable def c63_1010 : Code := codeAt [1, 0, 1, 0, 0] c63
theorem ok63_1010 : codeOk p c63_1010 = true := by kernel_rfl
noncomputable def l63_1010 (W : World) (y0 y1 y2 y3 y6 y7 y8 : Value) (S : St) : Out := la W c63_1010 ⟨#[y0, y1, y2, y3, junk, junk, y6, y7, y8, junk, junk, junk, junk, junk, junk, junk, junk, junk, junk], []⟩ S
theorem eq63 (W : World) (x0 x1 : Value) (S : St) : cw W 63 #[x0, x1] S =
 gcR #[x0, x1] S (
 bindV (aLen p W S #[24] #[x0]) fun v1 =>
 bindO (l63_1010 W x0 x1 undef undef x0 v1 (.int .i64 0) S) (kc W c63 [1, 0, 1, 0] f63)
 )
  := (fn_eq Try.func63 rfl ok63 _ _).trans (by kernel_rfl)
theorem r63_1010 (W : World) (y0 y1 y2 y3 y6 y7 y8 : Value) (S : St) : l63_1010 W y0 y1 y2 y3 y6 y7 y8 S =
 bindV (aBin p .lss 3 y8 y7) fun v2 =>
 condK v2
  (
   bindV (aIndexAddr p 24 y0 y8) fun v3 =>
   bindV (aLoad p W S 47 v3) fun v4 =>
   bindS (aCall p (cw W) S y1 #[v4]) fun v5 S6 =>
   condK v5
    (
     some (.ret, ⟨#[y0, y1, y2, y3, y8, y8, y6, y7, y8, v2, y8, y1, y0, y8, v3, v4, v5, y8, junk], []⟩, S6)
    )
    (
     bindV (aBin p .add 3 y8 (.int .i64 1)) fun v7 =>
     l63_1010 W y0 y1 y2 y3 y6 y7 v7 S6
    )
  )
  (
   some (.exit 0, ⟨#[y0, y1, y2, y3, junk, junk, y6, y7, y8, v2, junk, junk, junk, junk, junk, junk, junk, junk, junk], []⟩, S)
  )
  := (round_eq ok63_1010 ⟨#[y0, y1, y2, y3, junk, junk, y6, y7, y8, junk, junk, junk, junk, junk, junk, junk, junk, junk, junk], []⟩ S).trans (by kernel_rfl)
theorem k63_1010_0 (W : World) (y0 y1 y2 y3 y4 y5 y6 y7 y8 y9 y10 y11 y12 y13 y14 y15 y16 y17 y18 : Value) (S : St) : kc W c63 [1, 0, 1, 0] f63 (.exit 0) ⟨#[y0, y1, y2, y3, y4, y5, y6, y7, y8, y9, y10, y11, y12, y13, y14, y15, y16, y17, y18], []⟩ S =
 some ((.int .i64 (-1)), S)
  := by kernel_rfl
theorem k63_1010_ret (W : World) (y0 y1 y2 y3 y4 y5 y6 y7 y8 y9 y10 y11 y12 y13 y14 y15 y16 y17 y18 : Value) (S : St) : kc W c63 [1, 0, 1, 0] f63 (.ret) ⟨#[y0, y1, y2, y3, y4, y5, y6, y7, y8, y9, y10, y11, y12, y13, y14, y15, y16, y17, y18], []⟩ S =
 some (y4, S)
  := by kernel_rfl
noncomputable abbrev f64 := Try.f64
noncomputable def c64 : Code := bodyOf f64
theorem ok64 : codeOk p c64 = true := by kernel_rfl
theorem eq64 (W : World) (x0 x1 : Value) (S : St) : cw W 64 #[x0, x1] S =
 gcR #[x0, x1] S (
 bindV (aBin p .geq 3 x1 (.int .i64 0)) fun v1 =>
 gV v1 true fun g2 =>
 gV v1 true fun g3 =>
 bindV (wO g3 (aBin p .lss 3 (wV g2 x1) (.int .i64 6))) fun v4 =>
 bindV (aPick v1 v4 (.bool false)) fun v5 =>
 gV v5 true fun g6 =>
 gV v5 true fun g7 =>
 gV v5 true fun g8 =>
 bindS (wS g8 S (aConv p W S 3 56 (wV g7 x1))) fun v9 S10 =>
 gV v5 true fun g11 =>
 bindV (wO g11 (aBin p .shr 30 (wV g6 x0) v9)) fun v12 =>
 gV v5 true fun g13 =>
 bindV (wO g13 (aBin p .and 30 v12 (.int .u32 1))) fun v14 =>
 gV v5 true fun g15 =>
 bindV (wO g15 (aBin p .eql 30 v14 (.int .u32 1))) fun v16 =>
 bindV (aPick v5 v16 (.bool false)) fun v17 =>
 some (v17, S10)
 )
  := (fn_eq Try.func64 rfl ok64 _ _).trans (by kernel_rfl)
noncomputable abbrev f65 := Try.f65
noncomputable def c65 : Code := bodyOf f65
theorem ok65 : codeOk p c65 = true := by kernel_rfl
theorem eq65 (W : World) (x0 : Value) (S : St) : cw W 65 #[x0] S =
 gcR #[x0] S (
 bindV (aBin p .geq 2 x0 (.int .i64 0)) fun v1 =>
 gV v1 true fun g2 =>
 gV v1 true fun g3 =>
 bindV (wO g3 (aBin p .leq 2 (wV g2 x0) (.int .i64 1048576))) fun v4 =>
 bindV (aPick v1 v4 (.bool false)) fun v5 =>
 some (v5, S)
 )
  := (fn_eq Try.func65 rfl ok65 _ _).trans (by kernel_rfl)
noncomputable abbrev f66 := Try.f66
noncomputable def c66 : Code := bodyOf f66
theorem ok66 : codeOk p c66 = true := by kernel_rfl
theorem eq66 (W : World) (x0 x1 x2 x3 : Value) (S : St) : cw W 66 #[x0, x1, x2, x3] S =
 gcR #[x0, x1, x2, x3] S (
 bindV (aBin p .add 2 x0 x1) fun v1 =>
 bindV (aBin p .leq 2 v1 x2) fun v2 =>
 gV v2 false fun g3 =>
 gV v2 false fun g4 =>
 gV v2 false fun g5 =>
 bindV (wO g5 (aBin p .add 2 (wV g3 x2) (wV g4 x3))) fun v6 =>
 gV v2 false fun g7 =>
 gV v2 false fun g8 =>
 bindV (wO g8 (aBin p .leq 2 v6 (wV g7 x0))) fun v9 =>
 bindV (aPick v2 (.bool true) v9) fun v10 =>
 bindV (aUn p .not v10) fun v11 =>
 some (v11, S)
 )
  := (fn_eq Try.func66 rfl ok66 _ _).trans (by kernel_rfl)
noncomputable abbrev f67 := Try.f67
noncomputable def c67 : Code := bodyOf f67
theorem ok67 : codeOk p c67 = true := by kernel_rfl
noncomputable def c67_11010 : Code := codeAt [1, 1, 0, 1, 0, 0] c67
theorem ok67_11010 : codeOk p c67_11010 = true := by kernel_rfl
noncomputable def l67_11010 (W : World) (y0 y1 y2 y3 y4 y5 y6 y7 y8 y9 y10 y11 y19 y20 y21 : Value) (S : St) : Out := la W c67_11010 ⟨#[y0, y1, y2, y3, y4, y5, y6, y7, y8, y9, y10, y11, junk, junk, junk, junk, junk, junk, junk, y19, y20, y21], []⟩ S
theorem eq67 (W : World) (x0 x1 : Value) (S : St) : cw W 67 #[x0, x1] S =
 gcR #[x0, x1] S (
 bindV (aBin p .lss 3 x1 (.int .i64 0)) fun v1 =>
 gV v1 false fun g2 =>
 gV v1 false fun g3 =>
 bindV (wO g3 (aBin p .gtr 3 (wV g2 x1) (.int .i64 5))) fun v4 =>
 bindV (aPick v1 (.bool true) v4) fun v5 =>
 condK v5
  (
   some ((.bool false), S)
  )
  (
   bindO (l67_11010 W x0 x1 undef undef (.bool false) (.int .i64 0) x1 v1 v1 (wV g2 x1) v4 v5 undef undef undef S) (kc W c67 [1, 1, 0, 1, 0] f67)
  )
 )
  := (fn_eq Try.func67 rfl ok67 _ _).trans (by kernel_rfl)
theorem r67_11010 (W : World) (y0 y1 y2 y3 y4 y5 y6 y7 y8 y9 y10 y11 y19 y20 y21 : Value) (S : St) : l67_11010 W y0 y1 y2 y3 y4 y5 y6 y7 y8 y9 y10 y11 y19 y20 y21 S =
 bindV (aBin p .lss 3 y5 y1) fun v6 =>
 condK v6
  (
   bindV (aBin p .quo 30 y0 (.int .u32 2)) fun v7 =>
   bindV (aBin p .add 3 y5 (.int .i64 1)) fun v8 =>
   l67_11010 W v7 y1 y2 y3 y4 v8 y6 y7 y8 y9 y10 y11 y19 y20 y21 S
  )
  (
   some (.exit 0, ⟨#[y0, y1, y2, y3, y4, y5, y6, y7, y8, y9, y10, y11, y5, y1, v6, junk, junk, junk, junk, y19, y20, y21], []⟩, S)
  )
  := (round_eq ok67_11010 ⟨#[y0, y1, y2, y3, y4, y5, y6, y7, y8, y9, y10, y11, junk, junk, junk, junk, junk, junk, junk, y19, y20, y21], []⟩ S).trans (by kernel_rfl)
theorem k67_11010_0 (W : World) (y0 y1 y2 y3 y4 y5 y6 y7 y8 y9 y10 y11 y12 y13 y14 y15 y16 y17 y18 y19 y20 y21 : Value) (S : St) : kc W c67 [1, 1, 0, 1, 0] f67 (.exit 0) ⟨#[y0, y1, y2, y3, y4, y5, y6, y7, y8, y9, y10, y11, y12, y13, y14, y15, y16, y17, y18, y19, y20, y21], []⟩ S =
 bindV (aBin p .rem 30 y0 (.int .u32 2)) fun v1 =>
 bindV (aBin p .eql 30 v1 (.int .u32 1)) fun v2 =>
 some (v2, S)
  := by kernel_rfl
noncomputable abbrev f68 := Try.f68
noncomputable def c68 : Code := bodyOf f68
theorem ok68 : codeOk p c68 = true := by kernel_rfl
noncomputable def c68_1010 : Code := codeAt [1, 0, 1, 0, 0] c68
theorem ok68_1010 : codeOk p c68_1010 = true := by kernel_rfl
noncomputable def l68_1010 (W : World) (y0 y1 y2 y3 y6 y7 y8 : Value) (S : St) : Out := la W c68_1010 ⟨#[y0, y1, y2, y3, junk, junk, y6, y7, y8, junk, junk, junk, junk, junk, junk, junk, junk, junk, junk], []⟩ S
theorem eq68 (W : World) (x0 x1 : Value) (S : St) : cw W 68 #[x0, x1] S =
 gcR #[x0, x1] S (
 bindV (aLen p W S #[22] #[x0]) fun v1 =>
 bindO (l68_1010 W x0 x1 undef undef x0 v1 (.int .i64 0) S) (kc W c68 [1, 0, 1, 0] f68)
 )
  := (fn_eq Try.func68 rfl ok68 _ _).trans (by kernel_rfl)
theorem r68_1010 (W : World) (y0 y1 y2 y3 y6 y7 y8 : Value) (S : St) : l68_1010 W y0 y1 y2 y3 y6 y7 y8 S =
 bindV (aBin p .lss 3 y8 y7) fun v2 =>
 condK v2
  (
   bindV (aIndexAddr p 22 y0 y8) fun v3 =>
   bindV (aLoad p W S 45 v3) fun v4 =>
   bindS (aCall p (cw W) S y1 #[v4]) fun v5 S6 =>
   condK v5
    (
     some (.ret, ⟨#[y0, y1, y2, y3, y8, y8, y6, y7, y8, v2, y8, y1, y0, y8, v3, v4, v5, y8, junk], []⟩, S6)
    )
    (
     bindV (aBin p .add 3 y8 (.int .i64 1)) fun v7 =>
     l68_1010 W y0 y1 y2 y3 y6 y7 v7 S6
    )
  )
  (
   some (.exit 0, ⟨#[y0, y1, y2, y3, junk, junk, y6, y7, y8, v2, junk, junk, junk, junk, junk, junk, junk, junk, junk], []⟩, S)
  )
  := (round_eq ok68_1010 ⟨#[y0, y1, y2, y3, junk, junk, y6, y7, y8, junk, junk, junk, junk, junk, junk, junk, junk, junk, junk], []⟩ S).trans (by kernel_rfl)
theorem k68_1010_0 (W : World) (y0 y1 y2 y3 y4 y5 y6 y7 y8 y9 y10 y11 y12 y13 y14 y15 y16 y17 y18 : Value) (S : St) : kc W c68 [1, 0, 1, 0] f68 (.exit 0) ⟨#[y0, y1, y2, y3, y4, y5, y6, y7, y8, y9, y10, y11, y12, y13, y14, y15, y16, y17, y18], []⟩ S =
 some ((.int .i64 (-1)), S)
  := by kernel_rfl
theorem k68_1010_ret (W : World) (y0 y1 y2 y3 y4 y5 y6 y7 y8 y9 y10 y11 y12 y13 y14 y15 y16 y17 y18 : Value) (S : St) : kc W c68 [1, 0, 1, 0] f68 (.ret) ⟨#[y0, y1, y2, y3, y4, y5, y6, y7, y8, y9, y10, y11, y12, y13, y14, y15, y16, y17, y18], []⟩ S =
 some (y4, S)
  := by kernel_rfl
noncomputable abbrev f69 := Try.f69
noncomputable def c69 : Code := bodyOf f69
theorem ok69 : codeOk p c69 = true := by kernel_rfl
noncomputable def c69_1010 : Code := codeAt [1, 0, 1, 0, 0] c69
theorem ok69_1010 : codeOk p c69_1010 = true := by kernel_rfl
noncomputable def l69_1010 (W : World) (y0 y1 y2 y3 y6 y7 y8 : Value) (S : St) : Out := la W c69_1010 ⟨#[y0, y1, y2, y3, junk, junk, y6, y7, y8, junk, junk, junk, junk, junk, junk, junk, junk, junk, junk], []⟩ S
theorem eq69 (W : World) (x0 x1 : Value) (S : St) : cw W 69 #[x0, x1] S =
 gcR #[x0, x1] S (
 bindV (aLen p W S #[45] #[x0]) fun v1 =>
 bindO (l69_1010 W x0 x1 undef undef x0 v1 (.int .i64 0) S) (kc W c69 [1, 0, 1, 0] f69)
 )
  := (fn_eq Try.func69 rfl ok69 _ _).trans (by kernel_rfl)
theorem r69_1010 (W : World) (y0 y1 y2 y3 y6 y7 y8 : Value) (S : St) : l69_1010 W y0 y1 y2 y3 y6 y7 y8 S =
 bindV (aBin p .lss 3 y8 y7) fun v2 =>
 condK v2
  (
   bindV (aIndexAddr p 45 y0 y8) fun v3 =>
   bindV (aLoad p W S 2 v3) fun v4 =>
   bindS (aCall p (cw W) S y1 #[v4]) fun v5 S6 =>
   condK v5
    (
     some (.ret, ⟨#[y0, y1, y2, y3, y8, y8, y6, y7, y8, v2, y8, y1, y0, y8, v3, v4, v5, y8, junk], []⟩, S6)
    )
    (
     bindV (aBin p .add 3 y8 (.int .i64 1)) fun v7 =>
     l69_1010 W y0 y1 y2 y3 y6 y7 v7 S6
    )
  )
  (
   some (.exit 0, ⟨#[y0, y1, y2, y3, junk, junk, y6, y7, y8, v2, junk, junk, junk, junk, junk, junk, junk, junk, junk], []⟩, S)
  )
  := (round_eq ok69_1010 ⟨#[y0, y1, y2, y3, junk, junk, y6, y7, y8, junk, junk, junk, junk, junk, junk, junk, junk, junk, junk], []⟩ S).trans (by kernel_rfl)
theorem k69_1010_0 (W : World) (y0 y1 y2 y3 y4 y5 y6 y7 y8 y9 y10 y11 y12 y13 y14 y15 y16 y17 y18 : Value) (S : St) : kc W c69 [1, 0, 1, 0] f69 (.exit 0) ⟨#[y0, y1, y2, y3, y4, y5, y6, y7, y8, y9, y10, y11, y12, y13, y14, y15, y16, y17, y18], []⟩ S =
 some ((.int .i64 (-1)), S)
  := by kernel_rfl
theorem k69_1010_ret (W : World) (y0 y1 y2 y3 y4 y5 y6 y7 y8 y9 y10 y11 y12 y13 y14 y15 y16 y17 y18 : Value) (S : St) : kc W c69 [1, 0, 1, 0] f69 (.ret) ⟨#[y0, y1, y2, y3, y4, y5, y6, y7, y8, y9, y10, y11, y12, y13, y14, y15, y16, y17, y18], []⟩ S =
 some (y4, S)
  := by kernel_rfl
noncomputable abbrev f70 := Try.f70
noncomputable def c70 : Code := bodyOf f70
theorem ok70 : codeOk p c70 = true := by kernel_rfl
noncomputable def c70_1010 : Code := codeAt [1, 0, 1, 0, 0] c70
theorem ok70_1010 : codeOk p c70_1010 = true := by kernel_rfl
noncomputable def l70_1010 (W : World) (y0 y1 y2 y3 y6 y7 y8 : Value) (S : St) : Out := la W c70_1010 ⟨#[y0, y1, y2, y3, junk, junk, y6, y7, y8, junk, junk, junk, junk, junk, junk, junk, junk, junk, junk], []⟩ S
theorem eq70 (W : World) (x0 x1 : Value) (S : St) : cw W 70 #[x0, x1] S =
 gcR #[x0, x1] S (
 bindV (aLen p W S #[23] #[x0]) fun v1 =>
 bindO (l70_1010 W x0 x1 undef undef x0 v1 (.int .i64 0) S) (kc W c70 [1, 0, 1, 0] f70)
 )
  := (fn_eq Try.func70 rfl ok70 _ _).trans (by kernel_rfl)
theorem r70_1010 (W : World) (y0 y1 y2 y3 y6 y7 y8 : Value) (S : St) : l70_1010 W y0 y1 y2 y3 y6 y7 y8 S =
 bindV (aBin p .lss 3 y8 y7) fun v2 =>
 condK v2
  (
   bindV (aIndexAddr p 23 y0 y8) fun v3 =>
   bindV (aLoad p W S 32 v3) fun v4 =>
   bindS (aCall p (cw W) S y1 #[v4]) fun v5 S6 =>
   condK v5
    (
     some (.ret, ⟨#[y0, y1, y2, y3, y8, y8, y6, y7, y8, v2, y8, y1, y0, y8, v3, v4, v5, y8, junk], []⟩, S6)
    )
    (
     bindV (aBin p .add 3 y8 (.int .i64 1)) fun v7 =>
     l70_1010 W y0 y1 y2 y3 y6 y7 v7 S6
    )
  )
  (
   some (.exit 0, ⟨#[y0, y1, y2, y3, junk, junk, y6, y7, y8, v2, junk, junk, junk, junk, junk, junk, junk, junk, junk], []⟩, S)
  )
  := (round_eq ok70_1010 ⟨#[y0, y1, y2, y3, junk, junk, y6, y7, y8, junk, junk, junk, junk, junk, junk, junk, junk, junk, junk], []⟩ S).trans (by kernel_rfl)
theorem k70_1010_0 (W : World) (y0 y1 y2 y3 y4 y5 y6 y7 y8 y9 y10 y11 y12 y13 y14 y15 y16 y17 y18 : Value) (S : St) : kc W c70 [1, 0, 1, 0] f70 (.exit 0) ⟨#[y0, y1, y2, y3, y4, y5, y6, y7, y8, y9, y10, y11, y12, y13, y14, y15, y16, y17, y18], []⟩ S =
 some ((.int .i64 (-1)), S)
  := by kernel_rfl
theorem k70_1010_ret (W : World) (y0 y1 y2 y3 y4 y5 y6 y7 y8 y9 y10 y11 y12 y13 y14 y15 y16 y17 y18 : Value) (S : St) : kc W c70 [1, 0, 1, 0] f70 (.ret) ⟨#[y0, y1, y2, y3, y4, y5, y6, y7, y8, y9, y10, y11, y12, y13, y14, y15, y16, y17, y18], []⟩ S =
 some (y4, S)
  := by kernel_rfl
noncomputable abbrev f71 := Try.f71
noncomputable def c71 : Code := bodyOf f71
theorem ok71 : codeOk p c71 = true := by kernel_rfl
theorem eq71 (W : World) (x0 x1 x2 : Value) (S : St) : cw W 71 #[x0, x1, x2] S =
 gcR #[x0, x1, x2] S (
 bindS (aBox S x0) fun v1 S2 =>
 bindV (aLoad p W S2 75 x1) fun v3 =>
 bindV (aLoad p W S2 32 x2) fun v4 =>
 bindV (aLoad p W S2 32 v1) fun v5 =>
 bindS (aCall p (cw W) S2 v3 #[v4, v5]) fun v6 S7 =>
 some (v6, S7)
 )
  := (fn_eq Try.func71 rfl ok71 _ _).trans (by kernel_rfl)
end Go.Proofs.Ytogcdgdnjinjkaa.F
end
