/- The functions that the laws run, laid out for the evaluator, and facts about the types they use; printed by a program for this claim. No condition. -/
import Derived.Test.YtogcdgdnjinjkaaProg
import Derived.Test.YtogcdgdnjinjkaaQEngine1
set_option linter.unusedVariables false
set_option linter.unusedSimpArgs false
section
namespace Go.Proofs.Ytogcdgdnjinjkaa.F
open Go Go.Proofs.Ytogcdgdnjinjkaa.E
set_option linter.unusedVariables false
set_option maxRecDepth 100000
noncomputable abbrev p : Program := Try.prog
def gl : FuncId → Bool := fun n => [10, 11, 12, 13, 14, 15, 16, 17, 18, 19, 20, 21, 23, 25, 28, 29, 30, 31, 32, 33, 34, 35, 36, 37, 38, 39, 40, 41, 42, 43, 44, 45, 46, 50, 51, 52, 53, 54, 55, 56, 57, 58, 59, 60, 61, 62, 63, 64, 65, 66, 67, 68, 69, 70, 71].contains n
noncomputable abbrev cw (W : World) : Caller := callW p W gl
noncomputable abbrev la (W : World) (c : Code) (A : Act) (S : St) : Out := loopAt p W (cw W) loopW c A S
noncomputable abbrev kc (W : World) (c : Code) (q : List Nat) (fn : Func) : Exit → Act → St → Option (Value × St) := contK p W (cw W) loopW q c (finK p W fn)
noncomputable abbrev rk (W : World) (c : Code) (q : List Nat) : Exit → Act → St → Out := contK p W (cw W) loopW q c (roundK p W (cw W) loopW c)
noncomputable abbrev f3 := Try.f3
noncomputable def c3 : Code := bodyOf f3
theorem ok3 : codeOk p c3 = true := by kernel_rfl
theorem eq3 (W : World) (x0 : Value) (S : St) : cw W 3 #[x0] S =
 bindS (aBox S x0) fun v1 S2 =>
 bindS (aCall p (cw W) S2 (.func (.func 10) #[] #[]) #[]) fun v3 S4 =>
 gV v3 true fun g5 =>
 bindV (wO g5 (aLoad p W S4 26 v1)) fun v6 =>
 gV v3 true fun g7 =>
 bindS (wS g7 S4 (qS true S4 fun S_ => aCall p (cw W) S_ (.func (.func 11) #[] #[]) #[v6])) fun v8 S9 =>
 gV v3 true fun g10 =>
 bindV (wO g10 (aLoad p W S9 26 v1)) fun v11 =>
 gV v3 true fun g12 =>
 bindS (wS g12 S9 (aCall p (cw W) S9 (.func (.func 12) #[] #[]) #[v11])) fun v13 S14 =>
 gV v3 true fun g15 =>
 bindV (wO g15 (aBin p .eql 3 v8 v13)) fun v16 =>
 bindV (aPick v3 v16 (.bool false)) fun v17 =>
 some (v17, S14)
  := (fn_eq Try.func3 rfl ok3 _ _).trans (by kernel_rfl)
noncomputable abbrev f4 := Try.f4
noncomputable def c4 : Code := bodyOf f4
theorem ok4 : codeOk p c4 = true := by kernel_rfl
theorem eq4 (W : World) (x0 x1 : Value) (S : St) : cw W 4 #[x0, x1] S =
 bindS (aBox S x0) fun v1 S2 =>
 bindS (aBox S2 x1) fun v3 S4 =>
 bindS (aCall p (cw W) S4 (.func (.func 10) #[] #[]) #[]) fun v5 S6 =>
 bindV (aUn p .not v5) fun v7 =>
 condK v7
  (
   some ((.bool false), S6)
  )
  (
   bindS (aAlloc p S6 33) fun v8 S9 =>
   bindV (aLoad p W S9 26 v1) fun v10 =>
   bindV (aLoad p W S9 32 v3) fun v11 =>
   bindS (aCall p (cw W) S9 (.func (.func 13) #[] #[]) #[v10, v11]) fun v12 S13 =>
   condK v12
    (
     bindV (aLoad p W S13 26 v1) fun v14 =>
     bindV (aLoad p W S13 32 v3) fun v15 =>
     bindS (aCall p (cw W) S13 (.func (.func 14) #[] #[]) #[v14, v15]) fun v16 S17 =>
     bindT (aStore p S17 33 v8 v16) fun S18 =>
     bindV (aLoad p W S18 26 v1) fun v19 =>
     bindV (aLoad p W S18 32 v3) fun v20 =>
     bindS (aCall p (cw W) S18 (.func (.func 15) #[] #[]) #[v19, v20]) fun v21 S22 =>
     bindV (still p (Instr.extract v21 0)) fun v23 =>
     bindV (still p (Instr.extract v21 1)) fun v24 =>
     bindV (aIndexAddr p 33 v8 (.int .i64 0)) fun v25 =>
     bindV (aLoad p W S22 2 v25) fun v26 =>
     bindV (aBin p .eql 2 v23 v26) fun v27 =>
     gV v27 true fun g28 =>
     gV v27 true fun g29 =>
     bindV (wO g29 (aIndexAddr p 33 v8 (.int .i64 1))) fun v30 =>
     gV v27 true fun g31 =>
     bindV (wO g31 (aLoad p W S22 2 v30)) fun v32 =>
     gV v27 true fun g33 =>
     bindV (wO g33 (aBin p .eql 2 (wV g28 v24) v32)) fun v34 =>
     bindV (aPick v27 v34 (.bool false)) fun v35 =>
     gV v35 true fun g36 =>
     bindV (wO g36 (aLoad p W S22 26 v1)) fun v37 =>
     gV v35 true fun g38 =>
     bindV (wO g38 (aLoad p W S22 32 v3)) fun v39 =>
     gV v35 true fun g40 =>
     bindS (wS g40 S22 (qS true S22 fun S_ => aCall p (cw W) S_ (.func (.func 16) #[] #[]) #[v37, v39])) fun v41 S42 =>
     gV v35 true fun g43 =>
     bindV (wO g43 (aIndexAddr p 33 v8 (.int .i64 2))) fun v44 =>
     gV v35 true fun g45 =>
     bindV (wO g45 (aLoad p W S42 2 v44)) fun v46 =>
     gV v35 true fun g47 =>
     bindV (wO g47 (aBin p .eql 2 v41 v46)) fun v48 =>
     bindV (aPick v35 v48 (.bool false)) fun v49 =>
     gV v49 true fun g50 =>
     bindV (wO g50 (aLoad p W S42 26 v1)) fun v51 =>
     gV v49 true fun g52 =>
     bindV (wO g52 (aLoad p W S42 32 v3)) fun v53 =>
     gV v49 true fun g54 =>
     bindS (wS g54 S42 (qS true S42 fun S_ => aCall p (cw W) S_ (.func (.func 17) #[] #[]) #[v51, v53])) fun v55 S56 =>
     gV v49 true fun g57 =>
     bindV (wO g57 (aIndexAddr p 33 v8 (.int .i64 3))) fun v58 =>
     gV v49 true fun g59 =>
     bindV (wO g59 (aLoad p W S56 2 v58)) fun v60 =>
     gV v49 true fun g61 =>
     bindV (wO g61 (aBin p .eql 2 v55 v60)) fun v62 =>
     bindV (aPick v49 v62 (.bool false)) fun v63 =>
     gV v63 true fun g64 =>
     bindV (wO g64 (aLoad p W S56 26 v1)) fun v65 =>
     gV v63 true fun g66 =>
     bindV (wO g66 (aLoad p W S56 32 v3)) fun v67 =>
     gV v63 true fun g68 =>
     bindS (wS g68 S56 (qS true S56 fun S_ => aCall p (cw W) S_ (.func (.func 18) #[] #[]) #[v65, v67])) fun v69 S70 =>
     gV v63 true fun g71 =>
     bindV (wO g71 (aIndexAddr p 33 v8 (.int .i64 4))) fun v72 =>
     gV v63 true fun g73 =>
     bindV (wO g73 (aLoad p W S70 2 v72)) fun v74 =>
     gV v63 true fun g75 =>
     bindV (wO g75 (aBin p .eql 2 v69 v74)) fun v76 =>
     bindV (aPick v63 v76 (.bool false)) fun v77 =>
     gV v77 true fun g78 =>
     bindV (wO g78 (aLoad p W S70 26 v1)) fun v79 =>
     gV v77 true fun g80 =>
     bindS (wS g80 S70 (qS true S70 fun S_ => aCall p (cw W) S_ (.func (.func 19) #[] #[]) #[v79])) fun v81 S82 =>
     gV v77 true fun g83 =>
     bindV (wO g83 (aLoad p W S82 26 v1)) fun v84 =>
     gV v77 true fun g85 =>
     bindS (wS g85 S82 (aCall p (cw W) S82 (.func (.func 20) #[] #[]) #[v84])) fun v86 S87 =>
     gV v77 true fun g88 =>
     bindV (wO g88 (aBin p .eql 2 v81 v86)) fun v89 =>
     bindV (aPick v77 v89 (.bool false)) fun v90 =>
     some (v90, S87)
    )
    (
     bindV (aLoad p W S13 26 v1) fun v91 =>
     bindV (aLoad p W S13 32 v3) fun v92 =>
     bindS (aCall p (cw W) S13 (.func (.func 15) #[] #[]) #[v91, v92]) fun v93 S94 =>
     bindV (still p (Instr.extract v93 0)) fun v95 =>
     bindV (still p (Instr.extract v93 1)) fun v96 =>
     bindV (aIndexAddr p 33 v8 (.int .i64 0)) fun v97 =>
     bindV (aLoad p W S94 2 v97) fun v98 =>
     bindV (aBin p .eql 2 v95 v98) fun v99 =>
     gV v99 true fun g100 =>
     gV v99 true fun g101 =>
     bindV (wO g101 (aIndexAddr p 33 v8 (.int .i64 1))) fun v102 =>
     gV v99 true fun g103 =>
     bindV (wO g103 (aLoad p W S94 2 v102)) fun v104 =>
     gV v99 true fun g105 =>
     bindV (wO g105 (aBin p .eql 2 (wV g100 v96) v104)) fun v106 =>
     bindV (aPick v99 v106 (.bool false)) fun v107 =>
     gV v107 true fun g108 =>
     bindV (wO g108 (aLoad p W S94 26 v1)) fun v109 =>
     gV v107 true fun g110 =>
     bindV (wO g110 (aLoad p W S94 32 v3)) fun v111 =>
     gV v107 true fun g112 =>
     bindS (wS g112 S94 (qS true S94 fun S_ => aCall p (cw W) S_ (.func (.func 16) #[] #[]) #[v109, v111])) fun v113 S114 =>
     gV v107 true fun g115 =>
     bindV (wO g115 (aIndexAddr p 33 v8 (.int .i64 2))) fun v116 =>
     gV v107 true fun g117 =>
     bindV (wO g117 (aLoad p W S114 2 v116)) fun v118 =>
     gV v107 true fun g119 =>
     bindV (wO g119 (aBin p .eql 2 v113 v118)) fun v120 =>
     bindV (aPick v107 v120 (.bool false)) fun v121 =>
     gV v121 true fun g122 =>
     bindV (wO g122 (aLoad p W S114 26 v1)) fun v123 =>
     gV v121 true fun g124 =>
     bindV (wO g124 (aLoad p W S114 32 v3)) fun v125 =>
     gV v121 true fun g126 =>
     bindS (wS g126 S114 (qS true S114 fun S_ => aCall p (cw W) S_ (.func (.func 17) #[] #[]) #[v123, v125])) fun v127 S128 =>
     gV v121 true fun g129 =>
     bindV (wO g129 (aIndexAddr p 33 v8 (.int .i64 3))) fun v130 =>
     gV v121 true fun g131 =>
     bindV (wO g131 (aLoad p W S128 2 v130)) fun v132 =>
     gV v121 true fun g133 =>
     bindV (wO g133 (aBin p .eql 2 v127 v132)) fun v134 =>
     bindV (aPick v121 v134 (.bool false)) fun v135 =>
     gV v135 true fun g136 =>
     bindV (wO g136 (aLoad p W S128 26 v1)) fun v137 =>
     gV v135 true fun g138 =>
     bindV (wO g138 (aLoad p W S128 32 v3)) fun v139 =>
     gV v135 true fun g140 =>
     bindS (wS g140 S128 (qS true S128 fun S_ => aCall p (cw W) S_ (.func (.func 18) #[] #[]) #[v137, v139])) fun v141 S142 =>
     gV v135 true fun g143 =>
     bindV (wO g143 (aIndexAddr p 33 v8 (.int .i64 4))) fun v144 =>
     gV v135 true fun g145 =>
     bindV (wO g145 (aLoad p W S142 2 v144)) fun v146 =>
     gV v135 true fun g147 =>
     bindV (wO g147 (aBin p .eql 2 v141 v146)) fun v148 =>
     bindV (aPick v135 v148 (.bool false)) fun v149 =>
     gV v149 true fun g150 =>
     bindV (wO g150 (aLoad p W S142 26 v1)) fun v151 =>
     gV v149 true fun g152 =>
     bindS (wS g152 S142 (qS true S142 fun S_ => aCall p (cw W) S_ (.func (.func 19) #[] #[]) #[v151])) fun v153 S154 =>
     gV v149 true fun g155 =>
     bindV (wO g155 (aLoad p W S154 26 v1)) fun v156 =>
     gV v149 true fun g157 =>
     bindS (wS g157 S154 (aCall p (cw W) S154 (.func (.func 20) #[] #[]) #[v156])) fun v158 S159 =>
     gV v149 true fun g160 =>
     bindV (wO g160 (aBin p .eql 2 v153 v158)) fun v161 =>
     bindV (aPick v149 v161 (.bool false)) fun v162 =>
     some (v162, S159)
    )
  )
  := (fn_eq Try.func4 rfl ok4 _ _).trans (by kernel_rfl)
noncomputable abbrev f5 := Try.f5
noncomputable def c5 : Code := bodyOf f5
theorem ok5 : codeOk p c5 = true := by kernel_rfl
noncomputable def c5_111010 : Code := codeAt [1, 1, 1, 0, 1, 0, 0] c5
theorem ok5_111010 : codeOk p c5_111010 = true := by kernel_rfl
noncomputable def l5_111010 (W : World) (y0 y1 y5 y11 y12 y13 y14 y15 y16 y17 y18 y19 : Value) (S : St) : Out := la W c5_111010 ⟨#[y0, y1, junk, junk, junk, y5, junk, junk, junk, junk, junk, y11, y12, y13, y14, y15, y16, y17, y18, y19, junk, junk, junk, junk, junk, junk, junk, junk, junk, junk, junk, junk, junk, junk, junk, junk, junk, junk, junk, junk, junk, junk, junk, junk, junk, junk, junk, junk, junk, junk, junk, junk, junk, junk, junk, junk, junk, junk, junk, junk, junk, junk, junk, junk, junk, junk, junk, junk, junk, junk, junk, junk, junk, junk, junk, junk, junk, junk, junk, junk, junk, junk, junk, junk, junk, junk, junk, junk, junk, junk, junk, junk], []⟩ S
noncomputable def c5_11101001100110 : Code := codeAt [1, 1, 1, 0, 1, 0, 0, 1, 1, 0, 0, 1, 1, 0, 0] c5
theorem ok5_11101001100110 : codeOk p c5_11101001100110 = true := by kernel_rfl
noncomputable def l5_11101001100110 (W : World) (y0 y1 y3 y4 y5 y11 y12 y13 y14 y15 y16 y17 y18 y19 y20 y21 y22 y23 y24 y25 y26 y27 y28 y29 y91 : Value) (S : St) : Out := la W c5_11101001100110 ⟨#[y0, y1, junk, y3, y4, y5, junk, junk, junk, junk, junk, y11, y12, y13, y14, y15, y16, y17, y18, y19, y20, y21, y22, y23, y24, y25, y26, y27, y28, y29, junk, junk, junk, junk, junk, junk, junk, junk, junk, junk, junk, junk, junk, junk, junk, junk, junk, junk, junk, junk, junk, junk, junk, junk, junk, junk, junk, junk, junk, junk, junk, junk, junk, junk, junk, junk, junk, junk, junk, junk, junk, junk, junk, junk, junk, junk, junk, junk, junk, junk, junk, junk, junk, junk, junk, junk, junk, junk, junk, junk, junk, y91], []⟩ S
theorem eq5 (W : World) (x0 : Value) (S : St) : cw W 5 #[x0] S =
 bindS (aBox S x0) fun v1 S2 =>
 bindS (aCall p (cw W) S2 (.func (.func 10) #[] #[]) #[]) fun v3 S4 =>
 bindV (aUn p .not v3) fun v5 =>
 condK v5
  (
   some ((.bool false), S4)
  )
  (
   bindV (aLoad p W S4 26 v1) fun v6 =>
   bindS (aCall p (cw W) S4 (.func (.func 11) #[] #[]) #[v6]) fun v7 S8 =>
   bindV (aBin p .neq 3 v7 (.int .i64 0)) fun v9 =>
   condK v9
    (
     some ((.bool true), S8)
    )
    (
     bindV (aFieldAddr p 26 v1 6) fun v10 =>
     bindV (aLoad p W S8 23 v10) fun v11 =>
     bindV (aLen p W S8 #[23] #[v11]) fun v12 =>
     bindO (l5_111010 W x0 v1 undef v3 v5 v6 v7 v9 v10 v11 v12 (.int .i64 0) S8) (kc W c5 [1, 1, 1, 0, 1, 0] f5)
    )
  )
  := (fn_eq Try.func5 rfl ok5 _ _).trans (by kernel_rfl)
theorem r5_111010 (W : World) (y0 y1 y5 y11 y12 y13 y14 y15 y16 y17 y18 y19 : Value) (S : St) : l5_111010 W y0 y1 y5 y11 y12 y13 y14 y15 y16 y17 y18 y19 S =
 bindV (aBin p .lss 3 y19 y18) fun v13 =>
 condK v13
  (
   bindV (aIndexAddr p 23 y17 y19) fun v14 =>
   bindV (aLoad p W S 32 v14) fun v15 =>
   bindS (aAlloc p S 32) fun v16 S17 =>
   bindT (aStore p S17 32 v16 v15) fun S18 =>
   bindV (aFieldAddr p 26 y1 6) fun v19 =>
   bindV (aLoad p W S18 23 v19) fun v20 =>
   bindV (aSlice p W S18 23 v20 none (some y19) none) fun v21 =>
   bindV (aLen p W S18 #[23] #[v21]) fun v22 =>
   bindO (l5_11101001100110 W y0 y1 y19 v16 y5 y11 y12 y13 y14 y15 y16 y17 y18 y19 v13 y19 v14 v15 v19 v20 y19 v21 v22 (.int .i64 0) junk S18) (rk W c5_111010 [1, 1, 0, 0, 1, 1, 0])
  )
  (
   some (.exit 0, ⟨#[y0, y1, junk, junk, junk, y5, junk, junk, junk, junk, junk, y11, y12, y13, y14, y15, y16, y17, y18, y19, v13, junk, junk, junk, junk, junk, junk, junk, junk, junk, junk, junk, junk, junk, junk, junk, junk, junk, junk, junk, junk, junk, junk, junk, junk, junk, junk, junk, junk, junk, junk, junk, junk, junk, junk, junk, junk, junk, junk, junk, junk, junk, junk, junk, junk, junk, junk, junk, junk, junk, junk, junk, junk, junk, junk, junk, junk, junk, junk, junk, junk, junk, junk, junk, junk, junk, junk, junk, junk, junk, junk, junk], []⟩, S)
  )
  := (round_eq ok5_111010 ⟨#[y0, y1, junk, junk, junk, y5, junk, junk, junk, junk, junk, y11, y12, y13, y14, y15, y16, y17, y18, y19, junk, junk, junk, junk, junk, junk, junk, junk, junk, junk, junk, junk, junk, junk, junk, junk, junk, junk, junk, junk, junk, junk, junk, junk, junk, junk, junk, junk, junk, junk, junk, junk, junk, junk, junk, junk, junk, junk, junk, junk, junk, junk, junk, junk, junk, junk, junk, junk, junk, junk, junk, junk, junk, junk, junk, junk, junk, junk, junk, junk, junk, junk, junk, junk, junk, junk, junk, junk, junk, junk, junk, junk], []⟩ S).trans (by kernel_rfl)
theorem r5_11101001100110 (W : World) (y0 y1 y3 y4 y5 y11 y12 y13 y14 y15 y16 y17 y18 y19 y20 y21 y22 y23 y24 y25 y26 y27 y28 y29 y91 : Value) (S : St) : l5_11101001100110 W y0 y1 y3 y4 y5 y11 y12 y13 y14 y15 y16 y17 y18 y19 y20 y21 y22 y23 y24 y25 y26 y27 y28 y29 y91 S =
 bindV (aBin p .lss 3 y29 y28) fun v23 =>
 condK v23
  (
   bindV (aIndexAddr p 23 y27 y29) fun v24 =>
   bindV (aLoad p W S 32 v24) fun v25 =>
   bindS (aAlloc p S 32) fun v26 S27 =>
   bindT (aStore p S27 32 v26 v25) fun S28 =>
   bindV (aLoad p W S28 26 y1) fun v29 =>
   bindV (aLoad p W S28 32 y4) fun v30 =>
   bindS (qS true S28 fun S_ => aCall p (cw W) S_ (.func (.func 16) #[] #[]) #[v29, v30]) fun v31 S32 =>
   bindV (aLoad p W S32 26 y1) fun v33 =>
   bindV (aLoad p W S32 32 v26) fun v34 =>
   bindS (aCall p (cw W) S32 (.func (.func 16) #[] #[]) #[v33, v34]) fun v35 S36 =>
   bindV (aFieldAddr p 32 y4 3) fun v37 =>
   bindV (aLoad p W S36 3 v37) fun v38 =>
   bindS (qS true S36 fun S_ => aCall p (cw W) S_ (.func (.func 21) #[] #[]) #[v38]) fun v39 S40 =>
   bindV (aFieldAddr p 32 v26 3) fun v41 =>
   bindV (aLoad p W S40 3 v41) fun v42 =>
   bindS (aCall p (cw W) S40 (.func (.func 21) #[] #[]) #[v42]) fun v43 S44 =>
   bindV (aFieldAddr p 32 y4 1) fun v45 =>
   bindV (aLoad p W S44 30 v45) fun v46 =>
   bindV (aFieldAddr p 32 v26 1) fun v47 =>
   bindV (aLoad p W S44 30 v47) fun v48 =>
   bindV (aBin p .and 30 v46 v48) fun v49 =>
   bindV (aBin p .neq 30 v49 (.int .u32 0)) fun v50 =>
   gV v50 true fun g51 =>
   gV v50 true fun g52 =>
   gV v50 true fun g53 =>
   gV v50 true fun g54 =>
   bindV (wO g54 (aBin p .add 2 (wV g52 v35) (wV g53 v43))) fun v55 =>
   gV v50 true fun g56 =>
   bindV (wO g56 (aBin p .lss 2 (wV g51 v31) v55)) fun v57 =>
   bindV (aPick v50 v57 (.bool false)) fun v58 =>
   gV v58 true fun g59 =>
   gV v58 true fun g60 =>
   gV v58 true fun g61 =>
   gV v58 true fun g62 =>
   bindV (wO g62 (aBin p .add 2 (wV g60 v31) (wV g61 v39))) fun v63 =>
   gV v58 true fun g64 =>
   bindV (wO g64 (aBin p .lss 2 (wV g59 v35) v63)) fun v65 =>
   bindV (aPick v58 v65 (.bool false)) fun v66 =>
   gV v66 false fun g67 =>
   bindV (wO g67 (aFieldAddr p 32 y4 0)) fun v68 =>
   gV v66 false fun g69 =>
   bindV (wO g69 (aLoad p W S44 3 v68)) fun v70 =>
   gV v66 false fun g71 =>
   bindV (wO g71 (aFieldAddr p 32 v26 0)) fun v72 =>
   gV v66 false fun g73 =>
   bindV (wO g73 (aLoad p W S44 3 v72)) fun v74 =>
   gV v66 false fun g75 =>
   bindV (wO g75 (aBin p .eql 3 v70 v74)) fun v76 =>
   gV v66 false fun g77 =>
   gV (wV g77 v76) true fun g78 =>
   bindV (wO g78 (aFieldAddr p 32 y4 2)) fun v79 =>
   gV (wV g77 v76) true fun g80 =>
   bindV (wO g80 (aLoad p W S44 2 v79)) fun v81 =>
   gV (wV g77 v76) true fun g82 =>
   bindV (wO g82 (aFieldAddr p 32 v26 2)) fun v83 =>
   gV (wV g77 v76) true fun g84 =>
   bindV (wO g84 (aLoad p W S44 2 v83)) fun v85 =>
   gV (wV g77 v76) true fun g86 =>
   gV (wV g77 v76) true fun g87 =>
   bindV (wO g87 (aBin p .add 2 v85 (wV g86 v43))) fun v88 =>
   gV (wV g77 v76) true fun g89 =>
   bindV (wO g89 (aBin p .lss 2 v81 v88)) fun v90 =>
   gV v66 false fun g91 =>
   bindV (wO g91 (aPick (wV g77 v76) v90 (.bool false))) fun v92 =>
   gV v66 false fun g93 =>
   gV (wV g93 v92) true fun g94 =>
   bindV (wO g94 (aFieldAddr p 32 v26 2)) fun v95 =>
   gV (wV g93 v92) true fun g96 =>
   bindV (wO g96 (aLoad p W S44 2 v95)) fun v97 =>
   gV (wV g93 v92) true fun g98 =>
   bindV (wO g98 (aFieldAddr p 32 y4 2)) fun v99 =>
   gV (wV g93 v92) true fun g100 =>
   bindV (wO g100 (aLoad p W S44 2 v99)) fun v101 =>
   gV (wV g93 v92) true fun g102 =>
   gV (wV g93 v92) true fun g103 =>
   bindV (wO g103 (aBin p .add 2 v101 (wV g102 v39))) fun v104 =>
   gV (wV g93 v92) true fun g105 =>
   bindV (wO g105 (aBin p .lss 2 v97 v104)) fun v106 =>
   gV v66 false fun g107 =>
   bindV (wO g107 (aPick (wV g93 v92) v106 (.bool false))) fun v108 =>
   bindV (aPick v66 (.bool true) v108) fun v109 =>
   condK v109
    (
     some (.ret, ⟨#[y0, y1, (.bool false), y3, y4, y5, v26, v31, v35, v39, v43, y11, y12, y13, y14, y15, y16, y17, y18, y19, y20, y21, y22, y23, y24, y25, y26, y27, y28, y29, v23, v24, v25, v29, v30, v31, v33, v34, v35, v37, v38, v39, v41, v42, v43, v45, v46, v47, v48, v49, v50, v50, (wV g51 v31), (wV g52 v35), (wV g53 v43), v55, v57, v58, v58, (wV g59 v35), (wV g60 v31), (wV g61 v39), v63, v65, v66, v66, v68, v70, v72, v74, v76, (wV g77 v76), v79, v81, v83, v85, (wV g86 v43), v88, v90, v92, (wV g93 v92), v95, v97, v99, v101, (wV g102 v39), v104, v106, v108, v109, junk, y91], []⟩, S44)
    )
    (
     bindV (aBin p .add 3 y29 (.int .i64 1)) fun v110 =>
     l5_11101001100110 W y0 y1 y3 y4 y5 y11 y12 y13 y14 y15 y16 y17 y18 y19 y20 y21 y22 y23 y24 y25 y26 y27 y28 v110 y91 S44
    )
  )
  (
   some (.exit 2, ⟨#[y0, y1, junk, y3, y4, y5, junk, junk, junk, junk, junk, y11, y12, y13, y14, y15, y16, y17, y18, y19, y20, y21, y22, y23, y24, y25, y26, y27, y28, y29, v23, junk, junk, junk, junk, junk, junk, junk, junk, junk, junk, junk, junk, junk, junk, junk, junk, junk, junk, junk, junk, junk, junk, junk, junk, junk, junk, junk, junk, junk, junk, junk, junk, junk, junk, junk, junk, junk, junk, junk, junk, junk, junk, junk, junk, junk, junk, junk, junk, junk, junk, junk, junk, junk, junk, junk, junk, junk, junk, junk, junk, y91], []⟩, S)
  )
  := (round_eq ok5_11101001100110 ⟨#[y0, y1, junk, y3, y4, y5, junk, junk, junk, junk, junk, y11, y12, y13, y14, y15, y16, y17, y18, y19, y20, y21, y22, y23, y24, y25, y26, y27, y28, y29, junk, junk, junk, junk, junk, junk, junk, junk, junk, junk, junk, junk, junk, junk, junk, junk, junk, junk, junk, junk, junk, junk, junk, junk, junk, junk, junk, junk, junk, junk, junk, junk, junk, junk, junk, junk, junk, junk, junk, junk, junk, junk, junk, junk, junk, junk, junk, junk, junk, junk, junk, junk, junk, junk, junk, junk, junk, junk, junk, junk, junk, y91], []⟩ S).trans (by kernel_rfl)
theorem k5_111010_0 (W : World) (y0 y1 y2 y3 y4 y5 y6 y7 y8 y9 y10 y11 y12 y13 y14 y15 y16 y17 y18 y19 y20 y21 y22 y23 y24 y25 y26 y27 y28 y29 y30 y31 y32 y33 y34 y35 y36 y37 y38 y39 y40 y41 y42 y43 y44 y45 y46 y47 y48 y49 y50 y51 y52 y53 y54 y55 y56 y57 y58 y59 y60 y61 y62 y63 y64 y65 y66 y67 y68 y69 y70 y71 y72 y73 y74 y75 y76 y77 y78 y79 y80 y81 y82 y83 y84 y85 y86 y87 y88 y89 y90 y91 : Value) (S : St) : kc W c5 [1, 1, 1, 0, 1, 0] f5 (.exit 0) ⟨#[y0, y1, y2, y3, y4, y5, y6, y7, y8, y9, y10, y11, y12, y13, y14, y15, y16, y17, y18, y19, y20, y21, y22, y23, y24, y25, y26, y27, y28, y29, y30, y31, y32, y33, y34, y35, y36, y37, y38, y39, y40, y41, y42, y43, y44, y45, y46, y47, y48, y49, y50, y51, y52, y53, y54, y55, y56, y57, y58, y59, y60, y61, y62, y63, y64, y65, y66, y67, y68, y69, y70, y71, y72, y73, y74, y75, y76, y77, y78, y79, y80, y81, y82, y83, y84, y85, y86, y87, y88, y89, y90, y91], []⟩ S =
 some ((.bool true), S)
  := by kernel_rfl
theorem k5_11101001100110_2 (W : World) (y0 y1 y2 y3 y4 y5 y6 y7 y8 y9 y10 y11 y12 y13 y14 y15 y16 y17 y18 y19 y20 y21 y22 y23 y24 y25 y26 y27 y28 y29 y30 y31 y32 y33 y34 y35 y36 y37 y38 y39 y40 y41 y42 y43 y44 y45 y46 y47 y48 y49 y50 y51 y52 y53 y54 y55 y56 y57 y58 y59 y60 y61 y62 y63 y64 y65 y66 y67 y68 y69 y70 y71 y72 y73 y74 y75 y76 y77 y78 y79 y80 y81 y82 y83 y84 y85 y86 y87 y88 y89 y90 y91 : Value) (S : St) : rk W c5_111010 [1, 1, 0, 0, 1, 1, 0] (.exit 2) ⟨#[y0, y1, y2, y3, y4, y5, y6, y7, y8, y9, y10, y11, y12, y13, y14, y15, y16, y17, y18, y19, y20, y21, y22, y23, y24, y25, y26, y27, y28, y29, y30, y31, y32, y33, y34, y35, y36, y37, y38, y39, y40, y41, y42, y43, y44, y45, y46, y47, y48, y49, y50, y51, y52, y53, y54, y55, y56, y57, y58, y59, y60, y61, y62, y63, y64, y65, y66, y67, y68, y69, y70, y71, y72, y73, y74, y75, y76, y77, y78, y79, y80, y81, y82, y83, y84, y85, y86, y87, y88, y89, y90, y91], []⟩ S =
 bindV (aBin p .add 3 y19 (.int .i64 1)) fun v1 =>
 l5_111010 W y0 y1 y5 y11 y12 y13 y14 y15 y16 y17 y18 v1 S
  := by kernel_rfl
noncomputable abbrev f6 := Try.f6
noncomputable def c6 : Code := bodyOf f6
theorem ok6 : codeOk p c6 = true := by kernel_rfl
theorem eq6 (W : World) (x0 x1 : Value) (S : St) : cw W 6 #[x0, x1] S =
 bindS (aCall p (cw W) S (.func (.func 10) #[] #[]) #[]) fun v1 S2 =>
 bindV (aUn p .not v1) fun v3 =>
 condK v3
  (
   some ((.bool false), S2)
  )
  (
   bindS (aCall p (cw W) S2 (.func (.func 22) #[] #[]) #[x0, x1]) fun v4 S5 =>
   bindS (aAlloc p S5 26) fun v6 S7 =>
   bindT (aStore p S7 26 v6 v4) fun S8 =>
   bindV (aLoad p W S8 26 v6) fun v9 =>
   bindS (aCall p (cw W) S8 (.func (.func 11) #[] #[]) #[v9]) fun v10 S11 =>
   bindV (aBin p .eql 3 v10 (.int .i64 0)) fun v12 =>
   gV v12 true fun g13 =>
   bindV (wO g13 (aLoad p W S11 26 v6)) fun v14 =>
   gV v12 true fun g15 =>
   bindS (wS g15 S11 (aCall p (cw W) S11 (.func (.func 12) #[] #[]) #[v14])) fun v16 S17 =>
   gV v12 true fun g18 =>
   bindV (wO g18 (aBin p .eql 3 v16 (.int .i64 0))) fun v19 =>
   bindV (aPick v12 v19 (.bool false)) fun v20 =>
   gV v20 true fun g21 =>
   bindV (wO g21 (aLoad p W S17 26 v6)) fun v22 =>
   gV v20 true fun g23 =>
   gV v20 true fun g24 =>
   gV v20 true fun g25 =>
   bindS (wS g25 S17 (qS true S17 fun S_ => aCall p (cw W) S_ (.func (.func 24) #[] #[]) #[(wV g23 x0), (wV g24 x1)])) fun v26 S27 =>
   gV v20 true fun g28 =>
   bindS (wS g28 S27 (aCall p (cw W) S27 (.func (.func 23) #[] #[]) #[v22, v26])) fun v29 S30 =>
   bindV (aPick v20 v29 (.bool false)) fun v31 =>
   some (v31, S30)
  )
  := (fn_eq Try.func6 rfl ok6 _ _).trans (by kernel_rfl)
noncomputable abbrev f7 := Try.f7
noncomputable def c7 : Code := bodyOf f7
theorem ok7 : codeOk p c7 = true := by kernel_rfl
noncomputable def c7_111111010 : Code := codeAt [1, 1, 1, 1, 1, 1, 0, 1, 0, 0] c7
theorem ok7_111111010 : codeOk p c7_111111010 = true := by kernel_rfl
noncomputable def l7_111111010 (W : World) (y0 y1 y2 y3 y4 y5 y6 y9 y10 y11 y12 y13 y14 y15 y16 y17 y18 y19 y20 y21 y22 y23 y24 y25 y26 y27 y28 y29 y30 y31 y32 y33 y34 y35 y36 y37 y58 y59 y60 y61 y62 y63 y64 y65 y66 y67 y68 y69 y70 y71 y72 y73 y74 y75 y76 y77 y78 y79 y80 y81 y82 y83 y84 y85 y86 : Value) (S : St) : Out := la W c7_111111010 ⟨#[y0, y1, y2, y3, y4, y5, y6, junk, junk, y9, y10, y11, y12, y13, y14, y15, y16, y17, y18, y19, y20, y21, y22, y23, y24, y25, y26, y27, y28, y29, y30, y31, y32, y33, y34, y35, y36, y37, junk, junk, junk, junk, junk, junk, junk, junk, junk, junk, junk, junk, junk, junk, junk, junk, junk, junk, junk, junk, y58, y59, y60, y61, y62, y63, y64, y65, y66, y67, y68, y69, y70, y71, y72, y73, y74, y75, y76, y77, y78, y79, y80, y81, y82, y83, y84, y85, y86], []⟩ S
noncomputable def c7_11111101001100110 : Code := codeAt [1, 1, 1, 1, 1, 1, 0, 1, 0, 0, 1, 1, 0, 0, 1, 1, 0, 0] c7
theorem ok7_11111101001100110 : codeOk p c7_11111101001100110 = true := by kernel_rfl
noncomputable def l7_11111101001100110 (W : World) (y0 y1 y2 y3 y4 y5 y6 y7 y9 y10 y11 y12 y13 y14 y15 y16 y17 y18 y19 y20 y21 y22 y23 y24 y25 y26 y27 y28 y29 y30 y31 y32 y33 y34 y35 y36 y37 y38 y39 y40 y41 y42 y43 y44 y45 y46 y57 y58 y59 y60 y61 y62 y63 y64 y65 y66 y67 y68 y69 y70 y71 y72 y73 y74 y75 y76 y77 y78 y79 y80 y81 y82 y83 y84 y85 y86 : Value) (S : St) : Out := la W c7_11111101001100110 ⟨#[y0, y1, y2, y3, y4, y5, y6, y7, junk, y9, y10, y11, y12, y13, y14, y15, y16, y17, y18, y19, y20, y21, y22, y23, y24, y25, y26, y27, y28, y29, y30, y31, y32, y33, y34, y35, y36, y37, y38, y39, y40, y41, y42, y43, y44, y45, y46, junk, junk, junk, junk, junk, junk, junk, junk, junk, junk, y57, y58, y59, y60, y61, y62, y63, y64, y65, y66, y67, y68, y69, y70, y71, y72, y73, y74, y75, y76, y77, y78, y79, y80, y81, y82, y83, y84, y85, y86], []⟩ S
noncomputable def c7_1111111010 : Code := codeAt [1, 1, 1, 1, 1, 1, 1, 0, 1, 0, 0] c7
theorem ok7_1111111010 : codeOk p c7_1111111010 = true := by kernel_rfl
noncomputable def l7_1111111010 (W : World) (y0 y1 y2 y3 y4 y5 y6 y7 y8 y10 y11 y12 y13 y14 y15 y16 y17 y18 y19 y20 y21 y22 y23 y24 y25 y26 y27 y28 y29 y30 y31 y32 y33 y34 y35 y36 y37 y38 y39 y40 y41 y42 y43 y44 y45 y46 y47 y48 y49 y50 y51 y52 y53 y54 y55 y56 y57 y58 y59 y60 y61 y70 y71 y72 y73 y74 y75 y76 y77 y78 y79 y80 y81 y82 y83 y84 y85 y86 : Value) (S : St) : Out := la W c7_1111111010 ⟨#[y0, y1, y2, y3, y4, y5, y6, y7, y8, junk, y10, y11, y12, y13, y14, y15, y16, y17, y18, y19, y20, y21, y22, y23, y24, y25, y26, y27, y28, y29, y30, y31, y32, y33, y34, y35, y36, y37, y38, y39, y40, y41, y42, y43, y44, y45, y46, y47, y48, y49, y50, y51, y52, y53, y54, y55, y56, y57, y58, y59, y60, y61, junk, junk, junk, junk, junk, junk, junk, junk, y70, y71, y72, y73, y74, y75, y76, y77, y78, y79, y80, y81, y82, y83, y84, y85, y86], []⟩ S
noncomputable def c7_11111111010 : Code := codeAt [1, 1, 1, 1, 1, 1, 1, 1, 0, 1, 0, 0] c7
theorem ok7_11111111010 : codeOk p c7_11111111010 = true := by kernel_rfl
noncomputable def l7_11111111010 (W : World) (y0 y1 y2 y3 y4 y5 y6 y7 y8 y9 y11 y12 y13 y14 y15 y16 y17 y18 y19 y20 y21 y22 y23 y24 y25 y26 y27 y28 y29 y30 y31 y32 y33 y34 y35 y36 y37 y38 y39 y40 y41 y42 y43 y44 y45 y46 y47 y48 y49 y50 y51 y52 y53 y54 y55 y56 y57 y58 y59 y60 y61 y62 y63 y64 y65 y66 y67 y68 y69 y70 y71 y72 y73 y82 y83 y84 y85 y86 : Value) (S : St) : Out := la W c7_11111111010 ⟨#[y0, y1, y2, y3, y4, y5, y6, y7, y8, y9, junk, y11, y12, y13, y14, y15, y16, y17, y18, y19, y20, y21, y22, y23, y24, y25, y26, y27, y28, y29, y30, y31, y32, y33, y34, y35, y36, y37, y38, y39, y40, y41, y42, y43, y44, y45, y46, y47, y48, y49, y50, y51, y52, y53, y54, y55, y56, y57, y58, y59, y60, y61, y62, y63, y64, y65, y66, y67, y68, y69, y70, y71, y72, y73, junk, junk, junk, junk, junk, junk, junk, junk, y82, y83, y84, y85, y86], []⟩ S
theorem eq7 (W : World) (x0 x1 : Value) (S : St) : cw W 7 #[x0, x1] S =
 bindS (aBox S x0) fun v1 S2 =>
 bindS (aBox S2 x1) fun v3 S4 =>
 bindS (aCall p (cw W) S4 (.func (.func 10) #[] #[]) #[]) fun v5 S6 =>
 bindV (aUn p .not v5) fun v7 =>
 condK v7
  (
   some ((.bool false), S6)
  )
  (
   bindV (aLoad p W S6 26 v1) fun v8 =>
   bindV (aLoad p W S6 26 v3) fun v9 =>
   bindS (qS true S6 fun S_ => aCall p (cw W) S_ (.func (.func 25) #[] #[]) #[v8, v9]) fun v10 S11 =>
   bindV (aLoad p W S11 26 v1) fun v12 =>
   bindV (aLoad p W S11 26 v3) fun v13 =>
   bindS (aCall p (cw W) S11 (.func (.func 23) #[] #[]) #[v12, v13]) fun v14 S15 =>
   bindV (aBin p .neq 4 v10 v14) fun v16 =>
   gV v16 false fun g17 =>
   bindV (wO g17 (aLoad p W S15 26 v1)) fun v18 =>
   gV v16 false fun g19 =>
   bindV (wO g19 (aLoad p W S15 26 v1)) fun v20 =>
   gV v16 false fun g21 =>
   bindS (wS g21 S15 (aCall p (cw W) S15 (.func (.func 25) #[] #[]) #[v18, v20])) fun v22 S23 =>
   gV v16 false fun g24 =>
   bindV (wO g24 (aUn p .not v22)) fun v25 =>
   bindV (aPick v16 (.bool true) v25) fun v26 =>
   condK v26
    (
     some ((.bool false), S23)
    )
    (
     bindV (aLoad p W S23 26 v1) fun v27 =>
     bindS (aCall p (cw W) S23 (.func (.func 26) #[] #[]) #[v27]) fun v28 S29 =>
     bindS (aAlloc p S29 26) fun v30 S31 =>
     bindT (aStore p S31 26 v30 v28) fun S32 =>
     bindV (aLoad p W S32 26 v1) fun v33 =>
     bindS (aCall p (cw W) S32 (.func (.func 27) #[] #[]) #[v33]) fun v34 S35 =>
     bindS (aAlloc p S35 26) fun v36 S37 =>
     bindT (aStore p S37 26 v36 v34) fun S38 =>
     bindV (aLoad p W S38 26 v30) fun v39 =>
     bindV (aLoad p W S38 26 v1) fun v40 =>
     bindS (aCall p (cw W) S38 (.func (.func 23) #[] #[]) #[v39, v40]) fun v41 S42 =>
     bindV (aUn p .not v41) fun v43 =>
     condK v43
      (
       some ((.bool false), S42)
      )
      (
       bindV (aFieldAddr p 26 v30 5) fun v44 =>
       bindV (aLoad p W S42 22 v44) fun v45 =>
       bindV (aLen p W S42 #[22] #[v45]) fun v46 =>
       bindO (l7_111111010 W x0 x1 v1 v3 (.bool false) v30 v36 undef undef v5 v7 v8 v9 v10 v12 v13 v14 v16 v16 v18 v20 v22 v25 v26 v27 v28 v33 v34 v39 v40 v41 v43 v44 v45 v46 (.int .i64 0) undef undef undef undef undef undef undef undef undef undef undef undef undef undef undef undef undef undef undef undef undef undef undef undef undef undef undef undef undef S42) (kc W c7 [1, 1, 1, 1, 1, 1, 0, 1, 0] f7)
      )
    )
  )
  := (fn_eq Try.func7 rfl ok7 _ _).trans (by kernel_rfl)
theorem r7_111111010 (W : World) (y0 y1 y2 y3 y4 y5 y6 y9 y10 y11 y12 y13 y14 y15 y16 y17 y18 y19 y20 y21 y22 y23 y24 y25 y26 y27 y28 y29 y30 y31 y32 y33 y34 y35 y36 y37 y58 y59 y60 y61 y62 y63 y64 y65 y66 y67 y68 y69 y70 y71 y72 y73 y74 y75 y76 y77 y78 y79 y80 y81 y82 y83 y84 y85 y86 : Value) (S : St) : l7_111111010 W y0 y1 y2 y3 y4 y5 y6 y9 y10 y11 y12 y13 y14 y15 y16 y17 y18 y19 y20 y21 y22 y23 y24 y25 y26 y27 y28 y29 y30 y31 y32 y33 y34 y35 y36 y37 y58 y59 y60 y61 y62 y63 y64 y65 y66 y67 y68 y69 y70 y71 y72 y73 y74 y75 y76 y77 y78 y79 y80 y81 y82 y83 y84 y85 y86 S =
 bindV (aBin p .lss 3 y37 y36) fun v47 =>
 condK v47
  (
   bindV (aFieldAddr p 26 y5 5) fun v48 =>
   bindV (aLoad p W S 22 v48) fun v49 =>
   bindV (aIndexAddr p 22 v49 y37) fun v50 =>
   bindV (aLoad p W S 45 v50) fun v51 =>
   bindV (aLen p W S #[45] #[v51]) fun v52 =>
   bindO (l7_11111101001100110 W y0 y1 y2 y3 y4 y5 y6 y37 y9 y10 y11 y12 y13 y14 y15 y16 y17 y18 y19 y20 y21 y22 y23 y24 y25 y26 y27 y28 y29 y30 y31 y32 y33 y34 y35 y36 y37 v47 y37 v48 v49 y37 v50 v51 v52 (.int .i64 0) junk y58 y59 y60 y61 y62 y63 y64 y65 y66 y67 y68 y69 y70 y71 y72 y73 y74 y75 y76 y77 y78 y79 y80 y81 y82 y83 y84 y85 y86 S) (rk W c7_111111010 [1, 1, 0, 0, 1, 1, 0])
  )
  (
   some (.exit 0, ⟨#[y0, y1, y2, y3, y4, y5, y6, junk, junk, y9, y10, y11, y12, y13, y14, y15, y16, y17, y18, y19, y20, y21, y22, y23, y24, y25, y26, y27, y28, y29, y30, y31, y32, y33, y34, y35, y36, y37, v47, junk, junk, junk, junk, junk, junk, junk, junk, junk, junk, junk, junk, junk, junk, junk, junk, junk, junk, junk, y58, y59, y60, y61, y62, y63, y64, y65, y66, y67, y68, y69, y70, y71, y72, y73, y74, y75, y76, y77, y78, y79, y80, y81, y82, y83, y84, y85, y86], []⟩, S)
  )
  := (round_eq ok7_111111010 ⟨#[y0, y1, y2, y3, y4, y5, y6, junk, junk, y9, y10, y11, y12, y13, y14, y15, y16, y17, y18, y19, y20, y21, y22, y23, y24, y25, y26, y27, y28, y29, y30, y31, y32, y33, y34, y35, y36, y37, junk, junk, junk, junk, junk, junk, junk, junk, junk, junk, junk, junk, junk, junk, junk, junk, junk, junk, junk, junk, y58, y59, y60, y61, y62, y63, y64, y65, y66, y67, y68, y69, y70, y71, y72, y73, y74, y75, y76, y77, y78, y79, y80, y81, y82, y83, y84, y85, y86], []⟩ S).trans (by kernel_rfl)
theorem r7_11111101001100110 (W : World) (y0 y1 y2 y3 y4 y5 y6 y7 y9 y10 y11 y12 y13 y14 y15 y16 y17 y18 y19 y20 y21 y22 y23 y24 y25 y26 y27 y28 y29 y30 y31 y32 y33 y34 y35 y36 y37 y38 y39 y40 y41 y42 y43 y44 y45 y46 y57 y58 y59 y60 y61 y62 y63 y64 y65 y66 y67 y68 y69 y70 y71 y72 y73 y74 y75 y76 y77 y78 y79 y80 y81 y82 y83 y84 y85 y86 : Value) (S : St) : l7_11111101001100110 W y0 y1 y2 y3 y4 y5 y6 y7 y9 y10 y11 y12 y13 y14 y15 y16 y17 y18 y19 y20 y21 y22 y23 y24 y25 y26 y27 y28 y29 y30 y31 y32 y33 y34 y35 y36 y37 y38 y39 y40 y41 y42 y43 y44 y45 y46 y57 y58 y59 y60 y61 y62 y63 y64 y65 y66 y67 y68 y69 y70 y71 y72 y73 y74 y75 y76 y77 y78 y79 y80 y81 y82 y83 y84 y85 y86 S =
 bindV (aBin p .lss 3 y46 y45) fun v53 =>
 condK v53
  (
   bindV (aFieldAddr p 26 y5 5) fun v54 =>
   bindV (aLoad p W S 22 v54) fun v55 =>
   bindV (aIndexAddr p 22 v55 y7) fun v56 =>
   bindV (aLoad p W S 45 v56) fun v57 =>
   bindV (aIndexAddr p 45 v57 y46) fun v58 =>
   bindT (aStore p S 2 v58 (.int .i64 (-9))) fun S59 =>
   bindV (aBin p .add 3 y46 (.int .i64 1)) fun v60 =>
   l7_11111101001100110 W y0 y1 y2 y3 y4 y5 y6 y7 y9 y10 y11 y12 y13 y14 y15 y16 y17 y18 y19 y20 y21 y22 y23 y24 y25 y26 y27 y28 y29 y30 y31 y32 y33 y34 y35 y36 y37 y38 y39 y40 y41 y42 y43 y44 y45 v60 y57 y58 y59 y60 y61 y62 y63 y64 y65 y66 y67 y68 y69 y70 y71 y72 y73 y74 y75 y76 y77 y78 y79 y80 y81 y82 y83 y84 y85 y86 S59
  )
  (
   some (.exit 2, ⟨#[y0, y1, y2, y3, y4, y5, y6, y7, junk, y9, y10, y11, y12, y13, y14, y15, y16, y17, y18, y19, y20, y21, y22, y23, y24, y25, y26, y27, y28, y29, y30, y31, y32, y33, y34, y35, y36, y37, y38, y39, y40, y41, y42, y43, y44, y45, y46, v53, junk, junk, junk, junk, junk, junk, junk, junk, junk, y57, y58, y59, y60, y61, y62, y63, y64, y65, y66, y67, y68, y69, y70, y71, y72, y73, y74, y75, y76, y77, y78, y79, y80, y81, y82, y83, y84, y85, y86], []⟩, S)
  )
  := (round_eq ok7_11111101001100110 ⟨#[y0, y1, y2, y3, y4, y5, y6, y7, junk, y9, y10, y11, y12, y13, y14, y15, y16, y17, y18, y19, y20, y21, y22, y23, y24, y25, y26, y27, y28, y29, y30, y31, y32, y33, y34, y35, y36, y37, y38, y39, y40, y41, y42, y43, y44, y45, y46, junk, junk, junk, junk, junk, junk, junk, junk, junk, junk, y57, y58, y59, y60, y61, y62, y63, y64, y65, y66, y67, y68, y69, y70, y71, y72, y73, y74, y75, y76, y77, y78, y79, y80, y81, y82, y83, y84, y85, y86], []⟩ S).trans (by kernel_rfl)
theorem r7_1111111010 (W : World) (y0 y1 y2 y3 y4 y5 y6 y7 y8 y10 y11 y12 y13 y14 y15 y16 y17 y18 y19 y20 y21 y22 y23 y24 y25 y26 y27 y28 y29 y30 y31 y32 y33 y34 y35 y36 y37 y38 y39 y40 y41 y42 y43 y44 y45 y46 y47 y48 y49 y50 y51 y52 y53 y54 y55 y56 y57 y58 y59 y60 y61 y70 y71 y72 y73 y74 y75 y76 y77 y78 y79 y80 y81 y82 y83 y84 y85 y86 : Value) (S : St) : l7_1111111010 W y0 y1 y2 y3 y4 y5 y6 y7 y8 y10 y11 y12 y13 y14 y15 y16 y17 y18 y19 y20 y21 y22 y23 y24 y25 y26 y27 y28 y29 y30 y31 y32 y33 y34 y35 y36 y37 y38 y39 y40 y41 y42 y43 y44 y45 y46 y47 y48 y49 y50 y51 y52 y53 y54 y55 y56 y57 y58 y59 y60 y61 y70 y71 y72 y73 y74 y75 y76 y77 y78 y79 y80 y81 y82 y83 y84 y85 y86 S =
 bindV (aBin p .lss 3 y61 y60) fun v61 =>
 condK v61
  (
   bindV (aFieldAddr p 26 y5 6) fun v62 =>
   bindV (aLoad p W S 23 v62) fun v63 =>
   bindV (aIndexAddr p 23 v63 y61) fun v64 =>
   bindV (aFieldAddr p 32 v64 3) fun v65 =>
   bindT (aStore p S 3 v65 (.int .i64 (-9))) fun S66 =>
   bindV (aBin p .add 3 y61 (.int .i64 1)) fun v67 =>
   l7_1111111010 W y0 y1 y2 y3 y4 y5 y6 y7 y8 y10 y11 y12 y13 y14 y15 y16 y17 y18 y19 y20 y21 y22 y23 y24 y25 y26 y27 y28 y29 y30 y31 y32 y33 y34 y35 y36 y37 y38 y39 y40 y41 y42 y43 y44 y45 y46 y47 y48 y49 y50 y51 y52 y53 y54 y55 y56 y57 y58 y59 y60 v67 y70 y71 y72 y73 y74 y75 y76 y77 y78 y79 y80 y81 y82 y83 y84 y85 y86 S66
  )
  (
   some (.exit 4, ⟨#[y0, y1, y2, y3, y4, y5, y6, y7, y8, junk, y10, y11, y12, y13, y14, y15, y16, y17, y18, y19, y20, y21, y22, y23, y24, y25, y26, y27, y28, y29, y30, y31, y32, y33, y34, y35, y36, y37, y38, y39, y40, y41, y42, y43, y44, y45, y46, y47, y48, y49, y50, y51, y52, y53, y54, y55, y56, y57, y58, y59, y60, y61, v61, junk, junk, junk, junk, junk, junk, junk, y70, y71, y72, y73, y74, y75, y76, y77, y78, y79, y80, y81, y82, y83, y84, y85, y86], []⟩, S)
  )
  := (round_eq ok7_1111111010 ⟨#[y0, y1, y2, y3, y4, y5, y6, y7, y8, junk, y10, y11, y12, y13, y14, y15, y16, y17, y18, y19, y20, y21, y22, y23, y24, y25, y26, y27, y28, y29, y30, y31, y32, y33, y34, y35, y36, y37, y38, y39, y40, y41, y42, y43, y44, y45, y46, y47, y48, y49, y50, y51, y52, y53, y54, y55, y56, y57, y58, y59, y60, y61, junk, junk, junk, junk, junk, junk, junk, junk, y70, y71, y72, y73, y74, y75, y76, y77, y78, y79, y80, y81, y82, y83, y84, y85, y86], []⟩ S).trans (by kernel_rfl)
theorem r7_11111111010 (W : World) (y0 y1 y2 y3 y4 y5 y6 y7 y8 y9 y11 y12 y13 y14 y15 y16 y17 y18 y19 y20 y21 y22 y23 y24 y25 y26 y27 y28 y29 y30 y31 y32 y33 y34 y35 y36 y37 y38 y39 y40 y41 y42 y43 y44 y45 y46 y47 y48 y49 y50 y51 y52 y53 y54 y55 y56 y57 y58 y59 y60 y61 y62 y63 y64 y65 y66 y67 y68 y69 y70 y71 y72 y73 y82 y83 y84 y85 y86 : Value) (S : St) : l7_11111111010 W y0 y1 y2 y3 y4 y5 y6 y7 y8 y9 y11 y12 y13 y14 y15 y16 y17 y18 y19 y20 y21 y22 y23 y24 y25 y26 y27 y28 y29 y30 y31 y32 y33 y34 y35 y36 y37 y38 y39 y40 y41 y42 y43 y44 y45 y46 y47 y48 y49 y50 y51 y52 y53 y54 y55 y56 y57 y58 y59 y60 y61 y62 y63 y64 y65 y66 y67 y68 y69 y70 y71 y72 y73 y82 y83 y84 y85 y86 S =
 bindV (aBin p .lss 3 y73 y72) fun v68 =>
 condK v68
  (
   bindV (aFieldAddr p 26 y5 7) fun v69 =>
   bindV (aLoad p W S 24 v69) fun v70 =>
   bindV (aIndexAddr p 24 v70 y73) fun v71 =>
   bindV (aFieldAddr p 47 v71 2) fun v72 =>
   bindT (aStore p S 2 v72 (.int .i64 (-9))) fun S73 =>
   bindV (aBin p .add 3 y73 (.int .i64 1)) fun v74 =>
   l7_11111111010 W y0 y1 y2 y3 y4 y5 y6 y7 y8 y9 y11 y12 y13 y14 y15 y16 y17 y18 y19 y20 y21 y22 y23 y24 y25 y26 y27 y28 y29 y30 y31 y32 y33 y34 y35 y36 y37 y38 y39 y40 y41 y42 y43 y44 y45 y46 y47 y48 y49 y50 y51 y52 y53 y54 y55 y56 y57 y58 y59 y60 y61 y62 y63 y64 y65 y66 y67 y68 y69 y70 y71 y72 v74 y82 y83 y84 y85 y86 S73
  )
  (
   some (.exit 6, ⟨#[y0, y1, y2, y3, y4, y5, y6, y7, y8, y9, junk, y11, y12, y13, y14, y15, y16, y17, y18, y19, y20, y21, y22, y23, y24, y25, y26, y27, y28, y29, y30, y31, y32, y33, y34, y35, y36, y37, y38, y39, y40, y41, y42, y43, y44, y45, y46, y47, y48, y49, y50, y51, y52, y53, y54, y55, y56, y57, y58, y59, y60, y61, y62, y63, y64, y65, y66, y67, y68, y69, y70, y71, y72, y73, v68, junk, junk, junk, junk, junk, junk, junk, y82, y83, y84, y85, y86], []⟩, S)
  )
  := (round_eq ok7_11111111010 ⟨#[y0, y1, y2, y3, y4, y5, y6, y7, y8, y9, junk, y11, y12, y13, y14, y15, y16, y17, y18, y19, y20, y21, y22, y23, y24, y25, y26, y27, y28, y29, y30, y31, y32, y33, y34, y35, y36, y37, y38, y39, y40, y41, y42, y43, y44, y45, y46, y47, y48, y49, y50, y51, y52, y53, y54, y55, y56, y57, y58, y59, y60, y61, y62, y63, y64, y65, y66, y67, y68, y69, y70, y71, y72, y73, junk, junk, junk, junk, junk, junk, junk, junk, y82, y83, y84, y85, y86], []⟩ S).trans (by kernel_rfl)
theorem k7_111111010_0 (W : World) (y0 y1 y2 y3 y4 y5 y6 y7 y8 y9 y10 y11 y12 y13 y14 y15 y16 y17 y18 y19 y20 y21 y22 y23 y24 y25 y26 y27 y28 y29 y30 y31 y32 y33 y34 y35 y36 y37 y38 y39 y40 y41 y42 y43 y44 y45 y46 y47 y48 y49 y50 y51 y52 y53 y54 y55 y56 y57 y58 y59 y60 y61 y62 y63 y64 y65 y66 y67 y68 y69 y70 y71 y72 y73 y74 y75 y76 y77 y78 y79 y80 y81 y82 y83 y84 y85 y86 : Value) (S : St) : kc W c7 [1, 1, 1, 1, 1, 1, 0, 1, 0] f7 (.exit 0) ⟨#[y0, y1, y2, y3, y4, y5, y6, y7, y8, y9, y10, y11, y12, y13, y14, y15, y16, y17, y18, y19, y20, y21, y22, y23, y24, y25, y26, y27, y28, y29, y30, y31, y32, y33, y34, y35, y36, y37, y38, y39, y40, y41, y42, y43, y44, y45, y46, y47, y48, y49, y50, y51, y52, y53, y54, y55, y56, y57, y58, y59, y60, y61, y62, y63, y64, y65, y66, y67, y68, y69, y70, y71, y72, y73, y74, y75, y76, y77, y78, y79, y80, y81, y82, y83, y84, y85, y86], []⟩ S =
 bindV (aFieldAddr p 26 y5 6) fun v1 =>
 bindV (aLoad p W S 23 v1) fun v2 =>
 bindV (aLen p W S #[23] #[v2]) fun v3 =>
 bindO (l7_1111111010 W y0 y1 y2 y3 y4 y5 y6 y7 y8 y10 y11 y12 y13 y14 y15 y16 y17 y18 y19 y20 y21 y22 y23 y24 y25 y26 y27 y28 y29 y30 y31 y32 y33 y34 y35 y36 y37 y38 y39 y40 y41 y42 y43 y44 y45 y46 y47 y48 y49 y50 y51 y52 y53 y54 y55 y56 y57 v1 v2 v3 (.int .i64 0) y70 y71 y72 y73 y74 y75 y76 y77 y78 y79 y80 y81 y82 y83 y84 y85 y86 S) (kc W c7 [1, 1, 1, 1, 1, 1, 1, 0, 1, 0] f7)
  := by kernel_rfl
theorem k7_11111101001100110_2 (W : World) (y0 y1 y2 y3 y4 y5 y6 y7 y8 y9 y10 y11 y12 y13 y14 y15 y16 y17 y18 y19 y20 y21 y22 y23 y24 y25 y26 y27 y28 y29 y30 y31 y32 y33 y34 y35 y36 y37 y38 y39 y40 y41 y42 y43 y44 y45 y46 y47 y48 y49 y50 y51 y52 y53 y54 y55 y56 y57 y58 y59 y60 y61 y62 y63 y64 y65 y66 y67 y68 y69 y70 y71 y72 y73 y74 y75 y76 y77 y78 y79 y80 y81 y82 y83 y84 y85 y86 : Value) (S : St) : rk W c7_111111010 [1, 1, 0, 0, 1, 1, 0] (.exit 2) ⟨#[y0, y1, y2, y3, y4, y5, y6, y7, y8, y9, y10, y11, y12, y13, y14, y15, y16, y17, y18, y19, y20, y21, y22, y23, y24, y25, y26, y27, y28, y29, y30, y31, y32, y33, y34, y35, y36, y37, y38, y39, y40, y41, y42, y43, y44, y45, y46, y47, y48, y49, y50, y51, y52, y53, y54, y55, y56, y57, y58, y59, y60, y61, y62, y63, y64, y65, y66, y67, y68, y69, y70, y71, y72, y73, y74, y75, y76, y77, y78, y79, y80, y81, y82, y83, y84, y85, y86], []⟩ S =
 bindV (aBin p .add 3 y37 (.int .i64 1)) fun v1 =>
 l7_111111010 W y0 y1 y2 y3 y4 y5 y6 y9 y10 y11 y12 y13 y14 y15 y16 y17 y18 y19 y20 y21 y22 y23 y24 y25 y26 y27 y28 y29 y30 y31 y32 y33 y34 y35 y36 v1 y58 y59 y60 y61 y62 y63 y64 y65 y66 y67 y68 y69 y70 y71 y72 y73 y74 y75 y76 y77 y78 y79 y80 y81 y82 y83 y84 y85 y86 S
  := by kernel_rfl
theorem k7_1111111010_4 (W : World) (y0 y1 y2 y3 y4 y5 y6 y7 y8 y9 y10 y11 y12 y13 y14 y15 y16 y17 y18 y19 y20 y21 y22 y23 y24 y25 y26 y27 y28 y29 y30 y31 y32 y33 y34 y35 y36 y37 y38 y39 y40 y41 y42 y43 y44 y45 y46 y47 y48 y49 y50 y51 y52 y53 y54 y55 y56 y57 y58 y59 y60 y61 y62 y63 y64 y65 y66 y67 y68 y69 y70 y71 y72 y73 y74 y75 y76 y77 y78 y79 y80 y81 y82 y83 y84 y85 y86 : Value) (S : St) : kc W c7 [1, 1, 1, 1, 1, 1, 1, 0, 1, 0] f7 (.exit 4) ⟨#[y0, y1, y2, y3, y4, y5, y6, y7, y8, y9, y10, y11, y12, y13, y14, y15, y16, y17, y18, y19, y20, y21, y22, y23, y24, y25, y26, y27, y28, y29, y30, y31, y32, y33, y34, y35, y36, y37, y38, y39, y40, y41, y42, y43, y44, y45, y46, y47, y48, y49, y50, y51, y52, y53, y54, y55, y56, y57, y58, y59, y60, y61, y62, y63, y64, y65, y66, y67, y68, y69, y70, y71, y72, y73, y74, y75, y76, y77, y78, y79, y80, y81, y82, y83, y84, y85, y86], []⟩ S =
 bindV (aFieldAddr p 26 y5 7) fun v1 =>
 bindV (aLoad p W S 24 v1) fun v2 =>
 bindV (aLen p W S #[24] #[v2]) fun v3 =>
 bindO (l7_11111111010 W y0 y1 y2 y3 y4 y5 y6 y7 y8 y9 y11 y12 y13 y14 y15 y16 y17 y18 y19 y20 y21 y22 y23 y24 y25 y26 y27 y28 y29 y30 y31 y32 y33 y34 y35 y36 y37 y38 y39 y40 y41 y42 y43 y44 y45 y46 y47 y48 y49 y50 y51 y52 y53 y54 y55 y56 y57 y58 y59 y60 y61 y62 y63 y64 y65 y66 y67 y68 y69 v1 v2 v3 (.int .i64 0) y82 y83 y84 y85 y86 S) (kc W c7 [1, 1, 1, 1, 1, 1, 1, 1, 0, 1, 0] f7)
  := by kernel_rfl
theorem k7_11111111010_6 (W : World) (y0 y1 y2 y3 y4 y5 y6 y7 y8 y9 y10 y11 y12 y13 y14 y15 y16 y17 y18 y19 y20 y21 y22 y23 y24 y25 y26 y27 y28 y29 y30 y31 y32 y33 y34 y35 y36 y37 y38 y39 y40 y41 y42 y43 y44 y45 y46 y47 y48 y49 y50 y51 y52 y53 y54 y55 y56 y57 y58 y59 y60 y61 y62 y63 y64 y65 y66 y67 y68 y69 y70 y71 y72 y73 y74 y75 y76 y77 y78 y79 y80 y81 y82 y83 y84 y85 y86 : Value) (S : St) : kc W c7 [1, 1, 1, 1, 1, 1, 1, 1, 0, 1, 0] f7 (.exit 6) ⟨#[y0, y1, y2, y3, y4, y5, y6, y7, y8, y9, y10, y11, y12, y13, y14, y15, y16, y17, y18, y19, y20, y21, y22, y23, y24, y25, y26, y27, y28, y29, y30, y31, y32, y33, y34, y35, y36, y37, y38, y39, y40, y41, y42, y43, y44, y45, y46, y47, y48, y49, y50, y51, y52, y53, y54, y55, y56, y57, y58, y59, y60, y61, y62, y63, y64, y65, y66, y67, y68, y69, y70, y71, y72, y73, y74, y75, y76, y77, y78, y79, y80, y81, y82, y83, y84, y85, y86], []⟩ S =
 bindV (aLoad p W S 26 y2) fun v1 =>
 bindS (aCall p (cw W) S (.func (.func 11) #[] #[]) #[v1]) fun v2 S3 =>
 bindV (aLoad p W S3 26 y2) fun v4 =>
 bindV (aLoad p W S3 26 y6) fun v5 =>
 bindS (aCall p (cw W) S3 (.func (.func 23) #[] #[]) #[v4, v5]) fun v6 S7 =>
 some (v6, S7)
  := by kernel_rfl
noncomputable abbrev f8 := Try.f8
noncomputable def c8 : Code := bodyOf f8
theorem ok8 : codeOk p c8 = true := by kernel_rfl
theorem eq8 (W : World) (x0 x1 x2 : Value) (S : St) : cw W 8 #[x0, x1, x2] S =
 bindS (aBox S x0) fun v1 S2 =>
 bindS (aBox S2 x1) fun v3 S4 =>
 bindS (aCall p (cw W) S4 (.func (.func 10) #[] #[]) #[]) fun v5 S6 =>
 bindV (aUn p .not v5) fun v7 =>
 condK v7
  (
   some ((.bool false), S6)
  )
  (
   bindV (aLoad p W S6 26 v1) fun v8 =>
   bindS (aCall p (cw W) S6 (.func (.func 11) #[] #[]) #[v8]) fun v9 S10 =>
   bindV (aBin p .neq 3 v9 (.int .i64 0)) fun v11 =>
   condK v11
    (
     bindV (aLoad p W S10 26 v1) fun v12 =>
     bindS (aCall p (cw W) S10 (.func (.func 12) #[] #[]) #[v12]) fun v13 S14 =>
     bindV (aBin p .neq 3 v13 (.int .i64 0)) fun v15 =>
     some (v15, S14)
    )
    (
     bindV (aLoad p W S10 26 v1) fun v16 =>
     bindS (aCall p (cw W) S10 (.func (.func 26) #[] #[]) #[v16]) fun v17 S18 =>
     bindS (aAlloc p S18 26) fun v19 S20 =>
     bindT (aStore p S20 26 v19 v17) fun S21 =>
     bindV (aIndexAddr p 48 v3 (.int .i64 0)) fun v22 =>
     bindV (aLoad p W S21 5 v22) fun v23 =>
     bindS (qS true S21 fun S_ => aConv p W S_ 5 3 v23) fun v24 S25 =>
     bindV (aFieldAddr p 26 v1 0) fun v26 =>
     bindV (aLoad p W S25 3 v26) fun v27 =>
     bindV (aBin p .rem 3 v24 v27) fun v28 =>
     bindV (aIndexAddr p 48 v3 (.int .i64 1)) fun v29 =>
     bindV (aLoad p W S25 5 v29) fun v30 =>
     bindS (qS true S25 fun S_ => aConv p W S_ 5 3 v30) fun v31 S32 =>
     bindV (aBin p .rem 3 v31 (.int .i64 2)) fun v33 =>
     bindV (aFieldAddr p 26 v19 5) fun v34 =>
     bindV (aLoad p W S32 22 v34) fun v35 =>
     bindV (aIndexAddr p 22 v35 v28) fun v36 =>
     bindV (aLoad p W S32 45 v36) fun v37 =>
     bindV (aIndexAddr p 45 v37 v33) fun v38 =>
     bindT (aStore p S32 2 v38 x2) fun S39 =>
     bindV (aBin p .lss 2 x2 (.int .i64 0)) fun v40 =>
     gV v40 false fun g41 =>
     gV v40 false fun g42 =>
     bindV (wO g42 (aFieldAddr p 26 v1 2)) fun v43 =>
     gV v40 false fun g44 =>
     bindV (wO g44 (aLoad p W S39 2 v43)) fun v45 =>
     gV v40 false fun g46 =>
     bindV (wO g46 (aBin p .gtr 2 (wV g41 x2) v45)) fun v47 =>
     bindV (aPick v40 (.bool true) v47) fun v48 =>
     condK v48
      (
       bindV (aLoad p W S39 26 v19) fun v49 =>
       bindS (aCall p (cw W) S39 (.func (.func 11) #[] #[]) #[v49]) fun v50 S51 =>
       bindV (aBin p .eql 3 v50 (.int .i64 4)) fun v52 =>
       some (v52, S51)
      )
      (
       bindV (aLoad p W S39 26 v19) fun v53 =>
       bindS (aCall p (cw W) S39 (.func (.func 11) #[] #[]) #[v53]) fun v54 S55 =>
       bindV (aBin p .eql 3 v54 (.int .i64 0)) fun v56 =>
       some (v56, S55)
      )
    )
  )
  := (fn_eq Try.func8 rfl ok8 _ _).trans (by kernel_rfl)
noncomputable abbrev f9 := Try.f9
noncomputable def c9 : Code := bodyOf f9
theorem ok9 : codeOk p c9 = true := by kernel_rfl
theorem eq9 (W : World) (x0 x1 : Value) (S : St) : cw W 9 #[x0, x1] S =
 bindS (aBox S x0) fun v1 S2 =>
 bindS (aCall p (cw W) S2 (.func (.func 10) #[] #[]) #[]) fun v3 S4 =>
 bindV (aUn p .not v3) fun v5 =>
 condK v5
  (
   some ((.bool false), S4)
  )
  (
   bindV (aLoad p W S4 26 v1) fun v6 =>
   bindS (aCall p (cw W) S4 (.func (.func 11) #[] #[]) #[v6]) fun v7 S8 =>
   bindV (aBin p .neq 3 v7 (.int .i64 0)) fun v9 =>
   gV v9 false fun g10 =>
   bindV (wO g10 (aFieldAddr p 26 v1 6)) fun v11 =>
   gV v9 false fun g12 =>
   bindV (wO g12 (aLoad p W S8 23 v11)) fun v13 =>
   gV v9 false fun g14 =>
   bindV (wO g14 (aLen p W S8 #[23] #[v13])) fun v15 =>
   gV v9 false fun g16 =>
   bindV (wO g16 (aBin p .eql 3 v15 (.int .i64 0))) fun v17 =>
   bindV (aPick v9 (.bool true) v17) fun v18 =>
   gV v18 false fun g19 =>
   bindV (wO g19 (aFieldAddr p 26 v1 6)) fun v20 =>
   gV v18 false fun g21 =>
   bindV (wO g21 (aLoad p W S8 23 v20)) fun v22 =>
   gV v18 false fun g23 =>
   bindV (wO g23 (aLen p W S8 #[23] #[v22])) fun v24 =>
   gV v18 false fun g25 =>
   bindV (wO g25 (aBin p .eql 3 v24 (.int .i64 16))) fun v26 =>
   bindV (aPick v18 (.bool true) v26) fun v27 =>
   condK v27
    (
     some ((.bool true), S8)
    )
    (
     bindV (aLoad p W S8 26 v1) fun v28 =>
     bindS (aCall p (cw W) S8 (.func (.func 26) #[] #[]) #[v28]) fun v29 S30 =>
     bindS (aAlloc p S30 26) fun v31 S32 =>
     bindT (aStore p S32 26 v31 v29) fun S33 =>
     bindV (aFieldAddr p 26 v31 6) fun v34 =>
     bindV (aLoad p W S33 23 v34) fun v35 =>
     bindV (aFieldAddr p 26 v1 6) fun v36 =>
     bindV (aLoad p W S33 23 v36) fun v37 =>
     bindS (qS true S33 fun S_ => aConv p W S_ 5 3 x1) fun v38 S39 =>
     bindV (aFieldAddr p 26 v1 6) fun v40 =>
     bindV (aLoad p W S39 23 v40) fun v41 =>
     bindV (aLen p W S39 #[23] #[v41]) fun v42 =>
     bindV (aBin p .rem 3 v38 v42) fun v43 =>
     bindV (aIndexAddr p 23 v37 v43) fun v44 =>
     bindV (aLoad p W S39 32 v44) fun v45 =>
     bindS (qS true S39 fun S_ => aBuildSlice p S_ 23 1 #[(0, v45)]) fun v46 S47 =>
     bindS (aBuiltin p W S47 .append #[23, 23] #[v35, v46]) fun v48 S49 =>
     bindV (aFieldAddr p 26 v31 6) fun v50 =>
     bindT (aStore p S49 23 v50 v48) fun S51 =>
     bindV (aLoad p W S51 26 v31) fun v52 =>
     bindS (aCall p (cw W) S51 (.func (.func 11) #[] #[]) #[v52]) fun v53 S54 =>
     bindV (aBin p .eql 3 v53 (.int .i64 7)) fun v55 =>
     some (v55, S54)
    )
  )
  := (fn_eq Try.func9 rfl ok9 _ _).trans (by kernel_rfl)
noncomputable abbrev f10 := Try.f10
noncomputable def c10 : Code := bodyOf f10
theorem ok10 : codeOk p c10 = true := by kernel_rfl
theorem eq10 (W : World) (S : St) : cw W 10 #[] S =
 gcR #[] S (
 bindS (aCall p (cw W) S (.func (.func 22) #[] #[]) #[(.int .i64 4), (.int .i64 3)]) fun v1 S2 =>
 bindS (aAlloc p S2 26) fun v3 S4 =>
 bindT (aStore p S4 26 v3 v1) fun S5 =>
 bindV (aFieldAddr p 26 v3 6) fun v6 =>
 bindV (aLoad p W S5 23 v6) fun v7 =>
 bindV (aLen p W S5 #[23] #[v7]) fun v8 =>
 bindV (aBin p .neq 3 v8 (.int .i64 3)) fun v9 =>
 gV v9 false fun g10 =>
 bindV (wO g10 (aFieldAddr p 26 v3 5)) fun v11 =>
 gV v9 false fun g12 =>
 bindV (wO g12 (aLoad p W S5 22 v11)) fun v13 =>
 gV v9 false fun g14 =>
 bindV (wO g14 (aLen p W S5 #[22] #[v13])) fun v15 =>
 gV v9 false fun g16 =>
 bindV (wO g16 (aBin p .neq 3 v15 (.int .i64 4))) fun v17 =>
 bindV (aPick v9 (.bool true) v17) fun v18 =>
 gV v18 false fun g19 =>
 bindV (wO g19 (aLoad p W S5 26 v3)) fun v20 =>
 gV v18 false fun g21 =>
 bindS (wS g21 S5 (aCall p (cw W) S5 (.func (.func 11) #[] #[]) #[v20])) fun v22 S23 =>
 gV v18 false fun g24 =>
 bindV (wO g24 (aBin p .neq 3 v22 (.int .i64 0))) fun v25 =>
 bindV (aPick v18 (.bool true) v25) fun v26 =>
 condK v26
  (
   some ((.bool false), S23)
  )
  (
   bindV (aLoad p W S23 26 v3) fun v27 =>
   bindS (aCall p (cw W) S23 (.func (.func 26) #[] #[]) #[v27]) fun v28 S29 =>
   bindS (aAlloc p S29 26) fun v30 S31 =>
   bindT (aStore p S31 26 v30 v28) fun S32 =>
   bindV (aFieldAddr p 26 v30 0) fun v33 =>
   bindT (aStore p S32 3 v33 (.int .i64 3)) fun S34 =>
   bindV (aFieldAddr p 26 v3 6) fun v35 =>
   bindV (aLoad p W S34 23 v35) fun v36 =>
   bindV (aIndexAddr p 23 v36 (.int .i64 0)) fun v37 =>
   bindV (aLoad p W S34 32 v37) fun v38 =>
   bindS (aAlloc p S34 32) fun v39 S40 =>
   bindT (aStore p S40 32 v39 v38) fun S41 =>
   bindV (aLoad p W S41 26 v3) fun v42 =>
   bindV (aLoad p W S41 32 v39) fun v43 =>
   bindS (aCall p (cw W) S41 (.func (.func 15) #[] #[]) #[v42, v43]) fun v44 S45 =>
   bindV (still p (Instr.extract v44 0)) fun v46 =>
   bindV (still p (Instr.extract v44 1)) fun v47 =>
   bindV (aLoad p W S45 26 v30) fun v48 =>
   bindS (aCall p (cw W) S45 (.func (.func 11) #[] #[]) #[v48]) fun v49 S50 =>
   bindV (aBin p .eql 3 v49 (.int .i64 4)) fun v51 =>
   gV v51 true fun g52 =>
   bindV (wO g52 (aLoad p W S50 26 v3)) fun v53 =>
   gV v51 true fun g54 =>
   bindV (wO g54 (aLoad p W S50 26 v3)) fun v55 =>
   gV v51 true fun g56 =>
   bindS (wS g56 S50 (aCall p (cw W) S50 (.func (.func 25) #[] #[]) #[v53, v55])) fun v57 S58 =>
   bindV (aPick v51 v57 (.bool false)) fun v59 =>
   gV v59 true fun g60 =>
   bindV (wO g60 (aLoad p W S58 26 v3)) fun v61 =>
   gV v59 true fun g62 =>
   bindV (wO g62 (aLoad p W S58 26 v30)) fun v63 =>
   gV v59 true fun g64 =>
   bindS (wS g64 S58 (aCall p (cw W) S58 (.func (.func 25) #[] #[]) #[v61, v63])) fun v65 S66 =>
   gV v59 true fun g67 =>
   bindV (wO g67 (aUn p .not v65)) fun v68 =>
   bindV (aPick v59 v68 (.bool false)) fun v69 =>
   gV v69 true fun g70 =>
   bindV (wO g70 (aLoad p W S66 26 v3)) fun v71 =>
   gV v69 true fun g72 =>
   bindV (wO g72 (aLoad p W S66 32 v39)) fun v73 =>
   gV v69 true fun g74 =>
   bindS (wS g74 S66 (aCall p (cw W) S66 (.func (.func 16) #[] #[]) #[v71, v73])) fun v75 S76 =>
   gV v69 true fun g77 =>
   bindV (wO g77 (aBin p .eql 2 v75 (.int .i64 13512))) fun v78 =>
   bindV (aPick v69 v78 (.bool false)) fun v79 =>
   gV v79 true fun g80 =>
   bindV (wO g80 (aLoad p W S76 26 v3)) fun v81 =>
   gV v79 true fun g82 =>
   bindV (wO g82 (aLoad p W S76 32 v39)) fun v83 =>
   gV v79 true fun g84 =>
   bindS (wS g84 S76 (aCall p (cw W) S76 (.func (.func 17) #[] #[]) #[v81, v83])) fun v85 S86 =>
   gV v79 true fun g87 =>
   bindV (wO g87 (aBin p .eql 2 v85 (.int .i64 13524))) fun v88 =>
   bindV (aPick v79 v88 (.bool false)) fun v89 =>
   gV v89 true fun g90 =>
   bindV (wO g90 (aLoad p W S86 26 v3)) fun v91 =>
   gV v89 true fun g92 =>
   bindV (wO g92 (aLoad p W S86 32 v39)) fun v93 =>
   gV v89 true fun g94 =>
   bindS (wS g94 S86 (aCall p (cw W) S86 (.func (.func 18) #[] #[]) #[v91, v93])) fun v95 S96 =>
   gV v89 true fun g97 =>
   bindV (wO g97 (aBin p .eql 2 v95 (.int .i64 16524))) fun v98 =>
   bindV (aPick v89 v98 (.bool false)) fun v99 =>
   gV v99 true fun g100 =>
   bindV (wO g100 (aLoad p W S96 26 v3)) fun v101 =>
   gV v99 true fun g102 =>
   bindS (wS g102 S96 (aCall p (cw W) S96 (.func (.func 19) #[] #[]) #[v101])) fun v103 S104 =>
   gV v99 true fun g105 =>
   bindV (wO g105 (aBin p .eql 2 v103 (.int .i64 7000))) fun v106 =>
   bindV (aPick v99 v106 (.bool false)) fun v107 =>
   gV v107 true fun g108 =>
   gV v107 true fun g109 =>
   bindV (wO g109 (aBin p .eql 2 (wV g108 v46) (.int .i64 10012))) fun v110 =>
   bindV (aPick v107 v110 (.bool false)) fun v111 =>
   gV v111 true fun g112 =>
   gV v111 true fun g113 =>
   bindV (wO g113 (aBin p .eql 2 (wV g112 v47) (.int .i64 13012))) fun v114 =>
   bindV (aPick v111 v114 (.bool false)) fun v115 =>
   some (v115, S104)
  )
 )
  := (fn_eq Try.func10 rfl ok10 _ _).trans (by kernel_rfl)
end Go.Proofs.Ytogcdgdnjinjkaa.F
end
section
namespace Go.Proofs.Ytogcdgdnjinjkaa.F
open Go Go.Proofs.Ytogcdgdnjinjkaa.E
set_option linter.unusedVariables false
@[simp] theorem call_10 (W : World) (S : St) (args : Array Value) : aCall p (cw W) S (.func (.func 10) #[] #[]) args = cw W 10 args S := call_fn (by kernel_rfl) S args
@[simp] theorem call_11 (W : World) (S : St) (args : Array Value) : aCall p (cw W) S (.func (.func 11) #[] #[]) args = cw W 11 args S := call_fn (by kernel_rfl) S args
@[simp] theorem call_12 (W : World) (S : St) (args : Array Value) : aCall p (cw W) S (.func (.func 12) #[] #[]) args = cw W 12 args S := call_fn (by kernel_rfl) S args
@[simp] theorem call_13 (W : World) (S : St) (args : Array Value) : aCall p (cw W) S (.func (.func 13) #[] #[]) args = cw W 13 args S := call_fn (by kernel_rfl) S args
@[simp] theorem call_14 (W : World) (S : St) (args : Array Value) : aCall p (cw W) S (.func (.func 14) #[] #[]) args = cw W 14 args S := call_fn (by kernel_rfl) S args
@[simp] theorem call_15 (W : World) (S : St) (args : Array Value) : aCall p (cw W) S (.func (.func 15) #[] #[]) args = cw W 15 args S := call_fn (by kernel_rfl) S args
@[simp] theorem call_16 (W : World) (S : St) (args : Array Value) : aCall p (cw W) S (.func (.func 16) #[] #[]) args = cw W 16 args S := call_fn (by kernel_rfl) S args
@[simp] theorem call_17 (W : World) (S : St) (args : Array Value) : aCall p (cw W) S (.func (.func 17) #[] #[]) args = cw W 17 args S := call_fn (by kernel_rfl) S args
@[simp] theorem call_18 (W : World) (S : St) (args : Array Value) : aCall p (cw W) S (.func (.func 18) #[] #[]) args = cw W 18 args S := call_fn (by kernel_rfl) S args
@[simp] theorem call_19 (W : World) (S : St) (args : Array Value) : aCall p (cw W) S (.func (.func 19) #[] #[]) args = cw W 19 args S := call_fn (by kernel_rfl) S args
@[simp] theorem call_20 (W : World) (S : St) (args : Array Value) : aCall p (cw W) S (.func (.func 20) #[] #[]) args = cw W 20 args S := call_fn (by kernel_rfl) S args
@[simp] theorem call_21 (W : World) (S : St) (args : Array Value) : aCall p (cw W) S (.func (.func 21) #[] #[]) args = cw W 21 args S := call_fn (by kernel_rfl) S args
@[simp] theorem call_22 (W : World) (S : St) (args : Array Value) : aCall p (cw W) S (.func (.func 22) #[] #[]) args = cw W 22 args S := call_fn (by kernel_rfl) S args
@[simp] theorem call_23 (W : World) (S : St) (args : Array Value) : aCall p (cw W) S (.func (.func 23) #[] #[]) args = cw W 23 args S := call_fn (by kernel_rfl) S args
@[simp] theorem call_24 (W : World) (S : St) (args : Array Value) : aCall p (cw W) S (.func (.func 24) #[] #[]) args = cw W 24 args S := call_fn (by kernel_rfl) S args
@[simp] theorem call_25 (W : World) (S : St) (args : Array Value) : aCall p (cw W) S (.func (.func 25) #[] #[]) args = cw W 25 args S := call_fn (by kernel_rfl) S args
@[simp] theorem call_26 (W : World) (S : St) (args : Array Value) : aCall p (cw W) S (.func (.func 26) #[] #[]) args = cw W 26 args S := call_fn (by kernel_rfl) S args
@[simp] theorem call_27 (W : World) (S : St) (args : Array Value) : aCall p (cw W) S (.func (.func 27) #[] #[]) args = cw W 27 args S := call_fn (by kernel_rfl) S args
@[simp] theorem call_28 (W : World) (S : St) (args : Array Value) : aCall p (cw W) S (.func (.func 28) #[] #[]) args = cw W 28 args S := call_fn (by kernel_rfl) S args
@[simp] theorem call_29 (W : World) (S : St) (args : Array Value) : aCall p (cw W) S (.func (.func 29) #[] #[]) args = cw W 29 args S := call_fn (by kernel_rfl) S args
@[simp] theorem call_30 (W : World) (S : St) (args : Array Value) : aCall p (cw W) S (.func (.func 30) #[] #[]) args = cw W 30 args S := call_fn (by kernel_rfl) S args
@[simp] theorem call_31 (W : World) (S : St) (args : Array Value) : aCall p (cw W) S (.func (.func 31) #[] #[]) args = cw W 31 args S := call_fn (by kernel_rfl) S args
@[simp] theorem call_32 (W : World) (S : St) (args : Array Value) : aCall p (cw W) S (.func (.func 32) #[] #[]) args = cw W 32 args S := call_fn (by kernel_rfl) S args
@[simp] theorem call_34 (W : World) (S : St) (args : Array Value) : aCall p (cw W) S (.func (.func 34) #[] #[]) args = cw W 34 args S := call_fn (by kernel_rfl) S args
@[simp] theorem call_35 (W : World) (S : St) (args : Array Value) : aCall p (cw W) S (.func (.func 35) #[] #[]) args = cw W 35 args S := call_fn (by kernel_rfl) S args
@[simp] theorem call_36 (W : World) (S : St) (args : Array Value) : aCall p (cw W) S (.func (.func 36) #[] #[]) args = cw W 36 args S := call_fn (by kernel_rfl) S args
@[simp] theorem call_37 (W : World) (S : St) (args : Array Value) : aCall p (cw W) S (.func (.func 37) #[] #[]) args = cw W 37 args S := call_fn (by kernel_rfl) S args
@[simp] theorem call_38 (W : World) (S : St) (args : Array Value) : aCall p (cw W) S (.func (.func 38) #[] #[]) args = cw W 38 args S := call_fn (by kernel_rfl) S args
@[simp] theorem call_39 (W : World) (S : St) (args : Array Value) : aCall p (cw W) S (.func (.func 39) #[] #[]) args = cw W 39 args S := call_fn (by kernel_rfl) S args
@[simp] theorem call_40 (W : World) (S : St) (args : Array Value) : aCall p (cw W) S (.func (.func 40) #[] #[]) args = cw W 40 args S := call_fn (by kernel_rfl) S args
@[simp] theorem call_41 (W : World) (S : St) (args : Array Value) : aCall p (cw W) S (.func (.func 41) #[] #[]) args = cw W 41 args S := call_fn (by kernel_rfl) S args
@[simp] theorem call_42 (W : World) (S : St) (args : Array Value) : aCall p (cw W) S (.func (.func 42) #[] #[]) args = cw W 42 args S := call_fn (by kernel_rfl) S args
@[simp] theorem call_43 (W : World) (S : St) (args : Array Value) : aCall p (cw W) S (.func (.func 43) #[] #[]) args = cw W 43 args S := call_fn (by kernel_rfl) S args
@[simp] theorem call_44 (W : World) (S : St) (args : Array Value) : aCall p (cw W) S (.func (.func 44) #[] #[]) args = cw W 44 args S := call_fn (by kernel_rfl) S args
@[simp] theorem call_45 (W : World) (S : St) (args : Array Value) : aCall p (cw W) S (.func (.func 45) #[] #[]) args = cw W 45 args S := call_fn (by kernel_rfl) S args
@[simp] theorem call_46 (W : World) (S : St) (args : Array Value) : aCall p (cw W) S (.func (.func 46) #[] #[]) args = cw W 46 args S := call_fn (by kernel_rfl) S args
@[simp] theorem call_47 (W : World) (S : St) (args : Array Value) : aCall p (cw W) S (.func (.func 47) #[] #[]) args = cw W 47 args S := call_fn (by kernel_rfl) S args
@[simp] theorem call_48 (W : World) (S : St) (args : Array Value) : aCall p (cw W) S (.func (.func 48) #[] #[]) args = cw W 48 args S := call_fn (by kernel_rfl) S args
@[simp] theorem call_49 (W : World) (S : St) (args : Array Value) : aCall p (cw W) S (.func (.func 49) #[] #[]) args = cw W 49 args S := call_fn (by kernel_rfl) S args
@[simp] theorem call_50 (W : World) (S : St) (args : Array Value) : aCall p (cw W) S (.func (.func 50) #[] #[]) args = cw W 50 args S := call_fn (by kernel_rfl) S args
@[simp] theorem call_52 (W : World) (S : St) (args : Array Value) : aCall p (cw W) S (.func (.func 52) #[] #[]) args = cw W 52 args S := call_fn (by kernel_rfl) S args
@[simp] theorem call_54 (W : World) (S : St) (args : Array Value) : aCall p (cw W) S (.func (.func 54) #[] #[]) args = cw W 54 args S := call_fn (by kernel_rfl) S args
@[simp] theorem call_56 (W : World) (S : St) (args : Array Value) : aCall p (cw W) S (.func (.func 56) #[] #[]) args = cw W 56 args S := call_fn (by kernel_rfl) S args
@[simp] theorem call_59 (W : World) (S : St) (args : Array Value) : aCall p (cw W) S (.func (.func 59) #[] #[]) args = cw W 59 args S := call_fn (by kernel_rfl) S args
@[simp] theorem call_61 (W : World) (S : St) (args : Array Value) : aCall p (cw W) S (.func (.func 61) #[] #[]) args = cw W 61 args S := call_fn (by kernel_rfl) S args
@[simp] theorem call_63 (W : World) (S : St) (args : Array Value) : aCall p (cw W) S (.func (.func 63) #[] #[]) args = cw W 63 args S := call_fn (by kernel_rfl) S args
@[simp] theorem call_64 (W : World) (S : St) (args : Array Value) : aCall p (cw W) S (.func (.func 64) #[] #[]) args = cw W 64 args S := call_fn (by kernel_rfl) S args
@[simp] theorem call_65 (W : World) (S : St) (args : Array Value) : aCall p (cw W) S (.func (.func 65) #[] #[]) args = cw W 65 args S := call_fn (by kernel_rfl) S args
@[simp] theorem call_66 (W : World) (S : St) (args : Array Value) : aCall p (cw W) S (.func (.func 66) #[] #[]) args = cw W 66 args S := call_fn (by kernel_rfl) S args
@[simp] theorem call_67 (W : World) (S : St) (args : Array Value) : aCall p (cw W) S (.func (.func 67) #[] #[]) args = cw W 67 args S := call_fn (by kernel_rfl) S args
@[simp] theorem call_68 (W : World) (S : St) (args : Array Value) : aCall p (cw W) S (.func (.func 68) #[] #[]) args = cw W 68 args S := call_fn (by kernel_rfl) S args
@[simp] theorem call_69 (W : World) (S : St) (args : Array Value) : aCall p (cw W) S (.func (.func 69) #[] #[]) args = cw W 69 args S := call_fn (by kernel_rfl) S args
@[simp] theorem call_70 (W : World) (S : St) (args : Array Value) : aCall p (cw W) S (.func (.func 70) #[] #[]) args = cw W 70 args S := call_fn (by kernel_rfl) S args
@[simp] theorem clo_33 (W : World) (S : St) (x0 x1 : Value) : aCall p (cw W) S (.func (.func 33) #[] #[x1]) #[x0] = cw W 33 #[x0, x1] S := by kernel_rfl
@[simp] theorem clo_51 (W : World) (S : St) (x0 x1 : Value) : aCall p (cw W) S (.func (.func 51) #[] #[x1]) #[x0] = cw W 51 #[x0, x1] S := by kernel_rfl
@[simp] theorem clo_53 (W : World) (S : St) (x0 x1 : Value) : aCall p (cw W) S (.func (.func 53) #[] #[x1]) #[x0] = cw W 53 #[x0, x1] S := by kernel_rfl
@[simp] theorem clo_55 (W : World) (S : St) (x0 x1 : Value) : aCall p (cw W) S (.func (.func 55) #[] #[x1]) #[x0] = cw W 55 #[x0, x1] S := by kernel_rfl
@[simp] theorem clo_57 (W : World) (S : St) (x0 x1 : Value) : aCall p (cw W) S (.func (.func 57) #[] #[x1]) #[x0] = cw W 57 #[x0, x1] S := by kernel_rfl
@[simp] theorem clo_58 (W : World) (S : St) (x0 x1 : Value) : aCall p (cw W) S (.func (.func 58) #[] #[x1]) #[x0] = cw W 58 #[x0, x1] S := by kernel_rfl
@[simp] theorem clo_60 (W : World) (S : St) (x0 x1 x2 : Value) : aCall p (cw W) S (.func (.func 60) #[] #[x2]) #[x0, x1] = cw W 60 #[x0, x1, x2] S := by kernel_rfl
@[simp] theorem clo_62 (W : World) (S : St) (x0 x1 x2 : Value) : aCall p (cw W) S (.func (.func 62) #[] #[x2]) #[x0, x1] = cw W 62 #[x0, x1, x2] S := by kernel_rfl
@[simp] theorem clo_71 (W : World) (S : St) (x0 x1 x2 : Value) : aCall p (cw W) S (.func (.func 71) #[] #[x1, x2]) #[x0] = cw W 71 #[x0, x1, x2] S := by kernel_rfl
theorem sz_2 : szOf p 2 = some 1 := by kernel_rfl
@[simp] theorem ld_2 (W : World) (S : St) (a : Addr) : aLoad p W S 2 (.pointer (some a)) = S.cell W a := by kernel_rfl
@[simp] theorem st_2 (S : St) (a : Addr) (k : IntKind) (i : Int) : aStore p S 2 (.pointer (some a)) (.int k i) = S.put a [.int k i] := store_mk (by exact sz_2) rfl
theorem sz_3 : szOf p 3 = some 1 := by kernel_rfl
@[simp] theorem ld_3 (W : World) (S : St) (a : Addr) : aLoad p W S 3 (.pointer (some a)) = S.cell W a := by kernel_rfl
@[simp] theorem st_3 (S : St) (a : Addr) (k : IntKind) (i : Int) : aStore p S 3 (.pointer (some a)) (.int k i) = S.put a [.int k i] := store_mk (by exact sz_3) rfl
theorem sz_4 : szOf p 4 = some 1 := by kernel_rfl
@[simp] theorem ld_4 (W : World) (S : St) (a : Addr) : aLoad p W S 4 (.pointer (some a)) = S.cell W a := by kernel_rfl
@[simp] theorem st_4 (S : St) (a : Addr) (i : Bool) : aStore p S 4 (.pointer (some a)) (.bool i) = S.put a [.bool i] := store_mk (by exact sz_4) rfl
@[simp] theorem beql_4 (a b : Bool) : aBin p .eql 4 (.bool a) (.bool b) = some (.bool (a == b)) := bin_bool_eql Try.underlying4 a b
@[simp] theorem bneq_4 (a b : Bool) : aBin p .neq 4 (.bool a) (.bool b) = some (.bool (a != b)) := bin_bool_neq Try.underlying4 a b
theorem sz_5 : szOf p 5 = some 1 := by kernel_rfl
@[simp] theorem ld_5 (W : World) (S : St) (a : Addr) : aLoad p W S 5 (.pointer (some a)) = S.cell W a := by kernel_rfl
@[simp] theorem st_5 (S : St) (a : Addr) (k : IntKind) (i : Int) : aStore p S 5 (.pointer (some a)) (.int k i) = S.put a [.int k i] := store_mk (by exact sz_5) rfl
theorem sz_22 : szOf p 22 = some 1 := by kernel_rfl
@[simp] theorem ld_22 (W : World) (S : St) (a : Addr) : aLoad p W S 22 (.pointer (some a)) = S.cell W a := by kernel_rfl
@[simp] theorem st_22 (S : St) (a : Addr) (x : Option Addr) (n c : Nat) : aStore p S 22 (.pointer (some a)) (.slice x n c) = S.put a [.slice x n c] := store_mk (by exact sz_22) rfl
@[simp] theorem len_22 (W : World) (S : St) (a : Option Addr) (n c : Nat) : aLen p W S #[22] #[.slice a n c] = some (.int .i64 n) := len_slice Try.underlying22 S a n c
@[simp] theorem ix_22 (b o n c : Nat) (k : IntKind) (i : Int) (h0 : 0 ≤ i) (h1 : i < n) : aIndexAddr p 22 (.slice (some ⟨b, o, none⟩) n c) (.int k i) = some (.pointer (some ⟨b, o + i.toNat * 1, none⟩)) := (index_mk Try.underlying22 (by kernel_rfl) h0 h1).trans (by rw [add_mk])
@[simp] theorem bsl_22 (a : Option Addr) (l c l2 c2 : Nat) : aBin p .eql 22 (.slice a l c) (.slice none l2 c2) = some (.bool a.isNone) := bin_sl_eql Try.underlying22 a l c l2 c2
theorem sz_23 : szOf p 23 = some 1 := by kernel_rfl
@[simp] theorem ld_23 (W : World) (S : St) (a : Addr) : aLoad p W S 23 (.pointer (some a)) = S.cell W a := by kernel_rfl
@[simp] theorem st_23 (S : St) (a : Addr) (x : Option Addr) (n c : Nat) : aStore p S 23 (.pointer (some a)) (.slice x n c) = S.put a [.slice x n c] := store_mk (by exact sz_23) rfl
@[simp] theorem len_23 (W : World) (S : St) (a : Option Addr) (n c : Nat) : aLen p W S #[23] #[.slice a n c] = some (.int .i64 n) := len_slice Try.underlying23 S a n c
@[simp] theorem ix_23 (b o n c : Nat) (k : IntKind) (i : Int) (h0 : 0 ≤ i) (h1 : i < n) : aIndexAddr p 23 (.slice (some ⟨b, o, none⟩) n c) (.int k i) = some (.pointer (some ⟨b, o + i.toNat * 4, none⟩)) := (index_mk Try.underlying23 (by kernel_rfl) h0 h1).trans (by rw [add_mk])
@[simp] theorem bsl_23 (a : Option Addr) (l c l2 c2 : Nat) : aBin p .eql 23 (.slice a l c) (.slice none l2 c2) = some (.bool a.isNone) := bin_sl_eql Try.underlying23 a l c l2 c2
theorem sz_24 : szOf p 24 = some 1 := by kernel_rfl
@[simp] theorem ld_24 (W : World) (S : St) (a : Addr) : aLoad p W S 24 (.pointer (some a)) = S.cell W a := by kernel_rfl
@[simp] theorem st_24 (S : St) (a : Addr) (x : Option Addr) (n c : Nat) : aStore p S 24 (.pointer (some a)) (.slice x n c) = S.put a [.slice x n c] := store_mk (by exact sz_24) rfl
@[simp] theorem len_24 (W : World) (S : St) (a : Option Addr) (n c : Nat) : aLen p W S #[24] #[.slice a n c] = some (.int .i64 n) := len_slice Try.underlying24 S a n c
@[simp] theorem ix_24 (b o n c : Nat) (k : IntKind) (i : Int) (h0 : 0 ≤ i) (h1 : i < n) : aIndexAddr p 24 (.slice (some ⟨b, o, none⟩) n c) (.int k i) = some (.pointer (some ⟨b, o + i.toNat * 4, none⟩)) := (index_mk Try.underlying24 (by kernel_rfl) h0 h1).trans (by rw [add_mk])
@[simp] theorem bsl_24 (a : Option Addr) (l c l2 c2 : Nat) : aBin p .eql 24 (.slice a l c) (.slice none l2 c2) = some (.bool a.isNone) := bin_sl_eql Try.underlying24 a l c l2 c2
theorem sz_26 : szOf p 26 = some 9 := by kernel_rfl
@[simp] theorem fa_26_0 (b o : Nat) : aFieldAddr p 26 (.pointer (some ⟨b, o, none⟩)) 0 = some (.pointer (some ⟨b, o, none⟩)) := by kernel_rfl
@[simp] theorem fa_26_1 (b o : Nat) : aFieldAddr p 26 (.pointer (some ⟨b, o, none⟩)) 1 = some (.pointer (some ⟨b, o + 1, none⟩)) := by kernel_rfl
@[simp] theorem fa_26_2 (b o : Nat) : aFieldAddr p 26 (.pointer (some ⟨b, o, none⟩)) 2 = some (.pointer (some ⟨b, o + 2, none⟩)) := by kernel_rfl
@[simp] theorem fa_26_3 (b o : Nat) : aFieldAddr p 26 (.pointer (some ⟨b, o, none⟩)) 3 = some (.pointer (some ⟨b, o + 3, none⟩)) := by kernel_rfl
@[simp] theorem fa_26_4 (b o : Nat) : aFieldAddr p 26 (.pointer (some ⟨b, o, none⟩)) 4 = some (.pointer (some ⟨b, o + 4, none⟩)) := by kernel_rfl
@[simp] theorem fa_26_5 (b o : Nat) : aFieldAddr p 26 (.pointer (some ⟨b, o, none⟩)) 5 = some (.pointer (some ⟨b, o + 5, none⟩)) := by kernel_rfl
@[simp] theorem fa_26_6 (b o : Nat) : aFieldAddr p 26 (.pointer (some ⟨b, o, none⟩)) 6 = some (.pointer (some ⟨b, o + 6, none⟩)) := by kernel_rfl
@[simp] theorem fa_26_7 (b o : Nat) : aFieldAddr p 26 (.pointer (some ⟨b, o, none⟩)) 7 = some (.pointer (some ⟨b, o + 7, none⟩)) := by kernel_rfl
@[simp] theorem fa_26_8 (b o : Nat) : aFieldAddr p 26 (.pointer (some ⟨b, o, none⟩)) 8 = some (.pointer (some ⟨b, o + 8, none⟩)) := by kernel_rfl
@[simp] theorem ld_26 (W : World) (S : St) (a : Addr) : aLoad p W S 26 (.pointer (some a)) = aggOf (S.cells W a 9) := by kernel_rfl
@[simp] theorem st_26 (S : St) (a : Addr) (x0 x1 x2 x3 x4 x5 x6 x7 x8 : Value) : aStore p S 26 (.pointer (some a)) (.agg #[x0, x1, x2, x3, x4, x5, x6, x7, x8]) = S.put a [x0, x1, x2, x3, x4, x5, x6, x7, x8] := store_mk (by exact sz_26) rfl
theorem sz_30 : szOf p 30 = some 1 := by kernel_rfl
@[simp] theorem ld_30 (W : World) (S : St) (a : Addr) : aLoad p W S 30 (.pointer (some a)) = S.cell W a := by kernel_rfl
@[simp] theorem st_30 (S : St) (a : Addr) (k : IntKind) (i : Int) : aStore p S 30 (.pointer (some a)) (.int k i) = S.put a [.int k i] := store_mk (by exact sz_30) rfl
theorem sz_32 : szOf p 32 = some 4 := by kernel_rfl
@[simp] theorem fa_32_0 (b o : Nat) : aFieldAddr p 32 (.pointer (some ⟨b, o, none⟩)) 0 = some (.pointer (some ⟨b, o, none⟩)) := by kernel_rfl
@[simp] theorem fa_32_1 (b o : Nat) : aFieldAddr p 32 (.pointer (some ⟨b, o, none⟩)) 1 = some (.pointer (some ⟨b, o + 1, none⟩)) := by kernel_rfl
@[simp] theorem fa_32_2 (b o : Nat) : aFieldAddr p 32 (.pointer (some ⟨b, o, none⟩)) 2 = some (.pointer (some ⟨b, o + 2, none⟩)) := by kernel_rfl
@[simp] theorem fa_32_3 (b o : Nat) : aFieldAddr p 32 (.pointer (some ⟨b, o, none⟩)) 3 = some (.pointer (some ⟨b, o + 3, none⟩)) := by kernel_rfl
@[simp] theorem ld_32 (W : World) (S : St) (a : Addr) : aLoad p W S 32 (.pointer (some a)) = aggOf (S.cells W a 4) := by kernel_rfl
@[simp] theorem st_32 (S : St) (a : Addr) (x0 x1 x2 x3 : Value) : aStore p S 32 (.pointer (some a)) (.agg #[x0, x1, x2, x3]) = S.put a [x0, x1, x2, x3] := store_mk (by exact sz_32) rfl
theorem eqs_32 (a0 b0 : Int) (a1 b1 : Int) (a2 b2 : Int) (a3 b3 : Int) : still p (Op.equalIn 10000 32 (.agg #[.int .i64 a0, .int .u32 a1, .int .i64 a2, .int .i64 a3]) (.agg #[.int .i64 b0, .int .u32 b1, .int .i64 b2, .int .i64 b3])) = some (decide (a0 = b0 ∧ a1 = b1 ∧ a2 = b2 ∧ a3 = b3)) := (eq_struct Try.underlying32 (by kernel_rfl) 9999 _ _).trans ((by kernel_rfl : _ = andF (some (a0 == b0)) (andF (some (a1 == b1)) (andF (some (a2 == b2)) (andF (some (a3 == b3)) (some true))))).trans (by simp only [beq_int, beq_bl, beq_ba, andF_end, andF_dec]))
@[simp] theorem bseql_32 (a0 b0 : Int) (a1 b1 : Int) (a2 b2 : Int) (a3 b3 : Int) : aBin p .eql 32 (.agg #[.int .i64 a0, .int .u32 a1, .int .i64 a2, .int .i64 a3]) (.agg #[.int .i64 b0, .int .u32 b1, .int .i64 b2, .int .i64 b3]) = some (.bool (decide (a0 = b0 ∧ a1 = b1 ∧ a2 = b2 ∧ a3 = b3))) := bin_agg_eql (by kernel_rfl) (by kernel_rfl) (by kernel_rfl) (eqs_32 a0 b0 a1 b1 a2 b2 a3 b3)
@[simp] theorem bsneq_32 (a0 b0 : Int) (a1 b1 : Int) (a2 b2 : Int) (a3 b3 : Int) : aBin p .neq 32 (.agg #[.int .i64 a0, .int .u32 a1, .int .i64 a2, .int .i64 a3]) (.agg #[.int .i64 b0, .int .u32 b1, .int .i64 b2, .int .i64 b3]) = some (.bool (!decide (a0 = b0 ∧ a1 = b1 ∧ a2 = b2 ∧ a3 = b3))) := bin_agg_neq (by kernel_rfl) (by kernel_rfl) (by kernel_rfl) (eqs_32 a0 b0 a1 b1 a2 b2 a3 b3)
theorem sz_33 : szOf p 33 = some 5 := by kernel_rfl
@[simp] theorem ld_33 (W : World) (S : St) (a : Addr) : aLoad p W S 33 (.pointer (some a)) = aggOf (S.cells W a 5) := by kernel_rfl
@[simp] theorem st_33 (S : St) (a : Addr) (x0 x1 x2 x3 x4 : Value) : aStore p S 33 (.pointer (some a)) (.agg #[x0, x1, x2, x3, x4]) = S.put a [x0, x1, x2, x3, x4] := store_mk (by exact sz_33) rfl
@[simp] theorem ixa_33 (b o : Nat) (k : IntKind) (i : Int) (h0 : 0 ≤ i) (h1 : i < 5) : aIndexAddr p 33 (.pointer (some ⟨b, o, none⟩)) (.int k i) = some (.pointer (some ⟨b, o + i.toNat * 1, none⟩)) := (index_arr Try.underlying33 (by kernel_rfl) h0 h1).trans (by rw [add_mk])
theorem sz_45 : szOf p 45 = some 1 := by kernel_rfl
@[simp] theorem ld_45 (W : World) (S : St) (a : Addr) : aLoad p W S 45 (.pointer (some a)) = S.cell W a := by kernel_rfl
@[simp] theorem st_45 (S : St) (a : Addr) (x : Option Addr) (n c : Nat) : aStore p S 45 (.pointer (some a)) (.slice x n c) = S.put a [.slice x n c] := store_mk (by exact sz_45) rfl
@[simp] theorem len_45 (W : World) (S : St) (a : Option Addr) (n c : Nat) : aLen p W S #[45] #[.slice a n c] = some (.int .i64 n) := len_slice Try.underlying45 S a n c
@[simp] theorem ix_45 (b o n c : Nat) (k : IntKind) (i : Int) (h0 : 0 ≤ i) (h1 : i < n) : aIndexAddr p 45 (.slice (some ⟨b, o, none⟩) n c) (.int k i) = some (.pointer (some ⟨b, o + i.toNat * 1, none⟩)) := (index_mk Try.underlying45 (by kernel_rfl) h0 h1).trans (by rw [add_mk])
@[simp] theorem bsl_45 (a : Option Addr) (l c l2 c2 : Nat) : aBin p .eql 45 (.slice a l c) (.slice none l2 c2) = some (.bool a.isNone) := bin_sl_eql Try.underlying45 a l c l2 c2
theorem sz_47 : szOf p 47 = some 4 := by kernel_rfl
@[simp] theorem fa_47_0 (b o : Nat) : aFieldAddr p 47 (.pointer (some ⟨b, o, none⟩)) 0 = some (.pointer (some ⟨b, o, none⟩)) := by kernel_rfl
@[simp] theorem fa_47_1 (b o : Nat) : aFieldAddr p 47 (.pointer (some ⟨b, o, none⟩)) 1 = some (.pointer (some ⟨b, o + 1, none⟩)) := by kernel_rfl
@[simp] theorem fa_47_2 (b o : Nat) : aFieldAddr p 47 (.pointer (some ⟨b, o, none⟩)) 2 = some (.pointer (some ⟨b, o + 2, none⟩)) := by kernel_rfl
@[simp] theorem fa_47_3 (b o : Nat) : aFieldAddr p 47 (.pointer (some ⟨b, o, none⟩)) 3 = some (.pointer (some ⟨b, o + 3, none⟩)) := by kernel_rfl
@[simp] theorem ld_47 (W : World) (S : St) (a : Addr) : aLoad p W S 47 (.pointer (some a)) = aggOf (S.cells W a 4) := by kernel_rfl
@[simp] theorem st_47 (S : St) (a : Addr) (x0 x1 x2 x3 : Value) : aStore p S 47 (.pointer (some a)) (.agg #[x0, x1, x2, x3]) = S.put a [x0, x1, x2, x3] := store_mk (by exact sz_47) rfl
theorem eqs_47 (a0 b0 : Int) (a1 b1 : Int) (a2 b2 : Int) (a3 b3 : Int) : still p (Op.equalIn 10000 47 (.agg #[.int .i64 a0, .int .u32 a1, .int .i64 a2, .int .i64 a3]) (.agg #[.int .i64 b0, .int .u32 b1, .int .i64 b2, .int .i64 b3])) = some (decide (a0 = b0 ∧ a1 = b1 ∧ a2 = b2 ∧ a3 = b3)) := (eq_struct Try.underlying47 (by kernel_rfl) 9999 _ _).trans ((by kernel_rfl : _ = andF (some (a0 == b0)) (andF (some (a1 == b1)) (andF (some (a2 == b2)) (andF (some (a3 == b3)) (some true))))).trans (by simp only [beq_int, beq_bl, beq_ba, andF_end, andF_dec]))
@[simp] theorem bseql_47 (a0 b0 : Int) (a1 b1 : Int) (a2 b2 : Int) (a3 b3 : Int) : aBin p .eql 47 (.agg #[.int .i64 a0, .int .u32 a1, .int .i64 a2, .int .i64 a3]) (.agg #[.int .i64 b0, .int .u32 b1, .int .i64 b2, .int .i64 b3]) = some (.bool (decide (a0 = b0 ∧ a1 = b1 ∧ a2 = b2 ∧ a3 = b3))) := bin_agg_eql (by kernel_rfl) (by kernel_rfl) (by kernel_rfl) (eqs_47 a0 b0 a1 b1 a2 b2 a3 b3)
@[simp] theorem bsneq_47 (a0 b0 : Int) (a1 b1 : Int) (a2 b2 : Int) (a3 b3 : Int) : aBin p .neq 47 (.agg #[.int .i64 a0, .int .u32 a1, .int .i64 a2, .int .i64 a3]) (.agg #[.int .i64 b0, .int .u32 b1, .int .i64 b2, .int .i64 b3]) = some (.bool (!decide (a0 = b0 ∧ a1 = b1 ∧ a2 = b2 ∧ a3 = b3))) := bin_agg_neq (by kernel_rfl) (by kernel_rfl) (by kernel_rfl) (eqs_47 a0 b0 a1 b1 a2 b2 a3 b3)
theorem sz_48 : szOf p 48 = some 2 := by kernel_rfl
@[simp] theorem ld_48 (W : World) (S : St) (a : Addr) : aLoad p W S 48 (.pointer (some a)) = aggOf (S.cells W a 2) := by kernel_rfl
@[simp] theorem st_48 (S : St) (a : Addr) (x0 x1 : Value) : aStore p S 48 (.pointer (some a)) (.agg #[x0, x1]) = S.put a [x0, x1] := store_mk (by exact sz_48) rfl
@[simp] theorem ixa_48 (b o : Nat) (k : IntKind) (i : Int) (h0 : 0 ≤ i) (h1 : i < 2) : aIndexAddr p 48 (.pointer (some ⟨b, o, none⟩)) (.int k i) = some (.pointer (some ⟨b, o + i.toNat * 1, none⟩)) := (index_arr Try.underlying48 (by kernel_rfl) h0 h1).trans (by rw [add_mk])
theorem sz_56 : szOf p 56 = some 1 := by kernel_rfl
@[simp] theorem ld_56 (W : World) (S : St) (a : Addr) : aLoad p W S 56 (.pointer (some a)) = S.cell W a := by kernel_rfl
@[simp] theorem st_56 (S : St) (a : Addr) (k : IntKind) (i : Int) : aStore p S 56 (.pointer (some a)) (.int k i) = S.put a [.int k i] := store_mk (by exact sz_56) rfl
theorem sz_57 : szOf p 57 = some 1 := by kernel_rfl
@[simp] theorem ld_57 (W : World) (S : St) (a : Addr) : aLoad p W S 57 (.pointer (some a)) = S.cell W a := by kernel_rfl
@[simp] theorem st_57 (S : St) (a : Addr) (x : Option Addr) (n c : Nat) : aStore p S 57 (.pointer (some a)) (.slice x n c) = S.put a [.slice x n c] := store_mk (by exact sz_57) rfl
@[simp] theorem len_57 (W : World) (S : St) (a : Option Addr) (n c : Nat) : aLen p W S #[57] #[.slice a n c] = some (.int .i64 n) := len_slice Try.underlying57 S a n c
@[simp] theorem ix_57 (b o n c : Nat) (k : IntKind) (i : Int) (h0 : 0 ≤ i) (h1 : i < n) : aIndexAddr p 57 (.slice (some ⟨b, o, none⟩) n c) (.int k i) = some (.pointer (some ⟨b, o + i.toNat * 1, none⟩)) := (index_mk Try.underlying57 (by kernel_rfl) h0 h1).trans (by rw [add_mk])
@[simp] theorem bsl_57 (a : Option Addr) (l c l2 c2 : Nat) : aBin p .eql 57 (.slice a l c) (.slice none l2 c2) = some (.bool a.isNone) := bin_sl_eql Try.underlying57 a l c l2 c2
theorem sz_70 : szOf p 70 = some 1 := by kernel_rfl
@[simp] theorem ld_70 (W : World) (S : St) (a : Addr) : aLoad p W S 70 (.pointer (some a)) = S.cell W a := by kernel_rfl
@[simp] theorem st_70 (S : St) (a : Addr) (f : Fn) (u v : Array Value) : aStore p S 70 (.pointer (some a)) (.func f u v) = S.put a [.func f u v] := store_mk (by exact sz_70) rfl
theorem sz_75 : szOf p 75 = some 1 := by kernel_rfl
@[simp] theorem ld_75 (W : World) (S : St) (a : Addr) : aLoad p W S 75 (.pointer (some a)) = S.cell W a := by kernel_rfl
@[simp] theorem st_75 (S : St) (a : Addr) (f : Fn) (u v : Array Value) : aStore p S 75 (.pointer (some a)) (.func f u v) = S.put a [.func f u v] := store_mk (by exact sz_75) rfl
@[simp] theorem al_26 (S : St) : aAlloc p S 26 = some (.pointer (some ⟨S.c, 0, none⟩), S.new (.row [.int .i64 0, .int .i64 0, .int .i64 0, .int .i64 0, .int .i64 0, .slice none 0 0, .slice none 0 0, .slice none 0 0, .int .i64 0] 0)) := by kernel_rfl
@[simp] theorem al_32 (S : St) : aAlloc p S 32 = some (.pointer (some ⟨S.c, 0, none⟩), S.new (.row [.int .i64 0, .int .u32 0, .int .i64 0, .int .i64 0] 0)) := by kernel_rfl
@[simp] theorem al_33 (S : St) : aAlloc p S 33 = some (.pointer (some ⟨S.c, 0, none⟩), S.new (.row [.int .i64 0, .int .i64 0, .int .i64 0, .int .i64 0, .int .i64 0] 0)) := by kernel_rfl
@[simp] theorem al_47 (S : St) : aAlloc p S 47 = some (.pointer (some ⟨S.c, 0, none⟩), S.new (.row [.int .i64 0, .int .u32 0, .int .i64 0, .int .i64 0] 0)) := by kernel_rfl
@[simp] theorem al_70 (S : St) : aAlloc p S 70 = some (.pointer (some ⟨S.c, 0, none⟩), S.new (.row [.nilFunc] 0)) := by kernel_rfl
@[simp] theorem bu_26_0_1_2_3_4_8 (i0 : Int) (i1 : Int) (i2 : Int) (i3 : Int) (i4 : Int) (i8 : Int) : aBuild p 26 #[(0, .int .i64 i0), (1, .int .i64 i1), (2, .int .i64 i2), (3, .int .i64 i3), (4, .int .i64 i4), (8, .int .i64 i8)] = some (.agg #[.int .i64 i0, .int .i64 i1, .int .i64 i2, .int .i64 i3, .int .i64 i4, .slice none 0 0, .slice none 0 0, .slice none 0 0, .int .i64 i8]) := by kernel_rfl
@[simp] theorem bu_32_0_1_2_3 (i0 : Int) (i1 : Int) (i2 : Int) (i3 : Int) : aBuild p 32 #[(0, .int .i64 i0), (1, .int .u32 i1), (2, .int .i64 i2), (3, .int .i64 i3)] = some (.agg #[.int .i64 i0, .int .u32 i1, .int .i64 i2, .int .i64 i3]) := by kernel_rfl
@[simp] theorem bu_33_0_1_2_3_4 (i0 : Int) (i1 : Int) (i2 : Int) (i3 : Int) (i4 : Int) : aBuild p 33 #[(0, .int .i64 i0), (1, .int .i64 i1), (2, .int .i64 i2), (3, .int .i64 i3), (4, .int .i64 i4)] = some (.agg #[.int .i64 i0, .int .i64 i1, .int .i64 i2, .int .i64 i3, .int .i64 i4]) := by kernel_rfl
@[simp] theorem bs_22_1_0 (S : St) (i0 : Option Addr) (n0 c0 : Nat) : aBuildSlice p S 22 1 #[(0, .slice i0 n0 c0)] = some (.slice (some ⟨S.c, 0, none⟩) 1 1, S.new (.row [.slice i0 n0 c0] 0)) := by kernel_rfl
@[simp] theorem bs_23_0_ (S : St)  : aBuildSlice p S 23 0 #[] = some (.slice (some ⟨S.c, 0, none⟩) 0 0, S.new (.row [] 0)) := by kernel_rfl
@[simp] theorem bs_23_1_0 (S : St) (x0_0 x0_1 x0_2 x0_3 : Value) : aBuildSlice p S 23 1 #[(0, .agg #[x0_0, x0_1, x0_2, x0_3])] = some (.slice (some ⟨S.c, 0, none⟩) 1 1, S.new (.row [x0_0, x0_1, x0_2, x0_3] 0)) := by kernel_rfl
@[simp] theorem bs_24_0_ (S : St)  : aBuildSlice p S 24 0 #[] = some (.slice (some ⟨S.c, 0, none⟩) 0 0, S.new (.row [] 0)) := by kernel_rfl
@[simp] theorem bs_24_1_0 (S : St) (x0_0 x0_1 x0_2 x0_3 : Value) : aBuildSlice p S 24 1 #[(0, .agg #[x0_0, x0_1, x0_2, x0_3])] = some (.slice (some ⟨S.c, 0, none⟩) 1 1, S.new (.row [x0_0, x0_1, x0_2, x0_3] 0)) := by kernel_rfl
@[simp] theorem bs_45_0_ (S : St)  : aBuildSlice p S 45 0 #[] = some (.slice (some ⟨S.c, 0, none⟩) 0 0, S.new (.row [] 0)) := by kernel_rfl
@[simp] theorem bs_45_1_0 (S : St) (i0 : Int) : aBuildSlice p S 45 1 #[(0, .int .i64 i0)] = some (.slice (some ⟨S.c, 0, none⟩) 1 1, S.new (.row [.int .i64 i0] 0)) := by kernel_rfl
@[simp] theorem bs_45_2_0_1 (S : St) (i0 : Int) (i1 : Int) : aBuildSlice p S 45 2 #[(0, .int .i64 i0), (1, .int .i64 i1)] = some (.slice (some ⟨S.c, 0, none⟩) 2 2, S.new (.row [.int .i64 i0, .int .i64 i1] 0)) := by kernel_rfl
@[simp] theorem bs_57_1_0 (S : St) (i0 : Int) : aBuildSlice p S 57 1 #[(0, .int .i64 i0)] = some (.slice (some ⟨S.c, 0, none⟩) 1 1, S.new (.row [.int .i64 i0] 0)) := by kernel_rfl
@[simp] theorem ixv_33_i64_2 (a0 a1 a2 a3 a4 : Int) : still p (Instr.index 33 (.agg #[.int .i64 a0, .int .i64 a1, .int .i64 a2, .int .i64 a3, .int .i64 a4]) (.int .i64 2)) = some (.int .i64 a2) := by kernel_rfl
@[simp] theorem ixv_33_i64_4 (a0 a1 a2 a3 a4 : Int) : still p (Instr.index 33 (.agg #[.int .i64 a0, .int .i64 a1, .int .i64 a2, .int .i64 a3, .int .i64 a4]) (.int .i64 4)) = some (.int .i64 a4) := by kernel_rfl
@[simp] theorem cv_3_56 (W : World) (S : St) (k : IntKind) (x : Int) : aConv p W S 3 56 (.int k x) = some (.int .u64 (IntKind.u64.wrap x), S) := conv_int Try.underlying3 Try.underlying56 S k x
@[simp] theorem cv_5_3 (W : World) (S : St) (k : IntKind) (x : Int) : aConv p W S 5 3 (.int k x) = some (.int .i64 (IntKind.i64.wrap x), S) := conv_int Try.underlying5 Try.underlying3 S k x
end Go.Proofs.Ytogcdgdnjinjkaa.F
end
section
namespace Go.Proofs.Ytogcdgdnjinjkaa.F
open Go Go.Proofs.Ytogcdgdnjinjkaa.E
set_option linter.unusedVariables false
set_option maxRecDepth 100000
noncomputable abbrev f11 := Try.f11
noncomputable def c11 : Code := bodyOf f11
theorem ok11 : codeOk p c11 = true := by kernel_rfl
theorem eq11 (W : World) (x0 : Value) (S : St) : cw W 11 #[x0] S =
 gcR #[x0] S (
 bindS (aBox S x0) fun v1 S2 =>
 bindV (aFieldAddr p 26 v1 0) fun v3 =>
 bindV (aLoad p W S2 3 v3) fun v4 =>
 bindS (aCall p (cw W) S2 (.func (.func 28) #[] #[]) #[v4, (.int .i64 1), (.int .i64 6)]) fun v5 S6 =>
 bindV (aUn p .not v5) fun v7 =>
 condK v7
  (
   some ((.int .i64 1), S6)
  )
  (
   bindV (aFieldAddr p 26 v1 1) fun v8 =>
   bindV (aLoad p W S6 2 v8) fun v9 =>
   bindS (aCall p (cw W) S6 (.func (.func 28) #[] #[]) #[v9, (.int .i64 1), (.int .i64 1073741824)]) fun v10 S11 =>
   bindV (aUn p .not v10) fun v12 =>
   condK v12
    (
     some ((.int .i64 2), S11)
    )
    (
     bindV (aLoad p W S11 26 v1) fun v13 =>
     bindS (aCall p (cw W) S11 (.func (.func 29) #[] #[]) #[v13]) fun v14 S15 =>
     bindV (aUn p .not v14) fun v16 =>
     condK v16
      (
       some ((.int .i64 3), S15)
      )
      (
       bindV (aLoad p W S15 26 v1) fun v17 =>
       bindS (aCall p (cw W) S15 (.func (.func 30) #[] #[]) #[v17]) fun v18 S19 =>
       bindV (aUn p .not v18) fun v20 =>
       condK v20
        (
         some ((.int .i64 4), S19)
        )
        (
         bindV (aLoad p W S19 26 v1) fun v21 =>
         bindS (aCall p (cw W) S19 (.func (.func 31) #[] #[]) #[v21]) fun v22 S23 =>
         bindV (aBin p .neq 3 v22 (.int .i64 0)) fun v24 =>
         condK v24
          (
           some (v22, S23)
          )
          (
           bindV (aFieldAddr p 26 v1 7) fun v25 =>
           bindV (aLoad p W S23 24 v25) fun v26 =>
           bindV (aLen p W S23 #[24] #[v26]) fun v27 =>
           bindV (aBin p .gtr 3 v27 (.int .i64 16)) fun v28 =>
           condK v28
            (
             condK v28
              (
               some ((.int .i64 9), S23)
              )
              (
               bindV (aFieldAddr p 26 v1 8) fun v29 =>
               bindV (aLoad p W S23 3 v29) fun v30 =>
               bindS (aCall p (cw W) S23 (.func (.func 28) #[] #[]) #[v30, (.int .i64 1), (.int .i64 64)]) fun v31 S32 =>
               bindV (aUn p .not v31) fun v33 =>
               condK v33
                (
                 some ((.int .i64 10), S32)
                )
                (
                 some ((.int .i64 0), S32)
                )
              )
            )
            (
             bindV (aFieldAddr p 26 v1 7) fun v34 =>
             bindV (aLoad p W S23 24 v34) fun v35 =>
             bindS (aCall p (cw W) S23 (.func (.func 32) #[] #[]) #[v35, (.func (.func 33) #[] #[v1])]) fun v36 S37 =>
             condK v36
              (
               some ((.int .i64 9), S37)
              )
              (
               bindV (aFieldAddr p 26 v1 8) fun v38 =>
               bindV (aLoad p W S37 3 v38) fun v39 =>
               bindS (aCall p (cw W) S37 (.func (.func 28) #[] #[]) #[v39, (.int .i64 1), (.int .i64 64)]) fun v40 S41 =>
               bindV (aUn p .not v40) fun v42 =>
               condK v42
                (
                 some ((.int .i64 10), S41)
                )
                (
                 some ((.int .i64 0), S41)
                )
              )
            )
          )
        )
      )
    )
  )
 )
  := (fn_eq Try.func11 rfl ok11 _ _).trans (by kernel_rfl)
noncomputable abbrev f12 := Try.f12
noncomputable def c12 : Code := bodyOf f12
theorem ok12 : codeOk p c12 = true := by kernel_rfl
noncomputable def c12_11111010 : Code := codeAt [1, 1, 1, 1, 1, 0, 1, 0, 0] c12
theorem ok12_11111010 : codeOk p c12_11111010 = true := by kernel_rfl
noncomputable def l12_11111010 (W : World) (y0 y1 y3 y4 y5 y6 y7 y8 y9 y10 y11 y12 y13 y14 y15 y16 y17 y18 y19 y20 y21 y22 y23 y24 y25 y26 y27 y36 y37 y38 y39 y40 y41 y42 y43 y44 y45 y46 y47 y48 y49 y50 y51 y52 y53 y54 y55 y56 y57 y58 y59 y60 y61 y62 y63 y64 y65 y66 y67 y68 y69 y70 y71 y72 y73 y74 y75 y76 y77 y78 y79 : Value) (S : St) : Out := la W c12_11111010 ⟨#[y0, y1, junk, y3, y4, y5, y6, y7, y8, y9, y10, y11, y12, y13, y14, y15, y16, y17, y18, y19, y20, y21, y22, y23, y24, y25, y26, y27, junk, junk, junk, junk, junk, junk, junk, junk, y36, y37, y38, y39, y40, y41, y42, y43, y44, y45, y46, y47, y48, y49, y50, y51, y52, y53, y54, y55, y56, y57, y58, y59, y60, y61, y62, y63, y64, y65, y66, y67, y68, y69, y70, y71, y72, y73, y74, y75, y76, y77, y78, y79], []⟩ S
noncomputable def c12_1111111010 : Code := codeAt [1, 1, 1, 1, 1, 1, 1, 0, 1, 0, 0] c12
theorem ok12_1111111010 : codeOk p c12_1111111010 = true := by kernel_rfl
noncomputable def l12_1111111010 (W : World) (y0 y1 y3 y4 y6 y7 y8 y9 y10 y11 y12 y13 y14 y15 y16 y17 y18 y19 y20 y21 y22 y23 y24 y25 y26 y27 y28 y29 y30 y31 y32 y33 y34 y35 y36 y37 y38 y39 y72 y73 y74 y75 y76 y77 y78 y79 : Value) (S : St) : Out := la W c12_1111111010 ⟨#[y0, y1, junk, y3, y4, junk, y6, y7, y8, y9, y10, y11, y12, y13, y14, y15, y16, y17, y18, y19, y20, y21, y22, y23, y24, y25, y26, y27, y28, y29, y30, y31, y32, y33, y34, y35, y36, y37, y38, y39, junk, junk, junk, junk, junk, junk, junk, junk, junk, junk, junk, junk, junk, junk, junk, junk, junk, junk, junk, junk, junk, junk, junk, junk, junk, junk, junk, junk, junk, junk, junk, junk, y72, y73, y74, y75, y76, y77, y78, y79], []⟩ S
theorem eq12 (W : World) (x0 : Value) (S : St) : cw W 12 #[x0] S =
 gcR #[x0] S (
 bindS (aBox S x0) fun v1 S2 =>
 bindV (aFieldAddr p 26 v1 0) fun v3 =>
 bindV (aLoad p W S2 3 v3) fun v4 =>
 bindV (aBin p .lss 3 v4 (.int .i64 1)) fun v5 =>
 gV v5 false fun g6 =>
 bindV (wO g6 (aFieldAddr p 26 v1 0)) fun v7 =>
 gV v5 false fun g8 =>
 bindV (wO g8 (aLoad p W S2 3 v7)) fun v9 =>
 gV v5 false fun g10 =>
 bindV (wO g10 (aBin p .gtr 3 v9 (.int .i64 6))) fun v11 =>
 bindV (aPick v5 (.bool true) v11) fun v12 =>
 condK v12
  (
   some ((.int .i64 1), S2)
  )
  (
   bindV (aFieldAddr p 26 v1 1) fun v13 =>
   bindV (aLoad p W S2 2 v13) fun v14 =>
   bindV (aBin p .lss 2 v14 (.int .i64 1)) fun v15 =>
   gV v15 false fun g16 =>
   bindV (wO g16 (aFieldAddr p 26 v1 1)) fun v17 =>
   gV v15 false fun g18 =>
   bindV (wO g18 (aLoad p W S2 2 v17)) fun v19 =>
   gV v15 false fun g20 =>
   bindV (wO g20 (aBin p .gtr 2 v19 (.int .i64 1073741824))) fun v21 =>
   bindV (aPick v15 (.bool true) v21) fun v22 =>
   condK v22
    (
     some ((.int .i64 2), S2)
    )
    (
     bindV (aLoad p W S2 26 v1) fun v23 =>
     bindS (aCall p (cw W) S2 (.func (.func 35) #[] #[]) #[v23]) fun v24 S25 =>
     bindV (aUn p .not v24) fun v26 =>
     condK v26
      (
       some ((.int .i64 3), S25)
      )
      (
       bindV (aLoad p W S25 26 v1) fun v27 =>
       bindS (aCall p (cw W) S25 (.func (.func 36) #[] #[]) #[v27]) fun v28 S29 =>
       bindV (aUn p .not v28) fun v30 =>
       condK v30
        (
         some ((.int .i64 4), S29)
        )
        (
         bindO (l12_11111010 W x0 v1 (.int .i64 5) undef undef v3 v4 v5 v5 v7 v9 v11 v12 v13 v14 v15 v15 v17 v19 v21 v22 v23 v24 v26 v27 v28 v30 undef undef undef undef undef undef undef undef undef undef undef undef undef undef undef undef undef undef undef undef undef undef undef undef undef undef undef undef undef undef undef undef undef undef undef undef undef undef undef undef undef undef undef undef S29) (kc W c12 [1, 1, 1, 1, 1, 0, 1, 0] f12)
        )
      )
    )
  )
 )
  := (fn_eq Try.func12 rfl ok12 _ _).trans (by kernel_rfl)
theorem r12_11111010 (W : World) (y0 y1 y3 y4 y5 y6 y7 y8 y9 y10 y11 y12 y13 y14 y15 y16 y17 y18 y19 y20 y21 y22 y23 y24 y25 y26 y27 y36 y37 y38 y39 y40 y41 y42 y43 y44 y45 y46 y47 y48 y49 y50 y51 y52 y53 y54 y55 y56 y57 y58 y59 y60 y61 y62 y63 y64 y65 y66 y67 y68 y69 y70 y71 y72 y73 y74 y75 y76 y77 y78 y79 : Value) (S : St) : l12_11111010 W y0 y1 y3 y4 y5 y6 y7 y8 y9 y10 y11 y12 y13 y14 y15 y16 y17 y18 y19 y20 y21 y22 y23 y24 y25 y26 y27 y36 y37 y38 y39 y40 y41 y42 y43 y44 y45 y46 y47 y48 y49 y50 y51 y52 y53 y54 y55 y56 y57 y58 y59 y60 y61 y62 y63 y64 y65 y66 y67 y68 y69 y70 y71 y72 y73 y74 y75 y76 y77 y78 y79 S =
 bindV (aBin p .leq 3 y3 (.int .i64 8)) fun v31 =>
 condK v31
  (
   bindV (aLoad p W S 26 y1) fun v32 =>
   bindS (aCall p (cw W) S (.func (.func 37) #[] #[]) #[v32, y3]) fun v33 S34 =>
   condK v33
    (
     some (.ret, ⟨#[y0, y1, y3, y3, y4, y5, y6, y7, y8, y9, y10, y11, y12, y13, y14, y15, y16, y17, y18, y19, y20, y21, y22, y23, y24, y25, y26, y27, y3, v31, junk, junk, v32, y3, v33, y3, y36, y37, y38, y39, y40, y41, y42, y43, y44, y45, y46, y47, y48, y49, y50, y51, y52, y53, y54, y55, y56, y57, y58, y59, y60, y61, y62, y63, y64, y65, y66, y67, y68, y69, y70, y71, y72, y73, y74, y75, y76, y77, y78, y79], []⟩, S34)
    )
    (
     bindV (aBin p .add 3 y3 (.int .i64 1)) fun v35 =>
     l12_11111010 W y0 y1 v35 y4 y5 y6 y7 y8 y9 y10 y11 y12 y13 y14 y15 y16 y17 y18 y19 y20 y21 y22 y23 y24 y25 y26 y27 y36 y37 y38 y39 y40 y41 y42 y43 y44 y45 y46 y47 y48 y49 y50 y51 y52 y53 y54 y55 y56 y57 y58 y59 y60 y61 y62 y63 y64 y65 y66 y67 y68 y69 y70 y71 y72 y73 y74 y75 y76 y77 y78 y79 S34
    )
  )
  (
   some (.exit 0, ⟨#[y0, y1, junk, y3, y4, y5, y6, y7, y8, y9, y10, y11, y12, y13, y14, y15, y16, y17, y18, y19, y20, y21, y22, y23, y24, y25, y26, y27, y3, v31, junk, junk, junk, junk, junk, junk, y36, y37, y38, y39, y40, y41, y42, y43, y44, y45, y46, y47, y48, y49, y50, y51, y52, y53, y54, y55, y56, y57, y58, y59, y60, y61, y62, y63, y64, y65, y66, y67, y68, y69, y70, y71, y72, y73, y74, y75, y76, y77, y78, y79], []⟩, S)
  )
  := (round_eq ok12_11111010 ⟨#[y0, y1, junk, y3, y4, y5, y6, y7, y8, y9, y10, y11, y12, y13, y14, y15, y16, y17, y18, y19, y20, y21, y22, y23, y24, y25, y26, y27, junk, junk, junk, junk, junk, junk, junk, junk, y36, y37, y38, y39, y40, y41, y42, y43, y44, y45, y46, y47, y48, y49, y50, y51, y52, y53, y54, y55, y56, y57, y58, y59, y60, y61, y62, y63, y64, y65, y66, y67, y68, y69, y70, y71, y72, y73, y74, y75, y76, y77, y78, y79], []⟩ S).trans (by kernel_rfl)
theorem r12_1111111010 (W : World) (y0 y1 y3 y4 y6 y7 y8 y9 y10 y11 y12 y13 y14 y15 y16 y17 y18 y19 y20 y21 y22 y23 y24 y25 y26 y27 y28 y29 y30 y31 y32 y33 y34 y35 y36 y37 y38 y39 y72 y73 y74 y75 y76 y77 y78 y79 : Value) (S : St) : l12_1111111010 W y0 y1 y3 y4 y6 y7 y8 y9 y10 y11 y12 y13 y14 y15 y16 y17 y18 y19 y20 y21 y22 y23 y24 y25 y26 y27 y28 y29 y30 y31 y32 y33 y34 y35 y36 y37 y38 y39 y72 y73 y74 y75 y76 y77 y78 y79 S =
 bindV (aFieldAddr p 26 y1 7) fun v36 =>
 bindV (aLoad p W S 24 v36) fun v37 =>
 bindV (aLen p W S #[24] #[v37]) fun v38 =>
 bindV (aBin p .lss 3 y4 v38) fun v39 =>
 condK v39
  (
   bindV (aFieldAddr p 26 y1 7) fun v40 =>
   bindV (aLoad p W S 24 v40) fun v41 =>
   bindV (aIndexAddr p 24 v41 y4) fun v42 =>
   bindV (aLoad p W S 47 v42) fun v43 =>
   bindS (aAlloc p S 47) fun v44 S45 =>
   bindT (aStore p S45 47 v44 v43) fun S46 =>
   bindV (aFieldAddr p 26 y1 0) fun v47 =>
   bindV (aLoad p W S46 3 v47) fun v48 =>
   bindV (aFieldAddr p 47 v44 0) fun v49 =>
   bindV (aLoad p W S46 3 v49) fun v50 =>
   bindV (aFieldAddr p 47 v44 1) fun v51 =>
   bindV (aLoad p W S46 30 v51) fun v52 =>
   bindV (aFieldAddr p 47 v44 3) fun v53 =>
   bindV (aLoad p W S46 3 v53) fun v54 =>
   bindS (aCall p (cw W) S46 (.func (.func 38) #[] #[]) #[v48, v50, v52, v54]) fun v55 S56 =>
   bindV (aUn p .not v55) fun v57 =>
   gV v57 false fun g58 =>
   bindV (wO g58 (aFieldAddr p 47 v44 2)) fun v59 =>
   gV v57 false fun g60 =>
   bindV (wO g60 (aLoad p W S56 2 v59)) fun v61 =>
   gV v57 false fun g62 =>
   bindV (wO g62 (aBin p .lss 2 v61 (.int .i64 1))) fun v63 =>
   bindV (aPick v57 (.bool true) v63) fun v64 =>
   gV v64 false fun g65 =>
   bindV (wO g65 (aFieldAddr p 47 v44 2)) fun v66 =>
   gV v64 false fun g67 =>
   bindV (wO g67 (aLoad p W S56 2 v66)) fun v68 =>
   gV v64 false fun g69 =>
   bindV (wO g69 (aBin p .gtr 2 v68 (.int .i64 1073741824))) fun v70 =>
   bindV (aPick v64 (.bool true) v70) fun v71 =>
   condK v71
    (
     some (.ret, ⟨#[y0, y1, (.int .i64 9), y3, y4, v44, y6, y7, y8, y9, y10, y11, y12, y13, y14, y15, y16, y17, y18, y19, y20, y21, y22, y23, y24, y25, y26, y27, y28, y29, y30, y31, y32, y33, y34, y35, y36, y37, y38, y39, y4, v36, v37, v38, v39, junk, junk, v40, v41, y4, v42, v43, v47, v48, v49, v50, v51, v52, v53, v54, v55, v57, v57, v59, v61, v63, v64, v64, v66, v68, v70, v71, y72, y73, y74, y75, y76, y77, y78, y79], []⟩, S56)
    )
    (
     bindV (aBin p .add 3 y4 (.int .i64 1)) fun v72 =>
     l12_1111111010 W y0 y1 y3 v72 y6 y7 y8 y9 y10 y11 y12 y13 y14 y15 y16 y17 y18 y19 y20 y21 y22 y23 y24 y25 y26 y27 y28 y29 y30 y31 y32 y33 y34 y35 y36 y37 y38 y39 y72 y73 y74 y75 y76 y77 y78 y79 S56
    )
  )
  (
   some (.exit 2, ⟨#[y0, y1, junk, y3, y4, junk, y6, y7, y8, y9, y10, y11, y12, y13, y14, y15, y16, y17, y18, y19, y20, y21, y22, y23, y24, y25, y26, y27, y28, y29, y30, y31, y32, y33, y34, y35, y36, y37, y38, y39, y4, v36, v37, v38, v39, junk, junk, junk, junk, junk, junk, junk, junk, junk, junk, junk, junk, junk, junk, junk, junk, junk, junk, junk, junk, junk, junk, junk, junk, junk, junk, junk, y72, y73, y74, y75, y76, y77, y78, y79], []⟩, S)
  )
  := (round_eq ok12_1111111010 ⟨#[y0, y1, junk, y3, y4, junk, y6, y7, y8, y9, y10, y11, y12, y13, y14, y15, y16, y17, y18, y19, y20, y21, y22, y23, y24, y25, y26, y27, y28, y29, y30, y31, y32, y33, y34, y35, y36, y37, y38, y39, junk, junk, junk, junk, junk, junk, junk, junk, junk, junk, junk, junk, junk, junk, junk, junk, junk, junk, junk, junk, junk, junk, junk, junk, junk, junk, junk, junk, junk, junk, junk, junk, y72, y73, y74, y75, y76, y77, y78, y79], []⟩ S).trans (by kernel_rfl)
theorem k12_11111010_0 (W : World) (y0 y1 y2 y3 y4 y5 y6 y7 y8 y9 y10 y11 y12 y13 y14 y15 y16 y17 y18 y19 y20 y21 y22 y23 y24 y25 y26 y27 y28 y29 y30 y31 y32 y33 y34 y35 y36 y37 y38 y39 y40 y41 y42 y43 y44 y45 y46 y47 y48 y49 y50 y51 y52 y53 y54 y55 y56 y57 y58 y59 y60 y61 y62 y63 y64 y65 y66 y67 y68 y69 y70 y71 y72 y73 y74 y75 y76 y77 y78 y79 : Value) (S : St) : kc W c12 [1, 1, 1, 1, 1, 0, 1, 0] f12 (.exit 0) ⟨#[y0, y1, y2, y3, y4, y5, y6, y7, y8, y9, y10, y11, y12, y13, y14, y15, y16, y17, y18, y19, y20, y21, y22, y23, y24, y25, y26, y27, y28, y29, y30, y31, y32, y33, y34, y35, y36, y37, y38, y39, y40, y41, y42, y43, y44, y45, y46, y47, y48, y49, y50, y51, y52, y53, y54, y55, y56, y57, y58, y59, y60, y61, y62, y63, y64, y65, y66, y67, y68, y69, y70, y71, y72, y73, y74, y75, y76, y77, y78, y79], []⟩ S =
 bindV (aFieldAddr p 26 y1 7) fun v1 =>
 bindV (aLoad p W S 24 v1) fun v2 =>
 bindV (aLen p W S #[24] #[v2]) fun v3 =>
 bindV (aBin p .gtr 3 v3 (.int .i64 16)) fun v4 =>
 condK v4
  (
   some ((.int .i64 9), S)
  )
  (
   bindO (l12_1111111010 W y0 y1 y3 (.int .i64 0) y6 y7 y8 y9 y10 y11 y12 y13 y14 y15 y16 y17 y18 y19 y20 y21 y22 y23 y24 y25 y26 y27 y28 y29 y30 y31 y32 y33 y34 y35 v1 v2 v3 v4 y72 y73 y74 y75 y76 y77 y78 y79 S) (kc W c12 [1, 1, 1, 1, 1, 1, 1, 0, 1, 0] f12)
  )
  := by kernel_rfl
theorem k12_11111010_ret (W : World) (y0 y1 y2 y3 y4 y5 y6 y7 y8 y9 y10 y11 y12 y13 y14 y15 y16 y17 y18 y19 y20 y21 y22 y23 y24 y25 y26 y27 y28 y29 y30 y31 y32 y33 y34 y35 y36 y37 y38 y39 y40 y41 y42 y43 y44 y45 y46 y47 y48 y49 y50 y51 y52 y53 y54 y55 y56 y57 y58 y59 y60 y61 y62 y63 y64 y65 y66 y67 y68 y69 y70 y71 y72 y73 y74 y75 y76 y77 y78 y79 : Value) (S : St) : kc W c12 [1, 1, 1, 1, 1, 0, 1, 0] f12 (.ret) ⟨#[y0, y1, y2, y3, y4, y5, y6, y7, y8, y9, y10, y11, y12, y13, y14, y15, y16, y17, y18, y19, y20, y21, y22, y23, y24, y25, y26, y27, y28, y29, y30, y31, y32, y33, y34, y35, y36, y37, y38, y39, y40, y41, y42, y43, y44, y45, y46, y47, y48, y49, y50, y51, y52, y53, y54, y55, y56, y57, y58, y59, y60, y61, y62, y63, y64, y65, y66, y67, y68, y69, y70, y71, y72, y73, y74, y75, y76, y77, y78, y79], []⟩ S =
 some (y2, S)
  := by kernel_rfl
theorem k12_1111111010_2 (W : World) (y0 y1 y2 y3 y4 y5 y6 y7 y8 y9 y10 y11 y12 y13 y14 y15 y16 y17 y18 y19 y20 y21 y22 y23 y24 y25 y26 y27 y28 y29 y30 y31 y32 y33 y34 y35 y36 y37 y38 y39 y40 y41 y42 y43 y44 y45 y46 y47 y48 y49 y50 y51 y52 y53 y54 y55 y56 y57 y58 y59 y60 y61 y62 y63 y64 y65 y66 y67 y68 y69 y70 y71 y72 y73 y74 y75 y76 y77 y78 y79 : Value) (S : St) : kc W c12 [1, 1, 1, 1, 1, 1, 1, 0, 1, 0] f12 (.exit 2) ⟨#[y0, y1, y2, y3, y4, y5, y6, y7, y8, y9, y10, y11, y12, y13, y14, y15, y16, y17, y18, y19, y20, y21, y22, y23, y24, y25, y26, y27, y28, y29, y30, y31, y32, y33, y34, y35, y36, y37, y38, y39, y40, y41, y42, y43, y44, y45, y46, y47, y48, y49, y50, y51, y52, y53, y54, y55, y56, y57, y58, y59, y60, y61, y62, y63, y64, y65, y66, y67, y68, y69, y70, y71, y72, y73, y74, y75, y76, y77, y78, y79], []⟩ S =
 bindV (aFieldAddr p 26 y1 8) fun v1 =>
 bindV (aLoad p W S 3 v1) fun v2 =>
 bindV (aBin p .lss 3 v2 (.int .i64 1)) fun v3 =>
 gV v3 false fun g4 =>
 bindV (wO g4 (aFieldAddr p 26 y1 8)) fun v5 =>
 gV v3 false fun g6 =>
 bindV (wO g6 (aLoad p W S 3 v5)) fun v7 =>
 gV v3 false fun g8 =>
 bindV (wO g8 (aBin p .gtr 3 v7 (.int .i64 64))) fun v9 =>
 bindV (aPick v3 (.bool true) v9) fun v10 =>
 condK v10
  (
   some ((.int .i64 10), S)
  )
  (
   some ((.int .i64 0), S)
  )
  := by kernel_rfl
theorem k12_1111111010_ret (W : World) (y0 y1 y2 y3 y4 y5 y6 y7 y8 y9 y10 y11 y12 y13 y14 y15 y16 y17 y18 y19 y20 y21 y22 y23 y24 y25 y26 y27 y28 y29 y30 y31 y32 y33 y34 y35 y36 y37 y38 y39 y40 y41 y42 y43 y44 y45 y46 y47 y48 y49 y50 y51 y52 y53 y54 y55 y56 y57 y58 y59 y60 y61 y62 y63 y64 y65 y66 y67 y68 y69 y70 y71 y72 y73 y74 y75 y76 y77 y78 y79 : Value) (S : St) : kc W c12 [1, 1, 1, 1, 1, 1, 1, 0, 1, 0] f12 (.ret) ⟨#[y0, y1, y2, y3, y4, y5, y6, y7, y8, y9, y10, y11, y12, y13, y14, y15, y16, y17, y18, y19, y20, y21, y22, y23, y24, y25, y26, y27, y28, y29, y30, y31, y32, y33, y34, y35, y36, y37, y38, y39, y40, y41, y42, y43, y44, y45, y46, y47, y48, y49, y50, y51, y52, y53, y54, y55, y56, y57, y58, y59, y60, y61, y62, y63, y64, y65, y66, y67, y68, y69, y70, y71, y72, y73, y74, y75, y76, y77, y78, y79], []⟩ S =
 some (y2, S)
  := by kernel_rfl
noncomputable abbrev f13 := Try.f13
noncomputable def c13 : Code := bodyOf f13
theorem ok13 : codeOk p c13 = true := by kernel_rfl
theorem eq13 (W : World) (x0 x1 : Value) (S : St) : cw W 13 #[x0, x1] S =
 gcR #[x0, x1] S (
 bindS (aBox S x0) fun v1 S2 =>
 bindS (aBox S2 x1) fun v3 S4 =>
 bindV (aLoad p W S4 26 v1) fun v5 =>
 bindS (aCall p (cw W) S4 (.func (.func 35) #[] #[]) #[v5]) fun v6 S7 =>
 gV v6 true fun g8 =>
 bindV (wO g8 (aFieldAddr p 32 v3 0)) fun v9 =>
 gV v6 true fun g10 =>
 bindV (wO g10 (aLoad p W S7 3 v9)) fun v11 =>
 gV v6 true fun g12 =>
 bindV (wO g12 (aFieldAddr p 32 v3 1)) fun v13 =>
 gV v6 true fun g14 =>
 bindV (wO g14 (aLoad p W S7 30 v13)) fun v15 =>
 gV v6 true fun g16 =>
 bindV (wO g16 (aFieldAddr p 32 v3 3)) fun v17 =>
 gV v6 true fun g18 =>
 bindV (wO g18 (aLoad p W S7 3 v17)) fun v19 =>
 gV v6 true fun g20 =>
 bindS (wS g20 S7 (aCall p (cw W) S7 (.func (.func 38) #[] #[]) #[(.int .i64 6), v11, v15, v19])) fun v21 S22 =>
 bindV (aPick v6 v21 (.bool false)) fun v23 =>
 gV v23 true fun g24 =>
 bindV (wO g24 (aFieldAddr p 32 v3 2)) fun v25 =>
 gV v23 true fun g26 =>
 bindV (wO g26 (aLoad p W S22 2 v25)) fun v27 =>
 gV v23 true fun g28 =>
 bindV (wO g28 (aBin p .geq 2 v27 (.int .i64 (-1125899906842624)))) fun v29 =>
 bindV (aPick v23 v29 (.bool false)) fun v30 =>
 gV v30 true fun g31 =>
 bindV (wO g31 (aFieldAddr p 32 v3 2)) fun v32 =>
 gV v30 true fun g33 =>
 bindV (wO g33 (aLoad p W S22 2 v32)) fun v34 =>
 gV v30 true fun g35 =>
 bindV (wO g35 (aBin p .leq 2 v34 (.int .i64 1125899906842624))) fun v36 =>
 bindV (aPick v30 v36 (.bool false)) fun v37 =>
 some (v37, S22)
 )
  := (fn_eq Try.func13 rfl ok13 _ _).trans (by kernel_rfl)
noncomputable abbrev f14 := Try.f14
noncomputable def c14 : Code := bodyOf f14
theorem ok14 : codeOk p c14 = true := by kernel_rfl
theorem eq14 (W : World) (x0 x1 : Value) (S : St) : cw W 14 #[x0, x1] S =
 gcR #[x0, x1] S (
 bindS (aBox S x0) fun v1 S2 =>
 bindS (aBox S2 x1) fun v3 S4 =>
 bindS (aAlloc p S4 33) fun v5 S6 =>
 bindV (aFieldAddr p 32 v3 3) fun v7 =>
 bindV (aLoad p W S6 3 v7) fun v8 =>
 bindS (aCall p (cw W) S6 (.func (.func 39) #[] #[]) #[v8]) fun v9 S10 =>
 bindV (aFieldAddr p 32 v3 2) fun v11 =>
 bindV (aLoad p W S10 2 v11) fun v12 =>
 bindV (aBin p .add 2 v12 v9) fun v13 =>
 bindV (aFieldAddr p 26 v1 2) fun v14 =>
 bindV (aLoad p W S10 2 v14) fun v15 =>
 bindV (aBin p .add 2 v13 v15) fun v16 =>
 bindV (aFieldAddr p 26 v1 4) fun v17 =>
 bindV (aLoad p W S10 2 v17) fun v18 =>
 bindV (aBin p .add 2 v16 v18) fun v19 =>
 bindV (aFieldAddr p 26 v1 4) fun v20 =>
 bindV (aLoad p W S10 2 v20) fun v21 =>
 bindV (aBin p .add 2 v19 v21) fun v22 =>
 bindV (aFieldAddr p 26 v1 4) fun v23 =>
 bindV (aLoad p W S10 2 v23) fun v24 =>
 bindV (aBin p .sub 2 v13 v24) fun v25 =>
 bindV (aFieldAddr p 26 v1 2) fun v26 =>
 bindV (aLoad p W S10 2 v26) fun v27 =>
 bindV (aBin p .add 2 v13 v27) fun v28 =>
 bindV (aFieldAddr p 26 v1 4) fun v29 =>
 bindV (aLoad p W S10 2 v29) fun v30 =>
 bindV (aBin p .add 2 v28 v30) fun v31 =>
 bindV (aBin p .add 2 v22 v9) fun v32 =>
 bindV (aFieldAddr p 26 v1 4) fun v33 =>
 bindV (aLoad p W S10 2 v33) fun v34 =>
 bindV (aBin p .sub 2 v32 v34) fun v35 =>
 bindV (aBin p .add 2 v22 v9) fun v36 =>
 bindV (aFieldAddr p 26 v1 2) fun v37 =>
 bindV (aLoad p W S10 2 v37) fun v38 =>
 bindV (aBin p .add 2 v36 v38) fun v39 =>
 bindV (aFieldAddr p 26 v1 4) fun v40 =>
 bindV (aLoad p W S10 2 v40) fun v41 =>
 bindV (aBin p .add 2 v39 v41) fun v42 =>
 bindV (aBuild p 33 #[(0, v25), (1, v31), (2, v22), (3, v35), (4, v42)]) fun v43 =>
 bindT (aStore p S10 33 v5 v43) fun S44 =>
 bindV (aLoad p W S44 33 v5) fun v45 =>
 some (v45, S44)
 )
  := (fn_eq Try.func14 rfl ok14 _ _).trans (by kernel_rfl)
noncomputable abbrev f15 := Try.f15
noncomputable def c15 : Code := bodyOf f15
theorem ok15 : codeOk p c15 = true := by kernel_rfl
theorem eq15 (W : World) (x0 x1 : Value) (S : St) : cw W 15 #[x0, x1] S =
 gcR #[x0, x1] S (
 bindS (aBox S x0) fun v1 S2 =>
 bindS (aBox S2 x1) fun v3 S4 =>
 bindV (aLoad p W S4 26 v1) fun v5 =>
 bindV (aLoad p W S4 32 v3) fun v6 =>
 bindS (aCall p (cw W) S4 (.func (.func 40) #[] #[]) #[v5, v6]) fun v7 S8 =>
 bindV (aUn p .not v7) fun v9 =>
 condK v9
  (
   some (.tuple #[(.int .i64 0), (.int .i64 0)], S8)
  )
  (
   bindV (aFieldAddr p 32 v3 2) fun v10 =>
   bindV (aLoad p W S8 2 v10) fun v11 =>
   bindV (aFieldAddr p 32 v3 3) fun v12 =>
   bindV (aLoad p W S8 3 v12) fun v13 =>
   bindS (qS true S8 fun S_ => aCall p (cw W) S_ (.func (.func 21) #[] #[]) #[v13]) fun v14 S15 =>
   bindV (aBin p .add 2 v11 v14) fun v16 =>
   bindV (aFieldAddr p 26 v1 4) fun v17 =>
   bindV (aLoad p W S15 2 v17) fun v18 =>
   bindV (aBin p .sub 2 v16 v18) fun v19 =>
   bindV (aFieldAddr p 26 v1 2) fun v20 =>
   bindV (aLoad p W S15 2 v20) fun v21 =>
   bindV (aBin p .add 2 v16 v21) fun v22 =>
   bindV (aFieldAddr p 26 v1 4) fun v23 =>
   bindV (aLoad p W S15 2 v23) fun v24 =>
   bindV (aBin p .add 2 v22 v24) fun v25 =>
   some (.tuple #[v19, v25], S15)
  )
 )
  := (fn_eq Try.func15 rfl ok15 _ _).trans (by kernel_rfl)
noncomputable abbrev f16 := Try.f16
noncomputable def c16 : Code := bodyOf f16
theorem ok16 : codeOk p c16 = true := by kernel_rfl
theorem eq16 (W : World) (x0 x1 : Value) (S : St) : cw W 16 #[x0, x1] S =
 gcR #[x0, x1] S (
 bindS (aBox S x0) fun v1 S2 =>
 bindS (aBox S2 x1) fun v3 S4 =>
 bindV (aLoad p W S4 26 v1) fun v5 =>
 bindV (aLoad p W S4 32 v3) fun v6 =>
 bindS (aCall p (cw W) S4 (.func (.func 40) #[] #[]) #[v5, v6]) fun v7 S8 =>
 bindV (aUn p .not v7) fun v9 =>
 condK v9
  (
   some ((.int .i64 0), S8)
  )
  (
   bindV (aFieldAddr p 32 v3 2) fun v10 =>
   bindV (aLoad p W S8 2 v10) fun v11 =>
   bindV (aFieldAddr p 32 v3 3) fun v12 =>
   bindV (aLoad p W S8 3 v12) fun v13 =>
   bindS (qS true S8 fun S_ => aCall p (cw W) S_ (.func (.func 21) #[] #[]) #[v13]) fun v14 S15 =>
   bindV (aBin p .add 2 v11 v14) fun v16 =>
   bindV (aFieldAddr p 26 v1 2) fun v17 =>
   bindV (aLoad p W S15 2 v17) fun v18 =>
   bindV (aBin p .add 2 v16 v18) fun v19 =>
   bindV (aFieldAddr p 26 v1 4) fun v20 =>
   bindV (aLoad p W S15 2 v20) fun v21 =>
   bindV (aBin p .mul 2 (.int .i64 2) v21) fun v22 =>
   bindV (aBin p .add 2 v19 v22) fun v23 =>
   some (v23, S15)
  )
 )
  := (fn_eq Try.func16 rfl ok16 _ _).trans (by kernel_rfl)
noncomputable abbrev f17 := Try.f17
noncomputable def c17 : Code := bodyOf f17
theorem ok17 : codeOk p c17 = true := by kernel_rfl
theorem eq17 (W : World) (x0 x1 : Value) (S : St) : cw W 17 #[x0, x1] S =
 gcR #[x0, x1] S (
 bindS (aBox S x0) fun v1 S2 =>
 bindS (aBox S2 x1) fun v3 S4 =>
 bindV (aLoad p W S4 26 v1) fun v5 =>
 bindV (aLoad p W S4 32 v3) fun v6 =>
 bindS (aCall p (cw W) S4 (.func (.func 40) #[] #[]) #[v5, v6]) fun v7 S8 =>
 bindV (aUn p .not v7) fun v9 =>
 condK v9
  (
   some ((.int .i64 0), S8)
  )
  (
   bindV (aLoad p W S8 26 v1) fun v10 =>
   bindV (aLoad p W S8 32 v3) fun v11 =>
   bindS (qS true S8 fun S_ => aCall p (cw W) S_ (.func (.func 16) #[] #[]) #[v10, v11]) fun v12 S13 =>
   bindV (aFieldAddr p 32 v3 3) fun v14 =>
   bindV (aLoad p W S13 3 v14) fun v15 =>
   bindS (qS true S13 fun S_ => aCall p (cw W) S_ (.func (.func 21) #[] #[]) #[v15]) fun v16 S17 =>
   bindV (aBin p .add 2 v12 v16) fun v18 =>
   bindV (aFieldAddr p 26 v1 4) fun v19 =>
   bindV (aLoad p W S17 2 v19) fun v20 =>
   bindV (aBin p .sub 2 v18 v20) fun v21 =>
   some (v21, S17)
  )
 )
  := (fn_eq Try.func17 rfl ok17 _ _).trans (by kernel_rfl)
noncomputable abbrev f18 := Try.f18
noncomputable def c18 : Code := bodyOf f18
theorem ok18 : codeOk p c18 = true := by kernel_rfl
theorem eq18 (W : World) (x0 x1 : Value) (S : St) : cw W 18 #[x0, x1] S =
 gcR #[x0, x1] S (
 bindS (aBox S x0) fun v1 S2 =>
 bindS (aBox S2 x1) fun v3 S4 =>
 bindV (aLoad p W S4 26 v1) fun v5 =>
 bindV (aLoad p W S4 32 v3) fun v6 =>
 bindS (aCall p (cw W) S4 (.func (.func 40) #[] #[]) #[v5, v6]) fun v7 S8 =>
 bindV (aUn p .not v7) fun v9 =>
 condK v9
  (
   some ((.int .i64 0), S8)
  )
  (
   bindV (aLoad p W S8 26 v1) fun v10 =>
   bindV (aLoad p W S8 32 v3) fun v11 =>
   bindS (qS true S8 fun S_ => aCall p (cw W) S_ (.func (.func 16) #[] #[]) #[v10, v11]) fun v12 S13 =>
   bindV (aFieldAddr p 32 v3 3) fun v14 =>
   bindV (aLoad p W S13 3 v14) fun v15 =>
   bindS (qS true S13 fun S_ => aCall p (cw W) S_ (.func (.func 21) #[] #[]) #[v15]) fun v16 S17 =>
   bindV (aBin p .add 2 v12 v16) fun v18 =>
   bindV (aFieldAddr p 26 v1 2) fun v19 =>
   bindV (aLoad p W S17 2 v19) fun v20 =>
   bindV (aBin p .add 2 v18 v20) fun v21 =>
   bindV (aFieldAddr p 26 v1 4) fun v22 =>
   bindV (aLoad p W S17 2 v22) fun v23 =>
   bindV (aBin p .add 2 v21 v23) fun v24 =>
   some (v24, S17)
  )
 )
  := (fn_eq Try.func18 rfl ok18 _ _).trans (by kernel_rfl)
noncomputable abbrev f19 := Try.f19
noncomputable def c19 : Code := bodyOf f19
theorem ok19 : codeOk p c19 = true := by kernel_rfl
theorem eq19 (W : World) (x0 : Value) (S : St) : cw W 19 #[x0] S =
 gcR #[x0] S (
 bindS (aBox S x0) fun v1 S2 =>
 bindV (aLoad p W S2 26 v1) fun v3 =>
 bindS (aCall p (cw W) S2 (.func (.func 29) #[] #[]) #[v3]) fun v4 S5 =>
 bindV (aUn p .not v4) fun v6 =>
 condK v6
  (
   some ((.int .i64 0), S5)
  )
  (
   bindV (aLoad p W S5 26 v1) fun v7 =>
   bindS (aCall p (cw W) S5 (.func (.func 41) #[] #[]) #[v7]) fun v8 S9 =>
   some (v8, S9)
  )
 )
  := (fn_eq Try.func19 rfl ok19 _ _).trans (by kernel_rfl)
noncomputable abbrev f20 := Try.f20
noncomputable def c20 : Code := bodyOf f20
theorem ok20 : codeOk p c20 = true := by kernel_rfl
theorem eq20 (W : World) (x0 : Value) (S : St) : cw W 20 #[x0] S =
 gcR #[x0] S (
 bindS (aBox S x0) fun v1 S2 =>
 bindV (aLoad p W S2 26 v1) fun v3 =>
 bindS (aCall p (cw W) S2 (.func (.func 35) #[] #[]) #[v3]) fun v4 S5 =>
 bindV (aUn p .not v4) fun v6 =>
 condK v6
  (
   some ((.int .i64 0), S5)
  )
  (
   bindV (aFieldAddr p 26 v1 2) fun v7 =>
   bindV (aLoad p W S5 2 v7) fun v8 =>
   bindV (aFieldAddr p 26 v1 2) fun v9 =>
   bindV (aLoad p W S5 2 v9) fun v10 =>
   bindV (aBin p .add 2 v8 v10) fun v11 =>
   bindV (aFieldAddr p 26 v1 3) fun v12 =>
   bindV (aLoad p W S5 2 v12) fun v13 =>
   bindV (aBin p .add 2 v11 v13) fun v14 =>
   bindV (aFieldAddr p 26 v1 4) fun v15 =>
   bindV (aLoad p W S5 2 v15) fun v16 =>
   bindV (aBin p .mul 2 (.int .i64 4) v16) fun v17 =>
   bindV (aBin p .add 2 v14 v17) fun v18 =>
   some (v18, S5)
  )
 )
  := (fn_eq Try.func20 rfl ok20 _ _).trans (by kernel_rfl)
noncomputable abbrev f21 := Try.f21
noncomputable def c21 : Code := bodyOf f21
theorem ok21 : codeOk p c21 = true := by kernel_rfl
theorem eq21 (W : World) (x0 : Value) (S : St) : cw W 21 #[x0] S =
 gcR #[x0] S (
 bindS (aBuiltin p W S .max #[3, 3] #[x0, (.int .i64 64)]) fun v1 S2 =>
 bindS (aBuiltin p W S2 .min #[3, 3] #[v1, (.int .i64 1518)]) fun v3 S4 =>
 bindV (aBin p .mul 2 (.int .i64 8) v3) fun v5 =>
 some (v5, S4)
 )
  := (fn_eq Try.func21 rfl ok21 _ _).trans (by kernel_rfl)
noncomputable abbrev f22 := Try.f22
noncomputable def c22 : Code := bodyOf f22
theorem ok22 : codeOk p c22 = true := by kernel_rfl
noncomputable def c22_111010 : Code := codeAt [1, 1, 1, 0, 1, 0, 0] c22
theorem ok22_111010 : codeOk p c22_111010 = true := by kernel_rfl
noncomputable def l22_111010 (W : World) (y0 y1 y2 y3 y4 y5 y7 y8 y9 y10 y11 y12 y13 y14 y15 y16 y17 y18 y35 y36 y37 y38 y39 y40 y41 y42 y43 y44 y45 y46 y47 y48 y49 y50 y51 y52 y53 y54 y55 y56 y57 y58 y59 y60 y61 y62 y63 y64 y65 : Value) (S : St) : Out := la W c22_111010 ⟨#[y0, y1, y2, y3, y4, y5, junk, y7, y8, y9, y10, y11, y12, y13, y14, y15, y16, y17, y18, junk, junk, junk, junk, junk, junk, junk, junk, junk, junk, junk, junk, junk, junk, junk, junk, y35, y36, y37, y38, y39, y40, y41, y42, y43, y44, y45, y46, y47, y48, y49, y50, y51, y52, y53, y54, y55, y56, y57, y58, y59, y60, y61, y62, y63, y64, y65], []⟩ S
noncomputable def c22_1111010 : Code := codeAt [1, 1, 1, 1, 0, 1, 0, 0] c22
theorem ok22_1111010 : codeOk p c22_1111010 = true := by kernel_rfl
noncomputable def l22_1111010 (W : World) (y0 y1 y2 y3 y4 y5 y6 y9 y10 y11 y12 y13 y14 y15 y16 y17 y18 y19 y20 y21 y22 y23 y24 y25 y26 y27 y28 y29 y30 y31 y32 y33 y34 y35 y36 y65 : Value) (S : St) : Out := la W c22_1111010 ⟨#[y0, y1, y2, y3, y4, y5, y6, junk, junk, y9, y10, y11, y12, y13, y14, y15, y16, y17, y18, y19, y20, y21, y22, y23, y24, y25, y26, y27, y28, y29, y30, y31, y32, y33, y34, y35, y36, junk, junk, junk, junk, junk, junk, junk, junk, junk, junk, junk, junk, junk, junk, junk, junk, junk, junk, junk, junk, junk, junk, junk, junk, junk, junk, junk, junk, y65], []⟩ S
theorem eq22 (W : World) (x0 x1 : Value) (S : St) : cw W 22 #[x0, x1] S =
 bindS (aAlloc p S 26) fun v1 S2 =>
 bindS (aBuiltin p W S2 .max #[3, 3] #[x0, (.int .i64 1)]) fun v3 S4 =>
 bindS (aBuiltin p W S4 .min #[3, 3] #[v3, (.int .i64 6)]) fun v5 S6 =>
 bindS (aBuiltin p W S6 .max #[3, 3] #[x1, (.int .i64 0)]) fun v7 S8 =>
 bindS (aBuiltin p W S8 .min #[3, 3] #[v7, (.int .i64 16)]) fun v9 S10 =>
 bindV (aBuild p 26 #[(0, v5), (1, (.int .i64 2000000)), (2, (.int .i64 2000)), (3, (.int .i64 1000)), (4, (.int .i64 500)), (8, (.int .i64 8))]) fun v11 =>
 bindS (aAlloc p S10 26) fun v12 S13 =>
 bindT (aStore p S13 26 v12 v11) fun S14 =>
 bindO (l22_111010 W v5 v9 undef undef v1 v12 undef undef x0 v3 v5 x1 v7 v9 v5 v11 v5 (.int .i64 0) undef undef undef undef undef undef undef undef undef undef undef undef undef undef undef undef undef undef undef undef undef undef undef undef undef undef undef undef undef undef undef S14) (kc W c22 [1, 1, 1, 0, 1, 0] f22)
  := (fn_eq Try.func22 rfl ok22 _ _).trans (by kernel_rfl)
theorem r22_111010 (W : World) (y0 y1 y2 y3 y4 y5 y7 y8 y9 y10 y11 y12 y13 y14 y15 y16 y17 y18 y35 y36 y37 y38 y39 y40 y41 y42 y43 y44 y45 y46 y47 y48 y49 y50 y51 y52 y53 y54 y55 y56 y57 y58 y59 y60 y61 y62 y63 y64 y65 : Value) (S : St) : l22_111010 W y0 y1 y2 y3 y4 y5 y7 y8 y9 y10 y11 y12 y13 y14 y15 y16 y17 y18 y35 y36 y37 y38 y39 y40 y41 y42 y43 y44 y45 y46 y47 y48 y49 y50 y51 y52 y53 y54 y55 y56 y57 y58 y59 y60 y61 y62 y63 y64 y65 S =
 bindV (aBin p .lss 3 y18 y17) fun v15 =>
 condK v15
  (
   bindV (aFieldAddr p 26 y5 5) fun v16 =>
   bindV (aLoad p W S 22 v16) fun v17 =>
   bindV (aBin p .add 3 y18 (.int .i64 1)) fun v18 =>
   bindV (aBin p .mul 2 (.int .i64 100) v18) fun v19 =>
   bindV (aBin p .add 3 y18 (.int .i64 1)) fun v20 =>
   bindV (aBin p .mul 2 (.int .i64 100) v20) fun v21 =>
   bindV (aBin p .add 2 v21 (.int .i64 50)) fun v22 =>
   bindS (aBuildSlice p S 45 2 #[(0, v19), (1, v22)]) fun v23 S24 =>
   bindS (aBuildSlice p S24 22 1 #[(0, v23)]) fun v25 S26 =>
   bindS (aBuiltin p W S26 .append #[22, 22] #[v17, v25]) fun v27 S28 =>
   bindV (aFieldAddr p 26 y5 5) fun v29 =>
   bindT (aStore p S28 22 v29 v27) fun S30 =>
   bindV (aBin p .add 3 y18 (.int .i64 1)) fun v31 =>
   l22_111010 W y0 y1 y2 y3 y4 y5 y7 y8 y9 y10 y11 y12 y13 y14 y15 y16 y17 v31 y35 y36 y37 y38 y39 y40 y41 y42 y43 y44 y45 y46 y47 y48 y49 y50 y51 y52 y53 y54 y55 y56 y57 y58 y59 y60 y61 y62 y63 y64 y65 S30
  )
  (
   some (.exit 0, ⟨#[y0, y1, y2, y3, y4, y5, junk, y7, y8, y9, y10, y11, y12, y13, y14, y15, y16, y17, y18, v15, junk, junk, junk, junk, junk, junk, junk, junk, junk, junk, junk, junk, junk, junk, junk, y35, y36, y37, y38, y39, y40, y41, y42, y43, y44, y45, y46, y47, y48, y49, y50, y51, y52, y53, y54, y55, y56, y57, y58, y59, y60, y61, y62, y63, y64, y65], []⟩, S)
  )
  := (round_eq ok22_111010 ⟨#[y0, y1, y2, y3, y4, y5, junk, y7, y8, y9, y10, y11, y12, y13, y14, y15, y16, y17, y18, junk, junk, junk, junk, junk, junk, junk, junk, junk, junk, junk, junk, junk, junk, junk, junk, y35, y36, y37, y38, y39, y40, y41, y42, y43, y44, y45, y46, y47, y48, y49, y50, y51, y52, y53, y54, y55, y56, y57, y58, y59, y60, y61, y62, y63, y64, y65], []⟩ S).trans (by kernel_rfl)
theorem r22_1111010 (W : World) (y0 y1 y2 y3 y4 y5 y6 y9 y10 y11 y12 y13 y14 y15 y16 y17 y18 y19 y20 y21 y22 y23 y24 y25 y26 y27 y28 y29 y30 y31 y32 y33 y34 y35 y36 y65 : Value) (S : St) : l22_1111010 W y0 y1 y2 y3 y4 y5 y6 y9 y10 y11 y12 y13 y14 y15 y16 y17 y18 y19 y20 y21 y22 y23 y24 y25 y26 y27 y28 y29 y30 y31 y32 y33 y34 y35 y36 y65 S =
 bindV (aBin p .lss 3 y36 y35) fun v32 =>
 condK v32
  (
   bindV (aBin p .rem 3 y36 y0) fun v33 =>
   bindV (aBin p .gtr 3 y0 (.int .i64 1)) fun v34 =>
   condK v34
    (
     bindV (aFieldAddr p 26 y5 6) fun v35 =>
     bindV (aLoad p W S 23 v35) fun v36 =>
     bindS (aConv p W S 3 56 y0) fun v37 S38 =>
     bindV (aBin p .shl 30 (.int .u32 1) v37) fun v39 =>
     bindV (aBin p .sub 30 v39 (.int .u32 1)) fun v40 =>
     bindS (aConv p W S38 3 56 v33) fun v41 S42 =>
     bindV (aBin p .shl 30 (.int .u32 1) v41) fun v43 =>
     bindV (aBin p .sub 30 v40 v43) fun v44 =>
     bindV (aBin p .mul 2 (.int .i64 50000) y36) fun v45 =>
     bindV (aBin p .add 2 (.int .i64 10000) v45) fun v46 =>
     bindV (aBin p .add 3 (.int .i64 64) y36) fun v47 =>
     bindV (aBuild p 32 #[(0, v33), (1, v44), (2, v46), (3, v47)]) fun v48 =>
     bindS (aBuildSlice p S42 23 1 #[(0, v48)]) fun v49 S50 =>
     bindS (aBuiltin p W S50 .append #[23, 23] #[v36, v49]) fun v51 S52 =>
     bindV (aFieldAddr p 26 y5 6) fun v53 =>
     bindT (aStore p S52 23 v53 v51) fun S54 =>
     bindV (aBin p .add 3 y36 (.int .i64 1)) fun v55 =>
     l22_1111010 W y0 y1 y2 y3 y4 y5 y6 y9 y10 y11 y12 y13 y14 y15 y16 y17 y18 y19 y20 y21 y22 y23 y24 y25 y26 y27 y28 y29 y30 y31 y32 y33 y34 y35 v55 y65 S54
    )
    (
     bindV (aBin p .add 3 y36 (.int .i64 1)) fun v56 =>
     l22_1111010 W y0 y1 y2 y3 y4 y5 y6 y9 y10 y11 y12 y13 y14 y15 y16 y17 y18 y19 y20 y21 y22 y23 y24 y25 y26 y27 y28 y29 y30 y31 y32 y33 y34 y35 v56 y65 S
    )
  )
  (
   some (.exit 2, ⟨#[y0, y1, y2, y3, y4, y5, y6, junk, junk, y9, y10, y11, y12, y13, y14, y15, y16, y17, y18, y19, y20, y21, y22, y23, y24, y25, y26, y27, y28, y29, y30, y31, y32, y33, y34, y35, y36, v32, junk, junk, junk, junk, junk, junk, junk, junk, junk, junk, junk, junk, junk, junk, junk, junk, junk, junk, junk, junk, junk, junk, junk, junk, junk, junk, junk, y65], []⟩, S)
  )
  := (round_eq ok22_1111010 ⟨#[y0, y1, y2, y3, y4, y5, y6, junk, junk, y9, y10, y11, y12, y13, y14, y15, y16, y17, y18, y19, y20, y21, y22, y23, y24, y25, y26, y27, y28, y29, y30, y31, y32, y33, y34, y35, y36, junk, junk, junk, junk, junk, junk, junk, junk, junk, junk, junk, junk, junk, junk, junk, junk, junk, junk, junk, junk, junk, junk, junk, junk, junk, junk, junk, junk, y65], []⟩ S).trans (by kernel_rfl)
theorem k22_111010_0 (W : World) (y0 y1 y2 y3 y4 y5 y6 y7 y8 y9 y10 y11 y12 y13 y14 y15 y16 y17 y18 y19 y20 y21 y22 y23 y24 y25 y26 y27 y28 y29 y30 y31 y32 y33 y34 y35 y36 y37 y38 y39 y40 y41 y42 y43 y44 y45 y46 y47 y48 y49 y50 y51 y52 y53 y54 y55 y56 y57 y58 y59 y60 y61 y62 y63 y64 y65 : Value) (S : St) : kc W c22 [1, 1, 1, 0, 1, 0] f22 (.exit 0) ⟨#[y0, y1, y2, y3, y4, y5, y6, y7, y8, y9, y10, y11, y12, y13, y14, y15, y16, y17, y18, y19, y20, y21, y22, y23, y24, y25, y26, y27, y28, y29, y30, y31, y32, y33, y34, y35, y36, y37, y38, y39, y40, y41, y42, y43, y44, y45, y46, y47, y48, y49, y50, y51, y52, y53, y54, y55, y56, y57, y58, y59, y60, y61, y62, y63, y64, y65], []⟩ S =
 bindO (l22_1111010 W y0 y1 y2 y3 y4 y5 y6 y9 y10 y11 y12 y13 y14 y15 y16 y17 y18 y19 y20 y21 y22 y23 y24 y25 y26 y27 y28 y29 y30 y31 y32 y33 y34 y1 (.int .i64 0) y65 S) (kc W c22 [1, 1, 1, 1, 0, 1, 0] f22)
  := by kernel_rfl
theorem k22_1111010_2 (W : World) (y0 y1 y2 y3 y4 y5 y6 y7 y8 y9 y10 y11 y12 y13 y14 y15 y16 y17 y18 y19 y20 y21 y22 y23 y24 y25 y26 y27 y28 y29 y30 y31 y32 y33 y34 y35 y36 y37 y38 y39 y40 y41 y42 y43 y44 y45 y46 y47 y48 y49 y50 y51 y52 y53 y54 y55 y56 y57 y58 y59 y60 y61 y62 y63 y64 y65 : Value) (S : St) : kc W c22 [1, 1, 1, 1, 0, 1, 0] f22 (.exit 2) ⟨#[y0, y1, y2, y3, y4, y5, y6, y7, y8, y9, y10, y11, y12, y13, y14, y15, y16, y17, y18, y19, y20, y21, y22, y23, y24, y25, y26, y27, y28, y29, y30, y31, y32, y33, y34, y35, y36, y37, y38, y39, y40, y41, y42, y43, y44, y45, y46, y47, y48, y49, y50, y51, y52, y53, y54, y55, y56, y57, y58, y59, y60, y61, y62, y63, y64, y65], []⟩ S =
 bindV (aLoad p W S 26 y5) fun v1 =>
 bindT (aStore p S 26 y4 v1) fun S2 =>
 bindV (aLoad p W S2 26 y4) fun v3 =>
 some (v3, S2)
  := by kernel_rfl
end Go.Proofs.Ytogcdgdnjinjkaa.F
end
section
namespace Go.Proofs.Ytogcdgdnjinjkaa.F
open Go Go.Proofs.Ytogcdgdnjinjkaa.E
set_option linter.unusedVariables false
set_option maxRecDepth 100000
noncomputable abbrev f23 := Try.f23
noncomputable def c23 : Code := bodyOf f23
theorem ok23 : codeOk p c23 = true := by kernel_rfl
noncomputable def c23_11010 : Code := codeAt [1, 1, 0, 1, 0, 0] c23
theorem ok23_11010 : codeOk p c23_11010 = true := by kernel_rfl
noncomputable def l23_11010 (W : World) (y0 y1 y2 y3 y5 y7 y8 y9 y10 y11 y12 y13 y14 y15 y16 y17 y18 y19 y20 y21 y22 y23 y24 y25 y26 y27 y28 y29 y30 y31 y32 y33 y34 y35 y36 y37 y38 y39 y40 y41 y42 y43 y44 y45 y46 y47 y48 y49 y50 y51 y52 y53 y54 y55 y56 y57 y58 y59 y60 y61 y62 y63 y64 y65 y66 y67 y68 y69 y70 y71 y72 y73 y74 y75 y123 y124 y125 y126 y127 y128 y129 y130 y131 y132 y133 y134 y135 y136 y137 y138 y139 y140 y141 y142 y143 y144 y145 y146 y147 y148 y149 y150 y151 y152 y153 y154 y155 y156 y157 y158 : Value) (S : St) : Out := la W c23_11010 ⟨#[y0, y1, y2, y3, junk, y5, junk, y7, y8, y9, y10, y11, y12, y13, y14, y15, y16, y17, y18, y19, y20, y21, y22, y23, y24, y25, y26, y27, y28, y29, y30, y31, y32, y33, y34, y35, y36, y37, y38, y39, y40, y41, y42, y43, y44, y45, y46, y47, y48, y49, y50, y51, y52, y53, y54, y55, y56, y57, y58, y59, y60, y61, y62, y63, y64, y65, y66, y67, y68, y69, y70, y71, y72, y73, y74, y75, junk, junk, junk, junk, junk, junk, junk, junk, junk, junk, junk, junk, junk, junk, junk, junk, junk, junk, junk, junk, junk, junk, junk, junk, junk, junk, junk, junk, junk, junk, junk, junk, junk, junk, junk, junk, junk, junk, junk, junk, junk, junk, junk, junk, junk, junk, junk, y123, y124, y125, y126, y127, y128, y129, y130, y131, y132, y133, y134, y135, y136, y137, y138, y139, y140, y141, y142, y143, y144, y145, y146, y147, y148, y149, y150, y151, y152, y153, y154, y155, y156, y157, y158], []⟩ S
noncomputable def c23_110100100110 : Code := codeAt [1, 1, 0, 1, 0, 0, 1, 0, 0, 1, 1, 0, 0] c23
theorem ok23_110100100110 : codeOk p c23_110100100110 = true := by kernel_rfl
noncomputable def l23_110100100110 (W : World) (y0 y1 y2 y3 y5 y6 y7 y8 y9 y10 y11 y12 y13 y14 y15 y16 y17 y18 y19 y20 y21 y22 y23 y24 y25 y26 y27 y28 y29 y30 y31 y32 y33 y34 y35 y36 y37 y38 y39 y40 y41 y42 y43 y44 y45 y46 y47 y48 y49 y50 y51 y52 y53 y54 y55 y56 y57 y58 y59 y60 y61 y62 y63 y64 y65 y66 y67 y68 y69 y70 y71 y72 y73 y74 y75 y76 y77 y78 y79 y80 y81 y82 y83 y84 y85 y86 y87 y88 y89 y90 y91 y92 y93 y94 y95 y123 y124 y125 y126 y127 y128 y129 y130 y131 y132 y133 y134 y135 y136 y137 y138 y139 y140 y141 y142 y143 y144 y145 y146 y147 y148 y149 y150 y151 y152 y153 y154 y155 y156 y157 y158 : Value) (S : St) : Out := la W c23_110100100110 ⟨#[y0, y1, y2, y3, junk, y5, y6, y7, y8, y9, y10, y11, y12, y13, y14, y15, y16, y17, y18, y19, y20, y21, y22, y23, y24, y25, y26, y27, y28, y29, y30, y31, y32, y33, y34, y35, y36, y37, y38, y39, y40, y41, y42, y43, y44, y45, y46, y47, y48, y49, y50, y51, y52, y53, y54, y55, y56, y57, y58, y59, y60, y61, y62, y63, y64, y65, y66, y67, y68, y69, y70, y71, y72, y73, y74, y75, y76, y77, y78, y79, y80, y81, y82, y83, y84, y85, y86, y87, y88, y89, y90, y91, y92, y93, y94, y95, junk, junk, junk, junk, junk, junk, junk, junk, junk, junk, junk, junk, junk, junk, junk, junk, junk, junk, junk, junk, junk, junk, junk, junk, junk, junk, junk, y123, y124, y125, y126, y127, y128, y129, y130, y131, y132, y133, y134, y135, y136, y137, y138, y139, y140, y141, y142, y143, y144, y145, y146, y147, y148, y149, y150, y151, y152, y153, y154, y155, y156, y157, y158], []⟩ S
noncomputable def c23_111010 : Code := codeAt [1, 1, 1, 0, 1, 0, 0] c23
theorem ok23_111010 : codeOk p c23_111010 = true := by kernel_rfl
noncomputable def l23_111010 (W : World) (y0 y1 y2 y3 y5 y6 y7 y8 y9 y10 y11 y12 y13 y14 y15 y16 y17 y18 y19 y20 y21 y22 y23 y24 y25 y26 y27 y28 y29 y30 y31 y32 y33 y34 y35 y36 y37 y38 y39 y40 y41 y42 y43 y44 y45 y46 y47 y48 y49 y50 y51 y52 y53 y54 y55 y56 y57 y58 y59 y60 y61 y62 y63 y64 y65 y66 y67 y68 y69 y70 y71 y72 y73 y74 y75 y76 y77 y78 y79 y80 y81 y82 y83 y84 y85 y86 y87 y88 y89 y90 y91 y92 y93 y94 y95 y96 y97 y98 y99 y100 y101 y102 y103 y104 y105 y106 y107 y108 y109 y110 y111 y112 y113 y114 y115 y116 y117 y118 y119 y120 y121 y122 y141 y142 y143 y144 y145 y146 y147 y148 y149 y150 y151 y152 y153 y154 y155 y156 y157 y158 : Value) (S : St) : Out := la W c23_111010 ⟨#[y0, y1, y2, y3, junk, y5, y6, y7, y8, y9, y10, y11, y12, y13, y14, y15, y16, y17, y18, y19, y20, y21, y22, y23, y24, y25, y26, y27, y28, y29, y30, y31, y32, y33, y34, y35, y36, y37, y38, y39, y40, y41, y42, y43, y44, y45, y46, y47, y48, y49, y50, y51, y52, y53, y54, y55, y56, y57, y58, y59, y60, y61, y62, y63, y64, y65, y66, y67, y68, y69, y70, y71, y72, y73, y74, y75, y76, y77, y78, y79, y80, y81, y82, y83, y84, y85, y86, y87, y88, y89, y90, y91, y92, y93, y94, y95, y96, y97, y98, y99, y100, y101, y102, y103, y104, y105, y106, y107, y108, y109, y110, y111, y112, y113, y114, y115, y116, y117, y118, y119, y120, y121, y122, junk, junk, junk, junk, junk, junk, junk, junk, junk, junk, junk, junk, junk, junk, junk, junk, junk, junk, y141, y142, y143, y144, y145, y146, y147, y148, y149, y150, y151, y152, y153, y154, y155, y156, y157, y158], []⟩ S
noncomputable def c23_1111010 : Code := codeAt [1, 1, 1, 1, 0, 1, 0, 0] c23
theorem ok23_1111010 : codeOk p c23_1111010 = true := by kernel_rfl
noncomputable def l23_1111010 (W : World) (y0 y1 y2 y3 y5 y6 y7 y8 y9 y10 y11 y12 y13 y14 y15 y16 y17 y18 y19 y20 y21 y22 y23 y24 y25 y26 y27 y28 y29 y30 y31 y32 y33 y34 y35 y36 y37 y38 y39 y40 y41 y42 y43 y44 y45 y46 y47 y48 y49 y50 y51 y52 y53 y54 y55 y56 y57 y58 y59 y60 y61 y62 y63 y64 y65 y66 y67 y68 y69 y70 y71 y72 y73 y74 y75 y76 y77 y78 y79 y80 y81 y82 y83 y84 y85 y86 y87 y88 y89 y90 y91 y92 y93 y94 y95 y96 y97 y98 y99 y100 y101 y102 y103 y104 y105 y106 y107 y108 y109 y110 y111 y112 y113 y114 y115 y116 y117 y118 y119 y120 y121 y122 y123 y124 y125 y126 y127 y128 y129 y130 y131 y132 y133 y134 y135 y136 y137 y138 y139 y140 : Value) (S : St) : Out := la W c23_1111010 ⟨#[y0, y1, y2, y3, junk, y5, y6, y7, y8, y9, y10, y11, y12, y13, y14, y15, y16, y17, y18, y19, y20, y21, y22, y23, y24, y25, y26, y27, y28, y29, y30, y31, y32, y33, y34, y35, y36, y37, y38, y39, y40, y41, y42, y43, y44, y45, y46, y47, y48, y49, y50, y51, y52, y53, y54, y55, y56, y57, y58, y59, y60, y61, y62, y63, y64, y65, y66, y67, y68, y69, y70, y71, y72, y73, y74, y75, y76, y77, y78, y79, y80, y81, y82, y83, y84, y85, y86, y87, y88, y89, y90, y91, y92, y93, y94, y95, y96, y97, y98, y99, y100, y101, y102, y103, y104, y105, y106, y107, y108, y109, y110, y111, y112, y113, y114, y115, y116, y117, y118, y119, y120, y121, y122, y123, y124, y125, y126, y127, y128, y129, y130, y131, y132, y133, y134, y135, y136, y137, y138, y139, y140, junk, junk, junk, junk, junk, junk, junk, junk, junk, junk, junk, junk, junk, junk, junk, junk, junk, junk], []⟩ S
theorem eq23 (W : World) (x0 x1 : Value) (S : St) : cw W 23 #[x0, x1] S =
 gcR #[x0, x1] S (
 bindS (aBox S x0) fun v1 S2 =>
 bindS (aBox S2 x1) fun v3 S4 =>
 bindV (aFieldAddr p 26 v1 0) fun v5 =>
 bindV (aLoad p W S4 3 v5) fun v6 =>
 bindV (aFieldAddr p 26 v3 0) fun v7 =>
 bindV (aLoad p W S4 3 v7) fun v8 =>
 bindV (aBin p .neq 3 v6 v8) fun v9 =>
 gV v9 false fun g10 =>
 bindV (wO g10 (aFieldAddr p 26 v1 1)) fun v11 =>
 gV v9 false fun g12 =>
 bindV (wO g12 (aLoad p W S4 2 v11)) fun v13 =>
 gV v9 false fun g14 =>
 bindV (wO g14 (aFieldAddr p 26 v3 1)) fun v15 =>
 gV v9 false fun g16 =>
 bindV (wO g16 (aLoad p W S4 2 v15)) fun v17 =>
 gV v9 false fun g18 =>
 bindV (wO g18 (aBin p .neq 2 v13 v17)) fun v19 =>
 bindV (aPick v9 (.bool true) v19) fun v20 =>
 gV v20 false fun g21 =>
 bindV (wO g21 (aFieldAddr p 26 v1 2)) fun v22 =>
 gV v20 false fun g23 =>
 bindV (wO g23 (aLoad p W S4 2 v22)) fun v24 =>
 gV v20 false fun g25 =>
 bindV (wO g25 (aFieldAddr p 26 v3 2)) fun v26 =>
 gV v20 false fun g27 =>
 bindV (wO g27 (aLoad p W S4 2 v26)) fun v28 =>
 gV v20 false fun g29 =>
 bindV (wO g29 (aBin p .neq 2 v24 v28)) fun v30 =>
 bindV (aPick v20 (.bool true) v30) fun v31 =>
 gV v31 false fun g32 =>
 bindV (wO g32 (aFieldAddr p 26 v1 3)) fun v33 =>
 gV v31 false fun g34 =>
 bindV (wO g34 (aLoad p W S4 2 v33)) fun v35 =>
 gV v31 false fun g36 =>
 bindV (wO g36 (aFieldAddr p 26 v3 3)) fun v37 =>
 gV v31 false fun g38 =>
 bindV (wO g38 (aLoad p W S4 2 v37)) fun v39 =>
 gV v31 false fun g40 =>
 bindV (wO g40 (aBin p .neq 2 v35 v39)) fun v41 =>
 bindV (aPick v31 (.bool true) v41) fun v42 =>
 gV v42 false fun g43 =>
 bindV (wO g43 (aFieldAddr p 26 v1 4)) fun v44 =>
 gV v42 false fun g45 =>
 bindV (wO g45 (aLoad p W S4 2 v44)) fun v46 =>
 gV v42 false fun g47 =>
 bindV (wO g47 (aFieldAddr p 26 v3 4)) fun v48 =>
 gV v42 false fun g49 =>
 bindV (wO g49 (aLoad p W S4 2 v48)) fun v50 =>
 gV v42 false fun g51 =>
 bindV (wO g51 (aBin p .neq 2 v46 v50)) fun v52 =>
 bindV (aPick v42 (.bool true) v52) fun v53 =>
 gV v53 false fun g54 =>
 bindV (wO g54 (aFieldAddr p 26 v1 8)) fun v55 =>
 gV v53 false fun g56 =>
 bindV (wO g56 (aLoad p W S4 3 v55)) fun v57 =>
 gV v53 false fun g58 =>
 bindV (wO g58 (aFieldAddr p 26 v3 8)) fun v59 =>
 gV v53 false fun g60 =>
 bindV (wO g60 (aLoad p W S4 3 v59)) fun v61 =>
 gV v53 false fun g62 =>
 bindV (wO g62 (aBin p .neq 3 v57 v61)) fun v63 =>
 bindV (aPick v53 (.bool true) v63) fun v64 =>
 gV v64 false fun g65 =>
 bindV (wO g65 (aFieldAddr p 26 v1 5)) fun v66 =>
 gV v64 false fun g67 =>
 bindV (wO g67 (aLoad p W S4 22 v66)) fun v68 =>
 gV v64 false fun g69 =>
 bindV (wO g69 (aLen p W S4 #[22] #[v68])) fun v70 =>
 gV v64 false fun g71 =>
 bindV (wO g71 (aFieldAddr p 26 v3 5)) fun v72 =>
 gV v64 false fun g73 =>
 bindV (wO g73 (aLoad p W S4 22 v72)) fun v74 =>
 gV v64 false fun g75 =>
 bindV (wO g75 (aLen p W S4 #[22] #[v74])) fun v76 =>
 gV v64 false fun g77 =>
 bindV (wO g77 (aBin p .neq 3 v70 v76)) fun v78 =>
 bindV (aPick v64 (.bool true) v78) fun v79 =>
 gV v79 false fun g80 =>
 bindV (wO g80 (aFieldAddr p 26 v1 6)) fun v81 =>
 gV v79 false fun g82 =>
 bindV (wO g82 (aLoad p W S4 23 v81)) fun v83 =>
 gV v79 false fun g84 =>
 bindV (wO g84 (aLen p W S4 #[23] #[v83])) fun v85 =>
 gV v79 false fun g86 =>
 bindV (wO g86 (aFieldAddr p 26 v3 6)) fun v87 =>
 gV v79 false fun g88 =>
 bindV (wO g88 (aLoad p W S4 23 v87)) fun v89 =>
 gV v79 false fun g90 =>
 bindV (wO g90 (aLen p W S4 #[23] #[v89])) fun v91 =>
 gV v79 false fun g92 =>
 bindV (wO g92 (aBin p .neq 3 v85 v91)) fun v93 =>
 bindV (aPick v79 (.bool true) v93) fun v94 =>
 gV v94 false fun g95 =>
 bindV (wO g95 (aFieldAddr p 26 v1 7)) fun v96 =>
 gV v94 false fun g97 =>
 bindV (wO g97 (aLoad p W S4 24 v96)) fun v98 =>
 gV v94 false fun g99 =>
 bindV (wO g99 (aLen p W S4 #[24] #[v98])) fun v100 =>
 gV v94 false fun g101 =>
 bindV (wO g101 (aFieldAddr p 26 v3 7)) fun v102 =>
 gV v94 false fun g103 =>
 bindV (wO g103 (aLoad p W S4 24 v102)) fun v104 =>
 gV v94 false fun g105 =>
 bindV (wO g105 (aLen p W S4 #[24] #[v104])) fun v106 =>
 gV v94 false fun g107 =>
 bindV (wO g107 (aBin p .neq 3 v100 v106)) fun v108 =>
 bindV (aPick v94 (.bool true) v108) fun v109 =>
 condK v109
  (
   some ((.bool false), S4)
  )
  (
   bindO (l23_11010 W x0 x1 v1 v3 (.int .i64 0) undef undef v5 v6 v7 v8 v9 v9 v11 v13 v15 v17 v19 v20 v20 v22 v24 v26 v28 v30 v31 v31 v33 v35 v37 v39 v41 v42 v42 v44 v46 v48 v50 v52 v53 v53 v55 v57 v59 v61 v63 v64 v64 v66 v68 v70 v72 v74 v76 v78 v79 v79 v81 v83 v85 v87 v89 v91 v93 v94 v94 v96 v98 v100 v102 v104 v106 v108 v109 undef undef undef undef undef undef undef undef undef undef undef undef undef undef undef undef undef undef undef undef undef undef undef undef undef undef undef undef undef undef undef undef undef undef undef undef S4) (kc W c23 [1, 1, 0, 1, 0] f23)
  )
 )
  := (fn_eq Try.func23 rfl ok23 _ _).trans (by kernel_rfl)
theorem r23_11010 (W : World) (y0 y1 y2 y3 y5 y7 y8 y9 y10 y11 y12 y13 y14 y15 y16 y17 y18 y19 y20 y21 y22 y23 y24 y25 y26 y27 y28 y29 y30 y31 y32 y33 y34 y35 y36 y37 y38 y39 y40 y41 y42 y43 y44 y45 y46 y47 y48 y49 y50 y51 y52 y53 y54 y55 y56 y57 y58 y59 y60 y61 y62 y63 y64 y65 y66 y67 y68 y69 y70 y71 y72 y73 y74 y75 y123 y124 y125 y126 y127 y128 y129 y130 y131 y132 y133 y134 y135 y136 y137 y138 y139 y140 y141 y142 y143 y144 y145 y146 y147 y148 y149 y150 y151 y152 y153 y154 y155 y156 y157 y158 : Value) (S : St) : l23_11010 W y0 y1 y2 y3 y5 y7 y8 y9 y10 y11 y12 y13 y14 y15 y16 y17 y18 y19 y20 y21 y22 y23 y24 y25 y26 y27 y28 y29 y30 y31 y32 y33 y34 y35 y36 y37 y38 y39 y40 y41 y42 y43 y44 y45 y46 y47 y48 y49 y50 y51 y52 y53 y54 y55 y56 y57 y58 y59 y60 y61 y62 y63 y64 y65 y66 y67 y68 y69 y70 y71 y72 y73 y74 y75 y123 y124 y125 y126 y127 y128 y129 y130 y131 y132 y133 y134 y135 y136 y137 y138 y139 y140 y141 y142 y143 y144 y145 y146 y147 y148 y149 y150 y151 y152 y153 y154 y155 y156 y157 y158 S =
 bindV (aFieldAddr p 26 y2 5) fun v110 =>
 bindV (aLoad p W S 22 v110) fun v111 =>
 bindV (aLen p W S #[22] #[v111]) fun v112 =>
 bindV (aBin p .lss 3 y5 v112) fun v113 =>
 condK v113
  (
   bindV (aFieldAddr p 26 y2 5) fun v114 =>
   bindV (aLoad p W S 22 v114) fun v115 =>
   bindV (aIndexAddr p 22 v115 y5) fun v116 =>
   bindV (aLoad p W S 45 v116) fun v117 =>
   bindV (aLen p W S #[45] #[v117]) fun v118 =>
   bindV (aFieldAddr p 26 y3 5) fun v119 =>
   bindV (aLoad p W S 22 v119) fun v120 =>
   bindV (aIndexAddr p 22 v120 y5) fun v121 =>
   bindV (aLoad p W S 45 v121) fun v122 =>
   bindV (aLen p W S #[45] #[v122]) fun v123 =>
   bindV (aBin p .neq 3 v118 v123) fun v124 =>
   condK v124
    (
     some (.ret, ⟨#[y0, y1, y2, y3, (.bool false), y5, junk, y7, y8, y9, y10, y11, y12, y13, y14, y15, y16, y17, y18, y19, y20, y21, y22, y23, y24, y25, y26, y27, y28, y29, y30, y31, y32, y33, y34, y35, y36, y37, y38, y39, y40, y41, y42, y43, y44, y45, y46, y47, y48, y49, y50, y51, y52, y53, y54, y55, y56, y57, y58, y59, y60, y61, y62, y63, y64, y65, y66, y67, y68, y69, y70, y71, y72, y73, y74, y75, y5, v110, v111, v112, v113, junk, junk, v114, v115, y5, v116, v117, v118, v119, v120, y5, v121, v122, v123, v124, junk, junk, junk, junk, junk, junk, junk, junk, junk, junk, junk, junk, junk, junk, junk, junk, junk, junk, junk, junk, junk, junk, junk, junk, junk, junk, junk, y123, y124, y125, y126, y127, y128, y129, y130, y131, y132, y133, y134, y135, y136, y137, y138, y139, y140, y141, y142, y143, y144, y145, y146, y147, y148, y149, y150, y151, y152, y153, y154, y155, y156, y157, y158], []⟩, S)
    )
    (
     bindO (l23_110100100110 W y0 y1 y2 y3 y5 (.int .i64 0) y7 y8 y9 y10 y11 y12 y13 y14 y15 y16 y17 y18 y19 y20 y21 y22 y23 y24 y25 y26 y27 y28 y29 y30 y31 y32 y33 y34 y35 y36 y37 y38 y39 y40 y41 y42 y43 y44 y45 y46 y47 y48 y49 y50 y51 y52 y53 y54 y55 y56 y57 y58 y59 y60 y61 y62 y63 y64 y65 y66 y67 y68 y69 y70 y71 y72 y73 y74 y75 y5 v110 v111 v112 v113 junk junk v114 v115 y5 v116 v117 v118 v119 v120 y5 v121 v122 v123 v124 y123 y124 y125 y126 y127 y128 y129 y130 y131 y132 y133 y134 y135 y136 y137 y138 y139 y140 y141 y142 y143 y144 y145 y146 y147 y148 y149 y150 y151 y152 y153 y154 y155 y156 y157 y158 S) (rk W c23_11010 [1, 0, 0, 1, 1, 0])
    )
  )
  (
   some (.exit 0, ⟨#[y0, y1, y2, y3, junk, y5, junk, y7, y8, y9, y10, y11, y12, y13, y14, y15, y16, y17, y18, y19, y20, y21, y22, y23, y24, y25, y26, y27, y28, y29, y30, y31, y32, y33, y34, y35, y36, y37, y38, y39, y40, y41, y42, y43, y44, y45, y46, y47, y48, y49, y50, y51, y52, y53, y54, y55, y56, y57, y58, y59, y60, y61, y62, y63, y64, y65, y66, y67, y68, y69, y70, y71, y72, y73, y74, y75, y5, v110, v111, v112, v113, junk, junk, junk, junk, junk, junk, junk, junk, junk, junk, junk, junk, junk, junk, junk, junk, junk, junk, junk, junk, junk, junk, junk, junk, junk, junk, junk, junk, junk, junk, junk, junk, junk, junk, junk, junk, junk, junk, junk, junk, junk, junk, y123, y124, y125, y126, y127, y128, y129, y130, y131, y132, y133, y134, y135, y136, y137, y138, y139, y140, y141, y142, y143, y144, y145, y146, y147, y148, y149, y150, y151, y152, y153, y154, y155, y156, y157, y158], []⟩, S)
  )
  := (round_eq ok23_11010 ⟨#[y0, y1, y2, y3, junk, y5, junk, y7, y8, y9, y10, y11, y12, y13, y14, y15, y16, y17, y18, y19, y20, y21, y22, y23, y24, y25, y26, y27, y28, y29, y30, y31, y32, y33, y34, y35, y36, y37, y38, y39, y40, y41, y42, y43, y44, y45, y46, y47, y48, y49, y50, y51, y52, y53, y54, y55, y56, y57, y58, y59, y60, y61, y62, y63, y64, y65, y66, y67, y68, y69, y70, y71, y72, y73, y74, y75, junk, junk, junk, junk, junk, junk, junk, junk, junk, junk, junk, junk, junk, junk, junk, junk, junk, junk, junk, junk, junk, junk, junk, junk, junk, junk, junk, junk, junk, junk, junk, junk, junk, junk, junk, junk, junk, junk, junk, junk, junk, junk, junk, junk, junk, junk, junk, y123, y124, y125, y126, y127, y128, y129, y130, y131, y132, y133, y134, y135, y136, y137, y138, y139, y140, y141, y142, y143, y144, y145, y146, y147, y148, y149, y150, y151, y152, y153, y154, y155, y156, y157, y158], []⟩ S).trans (by kernel_rfl)
theorem r23_110100100110 (W : World) (y0 y1 y2 y3 y5 y6 y7 y8 y9 y10 y11 y12 y13 y14 y15 y16 y17 y18 y19 y20 y21 y22 y23 y24 y25 y26 y27 y28 y29 y30 y31 y32 y33 y34 y35 y36 y37 y38 y39 y40 y41 y42 y43 y44 y45 y46 y47 y48 y49 y50 y51 y52 y53 y54 y55 y56 y57 y58 y59 y60 y61 y62 y63 y64 y65 y66 y67 y68 y69 y70 y71 y72 y73 y74 y75 y76 y77 y78 y79 y80 y81 y82 y83 y84 y85 y86 y87 y88 y89 y90 y91 y92 y93 y94 y95 y123 y124 y125 y126 y127 y128 y129 y130 y131 y132 y133 y134 y135 y136 y137 y138 y139 y140 y141 y142 y143 y144 y145 y146 y147 y148 y149 y150 y151 y152 y153 y154 y155 y156 y157 y158 : Value) (S : St) : l23_110100100110 W y0 y1 y2 y3 y5 y6 y7 y8 y9 y10 y11 y12 y13 y14 y15 y16 y17 y18 y19 y20 y21 y22 y23 y24 y25 y26 y27 y28 y29 y30 y31 y32 y33 y34 y35 y36 y37 y38 y39 y40 y41 y42 y43 y44 y45 y46 y47 y48 y49 y50 y51 y52 y53 y54 y55 y56 y57 y58 y59 y60 y61 y62 y63 y64 y65 y66 y67 y68 y69 y70 y71 y72 y73 y74 y75 y76 y77 y78 y79 y80 y81 y82 y83 y84 y85 y86 y87 y88 y89 y90 y91 y92 y93 y94 y95 y123 y124 y125 y126 y127 y128 y129 y130 y131 y132 y133 y134 y135 y136 y137 y138 y139 y140 y141 y142 y143 y144 y145 y146 y147 y148 y149 y150 y151 y152 y153 y154 y155 y156 y157 y158 S =
 bindV (aFieldAddr p 26 y2 5) fun v125 =>
 bindV (aLoad p W S 22 v125) fun v126 =>
 bindV (aIndexAddr p 22 v126 y5) fun v127 =>
 bindV (aLoad p W S 45 v127) fun v128 =>
 bindV (aLen p W S #[45] #[v128]) fun v129 =>
 bindV (aBin p .lss 3 y6 v129) fun v130 =>
 condK v130
  (
   bindV (aFieldAddr p 26 y2 5) fun v131 =>
   bindV (aLoad p W S 22 v131) fun v132 =>
   bindV (aIndexAddr p 22 v132 y5) fun v133 =>
   bindV (aLoad p W S 45 v133) fun v134 =>
   bindV (aIndexAddr p 45 v134 y6) fun v135 =>
   bindV (aLoad p W S 2 v135) fun v136 =>
   bindV (aFieldAddr p 26 y3 5) fun v137 =>
   bindV (aLoad p W S 22 v137) fun v138 =>
   bindV (aIndexAddr p 22 v138 y5) fun v139 =>
   bindV (aLoad p W S 45 v139) fun v140 =>
   bindV (aIndexAddr p 45 v140 y6) fun v141 =>
   bindV (aLoad p W S 2 v141) fun v142 =>
   bindV (aBin p .neq 2 v136 v142) fun v143 =>
   condK v143
    (
     some (.ret, ⟨#[y0, y1, y2, y3, (.bool false), y5, y6, y7, y8, y9, y10, y11, y12, y13, y14, y15, y16, y17, y18, y19, y20, y21, y22, y23, y24, y25, y26, y27, y28, y29, y30, y31, y32, y33, y34, y35, y36, y37, y38, y39, y40, y41, y42, y43, y44, y45, y46, y47, y48, y49, y50, y51, y52, y53, y54, y55, y56, y57, y58, y59, y60, y61, y62, y63, y64, y65, y66, y67, y68, y69, y70, y71, y72, y73, y74, y75, y76, y77, y78, y79, y80, y81, y82, y83, y84, y85, y86, y87, y88, y89, y90, y91, y92, y93, y94, y95, y6, v125, v126, y5, v127, v128, v129, v130, junk, junk, v131, v132, y5, v133, v134, y6, v135, v136, v137, v138, y5, v139, v140, y6, v141, v142, v143, y123, y124, y125, y126, y127, y128, y129, y130, y131, y132, y133, y134, y135, y136, y137, y138, y139, y140, y141, y142, y143, y144, y145, y146, y147, y148, y149, y150, y151, y152, y153, y154, y155, y156, y157, y158], []⟩, S)
    )
    (
     bindV (aBin p .add 3 y6 (.int .i64 1)) fun v144 =>
     l23_110100100110 W y0 y1 y2 y3 y5 v144 y7 y8 y9 y10 y11 y12 y13 y14 y15 y16 y17 y18 y19 y20 y21 y22 y23 y24 y25 y26 y27 y28 y29 y30 y31 y32 y33 y34 y35 y36 y37 y38 y39 y40 y41 y42 y43 y44 y45 y46 y47 y48 y49 y50 y51 y52 y53 y54 y55 y56 y57 y58 y59 y60 y61 y62 y63 y64 y65 y66 y67 y68 y69 y70 y71 y72 y73 y74 y75 y76 y77 y78 y79 y80 y81 y82 y83 y84 y85 y86 y87 y88 y89 y90 y91 y92 y93 y94 y95 y123 y124 y125 y126 y127 y128 y129 y130 y131 y132 y133 y134 y135 y136 y137 y138 y139 y140 y141 y142 y143 y144 y145 y146 y147 y148 y149 y150 y151 y152 y153 y154 y155 y156 y157 y158 S
    )
  )
  (
   some (.exit 2, ⟨#[y0, y1, y2, y3, junk, y5, y6, y7, y8, y9, y10, y11, y12, y13, y14, y15, y16, y17, y18, y19, y20, y21, y22, y23, y24, y25, y26, y27, y28, y29, y30, y31, y32, y33, y34, y35, y36, y37, y38, y39, y40, y41, y42, y43, y44, y45, y46, y47, y48, y49, y50, y51, y52, y53, y54, y55, y56, y57, y58, y59, y60, y61, y62, y63, y64, y65, y66, y67, y68, y69, y70, y71, y72, y73, y74, y75, y76, y77, y78, y79, y80, y81, y82, y83, y84, y85, y86, y87, y88, y89, y90, y91, y92, y93, y94, y95, y6, v125, v126, y5, v127, v128, v129, v130, junk, junk, junk, junk, junk, junk, junk, junk, junk, junk, junk, junk, junk, junk, junk, junk, junk, junk, junk, y123, y124, y125, y126, y127, y128, y129, y130, y131, y132, y133, y134, y135, y136, y137, y138, y139, y140, y141, y142, y143, y144, y145, y146, y147, y148, y149, y150, y151, y152, y153, y154, y155, y156, y157, y158], []⟩, S)
  )
  := (round_eq ok23_110100100110 ⟨#[y0, y1, y2, y3, junk, y5, y6, y7, y8, y9, y10, y11, y12, y13, y14, y15, y16, y17, y18, y19, y20, y21, y22, y23, y24, y25, y26, y27, y28, y29, y30, y31, y32, y33, y34, y35, y36, y37, y38, y39, y40, y41, y42, y43, y44, y45, y46, y47, y48, y49, y50, y51, y52, y53, y54, y55, y56, y57, y58, y59, y60, y61, y62, y63, y64, y65, y66, y67, y68, y69, y70, y71, y72, y73, y74, y75, y76, y77, y78, y79, y80, y81, y82, y83, y84, y85, y86, y87, y88, y89, y90, y91, y92, y93, y94, y95, junk, junk, junk, junk, junk, junk, junk, junk, junk, junk, junk, junk, junk, junk, junk, junk, junk, junk, junk, junk, junk, junk, junk, junk, junk, junk, junk, y123, y124, y125, y126, y127, y128, y129, y130, y131, y132, y133, y134, y135, y136, y137, y138, y139, y140, y141, y142, y143, y144, y145, y146, y147, y148, y149, y150, y151, y152, y153, y154, y155, y156, y157, y158], []⟩ S).trans (by kernel_rfl)
theorem r23_111010 (W : World) (y0 y1 y2 y3 y5 y6 y7 y8 y9 y10 y11 y12 y13 y14 y15 y16 y17 y18 y19 y20 y21 y22 y23 y24 y25 y26 y27 y28 y29 y30 y31 y32 y33 y34 y35 y36 y37 y38 y39 y40 y41 y42 y43 y44 y45 y46 y47 y48 y49 y50 y51 y52 y53 y54 y55 y56 y57 y58 y59 y60 y61 y62 y63 y64 y65 y66 y67 y68 y69 y70 y71 y72 y73 y74 y75 y76 y77 y78 y79 y80 y81 y82 y83 y84 y85 y86 y87 y88 y89 y90 y91 y92 y93 y94 y95 y96 y97 y98 y99 y100 y101 y102 y103 y104 y105 y106 y107 y108 y109 y110 y111 y112 y113 y114 y115 y116 y117 y118 y119 y120 y121 y122 y141 y142 y143 y144 y145 y146 y147 y148 y149 y150 y151 y152 y153 y154 y155 y156 y157 y158 : Value) (S : St) : l23_111010 W y0 y1 y2 y3 y5 y6 y7 y8 y9 y10 y11 y12 y13 y14 y15 y16 y17 y18 y19 y20 y21 y22 y23 y24 y25 y26 y27 y28 y29 y30 y31 y32 y33 y34 y35 y36 y37 y38 y39 y40 y41 y42 y43 y44 y45 y46 y47 y48 y49 y50 y51 y52 y53 y54 y55 y56 y57 y58 y59 y60 y61 y62 y63 y64 y65 y66 y67 y68 y69 y70 y71 y72 y73 y74 y75 y76 y77 y78 y79 y80 y81 y82 y83 y84 y85 y86 y87 y88 y89 y90 y91 y92 y93 y94 y95 y96 y97 y98 y99 y100 y101 y102 y103 y104 y105 y106 y107 y108 y109 y110 y111 y112 y113 y114 y115 y116 y117 y118 y119 y120 y121 y122 y141 y142 y143 y144 y145 y146 y147 y148 y149 y150 y151 y152 y153 y154 y155 y156 y157 y158 S =
 bindV (aFieldAddr p 26 y2 6) fun v145 =>
 bindV (aLoad p W S 23 v145) fun v146 =>
 bindV (aLen p W S #[23] #[v146]) fun v147 =>
 bindV (aBin p .lss 3 y7 v147) fun v148 =>
 condK v148
  (
   bindV (aFieldAddr p 26 y2 6) fun v149 =>
   bindV (aLoad p W S 23 v149) fun v150 =>
   bindV (aIndexAddr p 23 v150 y7) fun v151 =>
   bindV (aLoad p W S 32 v151) fun v152 =>
   bindV (aFieldAddr p 26 y3 6) fun v153 =>
   bindV (aLoad p W S 23 v153) fun v154 =>
   bindV (aIndexAddr p 23 v154 y7) fun v155 =>
   bindV (aLoad p W S 32 v155) fun v156 =>
   bindV (aBin p .neq 32 v152 v156) fun v157 =>
   condK v157
    (
     some (.ret, ⟨#[y0, y1, y2, y3, (.bool false), y5, y6, y7, y8, y9, y10, y11, y12, y13, y14, y15, y16, y17, y18, y19, y20, y21, y22, y23, y24, y25, y26, y27, y28, y29, y30, y31, y32, y33, y34, y35, y36, y37, y38, y39, y40, y41, y42, y43, y44, y45, y46, y47, y48, y49, y50, y51, y52, y53, y54, y55, y56, y57, y58, y59, y60, y61, y62, y63, y64, y65, y66, y67, y68, y69, y70, y71, y72, y73, y74, y75, y76, y77, y78, y79, y80, y81, y82, y83, y84, y85, y86, y87, y88, y89, y90, y91, y92, y93, y94, y95, y96, y97, y98, y99, y100, y101, y102, y103, y104, y105, y106, y107, y108, y109, y110, y111, y112, y113, y114, y115, y116, y117, y118, y119, y120, y121, y122, y7, v145, v146, v147, v148, junk, junk, v149, v150, y7, v151, v152, v153, v154, y7, v155, v156, v157, y141, y142, y143, y144, y145, y146, y147, y148, y149, y150, y151, y152, y153, y154, y155, y156, y157, y158], []⟩, S)
    )
    (
     bindV (aBin p .add 3 y7 (.int .i64 1)) fun v158 =>
     l23_111010 W y0 y1 y2 y3 y5 y6 v158 y8 y9 y10 y11 y12 y13 y14 y15 y16 y17 y18 y19 y20 y21 y22 y23 y24 y25 y26 y27 y28 y29 y30 y31 y32 y33 y34 y35 y36 y37 y38 y39 y40 y41 y42 y43 y44 y45 y46 y47 y48 y49 y50 y51 y52 y53 y54 y55 y56 y57 y58 y59 y60 y61 y62 y63 y64 y65 y66 y67 y68 y69 y70 y71 y72 y73 y74 y75 y76 y77 y78 y79 y80 y81 y82 y83 y84 y85 y86 y87 y88 y89 y90 y91 y92 y93 y94 y95 y96 y97 y98 y99 y100 y101 y102 y103 y104 y105 y106 y107 y108 y109 y110 y111 y112 y113 y114 y115 y116 y117 y118 y119 y120 y121 y122 y141 y142 y143 y144 y145 y146 y147 y148 y149 y150 y151 y152 y153 y154 y155 y156 y157 y158 S
    )
  )
  (
   some (.exit 4, ⟨#[y0, y1, y2, y3, junk, y5, y6, y7, y8, y9, y10, y11, y12, y13, y14, y15, y16, y17, y18, y19, y20, y21, y22, y23, y24, y25, y26, y27, y28, y29, y30, y31, y32, y33, y34, y35, y36, y37, y38, y39, y40, y41, y42, y43, y44, y45, y46, y47, y48, y49, y50, y51, y52, y53, y54, y55, y56, y57, y58, y59, y60, y61, y62, y63, y64, y65, y66, y67, y68, y69, y70, y71, y72, y73, y74, y75, y76, y77, y78, y79, y80, y81, y82, y83, y84, y85, y86, y87, y88, y89, y90, y91, y92, y93, y94, y95, y96, y97, y98, y99, y100, y101, y102, y103, y104, y105, y106, y107, y108, y109, y110, y111, y112, y113, y114, y115, y116, y117, y118, y119, y120, y121, y122, y7, v145, v146, v147, v148, junk, junk, junk, junk, junk, junk, junk, junk, junk, junk, junk, junk, junk, y141, y142, y143, y144, y145, y146, y147, y148, y149, y150, y151, y152, y153, y154, y155, y156, y157, y158], []⟩, S)
  )
  := (round_eq ok23_111010 ⟨#[y0, y1, y2, y3, junk, y5, y6, y7, y8, y9, y10, y11, y12, y13, y14, y15, y16, y17, y18, y19, y20, y21, y22, y23, y24, y25, y26, y27, y28, y29, y30, y31, y32, y33, y34, y35, y36, y37, y38, y39, y40, y41, y42, y43, y44, y45, y46, y47, y48, y49, y50, y51, y52, y53, y54, y55, y56, y57, y58, y59, y60, y61, y62, y63, y64, y65, y66, y67, y68, y69, y70, y71, y72, y73, y74, y75, y76, y77, y78, y79, y80, y81, y82, y83, y84, y85, y86, y87, y88, y89, y90, y91, y92, y93, y94, y95, y96, y97, y98, y99, y100, y101, y102, y103, y104, y105, y106, y107, y108, y109, y110, y111, y112, y113, y114, y115, y116, y117, y118, y119, y120, y121, y122, junk, junk, junk, junk, junk, junk, junk, junk, junk, junk, junk, junk, junk, junk, junk, junk, junk, junk, y141, y142, y143, y144, y145, y146, y147, y148, y149, y150, y151, y152, y153, y154, y155, y156, y157, y158], []⟩ S).trans (by kernel_rfl)
theorem r23_1111010 (W : World) (y0 y1 y2 y3 y5 y6 y7 y8 y9 y10 y11 y12 y13 y14 y15 y16 y17 y18 y19 y20 y21 y22 y23 y24 y25 y26 y27 y28 y29 y30 y31 y32 y33 y34 y35 y36 y37 y38 y39 y40 y41 y42 y43 y44 y45 y46 y47 y48 y49 y50 y51 y52 y53 y54 y55 y56 y57 y58 y59 y60 y61 y62 y63 y64 y65 y66 y67 y68 y69 y70 y71 y72 y73 y74 y75 y76 y77 y78 y79 y80 y81 y82 y83 y84 y85 y86 y87 y88 y89 y90 y91 y92 y93 y94 y95 y96 y97 y98 y99 y100 y101 y102 y103 y104 y105 y106 y107 y108 y109 y110 y111 y112 y113 y114 y115 y116 y117 y118 y119 y120 y121 y122 y123 y124 y125 y126 y127 y128 y129 y130 y131 y132 y133 y134 y135 y136 y137 y138 y139 y140 : Value) (S : St) : l23_1111010 W y0 y1 y2 y3 y5 y6 y7 y8 y9 y10 y11 y12 y13 y14 y15 y16 y17 y18 y19 y20 y21 y22 y23 y24 y25 y26 y27 y28 y29 y30 y31 y32 y33 y34 y35 y36 y37 y38 y39 y40 y41 y42 y43 y44 y45 y46 y47 y48 y49 y50 y51 y52 y53 y54 y55 y56 y57 y58 y59 y60 y61 y62 y63 y64 y65 y66 y67 y68 y69 y70 y71 y72 y73 y74 y75 y76 y77 y78 y79 y80 y81 y82 y83 y84 y85 y86 y87 y88 y89 y90 y91 y92 y93 y94 y95 y96 y97 y98 y99 y100 y101 y102 y103 y104 y105 y106 y107 y108 y109 y110 y111 y112 y113 y114 y115 y116 y117 y118 y119 y120 y121 y122 y123 y124 y125 y126 y127 y128 y129 y130 y131 y132 y133 y134 y135 y136 y137 y138 y139 y140 S =
 bindV (aFieldAddr p 26 y2 7) fun v159 =>
 bindV (aLoad p W S 24 v159) fun v160 =>
 bindV (aLen p W S #[24] #[v160]) fun v161 =>
 bindV (aBin p .lss 3 y8 v161) fun v162 =>
 condK v162
  (
   bindV (aFieldAddr p 26 y2 7) fun v163 =>
   bindV (aLoad p W S 24 v163) fun v164 =>
   bindV (aIndexAddr p 24 v164 y8) fun v165 =>
   bindV (aLoad p W S 47 v165) fun v166 =>
   bindV (aFieldAddr p 26 y3 7) fun v167 =>
   bindV (aLoad p W S 24 v167) fun v168 =>
   bindV (aIndexAddr p 24 v168 y8) fun v169 =>
   bindV (aLoad p W S 47 v169) fun v170 =>
   bindV (aBin p .neq 47 v166 v170) fun v171 =>
   condK v171
    (
     some (.ret, ⟨#[y0, y1, y2, y3, (.bool false), y5, y6, y7, y8, y9, y10, y11, y12, y13, y14, y15, y16, y17, y18, y19, y20, y21, y22, y23, y24, y25, y26, y27, y28, y29, y30, y31, y32, y33, y34, y35, y36, y37, y38, y39, y40, y41, y42, y43, y44, y45, y46, y47, y48, y49, y50, y51, y52, y53, y54, y55, y56, y57, y58, y59, y60, y61, y62, y63, y64, y65, y66, y67, y68, y69, y70, y71, y72, y73, y74, y75, y76, y77, y78, y79, y80, y81, y82, y83, y84, y85, y86, y87, y88, y89, y90, y91, y92, y93, y94, y95, y96, y97, y98, y99, y100, y101, y102, y103, y104, y105, y106, y107, y108, y109, y110, y111, y112, y113, y114, y115, y116, y117, y118, y119, y120, y121, y122, y123, y124, y125, y126, y127, y128, y129, y130, y131, y132, y133, y134, y135, y136, y137, y138, y139, y140, y8, v159, v160, v161, v162, junk, junk, v163, v164, y8, v165, v166, v167, v168, y8, v169, v170, v171], []⟩, S)
    )
    (
     bindV (aBin p .add 3 y8 (.int .i64 1)) fun v172 =>
     l23_1111010 W y0 y1 y2 y3 y5 y6 y7 v172 y9 y10 y11 y12 y13 y14 y15 y16 y17 y18 y19 y20 y21 y22 y23 y24 y25 y26 y27 y28 y29 y30 y31 y32 y33 y34 y35 y36 y37 y38 y39 y40 y41 y42 y43 y44 y45 y46 y47 y48 y49 y50 y51 y52 y53 y54 y55 y56 y57 y58 y59 y60 y61 y62 y63 y64 y65 y66 y67 y68 y69 y70 y71 y72 y73 y74 y75 y76 y77 y78 y79 y80 y81 y82 y83 y84 y85 y86 y87 y88 y89 y90 y91 y92 y93 y94 y95 y96 y97 y98 y99 y100 y101 y102 y103 y104 y105 y106 y107 y108 y109 y110 y111 y112 y113 y114 y115 y116 y117 y118 y119 y120 y121 y122 y123 y124 y125 y126 y127 y128 y129 y130 y131 y132 y133 y134 y135 y136 y137 y138 y139 y140 S
    )
  )
  (
   some (.exit 6, ⟨#[y0, y1, y2, y3, junk, y5, y6, y7, y8, y9, y10, y11, y12, y13, y14, y15, y16, y17, y18, y19, y20, y21, y22, y23, y24, y25, y26, y27, y28, y29, y30, y31, y32, y33, y34, y35, y36, y37, y38, y39, y40, y41, y42, y43, y44, y45, y46, y47, y48, y49, y50, y51, y52, y53, y54, y55, y56, y57, y58, y59, y60, y61, y62, y63, y64, y65, y66, y67, y68, y69, y70, y71, y72, y73, y74, y75, y76, y77, y78, y79, y80, y81, y82, y83, y84, y85, y86, y87, y88, y89, y90, y91, y92, y93, y94, y95, y96, y97, y98, y99, y100, y101, y102, y103, y104, y105, y106, y107, y108, y109, y110, y111, y112, y113, y114, y115, y116, y117, y118, y119, y120, y121, y122, y123, y124, y125, y126, y127, y128, y129, y130, y131, y132, y133, y134, y135, y136, y137, y138, y139, y140, y8, v159, v160, v161, v162, junk, junk, junk, junk, junk, junk, junk, junk, junk, junk, junk, junk, junk], []⟩, S)
  )
  := (round_eq ok23_1111010 ⟨#[y0, y1, y2, y3, junk, y5, y6, y7, y8, y9, y10, y11, y12, y13, y14, y15, y16, y17, y18, y19, y20, y21, y22, y23, y24, y25, y26, y27, y28, y29, y30, y31, y32, y33, y34, y35, y36, y37, y38, y39, y40, y41, y42, y43, y44, y45, y46, y47, y48, y49, y50, y51, y52, y53, y54, y55, y56, y57, y58, y59, y60, y61, y62, y63, y64, y65, y66, y67, y68, y69, y70, y71, y72, y73, y74, y75, y76, y77, y78, y79, y80, y81, y82, y83, y84, y85, y86, y87, y88, y89, y90, y91, y92, y93, y94, y95, y96, y97, y98, y99, y100, y101, y102, y103, y104, y105, y106, y107, y108, y109, y110, y111, y112, y113, y114, y115, y116, y117, y118, y119, y120, y121, y122, y123, y124, y125, y126, y127, y128, y129, y130, y131, y132, y133, y134, y135, y136, y137, y138, y139, y140, junk, junk, junk, junk, junk, junk, junk, junk, junk, junk, junk, junk, junk, junk, junk, junk, junk, junk], []⟩ S).trans (by kernel_rfl)
theorem k23_11010_0 (W : World) (y0 y1 y2 y3 y4 y5 y6 y7 y8 y9 y10 y11 y12 y13 y14 y15 y16 y17 y18 y19 y20 y21 y22 y23 y24 y25 y26 y27 y28 y29 y30 y31 y32 y33 y34 y35 y36 y37 y38 y39 y40 y41 y42 y43 y44 y45 y46 y47 y48 y49 y50 y51 y52 y53 y54 y55 y56 y57 y58 y59 y60 y61 y62 y63 y64 y65 y66 y67 y68 y69 y70 y71 y72 y73 y74 y75 y76 y77 y78 y79 y80 y81 y82 y83 y84 y85 y86 y87 y88 y89 y90 y91 y92 y93 y94 y95 y96 y97 y98 y99 y100 y101 y102 y103 y104 y105 y106 y107 y108 y109 y110 y111 y112 y113 y114 y115 y116 y117 y118 y119 y120 y121 y122 y123 y124 y125 y126 y127 y128 y129 y130 y131 y132 y133 y134 y135 y136 y137 y138 y139 y140 y141 y142 y143 y144 y145 y146 y147 y148 y149 y150 y151 y152 y153 y154 y155 y156 y157 y158 : Value) (S : St) : kc W c23 [1, 1, 0, 1, 0] f23 (.exit 0) ⟨#[y0, y1, y2, y3, y4, y5, y6, y7, y8, y9, y10, y11, y12, y13, y14, y15, y16, y17, y18, y19, y20, y21, y22, y23, y24, y25, y26, y27, y28, y29, y30, y31, y32, y33, y34, y35, y36, y37, y38, y39, y40, y41, y42, y43, y44, y45, y46, y47, y48, y49, y50, y51, y52, y53, y54, y55, y56, y57, y58, y59, y60, y61, y62, y63, y64, y65, y66, y67, y68, y69, y70, y71, y72, y73, y74, y75, y76, y77, y78, y79, y80, y81, y82, y83, y84, y85, y86, y87, y88, y89, y90, y91, y92, y93, y94, y95, y96, y97, y98, y99, y100, y101, y102, y103, y104, y105, y106, y107, y108, y109, y110, y111, y112, y113, y114, y115, y116, y117, y118, y119, y120, y121, y122, y123, y124, y125, y126, y127, y128, y129, y130, y131, y132, y133, y134, y135, y136, y137, y138, y139, y140, y141, y142, y143, y144, y145, y146, y147, y148, y149, y150, y151, y152, y153, y154, y155, y156, y157, y158], []⟩ S =
 bindO (l23_111010 W y0 y1 y2 y3 y5 y6 (.int .i64 0) y8 y9 y10 y11 y12 y13 y14 y15 y16 y17 y18 y19 y20 y21 y22 y23 y24 y25 y26 y27 y28 y29 y30 y31 y32 y33 y34 y35 y36 y37 y38 y39 y40 y41 y42 y43 y44 y45 y46 y47 y48 y49 y50 y51 y52 y53 y54 y55 y56 y57 y58 y59 y60 y61 y62 y63 y64 y65 y66 y67 y68 y69 y70 y71 y72 y73 y74 y75 y76 y77 y78 y79 y80 y81 y82 y83 y84 y85 y86 y87 y88 y89 y90 y91 y92 y93 y94 y95 y96 y97 y98 y99 y100 y101 y102 y103 y104 y105 y106 y107 y108 y109 y110 y111 y112 y113 y114 y115 y116 y117 y118 y119 y120 y121 y122 y141 y142 y143 y144 y145 y146 y147 y148 y149 y150 y151 y152 y153 y154 y155 y156 y157 y158 S) (kc W c23 [1, 1, 1, 0, 1, 0] f23)
  := by kernel_rfl
theorem k23_11010_ret (W : World) (y0 y1 y2 y3 y4 y5 y6 y7 y8 y9 y10 y11 y12 y13 y14 y15 y16 y17 y18 y19 y20 y21 y22 y23 y24 y25 y26 y27 y28 y29 y30 y31 y32 y33 y34 y35 y36 y37 y38 y39 y40 y41 y42 y43 y44 y45 y46 y47 y48 y49 y50 y51 y52 y53 y54 y55 y56 y57 y58 y59 y60 y61 y62 y63 y64 y65 y66 y67 y68 y69 y70 y71 y72 y73 y74 y75 y76 y77 y78 y79 y80 y81 y82 y83 y84 y85 y86 y87 y88 y89 y90 y91 y92 y93 y94 y95 y96 y97 y98 y99 y100 y101 y102 y103 y104 y105 y106 y107 y108 y109 y110 y111 y112 y113 y114 y115 y116 y117 y118 y119 y120 y121 y122 y123 y124 y125 y126 y127 y128 y129 y130 y131 y132 y133 y134 y135 y136 y137 y138 y139 y140 y141 y142 y143 y144 y145 y146 y147 y148 y149 y150 y151 y152 y153 y154 y155 y156 y157 y158 : Value) (S : St) : kc W c23 [1, 1, 0, 1, 0] f23 (.ret) ⟨#[y0, y1, y2, y3, y4, y5, y6, y7, y8, y9, y10, y11, y12, y13, y14, y15, y16, y17, y18, y19, y20, y21, y22, y23, y24, y25, y26, y27, y28, y29, y30, y31, y32, y33, y34, y35, y36, y37, y38, y39, y40, y41, y42, y43, y44, y45, y46, y47, y48, y49, y50, y51, y52, y53, y54, y55, y56, y57, y58, y59, y60, y61, y62, y63, y64, y65, y66, y67, y68, y69, y70, y71, y72, y73, y74, y75, y76, y77, y78, y79, y80, y81, y82, y83, y84, y85, y86, y87, y88, y89, y90, y91, y92, y93, y94, y95, y96, y97, y98, y99, y100, y101, y102, y103, y104, y105, y106, y107, y108, y109, y110, y111, y112, y113, y114, y115, y116, y117, y118, y119, y120, y121, y122, y123, y124, y125, y126, y127, y128, y129, y130, y131, y132, y133, y134, y135, y136, y137, y138, y139, y140, y141, y142, y143, y144, y145, y146, y147, y148, y149, y150, y151, y152, y153, y154, y155, y156, y157, y158], []⟩ S =
 some (y4, S)
  := by kernel_rfl
theorem k23_110100100110_2 (W : World) (y0 y1 y2 y3 y4 y5 y6 y7 y8 y9 y10 y11 y12 y13 y14 y15 y16 y17 y18 y19 y20 y21 y22 y23 y24 y25 y26 y27 y28 y29 y30 y31 y32 y33 y34 y35 y36 y37 y38 y39 y40 y41 y42 y43 y44 y45 y46 y47 y48 y49 y50 y51 y52 y53 y54 y55 y56 y57 y58 y59 y60 y61 y62 y63 y64 y65 y66 y67 y68 y69 y70 y71 y72 y73 y74 y75 y76 y77 y78 y79 y80 y81 y82 y83 y84 y85 y86 y87 y88 y89 y90 y91 y92 y93 y94 y95 y96 y97 y98 y99 y100 y101 y102 y103 y104 y105 y106 y107 y108 y109 y110 y111 y112 y113 y114 y115 y116 y117 y118 y119 y120 y121 y122 y123 y124 y125 y126 y127 y128 y129 y130 y131 y132 y133 y134 y135 y136 y137 y138 y139 y140 y141 y142 y143 y144 y145 y146 y147 y148 y149 y150 y151 y152 y153 y154 y155 y156 y157 y158 : Value) (S : St) : rk W c23_11010 [1, 0, 0, 1, 1, 0] (.exit 2) ⟨#[y0, y1, y2, y3, y4, y5, y6, y7, y8, y9, y10, y11, y12, y13, y14, y15, y16, y17, y18, y19, y20, y21, y22, y23, y24, y25, y26, y27, y28, y29, y30, y31, y32, y33, y34, y35, y36, y37, y38, y39, y40, y41, y42, y43, y44, y45, y46, y47, y48, y49, y50, y51, y52, y53, y54, y55, y56, y57, y58, y59, y60, y61, y62, y63, y64, y65, y66, y67, y68, y69, y70, y71, y72, y73, y74, y75, y76, y77, y78, y79, y80, y81, y82, y83, y84, y85, y86, y87, y88, y89, y90, y91, y92, y93, y94, y95, y96, y97, y98, y99, y100, y101, y102, y103, y104, y105, y106, y107, y108, y109, y110, y111, y112, y113, y114, y115, y116, y117, y118, y119, y120, y121, y122, y123, y124, y125, y126, y127, y128, y129, y130, y131, y132, y133, y134, y135, y136, y137, y138, y139, y140, y141, y142, y143, y144, y145, y146, y147, y148, y149, y150, y151, y152, y153, y154, y155, y156, y157, y158], []⟩ S =
 bindV (aBin p .add 3 y5 (.int .i64 1)) fun v1 =>
 l23_11010 W y0 y1 y2 y3 v1 y7 y8 y9 y10 y11 y12 y13 y14 y15 y16 y17 y18 y19 y20 y21 y22 y23 y24 y25 y26 y27 y28 y29 y30 y31 y32 y33 y34 y35 y36 y37 y38 y39 y40 y41 y42 y43 y44 y45 y46 y47 y48 y49 y50 y51 y52 y53 y54 y55 y56 y57 y58 y59 y60 y61 y62 y63 y64 y65 y66 y67 y68 y69 y70 y71 y72 y73 y74 y75 y123 y124 y125 y126 y127 y128 y129 y130 y131 y132 y133 y134 y135 y136 y137 y138 y139 y140 y141 y142 y143 y144 y145 y146 y147 y148 y149 y150 y151 y152 y153 y154 y155 y156 y157 y158 S
  := by kernel_rfl
theorem k23_110100100110_ret (W : World) (y0 y1 y2 y3 y4 y5 y6 y7 y8 y9 y10 y11 y12 y13 y14 y15 y16 y17 y18 y19 y20 y21 y22 y23 y24 y25 y26 y27 y28 y29 y30 y31 y32 y33 y34 y35 y36 y37 y38 y39 y40 y41 y42 y43 y44 y45 y46 y47 y48 y49 y50 y51 y52 y53 y54 y55 y56 y57 y58 y59 y60 y61 y62 y63 y64 y65 y66 y67 y68 y69 y70 y71 y72 y73 y74 y75 y76 y77 y78 y79 y80 y81 y82 y83 y84 y85 y86 y87 y88 y89 y90 y91 y92 y93 y94 y95 y96 y97 y98 y99 y100 y101 y102 y103 y104 y105 y106 y107 y108 y109 y110 y111 y112 y113 y114 y115 y116 y117 y118 y119 y120 y121 y122 y123 y124 y125 y126 y127 y128 y129 y130 y131 y132 y133 y134 y135 y136 y137 y138 y139 y140 y141 y142 y143 y144 y145 y146 y147 y148 y149 y150 y151 y152 y153 y154 y155 y156 y157 y158 : Value) (S : St) : rk W c23_11010 [1, 0, 0, 1, 1, 0] (.ret) ⟨#[y0, y1, y2, y3, y4, y5, y6, y7, y8, y9, y10, y11, y12, y13, y14, y15, y16, y17, y18, y19, y20, y21, y22, y23, y24, y25, y26, y27, y28, y29, y30, y31, y32, y33, y34, y35, y36, y37, y38, y39, y40, y41, y42, y43, y44, y45, y46, y47, y48, y49, y50, y51, y52, y53, y54, y55, y56, y57, y58, y59, y60, y61, y62, y63, y64, y65, y66, y67, y68, y69, y70, y71, y72, y73, y74, y75, y76, y77, y78, y79, y80, y81, y82, y83, y84, y85, y86, y87, y88, y89, y90, y91, y92, y93, y94, y95, y96, y97, y98, y99, y100, y101, y102, y103, y104, y105, y106, y107, y108, y109, y110, y111, y112, y113, y114, y115, y116, y117, y118, y119, y120, y121, y122, y123, y124, y125, y126, y127, y128, y129, y130, y131, y132, y133, y134, y135, y136, y137, y138, y139, y140, y141, y142, y143, y144, y145, y146, y147, y148, y149, y150, y151, y152, y153, y154, y155, y156, y157, y158], []⟩ S =
 some (.ret, ⟨#[y0, y1, y2, y3, y4, y5, y6, y7, y8, y9, y10, y11, y12, y13, y14, y15, y16, y17, y18, y19, y20, y21, y22, y23, y24, y25, y26, y27, y28, y29, y30, y31, y32, y33, y34, y35, y36, y37, y38, y39, y40, y41, y42, y43, y44, y45, y46, y47, y48, y49, y50, y51, y52, y53, y54, y55, y56, y57, y58, y59, y60, y61, y62, y63, y64, y65, y66, y67, y68, y69, y70, y71, y72, y73, y74, y75, y76, y77, y78, y79, y80, y81, y82, y83, y84, y85, y86, y87, y88, y89, y90, y91, y92, y93, y94, y95, y96, y97, y98, y99, y100, y101, y102, y103, y104, y105, y106, y107, y108, y109, y110, y111, y112, y113, y114, y115, y116, y117, y118, y119, y120, y121, y122, y123, y124, y125, y126, y127, y128, y129, y130, y131, y132, y133, y134, y135, y136, y137, y138, y139, y140, y141, y142, y143, y144, y145, y146, y147, y148, y149, y150, y151, y152, y153, y154, y155, y156, y157, y158], []⟩, S)
  := by kernel_rfl
theorem k23_111010_4 (W : World) (y0 y1 y2 y3 y4 y5 y6 y7 y8 y9 y10 y11 y12 y13 y14 y15 y16 y17 y18 y19 y20 y21 y22 y23 y24 y25 y26 y27 y28 y29 y30 y31 y32 y33 y34 y35 y36 y37 y38 y39 y40 y41 y42 y43 y44 y45 y46 y47 y48 y49 y50 y51 y52 y53 y54 y55 y56 y57 y58 y59 y60 y61 y62 y63 y64 y65 y66 y67 y68 y69 y70 y71 y72 y73 y74 y75 y76 y77 y78 y79 y80 y81 y82 y83 y84 y85 y86 y87 y88 y89 y90 y91 y92 y93 y94 y95 y96 y97 y98 y99 y100 y101 y102 y103 y104 y105 y106 y107 y108 y109 y110 y111 y112 y113 y114 y115 y116 y117 y118 y119 y120 y121 y122 y123 y124 y125 y126 y127 y128 y129 y130 y131 y132 y133 y134 y135 y136 y137 y138 y139 y140 y141 y142 y143 y144 y145 y146 y147 y148 y149 y150 y151 y152 y153 y154 y155 y156 y157 y158 : Value) (S : St) : kc W c23 [1, 1, 1, 0, 1, 0] f23 (.exit 4) ⟨#[y0, y1, y2, y3, y4, y5, y6, y7, y8, y9, y10, y11, y12, y13, y14, y15, y16, y17, y18, y19, y20, y21, y22, y23, y24, y25, y26, y27, y28, y29, y30, y31, y32, y33, y34, y35, y36, y37, y38, y39, y40, y41, y42, y43, y44, y45, y46, y47, y48, y49, y50, y51, y52, y53, y54, y55, y56, y57, y58, y59, y60, y61, y62, y63, y64, y65, y66, y67, y68, y69, y70, y71, y72, y73, y74, y75, y76, y77, y78, y79, y80, y81, y82, y83, y84, y85, y86, y87, y88, y89, y90, y91, y92, y93, y94, y95, y96, y97, y98, y99, y100, y101, y102, y103, y104, y105, y106, y107, y108, y109, y110, y111, y112, y113, y114, y115, y116, y117, y118, y119, y120, y121, y122, y123, y124, y125, y126, y127, y128, y129, y130, y131, y132, y133, y134, y135, y136, y137, y138, y139, y140, y141, y142, y143, y144, y145, y146, y147, y148, y149, y150, y151, y152, y153, y154, y155, y156, y157, y158], []⟩ S =
 bindO (l23_1111010 W y0 y1 y2 y3 y5 y6 y7 (.int .i64 0) y9 y10 y11 y12 y13 y14 y15 y16 y17 y18 y19 y20 y21 y22 y23 y24 y25 y26 y27 y28 y29 y30 y31 y32 y33 y34 y35 y36 y37 y38 y39 y40 y41 y42 y43 y44 y45 y46 y47 y48 y49 y50 y51 y52 y53 y54 y55 y56 y57 y58 y59 y60 y61 y62 y63 y64 y65 y66 y67 y68 y69 y70 y71 y72 y73 y74 y75 y76 y77 y78 y79 y80 y81 y82 y83 y84 y85 y86 y87 y88 y89 y90 y91 y92 y93 y94 y95 y96 y97 y98 y99 y100 y101 y102 y103 y104 y105 y106 y107 y108 y109 y110 y111 y112 y113 y114 y115 y116 y117 y118 y119 y120 y121 y122 y123 y124 y125 y126 y127 y128 y129 y130 y131 y132 y133 y134 y135 y136 y137 y138 y139 y140 S) (kc W c23 [1, 1, 1, 1, 0, 1, 0] f23)
  := by kernel_rfl
theorem k23_111010_ret (W : World) (y0 y1 y2 y3 y4 y5 y6 y7 y8 y9 y10 y11 y12 y13 y14 y15 y16 y17 y18 y19 y20 y21 y22 y23 y24 y25 y26 y27 y28 y29 y30 y31 y32 y33 y34 y35 y36 y37 y38 y39 y40 y41 y42 y43 y44 y45 y46 y47 y48 y49 y50 y51 y52 y53 y54 y55 y56 y57 y58 y59 y60 y61 y62 y63 y64 y65 y66 y67 y68 y69 y70 y71 y72 y73 y74 y75 y76 y77 y78 y79 y80 y81 y82 y83 y84 y85 y86 y87 y88 y89 y90 y91 y92 y93 y94 y95 y96 y97 y98 y99 y100 y101 y102 y103 y104 y105 y106 y107 y108 y109 y110 y111 y112 y113 y114 y115 y116 y117 y118 y119 y120 y121 y122 y123 y124 y125 y126 y127 y128 y129 y130 y131 y132 y133 y134 y135 y136 y137 y138 y139 y140 y141 y142 y143 y144 y145 y146 y147 y148 y149 y150 y151 y152 y153 y154 y155 y156 y157 y158 : Value) (S : St) : kc W c23 [1, 1, 1, 0, 1, 0] f23 (.ret) ⟨#[y0, y1, y2, y3, y4, y5, y6, y7, y8, y9, y10, y11, y12, y13, y14, y15, y16, y17, y18, y19, y20, y21, y22, y23, y24, y25, y26, y27, y28, y29, y30, y31, y32, y33, y34, y35, y36, y37, y38, y39, y40, y41, y42, y43, y44, y45, y46, y47, y48, y49, y50, y51, y52, y53, y54, y55, y56, y57, y58, y59, y60, y61, y62, y63, y64, y65, y66, y67, y68, y69, y70, y71, y72, y73, y74, y75, y76, y77, y78, y79, y80, y81, y82, y83, y84, y85, y86, y87, y88, y89, y90, y91, y92, y93, y94, y95, y96, y97, y98, y99, y100, y101, y102, y103, y104, y105, y106, y107, y108, y109, y110, y111, y112, y113, y114, y115, y116, y117, y118, y119, y120, y121, y122, y123, y124, y125, y126, y127, y128, y129, y130, y131, y132, y133, y134, y135, y136, y137, y138, y139, y140, y141, y142, y143, y144, y145, y146, y147, y148, y149, y150, y151, y152, y153, y154, y155, y156, y157, y158], []⟩ S =
 some (y4, S)
  := by kernel_rfl
theorem k23_1111010_6 (W : World) (y0 y1 y2 y3 y4 y5 y6 y7 y8 y9 y10 y11 y12 y13 y14 y15 y16 y17 y18 y19 y20 y21 y22 y23 y24 y25 y26 y27 y28 y29 y30 y31 y32 y33 y34 y35 y36 y37 y38 y39 y40 y41 y42 y43 y44 y45 y46 y47 y48 y49 y50 y51 y52 y53 y54 y55 y56 y57 y58 y59 y60 y61 y62 y63 y64 y65 y66 y67 y68 y69 y70 y71 y72 y73 y74 y75 y76 y77 y78 y79 y80 y81 y82 y83 y84 y85 y86 y87 y88 y89 y90 y91 y92 y93 y94 y95 y96 y97 y98 y99 y100 y101 y102 y103 y104 y105 y106 y107 y108 y109 y110 y111 y112 y113 y114 y115 y116 y117 y118 y119 y120 y121 y122 y123 y124 y125 y126 y127 y128 y129 y130 y131 y132 y133 y134 y135 y136 y137 y138 y139 y140 y141 y142 y143 y144 y145 y146 y147 y148 y149 y150 y151 y152 y153 y154 y155 y156 y157 y158 : Value) (S : St) : kc W c23 [1, 1, 1, 1, 0, 1, 0] f23 (.exit 6) ⟨#[y0, y1, y2, y3, y4, y5, y6, y7, y8, y9, y10, y11, y12, y13, y14, y15, y16, y17, y18, y19, y20, y21, y22, y23, y24, y25, y26, y27, y28, y29, y30, y31, y32, y33, y34, y35, y36, y37, y38, y39, y40, y41, y42, y43, y44, y45, y46, y47, y48, y49, y50, y51, y52, y53, y54, y55, y56, y57, y58, y59, y60, y61, y62, y63, y64, y65, y66, y67, y68, y69, y70, y71, y72, y73, y74, y75, y76, y77, y78, y79, y80, y81, y82, y83, y84, y85, y86, y87, y88, y89, y90, y91, y92, y93, y94, y95, y96, y97, y98, y99, y100, y101, y102, y103, y104, y105, y106, y107, y108, y109, y110, y111, y112, y113, y114, y115, y116, y117, y118, y119, y120, y121, y122, y123, y124, y125, y126, y127, y128, y129, y130, y131, y132, y133, y134, y135, y136, y137, y138, y139, y140, y141, y142, y143, y144, y145, y146, y147, y148, y149, y150, y151, y152, y153, y154, y155, y156, y157, y158], []⟩ S =
 some ((.bool true), S)
  := by kernel_rfl
theorem k23_1111010_ret (W : World) (y0 y1 y2 y3 y4 y5 y6 y7 y8 y9 y10 y11 y12 y13 y14 y15 y16 y17 y18 y19 y20 y21 y22 y23 y24 y25 y26 y27 y28 y29 y30 y31 y32 y33 y34 y35 y36 y37 y38 y39 y40 y41 y42 y43 y44 y45 y46 y47 y48 y49 y50 y51 y52 y53 y54 y55 y56 y57 y58 y59 y60 y61 y62 y63 y64 y65 y66 y67 y68 y69 y70 y71 y72 y73 y74 y75 y76 y77 y78 y79 y80 y81 y82 y83 y84 y85 y86 y87 y88 y89 y90 y91 y92 y93 y94 y95 y96 y97 y98 y99 y100 y101 y102 y103 y104 y105 y106 y107 y108 y109 y110 y111 y112 y113 y114 y115 y116 y117 y118 y119 y120 y121 y122 y123 y124 y125 y126 y127 y128 y129 y130 y131 y132 y133 y134 y135 y136 y137 y138 y139 y140 y141 y142 y143 y144 y145 y146 y147 y148 y149 y150 y151 y152 y153 y154 y155 y156 y157 y158 : Value) (S : St) : kc W c23 [1, 1, 1, 1, 0, 1, 0] f23 (.ret) ⟨#[y0, y1, y2, y3, y4, y5, y6, y7, y8, y9, y10, y11, y12, y13, y14, y15, y16, y17, y18, y19, y20, y21, y22, y23, y24, y25, y26, y27, y28, y29, y30, y31, y32, y33, y34, y35, y36, y37, y38, y39, y40, y41, y42, y43, y44, y45, y46, y47, y48, y49, y50, y51, y52, y53, y54, y55, y56, y57, y58, y59, y60, y61, y62, y63, y64, y65, y66, y67, y68, y69, y70, y71, y72, y73, y74, y75, y76, y77, y78, y79, y80, y81, y82, y83, y84, y85, y86, y87, y88, y89, y90, y91, y92, y93, y94, y95, y96, y97, y98, y99, y100, y101, y102, y103, y104, y105, y106, y107, y108, y109, y110, y111, y112, y113, y114, y115, y116, y117, y118, y119, y120, y121, y122, y123, y124, y125, y126, y127, y128, y129, y130, y131, y132, y133, y134, y135, y136, y137, y138, y139, y140, y141, y142, y143, y144, y145, y146, y147, y148, y149, y150, y151, y152, y153, y154, y155, y156, y157, y158], []⟩ S =
 some (y4, S)
  := by kernel_rfl
end Go.Proofs.Ytogcdgdnjinjkaa.F
end
section
namespace Go.Proofs.Ytogcdgdnjinjkaa.F
open Go Go.Proofs.Ytogcdgdnjinjkaa.E
set_option linter.unusedVariables false
set_option maxRecDepth 100000
noncomputable abbrev f24 := Try.f24
noncomputable def c24 : Code := bodyOf f24
theorem ok24 : codeOk p c24 = true := by kernel_rfl
noncomputable def c24_11111010 : Code := codeAt [1, 1, 1, 1, 1, 0, 1, 0, 0] c24
theorem ok24_11111010 : codeOk p c24_11111010 = true := by kernel_rfl
noncomputable def l24_11111010 (W : World) (y0 y1 y2 y3 y4 y5 y6 y7 y8 y9 y10 y11 y12 y13 y14 y15 y38 y39 y40 y41 y42 y43 y44 y45 y46 y47 y48 y49 y50 y51 y52 y53 y54 y55 y56 y57 y58 y59 y60 y61 y62 y63 y64 y65 y66 y67 y68 y69 y70 y71 y72 : Value) (S : St) : Out := la W c24_11111010 ⟨#[y0, y1, y2, y3, y4, y5, y6, y7, y8, y9, y10, y11, y12, y13, y14, y15, junk, junk, junk, junk, junk, junk, junk, junk, junk, junk, junk, junk, junk, junk, junk, junk, junk, junk, junk, junk, junk, junk, y38, y39, y40, y41, y42, y43, y44, y45, y46, y47, y48, y49, y50, y51, y52, y53, y54, y55, y56, y57, y58, y59, y60, y61, y62, y63, y64, y65, y66, y67, y68, y69, y70, y71, y72], []⟩ S
noncomputable def c24_111111010 : Code := codeAt [1, 1, 1, 1, 1, 1, 0, 1, 0, 0] c24
theorem ok24_111111010 : codeOk p c24_111111010 = true := by kernel_rfl
noncomputable def l24_111111010 (W : World) (y0 y1 y2 y3 y4 y5 y6 y7 y8 y10 y11 y12 y13 y14 y15 y16 y17 y18 y19 y20 y21 y22 y23 y24 y25 y26 y27 y28 y29 y30 y31 y32 y33 y34 y35 y36 y37 y72 : Value) (S : St) : Out := la W c24_111111010 ⟨#[y0, y1, y2, y3, y4, y5, y6, y7, y8, junk, y10, y11, y12, y13, y14, y15, y16, y17, y18, y19, y20, y21, y22, y23, y24, y25, y26, y27, y28, y29, y30, y31, y32, y33, y34, y35, y36, y37, junk, junk, junk, junk, junk, junk, junk, junk, junk, junk, junk, junk, junk, junk, junk, junk, junk, junk, junk, junk, junk, junk, junk, junk, junk, junk, junk, junk, junk, junk, junk, junk, junk, junk, y72], []⟩ S
theorem eq24 (W : World) (x0 x1 : Value) (S : St) : cw W 24 #[x0, x1] S =
 bindS (aAlloc p S 26) fun v1 S2 =>
 bindV (aBin p .lss 3 x0 (.int .i64 1)) fun v3 =>
 condK v3
  (
   bindV (aBin p .gtr 3 (.int .i64 1) (.int .i64 6)) fun v4 =>
   condK v4
    (
     bindV (aBuild p 26 #[(0, (.int .i64 6)), (1, (.int .i64 2000000)), (2, (.int .i64 2000)), (3, (.int .i64 1000)), (4, (.int .i64 500)), (8, (.int .i64 8))]) fun v5 =>
     bindS (aAlloc p S2 26) fun v6 S7 =>
     bindT (aStore p S7 26 v6 v5) fun S8 =>
     bindO (l24_11111010 W (.int .i64 6) x1 undef undef v1 v6 (.slice none 0 0) (.int .i64 0) undef undef x0 v3 (.int .i64 1) v4 (.int .i64 6) v5 undef undef undef undef undef undef undef undef undef undef undef undef undef undef undef undef undef undef undef undef undef undef undef undef undef undef undef undef undef undef undef undef undef undef undef S8) (kc W c24 [1, 1, 1, 1, 1, 0, 1, 0] f24)
    )
    (
     bindV (aBuild p 26 #[(0, (.int .i64 1)), (1, (.int .i64 2000000)), (2, (.int .i64 2000)), (3, (.int .i64 1000)), (4, (.int .i64 500)), (8, (.int .i64 8))]) fun v9 =>
     bindS (aAlloc p S2 26) fun v10 S11 =>
     bindT (aStore p S11 26 v10 v9) fun S12 =>
     bindO (l24_11111010 W (.int .i64 1) x1 undef undef v1 v10 (.slice none 0 0) (.int .i64 0) undef undef x0 v3 (.int .i64 1) v4 (.int .i64 1) v9 undef undef undef undef undef undef undef undef undef undef undef undef undef undef undef undef undef undef undef undef undef undef undef undef undef undef undef undef undef undef undef undef undef undef undef S12) (kc W c24 [1, 1, 1, 1, 1, 0, 1, 0] f24)
    )
  )
  (
   bindV (aBin p .gtr 3 x0 (.int .i64 6)) fun v13 =>
   condK v13
    (
     bindV (aBuild p 26 #[(0, (.int .i64 6)), (1, (.int .i64 2000000)), (2, (.int .i64 2000)), (3, (.int .i64 1000)), (4, (.int .i64 500)), (8, (.int .i64 8))]) fun v14 =>
     bindS (aAlloc p S2 26) fun v15 S16 =>
     bindT (aStore p S16 26 v15 v14) fun S17 =>
     bindO (l24_11111010 W (.int .i64 6) x1 undef undef v1 v15 (.slice none 0 0) (.int .i64 0) undef undef x0 v3 x0 v13 (.int .i64 6) v14 undef undef undef undef undef undef undef undef undef undef undef undef undef undef undef undef undef undef undef undef undef undef undef undef undef undef undef undef undef undef undef undef undef undef undef S17) (kc W c24 [1, 1, 1, 1, 1, 0, 1, 0] f24)
    )
    (
     bindV (aBuild p 26 #[(0, x0), (1, (.int .i64 2000000)), (2, (.int .i64 2000)), (3, (.int .i64 1000)), (4, (.int .i64 500)), (8, (.int .i64 8))]) fun v18 =>
     bindS (aAlloc p S2 26) fun v19 S20 =>
     bindT (aStore p S20 26 v19 v18) fun S21 =>
     bindO (l24_11111010 W x0 x1 undef undef v1 v19 (.slice none 0 0) (.int .i64 0) undef undef x0 v3 x0 v13 x0 v18 undef undef undef undef undef undef undef undef undef undef undef undef undef undef undef undef undef undef undef undef undef undef undef undef undef undef undef undef undef undef undef undef undef undef undef S21) (kc W c24 [1, 1, 1, 1, 1, 0, 1, 0] f24)
    )
  )
  := (fn_eq Try.func24 rfl ok24 _ _).trans (by kernel_rfl)
theorem r24_11111010 (W : World) (y0 y1 y2 y3 y4 y5 y6 y7 y8 y9 y10 y11 y12 y13 y14 y15 y38 y39 y40 y41 y42 y43 y44 y45 y46 y47 y48 y49 y50 y51 y52 y53 y54 y55 y56 y57 y58 y59 y60 y61 y62 y63 y64 y65 y66 y67 y68 y69 y70 y71 y72 : Value) (S : St) : l24_11111010 W y0 y1 y2 y3 y4 y5 y6 y7 y8 y9 y10 y11 y12 y13 y14 y15 y38 y39 y40 y41 y42 y43 y44 y45 y46 y47 y48 y49 y50 y51 y52 y53 y54 y55 y56 y57 y58 y59 y60 y61 y62 y63 y64 y65 y66 y67 y68 y69 y70 y71 y72 S =
 bindV (aBin p .lss 3 y7 y0) fun v22 =>
 condK v22
  (
   bindV (aFieldAddr p 26 y5 5) fun v23 =>
   bindV (aLoad p W S 22 v23) fun v24 =>
   bindV (aBin p .add 3 y7 (.int .i64 1)) fun v25 =>
   bindV (aBin p .mul 3 (.int .i64 100) v25) fun v26 =>
   bindV (aBin p .add 3 y7 (.int .i64 1)) fun v27 =>
   bindV (aBin p .mul 3 (.int .i64 100) v27) fun v28 =>
   bindV (aBin p .add 3 v28 (.int .i64 50)) fun v29 =>
   bindS (aBuildSlice p S 45 2 #[(0, v26), (1, v29)]) fun v30 S31 =>
   bindS (aBuildSlice p S31 22 1 #[(0, v30)]) fun v32 S33 =>
   bindS (aBuiltin p W S33 .append #[22, 22] #[v24, v32]) fun v34 S35 =>
   bindV (aFieldAddr p 26 y5 5) fun v36 =>
   bindT (aStore p S35 22 v36 v34) fun S37 =>
   bindS (aBuildSlice p S37 57 1 #[(0, y7)]) fun v38 S39 =>
   bindS (aBuiltin p W S39 .append #[57, 57] #[y6, v38]) fun v40 S41 =>
   bindV (aBin p .add 3 y7 (.int .i64 1)) fun v42 =>
   l24_11111010 W y0 y1 y2 y3 y4 y5 v40 v42 y8 y9 y10 y11 y12 y13 y14 y15 y38 y39 y40 y41 y42 y43 y44 y45 y46 y47 y48 y49 y50 y51 y52 y53 y54 y55 y56 y57 y58 y59 y60 y61 y62 y63 y64 y65 y66 y67 y68 y69 y70 y71 y72 S41
  )
  (
   some (.exit 0, ⟨#[y0, y1, y2, y3, y4, y5, y6, y7, y8, y9, y10, y11, y12, y13, y14, y15, y7, y0, v22, junk, junk, junk, junk, junk, junk, junk, junk, junk, junk, junk, junk, junk, junk, junk, junk, junk, junk, junk, y38, y39, y40, y41, y42, y43, y44, y45, y46, y47, y48, y49, y50, y51, y52, y53, y54, y55, y56, y57, y58, y59, y60, y61, y62, y63, y64, y65, y66, y67, y68, y69, y70, y71, y72], []⟩, S)
  )
  := (round_eq ok24_11111010 ⟨#[y0, y1, y2, y3, y4, y5, y6, y7, y8, y9, y10, y11, y12, y13, y14, y15, junk, junk, junk, junk, junk, junk, junk, junk, junk, junk, junk, junk, junk, junk, junk, junk, junk, junk, junk, junk, junk, junk, y38, y39, y40, y41, y42, y43, y44, y45, y46, y47, y48, y49, y50, y51, y52, y53, y54, y55, y56, y57, y58, y59, y60, y61, y62, y63, y64, y65, y66, y67, y68, y69, y70, y71, y72], []⟩ S).trans (by kernel_rfl)
theorem r24_111111010 (W : World) (y0 y1 y2 y3 y4 y5 y6 y7 y8 y10 y11 y12 y13 y14 y15 y16 y17 y18 y19 y20 y21 y22 y23 y24 y25 y26 y27 y28 y29 y30 y31 y32 y33 y34 y35 y36 y37 y72 : Value) (S : St) : l24_111111010 W y0 y1 y2 y3 y4 y5 y6 y7 y8 y10 y11 y12 y13 y14 y15 y16 y17 y18 y19 y20 y21 y22 y23 y24 y25 y26 y27 y28 y29 y30 y31 y32 y33 y34 y35 y36 y37 y72 S =
 bindV (aBin p .lss 3 y8 y1) fun v43 =>
 gV v43 true fun g44 =>
 gV v43 true fun g45 =>
 bindV (wO g45 (aBin p .lss 3 (wV g44 y8) (.int .i64 16))) fun v46 =>
 bindV (aPick v43 v46 (.bool false)) fun v47 =>
 gV v47 true fun g48 =>
 gV v47 true fun g49 =>
 bindV (wO g49 (aBin p .gtr 3 (wV g48 y0) (.int .i64 1))) fun v50 =>
 bindV (aPick v47 v50 (.bool false)) fun v51 =>
 condK v51
  (
   bindV (aBin p .rem 3 y8 y0) fun v52 =>
   bindV (aFieldAddr p 26 y5 6) fun v53 =>
   bindV (aLoad p W S 23 v53) fun v54 =>
   bindS (qS true S fun S_ => aCall p (cw W) S_ (.func (.func 42) #[] #[]) #[y6]) fun v55 S56 =>
   bindS (qS true S56 fun S_ => aBuildSlice p S_ 57 1 #[(0, v52)]) fun v57 S58 =>
   bindS (qS true S58 fun S_ => aCall p (cw W) S_ (.func (.func 42) #[] #[]) #[v57]) fun v59 S60 =>
   bindV (aBin p .sub 30 v55 v59) fun v61 =>
   bindV (aBin p .mul 3 (.int .i64 50000) y8) fun v62 =>
   bindV (aBin p .add 3 (.int .i64 10000) v62) fun v63 =>
   bindV (aBin p .add 3 (.int .i64 64) y8) fun v64 =>
   bindV (aBuild p 32 #[(0, v52), (1, v61), (2, v63), (3, v64)]) fun v65 =>
   bindS (qS true S60 fun S_ => aBuildSlice p S_ 23 1 #[(0, v65)]) fun v66 S67 =>
   bindS (aBuiltin p W S67 .append #[23, 23] #[v54, v66]) fun v68 S69 =>
   bindV (aFieldAddr p 26 y5 6) fun v70 =>
   bindT (aStore p S69 23 v70 v68) fun S71 =>
   bindV (aBin p .add 3 y8 (.int .i64 1)) fun v72 =>
   l24_111111010 W y0 y1 y2 y3 y4 y5 y6 y7 v72 y10 y11 y12 y13 y14 y15 y16 y17 y18 y19 y20 y21 y22 y23 y24 y25 y26 y27 y28 y29 y30 y31 y32 y33 y34 y35 y36 y37 y72 S71
  )
  (
   some (.exit 2, ⟨#[y0, y1, y2, y3, y4, y5, y6, y7, y8, junk, y10, y11, y12, y13, y14, y15, y16, y17, y18, y19, y20, y21, y22, y23, y24, y25, y26, y27, y28, y29, y30, y31, y32, y33, y34, y35, y36, y37, y8, y1, v43, v43, (wV g44 y8), v46, v47, v47, (wV g48 y0), v50, v51, junk, junk, junk, junk, junk, junk, junk, junk, junk, junk, junk, junk, junk, junk, junk, junk, junk, junk, junk, junk, junk, junk, junk, y72], []⟩, S)
  )
  := (round_eq ok24_111111010 ⟨#[y0, y1, y2, y3, y4, y5, y6, y7, y8, junk, y10, y11, y12, y13, y14, y15, y16, y17, y18, y19, y20, y21, y22, y23, y24, y25, y26, y27, y28, y29, y30, y31, y32, y33, y34, y35, y36, y37, junk, junk, junk, junk, junk, junk, junk, junk, junk, junk, junk, junk, junk, junk, junk, junk, junk, junk, junk, junk, junk, junk, junk, junk, junk, junk, junk, junk, junk, junk, junk, junk, junk, junk, y72], []⟩ S).trans (by kernel_rfl)
theorem k24_11111010_0 (W : World) (y0 y1 y2 y3 y4 y5 y6 y7 y8 y9 y10 y11 y12 y13 y14 y15 y16 y17 y18 y19 y20 y21 y22 y23 y24 y25 y26 y27 y28 y29 y30 y31 y32 y33 y34 y35 y36 y37 y38 y39 y40 y41 y42 y43 y44 y45 y46 y47 y48 y49 y50 y51 y52 y53 y54 y55 y56 y57 y58 y59 y60 y61 y62 y63 y64 y65 y66 y67 y68 y69 y70 y71 y72 : Value) (S : St) : kc W c24 [1, 1, 1, 1, 1, 0, 1, 0] f24 (.exit 0) ⟨#[y0, y1, y2, y3, y4, y5, y6, y7, y8, y9, y10, y11, y12, y13, y14, y15, y16, y17, y18, y19, y20, y21, y22, y23, y24, y25, y26, y27, y28, y29, y30, y31, y32, y33, y34, y35, y36, y37, y38, y39, y40, y41, y42, y43, y44, y45, y46, y47, y48, y49, y50, y51, y52, y53, y54, y55, y56, y57, y58, y59, y60, y61, y62, y63, y64, y65, y66, y67, y68, y69, y70, y71, y72], []⟩ S =
 bindO (l24_111111010 W y0 y1 y2 y3 y4 y5 y6 y7 (.int .i64 0) y10 y11 y12 y13 y14 y15 y16 y17 y18 y19 y20 y21 y22 y23 y24 y25 y26 y27 y28 y29 y30 y31 y32 y33 y34 y35 y36 y37 y72 S) (kc W c24 [1, 1, 1, 1, 1, 1, 0, 1, 0] f24)
  := by kernel_rfl
theorem k24_111111010_2 (W : World) (y0 y1 y2 y3 y4 y5 y6 y7 y8 y9 y10 y11 y12 y13 y14 y15 y16 y17 y18 y19 y20 y21 y22 y23 y24 y25 y26 y27 y28 y29 y30 y31 y32 y33 y34 y35 y36 y37 y38 y39 y40 y41 y42 y43 y44 y45 y46 y47 y48 y49 y50 y51 y52 y53 y54 y55 y56 y57 y58 y59 y60 y61 y62 y63 y64 y65 y66 y67 y68 y69 y70 y71 y72 : Value) (S : St) : kc W c24 [1, 1, 1, 1, 1, 1, 0, 1, 0] f24 (.exit 2) ⟨#[y0, y1, y2, y3, y4, y5, y6, y7, y8, y9, y10, y11, y12, y13, y14, y15, y16, y17, y18, y19, y20, y21, y22, y23, y24, y25, y26, y27, y28, y29, y30, y31, y32, y33, y34, y35, y36, y37, y38, y39, y40, y41, y42, y43, y44, y45, y46, y47, y48, y49, y50, y51, y52, y53, y54, y55, y56, y57, y58, y59, y60, y61, y62, y63, y64, y65, y66, y67, y68, y69, y70, y71, y72], []⟩ S =
 bindV (aLoad p W S 26 y5) fun v1 =>
 bindT (aStore p S 26 y4 v1) fun S2 =>
 bindV (aLoad p W S2 26 y4) fun v3 =>
 some (v3, S2)
  := by kernel_rfl
noncomputable abbrev f25 := Try.f25
noncomputable def c25 : Code := bodyOf f25
theorem ok25 : codeOk p c25 = true := by kernel_rfl
theorem eq25 (W : World) (x0 x1 : Value) (S : St) : cw W 25 #[x0, x1] S =
 gcR #[x0, x1] S (
 bindS (aBox S x0) fun v1 S2 =>
 bindS (aBox S2 x1) fun v3 S4 =>
 bindV (aFieldAddr p 26 v1 0) fun v5 =>
 bindV (aLoad p W S4 3 v5) fun v6 =>
 bindV (aFieldAddr p 26 v3 0) fun v7 =>
 bindV (aLoad p W S4 3 v7) fun v8 =>
 bindV (aBin p .eql 3 v6 v8) fun v9 =>
 gV v9 true fun g10 =>
 bindV (wO g10 (aFieldAddr p 26 v1 1)) fun v11 =>
 gV v9 true fun g12 =>
 bindV (wO g12 (aLoad p W S4 2 v11)) fun v13 =>
 gV v9 true fun g14 =>
 bindV (wO g14 (aFieldAddr p 26 v3 1)) fun v15 =>
 gV v9 true fun g16 =>
 bindV (wO g16 (aLoad p W S4 2 v15)) fun v17 =>
 gV v9 true fun g18 =>
 bindV (wO g18 (aBin p .eql 2 v13 v17)) fun v19 =>
 bindV (aPick v9 v19 (.bool false)) fun v20 =>
 gV v20 true fun g21 =>
 bindV (wO g21 (aFieldAddr p 26 v1 2)) fun v22 =>
 gV v20 true fun g23 =>
 bindV (wO g23 (aLoad p W S4 2 v22)) fun v24 =>
 gV v20 true fun g25 =>
 bindV (wO g25 (aFieldAddr p 26 v3 2)) fun v26 =>
 gV v20 true fun g27 =>
 bindV (wO g27 (aLoad p W S4 2 v26)) fun v28 =>
 gV v20 true fun g29 =>
 bindV (wO g29 (aBin p .eql 2 v24 v28)) fun v30 =>
 bindV (aPick v20 v30 (.bool false)) fun v31 =>
 gV v31 true fun g32 =>
 bindV (wO g32 (aFieldAddr p 26 v1 3)) fun v33 =>
 gV v31 true fun g34 =>
 bindV (wO g34 (aLoad p W S4 2 v33)) fun v35 =>
 gV v31 true fun g36 =>
 bindV (wO g36 (aFieldAddr p 26 v3 3)) fun v37 =>
 gV v31 true fun g38 =>
 bindV (wO g38 (aLoad p W S4 2 v37)) fun v39 =>
 gV v31 true fun g40 =>
 bindV (wO g40 (aBin p .eql 2 v35 v39)) fun v41 =>
 bindV (aPick v31 v41 (.bool false)) fun v42 =>
 gV v42 true fun g43 =>
 bindV (wO g43 (aFieldAddr p 26 v1 4)) fun v44 =>
 gV v42 true fun g45 =>
 bindV (wO g45 (aLoad p W S4 2 v44)) fun v46 =>
 gV v42 true fun g47 =>
 bindV (wO g47 (aFieldAddr p 26 v3 4)) fun v48 =>
 gV v42 true fun g49 =>
 bindV (wO g49 (aLoad p W S4 2 v48)) fun v50 =>
 gV v42 true fun g51 =>
 bindV (wO g51 (aBin p .eql 2 v46 v50)) fun v52 =>
 bindV (aPick v42 v52 (.bool false)) fun v53 =>
 gV v53 true fun g54 =>
 bindV (wO g54 (aFieldAddr p 26 v1 8)) fun v55 =>
 gV v53 true fun g56 =>
 bindV (wO g56 (aLoad p W S4 3 v55)) fun v57 =>
 gV v53 true fun g58 =>
 bindV (wO g58 (aFieldAddr p 26 v3 8)) fun v59 =>
 gV v53 true fun g60 =>
 bindV (wO g60 (aLoad p W S4 3 v59)) fun v61 =>
 gV v53 true fun g62 =>
 bindV (wO g62 (aBin p .eql 3 v57 v61)) fun v63 =>
 bindV (aPick v53 v63 (.bool false)) fun v64 =>
 gV v64 true fun g65 =>
 bindV (wO g65 (aFieldAddr p 26 v1 5)) fun v66 =>
 gV v64 true fun g67 =>
 bindV (wO g67 (aLoad p W S4 22 v66)) fun v68 =>
 gV v64 true fun g69 =>
 bindV (wO g69 (aFieldAddr p 26 v3 5)) fun v70 =>
 gV v64 true fun g71 =>
 bindV (wO g71 (aLoad p W S4 22 v70)) fun v72 =>
 gV v64 true fun g73 =>
 bindS (wS g73 S4 (aCall p (cw W) S4 (.func (.func 43) #[] #[]) #[v68, v72, (.func (.func 44) #[] #[])])) fun v74 S75 =>
 bindV (aPick v64 v74 (.bool false)) fun v76 =>
 gV v76 true fun g77 =>
 bindV (wO g77 (aFieldAddr p 26 v1 6)) fun v78 =>
 gV v76 true fun g79 =>
 bindV (wO g79 (aLoad p W S75 23 v78)) fun v80 =>
 gV v76 true fun g81 =>
 bindV (wO g81 (aFieldAddr p 26 v3 6)) fun v82 =>
 gV v76 true fun g83 =>
 bindV (wO g83 (aLoad p W S75 23 v82)) fun v84 =>
 gV v76 true fun g85 =>
 bindS (wS g85 S75 (aCall p (cw W) S75 (.func (.func 45) #[] #[]) #[v80, v84])) fun v86 S87 =>
 bindV (aPick v76 v86 (.bool false)) fun v88 =>
 gV v88 true fun g89 =>
 bindV (wO g89 (aFieldAddr p 26 v1 7)) fun v90 =>
 gV v88 true fun g91 =>
 bindV (wO g91 (aLoad p W S87 24 v90)) fun v92 =>
 gV v88 true fun g93 =>
 bindV (wO g93 (aFieldAddr p 26 v3 7)) fun v94 =>
 gV v88 true fun g95 =>
 bindV (wO g95 (aLoad p W S87 24 v94)) fun v96 =>
 gV v88 true fun g97 =>
 bindS (wS g97 S87 (aCall p (cw W) S87 (.func (.func 46) #[] #[]) #[v92, v96])) fun v98 S99 =>
 bindV (aPick v88 v98 (.bool false)) fun v100 =>
 some (v100, S99)
 )
  := (fn_eq Try.func25 rfl ok25 _ _).trans (by kernel_rfl)
noncomputable abbrev f26 := Try.f26
noncomputable def c26 : Code := bodyOf f26
theorem ok26 : codeOk p c26 = true := by kernel_rfl
noncomputable def c26_11010 : Code := codeAt [1, 1, 0, 1, 0, 0] c26
theorem ok26_11010 : codeOk p c26_11010 = true := by kernel_rfl
noncomputable def l26_11010 (W : World) (y0 y1 y2 y3 y4 y6 y7 y8 y9 y10 y11 y12 y13 y23 y24 y25 y26 y27 y28 y29 y30 y31 y32 y33 : Value) (S : St) : Out := la W c26_11010 ⟨#[y0, y1, y2, y3, y4, junk, y6, y7, y8, y9, y10, y11, y12, y13, junk, junk, junk, junk, junk, junk, junk, junk, junk, y23, y24, y25, y26, y27, y28, y29, y30, y31, y32, y33], []⟩ S
theorem eq26 (W : World) (x0 : Value) (S : St) : cw W 26 #[x0] S =
 bindS (aBox S x0) fun v1 S2 =>
 bindS (aAlloc p S2 26) fun v3 S4 =>
 bindV (aFieldAddr p 26 v1 5) fun v5 =>
 bindV (aLoad p W S4 22 v5) fun v6 =>
 bindV (aLen p W S4 #[22] #[v6]) fun v7 =>
 bindS (aMakeSlice p S4 22 (.int .i64 0) v7) fun v8 S9 =>
 bindV (aFieldAddr p 26 v1 5) fun v10 =>
 bindV (aLoad p W S9 22 v10) fun v11 =>
 bindV (aLen p W S9 #[22] #[v11]) fun v12 =>
 bindO (l26_11010 W x0 v1 v3 v8 undef v5 v6 v7 v8 v10 v11 v12 (.int .i64 0) undef undef undef undef undef undef undef undef undef undef undef S9) (kc W c26 [1, 1, 0, 1, 0] f26)
  := (fn_eq Try.func26 rfl ok26 _ _).trans (by kernel_rfl)
theorem r26_11010 (W : World) (y0 y1 y2 y3 y4 y6 y7 y8 y9 y10 y11 y12 y13 y23 y24 y25 y26 y27 y28 y29 y30 y31 y32 y33 : Value) (S : St) : l26_11010 W y0 y1 y2 y3 y4 y6 y7 y8 y9 y10 y11 y12 y13 y23 y24 y25 y26 y27 y28 y29 y30 y31 y32 y33 S =
 bindV (aBin p .lss 3 y13 y12) fun v13 =>
 condK v13
  (
   bindV (aIndexAddr p 22 y11 y13) fun v14 =>
   bindV (aLoad p W S 45 v14) fun v15 =>
   bindS (aCall p (cw W) S (.func (.func 47) #[] #[]) #[v15]) fun v16 S17 =>
   bindS (aBuildSlice p S17 22 1 #[(0, v16)]) fun v18 S19 =>
   bindS (aBuiltin p W S19 .append #[22, 22] #[y3, v18]) fun v20 S21 =>
   bindV (aBin p .add 3 y13 (.int .i64 1)) fun v22 =>
   l26_11010 W y0 y1 y2 v20 y4 y6 y7 y8 y9 y10 y11 y12 v22 y23 y24 y25 y26 y27 y28 y29 y30 y31 y32 y33 S21
  )
  (
   some (.exit 0, ⟨#[y0, y1, y2, y3, y4, junk, y6, y7, y8, y9, y10, y11, y12, y13, v13, junk, junk, junk, junk, junk, junk, junk, junk, y23, y24, y25, y26, y27, y28, y29, y30, y31, y32, y33], []⟩, S)
  )
  := (round_eq ok26_11010 ⟨#[y0, y1, y2, y3, y4, junk, y6, y7, y8, y9, y10, y11, y12, y13, junk, junk, junk, junk, junk, junk, junk, junk, junk, y23, y24, y25, y26, y27, y28, y29, y30, y31, y32, y33], []⟩ S).trans (by kernel_rfl)
theorem k26_11010_0 (W : World) (y0 y1 y2 y3 y4 y5 y6 y7 y8 y9 y10 y11 y12 y13 y14 y15 y16 y17 y18 y19 y20 y21 y22 y23 y24 y25 y26 y27 y28 y29 y30 y31 y32 y33 : Value) (S : St) : kc W c26 [1, 1, 0, 1, 0] f26 (.exit 0) ⟨#[y0, y1, y2, y3, y4, y5, y6, y7, y8, y9, y10, y11, y12, y13, y14, y15, y16, y17, y18, y19, y20, y21, y22, y23, y24, y25, y26, y27, y28, y29, y30, y31, y32, y33], []⟩ S =
 bindV (aFieldAddr p 26 y1 6) fun v1 =>
 bindV (aLoad p W S 23 v1) fun v2 =>
 bindS (qS true S fun S_ => aCall p (cw W) S_ (.func (.func 48) #[] #[]) #[v2]) fun v3 S4 =>
 bindV (aFieldAddr p 26 y1 7) fun v5 =>
 bindV (aLoad p W S4 24 v5) fun v6 =>
 bindS (aCall p (cw W) S4 (.func (.func 49) #[] #[]) #[v6]) fun v7 S8 =>
 bindV (aFieldAddr p 26 y1 5) fun v9 =>
 bindT (aStore p S8 22 v9 y3) fun S10 =>
 bindV (aFieldAddr p 26 y1 6) fun v11 =>
 bindT (aStore p S10 23 v11 v3) fun S12 =>
 bindV (aFieldAddr p 26 y1 7) fun v13 =>
 bindT (aStore p S12 24 v13 v7) fun S14 =>
 bindV (aLoad p W S14 26 y1) fun v15 =>
 bindT (aStore p S14 26 y2 v15) fun S16 =>
 bindV (aLoad p W S16 26 y2) fun v17 =>
 some (v17, S16)
  := by kernel_rfl
noncomputable abbrev f27 := Try.f27
noncomputable def c27 : Code := bodyOf f27
theorem ok27 : codeOk p c27 = true := by kernel_rfl
noncomputable def c27_111010 : Code := codeAt [1, 1, 1, 0, 1, 0, 0] c27
theorem ok27_111010 : codeOk p c27_111010 = true := by kernel_rfl
noncomputable def l27_111010 (W : World) (y0 y1 y2 y3 y4 y7 y8 y9 y10 y11 y12 y47 y48 y49 y50 y51 y52 y53 y54 y55 y56 y57 y58 y59 y60 y61 y62 y63 y64 y65 y66 y67 y68 y69 y70 y71 y72 y73 y74 y75 y76 y77 y78 y79 y80 y81 : Value) (S : St) : Out := la W c27_111010 ⟨#[y0, y1, y2, y3, y4, junk, junk, y7, y8, y9, y10, y11, y12, junk, junk, junk, junk, junk, junk, junk, junk, junk, junk, junk, junk, junk, junk, junk, junk, junk, junk, junk, junk, junk, junk, junk, junk, junk, junk, junk, junk, junk, junk, junk, junk, junk, junk, y47, y48, y49, y50, y51, y52, y53, y54, y55, y56, y57, y58, y59, y60, y61, y62, y63, y64, y65, y66, y67, y68, y69, y70, y71, y72, y73, y74, y75, y76, y77, y78, y79, y80, y81], []⟩ S
noncomputable def c27_11101001001010 : Code := codeAt [1, 1, 1, 0, 1, 0, 0, 1, 0, 0, 1, 0, 1, 0, 0] c27
theorem ok27_11101001001010 : codeOk p c27_11101001001010 = true := by kernel_rfl
noncomputable def l27_11101001001010 (W : World) (y0 y1 y2 y3 y4 y5 y6 y7 y8 y9 y10 y11 y12 y13 y14 y15 y16 y17 y18 y19 y41 y42 y43 y44 y45 y46 y47 y48 y49 y50 y51 y52 y53 y54 y55 y56 y57 y58 y59 y60 y61 y62 y63 y64 y65 y66 y67 y68 y69 y70 y71 y72 y73 y74 y75 y76 y77 y78 y79 y80 y81 : Value) (S : St) : Out := la W c27_11101001001010 ⟨#[y0, y1, y2, y3, y4, y5, y6, y7, y8, y9, y10, y11, y12, y13, y14, y15, y16, y17, y18, y19, junk, junk, junk, junk, junk, junk, junk, junk, junk, junk, junk, junk, junk, junk, junk, junk, junk, junk, junk, junk, junk, y41, y42, y43, y44, y45, y46, y47, y48, y49, y50, y51, y52, y53, y54, y55, y56, y57, y58, y59, y60, y61, y62, y63, y64, y65, y66, y67, y68, y69, y70, y71, y72, y73, y74, y75, y76, y77, y78, y79, y80, y81], []⟩ S
noncomputable def c27_1111010 : Code := codeAt [1, 1, 1, 1, 0, 1, 0, 0] c27
theorem ok27_1111010 : codeOk p c27_1111010 = true := by kernel_rfl
noncomputable def l27_1111010 (W : World) (y0 y1 y2 y3 y4 y5 y6 y7 y8 y9 y10 y11 y12 y13 y14 y15 y16 y17 y18 y19 y20 y21 y22 y23 y24 y25 y26 y27 y28 y29 y30 y31 y32 y33 y34 y35 y36 y37 y38 y39 y40 y41 y42 y43 y44 y45 y46 y64 y65 y66 y67 y68 y69 y70 y71 y72 y73 y74 y75 y76 y77 y78 y79 y80 y81 : Value) (S : St) : Out := la W c27_1111010 ⟨#[y0, y1, y2, y3, y4, y5, y6, y7, y8, y9, y10, y11, y12, y13, y14, y15, y16, y17, y18, y19, y20, y21, y22, y23, y24, y25, y26, y27, y28, y29, y30, y31, y32, y33, y34, y35, y36, y37, y38, y39, y40, y41, y42, y43, y44, y45, y46, junk, junk, junk, junk, junk, junk, junk, junk, junk, junk, junk, junk, junk, junk, junk, junk, junk, y64, y65, y66, y67, y68, y69, y70, y71, y72, y73, y74, y75, y76, y77, y78, y79, y80, y81], []⟩ S
noncomputable def c27_11111010 : Code := codeAt [1, 1, 1, 1, 1, 0, 1, 0, 0] c27
theorem ok27_11111010 : codeOk p c27_11111010 = true := by kernel_rfl
noncomputable def l27_11111010 (W : World) (y0 y1 y2 y3 y4 y5 y6 y7 y8 y9 y10 y11 y12 y13 y14 y15 y16 y17 y18 y19 y20 y21 y22 y23 y24 y25 y26 y27 y28 y29 y30 y31 y32 y33 y34 y35 y36 y37 y38 y39 y40 y41 y42 y43 y44 y45 y46 y47 y48 y49 y50 y51 y52 y53 y54 y55 y56 y57 y58 y59 y60 y61 y62 y63 y81 : Value) (S : St) : Out := la W c27_11111010 ⟨#[y0, y1, y2, y3, y4, y5, y6, y7, y8, y9, y10, y11, y12, y13, y14, y15, y16, y17, y18, y19, y20, y21, y22, y23, y24, y25, y26, y27, y28, y29, y30, y31, y32, y33, y34, y35, y36, y37, y38, y39, y40, y41, y42, y43, y44, y45, y46, y47, y48, y49, y50, y51, y52, y53, y54, y55, y56, y57, y58, y59, y60, y61, y62, y63, junk, junk, junk, junk, junk, junk, junk, junk, junk, junk, junk, junk, junk, junk, junk, junk, junk, y81], []⟩ S
theorem eq27 (W : World) (x0 : Value) (S : St) : cw W 27 #[x0] S =
 bindS (aBox S x0) fun v1 S2 =>
 bindS (aAlloc p S2 26) fun v3 S4 =>
 bindV (aLoad p W S4 26 v1) fun v5 =>
 bindS (aAlloc p S4 26) fun v6 S7 =>
 bindT (aStore p S7 26 v6 v5) fun S8 =>
 bindV (aFieldAddr p 26 v6 5) fun v9 =>
 bindT (aStore p S8 22 v9 (.slice none 0 0)) fun S10 =>
 bindV (aFieldAddr p 26 v6 6) fun v11 =>
 bindT (aStore p S10 23 v11 (.slice none 0 0)) fun S12 =>
 bindV (aFieldAddr p 26 v6 7) fun v13 =>
 bindT (aStore p S12 24 v13 (.slice none 0 0)) fun S14 =>
 bindO (l27_111010 W x0 v1 v3 v6 (.int .i64 0) undef undef v5 v9 v11 v13 undef undef undef undef undef undef undef undef undef undef undef undef undef undef undef undef undef undef undef undef undef undef undef undef undef undef undef undef undef undef undef undef undef undef undef S14) (kc W c27 [1, 1, 1, 0, 1, 0] f27)
  := (fn_eq Try.func27 rfl ok27 _ _).trans (by kernel_rfl)
theorem r27_111010 (W : World) (y0 y1 y2 y3 y4 y7 y8 y9 y10 y11 y12 y47 y48 y49 y50 y51 y52 y53 y54 y55 y56 y57 y58 y59 y60 y61 y62 y63 y64 y65 y66 y67 y68 y69 y70 y71 y72 y73 y74 y75 y76 y77 y78 y79 y80 y81 : Value) (S : St) : l27_111010 W y0 y1 y2 y3 y4 y7 y8 y9 y10 y11 y12 y47 y48 y49 y50 y51 y52 y53 y54 y55 y56 y57 y58 y59 y60 y61 y62 y63 y64 y65 y66 y67 y68 y69 y70 y71 y72 y73 y74 y75 y76 y77 y78 y79 y80 y81 S =
 bindV (aFieldAddr p 26 y1 5) fun v15 =>
 bindV (aLoad p W S 22 v15) fun v16 =>
 bindV (aLen p W S #[22] #[v16]) fun v17 =>
 bindV (aBin p .lss 3 y4 v17) fun v18 =>
 condK v18
  (
   bindO (l27_11101001001010 W y0 y1 y2 y3 y4 (.slice none 0 0) (.int .i64 0) y7 y8 y9 y10 y11 y12 y4 v15 v16 v17 v18 junk junk junk junk junk junk junk junk y47 y48 y49 y50 y51 y52 y53 y54 y55 y56 y57 y58 y59 y60 y61 y62 y63 y64 y65 y66 y67 y68 y69 y70 y71 y72 y73 y74 y75 y76 y77 y78 y79 y80 y81 S) (rk W c27_111010 [1, 0, 0, 1, 0, 1, 0])
  )
  (
   some (.exit 0, ⟨#[y0, y1, y2, y3, y4, junk, junk, y7, y8, y9, y10, y11, y12, y4, v15, v16, v17, v18, junk, junk, junk, junk, junk, junk, junk, junk, junk, junk, junk, junk, junk, junk, junk, junk, junk, junk, junk, junk, junk, junk, junk, junk, junk, junk, junk, junk, junk, y47, y48, y49, y50, y51, y52, y53, y54, y55, y56, y57, y58, y59, y60, y61, y62, y63, y64, y65, y66, y67, y68, y69, y70, y71, y72, y73, y74, y75, y76, y77, y78, y79, y80, y81], []⟩, S)
  )
  := (round_eq ok27_111010 ⟨#[y0, y1, y2, y3, y4, junk, junk, y7, y8, y9, y10, y11, y12, junk, junk, junk, junk, junk, junk, junk, junk, junk, junk, junk, junk, junk, junk, junk, junk, junk, junk, junk, junk, junk, junk, junk, junk, junk, junk, junk, junk, junk, junk, junk, junk, junk, junk, y47, y48, y49, y50, y51, y52, y53, y54, y55, y56, y57, y58, y59, y60, y61, y62, y63, y64, y65, y66, y67, y68, y69, y70, y71, y72, y73, y74, y75, y76, y77, y78, y79, y80, y81], []⟩ S).trans (by kernel_rfl)
theorem r27_11101001001010 (W : World) (y0 y1 y2 y3 y4 y5 y6 y7 y8 y9 y10 y11 y12 y13 y14 y15 y16 y17 y18 y19 y41 y42 y43 y44 y45 y46 y47 y48 y49 y50 y51 y52 y53 y54 y55 y56 y57 y58 y59 y60 y61 y62 y63 y64 y65 y66 y67 y68 y69 y70 y71 y72 y73 y74 y75 y76 y77 y78 y79 y80 y81 : Value) (S : St) : l27_11101001001010 W y0 y1 y2 y3 y4 y5 y6 y7 y8 y9 y10 y11 y12 y13 y14 y15 y16 y17 y18 y19 y41 y42 y43 y44 y45 y46 y47 y48 y49 y50 y51 y52 y53 y54 y55 y56 y57 y58 y59 y60 y61 y62 y63 y64 y65 y66 y67 y68 y69 y70 y71 y72 y73 y74 y75 y76 y77 y78 y79 y80 y81 S =
 bindV (aFieldAddr p 26 y1 5) fun v19 =>
 bindV (aLoad p W S 22 v19) fun v20 =>
 bindV (aIndexAddr p 22 v20 y4) fun v21 =>
 bindV (aLoad p W S 45 v21) fun v22 =>
 bindV (aLen p W S #[45] #[v22]) fun v23 =>
 bindV (aBin p .lss 3 y6 v23) fun v24 =>
 condK v24
  (
   bindV (aFieldAddr p 26 y1 5) fun v25 =>
   bindV (aLoad p W S 22 v25) fun v26 =>
   bindV (aIndexAddr p 22 v26 y4) fun v27 =>
   bindV (aLoad p W S 45 v27) fun v28 =>
   bindV (aIndexAddr p 45 v28 y6) fun v29 =>
   bindV (aLoad p W S 2 v29) fun v30 =>
   bindS (aBuildSlice p S 45 1 #[(0, v30)]) fun v31 S32 =>
   bindS (aBuiltin p W S32 .append #[45, 45] #[y5, v31]) fun v33 S34 =>
   bindV (aBin p .add 3 y6 (.int .i64 1)) fun v35 =>
   l27_11101001001010 W y0 y1 y2 y3 y4 v33 v35 y7 y8 y9 y10 y11 y12 y13 y14 y15 y16 y17 y18 y19 y41 y42 y43 y44 y45 y46 y47 y48 y49 y50 y51 y52 y53 y54 y55 y56 y57 y58 y59 y60 y61 y62 y63 y64 y65 y66 y67 y68 y69 y70 y71 y72 y73 y74 y75 y76 y77 y78 y79 y80 y81 S34
  )
  (
   some (.exit 2, ⟨#[y0, y1, y2, y3, y4, y5, y6, y7, y8, y9, y10, y11, y12, y13, y14, y15, y16, y17, y18, y19, y6, v19, v20, y4, v21, v22, v23, v24, junk, junk, junk, junk, junk, junk, junk, junk, junk, junk, junk, junk, junk, y41, y42, y43, y44, y45, y46, y47, y48, y49, y50, y51, y52, y53, y54, y55, y56, y57, y58, y59, y60, y61, y62, y63, y64, y65, y66, y67, y68, y69, y70, y71, y72, y73, y74, y75, y76, y77, y78, y79, y80, y81], []⟩, S)
  )
  := (round_eq ok27_11101001001010 ⟨#[y0, y1, y2, y3, y4, y5, y6, y7, y8, y9, y10, y11, y12, y13, y14, y15, y16, y17, y18, y19, junk, junk, junk, junk, junk, junk, junk, junk, junk, junk, junk, junk, junk, junk, junk, junk, junk, junk, junk, junk, junk, y41, y42, y43, y44, y45, y46, y47, y48, y49, y50, y51, y52, y53, y54, y55, y56, y57, y58, y59, y60, y61, y62, y63, y64, y65, y66, y67, y68, y69, y70, y71, y72, y73, y74, y75, y76, y77, y78, y79, y80, y81], []⟩ S).trans (by kernel_rfl)
theorem r27_1111010 (W : World) (y0 y1 y2 y3 y4 y5 y6 y7 y8 y9 y10 y11 y12 y13 y14 y15 y16 y17 y18 y19 y20 y21 y22 y23 y24 y25 y26 y27 y28 y29 y30 y31 y32 y33 y34 y35 y36 y37 y38 y39 y40 y41 y42 y43 y44 y45 y46 y64 y65 y66 y67 y68 y69 y70 y71 y72 y73 y74 y75 y76 y77 y78 y79 y80 y81 : Value) (S : St) : l27_1111010 W y0 y1 y2 y3 y4 y5 y6 y7 y8 y9 y10 y11 y12 y13 y14 y15 y16 y17 y18 y19 y20 y21 y22 y23 y24 y25 y26 y27 y28 y29 y30 y31 y32 y33 y34 y35 y36 y37 y38 y39 y40 y41 y42 y43 y44 y45 y46 y64 y65 y66 y67 y68 y69 y70 y71 y72 y73 y74 y75 y76 y77 y78 y79 y80 y81 S =
 bindV (aFieldAddr p 26 y1 6) fun v36 =>
 bindV (aLoad p W S 23 v36) fun v37 =>
 bindV (aLen p W S #[23] #[v37]) fun v38 =>
 bindV (aBin p .lss 3 y7 v38) fun v39 =>
 condK v39
  (
   bindV (aFieldAddr p 26 y3 6) fun v40 =>
   bindV (aLoad p W S 23 v40) fun v41 =>
   bindV (aFieldAddr p 26 y1 6) fun v42 =>
   bindV (aLoad p W S 23 v42) fun v43 =>
   bindV (aIndexAddr p 23 v43 y7) fun v44 =>
   bindV (aLoad p W S 32 v44) fun v45 =>
   bindS (qS true S fun S_ => aBuildSlice p S_ 23 1 #[(0, v45)]) fun v46 S47 =>
   bindS (aBuiltin p W S47 .append #[23, 23] #[v41, v46]) fun v48 S49 =>
   bindV (aFieldAddr p 26 y3 6) fun v50 =>
   bindT (aStore p S49 23 v50 v48) fun S51 =>
   bindV (aBin p .add 3 y7 (.int .i64 1)) fun v52 =>
   l27_1111010 W y0 y1 y2 y3 y4 y5 y6 v52 y8 y9 y10 y11 y12 y13 y14 y15 y16 y17 y18 y19 y20 y21 y22 y23 y24 y25 y26 y27 y28 y29 y30 y31 y32 y33 y34 y35 y36 y37 y38 y39 y40 y41 y42 y43 y44 y45 y46 y64 y65 y66 y67 y68 y69 y70 y71 y72 y73 y74 y75 y76 y77 y78 y79 y80 y81 S51
  )
  (
   some (.exit 4, ⟨#[y0, y1, y2, y3, y4, y5, y6, y7, y8, y9, y10, y11, y12, y13, y14, y15, y16, y17, y18, y19, y20, y21, y22, y23, y24, y25, y26, y27, y28, y29, y30, y31, y32, y33, y34, y35, y36, y37, y38, y39, y40, y41, y42, y43, y44, y45, y46, y7, v36, v37, v38, v39, junk, junk, junk, junk, junk, junk, junk, junk, junk, junk, junk, junk, y64, y65, y66, y67, y68, y69, y70, y71, y72, y73, y74, y75, y76, y77, y78, y79, y80, y81], []⟩, S)
  )
  := (round_eq ok27_1111010 ⟨#[y0, y1, y2, y3, y4, y5, y6, y7, y8, y9, y10, y11, y12, y13, y14, y15, y16, y17, y18, y19, y20, y21, y22, y23, y24, y25, y26, y27, y28, y29, y30, y31, y32, y33, y34, y35, y36, y37, y38, y39, y40, y41, y42, y43, y44, y45, y46, junk, junk, junk, junk, junk, junk, junk, junk, junk, junk, junk, junk, junk, junk, junk, junk, junk, y64, y65, y66, y67, y68, y69, y70, y71, y72, y73, y74, y75, y76, y77, y78, y79, y80, y81], []⟩ S).trans (by kernel_rfl)
theorem r27_11111010 (W : World) (y0 y1 y2 y3 y4 y5 y6 y7 y8 y9 y10 y11 y12 y13 y14 y15 y16 y17 y18 y19 y20 y21 y22 y23 y24 y25 y26 y27 y28 y29 y30 y31 y32 y33 y34 y35 y36 y37 y38 y39 y40 y41 y42 y43 y44 y45 y46 y47 y48 y49 y50 y51 y52 y53 y54 y55 y56 y57 y58 y59 y60 y61 y62 y63 y81 : Value) (S : St) : l27_11111010 W y0 y1 y2 y3 y4 y5 y6 y7 y8 y9 y10 y11 y12 y13 y14 y15 y16 y17 y18 y19 y20 y21 y22 y23 y24 y25 y26 y27 y28 y29 y30 y31 y32 y33 y34 y35 y36 y37 y38 y39 y40 y41 y42 y43 y44 y45 y46 y47 y48 y49 y50 y51 y52 y53 y54 y55 y56 y57 y58 y59 y60 y61 y62 y63 y81 S =
 bindV (aFieldAddr p 26 y1 7) fun v53 =>
 bindV (aLoad p W S 24 v53) fun v54 =>
 bindV (aLen p W S #[24] #[v54]) fun v55 =>
 bindV (aBin p .lss 3 y8 v55) fun v56 =>
 condK v56
  (
   bindV (aFieldAddr p 26 y3 7) fun v57 =>
   bindV (aLoad p W S 24 v57) fun v58 =>
   bindV (aFieldAddr p 26 y1 7) fun v59 =>
   bindV (aLoad p W S 24 v59) fun v60 =>
   bindV (aIndexAddr p 24 v60 y8) fun v61 =>
   bindV (aLoad p W S 47 v61) fun v62 =>
   bindS (qS true S fun S_ => aBuildSlice p S_ 24 1 #[(0, v62)]) fun v63 S64 =>
   bindS (aBuiltin p W S64 .append #[24, 24] #[v58, v63]) fun v65 S66 =>
   bindV (aFieldAddr p 26 y3 7) fun v67 =>
   bindT (aStore p S66 24 v67 v65) fun S68 =>
   bindV (aBin p .add 3 y8 (.int .i64 1)) fun v69 =>
   l27_11111010 W y0 y1 y2 y3 y4 y5 y6 y7 v69 y9 y10 y11 y12 y13 y14 y15 y16 y17 y18 y19 y20 y21 y22 y23 y24 y25 y26 y27 y28 y29 y30 y31 y32 y33 y34 y35 y36 y37 y38 y39 y40 y41 y42 y43 y44 y45 y46 y47 y48 y49 y50 y51 y52 y53 y54 y55 y56 y57 y58 y59 y60 y61 y62 y63 y81 S68
  )
  (
   some (.exit 6, ⟨#[y0, y1, y2, y3, y4, y5, y6, y7, y8, y9, y10, y11, y12, y13, y14, y15, y16, y17, y18, y19, y20, y21, y22, y23, y24, y25, y26, y27, y28, y29, y30, y31, y32, y33, y34, y35, y36, y37, y38, y39, y40, y41, y42, y43, y44, y45, y46, y47, y48, y49, y50, y51, y52, y53, y54, y55, y56, y57, y58, y59, y60, y61, y62, y63, y8, v53, v54, v55, v56, junk, junk, junk, junk, junk, junk, junk, junk, junk, junk, junk, junk, y81], []⟩, S)
  )
  := (round_eq ok27_11111010 ⟨#[y0, y1, y2, y3, y4, y5, y6, y7, y8, y9, y10, y11, y12, y13, y14, y15, y16, y17, y18, y19, y20, y21, y22, y23, y24, y25, y26, y27, y28, y29, y30, y31, y32, y33, y34, y35, y36, y37, y38, y39, y40, y41, y42, y43, y44, y45, y46, y47, y48, y49, y50, y51, y52, y53, y54, y55, y56, y57, y58, y59, y60, y61, y62, y63, junk, junk, junk, junk, junk, junk, junk, junk, junk, junk, junk, junk, junk, junk, junk, junk, junk, y81], []⟩ S).trans (by kernel_rfl)
theorem k27_111010_0 (W : World) (y0 y1 y2 y3 y4 y5 y6 y7 y8 y9 y10 y11 y12 y13 y14 y15 y16 y17 y18 y19 y20 y21 y22 y23 y24 y25 y26 y27 y28 y29 y30 y31 y32 y33 y34 y35 y36 y37 y38 y39 y40 y41 y42 y43 y44 y45 y46 y47 y48 y49 y50 y51 y52 y53 y54 y55 y56 y57 y58 y59 y60 y61 y62 y63 y64 y65 y66 y67 y68 y69 y70 y71 y72 y73 y74 y75 y76 y77 y78 y79 y80 y81 : Value) (S : St) : kc W c27 [1, 1, 1, 0, 1, 0] f27 (.exit 0) ⟨#[y0, y1, y2, y3, y4, y5, y6, y7, y8, y9, y10, y11, y12, y13, y14, y15, y16, y17, y18, y19, y20, y21, y22, y23, y24, y25, y26, y27, y28, y29, y30, y31, y32, y33, y34, y35, y36, y37, y38, y39, y40, y41, y42, y43, y44, y45, y46, y47, y48, y49, y50, y51, y52, y53, y54, y55, y56, y57, y58, y59, y60, y61, y62, y63, y64, y65, y66, y67, y68, y69, y70, y71, y72, y73, y74, y75, y76, y77, y78, y79, y80, y81], []⟩ S =
 bindO (l27_1111010 W y0 y1 y2 y3 y4 y5 y6 (.int .i64 0) y8 y9 y10 y11 y12 y13 y14 y15 y16 y17 y18 y19 y20 y21 y22 y23 y24 y25 y26 y27 y28 y29 y30 y31 y32 y33 y34 y35 y36 y37 y38 y39 y40 y41 y42 y43 y44 y45 y46 y64 y65 y66 y67 y68 y69 y70 y71 y72 y73 y74 y75 y76 y77 y78 y79 y80 y81 S) (kc W c27 [1, 1, 1, 1, 0, 1, 0] f27)
  := by kernel_rfl
theorem k27_11101001001010_2 (W : World) (y0 y1 y2 y3 y4 y5 y6 y7 y8 y9 y10 y11 y12 y13 y14 y15 y16 y17 y18 y19 y20 y21 y22 y23 y24 y25 y26 y27 y28 y29 y30 y31 y32 y33 y34 y35 y36 y37 y38 y39 y40 y41 y42 y43 y44 y45 y46 y47 y48 y49 y50 y51 y52 y53 y54 y55 y56 y57 y58 y59 y60 y61 y62 y63 y64 y65 y66 y67 y68 y69 y70 y71 y72 y73 y74 y75 y76 y77 y78 y79 y80 y81 : Value) (S : St) : rk W c27_111010 [1, 0, 0, 1, 0, 1, 0] (.exit 2) ⟨#[y0, y1, y2, y3, y4, y5, y6, y7, y8, y9, y10, y11, y12, y13, y14, y15, y16, y17, y18, y19, y20, y21, y22, y23, y24, y25, y26, y27, y28, y29, y30, y31, y32, y33, y34, y35, y36, y37, y38, y39, y40, y41, y42, y43, y44, y45, y46, y47, y48, y49, y50, y51, y52, y53, y54, y55, y56, y57, y58, y59, y60, y61, y62, y63, y64, y65, y66, y67, y68, y69, y70, y71, y72, y73, y74, y75, y76, y77, y78, y79, y80, y81], []⟩ S =
 bindV (aFieldAddr p 26 y3 5) fun v1 =>
 bindV (aLoad p W S 22 v1) fun v2 =>
 bindS (aBuildSlice p S 22 1 #[(0, y5)]) fun v3 S4 =>
 bindS (aBuiltin p W S4 .append #[22, 22] #[v2, v3]) fun v5 S6 =>
 bindV (aFieldAddr p 26 y3 5) fun v7 =>
 bindT (aStore p S6 22 v7 v5) fun S8 =>
 bindV (aBin p .add 3 y4 (.int .i64 1)) fun v9 =>
 l27_111010 W y0 y1 y2 y3 v9 y7 y8 y9 y10 y11 y12 y47 y48 y49 y50 y51 y52 y53 y54 y55 y56 y57 y58 y59 y60 y61 y62 y63 y64 y65 y66 y67 y68 y69 y70 y71 y72 y73 y74 y75 y76 y77 y78 y79 y80 y81 S8
  := by kernel_rfl
theorem k27_1111010_4 (W : World) (y0 y1 y2 y3 y4 y5 y6 y7 y8 y9 y10 y11 y12 y13 y14 y15 y16 y17 y18 y19 y20 y21 y22 y23 y24 y25 y26 y27 y28 y29 y30 y31 y32 y33 y34 y35 y36 y37 y38 y39 y40 y41 y42 y43 y44 y45 y46 y47 y48 y49 y50 y51 y52 y53 y54 y55 y56 y57 y58 y59 y60 y61 y62 y63 y64 y65 y66 y67 y68 y69 y70 y71 y72 y73 y74 y75 y76 y77 y78 y79 y80 y81 : Value) (S : St) : kc W c27 [1, 1, 1, 1, 0, 1, 0] f27 (.exit 4) ⟨#[y0, y1, y2, y3, y4, y5, y6, y7, y8, y9, y10, y11, y12, y13, y14, y15, y16, y17, y18, y19, y20, y21, y22, y23, y24, y25, y26, y27, y28, y29, y30, y31, y32, y33, y34, y35, y36, y37, y38, y39, y40, y41, y42, y43, y44, y45, y46, y47, y48, y49, y50, y51, y52, y53, y54, y55, y56, y57, y58, y59, y60, y61, y62, y63, y64, y65, y66, y67, y68, y69, y70, y71, y72, y73, y74, y75, y76, y77, y78, y79, y80, y81], []⟩ S =
 bindO (l27_11111010 W y0 y1 y2 y3 y4 y5 y6 y7 (.int .i64 0) y9 y10 y11 y12 y13 y14 y15 y16 y17 y18 y19 y20 y21 y22 y23 y24 y25 y26 y27 y28 y29 y30 y31 y32 y33 y34 y35 y36 y37 y38 y39 y40 y41 y42 y43 y44 y45 y46 y47 y48 y49 y50 y51 y52 y53 y54 y55 y56 y57 y58 y59 y60 y61 y62 y63 y81 S) (kc W c27 [1, 1, 1, 1, 1, 0, 1, 0] f27)
  := by kernel_rfl
theorem k27_11111010_6 (W : World) (y0 y1 y2 y3 y4 y5 y6 y7 y8 y9 y10 y11 y12 y13 y14 y15 y16 y17 y18 y19 y20 y21 y22 y23 y24 y25 y26 y27 y28 y29 y30 y31 y32 y33 y34 y35 y36 y37 y38 y39 y40 y41 y42 y43 y44 y45 y46 y47 y48 y49 y50 y51 y52 y53 y54 y55 y56 y57 y58 y59 y60 y61 y62 y63 y64 y65 y66 y67 y68 y69 y70 y71 y72 y73 y74 y75 y76 y77 y78 y79 y80 y81 : Value) (S : St) : kc W c27 [1, 1, 1, 1, 1, 0, 1, 0] f27 (.exit 6) ⟨#[y0, y1, y2, y3, y4, y5, y6, y7, y8, y9, y10, y11, y12, y13, y14, y15, y16, y17, y18, y19, y20, y21, y22, y23, y24, y25, y26, y27, y28, y29, y30, y31, y32, y33, y34, y35, y36, y37, y38, y39, y40, y41, y42, y43, y44, y45, y46, y47, y48, y49, y50, y51, y52, y53, y54, y55, y56, y57, y58, y59, y60, y61, y62, y63, y64, y65, y66, y67, y68, y69, y70, y71, y72, y73, y74, y75, y76, y77, y78, y79, y80, y81], []⟩ S =
 bindV (aLoad p W S 26 y3) fun v1 =>
 bindT (aStore p S 26 y2 v1) fun S2 =>
 bindV (aLoad p W S2 26 y2) fun v3 =>
 some (v3, S2)
  := by kernel_rfl
noncomputable abbrev f28 := Try.f28
noncomputable def c28 : Code := bodyOf f28
theorem ok28 : codeOk p c28 = true := by kernel_rfl
theorem eq28 (W : World) (x0 x1 x2 : Value) (S : St) : cw W 28 #[x0, x1, x2] S =
 gcR #[x0, x1, x2] S (
 bindV (aBin p .geq 2 x0 x1) fun v1 =>
 gV v1 true fun g2 =>
 gV v1 true fun g3 =>
 gV v1 true fun g4 =>
 bindV (wO g4 (aBin p .leq 2 (wV g2 x0) (wV g3 x2))) fun v5 =>
 bindV (aPick v1 v5 (.bool false)) fun v6 =>
 some (v6, S)
 )
  := (fn_eq Try.func28 rfl ok28 _ _).trans (by kernel_rfl)
noncomputable abbrev f29 := Try.f29
noncomputable def c29 : Code := bodyOf f29
theorem ok29 : codeOk p c29 = true := by kernel_rfl
theorem eq29 (W : World) (x0 : Value) (S : St) : cw W 29 #[x0] S =
 gcR #[x0] S (
 bindS (aBox S x0) fun v1 S2 =>
 bindV (aFieldAddr p 26 v1 1) fun v3 =>
 bindV (aLoad p W S2 2 v3) fun v4 =>
 bindS (aCall p (cw W) S2 (.func (.func 28) #[] #[]) #[v4, (.int .i64 1), (.int .i64 1073741824)]) fun v5 S6 =>
 gV v5 true fun g7 =>
 bindV (wO g7 (aFieldAddr p 26 v1 2)) fun v8 =>
 gV v5 true fun g9 =>
 bindV (wO g9 (aLoad p W S6 2 v8)) fun v10 =>
 gV v5 true fun g11 =>
 bindS (wS g11 S6 (aCall p (cw W) S6 (.func (.func 28) #[] #[]) #[v10, (.int .i64 0), (.int .i64 1048576)])) fun v12 S13 =>
 bindV (aPick v5 v12 (.bool false)) fun v14 =>
 gV v14 true fun g15 =>
 bindV (wO g15 (aFieldAddr p 26 v1 3)) fun v16 =>
 gV v14 true fun g17 =>
 bindV (wO g17 (aLoad p W S13 2 v16)) fun v18 =>
 gV v14 true fun g19 =>
 bindS (wS g19 S13 (aCall p (cw W) S13 (.func (.func 28) #[] #[]) #[v18, (.int .i64 0), (.int .i64 1048576)])) fun v20 S21 =>
 bindV (aPick v14 v20 (.bool false)) fun v22 =>
 gV v22 true fun g23 =>
 bindV (wO g23 (aFieldAddr p 26 v1 4)) fun v24 =>
 gV v22 true fun g25 =>
 bindV (wO g25 (aLoad p W S21 2 v24)) fun v26 =>
 gV v22 true fun g27 =>
 bindS (wS g27 S21 (aCall p (cw W) S21 (.func (.func 28) #[] #[]) #[v26, (.int .i64 0), (.int .i64 1048576)])) fun v28 S29 =>
 bindV (aPick v22 v28 (.bool false)) fun v30 =>
 some (v30, S29)
 )
  := (fn_eq Try.func29 rfl ok29 _ _).trans (by kernel_rfl)
noncomputable abbrev f30 := Try.f30
noncomputable def c30 : Code := bodyOf f30
theorem ok30 : codeOk p c30 = true := by kernel_rfl
theorem eq30 (W : World) (x0 : Value) (S : St) : cw W 30 #[x0] S =
 gcR #[x0] S (
 bindS (aBox S x0) fun v1 S2 =>
 bindV (aFieldAddr p 26 v1 5) fun v3 =>
 bindV (aLoad p W S2 22 v3) fun v4 =>
 bindV (aLen p W S2 #[22] #[v4]) fun v5 =>
 bindV (aFieldAddr p 26 v1 0) fun v6 =>
 bindV (aLoad p W S2 3 v6) fun v7 =>
 bindV (aBin p .neq 3 v5 v7) fun v8 =>
 condK v8
  (
   some ((.bool false), S2)
  )
  (
   bindV (aFieldAddr p 26 v1 5) fun v9 =>
   bindV (aLoad p W S2 22 v9) fun v10 =>
   bindS (aCall p (cw W) S2 (.func (.func 50) #[] #[]) #[v10, (.func (.func 51) #[] #[v1])]) fun v11 S12 =>
   bindV (aUn p .not v11) fun v13 =>
   some (v13, S12)
  )
 )
  := (fn_eq Try.func30 rfl ok30 _ _).trans (by kernel_rfl)
noncomputable abbrev f31 := Try.f31
noncomputable def c31 : Code := bodyOf f31
theorem ok31 : codeOk p c31 = true := by kernel_rfl
theorem eq31 (W : World) (x0 : Value) (S : St) : cw W 31 #[x0] S =
 gcR #[x0] S (
 bindS (aBox S x0) fun v1 S2 =>
 bindS (aAlloc p S2 70) fun v3 S4 =>
 bindT (aStore p S4 70 v3 (.func (.func 54) #[] #[])) fun S5 =>
 bindS (aAlloc p S5 70) fun v6 S7 =>
 bindT (aStore p S7 70 v6 (.func (.func 55) #[] #[v1])) fun S8 =>
 bindV (aFieldAddr p 26 v1 6) fun v9 =>
 bindV (aLoad p W S8 23 v9) fun v10 =>
 bindV (aLen p W S8 #[23] #[v10]) fun v11 =>
 bindV (aBin p .gtr 3 v11 (.int .i64 16)) fun v12 =>
 condK v12
  (
   condK v12
    (
     some ((.int .i64 5), S8)
    )
    (
     bindV (aFieldAddr p 26 v1 6) fun v13 =>
     bindV (aLoad p W S8 23 v13) fun v14 =>
     bindS (aCall p (cw W) S8 (.func (.func 56) #[] #[]) #[v14, (.func (.func 58) #[] #[v1])]) fun v15 S16 =>
     condK v15
      (
       some ((.int .i64 6), S16)
      )
      (
       bindV (aFieldAddr p 26 v1 6) fun v17 =>
       bindV (aLoad p W S16 23 v17) fun v18 =>
       bindS (aCall p (cw W) S16 (.func (.func 59) #[] #[]) #[v18, (.func (.func 60) #[] #[v3])]) fun v19 S20 =>
       condK v19
        (
         some ((.int .i64 7), S20)
        )
        (
         bindV (aFieldAddr p 26 v1 6) fun v21 =>
         bindV (aLoad p W S20 23 v21) fun v22 =>
         bindS (aCall p (cw W) S20 (.func (.func 59) #[] #[]) #[v22, (.func (.func 62) #[] #[v6])]) fun v23 S24 =>
         condK v23
          (
           some ((.int .i64 8), S24)
          )
          (
           some ((.int .i64 0), S24)
          )
        )
      )
    )
  )
  (
   bindV (aFieldAddr p 26 v1 6) fun v25 =>
   bindV (aLoad p W S8 23 v25) fun v26 =>
   bindS (aCall p (cw W) S8 (.func (.func 56) #[] #[]) #[v26, (.func (.func 57) #[] #[v1])]) fun v27 S28 =>
   condK v27
    (
     some ((.int .i64 5), S28)
    )
    (
     bindV (aFieldAddr p 26 v1 6) fun v29 =>
     bindV (aLoad p W S28 23 v29) fun v30 =>
     bindS (aCall p (cw W) S28 (.func (.func 56) #[] #[]) #[v30, (.func (.func 58) #[] #[v1])]) fun v31 S32 =>
     condK v31
      (
       some ((.int .i64 6), S32)
      )
      (
       bindV (aFieldAddr p 26 v1 6) fun v33 =>
       bindV (aLoad p W S32 23 v33) fun v34 =>
       bindS (aCall p (cw W) S32 (.func (.func 59) #[] #[]) #[v34, (.func (.func 60) #[] #[v3])]) fun v35 S36 =>
       condK v35
        (
         some ((.int .i64 7), S36)
        )
        (
         bindV (aFieldAddr p 26 v1 6) fun v37 =>
         bindV (aLoad p W S36 23 v37) fun v38 =>
         bindS (aCall p (cw W) S36 (.func (.func 59) #[] #[]) #[v38, (.func (.func 62) #[] #[v6])]) fun v39 S40 =>
         condK v39
          (
           some ((.int .i64 8), S40)
          )
          (
           some ((.int .i64 0), S40)
          )
        )
      )
    )
  )
 )
  := (fn_eq Try.func31 rfl ok31 _ _).trans (by kernel_rfl)
noncomputable abbrev f32 := Try.f32
noncomputable def c32 : Code := bodyOf f32
theorem ok32 : codeOk p c32 = true := by kernel_rfl
theorem eq32 (W : World) (x0 x1 : Value) (S : St) : cw W 32 #[x0, x1] S =
 gcR #[x0, x1] S (
 bindS (aCall p (cw W) S (.func (.func 63) #[] #[]) #[x0, x1]) fun v1 S2 =>
 bindV (aBin p .geq 3 v1 (.int .i64 0)) fun v3 =>
 some (v3, S2)
 )
  := (fn_eq Try.func32 rfl ok32 _ _).trans (by kernel_rfl)
noncomputable abbrev f33 := Try.f33
noncomputable def c33 : Code := bodyOf f33
theorem ok33 : codeOk p c33 = true := by kernel_rfl
theorem eq33 (W : World) (x0 x1 : Value) (S : St) : cw W 33 #[x0, x1] S =
 gcR #[x0, x1] S (
 bindS (aBox S x0) fun v1 S2 =>
 bindV (aFieldAddr p 26 x1 0) fun v3 =>
 bindV (aLoad p W S2 3 v3) fun v4 =>
 bindV (aFieldAddr p 47 v1 0) fun v5 =>
 bindV (aLoad p W S2 3 v5) fun v6 =>
 bindV (aFieldAddr p 47 v1 1) fun v7 =>
 bindV (aLoad p W S2 30 v7) fun v8 =>
 bindV (aFieldAddr p 47 v1 3) fun v9 =>
 bindV (aLoad p W S2 3 v9) fun v10 =>
 bindS (aCall p (cw W) S2 (.func (.func 34) #[] #[]) #[v4, v6, v8, v10]) fun v11 S12 =>
 bindV (aUn p .not v11) fun v13 =>
 gV v13 false fun g14 =>
 bindV (wO g14 (aFieldAddr p 47 v1 2)) fun v15 =>
 gV v13 false fun g16 =>
 bindV (wO g16 (aLoad p W S12 2 v15)) fun v17 =>
 gV v13 false fun g18 =>
 bindS (wS g18 S12 (aCall p (cw W) S12 (.func (.func 28) #[] #[]) #[v17, (.int .i64 1), (.int .i64 1073741824)])) fun v19 S20 =>
 gV v13 false fun g21 =>
 bindV (wO g21 (aUn p .not v19)) fun v22 =>
 bindV (aPick v13 (.bool true) v22) fun v23 =>
 some (v23, S20)
 )
  := (fn_eq Try.func33 rfl ok33 _ _).trans (by kernel_rfl)
noncomputable abbrev f34 := Try.f34
noncomputable def c34 : Code := bodyOf f34
theorem ok34 : codeOk p c34 = true := by kernel_rfl
theorem eq34 (W : World) (x0 x1 x2 x3 : Value) (S : St) : cw W 34 #[x0, x1, x2, x3] S =
 gcR #[x0, x1, x2, x3] S (
 bindV (aBin p .sub 2 x0 (.int .i64 1)) fun v1 =>
 bindS (aCall p (cw W) S (.func (.func 28) #[] #[]) #[x1, (.int .i64 0), v1]) fun v2 S3 =>
 gV v2 true fun g4 =>
 gV v2 true fun g5 =>
 bindV (wO g5 (aBin p .neq 30 (wV g4 x2) (.int .u32 0))) fun v6 =>
 bindV (aPick v2 v6 (.bool false)) fun v7 =>
 gV v7 true fun g8 =>
 gV v7 true fun g9 =>
 gV v7 true fun g10 =>
 bindS (wS g10 S3 (aConv p W S3 3 56 (wV g9 x0))) fun v11 S12 =>
 gV v7 true fun g13 =>
 bindV (wO g13 (aBin p .shr 30 (wV g8 x2) v11)) fun v14 =>
 gV v7 true fun g15 =>
 bindV (wO g15 (aBin p .eql 30 v14 (.int .u32 0))) fun v16 =>
 bindV (aPick v7 v16 (.bool false)) fun v17 =>
 gV v17 true fun g18 =>
 gV v17 true fun g19 =>
 gV v17 true fun g20 =>
 bindS (wS g20 S12 (aCall p (cw W) S12 (.func (.func 64) #[] #[]) #[(wV g18 x2), (wV g19 x1)])) fun v21 S22 =>
 gV v17 true fun g23 =>
 bindV (wO g23 (aUn p .not v21)) fun v24 =>
 bindV (aPick v17 v24 (.bool false)) fun v25 =>
 gV v25 true fun g26 =>
 gV v25 true fun g27 =>
 bindS (wS g27 S22 (aCall p (cw W) S22 (.func (.func 28) #[] #[]) #[(wV g26 x3), (.int .i64 64), (.int .i64 1518)])) fun v28 S29 =>
 bindV (aPick v25 v28 (.bool false)) fun v30 =>
 some (v30, S29)
 )
  := (fn_eq Try.func34 rfl ok34 _ _).trans (by kernel_rfl)
noncomputable abbrev f35 := Try.f35
noncomputable def c35 : Code := bodyOf f35
theorem ok35 : codeOk p c35 = true := by kernel_rfl
theorem eq35 (W : World) (x0 : Value) (S : St) : cw W 35 #[x0] S =
 gcR #[x0] S (
 bindS (aBox S x0) fun v1 S2 =>
 bindV (aFieldAddr p 26 v1 1) fun v3 =>
 bindV (aLoad p W S2 2 v3) fun v4 =>
 bindV (aBin p .geq 2 v4 (.int .i64 1)) fun v5 =>
 gV v5 true fun g6 =>
 bindV (wO g6 (aFieldAddr p 26 v1 1)) fun v7 =>
 gV v5 true fun g8 =>
 bindV (wO g8 (aLoad p W S2 2 v7)) fun v9 =>
 gV v5 true fun g10 =>
 bindV (wO g10 (aBin p .leq 2 v9 (.int .i64 1073741824))) fun v11 =>
 bindV (aPick v5 v11 (.bool false)) fun v12 =>
 gV v12 true fun g13 =>
 bindV (wO g13 (aFieldAddr p 26 v1 2)) fun v14 =>
 gV v12 true fun g15 =>
 bindV (wO g15 (aLoad p W S2 2 v14)) fun v16 =>
 gV v12 true fun g17 =>
 bindS (wS g17 S2 (aCall p (cw W) S2 (.func (.func 65) #[] #[]) #[v16])) fun v18 S19 =>
 bindV (aPick v12 v18 (.bool false)) fun v20 =>
 gV v20 true fun g21 =>
 bindV (wO g21 (aFieldAddr p 26 v1 3)) fun v22 =>
 gV v20 true fun g23 =>
 bindV (wO g23 (aLoad p W S19 2 v22)) fun v24 =>
 gV v20 true fun g25 =>
 bindS (wS g25 S19 (aCall p (cw W) S19 (.func (.func 65) #[] #[]) #[v24])) fun v26 S27 =>
 bindV (aPick v20 v26 (.bool false)) fun v28 =>
 gV v28 true fun g29 =>
 bindV (wO g29 (aFieldAddr p 26 v1 4)) fun v30 =>
 gV v28 true fun g31 =>
 bindV (wO g31 (aLoad p W S27 2 v30)) fun v32 =>
 gV v28 true fun g33 =>
 bindS (wS g33 S27 (aCall p (cw W) S27 (.func (.func 65) #[] #[]) #[v32])) fun v34 S35 =>
 bindV (aPick v28 v34 (.bool false)) fun v36 =>
 some (v36, S35)
 )
  := (fn_eq Try.func35 rfl ok35 _ _).trans (by kernel_rfl)
noncomputable abbrev f36 := Try.f36
noncomputable def c36 : Code := bodyOf f36
theorem ok36 : codeOk p c36 = true := by kernel_rfl
noncomputable def c36_11010 : Code := codeAt [1, 1, 0, 1, 0, 0] c36
theorem ok36_11010 : codeOk p c36_11010 = true := by kernel_rfl
noncomputable def l36_11010 (W : World) (y0 y1 y3 y5 y6 y7 y8 y9 y10 : Value) (S : St) : Out := la W c36_11010 ⟨#[y0, y1, junk, y3, junk, y5, y6, y7, y8, y9, y10, junk, junk, junk, junk, junk, junk, junk, junk, junk, junk, junk, junk, junk, junk, junk, junk, junk, junk, junk, junk, junk, junk, junk, junk, junk, junk, junk, junk, junk, junk, junk, junk, junk, junk, junk, junk, junk, junk, junk, junk], []⟩ S
noncomputable def c36_110100100110 : Code := codeAt [1, 1, 0, 1, 0, 0, 1, 0, 0, 1, 1, 0, 0] c36
theorem ok36_110100100110 : codeOk p c36_110100100110 = true := by kernel_rfl
noncomputable def l36_110100100110 (W : World) (y0 y1 y3 y4 y5 y6 y7 y8 y9 y10 y11 y12 y13 y14 y15 y16 y17 y18 y19 y20 y21 y22 y23 y24 : Value) (S : St) : Out := la W c36_110100100110 ⟨#[y0, y1, junk, y3, y4, y5, y6, y7, y8, y9, y10, y11, y12, y13, y14, y15, y16, y17, y18, y19, y20, y21, y22, y23, y24, junk, junk, junk, junk, junk, junk, junk, junk, junk, junk, junk, junk, junk, junk, junk, junk, junk, junk, junk, junk, junk, junk, junk, junk, junk, junk], []⟩ S
theorem eq36 (W : World) (x0 : Value) (S : St) : cw W 36 #[x0] S =
 gcR #[x0] S (
 bindS (aBox S x0) fun v1 S2 =>
 bindV (aFieldAddr p 26 v1 5) fun v3 =>
 bindV (aLoad p W S2 22 v3) fun v4 =>
 bindV (aLen p W S2 #[22] #[v4]) fun v5 =>
 bindV (aFieldAddr p 26 v1 0) fun v6 =>
 bindV (aLoad p W S2 3 v6) fun v7 =>
 bindV (aBin p .neq 3 v5 v7) fun v8 =>
 condK v8
  (
   some ((.bool false), S2)
  )
  (
   bindO (l36_11010 W x0 v1 (.int .i64 0) v3 v4 v5 v6 v7 v8 S2) (kc W c36 [1, 1, 0, 1, 0] f36)
  )
 )
  := (fn_eq Try.func36 rfl ok36 _ _).trans (by kernel_rfl)
theorem r36_11010 (W : World) (y0 y1 y3 y5 y6 y7 y8 y9 y10 : Value) (S : St) : l36_11010 W y0 y1 y3 y5 y6 y7 y8 y9 y10 S =
 bindV (aFieldAddr p 26 y1 5) fun v9 =>
 bindV (aLoad p W S 22 v9) fun v10 =>
 bindV (aLen p W S #[22] #[v10]) fun v11 =>
 bindV (aBin p .lss 3 y3 v11) fun v12 =>
 condK v12
  (
   bindV (aFieldAddr p 26 y1 5) fun v13 =>
   bindV (aLoad p W S 22 v13) fun v14 =>
   bindV (aIndexAddr p 22 v14 y3) fun v15 =>
   bindV (aLoad p W S 45 v15) fun v16 =>
   bindV (aLen p W S #[45] #[v16]) fun v17 =>
   bindV (aBin p .neq 3 v17 (.int .i64 2)) fun v18 =>
   condK v18
    (
     some (.ret, ⟨#[y0, y1, (.bool false), y3, junk, y5, y6, y7, y8, y9, y10, y3, v9, v10, v11, v12, junk, junk, v13, v14, y3, v15, v16, v17, v18, junk, junk, junk, junk, junk, junk, junk, junk, junk, junk, junk, junk, junk, junk, junk, junk, junk, junk, junk, junk, junk, junk, junk, junk, junk, junk], []⟩, S)
    )
    (
     bindO (l36_110100100110 W y0 y1 y3 (.int .i64 0) y5 y6 y7 y8 y9 y10 y3 v9 v10 v11 v12 junk junk v13 v14 y3 v15 v16 v17 v18 S) (rk W c36_11010 [1, 0, 0, 1, 1, 0])
    )
  )
  (
   some (.exit 0, ⟨#[y0, y1, junk, y3, junk, y5, y6, y7, y8, y9, y10, y3, v9, v10, v11, v12, junk, junk, junk, junk, junk, junk, junk, junk, junk, junk, junk, junk, junk, junk, junk, junk, junk, junk, junk, junk, junk, junk, junk, junk, junk, junk, junk, junk, junk, junk, junk, junk, junk, junk, junk], []⟩, S)
  )
  := (round_eq ok36_11010 ⟨#[y0, y1, junk, y3, junk, y5, y6, y7, y8, y9, y10, junk, junk, junk, junk, junk, junk, junk, junk, junk, junk, junk, junk, junk, junk, junk, junk, junk, junk, junk, junk, junk, junk, junk, junk, junk, junk, junk, junk, junk, junk, junk, junk, junk, junk, junk, junk, junk, junk, junk, junk], []⟩ S).trans (by kernel_rfl)
theorem r36_110100100110 (W : World) (y0 y1 y3 y4 y5 y6 y7 y8 y9 y10 y11 y12 y13 y14 y15 y16 y17 y18 y19 y20 y21 y22 y23 y24 : Value) (S : St) : l36_110100100110 W y0 y1 y3 y4 y5 y6 y7 y8 y9 y10 y11 y12 y13 y14 y15 y16 y17 y18 y19 y20 y21 y22 y23 y24 S =
 bindV (aBin p .lss 3 y4 (.int .i64 2)) fun v19 =>
 condK v19
  (
   bindV (aFieldAddr p 26 y1 5) fun v20 =>
   bindV (aLoad p W S 22 v20) fun v21 =>
   bindV (aIndexAddr p 22 v21 y3) fun v22 =>
   bindV (aLoad p W S 45 v22) fun v23 =>
   bindV (aIndexAddr p 45 v23 y4) fun v24 =>
   bindV (aLoad p W S 2 v24) fun v25 =>
   bindV (aBin p .lss 2 v25 (.int .i64 0)) fun v26 =>
   gV v26 false fun g27 =>
   bindV (wO g27 (aFieldAddr p 26 y1 5)) fun v28 =>
   gV v26 false fun g29 =>
   bindV (wO g29 (aLoad p W S 22 v28)) fun v30 =>
   gV v26 false fun g31 =>
   gV v26 false fun g32 =>
   bindV (wO g32 (aIndexAddr p 22 v30 (wV g31 y3))) fun v33 =>
   gV v26 false fun g34 =>
   bindV (wO g34 (aLoad p W S 45 v33)) fun v35 =>
   gV v26 false fun g36 =>
   gV v26 false fun g37 =>
   bindV (wO g37 (aIndexAddr p 45 v35 (wV g36 y4))) fun v38 =>
   gV v26 false fun g39 =>
   bindV (wO g39 (aLoad p W S 2 v38)) fun v40 =>
   gV v26 false fun g41 =>
   bindV (wO g41 (aFieldAddr p 26 y1 2)) fun v42 =>
   gV v26 false fun g43 =>
   bindV (wO g43 (aLoad p W S 2 v42)) fun v44 =>
   gV v26 false fun g45 =>
   bindV (wO g45 (aBin p .gtr 2 v40 v44)) fun v46 =>
   bindV (aPick v26 (.bool true) v46) fun v47 =>
   condK v47
    (
     some (.ret, ⟨#[y0, y1, (.bool false), y3, y4, y5, y6, y7, y8, y9, y10, y11, y12, y13, y14, y15, y16, y17, y18, y19, y20, y21, y22, y23, y24, y4, v19, junk, junk, v20, v21, y3, v22, v23, y4, v24, v25, v26, v26, v28, v30, (wV g31 y3), v33, v35, (wV g36 y4), v38, v40, v42, v44, v46, v47], []⟩, S)
    )
    (
     bindV (aBin p .add 3 y4 (.int .i64 1)) fun v48 =>
     l36_110100100110 W y0 y1 y3 v48 y5 y6 y7 y8 y9 y10 y11 y12 y13 y14 y15 y16 y17 y18 y19 y20 y21 y22 y23 y24 S
    )
  )
  (
   some (.exit 2, ⟨#[y0, y1, junk, y3, y4, y5, y6, y7, y8, y9, y10, y11, y12, y13, y14, y15, y16, y17, y18, y19, y20, y21, y22, y23, y24, y4, v19, junk, junk, junk, junk, junk, junk, junk, junk, junk, junk, junk, junk, junk, junk, junk, junk, junk, junk, junk, junk, junk, junk, junk, junk], []⟩, S)
  )
  := (round_eq ok36_110100100110 ⟨#[y0, y1, junk, y3, y4, y5, y6, y7, y8, y9, y10, y11, y12, y13, y14, y15, y16, y17, y18, y19, y20, y21, y22, y23, y24, junk, junk, junk, junk, junk, junk, junk, junk, junk, junk, junk, junk, junk, junk, junk, junk, junk, junk, junk, junk, junk, junk, junk, junk, junk, junk], []⟩ S).trans (by kernel_rfl)
theorem k36_11010_0 (W : World) (y0 y1 y2 y3 y4 y5 y6 y7 y8 y9 y10 y11 y12 y13 y14 y15 y16 y17 y18 y19 y20 y21 y22 y23 y24 y25 y26 y27 y28 y29 y30 y31 y32 y33 y34 y35 y36 y37 y38 y39 y40 y41 y42 y43 y44 y45 y46 y47 y48 y49 y50 : Value) (S : St) : kc W c36 [1, 1, 0, 1, 0] f36 (.exit 0) ⟨#[y0, y1, y2, y3, y4, y5, y6, y7, y8, y9, y10, y11, y12, y13, y14, y15, y16, y17, y18, y19, y20, y21, y22, y23, y24, y25, y26, y27, y28, y29, y30, y31, y32, y33, y34, y35, y36, y37, y38, y39, y40, y41, y42, y43, y44, y45, y46, y47, y48, y49, y50], []⟩ S =
 some ((.bool true), S)
  := by kernel_rfl
theorem k36_11010_ret (W : World) (y0 y1 y2 y3 y4 y5 y6 y7 y8 y9 y10 y11 y12 y13 y14 y15 y16 y17 y18 y19 y20 y21 y22 y23 y24 y25 y26 y27 y28 y29 y30 y31 y32 y33 y34 y35 y36 y37 y38 y39 y40 y41 y42 y43 y44 y45 y46 y47 y48 y49 y50 : Value) (S : St) : kc W c36 [1, 1, 0, 1, 0] f36 (.ret) ⟨#[y0, y1, y2, y3, y4, y5, y6, y7, y8, y9, y10, y11, y12, y13, y14, y15, y16, y17, y18, y19, y20, y21, y22, y23, y24, y25, y26, y27, y28, y29, y30, y31, y32, y33, y34, y35, y36, y37, y38, y39, y40, y41, y42, y43, y44, y45, y46, y47, y48, y49, y50], []⟩ S =
 some (y2, S)
  := by kernel_rfl
theorem k36_110100100110_2 (W : World) (y0 y1 y2 y3 y4 y5 y6 y7 y8 y9 y10 y11 y12 y13 y14 y15 y16 y17 y18 y19 y20 y21 y22 y23 y24 y25 y26 y27 y28 y29 y30 y31 y32 y33 y34 y35 y36 y37 y38 y39 y40 y41 y42 y43 y44 y45 y46 y47 y48 y49 y50 : Value) (S : St) : rk W c36_11010 [1, 0, 0, 1, 1, 0] (.exit 2) ⟨#[y0, y1, y2, y3, y4, y5, y6, y7, y8, y9, y10, y11, y12, y13, y14, y15, y16, y17, y18, y19, y20, y21, y22, y23, y24, y25, y26, y27, y28, y29, y30, y31, y32, y33, y34, y35, y36, y37, y38, y39, y40, y41, y42, y43, y44, y45, y46, y47, y48, y49, y50], []⟩ S =
 bindV (aBin p .add 3 y3 (.int .i64 1)) fun v1 =>
 l36_11010 W y0 y1 v1 y5 y6 y7 y8 y9 y10 S
  := by kernel_rfl
theorem k36_110100100110_ret (W : World) (y0 y1 y2 y3 y4 y5 y6 y7 y8 y9 y10 y11 y12 y13 y14 y15 y16 y17 y18 y19 y20 y21 y22 y23 y24 y25 y26 y27 y28 y29 y30 y31 y32 y33 y34 y35 y36 y37 y38 y39 y40 y41 y42 y43 y44 y45 y46 y47 y48 y49 y50 : Value) (S : St) : rk W c36_11010 [1, 0, 0, 1, 1, 0] (.ret) ⟨#[y0, y1, y2, y3, y4, y5, y6, y7, y8, y9, y10, y11, y12, y13, y14, y15, y16, y17, y18, y19, y20, y21, y22, y23, y24, y25, y26, y27, y28, y29, y30, y31, y32, y33, y34, y35, y36, y37, y38, y39, y40, y41, y42, y43, y44, y45, y46, y47, y48, y49, y50], []⟩ S =
 some (.ret, ⟨#[y0, y1, y2, y3, y4, y5, y6, y7, y8, y9, y10, y11, y12, y13, y14, y15, y16, y17, y18, y19, y20, y21, y22, y23, y24, y25, y26, y27, y28, y29, y30, y31, y32, y33, y34, y35, y36, y37, y38, y39, y40, y41, y42, y43, y44, y45, y46, y47, y48, y49, y50], []⟩, S)
  := by kernel_rfl
end Go.Proofs.Ytogcdgdnjinjkaa.F
end
