/- The functions that the laws run, laid out for the evaluator, and facts about the types they use; printed by a program for this claim. No condition. -/
import Derived.Test.YteofdikfdknpbaaProg
import Derived.Test.YteofdikfdknpbaaREngine1
set_option linter.unusedVariables false
set_option linter.unusedSimpArgs false
section
namespace Go.Proofs.Yteofdikfdknpbaa.F
open Go Go.Proofs.Yteofdikfdknpbaa.E
set_option linter.unusedVariables false
set_option maxRecDepth 100000
noncomputable abbrev p : Program := Try.prog
def gl : FuncId → Bool := fun n => [9, 10, 11, 15, 16, 18, 19, 20, 21, 22, 23, 24, 25, 26, 27, 28, 29, 32, 33, 34, 35, 36, 37, 38, 39, 40, 41, 42, 43, 44, 45, 46, 47, 48, 49, 50, 51, 52, 53, 54, 55, 56, 57, 58, 59].contains n
noncomputable abbrev cw (W : World) : Caller := callW p W gl
noncomputable abbrev la (W : World) (c : Code) (A : Act) (S : St) : Out := loopAt p W (cw W) loopW c A S
noncomputable abbrev kc (W : World) (c : Code) (q : List Nat) (fn : Func) : Exit → Act → St → Option (Value × St) := contK p W (cw W) loopW q c (finK p W fn)
noncomputable abbrev rk (W : World) (c : Code) (q : List Nat) : Exit → Act → St → Out := contK p W (cw W) loopW q c (roundK p W (cw W) loopW c)
noncomputable abbrev f3 := Try.f3
noncomputable def c3 : Code := bodyOf f3
noncomputable abbrev f4 := Try.f4
noncomputable def c4 : Code := bodyOf f4
theorem ok4 : codeOk p c4 = true := by kernel_rfl
theorem eq4 (W : World) (x0 x1 x2 : Value) (S : St) : cw W 4 #[x0, x1, x2] S =
 bindS (aBox S x0) fun v1 S2 =>
 bindS (aBox S2 x1) fun v3 S4 =>
 bindS (aCall p (cw W) S4 (.func (.func 7) #[] #[]) #[]) fun v5 S6 =>
 bindV (aUn p .not v5) fun v7 =>
 condK v7
  (
   some ((.bool false), S6)
  )
  (
   bindV (aLoad p W S6 26 v1) fun v8 =>
   bindS (aCall p (cw W) S6 (.func (.func 8) #[] #[]) #[v8]) fun v9 S10 =>
   bindV (still p (Instr.extract v9 0)) fun v11 =>
   bindV (still p (Instr.extract v9 1)) fun v12 =>
   bindV (aLoad p W S10 26 v1) fun v13 =>
   bindS (aCall p (cw W) S10 (.func (.func 8) #[] #[]) #[v13]) fun v14 S15 =>
   bindV (still p (Instr.extract v14 0)) fun v16 =>
   bindV (still p (Instr.extract v14 1)) fun v17 =>
   bindV (aBin p .neq 30 v12 (.int .i64 0)) fun v18 =>
   condK v18
    (
     bindV (aBin p .eql 29 v11 (.pointer none)) fun v19 =>
     some (v19, S15)
    )
    (
     bindV (aBin p .rem 27 x2 (.int .u32 63)) fun v20 =>
     bindV (aBin p .add 27 v20 (.int .u32 1)) fun v21 =>
     bindV (aBuild p 38 #[(0, (.int .i64 2)), (1, (.int .i64 7)), (2, (.int .i64 5)), (3, v21)]) fun v22 =>
     bindS (aAlloc p S15 38) fun v23 S24 =>
     bindT (aStore p S24 38 v23 v22) fun S25 =>
     bindS (qS true S25 fun S_ => aCall p (cw W) S_ (.func (.func 9) #[] #[]) #[v11, (.int .i64 5)]) fun v26 S27 =>
     bindV (aIndexAddr p 42 v3 (.int .i64 0)) fun v28 =>
     bindV (aLoad p W S27 21 v28) fun v29 =>
     bindS (qS true S27 fun S_ => aConv p W S_ 21 2 v29) fun v30 S31 =>
     bindV (aBin p .add 2 v26 v30) fun v32 =>
     bindS (qS true S31 fun S_ => aCall p (cw W) S_ (.func (.func 9) #[] #[]) #[v16, (.int .i64 5)]) fun v33 S34 =>
     bindV (aIndexAddr p 42 v3 (.int .i64 1)) fun v35 =>
     bindV (aLoad p W S34 21 v35) fun v36 =>
     bindS (qS true S34 fun S_ => aConv p W S_ 21 2 v36) fun v37 S38 =>
     bindV (aBin p .add 2 v33 v37) fun v39 =>
     bindV (aBin p .lss 2 v32 (.int .i64 0)) fun v40 =>
     gV v40 false fun g41 =>
     gV v40 false fun g42 =>
     bindV (wO g42 (aBin p .lss 2 (wV g41 v39) (.int .i64 0))) fun v43 =>
     bindV (aPick v40 (.bool true) v43) fun v44 =>
     condK v44
      (
       some ((.bool true), S38)
      )
      (
       bindV (aLoad p W S38 38 v23) fun v45 =>
       bindS (aCall p (cw W) S38 (.func (.func 12) #[] #[]) #[v11, (.int .i64 5), v32, v45]) fun v46 S47 =>
       bindV (aLoad p W S47 38 v23) fun v48 =>
       chkP (aLoad p W S38 38 v23 = aLoad p W S47 38 v23) <|
       bindS (aCall p (cw W) S47 (.func (.func 12) #[] #[]) #[v16, (.int .i64 5), v39, v48]) fun v49 S50 =>
       bindV (aBin p .neq 30 v46 (.int .i64 0)) fun v51 =>
       gV v51 false fun g52 =>
       gV v51 false fun g53 =>
       bindV (wO g53 (aBin p .neq 30 (wV g52 v49) (.int .i64 0))) fun v54 =>
       bindV (aPick v51 (.bool true) v54) fun v55 =>
       condK v55
        (
         some ((.bool true), S50)
        )
        (
         bindS (aCall p (cw W) S50 (.func (.func 13) #[] #[]) #[v11]) fun v56 S57 =>
         bindV (still p (Instr.extract v56 0)) fun v58 =>
         bindV (still p (Instr.extract v56 1)) fun v59 =>
         bindV (still p (Instr.extract v56 2)) fun v60 =>
         bindS (aCall p (cw W) S57 (.func (.func 13) #[] #[]) #[v16]) fun v61 S62 =>
         bindV (still p (Instr.extract v61 0)) fun v63 =>
         bindV (still p (Instr.extract v61 1)) fun v64 =>
         bindV (still p (Instr.extract v61 2)) fun v65 =>
         bindV (aBin p .add 2 v32 v58) fun v66 =>
         bindV (aBin p .add 2 v39 v63) fun v67 =>
         bindV (aBin p .eql 2 v66 v67) fun v68 =>
         gV v68 true fun g69 =>
         gV v68 true fun g70 =>
         gV v68 true fun g71 =>
         bindV (wO g71 (aBin p .add 2 (wV g69 v32) (wV g70 v58))) fun v72 =>
         gV v68 true fun g73 =>
         gV v68 true fun g74 =>
         bindS (wS g74 S62 (aCall p (cw W) S62 (.func (.func 9) #[] #[]) #[(wV g73 v11), (.int .i64 5)])) fun v75 S76 =>
         gV v68 true fun g77 =>
         bindV (wO g77 (aBin p .eql 2 v72 v75)) fun v78 =>
         bindV (aPick v68 v78 (.bool false)) fun v79 =>
         some (v79, S76)
        )
      )
    )
  )
  := (fn_eq Try.func4 rfl ok4 _ _).trans (by kernel_rfl)
noncomputable abbrev f5 := Try.f5
noncomputable def c5 : Code := bodyOf f5
theorem ok5 : codeOk p c5 = true := by kernel_rfl
noncomputable abbrev f6 := Try.f6
noncomputable def c6 : Code := bodyOf f6
theorem ok6 : codeOk p c6 = true := by kernel_rfl
noncomputable abbrev f7 := Try.f7
noncomputable def c7 : Code := bodyOf f7
theorem ok7 : codeOk p c7 = true := by kernel_rfl
theorem eq7 (W : World) (S : St) : cw W 7 #[] S =
 bindS (aCall p (cw W) S (.func (.func 14) #[] #[]) #[(.int .i64 4), (.int .i64 0)]) fun v1 S2 =>
 bindS (aCall p (cw W) S2 (.func (.func 8) #[] #[]) #[v1]) fun v3 S4 =>
 bindV (still p (Instr.extract v3 0)) fun v5 =>
 bindV (still p (Instr.extract v3 1)) fun v6 =>
 bindV (aBuild p 26 #[]) fun v7 =>
 bindS (aCall p (cw W) S4 (.func (.func 8) #[] #[]) #[v7]) fun v8 S9 =>
 bindV (still p (Instr.extract v8 0)) fun v10 =>
 bindV (still p (Instr.extract v8 1)) fun v11 =>
 bindV (aBin p .eql 29 v5 (.pointer none)) fun v12 =>
 gV v12 false fun g13 =>
 gV v12 false fun g14 =>
 bindV (wO g14 (aBin p .neq 30 (wV g13 v6) (.int .i64 0))) fun v15 =>
 bindV (aPick v12 (.bool true) v15) fun v16 =>
 gV v16 false fun g17 =>
 gV v16 false fun g18 =>
 bindV (wO g18 (aBin p .neq 30 (wV g17 v11) (.int .i64 1))) fun v19 =>
 bindV (aPick v16 (.bool true) v19) fun v20 =>
 condK v20
  (
   some ((.bool false), S9)
  )
  (
   bindV (aBuild p 38 #[(0, (.int .i64 2)), (1, (.int .i64 6)), (2, (.int .i64 3)), (3, (.int .u32 7))]) fun v21 =>
   bindS (aCall p (cw W) S9 (.func (.func 12) #[] #[]) #[v5, (.int .i64 3), (.int .i64 6005300), v21]) fun v22 S23 =>
   bindV (aBuild p 38 #[(0, (.int .i64 2)), (1, (.int .i64 7)), (2, (.int .i64 3)), (3, (.int .u32 3))]) fun v24 =>
   bindS (aCall p (cw W) S23 (.func (.func 12) #[] #[]) #[v5, (.int .i64 3), (.int .i64 6004000), v24]) fun v25 S26 =>
   bindS (aCall p (cw W) S26 (.func (.func 13) #[] #[]) #[v5]) fun v27 S28 =>
   bindV (still p (Instr.extract v27 0)) fun v29 =>
   bindV (still p (Instr.extract v27 1)) fun v30 =>
   bindV (still p (Instr.extract v27 2)) fun v31 =>
   bindV (aBuild p 38 #[(0, (.int .i64 2)), (1, (.int .i64 6)), (2, (.int .i64 3)), (3, (.int .u32 7))]) fun v32 =>
   bindS (aCall p (cw W) S28 (.func (.func 12) #[] #[]) #[v5, (.int .i64 3), (.int .i64 6007001), v32]) fun v33 S34 =>
   bindS (aCall p (cw W) S34 (.func (.func 9) #[] #[]) #[v5, (.int .i64 3)]) fun v35 S36 =>
   bindV (aBin p .eql 2 v35 (.int .i64 6005000)) fun v37 =>
   gV v37 true fun g38 =>
   gV v37 true fun g39 =>
   bindS (wS g39 S36 (aCall p (cw W) S36 (.func (.func 11) #[] #[]) #[(wV g38 v5)])) fun v40 S41 =>
   gV v37 true fun g42 =>
   bindV (wO g42 (aBin p .eql 2 v40 (.int .i64 2000))) fun v43 =>
   bindV (aPick v37 v43 (.bool false)) fun v44 =>
   gV v44 true fun g45 =>
   gV v44 true fun g46 =>
   bindV (wO g46 (aBin p .eql 30 (wV g45 v22) (.int .i64 0))) fun v47 =>
   bindV (aPick v44 v47 (.bool false)) fun v48 =>
   gV v48 true fun g49 =>
   gV v48 true fun g50 =>
   bindV (wO g50 (aBin p .eql 30 (wV g49 v25) (.int .i64 0))) fun v51 =>
   bindV (aPick v48 v51 (.bool false)) fun v52 =>
   gV v52 true fun g53 =>
   gV v52 true fun g54 =>
   bindV (wO g54 (aBin p .eql 2 (wV g53 v29) (.int .i64 (-300)))) fun v55 =>
   bindV (aPick v52 v55 (.bool false)) fun v56 =>
   gV v56 true fun g57 =>
   gV v56 true fun g58 =>
   bindV (wO g58 (aBin p .eql 27 (wV g57 v30) (.int .u32 7))) fun v59 =>
   bindV (aPick v56 v59 (.bool false)) fun v60 =>
   gV v60 true fun g61 =>
   gV v60 true fun g62 =>
   bindV (wO g62 (aBin p .eql 3 (wV g61 v31) (.int .i64 2))) fun v63 =>
   bindV (aPick v60 v63 (.bool false)) fun v64 =>
   gV v64 true fun g65 =>
   gV v64 true fun g66 =>
   bindV (wO g66 (aBin p .eql 30 (wV g65 v33) (.int .i64 4))) fun v67 =>
   bindV (aPick v64 v67 (.bool false)) fun v68 =>
   some (v68, S41)
  )
  := (fn_eq Try.func7 rfl ok7 _ _).trans (by kernel_rfl)
noncomputable abbrev f8 := Try.f8
noncomputable def c8 : Code := bodyOf f8
theorem ok8 : codeOk p c8 = true := by kernel_rfl
theorem eq8 (W : World) (x0 : Value) (S : St) : cw W 8 #[x0] S =
 bindS (aBox S x0) fun v1 S2 =>
 bindV (aLoad p W S2 26 v1) fun v3 =>
 bindS (aCall p (cw W) S2 (.func (.func 16) #[] #[]) #[v3]) fun v4 S5 =>
 bindV (aBin p .neq 3 v4 (.int .i64 0)) fun v6 =>
 condK v6
  (
   some (.tuple #[(.pointer none), (.int .i64 1)], S5)
  )
  (
   bindV (aFieldAddr p 26 v1 1) fun v7 =>
   bindV (aLoad p W S5 2 v7) fun v8 =>
   bindV (aFieldAddr p 26 v1 2) fun v9 =>
   bindV (aLoad p W S5 2 v9) fun v10 =>
   bindV (aBin p .mul 2 (.int .i64 2) v10) fun v11 =>
   bindV (aFieldAddr p 26 v1 3) fun v12 =>
   bindV (aLoad p W S5 2 v12) fun v13 =>
   bindV (aBin p .add 2 v11 v13) fun v14 =>
   bindV (aFieldAddr p 26 v1 3) fun v15 =>
   bindV (aLoad p W S5 2 v15) fun v16 =>
   bindV (aFieldAddr p 26 v1 4) fun v17 =>
   bindV (aLoad p W S5 2 v17) fun v18 =>
   bindV (aBin p .mul 2 (.int .i64 2) v18) fun v19 =>
   bindV (aBin p .add 2 v16 v19) fun v20 =>
   bindV (aBuild p 54 #[(0, v8), (1, v14), (2, v20)]) fun v21 =>
   bindS (aBox S5 v21) fun v22 S23 =>
   some (.tuple #[v22, (.int .i64 0)], S23)
  )
  := (fn_eq Try.func8 rfl ok8 _ _).trans (by kernel_rfl)
noncomputable abbrev f9 := Try.f9
noncomputable def c9 : Code := bodyOf f9
theorem ok9 : codeOk p c9 = true := by kernel_rfl
theorem eq9 (W : World) (x0 x1 : Value) (S : St) : cw W 9 #[x0, x1] S =
 gcR #[x0, x1] S (
 bindV (aBin p .eql 29 x0 (.pointer none)) fun v1 =>
 gV v1 false fun g2 =>
 gV v1 false fun g3 =>
 bindV (wO g3 (aBin p .lss 2 (wV g2 x1) (.int .i64 0))) fun v4 =>
 bindV (aPick v1 (.bool true) v4) fun v5 =>
 gV v5 false fun g6 =>
 gV v5 false fun g7 =>
 gV v5 false fun g8 =>
 bindV (wO g8 (aNil (wV g7 x0))) fun v9 =>
 gV v5 false fun g10 =>
 bindV (wO g10 (aFieldAddr p 54 v9 0)) fun v11 =>
 gV v5 false fun g12 =>
 bindV (wO g12 (aLoad p W S 2 v11)) fun v13 =>
 gV v5 false fun g14 =>
 bindV (wO g14 (aBin p .quo 2 (.int .i64 1125899906842624) v13)) fun v15 =>
 gV v5 false fun g16 =>
 bindV (wO g16 (aBin p .gtr 2 (wV g6 x1) v15)) fun v17 =>
 bindV (aPick v5 (.bool true) v17) fun v18 =>
 condK v18
  (
   some ((.int .i64 0), S)
  )
  (
   bindV (aNil x0) fun v19 =>
   bindV (aFieldAddr p 54 v19 0) fun v20 =>
   bindV (aLoad p W S 2 v20) fun v21 =>
   bindV (aBin p .mul 2 x1 v21) fun v22 =>
   bindV (aNil x0) fun v23 =>
   bindV (aFieldAddr p 54 v23 1) fun v24 =>
   bindV (aLoad p W S 2 v24) fun v25 =>
   bindV (aBin p .add 2 v22 v25) fun v26 =>
   some (v26, S)
  )
 )
  := (fn_eq Try.func9 rfl ok9 _ _).trans (by kernel_rfl)
noncomputable abbrev f11 := Try.f11
noncomputable def c11 : Code := bodyOf f11
theorem ok11 : codeOk p c11 = true := by kernel_rfl
theorem eq11 (W : World) (x0 : Value) (S : St) : cw W 11 #[x0] S =
 gcR #[x0] S (
 bindV (aBin p .eql 29 x0 (.pointer none)) fun v1 =>
 condK v1
  (
   some ((.int .i64 0), S)
  )
  (
   bindV (aNil x0) fun v2 =>
   bindV (aFieldAddr p 54 v2 2) fun v3 =>
   bindV (aLoad p W S 2 v3) fun v4 =>
   some (v4, S)
  )
 )
  := (fn_eq Try.func11 rfl ok11 _ _).trans (by kernel_rfl)
noncomputable abbrev f12 := Try.f12
noncomputable def c12 : Code := bodyOf f12
theorem ok12 : codeOk p c12 = true := by kernel_rfl
noncomputable def c12_11010 : Code := codeAt [1, 1, 0, 1, 0, 0] c12
theorem ok12_11010 : codeOk p c12_11010 = true := by kernel_rfl
noncomputable def l12_11010 (W : World) (y0 y1 y2 y3 y4 y5 y6 y7 y9 y10 y11 y13 y14 y15 y16 y17 y18 y19 y20 y21 y22 y23 y24 y25 y26 y27 y28 y29 y30 y31 y32 y33 y34 y35 y36 y37 y38 y39 y40 y41 y42 y43 y44 y45 y46 y47 y48 y49 y50 y51 y52 y53 y54 y64 y65 y66 y67 y68 y69 y70 y71 y72 y73 y74 y75 y76 y77 y78 y79 y80 y81 y82 y83 y84 y85 y86 y87 y88 y89 y90 y91 y92 y93 y94 : Value) (S : St) : Out := la W c12_11010 ⟨#[y0, y1, y2, y3, y4, y5, y6, y7, junk, y9, y10, y11, junk, y13, y14, y15, y16, y17, y18, y19, y20, y21, y22, y23, y24, y25, y26, y27, y28, y29, y30, y31, y32, y33, y34, y35, y36, y37, y38, y39, y40, y41, y42, y43, y44, y45, y46, y47, y48, y49, y50, y51, y52, y53, y54, junk, junk, junk, junk, junk, junk, junk, junk, junk, y64, y65, y66, y67, y68, y69, y70, y71, y72, y73, y74, y75, y76, y77, y78, y79, y80, y81, y82, y83, y84, y85, y86, y87, y88, y89, y90, y91, y92, y93, y94], []⟩ S
theorem eq12 (W : World) (x0 x1 x2 x3 : Value) (S : St) : cw W 12 #[x0, x1, x2, x3] S =
 bindS (aBox S x3) fun v1 S2 =>
 bindV (aLoad p W S2 38 v1) fun v3 =>
 bindS (aCall p (cw W) S2 (.func (.func 17) #[] #[]) #[v3]) fun v4 S5 =>
 bindV (still p (Instr.extract v4 0)) fun v6 =>
 bindV (still p (Instr.extract v4 1)) fun v7 =>
 bindV (aBin p .eql 29 x0 (.pointer none)) fun v8 =>
 gV v8 false fun g9 =>
 gV v8 false fun g10 =>
 bindV (wO g10 (aBin p .neq 30 (wV g9 v7) (.int .i64 0))) fun v11 =>
 bindV (aPick v8 (.bool true) v11) fun v12 =>
 gV v12 false fun g13 =>
 bindV (wO g13 (aFieldAddr p 38 v1 0)) fun v14 =>
 gV v12 false fun g15 =>
 bindV (wO g15 (aLoad p W S5 3 v14)) fun v16 =>
 gV v12 false fun g17 =>
 bindV (wO g17 (aBin p .neq 3 v16 (.int .i64 2))) fun v18 =>
 bindV (aPick v12 (.bool true) v18) fun v19 =>
 gV v19 false fun g20 =>
 bindV (wO g20 (aFieldAddr p 38 v1 1)) fun v21 =>
 gV v19 false fun g22 =>
 bindV (wO g22 (aLoad p W S5 3 v21)) fun v23 =>
 gV v19 false fun g24 =>
 bindV (wO g24 (aBin p .lss 3 v23 (.int .i64 6))) fun v25 =>
 bindV (aPick v19 (.bool true) v25) fun v26 =>
 gV v26 false fun g27 =>
 bindV (wO g27 (aFieldAddr p 38 v1 3)) fun v28 =>
 gV v26 false fun g29 =>
 bindV (wO g29 (aLoad p W S5 27 v28)) fun v30 =>
 gV v26 false fun g31 =>
 bindV (wO g31 (aBin p .eql 27 v30 (.int .u32 0))) fun v32 =>
 bindV (aPick v26 (.bool true) v32) fun v33 =>
 gV v33 false fun g34 =>
 gV v33 false fun g35 =>
 bindS (wS g35 S5 (aCall p (cw W) S5 (.func (.func 18) #[] #[]) #[(wV g34 x1)])) fun v36 S37 =>
 bindV (aPick v33 (.bool true) v36) fun v38 =>
 gV v38 false fun g39 =>
 gV v38 false fun g40 =>
 bindS (wS g40 S37 (aCall p (cw W) S37 (.func (.func 18) #[] #[]) #[(wV g39 x2)])) fun v41 S42 =>
 bindV (aPick v38 (.bool true) v41) fun v43 =>
 condK v43
  (
   some ((.int .i64 1), S42)
  )
  (
   bindV (aNil x0) fun v44 =>
   bindV (aFieldAddr p 54 v44 3) fun v45 =>
   bindV (aLoad p W S42 52 v45) fun v46 =>
   bindV (aLen p W S42 #[52] #[v46]) fun v47 =>
   bindO (l12_11010 W x0 x1 x2 x3 undef undef undef v1 v6 v7 undef undef undef v4 v3 v4 v6 v7 x0 v8 v8 (wV g9 v7) v11 v12 v12 v14 v16 v18 v19 v19 v21 v23 v25 v26 v26 v28 v30 v32 v33 v33 (wV g34 x1) v36 v38 v38 (wV g39 x2) v41 v43 x0 v44 v45 v46 v47 (.int .i64 0) undef undef undef undef undef undef undef undef undef undef undef undef undef undef undef undef undef undef undef undef undef undef undef undef undef undef undef undef undef undef undef S42) (kc W c12 [1, 1, 0, 1, 0] f12)
  )
  := (fn_eq Try.func12 rfl ok12 _ _).trans (by kernel_rfl)
theorem r12_11010 (W : World) (y0 y1 y2 y3 y4 y5 y6 y7 y9 y10 y11 y13 y14 y15 y16 y17 y18 y19 y20 y21 y22 y23 y24 y25 y26 y27 y28 y29 y30 y31 y32 y33 y34 y35 y36 y37 y38 y39 y40 y41 y42 y43 y44 y45 y46 y47 y48 y49 y50 y51 y52 y53 y54 y64 y65 y66 y67 y68 y69 y70 y71 y72 y73 y74 y75 y76 y77 y78 y79 y80 y81 y82 y83 y84 y85 y86 y87 y88 y89 y90 y91 y92 y93 y94 : Value) (S : St) : l12_11010 W y0 y1 y2 y3 y4 y5 y6 y7 y9 y10 y11 y13 y14 y15 y16 y17 y18 y19 y20 y21 y22 y23 y24 y25 y26 y27 y28 y29 y30 y31 y32 y33 y34 y35 y36 y37 y38 y39 y40 y41 y42 y43 y44 y45 y46 y47 y48 y49 y50 y51 y52 y53 y54 y64 y65 y66 y67 y68 y69 y70 y71 y72 y73 y74 y75 y76 y77 y78 y79 y80 y81 y82 y83 y84 y85 y86 y87 y88 y89 y90 y91 y92 y93 y94 S =
 bindV (aBin p .lss 3 y54 y53) fun v48 =>
 condK v48
  (
   bindV (aIndexAddr p 52 y52 y54) fun v49 =>
   bindV (aLoad p W S 60 v49) fun v50 =>
   bindS (aAlloc p S 60) fun v51 S52 =>
   bindT (aStore p S52 60 v51 v50) fun S53 =>
   bindV (aFieldAddr p 60 v51 2) fun v54 =>
   bindV (aLoad p W S53 3 v54) fun v55 =>
   bindV (aFieldAddr p 38 y7 1) fun v56 =>
   bindV (aLoad p W S53 3 v56) fun v57 =>
   bindV (aBin p .eql 3 v55 v57) fun v58 =>
   condK v58
    (
     some (.ret, ⟨#[y0, y1, y2, y3, y4, y5, y6, y7, (.int .i64 7), y9, y10, y11, v51, y13, y14, y15, y16, y17, y18, y19, y20, y21, y22, y23, y24, y25, y26, y27, y28, y29, y30, y31, y32, y33, y34, y35, y36, y37, y38, y39, y40, y41, y42, y43, y44, y45, y46, y47, y48, y49, y50, y51, y52, y53, y54, v48, v49, v50, v54, v55, v56, v57, v58, junk, y64, y65, y66, y67, y68, y69, y70, y71, y72, y73, y74, y75, y76, y77, y78, y79, y80, y81, y82, y83, y84, y85, y86, y87, y88, y89, y90, y91, y92, y93, y94], []⟩, S53)
    )
    (
     bindV (aBin p .add 3 y54 (.int .i64 1)) fun v59 =>
     l12_11010 W y0 y1 y2 y3 y4 y5 y6 y7 y9 y10 y11 y13 y14 y15 y16 y17 y18 y19 y20 y21 y22 y23 y24 y25 y26 y27 y28 y29 y30 y31 y32 y33 y34 y35 y36 y37 y38 y39 y40 y41 y42 y43 y44 y45 y46 y47 y48 y49 y50 y51 y52 y53 v59 y64 y65 y66 y67 y68 y69 y70 y71 y72 y73 y74 y75 y76 y77 y78 y79 y80 y81 y82 y83 y84 y85 y86 y87 y88 y89 y90 y91 y92 y93 y94 S53
    )
  )
  (
   some (.exit 0, ⟨#[y0, y1, y2, y3, y4, y5, y6, y7, junk, y9, y10, y11, junk, y13, y14, y15, y16, y17, y18, y19, y20, y21, y22, y23, y24, y25, y26, y27, y28, y29, y30, y31, y32, y33, y34, y35, y36, y37, y38, y39, y40, y41, y42, y43, y44, y45, y46, y47, y48, y49, y50, y51, y52, y53, y54, v48, junk, junk, junk, junk, junk, junk, junk, junk, y64, y65, y66, y67, y68, y69, y70, y71, y72, y73, y74, y75, y76, y77, y78, y79, y80, y81, y82, y83, y84, y85, y86, y87, y88, y89, y90, y91, y92, y93, y94], []⟩, S)
  )
  := (round_eq ok12_11010 ⟨#[y0, y1, y2, y3, y4, y5, y6, y7, junk, y9, y10, y11, junk, y13, y14, y15, y16, y17, y18, y19, y20, y21, y22, y23, y24, y25, y26, y27, y28, y29, y30, y31, y32, y33, y34, y35, y36, y37, y38, y39, y40, y41, y42, y43, y44, y45, y46, y47, y48, y49, y50, y51, y52, y53, y54, junk, junk, junk, junk, junk, junk, junk, junk, junk, y64, y65, y66, y67, y68, y69, y70, y71, y72, y73, y74, y75, y76, y77, y78, y79, y80, y81, y82, y83, y84, y85, y86, y87, y88, y89, y90, y91, y92, y93, y94], []⟩ S).trans (by kernel_rfl)
theorem k12_11010_0 (W : World) (y0 y1 y2 y3 y4 y5 y6 y7 y8 y9 y10 y11 y12 y13 y14 y15 y16 y17 y18 y19 y20 y21 y22 y23 y24 y25 y26 y27 y28 y29 y30 y31 y32 y33 y34 y35 y36 y37 y38 y39 y40 y41 y42 y43 y44 y45 y46 y47 y48 y49 y50 y51 y52 y53 y54 y55 y56 y57 y58 y59 y60 y61 y62 y63 y64 y65 y66 y67 y68 y69 y70 y71 y72 y73 y74 y75 y76 y77 y78 y79 y80 y81 y82 y83 y84 y85 y86 y87 y88 y89 y90 y91 y92 y93 y94 : Value) (S : St) : kc W c12 [1, 1, 0, 1, 0] f12 (.exit 0) ⟨#[y0, y1, y2, y3, y4, y5, y6, y7, y8, y9, y10, y11, y12, y13, y14, y15, y16, y17, y18, y19, y20, y21, y22, y23, y24, y25, y26, y27, y28, y29, y30, y31, y32, y33, y34, y35, y36, y37, y38, y39, y40, y41, y42, y43, y44, y45, y46, y47, y48, y49, y50, y51, y52, y53, y54, y55, y56, y57, y58, y59, y60, y61, y62, y63, y64, y65, y66, y67, y68, y69, y70, y71, y72, y73, y74, y75, y76, y77, y78, y79, y80, y81, y82, y83, y84, y85, y86, y87, y88, y89, y90, y91, y92, y93, y94], []⟩ S =
 bindS (aCall p (cw W) S (.func (.func 19) #[] #[]) #[y0, y1, y2]) fun v1 S2 =>
 bindV (still p (Instr.extract v1 0)) fun v3 =>
 bindV (still p (Instr.extract v1 1)) fun v4 =>
 bindV (aFieldAddr p 38 y7 2) fun v5 =>
 bindV (aLoad p W S2 2 v5) fun v6 =>
 bindV (aBin p .neq 2 v6 y1) fun v7 =>
 gV v7 false fun g8 =>
 gV v7 false fun g9 =>
 bindV (wO g9 (aUn p .not (wV g8 v4))) fun v10 =>
 bindV (aPick v7 (.bool true) v10) fun v11 =>
 condK v11
  (
   some ((.int .i64 4), S2)
  )
  (
   bindV (aNil y0) fun v12 =>
   bindV (aFieldAddr p 54 v12 3) fun v13 =>
   bindV (aLoad p W S2 52 v13) fun v14 =>
   bindV (aUn p .neg v3) fun v15 =>
   bindV (aFieldAddr p 38 y7 3) fun v16 =>
   bindV (aLoad p W S2 27 v16) fun v17 =>
   bindV (aFieldAddr p 38 y7 1) fun v18 =>
   bindV (aLoad p W S2 3 v18) fun v19 =>
   bindV (aBuild p 60 #[(0, v15), (1, v17), (2, v19)]) fun v20 =>
   bindS (qS true S2 fun S_ => aBuildSlice p S_ 52 1 #[(0, v20)]) fun v21 S22 =>
   bindS (aBuiltin p W S22 .append #[52, 52] #[v14, v21]) fun v23 S24 =>
   bindV (aNil y0) fun v25 =>
   bindV (aFieldAddr p 54 v25 3) fun v26 =>
   bindT (aStore p S24 52 v26 v23) fun S27 =>
   some ((.int .i64 0), S27)
  )
  := by kernel_rfl
theorem k12_11010_ret (W : World) (y0 y1 y2 y3 y4 y5 y6 y7 y8 y9 y10 y11 y12 y13 y14 y15 y16 y17 y18 y19 y20 y21 y22 y23 y24 y25 y26 y27 y28 y29 y30 y31 y32 y33 y34 y35 y36 y37 y38 y39 y40 y41 y42 y43 y44 y45 y46 y47 y48 y49 y50 y51 y52 y53 y54 y55 y56 y57 y58 y59 y60 y61 y62 y63 y64 y65 y66 y67 y68 y69 y70 y71 y72 y73 y74 y75 y76 y77 y78 y79 y80 y81 y82 y83 y84 y85 y86 y87 y88 y89 y90 y91 y92 y93 y94 : Value) (S : St) : kc W c12 [1, 1, 0, 1, 0] f12 (.ret) ⟨#[y0, y1, y2, y3, y4, y5, y6, y7, y8, y9, y10, y11, y12, y13, y14, y15, y16, y17, y18, y19, y20, y21, y22, y23, y24, y25, y26, y27, y28, y29, y30, y31, y32, y33, y34, y35, y36, y37, y38, y39, y40, y41, y42, y43, y44, y45, y46, y47, y48, y49, y50, y51, y52, y53, y54, y55, y56, y57, y58, y59, y60, y61, y62, y63, y64, y65, y66, y67, y68, y69, y70, y71, y72, y73, y74, y75, y76, y77, y78, y79, y80, y81, y82, y83, y84, y85, y86, y87, y88, y89, y90, y91, y92, y93, y94], []⟩ S =
 some (y8, S)
  := by kernel_rfl
end Go.Proofs.Yteofdikfdknpbaa.F
end
section
namespace Go.Proofs.Yteofdikfdknpbaa.F
open Go Go.Proofs.Yteofdikfdknpbaa.E
set_option linter.unusedVariables false
@[simp] theorem call_7 (W : World) (S : St) (args : Array Value) : aCall p (cw W) S (.func (.func 7) #[] #[]) args = cw W 7 args S := call_fn (by kernel_rfl) S args
@[simp] theorem call_8 (W : World) (S : St) (args : Array Value) : aCall p (cw W) S (.func (.func 8) #[] #[]) args = cw W 8 args S := call_fn (by kernel_rfl) S args
@[simp] theorem call_9 (W : World) (S : St) (args : Array Value) : aCall p (cw W) S (.func (.func 9) #[] #[]) args = cw W 9 args S := call_fn (by kernel_rfl) S args
@[simp] theorem call_10 (W : World) (S : St) (args : Array Value) : aCall p (cw W) S (.func (.func 10) #[] #[]) args = cw W 10 args S := call_fn (by kernel_rfl) S args
@[simp] theorem call_11 (W : World) (S : St) (args : Array Value) : aCall p (cw W) S (.func (.func 11) #[] #[]) args = cw W 11 args S := call_fn (by kernel_rfl) S args
@[simp] theorem call_12 (W : World) (S : St) (args : Array Value) : aCall p (cw W) S (.func (.func 12) #[] #[]) args = cw W 12 args S := call_fn (by kernel_rfl) S args
@[simp] theorem call_13 (W : World) (S : St) (args : Array Value) : aCall p (cw W) S (.func (.func 13) #[] #[]) args = cw W 13 args S := call_fn (by kernel_rfl) S args
@[simp] theorem call_14 (W : World) (S : St) (args : Array Value) : aCall p (cw W) S (.func (.func 14) #[] #[]) args = cw W 14 args S := call_fn (by kernel_rfl) S args
@[simp] theorem call_15 (W : World) (S : St) (args : Array Value) : aCall p (cw W) S (.func (.func 15) #[] #[]) args = cw W 15 args S := call_fn (by kernel_rfl) S args
@[simp] theorem call_16 (W : World) (S : St) (args : Array Value) : aCall p (cw W) S (.func (.func 16) #[] #[]) args = cw W 16 args S := call_fn (by kernel_rfl) S args
@[simp] theorem call_17 (W : World) (S : St) (args : Array Value) : aCall p (cw W) S (.func (.func 17) #[] #[]) args = cw W 17 args S := call_fn (by kernel_rfl) S args
@[simp] theorem call_18 (W : World) (S : St) (args : Array Value) : aCall p (cw W) S (.func (.func 18) #[] #[]) args = cw W 18 args S := call_fn (by kernel_rfl) S args
@[simp] theorem call_19 (W : World) (S : St) (args : Array Value) : aCall p (cw W) S (.func (.func 19) #[] #[]) args = cw W 19 args S := call_fn (by kernel_rfl) S args
@[simp] theorem call_20 (W : World) (S : St) (args : Array Value) : aCall p (cw W) S (.func (.func 20) #[] #[]) args = cw W 20 args S := call_fn (by kernel_rfl) S args
@[simp] theorem call_21 (W : World) (S : St) (args : Array Value) : aCall p (cw W) S (.func (.func 21) #[] #[]) args = cw W 21 args S := call_fn (by kernel_rfl) S args
@[simp] theorem call_22 (W : World) (S : St) (args : Array Value) : aCall p (cw W) S (.func (.func 22) #[] #[]) args = cw W 22 args S := call_fn (by kernel_rfl) S args
@[simp] theorem call_23 (W : World) (S : St) (args : Array Value) : aCall p (cw W) S (.func (.func 23) #[] #[]) args = cw W 23 args S := call_fn (by kernel_rfl) S args
@[simp] theorem call_24 (W : World) (S : St) (args : Array Value) : aCall p (cw W) S (.func (.func 24) #[] #[]) args = cw W 24 args S := call_fn (by kernel_rfl) S args
@[simp] theorem call_25 (W : World) (S : St) (args : Array Value) : aCall p (cw W) S (.func (.func 25) #[] #[]) args = cw W 25 args S := call_fn (by kernel_rfl) S args
@[simp] theorem call_26 (W : World) (S : St) (args : Array Value) : aCall p (cw W) S (.func (.func 26) #[] #[]) args = cw W 26 args S := call_fn (by kernel_rfl) S args
@[simp] theorem call_28 (W : World) (S : St) (args : Array Value) : aCall p (cw W) S (.func (.func 28) #[] #[]) args = cw W 28 args S := call_fn (by kernel_rfl) S args
@[simp] theorem call_29 (W : World) (S : St) (args : Array Value) : aCall p (cw W) S (.func (.func 29) #[] #[]) args = cw W 29 args S := call_fn (by kernel_rfl) S args
@[simp] theorem call_30 (W : World) (S : St) (args : Array Value) : aCall p (cw W) S (.func (.func 30) #[] #[]) args = cw W 30 args S := call_fn (by kernel_rfl) S args
@[simp] theorem call_31 (W : World) (S : St) (args : Array Value) : aCall p (cw W) S (.func (.func 31) #[] #[]) args = cw W 31 args S := call_fn (by kernel_rfl) S args
@[simp] theorem call_32 (W : World) (S : St) (args : Array Value) : aCall p (cw W) S (.func (.func 32) #[] #[]) args = cw W 32 args S := call_fn (by kernel_rfl) S args
@[simp] theorem call_33 (W : World) (S : St) (args : Array Value) : aCall p (cw W) S (.func (.func 33) #[] #[]) args = cw W 33 args S := call_fn (by kernel_rfl) S args
@[simp] theorem call_35 (W : World) (S : St) (args : Array Value) : aCall p (cw W) S (.func (.func 35) #[] #[]) args = cw W 35 args S := call_fn (by kernel_rfl) S args
@[simp] theorem call_37 (W : World) (S : St) (args : Array Value) : aCall p (cw W) S (.func (.func 37) #[] #[]) args = cw W 37 args S := call_fn (by kernel_rfl) S args
@[simp] theorem call_39 (W : World) (S : St) (args : Array Value) : aCall p (cw W) S (.func (.func 39) #[] #[]) args = cw W 39 args S := call_fn (by kernel_rfl) S args
@[simp] theorem call_40 (W : World) (S : St) (args : Array Value) : aCall p (cw W) S (.func (.func 40) #[] #[]) args = cw W 40 args S := call_fn (by kernel_rfl) S args
@[simp] theorem call_43 (W : World) (S : St) (args : Array Value) : aCall p (cw W) S (.func (.func 43) #[] #[]) args = cw W 43 args S := call_fn (by kernel_rfl) S args
@[simp] theorem call_44 (W : World) (S : St) (args : Array Value) : aCall p (cw W) S (.func (.func 44) #[] #[]) args = cw W 44 args S := call_fn (by kernel_rfl) S args
@[simp] theorem call_45 (W : World) (S : St) (args : Array Value) : aCall p (cw W) S (.func (.func 45) #[] #[]) args = cw W 45 args S := call_fn (by kernel_rfl) S args
@[simp] theorem call_47 (W : World) (S : St) (args : Array Value) : aCall p (cw W) S (.func (.func 47) #[] #[]) args = cw W 47 args S := call_fn (by kernel_rfl) S args
@[simp] theorem call_49 (W : World) (S : St) (args : Array Value) : aCall p (cw W) S (.func (.func 49) #[] #[]) args = cw W 49 args S := call_fn (by kernel_rfl) S args
@[simp] theorem call_50 (W : World) (S : St) (args : Array Value) : aCall p (cw W) S (.func (.func 50) #[] #[]) args = cw W 50 args S := call_fn (by kernel_rfl) S args
@[simp] theorem call_51 (W : World) (S : St) (args : Array Value) : aCall p (cw W) S (.func (.func 51) #[] #[]) args = cw W 51 args S := call_fn (by kernel_rfl) S args
@[simp] theorem call_52 (W : World) (S : St) (args : Array Value) : aCall p (cw W) S (.func (.func 52) #[] #[]) args = cw W 52 args S := call_fn (by kernel_rfl) S args
@[simp] theorem call_53 (W : World) (S : St) (args : Array Value) : aCall p (cw W) S (.func (.func 53) #[] #[]) args = cw W 53 args S := call_fn (by kernel_rfl) S args
@[simp] theorem call_54 (W : World) (S : St) (args : Array Value) : aCall p (cw W) S (.func (.func 54) #[] #[]) args = cw W 54 args S := call_fn (by kernel_rfl) S args
@[simp] theorem call_55 (W : World) (S : St) (args : Array Value) : aCall p (cw W) S (.func (.func 55) #[] #[]) args = cw W 55 args S := call_fn (by kernel_rfl) S args
@[simp] theorem call_56 (W : World) (S : St) (args : Array Value) : aCall p (cw W) S (.func (.func 56) #[] #[]) args = cw W 56 args S := call_fn (by kernel_rfl) S args
@[simp] theorem call_57 (W : World) (S : St) (args : Array Value) : aCall p (cw W) S (.func (.func 57) #[] #[]) args = cw W 57 args S := call_fn (by kernel_rfl) S args
@[simp] theorem call_58 (W : World) (S : St) (args : Array Value) : aCall p (cw W) S (.func (.func 58) #[] #[]) args = cw W 58 args S := call_fn (by kernel_rfl) S args
@[simp] theorem clo_27 (W : World) (S : St) (x0 x1 : Value) : aCall p (cw W) S (.func (.func 27) #[] #[x1]) #[x0] = cw W 27 #[x0, x1] S := by kernel_rfl
@[simp] theorem clo_34 (W : World) (S : St) (x0 x1 : Value) : aCall p (cw W) S (.func (.func 34) #[] #[x1]) #[x0] = cw W 34 #[x0, x1] S := by kernel_rfl
@[simp] theorem clo_36 (W : World) (S : St) (x0 x1 : Value) : aCall p (cw W) S (.func (.func 36) #[] #[x1]) #[x0] = cw W 36 #[x0, x1] S := by kernel_rfl
@[simp] theorem clo_38 (W : World) (S : St) (x0 x1 : Value) : aCall p (cw W) S (.func (.func 38) #[] #[x1]) #[x0] = cw W 38 #[x0, x1] S := by kernel_rfl
@[simp] theorem clo_41 (W : World) (S : St) (x0 x1 : Value) : aCall p (cw W) S (.func (.func 41) #[] #[x1]) #[x0] = cw W 41 #[x0, x1] S := by kernel_rfl
@[simp] theorem clo_42 (W : World) (S : St) (x0 x1 : Value) : aCall p (cw W) S (.func (.func 42) #[] #[x1]) #[x0] = cw W 42 #[x0, x1] S := by kernel_rfl
@[simp] theorem clo_46 (W : World) (S : St) (x0 x1 x2 : Value) : aCall p (cw W) S (.func (.func 46) #[] #[x2]) #[x0, x1] = cw W 46 #[x0, x1, x2] S := by kernel_rfl
@[simp] theorem clo_48 (W : World) (S : St) (x0 x1 x2 : Value) : aCall p (cw W) S (.func (.func 48) #[] #[x2]) #[x0, x1] = cw W 48 #[x0, x1, x2] S := by kernel_rfl
@[simp] theorem clo_59 (W : World) (S : St) (x0 x1 x2 : Value) : aCall p (cw W) S (.func (.func 59) #[] #[x1, x2]) #[x0] = cw W 59 #[x0, x1, x2] S := by kernel_rfl
theorem sz_2 : szOf p 2 = some 1 := by kernel_rfl
@[simp] theorem ld_2 (W : World) (S : St) (a : Addr) : aLoad p W S 2 (.pointer (some a)) = S.cell W a := by kernel_rfl
@[simp] theorem st_2 (S : St) (a : Addr) (k : IntKind) (i : Int) : aStore p S 2 (.pointer (some a)) (.int k i) = S.put a [.int k i] := store_mk (by exact sz_2) rfl
theorem sz_3 : szOf p 3 = some 1 := by kernel_rfl
@[simp] theorem ld_3 (W : World) (S : St) (a : Addr) : aLoad p W S 3 (.pointer (some a)) = S.cell W a := by kernel_rfl
@[simp] theorem st_3 (S : St) (a : Addr) (k : IntKind) (i : Int) : aStore p S 3 (.pointer (some a)) (.int k i) = S.put a [.int k i] := store_mk (by exact sz_3) rfl
theorem sz_4 : szOf p 4 = some 1 := by kernel_rfl
@[simp] theorem ld_4 (W : World) (S : St) (a : Addr) : aLoad p W S 4 (.pointer (some a)) = S.cell W a := by kernel_rfl
@[simp] theorem st_4 (S : St) (a : Addr) (i : Bool) : aStore p S 4 (.pointer (some a)) (.bool i) = S.put a [.bool i] := store_mk (by exact sz_4) rfl
@[simp] theorem beql_4 (a b : Bool) : aBin p .eql 4 (.bool a) (.bool b) = some (.bool (a == b)) := bin_bool_eql Try.underlying4 a b
@[simp] theorem bneq_4 (a b : Bool) : aBin p .neq 4 (.bool a) (.bool b) = some (.bool (a != b)) := bin_bool_neq Try.underlying4 a b
theorem sz_5 : szOf p 5 = some 1 := by kernel_rfl
@[simp] theorem ld_5 (W : World) (S : St) (a : Addr) : aLoad p W S 5 (.pointer (some a)) = S.cell W a := by kernel_rfl
@[simp] theorem st_5 (S : St) (a : Addr) (k : IntKind) (i : Int) : aStore p S 5 (.pointer (some a)) (.int k i) = S.put a [.int k i] := store_mk (by exact sz_5) rfl
theorem sz_9 : szOf p 9 = some 1 := by kernel_rfl
@[simp] theorem ld_9 (W : World) (S : St) (a : Addr) : aLoad p W S 9 (.pointer (some a)) = S.cell W a := by kernel_rfl
@[simp] theorem st_9 (S : St) (a : Addr) (i : ByteArray) : aStore p S 9 (.pointer (some a)) (.string i) = S.put a [.string i] := store_mk (by exact sz_9) rfl
@[simp] theorem len_9 (W : World) (S : St) (s : ByteArray) : aLen p W S #[9] #[.string s] = some (.int .i64 s.size) := len_str Try.underlying9 S s
theorem sz_21 : szOf p 21 = some 1 := by kernel_rfl
@[simp] theorem ld_21 (W : World) (S : St) (a : Addr) : aLoad p W S 21 (.pointer (some a)) = S.cell W a := by kernel_rfl
@[simp] theorem st_21 (S : St) (a : Addr) (k : IntKind) (i : Int) : aStore p S 21 (.pointer (some a)) (.int k i) = S.put a [.int k i] := store_mk (by exact sz_21) rfl
theorem sz_22 : szOf p 22 = some 1 := by kernel_rfl
@[simp] theorem ld_22 (W : World) (S : St) (a : Addr) : aLoad p W S 22 (.pointer (some a)) = S.cell W a := by kernel_rfl
@[simp] theorem st_22 (S : St) (a : Addr) (x : Option Addr) (n c : Nat) : aStore p S 22 (.pointer (some a)) (.slice x n c) = S.put a [.slice x n c] := store_mk (by exact sz_22) rfl
@[simp] theorem len_22 (W : World) (S : St) (a : Option Addr) (n c : Nat) : aLen p W S #[22] #[.slice a n c] = some (.int .i64 n) := len_slice Try.underlying22 S a n c
@[simp] theorem ix_22 (b o n c : Nat) (k : IntKind) (i : Int) (h0 : 0 ≤ i) (h1 : i < n) : aIndexAddr p 22 (.slice (some ⟨b, o, none⟩) n c) (.int k i) = some (.pointer (some ⟨b, o + i.toNat * 1, none⟩)) := (index_mk Try.underlying22 (by kernel_rfl) h0 h1).trans (by rw [add_mk])
@[simp] theorem bsl_22 (a : Option Addr) (l c l2 c2 : Nat) : aBin p .eql 22 (.slice a l c) (.slice none l2 c2) = some (.bool a.isNone) := bin_sl_eql Try.underlying22 a l c l2 c2
theorem sz_23 : szOf p 23 = some 1 := by kernel_rfl
@[simp] theorem ld_23 (W : World) (S : St) (a : Addr) : aLoad p W S 23 (.pointer (some a)) = S.cell W a := by kernel_rfl
@[simp] theorem st_23 (S : St) (a : Addr) (x : Option Addr) (n c : Nat) : aStore p S 23 (.pointer (some a)) (.slice x n c) = S.put a [.slice x n c] := store_mk (by exact sz_23) rfl
@[simp] theorem len_23 (W : World) (S : St) (a : Option Addr) (n c : Nat) : aLen p W S #[23] #[.slice a n c] = some (.int .i64 n) := len_slice Try.underlying23 S a n c
@[simp] theorem ix_23 (b o n c : Nat) (k : IntKind) (i : Int) (h0 : 0 ≤ i) (h1 : i < n) : aIndexAddr p 23 (.slice (some ⟨b, o, none⟩) n c) (.int k i) = some (.pointer (some ⟨b, o + i.toNat * 4, none⟩)) := (index_mk Try.underlying23 (by kernel_rfl) h0 h1).trans (by rw [add_mk])
@[simp] theorem bsl_23 (a : Option Addr) (l c l2 c2 : Nat) : aBin p .eql 23 (.slice a l c) (.slice none l2 c2) = some (.bool a.isNone) := bin_sl_eql Try.underlying23 a l c l2 c2
theorem sz_24 : szOf p 24 = some 1 := by kernel_rfl
@[simp] theorem ld_24 (W : World) (S : St) (a : Addr) : aLoad p W S 24 (.pointer (some a)) = S.cell W a := by kernel_rfl
@[simp] theorem st_24 (S : St) (a : Addr) (x : Option Addr) (n c : Nat) : aStore p S 24 (.pointer (some a)) (.slice x n c) = S.put a [.slice x n c] := store_mk (by exact sz_24) rfl
@[simp] theorem len_24 (W : World) (S : St) (a : Option Addr) (n c : Nat) : aLen p W S #[24] #[.slice a n c] = some (.int .i64 n) := len_slice Try.underlying24 S a n c
@[simp] theorem ix_24 (b o n c : Nat) (k : IntKind) (i : Int) (h0 : 0 ≤ i) (h1 : i < n) : aIndexAddr p 24 (.slice (some ⟨b, o, none⟩) n c) (.int k i) = some (.pointer (some ⟨b, o + i.toNat * 4, none⟩)) := (index_mk Try.underlying24 (by kernel_rfl) h0 h1).trans (by rw [add_mk])
@[simp] theorem bsl_24 (a : Option Addr) (l c l2 c2 : Nat) : aBin p .eql 24 (.slice a l c) (.slice none l2 c2) = some (.bool a.isNone) := bin_sl_eql Try.underlying24 a l c l2 c2
theorem sz_26 : szOf p 26 = some 9 := by kernel_rfl
@[simp] theorem fa_26_0 (b o : Nat) : aFieldAddr p 26 (.pointer (some ⟨b, o, none⟩)) 0 = some (.pointer (some ⟨b, o, none⟩)) := by kernel_rfl
@[simp] theorem fa_26_1 (b o : Nat) : aFieldAddr p 26 (.pointer (some ⟨b, o, none⟩)) 1 = some (.pointer (some ⟨b, o + 1, none⟩)) := by kernel_rfl
@[simp] theorem fa_26_2 (b o : Nat) : aFieldAddr p 26 (.pointer (some ⟨b, o, none⟩)) 2 = some (.pointer (some ⟨b, o + 2, none⟩)) := by kernel_rfl
@[simp] theorem fa_26_3 (b o : Nat) : aFieldAddr p 26 (.pointer (some ⟨b, o, none⟩)) 3 = some (.pointer (some ⟨b, o + 3, none⟩)) := by kernel_rfl
@[simp] theorem fa_26_4 (b o : Nat) : aFieldAddr p 26 (.pointer (some ⟨b, o, none⟩)) 4 = some (.pointer (some ⟨b, o + 4, none⟩)) := by kernel_rfl
@[simp] theorem fa_26_5 (b o : Nat) : aFieldAddr p 26 (.pointer (some ⟨b, o, none⟩)) 5 = some (.pointer (some ⟨b, o + 5, none⟩)) := by kernel_rfl
@[simp] theorem fa_26_6 (b o : Nat) : aFieldAddr p 26 (.pointer (some ⟨b, o, none⟩)) 6 = some (.pointer (some ⟨b, o + 6, none⟩)) := by kernel_rfl
@[simp] theorem fa_26_7 (b o : Nat) : aFieldAddr p 26 (.pointer (some ⟨b, o, none⟩)) 7 = some (.pointer (some ⟨b, o + 7, none⟩)) := by kernel_rfl
@[simp] theorem fa_26_8 (b o : Nat) : aFieldAddr p 26 (.pointer (some ⟨b, o, none⟩)) 8 = some (.pointer (some ⟨b, o + 8, none⟩)) := by kernel_rfl
@[simp] theorem ld_26 (W : World) (S : St) (a : Addr) : aLoad p W S 26 (.pointer (some a)) = aggOf (S.cells W a 9) := by kernel_rfl
@[simp] theorem st_26 (S : St) (a : Addr) (x0 x1 x2 x3 x4 x5 x6 x7 x8 : Value) : aStore p S 26 (.pointer (some a)) (.agg #[x0, x1, x2, x3, x4, x5, x6, x7, x8]) = S.put a [x0, x1, x2, x3, x4, x5, x6, x7, x8] := store_mk (by exact sz_26) rfl
theorem sz_27 : szOf p 27 = some 1 := by kernel_rfl
@[simp] theorem ld_27 (W : World) (S : St) (a : Addr) : aLoad p W S 27 (.pointer (some a)) = S.cell W a := by kernel_rfl
@[simp] theorem st_27 (S : St) (a : Addr) (k : IntKind) (i : Int) : aStore p S 27 (.pointer (some a)) (.int k i) = S.put a [.int k i] := store_mk (by exact sz_27) rfl
theorem sz_29 : szOf p 29 = some 1 := by kernel_rfl
@[simp] theorem ld_29 (W : World) (S : St) (a : Addr) : aLoad p W S 29 (.pointer (some a)) = S.cell W a := by kernel_rfl
@[simp] theorem st_29 (S : St) (a : Addr) (x : Option Addr) : aStore p S 29 (.pointer (some a)) (.pointer x) = S.put a [.pointer x] := store_mk (by exact sz_29) rfl
@[simp] theorem beql_29 (a : Option Addr) : aBin p .eql 29 (.pointer a) (.pointer none) = some (.bool a.isNone) := bin_ptr_eql Try.underlying29 a
@[simp] theorem bneq_29 (a : Option Addr) : aBin p .neq 29 (.pointer a) (.pointer none) = some (.bool (!a.isNone)) := bin_ptr_neq Try.underlying29 a
theorem sz_30 : szOf p 30 = some 1 := by kernel_rfl
@[simp] theorem ld_30 (W : World) (S : St) (a : Addr) : aLoad p W S 30 (.pointer (some a)) = S.cell W a := by kernel_rfl
@[simp] theorem st_30 (S : St) (a : Addr) (k : IntKind) (i : Int) : aStore p S 30 (.pointer (some a)) (.int k i) = S.put a [.int k i] := store_mk (by exact sz_30) rfl
theorem sz_38 : szOf p 38 = some 5 := by kernel_rfl
@[simp] theorem fa_38_0 (b o : Nat) : aFieldAddr p 38 (.pointer (some ⟨b, o, none⟩)) 0 = some (.pointer (some ⟨b, o, none⟩)) := by kernel_rfl
@[simp] theorem fa_38_1 (b o : Nat) : aFieldAddr p 38 (.pointer (some ⟨b, o, none⟩)) 1 = some (.pointer (some ⟨b, o + 1, none⟩)) := by kernel_rfl
@[simp] theorem fa_38_2 (b o : Nat) : aFieldAddr p 38 (.pointer (some ⟨b, o, none⟩)) 2 = some (.pointer (some ⟨b, o + 2, none⟩)) := by kernel_rfl
@[simp] theorem fa_38_3 (b o : Nat) : aFieldAddr p 38 (.pointer (some ⟨b, o, none⟩)) 3 = some (.pointer (some ⟨b, o + 3, none⟩)) := by kernel_rfl
@[simp] theorem fa_38_4 (b o : Nat) : aFieldAddr p 38 (.pointer (some ⟨b, o, none⟩)) 4 = some (.pointer (some ⟨b, o + 4, none⟩)) := by kernel_rfl
@[simp] theorem ld_38 (W : World) (S : St) (a : Addr) : aLoad p W S 38 (.pointer (some a)) = aggOf (S.cells W a 5) := by kernel_rfl
@[simp] theorem st_38 (S : St) (a : Addr) (x0 x1 x2 x3 x4 : Value) : aStore p S 38 (.pointer (some a)) (.agg #[x0, x1, x2, x3, x4]) = S.put a [x0, x1, x2, x3, x4] := store_mk (by exact sz_38) rfl
theorem sz_42 : szOf p 42 = some 2 := by kernel_rfl
@[simp] theorem ld_42 (W : World) (S : St) (a : Addr) : aLoad p W S 42 (.pointer (some a)) = aggOf (S.cells W a 2) := by kernel_rfl
@[simp] theorem st_42 (S : St) (a : Addr) (x0 x1 : Value) : aStore p S 42 (.pointer (some a)) (.agg #[x0, x1]) = S.put a [x0, x1] := store_mk (by exact sz_42) rfl
@[simp] theorem ixa_42 (b o : Nat) (k : IntKind) (i : Int) (h0 : 0 ≤ i) (h1 : i < 2) : aIndexAddr p 42 (.pointer (some ⟨b, o, none⟩)) (.int k i) = some (.pointer (some ⟨b, o + i.toNat * 1, none⟩)) := (index_arr Try.underlying42 (by kernel_rfl) h0 h1).trans (by rw [add_mk])
theorem sz_44 : szOf p 44 = some 2 := by kernel_rfl
@[simp] theorem ld_44 (W : World) (S : St) (a : Addr) : aLoad p W S 44 (.pointer (some a)) = aggOf (S.cells W a 2) := by kernel_rfl
@[simp] theorem st_44 (S : St) (a : Addr) (x0 x1 : Value) : aStore p S 44 (.pointer (some a)) (.agg #[x0, x1]) = S.put a [x0, x1] := store_mk (by exact sz_44) rfl
@[simp] theorem ixa_44 (b o : Nat) (k : IntKind) (i : Int) (h0 : 0 ≤ i) (h1 : i < 2) : aIndexAddr p 44 (.pointer (some ⟨b, o, none⟩)) (.int k i) = some (.pointer (some ⟨b, o + i.toNat * 1, none⟩)) := (index_arr Try.underlying44 (by kernel_rfl) h0 h1).trans (by rw [add_mk])
theorem sz_45 : szOf p 45 = some 2 := by kernel_rfl
@[simp] theorem ld_45 (W : World) (S : St) (a : Addr) : aLoad p W S 45 (.pointer (some a)) = aggOf (S.cells W a 2) := by kernel_rfl
@[simp] theorem st_45 (S : St) (a : Addr) (x0 x1 : Value) : aStore p S 45 (.pointer (some a)) (.agg #[x0, x1]) = S.put a [x0, x1] := store_mk (by exact sz_45) rfl
@[simp] theorem ixa_45 (b o : Nat) (k : IntKind) (i : Int) (h0 : 0 ≤ i) (h1 : i < 2) : aIndexAddr p 45 (.pointer (some ⟨b, o, none⟩)) (.int k i) = some (.pointer (some ⟨b, o + i.toNat * 1, none⟩)) := (index_arr Try.underlying45 (by kernel_rfl) h0 h1).trans (by rw [add_mk])
theorem sz_47 : szOf p 47 = some 2 := by kernel_rfl
@[simp] theorem ld_47 (W : World) (S : St) (a : Addr) : aLoad p W S 47 (.pointer (some a)) = aggOf (S.cells W a 2) := by kernel_rfl
@[simp] theorem st_47 (S : St) (a : Addr) (x0 x1 : Value) : aStore p S 47 (.pointer (some a)) (.agg #[x0, x1]) = S.put a [x0, x1] := store_mk (by exact sz_47) rfl
@[simp] theorem ixa_47 (b o : Nat) (k : IntKind) (i : Int) (h0 : 0 ≤ i) (h1 : i < 2) : aIndexAddr p 47 (.pointer (some ⟨b, o, none⟩)) (.int k i) = some (.pointer (some ⟨b, o + i.toNat * 1, none⟩)) := (index_arr Try.underlying47 (by kernel_rfl) h0 h1).trans (by rw [add_mk])
theorem sz_52 : szOf p 52 = some 1 := by kernel_rfl
@[simp] theorem ld_52 (W : World) (S : St) (a : Addr) : aLoad p W S 52 (.pointer (some a)) = S.cell W a := by kernel_rfl
@[simp] theorem st_52 (S : St) (a : Addr) (x : Option Addr) (n c : Nat) : aStore p S 52 (.pointer (some a)) (.slice x n c) = S.put a [.slice x n c] := store_mk (by exact sz_52) rfl
@[simp] theorem len_52 (W : World) (S : St) (a : Option Addr) (n c : Nat) : aLen p W S #[52] #[.slice a n c] = some (.int .i64 n) := len_slice Try.underlying52 S a n c
@[simp] theorem ix_52 (b o n c : Nat) (k : IntKind) (i : Int) (h0 : 0 ≤ i) (h1 : i < n) : aIndexAddr p 52 (.slice (some ⟨b, o, none⟩) n c) (.int k i) = some (.pointer (some ⟨b, o + i.toNat * 3, none⟩)) := (index_mk Try.underlying52 (by kernel_rfl) h0 h1).trans (by rw [add_mk])
@[simp] theorem bsl_52 (a : Option Addr) (l c l2 c2 : Nat) : aBin p .eql 52 (.slice a l c) (.slice none l2 c2) = some (.bool a.isNone) := bin_sl_eql Try.underlying52 a l c l2 c2
theorem sz_54 : szOf p 54 = some 4 := by kernel_rfl
@[simp] theorem fa_54_0 (b o : Nat) : aFieldAddr p 54 (.pointer (some ⟨b, o, none⟩)) 0 = some (.pointer (some ⟨b, o, none⟩)) := by kernel_rfl
@[simp] theorem fa_54_1 (b o : Nat) : aFieldAddr p 54 (.pointer (some ⟨b, o, none⟩)) 1 = some (.pointer (some ⟨b, o + 1, none⟩)) := by kernel_rfl
@[simp] theorem fa_54_2 (b o : Nat) : aFieldAddr p 54 (.pointer (some ⟨b, o, none⟩)) 2 = some (.pointer (some ⟨b, o + 2, none⟩)) := by kernel_rfl
@[simp] theorem fa_54_3 (b o : Nat) : aFieldAddr p 54 (.pointer (some ⟨b, o, none⟩)) 3 = some (.pointer (some ⟨b, o + 3, none⟩)) := by kernel_rfl
@[simp] theorem ld_54 (W : World) (S : St) (a : Addr) : aLoad p W S 54 (.pointer (some a)) = aggOf (S.cells W a 4) := by kernel_rfl
@[simp] theorem st_54 (S : St) (a : Addr) (x0 x1 x2 x3 : Value) : aStore p S 54 (.pointer (some a)) (.agg #[x0, x1, x2, x3]) = S.put a [x0, x1, x2, x3] := store_mk (by exact sz_54) rfl
theorem sz_55 : szOf p 55 = some 1 := by kernel_rfl
@[simp] theorem ld_55 (W : World) (S : St) (a : Addr) : aLoad p W S 55 (.pointer (some a)) = S.cell W a := by kernel_rfl
@[simp] theorem st_55 (S : St) (a : Addr) (x : Option Addr) (n c : Nat) : aStore p S 55 (.pointer (some a)) (.slice x n c) = S.put a [.slice x n c] := store_mk (by exact sz_55) rfl
@[simp] theorem len_55 (W : World) (S : St) (a : Option Addr) (n c : Nat) : aLen p W S #[55] #[.slice a n c] = some (.int .i64 n) := len_slice Try.underlying55 S a n c
@[simp] theorem ix_55 (b o n c : Nat) (k : IntKind) (i : Int) (h0 : 0 ≤ i) (h1 : i < n) : aIndexAddr p 55 (.slice (some ⟨b, o, none⟩) n c) (.int k i) = some (.pointer (some ⟨b, o + i.toNat * 1, none⟩)) := (index_mk Try.underlying55 (by kernel_rfl) h0 h1).trans (by rw [add_mk])
@[simp] theorem bsl_55 (a : Option Addr) (l c l2 c2 : Nat) : aBin p .eql 55 (.slice a l c) (.slice none l2 c2) = some (.bool a.isNone) := bin_sl_eql Try.underlying55 a l c l2 c2
theorem sz_60 : szOf p 60 = some 3 := by kernel_rfl
@[simp] theorem fa_60_0 (b o : Nat) : aFieldAddr p 60 (.pointer (some ⟨b, o, none⟩)) 0 = some (.pointer (some ⟨b, o, none⟩)) := by kernel_rfl
@[simp] theorem fa_60_1 (b o : Nat) : aFieldAddr p 60 (.pointer (some ⟨b, o, none⟩)) 1 = some (.pointer (some ⟨b, o + 1, none⟩)) := by kernel_rfl
@[simp] theorem fa_60_2 (b o : Nat) : aFieldAddr p 60 (.pointer (some ⟨b, o, none⟩)) 2 = some (.pointer (some ⟨b, o + 2, none⟩)) := by kernel_rfl
@[simp] theorem ld_60 (W : World) (S : St) (a : Addr) : aLoad p W S 60 (.pointer (some a)) = aggOf (S.cells W a 3) := by kernel_rfl
@[simp] theorem st_60 (S : St) (a : Addr) (x0 x1 x2 : Value) : aStore p S 60 (.pointer (some a)) (.agg #[x0, x1, x2]) = S.put a [x0, x1, x2] := store_mk (by exact sz_60) rfl
theorem sz_64 : szOf p 64 = some 1 := by kernel_rfl
@[simp] theorem ld_64 (W : World) (S : St) (a : Addr) : aLoad p W S 64 (.pointer (some a)) = S.cell W a := by kernel_rfl
@[simp] theorem st_64 (S : St) (a : Addr) (x : Option Addr) (n c : Nat) : aStore p S 64 (.pointer (some a)) (.slice x n c) = S.put a [.slice x n c] := store_mk (by exact sz_64) rfl
@[simp] theorem len_64 (W : World) (S : St) (a : Option Addr) (n c : Nat) : aLen p W S #[64] #[.slice a n c] = some (.int .i64 n) := len_slice Try.underlying64 S a n c
@[simp] theorem ix_64 (b o n c : Nat) (k : IntKind) (i : Int) (h0 : 0 ≤ i) (h1 : i < n) : aIndexAddr p 64 (.slice (some ⟨b, o, none⟩) n c) (.int k i) = some (.pointer (some ⟨b, o + i.toNat * 1, none⟩)) := (index_mk Try.underlying64 (by kernel_rfl) h0 h1).trans (by rw [add_mk])
@[simp] theorem bsl_64 (a : Option Addr) (l c l2 c2 : Nat) : aBin p .eql 64 (.slice a l c) (.slice none l2 c2) = some (.bool a.isNone) := bin_sl_eql Try.underlying64 a l c l2 c2
theorem sz_65 : szOf p 65 = some 1 := by kernel_rfl
@[simp] theorem ld_65 (W : World) (S : St) (a : Addr) : aLoad p W S 65 (.pointer (some a)) = S.cell W a := by kernel_rfl
@[simp] theorem st_65 (S : St) (a : Addr) (x : Option Addr) (n c : Nat) : aStore p S 65 (.pointer (some a)) (.slice x n c) = S.put a [.slice x n c] := store_mk (by exact sz_65) rfl
@[simp] theorem len_65 (W : World) (S : St) (a : Option Addr) (n c : Nat) : aLen p W S #[65] #[.slice a n c] = some (.int .i64 n) := len_slice Try.underlying65 S a n c
@[simp] theorem ix_65 (b o n c : Nat) (k : IntKind) (i : Int) (h0 : 0 ≤ i) (h1 : i < n) : aIndexAddr p 65 (.slice (some ⟨b, o, none⟩) n c) (.int k i) = some (.pointer (some ⟨b, o + i.toNat * 1, none⟩)) := (index_mk Try.underlying65 (by kernel_rfl) h0 h1).trans (by rw [add_mk])
@[simp] theorem bsl_65 (a : Option Addr) (l c l2 c2 : Nat) : aBin p .eql 65 (.slice a l c) (.slice none l2 c2) = some (.bool a.isNone) := bin_sl_eql Try.underlying65 a l c l2 c2
theorem sz_68 : szOf p 68 = some 4 := by kernel_rfl
@[simp] theorem fa_68_0 (b o : Nat) : aFieldAddr p 68 (.pointer (some ⟨b, o, none⟩)) 0 = some (.pointer (some ⟨b, o, none⟩)) := by kernel_rfl
@[simp] theorem fa_68_1 (b o : Nat) : aFieldAddr p 68 (.pointer (some ⟨b, o, none⟩)) 1 = some (.pointer (some ⟨b, o + 1, none⟩)) := by kernel_rfl
@[simp] theorem fa_68_2 (b o : Nat) : aFieldAddr p 68 (.pointer (some ⟨b, o, none⟩)) 2 = some (.pointer (some ⟨b, o + 2, none⟩)) := by kernel_rfl
@[simp] theorem fa_68_3 (b o : Nat) : aFieldAddr p 68 (.pointer (some ⟨b, o, none⟩)) 3 = some (.pointer (some ⟨b, o + 3, none⟩)) := by kernel_rfl
@[simp] theorem ld_68 (W : World) (S : St) (a : Addr) : aLoad p W S 68 (.pointer (some a)) = aggOf (S.cells W a 4) := by kernel_rfl
@[simp] theorem st_68 (S : St) (a : Addr) (x0 x1 x2 x3 : Value) : aStore p S 68 (.pointer (some a)) (.agg #[x0, x1, x2, x3]) = S.put a [x0, x1, x2, x3] := store_mk (by exact sz_68) rfl
theorem sz_73 : szOf p 73 = some 4 := by kernel_rfl
@[simp] theorem fa_73_0 (b o : Nat) : aFieldAddr p 73 (.pointer (some ⟨b, o, none⟩)) 0 = some (.pointer (some ⟨b, o, none⟩)) := by kernel_rfl
@[simp] theorem fa_73_1 (b o : Nat) : aFieldAddr p 73 (.pointer (some ⟨b, o, none⟩)) 1 = some (.pointer (some ⟨b, o + 1, none⟩)) := by kernel_rfl
@[simp] theorem fa_73_2 (b o : Nat) : aFieldAddr p 73 (.pointer (some ⟨b, o, none⟩)) 2 = some (.pointer (some ⟨b, o + 2, none⟩)) := by kernel_rfl
@[simp] theorem fa_73_3 (b o : Nat) : aFieldAddr p 73 (.pointer (some ⟨b, o, none⟩)) 3 = some (.pointer (some ⟨b, o + 3, none⟩)) := by kernel_rfl
@[simp] theorem ld_73 (W : World) (S : St) (a : Addr) : aLoad p W S 73 (.pointer (some a)) = aggOf (S.cells W a 4) := by kernel_rfl
@[simp] theorem st_73 (S : St) (a : Addr) (x0 x1 x2 x3 : Value) : aStore p S 73 (.pointer (some a)) (.agg #[x0, x1, x2, x3]) = S.put a [x0, x1, x2, x3] := store_mk (by exact sz_73) rfl
theorem sz_78 : szOf p 78 = some 1 := by kernel_rfl
@[simp] theorem ld_78 (W : World) (S : St) (a : Addr) : aLoad p W S 78 (.pointer (some a)) = S.cell W a := by kernel_rfl
@[simp] theorem st_78 (S : St) (a : Addr) (k : IntKind) (i : Int) : aStore p S 78 (.pointer (some a)) (.int k i) = S.put a [.int k i] := store_mk (by exact sz_78) rfl
theorem sz_83 : szOf p 83 = some 1 := by kernel_rfl
@[simp] theorem ld_83 (W : World) (S : St) (a : Addr) : aLoad p W S 83 (.pointer (some a)) = S.cell W a := by kernel_rfl
@[simp] theorem st_83 (S : St) (a : Addr) (f : Fn) (u v : Array Value) : aStore p S 83 (.pointer (some a)) (.func f u v) = S.put a [.func f u v] := store_mk (by exact sz_83) rfl
theorem sz_89 : szOf p 89 = some 1 := by kernel_rfl
@[simp] theorem ld_89 (W : World) (S : St) (a : Addr) : aLoad p W S 89 (.pointer (some a)) = S.cell W a := by kernel_rfl
@[simp] theorem st_89 (S : St) (a : Addr) (f : Fn) (u v : Array Value) : aStore p S 89 (.pointer (some a)) (.func f u v) = S.put a [.func f u v] := store_mk (by exact sz_89) rfl
theorem sz_91 : szOf p 91 = some 1 := by kernel_rfl
@[simp] theorem ld_91 (W : World) (S : St) (a : Addr) : aLoad p W S 91 (.pointer (some a)) = S.cell W a := by kernel_rfl
@[simp] theorem st_91 (S : St) (a : Addr) (k : IntKind) (i : Int) : aStore p S 91 (.pointer (some a)) (.int k i) = S.put a [.int k i] := store_mk (by exact sz_91) rfl
@[simp] theorem al_26 (S : St) : aAlloc p S 26 = some (.pointer (some ⟨S.c, 0, none⟩), S.new (.row [.int .i64 0, .int .i64 0, .int .i64 0, .int .i64 0, .int .i64 0, .slice none 0 0, .slice none 0 0, .slice none 0 0, .int .i64 0] 0)) := by kernel_rfl
@[simp] theorem al_38 (S : St) : aAlloc p S 38 = some (.pointer (some ⟨S.c, 0, none⟩), S.new (.row [.int .i64 0, .int .i64 0, .int .i64 0, .int .u32 0, .int .i64 0] 0)) := by kernel_rfl
@[simp] theorem al_47 (S : St) : aAlloc p S 47 = some (.pointer (some ⟨S.c, 0, none⟩), S.new (.row [.int .i64 0, .int .i64 0] 0)) := by kernel_rfl
@[simp] theorem al_60 (S : St) : aAlloc p S 60 = some (.pointer (some ⟨S.c, 0, none⟩), S.new (.row [.int .i64 0, .int .u32 0, .int .i64 0] 0)) := by kernel_rfl
@[simp] theorem al_68 (S : St) : aAlloc p S 68 = some (.pointer (some ⟨S.c, 0, none⟩), S.new (.row [.int .i64 0, .int .u32 0, .int .i64 0, .int .i64 0] 0)) := by kernel_rfl
@[simp] theorem al_83 (S : St) : aAlloc p S 83 = some (.pointer (some ⟨S.c, 0, none⟩), S.new (.row [.nilFunc] 0)) := by kernel_rfl
@[simp] theorem bu_26_  : aBuild p 26 #[] = some (.agg #[.int .i64 0, .int .i64 0, .int .i64 0, .int .i64 0, .int .i64 0, .slice none 0 0, .slice none 0 0, .slice none 0 0, .int .i64 0]) := by kernel_rfl
@[simp] theorem bu_26_0_1_2_3_4_8 (i0 : Int) (i1 : Int) (i2 : Int) (i3 : Int) (i4 : Int) (i8 : Int) : aBuild p 26 #[(0, .int .i64 i0), (1, .int .i64 i1), (2, .int .i64 i2), (3, .int .i64 i3), (4, .int .i64 i4), (8, .int .i64 i8)] = some (.agg #[.int .i64 i0, .int .i64 i1, .int .i64 i2, .int .i64 i3, .int .i64 i4, .slice none 0 0, .slice none 0 0, .slice none 0 0, .int .i64 i8]) := by kernel_rfl
@[simp] theorem bu_38_  : aBuild p 38 #[] = some (.agg #[.int .i64 0, .int .i64 0, .int .i64 0, .int .u32 0, .int .i64 0]) := by kernel_rfl
@[simp] theorem bu_38_0_1_2_3 (i0 : Int) (i1 : Int) (i2 : Int) (i3 : Int) : aBuild p 38 #[(0, .int .i64 i0), (1, .int .i64 i1), (2, .int .i64 i2), (3, .int .u32 i3)] = some (.agg #[.int .i64 i0, .int .i64 i1, .int .i64 i2, .int .u32 i3, .int .i64 0]) := by kernel_rfl
@[simp] theorem bu_54_0_1_2 (i0 : Int) (i1 : Int) (i2 : Int) : aBuild p 54 #[(0, .int .i64 i0), (1, .int .i64 i1), (2, .int .i64 i2)] = some (.agg #[.int .i64 i0, .int .i64 i1, .int .i64 i2, .slice none 0 0]) := by kernel_rfl
@[simp] theorem bu_60_0_1_2 (i0 : Int) (i1 : Int) (i2 : Int) : aBuild p 60 #[(0, .int .i64 i0), (1, .int .u32 i1), (2, .int .i64 i2)] = some (.agg #[.int .i64 i0, .int .u32 i1, .int .i64 i2]) := by kernel_rfl
@[simp] theorem bu_68_0_1_2_3 (i0 : Int) (i1 : Int) (i2 : Int) (i3 : Int) : aBuild p 68 #[(0, .int .i64 i0), (1, .int .u32 i1), (2, .int .i64 i2), (3, .int .i64 i3)] = some (.agg #[.int .i64 i0, .int .u32 i1, .int .i64 i2, .int .i64 i3]) := by kernel_rfl
@[simp] theorem bs_22_1_0 (S : St) (i0 : Option Addr) (n0 c0 : Nat) : aBuildSlice p S 22 1 #[(0, .slice i0 n0 c0)] = some (.slice (some ⟨S.c, 0, none⟩) 1 1, S.new (.row [.slice i0 n0 c0] 0)) := by kernel_rfl
@[simp] theorem bs_23_1_0 (S : St) (x0_0 x0_1 x0_2 x0_3 : Value) : aBuildSlice p S 23 1 #[(0, .agg #[x0_0, x0_1, x0_2, x0_3])] = some (.slice (some ⟨S.c, 0, none⟩) 1 1, S.new (.row [x0_0, x0_1, x0_2, x0_3] 0)) := by kernel_rfl
@[simp] theorem bs_52_1_0 (S : St) (x0_0 x0_1 x0_2 : Value) : aBuildSlice p S 52 1 #[(0, .agg #[x0_0, x0_1, x0_2])] = some (.slice (some ⟨S.c, 0, none⟩) 1 1, S.new (.row [x0_0, x0_1, x0_2] 0)) := by kernel_rfl
@[simp] theorem bs_55_1_0 (S : St) (i0 : Int) : aBuildSlice p S 55 1 #[(0, .int .u8 i0)] = some (.slice (some ⟨S.c, 0, none⟩) 1 1, S.new (.row [.int .u8 i0] 0)) := by kernel_rfl
@[simp] theorem bs_55_4_0_1_2_3 (S : St) (i0 : Int) (i1 : Int) (i2 : Int) (i3 : Int) : aBuildSlice p S 55 4 #[(0, .int .u8 i0), (1, .int .u8 i1), (2, .int .u8 i2), (3, .int .u8 i3)] = some (.slice (some ⟨S.c, 0, none⟩) 4 4, S.new (.row [.int .u8 i0, .int .u8 i1, .int .u8 i2, .int .u8 i3] 0)) := by kernel_rfl
@[simp] theorem bs_64_1_0 (S : St) (i0 : Int) : aBuildSlice p S 64 1 #[(0, .int .i64 i0)] = some (.slice (some ⟨S.c, 0, none⟩) 1 1, S.new (.row [.int .i64 i0] 0)) := by kernel_rfl
@[simp] theorem bs_65_2_0_1 (S : St) (i0 : Int) (i1 : Int) : aBuildSlice p S 65 2 #[(0, .int .i64 i0), (1, .int .i64 i1)] = some (.slice (some ⟨S.c, 0, none⟩) 2 2, S.new (.row [.int .i64 i0, .int .i64 i1] 0)) := by kernel_rfl
@[simp] theorem cv_2_78 (W : World) (S : St) (k : IntKind) (x : Int) : aConv p W S 2 78 (.int k x) = some (.int .u64 (IntKind.u64.wrap x), S) := conv_int Try.underlying2 Try.underlying78 S k x
@[simp] theorem cv_3_5 (W : World) (S : St) (k : IntKind) (x : Int) : aConv p W S 3 5 (.int k x) = some (.int .u8 (IntKind.u8.wrap x), S) := conv_int Try.underlying3 Try.underlying5 S k x
@[simp] theorem cv_3_91 (W : World) (S : St) (k : IntKind) (x : Int) : aConv p W S 3 91 (.int k x) = some (.int .u64 (IntKind.u64.wrap x), S) := conv_int Try.underlying3 Try.underlying91 S k x
@[simp] theorem cv_5_2 (W : World) (S : St) (k : IntKind) (x : Int) : aConv p W S 5 2 (.int k x) = some (.int .i64 (IntKind.i64.wrap x), S) := conv_int Try.underlying5 Try.underlying2 S k x
@[simp] theorem cv_5_3 (W : World) (S : St) (k : IntKind) (x : Int) : aConv p W S 5 3 (.int k x) = some (.int .i64 (IntKind.i64.wrap x), S) := conv_int Try.underlying5 Try.underlying3 S k x
@[simp] theorem cv_5_27 (W : World) (S : St) (k : IntKind) (x : Int) : aConv p W S 5 27 (.int k x) = some (.int .u32 (IntKind.u32.wrap x), S) := conv_int Try.underlying5 Try.underlying27 S k x
@[simp] theorem cv_21_2 (W : World) (S : St) (k : IntKind) (x : Int) : aConv p W S 21 2 (.int k x) = some (.int .i64 (IntKind.i64.wrap x), S) := conv_int Try.underlying21 Try.underlying2 S k x
@[simp] theorem cv_27_2 (W : World) (S : St) (k : IntKind) (x : Int) : aConv p W S 27 2 (.int k x) = some (.int .i64 (IntKind.i64.wrap x), S) := conv_int Try.underlying27 Try.underlying2 S k x
@[simp] theorem cv_27_3 (W : World) (S : St) (k : IntKind) (x : Int) : aConv p W S 27 3 (.int k x) = some (.int .i64 (IntKind.i64.wrap x), S) := conv_int Try.underlying27 Try.underlying3 S k x
@[simp] theorem cv_27_78 (W : World) (S : St) (k : IntKind) (x : Int) : aConv p W S 27 78 (.int k x) = some (.int .u64 (IntKind.u64.wrap x), S) := conv_int Try.underlying27 Try.underlying78 S k x
@[simp] theorem cv_78_5 (W : World) (S : St) (k : IntKind) (x : Int) : aConv p W S 78 5 (.int k x) = some (.int .u8 (IntKind.u8.wrap x), S) := conv_int Try.underlying78 Try.underlying5 S k x
end Go.Proofs.Yteofdikfdknpbaa.F
end
section
namespace Go.Proofs.Yteofdikfdknpbaa.F
open Go Go.Proofs.Yteofdikfdknpbaa.E
set_option linter.unusedVariables false
set_option maxRecDepth 100000
noncomputable abbrev f13 := Try.f13
noncomputable def c13 : Code := bodyOf f13
theorem ok13 : codeOk p c13 = true := by kernel_rfl
noncomputable def c13_111010 : Code := codeAt [1, 1, 1, 0, 1, 0, 0] c13
theorem ok13_111010 : codeOk p c13_111010 = true := by kernel_rfl
noncomputable def l13_111010 (W : World) (y0 y1 y2 y3 y4 y5 y6 y8 y9 y10 y11 y12 y13 y14 y15 y16 y17 y18 y19 y20 y21 y22 y23 y24 y25 y26 y27 y28 y29 y30 y39 y40 y41 y42 y43 y44 y45 y46 y47 y48 y49 y50 y51 : Value) (S : St) : Out := la W c13_111010 ⟨#[y0, y1, y2, y3, y4, y5, y6, junk, y8, y9, y10, y11, y12, y13, y14, y15, y16, y17, y18, y19, y20, y21, y22, y23, y24, y25, y26, y27, y28, y29, y30, junk, junk, junk, junk, junk, junk, junk, junk, y39, y40, y41, y42, y43, y44, y45, y46, y47, y48, y49, y50, y51], []⟩ S
theorem eq13 (W : World) (x0 : Value) (S : St) : cw W 13 #[x0] S =
 bindV (aBin p .eql 29 x0 (.pointer none)) fun v1 =>
 gV v1 false fun g2 =>
 gV v1 false fun g3 =>
 bindV (wO g3 (aNil (wV g2 x0))) fun v4 =>
 gV v1 false fun g5 =>
 bindV (wO g5 (aFieldAddr p 54 v4 3)) fun v6 =>
 gV v1 false fun g7 =>
 bindV (wO g7 (aLoad p W S 52 v6)) fun v8 =>
 gV v1 false fun g9 =>
 bindV (wO g9 (aLen p W S #[52] #[v8])) fun v10 =>
 gV v1 false fun g11 =>
 bindV (wO g11 (aBin p .eql 3 v10 (.int .i64 0))) fun v12 =>
 bindV (aPick v1 (.bool true) v12) fun v13 =>
 condK v13
  (
   some (.tuple #[(.int .i64 0), (.int .u32 0), (.int .i64 0)], S)
  )
  (
   bindV (aNil x0) fun v14 =>
   bindV (aFieldAddr p 54 v14 3) fun v15 =>
   bindV (aLoad p W S 52 v15) fun v16 =>
   bindV (aIndexAddr p 52 v16 (.int .i64 0)) fun v17 =>
   bindV (aLoad p W S 60 v17) fun v18 =>
   bindS (aAlloc p S 60) fun v19 S20 =>
   bindT (aStore p S20 60 v19 v18) fun S21 =>
   bindV (aNil x0) fun v22 =>
   bindV (aFieldAddr p 54 v22 3) fun v23 =>
   bindV (aLoad p W S21 52 v23) fun v24 =>
   bindV (aSlice p W S21 52 v24 (some (.int .i64 1)) none none) fun v25 =>
   bindV (aLen p W S21 #[52] #[v25]) fun v26 =>
   bindO (l13_111010 W x0 undef (.int .i64 0) (.int .u32 0) (.int .i64 0) v19 undef x0 v1 v1 (wV g2 x0) v4 v6 v8 v10 v12 v13 x0 v14 v15 v16 v17 v18 x0 v22 v23 v24 v25 v26 (.int .i64 0) undef undef undef undef undef undef undef undef undef undef undef undef undef S21) (kc W c13 [1, 1, 1, 0, 1, 0] f13)
  )
  := (fn_eq Try.func13 rfl ok13 _ _).trans (by kernel_rfl)
theorem r13_111010 (W : World) (y0 y1 y2 y3 y4 y5 y6 y8 y9 y10 y11 y12 y13 y14 y15 y16 y17 y18 y19 y20 y21 y22 y23 y24 y25 y26 y27 y28 y29 y30 y39 y40 y41 y42 y43 y44 y45 y46 y47 y48 y49 y50 y51 : Value) (S : St) : l13_111010 W y0 y1 y2 y3 y4 y5 y6 y8 y9 y10 y11 y12 y13 y14 y15 y16 y17 y18 y19 y20 y21 y22 y23 y24 y25 y26 y27 y28 y29 y30 y39 y40 y41 y42 y43 y44 y45 y46 y47 y48 y49 y50 y51 S =
 bindV (aBin p .lss 3 y30 y29) fun v27 =>
 condK v27
  (
   bindV (aIndexAddr p 52 y28 y30) fun v28 =>
   bindV (aLoad p W S 60 v28) fun v29 =>
   bindS (aAlloc p S 60) fun v30 S31 =>
   bindT (aStore p S31 60 v30 v29) fun S32 =>
   bindV (aLoad p W S32 60 v30) fun v33 =>
   bindV (aLoad p W S32 60 y5) fun v34 =>
   bindS (aCall p (cw W) S32 (.func (.func 20) #[] #[]) #[v33, v34]) fun v35 S36 =>
   condK v35
    (
     bindV (aLoad p W S36 60 v30) fun v37 =>
     bindT (aStore p S36 60 y5 v37) fun S38 =>
     bindV (aBin p .add 3 y30 (.int .i64 1)) fun v39 =>
     l13_111010 W y0 y1 y2 y3 y4 y5 y6 y8 y9 y10 y11 y12 y13 y14 y15 y16 y17 y18 y19 y20 y21 y22 y23 y24 y25 y26 y27 y28 y29 v39 y39 y40 y41 y42 y43 y44 y45 y46 y47 y48 y49 y50 y51 S38
    )
    (
     bindV (aBin p .add 3 y30 (.int .i64 1)) fun v40 =>
     l13_111010 W y0 y1 y2 y3 y4 y5 y6 y8 y9 y10 y11 y12 y13 y14 y15 y16 y17 y18 y19 y20 y21 y22 y23 y24 y25 y26 y27 y28 y29 v40 y39 y40 y41 y42 y43 y44 y45 y46 y47 y48 y49 y50 y51 S36
    )
  )
  (
   some (.exit 0, ⟨#[y0, y1, y2, y3, y4, y5, y6, junk, y8, y9, y10, y11, y12, y13, y14, y15, y16, y17, y18, y19, y20, y21, y22, y23, y24, y25, y26, y27, y28, y29, y30, v27, junk, junk, junk, junk, junk, junk, junk, y39, y40, y41, y42, y43, y44, y45, y46, y47, y48, y49, y50, y51], []⟩, S)
  )
  := (round_eq ok13_111010 ⟨#[y0, y1, y2, y3, y4, y5, y6, junk, y8, y9, y10, y11, y12, y13, y14, y15, y16, y17, y18, y19, y20, y21, y22, y23, y24, y25, y26, y27, y28, y29, y30, junk, junk, junk, junk, junk, junk, junk, junk, y39, y40, y41, y42, y43, y44, y45, y46, y47, y48, y49, y50, y51], []⟩ S).trans (by kernel_rfl)
theorem k13_111010_0 (W : World) (y0 y1 y2 y3 y4 y5 y6 y7 y8 y9 y10 y11 y12 y13 y14 y15 y16 y17 y18 y19 y20 y21 y22 y23 y24 y25 y26 y27 y28 y29 y30 y31 y32 y33 y34 y35 y36 y37 y38 y39 y40 y41 y42 y43 y44 y45 y46 y47 y48 y49 y50 y51 : Value) (S : St) : kc W c13 [1, 1, 1, 0, 1, 0] f13 (.exit 0) ⟨#[y0, y1, y2, y3, y4, y5, y6, y7, y8, y9, y10, y11, y12, y13, y14, y15, y16, y17, y18, y19, y20, y21, y22, y23, y24, y25, y26, y27, y28, y29, y30, y31, y32, y33, y34, y35, y36, y37, y38, y39, y40, y41, y42, y43, y44, y45, y46, y47, y48, y49, y50, y51], []⟩ S =
 bindV (aNil y0) fun v1 =>
 bindV (aFieldAddr p 54 v1 3) fun v2 =>
 bindV (aLoad p W S 52 v2) fun v3 =>
 bindV (aLen p W S #[52] #[v3]) fun v4 =>
 bindV (aNil y0) fun v5 =>
 bindV (aFieldAddr p 54 v5 3) fun v6 =>
 bindT (aStore p S 52 v6 (.slice none 0 0)) fun S7 =>
 bindV (aFieldAddr p 60 y5 0) fun v8 =>
 bindV (aLoad p W S7 2 v8) fun v9 =>
 bindV (aFieldAddr p 60 y5 1) fun v10 =>
 bindV (aLoad p W S7 27 v10) fun v11 =>
 some (.tuple #[v9, v11, v4], S7)
  := by kernel_rfl
noncomputable abbrev f14 := Try.f14
noncomputable def c14 : Code := bodyOf f14
theorem ok14 : codeOk p c14 = true := by kernel_rfl
noncomputable def c14_11111010 : Code := codeAt [1, 1, 1, 1, 1, 0, 1, 0, 0] c14
theorem ok14_11111010 : codeOk p c14_11111010 = true := by kernel_rfl
noncomputable def l14_11111010 (W : World) (y0 y1 y2 y3 y4 y5 y6 y7 y8 y9 y10 y11 y12 y13 y14 y15 y38 y39 y40 y41 y42 y43 y44 y45 y46 y47 y48 y49 y50 y51 y52 y53 y54 y55 y56 y57 y58 y59 y60 y61 y62 y63 y64 y65 y66 y67 y68 y69 y70 y71 y72 : Value) (S : St) : Out := la W c14_11111010 ⟨#[y0, y1, y2, y3, y4, y5, y6, y7, y8, y9, y10, y11, y12, y13, y14, y15, junk, junk, junk, junk, junk, junk, junk, junk, junk, junk, junk, junk, junk, junk, junk, junk, junk, junk, junk, junk, junk, junk, y38, y39, y40, y41, y42, y43, y44, y45, y46, y47, y48, y49, y50, y51, y52, y53, y54, y55, y56, y57, y58, y59, y60, y61, y62, y63, y64, y65, y66, y67, y68, y69, y70, y71, y72], []⟩ S
noncomputable def c14_111111010 : Code := codeAt [1, 1, 1, 1, 1, 1, 0, 1, 0, 0] c14
theorem ok14_111111010 : codeOk p c14_111111010 = true := by kernel_rfl
noncomputable def l14_111111010 (W : World) (y0 y1 y2 y3 y4 y5 y6 y7 y8 y10 y11 y12 y13 y14 y15 y16 y17 y18 y19 y20 y21 y22 y23 y24 y25 y26 y27 y28 y29 y30 y31 y32 y33 y34 y35 y36 y37 y72 : Value) (S : St) : Out := la W c14_111111010 ⟨#[y0, y1, y2, y3, y4, y5, y6, y7, y8, junk, y10, y11, y12, y13, y14, y15, y16, y17, y18, y19, y20, y21, y22, y23, y24, y25, y26, y27, y28, y29, y30, y31, y32, y33, y34, y35, y36, y37, junk, junk, junk, junk, junk, junk, junk, junk, junk, junk, junk, junk, junk, junk, junk, junk, junk, junk, junk, junk, junk, junk, junk, junk, junk, junk, junk, junk, junk, junk, junk, junk, junk, junk, y72], []⟩ S
theorem eq14 (W : World) (x0 x1 : Value) (S : St) : cw W 14 #[x0, x1] S =
 bindS (aAlloc p S 26) fun v1 S2 =>
 bindV (aBin p .lss 3 x0 (.int .i64 1)) fun v3 =>
 condK v3
  (
   bindV (aBin p .gtr 3 (.int .i64 1) (.int .i64 6)) fun v4 =>
   condK v4
    (
     bindV (aBuild p 26 #[(0, (.int .i64 6)), (1, (.int .i64 2000000)), (2, (.int .i64 2000)), (3, (.int .i64 1000)), (4, (.int .i64 500)), (8, (.int .i64 8))]) fun v5 =>
     bindS (aAlloc p S2 26) fun v6 S7 =>
     bindT (aStore p S7 26 v6 v5) fun S8 =>
     bindO (l14_11111010 W (.int .i64 6) x1 undef undef v1 v6 (.slice none 0 0) (.int .i64 0) undef undef x0 v3 (.int .i64 1) v4 (.int .i64 6) v5 undef undef undef undef undef undef undef undef undef undef undef undef undef undef undef undef undef undef undef undef undef undef undef undef undef undef undef undef undef undef undef undef undef undef undef S8) (kc W c14 [1, 1, 1, 1, 1, 0, 1, 0] f14)
    )
    (
     bindV (aBuild p 26 #[(0, (.int .i64 1)), (1, (.int .i64 2000000)), (2, (.int .i64 2000)), (3, (.int .i64 1000)), (4, (.int .i64 500)), (8, (.int .i64 8))]) fun v9 =>
     bindS (aAlloc p S2 26) fun v10 S11 =>
     bindT (aStore p S11 26 v10 v9) fun S12 =>
     bindO (l14_11111010 W (.int .i64 1) x1 undef undef v1 v10 (.slice none 0 0) (.int .i64 0) undef undef x0 v3 (.int .i64 1) v4 (.int .i64 1) v9 undef undef undef undef undef undef undef undef undef undef undef undef undef undef undef undef undef undef undef undef undef undef undef undef undef undef undef undef undef undef undef undef undef undef undef S12) (kc W c14 [1, 1, 1, 1, 1, 0, 1, 0] f14)
    )
  )
  (
   bindV (aBin p .gtr 3 x0 (.int .i64 6)) fun v13 =>
   condK v13
    (
     bindV (aBuild p 26 #[(0, (.int .i64 6)), (1, (.int .i64 2000000)), (2, (.int .i64 2000)), (3, (.int .i64 1000)), (4, (.int .i64 500)), (8, (.int .i64 8))]) fun v14 =>
     bindS (aAlloc p S2 26) fun v15 S16 =>
     bindT (aStore p S16 26 v15 v14) fun S17 =>
     bindO (l14_11111010 W (.int .i64 6) x1 undef undef v1 v15 (.slice none 0 0) (.int .i64 0) undef undef x0 v3 x0 v13 (.int .i64 6) v14 undef undef undef undef undef undef undef undef undef undef undef undef undef undef undef undef undef undef undef undef undef undef undef undef undef undef undef undef undef undef undef undef undef undef undef S17) (kc W c14 [1, 1, 1, 1, 1, 0, 1, 0] f14)
    )
    (
     bindV (aBuild p 26 #[(0, x0), (1, (.int .i64 2000000)), (2, (.int .i64 2000)), (3, (.int .i64 1000)), (4, (.int .i64 500)), (8, (.int .i64 8))]) fun v18 =>
     bindS (aAlloc p S2 26) fun v19 S20 =>
     bindT (aStore p S20 26 v19 v18) fun S21 =>
     bindO (l14_11111010 W x0 x1 undef undef v1 v19 (.slice none 0 0) (.int .i64 0) undef undef x0 v3 x0 v13 x0 v18 undef undef undef undef undef undef undef undef undef undef undef undef undef undef undef undef undef undef undef undef undef undef undef undef undef undef undef undef undef undef undef undef undef undef undef S21) (kc W c14 [1, 1, 1, 1, 1, 0, 1, 0] f14)
    )
  )
  := (fn_eq Try.func14 rfl ok14 _ _).trans (by kernel_rfl)
theorem r14_11111010 (W : World) (y0 y1 y2 y3 y4 y5 y6 y7 y8 y9 y10 y11 y12 y13 y14 y15 y38 y39 y40 y41 y42 y43 y44 y45 y46 y47 y48 y49 y50 y51 y52 y53 y54 y55 y56 y57 y58 y59 y60 y61 y62 y63 y64 y65 y66 y67 y68 y69 y70 y71 y72 : Value) (S : St) : l14_11111010 W y0 y1 y2 y3 y4 y5 y6 y7 y8 y9 y10 y11 y12 y13 y14 y15 y38 y39 y40 y41 y42 y43 y44 y45 y46 y47 y48 y49 y50 y51 y52 y53 y54 y55 y56 y57 y58 y59 y60 y61 y62 y63 y64 y65 y66 y67 y68 y69 y70 y71 y72 S =
 bindV (aBin p .lss 3 y7 y0) fun v22 =>
 condK v22
  (
   bindV (aFieldAddr p 26 y5 5) fun v23 =>
   bindV (aLoad p W S 22 v23) fun v24 =>
   bindV (aBin p .add 3 y7 (.int .i64 1)) fun v25 =>
   bindV (aBin p .mul 3 (.int .i64 100) v25) fun v26 =>
   bindV (aBin p .add 3 y7 (.int .i64 1)) fun v27 =>
   bindV (aBin p .mul 3 (.int .i64 100) v27) fun v28 =>
   bindV (aBin p .add 3 v28 (.int .i64 50)) fun v29 =>
   bindS (aBuildSlice p S 65 2 #[(0, v26), (1, v29)]) fun v30 S31 =>
   bindS (aBuildSlice p S31 22 1 #[(0, v30)]) fun v32 S33 =>
   bindS (aBuiltin p W S33 .append #[22, 22] #[v24, v32]) fun v34 S35 =>
   bindV (aFieldAddr p 26 y5 5) fun v36 =>
   bindT (aStore p S35 22 v36 v34) fun S37 =>
   bindS (aBuildSlice p S37 64 1 #[(0, y7)]) fun v38 S39 =>
   bindS (aBuiltin p W S39 .append #[64, 64] #[y6, v38]) fun v40 S41 =>
   bindV (aBin p .add 3 y7 (.int .i64 1)) fun v42 =>
   l14_11111010 W y0 y1 y2 y3 y4 y5 v40 v42 y8 y9 y10 y11 y12 y13 y14 y15 y38 y39 y40 y41 y42 y43 y44 y45 y46 y47 y48 y49 y50 y51 y52 y53 y54 y55 y56 y57 y58 y59 y60 y61 y62 y63 y64 y65 y66 y67 y68 y69 y70 y71 y72 S41
  )
  (
   some (.exit 0, ⟨#[y0, y1, y2, y3, y4, y5, y6, y7, y8, y9, y10, y11, y12, y13, y14, y15, y7, y0, v22, junk, junk, junk, junk, junk, junk, junk, junk, junk, junk, junk, junk, junk, junk, junk, junk, junk, junk, junk, y38, y39, y40, y41, y42, y43, y44, y45, y46, y47, y48, y49, y50, y51, y52, y53, y54, y55, y56, y57, y58, y59, y60, y61, y62, y63, y64, y65, y66, y67, y68, y69, y70, y71, y72], []⟩, S)
  )
  := (round_eq ok14_11111010 ⟨#[y0, y1, y2, y3, y4, y5, y6, y7, y8, y9, y10, y11, y12, y13, y14, y15, junk, junk, junk, junk, junk, junk, junk, junk, junk, junk, junk, junk, junk, junk, junk, junk, junk, junk, junk, junk, junk, junk, y38, y39, y40, y41, y42, y43, y44, y45, y46, y47, y48, y49, y50, y51, y52, y53, y54, y55, y56, y57, y58, y59, y60, y61, y62, y63, y64, y65, y66, y67, y68, y69, y70, y71, y72], []⟩ S).trans (by kernel_rfl)
theorem r14_111111010 (W : World) (y0 y1 y2 y3 y4 y5 y6 y7 y8 y10 y11 y12 y13 y14 y15 y16 y17 y18 y19 y20 y21 y22 y23 y24 y25 y26 y27 y28 y29 y30 y31 y32 y33 y34 y35 y36 y37 y72 : Value) (S : St) : l14_111111010 W y0 y1 y2 y3 y4 y5 y6 y7 y8 y10 y11 y12 y13 y14 y15 y16 y17 y18 y19 y20 y21 y22 y23 y24 y25 y26 y27 y28 y29 y30 y31 y32 y33 y34 y35 y36 y37 y72 S =
 bindV (aBin p .lss 3 y8 y1) fun v43 =>
 gV v43 true fun g44 =>
 gV v43 true fun g45 =>
 bindV (wO g45 (aBin p .lss 3 (wV g44 y8) (.int .i64 16))) fun v46 =>
 bindV (aPick v43 v46 (.bool false)) fun v47 =>
 gV v47 true fun g48 =>
 gV v47 true fun g49 =>
 bindV (wO g49 (aBin p .gtr 3 (wV g48 y0) (.int .i64 1))) fun v50 =>
 bindV (aPick v47 v50 (.bool false)) fun v51 =>
 condK v51
  (
   bindV (aBin p .rem 3 y8 y0) fun v52 =>
   bindV (aFieldAddr p 26 y5 6) fun v53 =>
   bindV (aLoad p W S 23 v53) fun v54 =>
   bindS (qS true S fun S_ => aCall p (cw W) S_ (.func (.func 21) #[] #[]) #[y6]) fun v55 S56 =>
   bindS (qS true S56 fun S_ => aBuildSlice p S_ 64 1 #[(0, v52)]) fun v57 S58 =>
   bindS (qS true S58 fun S_ => aCall p (cw W) S_ (.func (.func 21) #[] #[]) #[v57]) fun v59 S60 =>
   bindV (aBin p .sub 27 v55 v59) fun v61 =>
   bindV (aBin p .mul 3 (.int .i64 50000) y8) fun v62 =>
   bindV (aBin p .add 3 (.int .i64 10000) v62) fun v63 =>
   bindV (aBin p .add 3 (.int .i64 64) y8) fun v64 =>
   bindV (aBuild p 68 #[(0, v52), (1, v61), (2, v63), (3, v64)]) fun v65 =>
   bindS (qS true S60 fun S_ => aBuildSlice p S_ 23 1 #[(0, v65)]) fun v66 S67 =>
   bindS (aBuiltin p W S67 .append #[23, 23] #[v54, v66]) fun v68 S69 =>
   bindV (aFieldAddr p 26 y5 6) fun v70 =>
   bindT (aStore p S69 23 v70 v68) fun S71 =>
   bindV (aBin p .add 3 y8 (.int .i64 1)) fun v72 =>
   l14_111111010 W y0 y1 y2 y3 y4 y5 y6 y7 v72 y10 y11 y12 y13 y14 y15 y16 y17 y18 y19 y20 y21 y22 y23 y24 y25 y26 y27 y28 y29 y30 y31 y32 y33 y34 y35 y36 y37 y72 S71
  )
  (
   some (.exit 2, ⟨#[y0, y1, y2, y3, y4, y5, y6, y7, y8, junk, y10, y11, y12, y13, y14, y15, y16, y17, y18, y19, y20, y21, y22, y23, y24, y25, y26, y27, y28, y29, y30, y31, y32, y33, y34, y35, y36, y37, y8, y1, v43, v43, (wV g44 y8), v46, v47, v47, (wV g48 y0), v50, v51, junk, junk, junk, junk, junk, junk, junk, junk, junk, junk, junk, junk, junk, junk, junk, junk, junk, junk, junk, junk, junk, junk, junk, y72], []⟩, S)
  )
  := (round_eq ok14_111111010 ⟨#[y0, y1, y2, y3, y4, y5, y6, y7, y8, junk, y10, y11, y12, y13, y14, y15, y16, y17, y18, y19, y20, y21, y22, y23, y24, y25, y26, y27, y28, y29, y30, y31, y32, y33, y34, y35, y36, y37, junk, junk, junk, junk, junk, junk, junk, junk, junk, junk, junk, junk, junk, junk, junk, junk, junk, junk, junk, junk, junk, junk, junk, junk, junk, junk, junk, junk, junk, junk, junk, junk, junk, junk, y72], []⟩ S).trans (by kernel_rfl)
theorem k14_11111010_0 (W : World) (y0 y1 y2 y3 y4 y5 y6 y7 y8 y9 y10 y11 y12 y13 y14 y15 y16 y17 y18 y19 y20 y21 y22 y23 y24 y25 y26 y27 y28 y29 y30 y31 y32 y33 y34 y35 y36 y37 y38 y39 y40 y41 y42 y43 y44 y45 y46 y47 y48 y49 y50 y51 y52 y53 y54 y55 y56 y57 y58 y59 y60 y61 y62 y63 y64 y65 y66 y67 y68 y69 y70 y71 y72 : Value) (S : St) : kc W c14 [1, 1, 1, 1, 1, 0, 1, 0] f14 (.exit 0) ⟨#[y0, y1, y2, y3, y4, y5, y6, y7, y8, y9, y10, y11, y12, y13, y14, y15, y16, y17, y18, y19, y20, y21, y22, y23, y24, y25, y26, y27, y28, y29, y30, y31, y32, y33, y34, y35, y36, y37, y38, y39, y40, y41, y42, y43, y44, y45, y46, y47, y48, y49, y50, y51, y52, y53, y54, y55, y56, y57, y58, y59, y60, y61, y62, y63, y64, y65, y66, y67, y68, y69, y70, y71, y72], []⟩ S =
 bindO (l14_111111010 W y0 y1 y2 y3 y4 y5 y6 y7 (.int .i64 0) y10 y11 y12 y13 y14 y15 y16 y17 y18 y19 y20 y21 y22 y23 y24 y25 y26 y27 y28 y29 y30 y31 y32 y33 y34 y35 y36 y37 y72 S) (kc W c14 [1, 1, 1, 1, 1, 1, 0, 1, 0] f14)
  := by kernel_rfl
theorem k14_111111010_2 (W : World) (y0 y1 y2 y3 y4 y5 y6 y7 y8 y9 y10 y11 y12 y13 y14 y15 y16 y17 y18 y19 y20 y21 y22 y23 y24 y25 y26 y27 y28 y29 y30 y31 y32 y33 y34 y35 y36 y37 y38 y39 y40 y41 y42 y43 y44 y45 y46 y47 y48 y49 y50 y51 y52 y53 y54 y55 y56 y57 y58 y59 y60 y61 y62 y63 y64 y65 y66 y67 y68 y69 y70 y71 y72 : Value) (S : St) : kc W c14 [1, 1, 1, 1, 1, 1, 0, 1, 0] f14 (.exit 2) ⟨#[y0, y1, y2, y3, y4, y5, y6, y7, y8, y9, y10, y11, y12, y13, y14, y15, y16, y17, y18, y19, y20, y21, y22, y23, y24, y25, y26, y27, y28, y29, y30, y31, y32, y33, y34, y35, y36, y37, y38, y39, y40, y41, y42, y43, y44, y45, y46, y47, y48, y49, y50, y51, y52, y53, y54, y55, y56, y57, y58, y59, y60, y61, y62, y63, y64, y65, y66, y67, y68, y69, y70, y71, y72], []⟩ S =
 bindV (aLoad p W S 26 y5) fun v1 =>
 bindT (aStore p S 26 y4 v1) fun S2 =>
 bindV (aLoad p W S2 26 y4) fun v3 =>
 some (v3, S2)
  := by kernel_rfl
noncomputable abbrev f16 := Try.f16
noncomputable def c16 : Code := bodyOf f16
theorem ok16 : codeOk p c16 = true := by kernel_rfl
theorem eq16 (W : World) (x0 : Value) (S : St) : cw W 16 #[x0] S =
 gcR #[x0] S (
 bindS (aBox S x0) fun v1 S2 =>
 bindV (aFieldAddr p 26 v1 0) fun v3 =>
 bindV (aLoad p W S2 3 v3) fun v4 =>
 bindS (aCall p (cw W) S2 (.func (.func 22) #[] #[]) #[v4, (.int .i64 1), (.int .i64 6)]) fun v5 S6 =>
 bindV (aUn p .not v5) fun v7 =>
 condK v7
  (
   some ((.int .i64 1), S6)
  )
  (
   bindV (aFieldAddr p 26 v1 1) fun v8 =>
   bindV (aLoad p W S6 2 v8) fun v9 =>
   bindS (aCall p (cw W) S6 (.func (.func 22) #[] #[]) #[v9, (.int .i64 1), (.int .i64 1073741824)]) fun v10 S11 =>
   bindV (aUn p .not v10) fun v12 =>
   condK v12
    (
     some ((.int .i64 2), S11)
    )
    (
     bindV (aLoad p W S11 26 v1) fun v13 =>
     bindS (aCall p (cw W) S11 (.func (.func 23) #[] #[]) #[v13]) fun v14 S15 =>
     bindV (aUn p .not v14) fun v16 =>
     condK v16
      (
       some ((.int .i64 3), S15)
      )
      (
       bindV (aLoad p W S15 26 v1) fun v17 =>
       bindS (aCall p (cw W) S15 (.func (.func 24) #[] #[]) #[v17]) fun v18 S19 =>
       bindV (aUn p .not v18) fun v20 =>
       condK v20
        (
         some ((.int .i64 4), S19)
        )
        (
         bindV (aLoad p W S19 26 v1) fun v21 =>
         bindS (aCall p (cw W) S19 (.func (.func 25) #[] #[]) #[v21]) fun v22 S23 =>
         bindV (aBin p .neq 3 v22 (.int .i64 0)) fun v24 =>
         condK v24
          (
           some (v22, S23)
          )
          (
           bindV (aFieldAddr p 26 v1 7) fun v25 =>
           bindV (aLoad p W S23 24 v25) fun v26 =>
           bindV (aLen p W S23 #[24] #[v26]) fun v27 =>
           bindV (aBin p .gtr 3 v27 (.int .i64 16)) fun v28 =>
           condK v28
            (
             condK v28
              (
               some ((.int .i64 9), S23)
              )
              (
               bindV (aFieldAddr p 26 v1 8) fun v29 =>
               bindV (aLoad p W S23 3 v29) fun v30 =>
               bindS (aCall p (cw W) S23 (.func (.func 22) #[] #[]) #[v30, (.int .i64 1), (.int .i64 64)]) fun v31 S32 =>
               bindV (aUn p .not v31) fun v33 =>
               condK v33
                (
                 some ((.int .i64 10), S32)
                )
                (
                 some ((.int .i64 0), S32)
                )
              )
            )
            (
             bindV (aFieldAddr p 26 v1 7) fun v34 =>
             bindV (aLoad p W S23 24 v34) fun v35 =>
             bindS (aCall p (cw W) S23 (.func (.func 26) #[] #[]) #[v35, (.func (.func 27) #[] #[v1])]) fun v36 S37 =>
             condK v36
              (
               some ((.int .i64 9), S37)
              )
              (
               bindV (aFieldAddr p 26 v1 8) fun v38 =>
               bindV (aLoad p W S37 3 v38) fun v39 =>
               bindS (aCall p (cw W) S37 (.func (.func 22) #[] #[]) #[v39, (.int .i64 1), (.int .i64 64)]) fun v40 S41 =>
               bindV (aUn p .not v40) fun v42 =>
               condK v42
                (
                 some ((.int .i64 10), S41)
                )
                (
                 some ((.int .i64 0), S41)
                )
              )
            )
          )
        )
      )
    )
  )
 )
  := (fn_eq Try.func16 rfl ok16 _ _).trans (by kernel_rfl)
noncomputable abbrev f17 := Try.f17
noncomputable def c17 : Code := bodyOf f17
theorem ok17 : codeOk p c17 = true := by kernel_rfl
theorem eq17 (W : World) (x0 : Value) (S : St) : cw W 17 #[x0] S =
 bindS (aBox S x0) fun v1 S2 =>
 bindV (aLoad p W S2 38 v1) fun v3 =>
 bindS (aCall p (cw W) S2 (.func (.func 29) #[] #[]) #[v3]) fun v4 S5 =>
 bindV (aUn p .not v4) fun v6 =>
 condK v6
  (
   some (.tuple #[(.slice none 0 0), (.int .i64 1)], S5)
  )
  (
   bindV (aFieldAddr p 38 v1 0) fun v7 =>
   bindV (aLoad p W S5 3 v7) fun v8 =>
   bindS (aConv p W S5 3 5 v8) fun v9 S10 =>
   bindV (aFieldAddr p 38 v1 1) fun v11 =>
   bindV (aLoad p W S10 3 v11) fun v12 =>
   bindS (aConv p W S10 3 5 v12) fun v13 S14 =>
   bindS (aBuildSlice p S14 55 4 #[(0, (.int .u8 137)), (1, (.int .u8 29)), (2, v9), (3, v13)]) fun v15 S16 =>
   bindV (aFieldAddr p 38 v1 2) fun v17 =>
   bindV (aLoad p W S16 2 v17) fun v18 =>
   bindS (aConv p W S16 2 78 v18) fun v19 S20 =>
   bindS (aCall p (cw W) S20 (.func (.func 30) #[] #[]) #[v15, v19, (.int .i64 8)]) fun v21 S22 =>
   bindV (aFieldAddr p 38 v1 3) fun v23 =>
   bindV (aLoad p W S22 27 v23) fun v24 =>
   bindS (aConv p W S22 27 78 v24) fun v25 S26 =>
   bindS (aCall p (cw W) S26 (.func (.func 30) #[] #[]) #[v21, v25, (.int .i64 4)]) fun v27 S28 =>
   bindV (aFieldAddr p 38 v1 4) fun v29 =>
   bindV (aLoad p W S28 2 v29) fun v30 =>
   bindS (aConv p W S28 2 78 v30) fun v31 S32 =>
   bindS (aCall p (cw W) S32 (.func (.func 30) #[] #[]) #[v27, v31, (.int .i64 8)]) fun v33 S34 =>
   bindS (aCall p (cw W) S34 (.func (.func 30) #[] #[]) #[v33, (.int .u64 0), (.int .i64 6)]) fun v35 S36 =>
   bindS (aCall p (cw W) S36 (.func (.func 31) #[] #[]) #[v35]) fun v37 S38 =>
   some (.tuple #[v37, (.int .i64 0)], S38)
  )
  := (fn_eq Try.func17 rfl ok17 _ _).trans (by kernel_rfl)
noncomputable abbrev f18 := Try.f18
noncomputable def c18 : Code := bodyOf f18
theorem ok18 : codeOk p c18 = true := by kernel_rfl
theorem eq18 (W : World) (x0 : Value) (S : St) : cw W 18 #[x0] S =
 gcR #[x0] S (
 bindV (aBin p .lss 2 x0 (.int .i64 0)) fun v1 =>
 gV v1 false fun g2 =>
 gV v1 false fun g3 =>
 bindV (wO g3 (aBin p .gtr 2 (wV g2 x0) (.int .i64 1125899906842624))) fun v4 =>
 bindV (aPick v1 (.bool true) v4) fun v5 =>
 some (v5, S)
 )
  := (fn_eq Try.func18 rfl ok18 _ _).trans (by kernel_rfl)
noncomputable abbrev f19 := Try.f19
noncomputable def c19 : Code := bodyOf f19
theorem ok19 : codeOk p c19 = true := by kernel_rfl
theorem eq19 (W : World) (x0 x1 x2 : Value) (S : St) : cw W 19 #[x0, x1, x2] S =
 gcR #[x0, x1, x2] S (
 bindV (aNil x0) fun v1 =>
 bindV (aFieldAddr p 54 v1 2) fun v2 =>
 bindV (aLoad p W S 2 v2) fun v3 =>
 bindV (aBin p .add 2 x2 v3) fun v4 =>
 bindV (aNil x0) fun v5 =>
 bindV (aFieldAddr p 54 v5 0) fun v6 =>
 bindV (aLoad p W S 2 v6) fun v7 =>
 bindV (aBin p .quo 2 v4 v7) fun v8 =>
 bindV (aBin p .gtr 2 x1 v8) fun v9 =>
 condK v9
  (
   some (.tuple #[(.int .i64 0), (.bool false)], S)
  )
  (
   bindV (aNil x0) fun v10 =>
   bindV (aFieldAddr p 54 v10 0) fun v11 =>
   bindV (aLoad p W S 2 v11) fun v12 =>
   bindV (aBin p .mul 2 x1 v12) fun v13 =>
   bindV (aBin p .sub 2 x2 v13) fun v14 =>
   bindV (aNil x0) fun v15 =>
   bindV (aFieldAddr p 54 v15 1) fun v16 =>
   bindV (aLoad p W S 2 v16) fun v17 =>
   bindV (aBin p .sub 2 v14 v17) fun v18 =>
   bindV (aNil x0) fun v19 =>
   bindV (aFieldAddr p 54 v19 2) fun v20 =>
   bindV (aLoad p W S 2 v20) fun v21 =>
   bindV (aUn p .neg v21) fun v22 =>
   bindV (aBin p .geq 2 v18 v22) fun v23 =>
   gV v23 true fun g24 =>
   gV v23 true fun g25 =>
   gV v23 true fun g26 =>
   bindV (wO g26 (aNil (wV g25 x0))) fun v27 =>
   gV v23 true fun g28 =>
   bindV (wO g28 (aFieldAddr p 54 v27 2)) fun v29 =>
   gV v23 true fun g30 =>
   bindV (wO g30 (aLoad p W S 2 v29)) fun v31 =>
   gV v23 true fun g32 =>
   bindV (wO g32 (aBin p .leq 2 (wV g24 v18) v31)) fun v33 =>
   bindV (aPick v23 v33 (.bool false)) fun v34 =>
   some (.tuple #[v18, v34], S)
  )
 )
  := (fn_eq Try.func19 rfl ok19 _ _).trans (by kernel_rfl)
noncomputable abbrev f20 := Try.f20
noncomputable def c20 : Code := bodyOf f20
theorem ok20 : codeOk p c20 = true := by kernel_rfl
theorem eq20 (W : World) (x0 x1 : Value) (S : St) : cw W 20 #[x0, x1] S =
 gcR #[x0, x1] S (
 bindS (aBox S x0) fun v1 S2 =>
 bindS (aBox S2 x1) fun v3 S4 =>
 bindV (aFieldAddr p 60 v1 1) fun v5 =>
 bindV (aLoad p W S4 27 v5) fun v6 =>
 bindS (qS true S4 fun S_ => aCall p (cw W) S_ (.func (.func 32) #[] #[]) #[v6]) fun v7 S8 =>
 bindV (aFieldAddr p 60 v3 1) fun v9 =>
 bindV (aLoad p W S8 27 v9) fun v10 =>
 bindS (aCall p (cw W) S8 (.func (.func 32) #[] #[]) #[v10]) fun v11 S12 =>
 bindV (aBin p .neq 3 v7 v11) fun v13 =>
 condK v13
  (
   bindV (aBin p .gtr 3 v7 v11) fun v14 =>
   some (v14, S12)
  )
  (
   bindV (aFieldAddr p 60 v1 2) fun v15 =>
   bindV (aLoad p W S12 3 v15) fun v16 =>
   bindV (aFieldAddr p 60 v3 2) fun v17 =>
   bindV (aLoad p W S12 3 v17) fun v18 =>
   bindV (aBin p .lss 3 v16 v18) fun v19 =>
   some (v19, S12)
  )
 )
  := (fn_eq Try.func20 rfl ok20 _ _).trans (by kernel_rfl)
noncomputable abbrev f21 := Try.f21
noncomputable def c21 : Code := bodyOf f21
theorem ok21 : codeOk p c21 = true := by kernel_rfl
noncomputable def c21_111010 : Code := codeAt [1, 1, 1, 0, 1, 0, 0] c21
theorem ok21_111010 : codeOk p c21_111010 = true := by kernel_rfl
noncomputable def l21_111010 (W : World) (y0 y1 y2 y3 y4 y5 y28 : Value) (S : St) : Out := la W c21_111010 ⟨#[y0, y1, y2, y3, y4, y5, junk, junk, junk, junk, junk, junk, junk, junk, junk, junk, junk, junk, junk, junk, junk, junk, junk, junk, junk, junk, junk, junk, y28], []⟩ S
noncomputable def c21_1110100100010 : Code := codeAt [1, 1, 1, 0, 1, 0, 0, 1, 0, 0, 0, 1, 0, 0] c21
theorem ok21_1110100100010 : codeOk p c21_1110100100010 = true := by kernel_rfl
noncomputable def l21_1110100100010 (W : World) (y0 y1 y2 y3 y4 y5 y6 y7 y8 y9 y10 y26 y27 y28 : Value) (S : St) : Out := la W c21_1110100100010 ⟨#[y0, y1, y2, y3, y4, y5, y6, y7, y8, y9, y10, junk, junk, junk, junk, junk, junk, junk, junk, junk, junk, junk, junk, junk, junk, junk, y26, y27, y28], []⟩ S
theorem eq21 (W : World) (x0 : Value) (S : St) : cw W 21 #[x0] S =
 gcR #[x0] S (
 bindO (l21_111010 W x0 undef (.int .u32 0) (.int .u32 0) (.int .u32 1) (.int .i64 0) undef S) (kc W c21 [1, 1, 1, 0, 1, 0] f21)
 )
  := (fn_eq Try.func21 rfl ok21 _ _).trans (by kernel_rfl)
theorem r21_111010 (W : World) (y0 y1 y2 y3 y4 y5 y28 : Value) (S : St) : l21_111010 W y0 y1 y2 y3 y4 y5 y28 S =
 bindV (aBin p .lss 3 y5 (.int .i64 6)) fun v1 =>
 condK v1
  (
   bindO (l21_1110100100010 W y0 y1 y2 y3 y4 y5 (.int .i64 0) y5 v1 junk junk junk junk y28 S) (rk W c21_111010 [1, 0, 0, 0, 1, 0])
  )
  (
   some (.exit 0, ⟨#[y0, y1, y2, y3, y4, y5, junk, y5, v1, junk, junk, junk, junk, junk, junk, junk, junk, junk, junk, junk, junk, junk, junk, junk, junk, junk, junk, junk, y28], []⟩, S)
  )
  := (round_eq ok21_111010 ⟨#[y0, y1, y2, y3, y4, y5, junk, junk, junk, junk, junk, junk, junk, junk, junk, junk, junk, junk, junk, junk, junk, junk, junk, junk, junk, junk, junk, junk, y28], []⟩ S).trans (by kernel_rfl)
theorem r21_1110100100010 (W : World) (y0 y1 y2 y3 y4 y5 y6 y7 y8 y9 y10 y26 y27 y28 : Value) (S : St) : l21_1110100100010 W y0 y1 y2 y3 y4 y5 y6 y7 y8 y9 y10 y26 y27 y28 S =
 bindV (aLen p W S #[64] #[y0]) fun v2 =>
 bindV (aBin p .lss 3 y6 v2) fun v3 =>
 condK v3
  (
   bindV (aIndexAddr p 64 y0 y6) fun v4 =>
   bindV (aLoad p W S 3 v4) fun v5 =>
   bindV (aBin p .eql 3 v5 y5) fun v6 =>
   condK v6
    (
     bindV (aBin p .add 27 y3 y4) fun v7 =>
     some (.exit 2, ⟨#[y0, y1, y2, v7, y4, y5, y6, y7, y8, y9, y10, y6, y0, v2, v3, junk, junk, y0, y6, v4, v5, y5, v6, y3, y4, v7, y26, y27, y28], []⟩, S)
    )
    (
     bindV (aBin p .add 3 y6 (.int .i64 1)) fun v8 =>
     l21_1110100100010 W y0 y1 y2 y3 y4 y5 v8 y7 y8 y9 y10 y26 y27 y28 S
    )
  )
  (
   some (.exit 2, ⟨#[y0, y1, y2, y3, y4, y5, y6, y7, y8, y9, y10, y6, y0, v2, v3, junk, junk, junk, junk, junk, junk, junk, junk, junk, junk, junk, y26, y27, y28], []⟩, S)
  )
  := (round_eq ok21_1110100100010 ⟨#[y0, y1, y2, y3, y4, y5, y6, y7, y8, y9, y10, junk, junk, junk, junk, junk, junk, junk, junk, junk, junk, junk, junk, junk, junk, junk, y26, y27, y28], []⟩ S).trans (by kernel_rfl)
theorem k21_111010_0 (W : World) (y0 y1 y2 y3 y4 y5 y6 y7 y8 y9 y10 y11 y12 y13 y14 y15 y16 y17 y18 y19 y20 y21 y22 y23 y24 y25 y26 y27 y28 : Value) (S : St) : kc W c21 [1, 1, 1, 0, 1, 0] f21 (.exit 0) ⟨#[y0, y1, y2, y3, y4, y5, y6, y7, y8, y9, y10, y11, y12, y13, y14, y15, y16, y17, y18, y19, y20, y21, y22, y23, y24, y25, y26, y27, y28], []⟩ S =
 some (y3, S)
  := by kernel_rfl
theorem k21_1110100100010_2 (W : World) (y0 y1 y2 y3 y4 y5 y6 y7 y8 y9 y10 y11 y12 y13 y14 y15 y16 y17 y18 y19 y20 y21 y22 y23 y24 y25 y26 y27 y28 : Value) (S : St) : rk W c21_111010 [1, 0, 0, 0, 1, 0] (.exit 2) ⟨#[y0, y1, y2, y3, y4, y5, y6, y7, y8, y9, y10, y11, y12, y13, y14, y15, y16, y17, y18, y19, y20, y21, y22, y23, y24, y25, y26, y27, y28], []⟩ S =
 bindV (aBin p .mul 27 y4 (.int .u32 2)) fun v1 =>
 bindV (aBin p .add 3 y5 (.int .i64 1)) fun v2 =>
 l21_111010 W y0 y1 y2 y3 v1 v2 y28 S
  := by kernel_rfl
noncomputable abbrev f22 := Try.f22
noncomputable def c22 : Code := bodyOf f22
theorem ok22 : codeOk p c22 = true := by kernel_rfl
theorem eq22 (W : World) (x0 x1 x2 : Value) (S : St) : cw W 22 #[x0, x1, x2] S =
 gcR #[x0, x1, x2] S (
 bindV (aBin p .geq 2 x0 x1) fun v1 =>
 gV v1 true fun g2 =>
 gV v1 true fun g3 =>
 gV v1 true fun g4 =>
 bindV (wO g4 (aBin p .leq 2 (wV g2 x0) (wV g3 x2))) fun v5 =>
 bindV (aPick v1 v5 (.bool false)) fun v6 =>
 some (v6, S)
 )
  := (fn_eq Try.func22 rfl ok22 _ _).trans (by kernel_rfl)
noncomputable abbrev f23 := Try.f23
noncomputable def c23 : Code := bodyOf f23
theorem ok23 : codeOk p c23 = true := by kernel_rfl
theorem eq23 (W : World) (x0 : Value) (S : St) : cw W 23 #[x0] S =
 gcR #[x0] S (
 bindS (aBox S x0) fun v1 S2 =>
 bindV (aFieldAddr p 26 v1 1) fun v3 =>
 bindV (aLoad p W S2 2 v3) fun v4 =>
 bindS (aCall p (cw W) S2 (.func (.func 22) #[] #[]) #[v4, (.int .i64 1), (.int .i64 1073741824)]) fun v5 S6 =>
 gV v5 true fun g7 =>
 bindV (wO g7 (aFieldAddr p 26 v1 2)) fun v8 =>
 gV v5 true fun g9 =>
 bindV (wO g9 (aLoad p W S6 2 v8)) fun v10 =>
 gV v5 true fun g11 =>
 bindS (wS g11 S6 (aCall p (cw W) S6 (.func (.func 22) #[] #[]) #[v10, (.int .i64 0), (.int .i64 1048576)])) fun v12 S13 =>
 bindV (aPick v5 v12 (.bool false)) fun v14 =>
 gV v14 true fun g15 =>
 bindV (wO g15 (aFieldAddr p 26 v1 3)) fun v16 =>
 gV v14 true fun g17 =>
 bindV (wO g17 (aLoad p W S13 2 v16)) fun v18 =>
 gV v14 true fun g19 =>
 bindS (wS g19 S13 (aCall p (cw W) S13 (.func (.func 22) #[] #[]) #[v18, (.int .i64 0), (.int .i64 1048576)])) fun v20 S21 =>
 bindV (aPick v14 v20 (.bool false)) fun v22 =>
 gV v22 true fun g23 =>
 bindV (wO g23 (aFieldAddr p 26 v1 4)) fun v24 =>
 gV v22 true fun g25 =>
 bindV (wO g25 (aLoad p W S21 2 v24)) fun v26 =>
 gV v22 true fun g27 =>
 bindS (wS g27 S21 (aCall p (cw W) S21 (.func (.func 22) #[] #[]) #[v26, (.int .i64 0), (.int .i64 1048576)])) fun v28 S29 =>
 bindV (aPick v22 v28 (.bool false)) fun v30 =>
 some (v30, S29)
 )
  := (fn_eq Try.func23 rfl ok23 _ _).trans (by kernel_rfl)
noncomputable abbrev f24 := Try.f24
noncomputable def c24 : Code := bodyOf f24
theorem ok24 : codeOk p c24 = true := by kernel_rfl
theorem eq24 (W : World) (x0 : Value) (S : St) : cw W 24 #[x0] S =
 gcR #[x0] S (
 bindS (aBox S x0) fun v1 S2 =>
 bindV (aFieldAddr p 26 v1 5) fun v3 =>
 bindV (aLoad p W S2 22 v3) fun v4 =>
 bindV (aLen p W S2 #[22] #[v4]) fun v5 =>
 bindV (aFieldAddr p 26 v1 0) fun v6 =>
 bindV (aLoad p W S2 3 v6) fun v7 =>
 bindV (aBin p .neq 3 v5 v7) fun v8 =>
 condK v8
  (
   some ((.bool false), S2)
  )
  (
   bindV (aFieldAddr p 26 v1 5) fun v9 =>
   bindV (aLoad p W S2 22 v9) fun v10 =>
   bindS (aCall p (cw W) S2 (.func (.func 33) #[] #[]) #[v10, (.func (.func 34) #[] #[v1])]) fun v11 S12 =>
   bindV (aUn p .not v11) fun v13 =>
   some (v13, S12)
  )
 )
  := (fn_eq Try.func24 rfl ok24 _ _).trans (by kernel_rfl)
noncomputable abbrev f25 := Try.f25
noncomputable def c25 : Code := bodyOf f25
theorem ok25 : codeOk p c25 = true := by kernel_rfl
theorem eq25 (W : World) (x0 : Value) (S : St) : cw W 25 #[x0] S =
 gcR #[x0] S (
 bindS (aBox S x0) fun v1 S2 =>
 bindS (aAlloc p S2 83) fun v3 S4 =>
 bindT (aStore p S4 83 v3 (.func (.func 37) #[] #[])) fun S5 =>
 bindS (aAlloc p S5 83) fun v6 S7 =>
 bindT (aStore p S7 83 v6 (.func (.func 38) #[] #[v1])) fun S8 =>
 bindV (aFieldAddr p 26 v1 6) fun v9 =>
 bindV (aLoad p W S8 23 v9) fun v10 =>
 bindV (aLen p W S8 #[23] #[v10]) fun v11 =>
 bindV (aBin p .gtr 3 v11 (.int .i64 16)) fun v12 =>
 condK v12
  (
   condK v12
    (
     some ((.int .i64 5), S8)
    )
    (
     bindV (aFieldAddr p 26 v1 6) fun v13 =>
     bindV (aLoad p W S8 23 v13) fun v14 =>
     bindS (aCall p (cw W) S8 (.func (.func 40) #[] #[]) #[v14, (.func (.func 42) #[] #[v1])]) fun v15 S16 =>
     condK v15
      (
       some ((.int .i64 6), S16)
      )
      (
       bindV (aFieldAddr p 26 v1 6) fun v17 =>
       bindV (aLoad p W S16 23 v17) fun v18 =>
       bindS (aCall p (cw W) S16 (.func (.func 45) #[] #[]) #[v18, (.func (.func 46) #[] #[v3])]) fun v19 S20 =>
       condK v19
        (
         some ((.int .i64 7), S20)
        )
        (
         bindV (aFieldAddr p 26 v1 6) fun v21 =>
         bindV (aLoad p W S20 23 v21) fun v22 =>
         bindS (aCall p (cw W) S20 (.func (.func 45) #[] #[]) #[v22, (.func (.func 48) #[] #[v6])]) fun v23 S24 =>
         condK v23
          (
           some ((.int .i64 8), S24)
          )
          (
           some ((.int .i64 0), S24)
          )
        )
      )
    )
  )
  (
   bindV (aFieldAddr p 26 v1 6) fun v25 =>
   bindV (aLoad p W S8 23 v25) fun v26 =>
   bindS (aCall p (cw W) S8 (.func (.func 40) #[] #[]) #[v26, (.func (.func 41) #[] #[v1])]) fun v27 S28 =>
   condK v27
    (
     some ((.int .i64 5), S28)
    )
    (
     bindV (aFieldAddr p 26 v1 6) fun v29 =>
     bindV (aLoad p W S28 23 v29) fun v30 =>
     bindS (aCall p (cw W) S28 (.func (.func 40) #[] #[]) #[v30, (.func (.func 42) #[] #[v1])]) fun v31 S32 =>
     condK v31
      (
       some ((.int .i64 6), S32)
      )
      (
       bindV (aFieldAddr p 26 v1 6) fun v33 =>
       bindV (aLoad p W S32 23 v33) fun v34 =>
       bindS (aCall p (cw W) S32 (.func (.func 45) #[] #[]) #[v34, (.func (.func 46) #[] #[v3])]) fun v35 S36 =>
       condK v35
        (
         some ((.int .i64 7), S36)
        )
        (
         bindV (aFieldAddr p 26 v1 6) fun v37 =>
         bindV (aLoad p W S36 23 v37) fun v38 =>
         bindS (aCall p (cw W) S36 (.func (.func 45) #[] #[]) #[v38, (.func (.func 48) #[] #[v6])]) fun v39 S40 =>
         condK v39
          (
           some ((.int .i64 8), S40)
          )
          (
           some ((.int .i64 0), S40)
          )
        )
      )
    )
  )
 )
  := (fn_eq Try.func25 rfl ok25 _ _).trans (by kernel_rfl)
noncomputable abbrev f26 := Try.f26
noncomputable def c26 : Code := bodyOf f26
theorem ok26 : codeOk p c26 = true := by kernel_rfl
theorem eq26 (W : World) (x0 x1 : Value) (S : St) : cw W 26 #[x0, x1] S =
 gcR #[x0, x1] S (
 bindS (aCall p (cw W) S (.func (.func 49) #[] #[]) #[x0, x1]) fun v1 S2 =>
 bindV (aBin p .geq 3 v1 (.int .i64 0)) fun v3 =>
 some (v3, S2)
 )
  := (fn_eq Try.func26 rfl ok26 _ _).trans (by kernel_rfl)
noncomputable abbrev f27 := Try.f27
noncomputable def c27 : Code := bodyOf f27
theorem ok27 : codeOk p c27 = true := by kernel_rfl
theorem eq27 (W : World) (x0 x1 : Value) (S : St) : cw W 27 #[x0, x1] S =
 gcR #[x0, x1] S (
 bindS (aBox S x0) fun v1 S2 =>
 bindV (aFieldAddr p 26 x1 0) fun v3 =>
 bindV (aLoad p W S2 3 v3) fun v4 =>
 bindV (aFieldAddr p 73 v1 0) fun v5 =>
 bindV (aLoad p W S2 3 v5) fun v6 =>
 bindV (aFieldAddr p 73 v1 1) fun v7 =>
 bindV (aLoad p W S2 27 v7) fun v8 =>
 bindV (aFieldAddr p 73 v1 3) fun v9 =>
 bindV (aLoad p W S2 3 v9) fun v10 =>
 bindS (aCall p (cw W) S2 (.func (.func 28) #[] #[]) #[v4, v6, v8, v10]) fun v11 S12 =>
 bindV (aUn p .not v11) fun v13 =>
 gV v13 false fun g14 =>
 bindV (wO g14 (aFieldAddr p 73 v1 2)) fun v15 =>
 gV v13 false fun g16 =>
 bindV (wO g16 (aLoad p W S12 2 v15)) fun v17 =>
 gV v13 false fun g18 =>
 bindS (wS g18 S12 (aCall p (cw W) S12 (.func (.func 22) #[] #[]) #[v17, (.int .i64 1), (.int .i64 1073741824)])) fun v19 S20 =>
 gV v13 false fun g21 =>
 bindV (wO g21 (aUn p .not v19)) fun v22 =>
 bindV (aPick v13 (.bool true) v22) fun v23 =>
 some (v23, S20)
 )
  := (fn_eq Try.func27 rfl ok27 _ _).trans (by kernel_rfl)
noncomputable abbrev f28 := Try.f28
noncomputable def c28 : Code := bodyOf f28
theorem ok28 : codeOk p c28 = true := by kernel_rfl
theorem eq28 (W : World) (x0 x1 x2 x3 : Value) (S : St) : cw W 28 #[x0, x1, x2, x3] S =
 gcR #[x0, x1, x2, x3] S (
 bindV (aBin p .sub 2 x0 (.int .i64 1)) fun v1 =>
 bindS (aCall p (cw W) S (.func (.func 22) #[] #[]) #[x1, (.int .i64 0), v1]) fun v2 S3 =>
 gV v2 true fun g4 =>
 gV v2 true fun g5 =>
 bindV (wO g5 (aBin p .neq 27 (wV g4 x2) (.int .u32 0))) fun v6 =>
 bindV (aPick v2 v6 (.bool false)) fun v7 =>
 gV v7 true fun g8 =>
 gV v7 true fun g9 =>
 gV v7 true fun g10 =>
 bindS (wS g10 S3 (aConv p W S3 3 91 (wV g9 x0))) fun v11 S12 =>
 gV v7 true fun g13 =>
 bindV (wO g13 (aBin p .shr 27 (wV g8 x2) v11)) fun v14 =>
 gV v7 true fun g15 =>
 bindV (wO g15 (aBin p .eql 27 v14 (.int .u32 0))) fun v16 =>
 bindV (aPick v7 v16 (.bool false)) fun v17 =>
 gV v17 true fun g18 =>
 gV v17 true fun g19 =>
 gV v17 true fun g20 =>
 bindS (wS g20 S12 (aCall p (cw W) S12 (.func (.func 50) #[] #[]) #[(wV g18 x2), (wV g19 x1)])) fun v21 S22 =>
 gV v17 true fun g23 =>
 bindV (wO g23 (aUn p .not v21)) fun v24 =>
 bindV (aPick v17 v24 (.bool false)) fun v25 =>
 gV v25 true fun g26 =>
 gV v25 true fun g27 =>
 bindS (wS g27 S22 (aCall p (cw W) S22 (.func (.func 22) #[] #[]) #[(wV g26 x3), (.int .i64 64), (.int .i64 1518)])) fun v28 S29 =>
 bindV (aPick v25 v28 (.bool false)) fun v30 =>
 some (v30, S29)
 )
  := (fn_eq Try.func28 rfl ok28 _ _).trans (by kernel_rfl)
noncomputable abbrev f29 := Try.f29
noncomputable def c29 : Code := bodyOf f29
theorem ok29 : codeOk p c29 = true := by kernel_rfl
theorem eq29 (W : World) (x0 : Value) (S : St) : cw W 29 #[x0] S =
 gcR #[x0] S (
 bindS (aBox S x0) fun v1 S2 =>
 bindV (aFieldAddr p 38 v1 0) fun v3 =>
 bindV (aLoad p W S2 3 v3) fun v4 =>
 bindV (aBin p .eql 3 v4 (.int .i64 1)) fun v5 =>
 gV v5 false fun g6 =>
 bindV (wO g6 (aFieldAddr p 38 v1 0)) fun v7 =>
 gV v5 false fun g8 =>
 bindV (wO g8 (aLoad p W S2 3 v7)) fun v9 =>
 gV v5 false fun g10 =>
 bindV (wO g10 (aBin p .eql 3 v9 (.int .i64 2))) fun v11 =>
 bindV (aPick v5 (.bool true) v11) fun v12 =>
 gV v12 true fun g13 =>
 bindV (wO g13 (aFieldAddr p 38 v1 1)) fun v14 =>
 gV v12 true fun g15 =>
 bindV (wO g15 (aLoad p W S2 3 v14)) fun v16 =>
 gV v12 true fun g17 =>
 bindS (wS g17 S2 (aCall p (cw W) S2 (.func (.func 51) #[] #[]) #[v16, (.int .i64 0), (.int .i64 7)])) fun v18 S19 =>
 bindV (aPick v12 v18 (.bool false)) fun v20 =>
 gV v20 true fun g21 =>
 bindV (wO g21 (aFieldAddr p 38 v1 2)) fun v22 =>
 gV v20 true fun g23 =>
 bindV (wO g23 (aLoad p W S19 2 v22)) fun v24 =>
 gV v20 true fun g25 =>
 bindS (wS g25 S19 (aCall p (cw W) S19 (.func (.func 51) #[] #[]) #[v24, (.int .i64 0), (.int .i64 1125899906842624)])) fun v26 S27 =>
 bindV (aPick v20 v26 (.bool false)) fun v28 =>
 gV v28 true fun g29 =>
 bindV (wO g29 (aFieldAddr p 38 v1 3)) fun v30 =>
 gV v28 true fun g31 =>
 bindV (wO g31 (aLoad p W S27 27 v30)) fun v32 =>
 gV v28 true fun g33 =>
 bindV (wO g33 (aBin p .lss 27 v32 (.int .u32 64))) fun v34 =>
 bindV (aPick v28 v34 (.bool false)) fun v35 =>
 gV v35 true fun g36 =>
 bindV (wO g36 (aFieldAddr p 38 v1 4)) fun v37 =>
 gV v35 true fun g38 =>
 bindV (wO g38 (aLoad p W S27 2 v37)) fun v39 =>
 gV v35 true fun g40 =>
 bindS (wS g40 S27 (aCall p (cw W) S27 (.func (.func 51) #[] #[]) #[v39, (.int .i64 0), (.int .i64 1048576)])) fun v41 S42 =>
 bindV (aPick v35 v41 (.bool false)) fun v43 =>
 some (v43, S42)
 )
  := (fn_eq Try.func29 rfl ok29 _ _).trans (by kernel_rfl)
noncomputable abbrev f30 := Try.f30
noncomputable def c30 : Code := bodyOf f30
theorem ok30 : codeOk p c30 = true := by kernel_rfl
noncomputable def c30_1010 : Code := codeAt [1, 0, 1, 0, 0] c30
theorem ok30_1010 : codeOk p c30_1010 = true := by kernel_rfl
noncomputable def l30_1010 (W : World) (y0 y1 y2 y3 y4 y5 y6 y7 y8 y9 y23 : Value) (S : St) : Out := la W c30_1010 ⟨#[y0, y1, y2, y3, y4, y5, y6, y7, y8, y9, junk, junk, junk, junk, junk, junk, junk, junk, junk, junk, junk, junk, junk, y23], []⟩ S
theorem eq30 (W : World) (x0 x1 x2 : Value) (S : St) : cw W 30 #[x0, x1, x2] S =
 bindV (aBin p .sub 3 x2 (.int .i64 1)) fun v1 =>
 bindO (l30_1010 W x0 x1 x2 undef undef undef (.slice none 0 0) v1 x2 v1 undef S) (kc W c30 [1, 0, 1, 0] f30)
  := (fn_eq Try.func30 rfl ok30 _ _).trans (by kernel_rfl)
theorem r30_1010 (W : World) (y0 y1 y2 y3 y4 y5 y6 y7 y8 y9 y23 : Value) (S : St) : l30_1010 W y0 y1 y2 y3 y4 y5 y6 y7 y8 y9 y23 S =
 bindV (aBin p .geq 3 y7 (.int .i64 0)) fun v2 =>
 condK v2
  (
   bindV (aBin p .mul 3 (.int .i64 8) y7) fun v3 =>
   bindS (aConv p W S 3 91 v3) fun v4 S5 =>
   bindV (aBin p .shr 78 y1 v4) fun v6 =>
   bindS (aConv p W S5 78 5 v6) fun v7 S8 =>
   bindS (aBuildSlice p S8 55 1 #[(0, v7)]) fun v9 S10 =>
   bindS (aBuiltin p W S10 .append #[55, 55] #[y0, v9]) fun v11 S12 =>
   bindV (aBin p .sub 3 y7 (.int .i64 1)) fun v13 =>
   l30_1010 W v11 y1 y2 y3 y4 y5 y6 v13 y8 y9 y23 S12
  )
  (
   some (.exit 0, ⟨#[y0, y1, y2, y3, y4, y5, y6, y7, y8, y9, y7, v2, junk, junk, junk, junk, junk, junk, junk, junk, junk, junk, junk, y23], []⟩, S)
  )
  := (round_eq ok30_1010 ⟨#[y0, y1, y2, y3, y4, y5, y6, y7, y8, y9, junk, junk, junk, junk, junk, junk, junk, junk, junk, junk, junk, junk, junk, y23], []⟩ S).trans (by kernel_rfl)
theorem k30_1010_0 (W : World) (y0 y1 y2 y3 y4 y5 y6 y7 y8 y9 y10 y11 y12 y13 y14 y15 y16 y17 y18 y19 y20 y21 y22 y23 : Value) (S : St) : kc W c30 [1, 0, 1, 0] f30 (.exit 0) ⟨#[y0, y1, y2, y3, y4, y5, y6, y7, y8, y9, y10, y11, y12, y13, y14, y15, y16, y17, y18, y19, y20, y21, y22, y23], []⟩ S =
 some (y0, S)
  := by kernel_rfl
noncomputable abbrev f31 := Try.f31
noncomputable def c31 : Code := bodyOf f31
theorem ok31 : codeOk p c31 = true := by kernel_rfl
theorem eq31 (W : World) (x0 : Value) (S : St) : cw W 31 #[x0] S =
 bindS (aCall p (cw W) S (.func (.func 52) #[] #[]) #[x0]) fun v1 S2 =>
 bindS (aConv p W S2 27 78 v1) fun v3 S4 =>
 bindS (aCall p (cw W) S4 (.func (.func 30) #[] #[]) #[x0, v3, (.int .i64 4)]) fun v5 S6 =>
 some (v5, S6)
  := (fn_eq Try.func31 rfl ok31 _ _).trans (by kernel_rfl)
noncomputable abbrev f32 := Try.f32
noncomputable def c32 : Code := bodyOf f32
theorem ok32 : codeOk p c32 = true := by kernel_rfl
theorem eq32 (W : World) (x0 : Value) (S : St) : cw W 32 #[x0] S =
 gcR #[x0] S (
 bindV (aBin p .and 27 x0 (.int .u32 63)) fun v1 =>
 bindS (aCall p (cw W) S (.func (.func 53) #[] #[]) #[v1]) fun v2 S3 =>
 some (v2, S3)
 )
  := (fn_eq Try.func32 rfl ok32 _ _).trans (by kernel_rfl)
noncomputable abbrev f33 := Try.f33
noncomputable def c33 : Code := bodyOf f33
theorem ok33 : codeOk p c33 = true := by kernel_rfl
theorem eq33 (W : World) (x0 x1 : Value) (S : St) : cw W 33 #[x0, x1] S =
 gcR #[x0, x1] S (
 bindS (aCall p (cw W) S (.func (.func 54) #[] #[]) #[x0, x1]) fun v1 S2 =>
 bindV (aBin p .geq 3 v1 (.int .i64 0)) fun v3 =>
 some (v3, S2)
 )
  := (fn_eq Try.func33 rfl ok33 _ _).trans (by kernel_rfl)
noncomputable abbrev f34 := Try.f34
noncomputable def c34 : Code := bodyOf f34
theorem ok34 : codeOk p c34 = true := by kernel_rfl
theorem eq34 (W : World) (x0 x1 : Value) (S : St) : cw W 34 #[x0, x1] S =
 gcR #[x0, x1] S (
 bindV (aLen p W S #[65] #[x0]) fun v1 =>
 bindV (aBin p .neq 3 v1 (.int .i64 2)) fun v2 =>
 gV v2 false fun g3 =>
 gV v2 false fun g4 =>
 gV v2 false fun g5 =>
 bindS (wS g5 S (aCall p (cw W) S (.func (.func 35) #[] #[]) #[(wV g3 x0), (wV g4 (.func (.func 36) #[] #[x1]))])) fun v6 S7 =>
 bindV (aPick v2 (.bool true) v6) fun v8 =>
 some (v8, S7)
 )
  := (fn_eq Try.func34 rfl ok34 _ _).trans (by kernel_rfl)
noncomputable abbrev f35 := Try.f35
noncomputable def c35 : Code := bodyOf f35
theorem ok35 : codeOk p c35 = true := by kernel_rfl
theorem eq35 (W : World) (x0 x1 : Value) (S : St) : cw W 35 #[x0, x1] S =
 gcR #[x0, x1] S (
 bindS (aCall p (cw W) S (.func (.func 55) #[] #[]) #[x0, x1]) fun v1 S2 =>
 bindV (aBin p .geq 3 v1 (.int .i64 0)) fun v3 =>
 some (v3, S2)
 )
  := (fn_eq Try.func35 rfl ok35 _ _).trans (by kernel_rfl)
noncomputable abbrev f36 := Try.f36
noncomputable def c36 : Code := bodyOf f36
theorem ok36 : codeOk p c36 = true := by kernel_rfl
theorem eq36 (W : World) (x0 x1 : Value) (S : St) : cw W 36 #[x0, x1] S =
 gcR #[x0, x1] S (
 bindV (aFieldAddr p 26 x1 2) fun v1 =>
 bindV (aLoad p W S 2 v1) fun v2 =>
 bindS (aCall p (cw W) S (.func (.func 22) #[] #[]) #[x0, (.int .i64 0), v2]) fun v3 S4 =>
 bindV (aUn p .not v3) fun v5 =>
 some (v5, S4)
 )
  := (fn_eq Try.func36 rfl ok36 _ _).trans (by kernel_rfl)
noncomputable abbrev f37 := Try.f37
noncomputable def c37 : Code := bodyOf f37
theorem ok37 : codeOk p c37 = true := by kernel_rfl
theorem eq37 (W : World) (x0 : Value) (S : St) : cw W 37 #[x0] S =
 gcR #[x0] S (
 bindS (aBox S x0) fun v1 S2 =>
 bindV (aFieldAddr p 68 v1 2) fun v3 =>
 bindV (aLoad p W S2 2 v3) fun v4 =>
 some (v4, S2)
 )
  := (fn_eq Try.func37 rfl ok37 _ _).trans (by kernel_rfl)
noncomputable abbrev f38 := Try.f38
noncomputable def c38 : Code := bodyOf f38
theorem ok38 : codeOk p c38 = true := by kernel_rfl
theorem eq38 (W : World) (x0 x1 : Value) (S : St) : cw W 38 #[x0, x1] S =
 gcR #[x0, x1] S (
 bindS (aBox S x0) fun v1 S2 =>
 bindV (aLoad p W S2 26 x1) fun v3 =>
 bindV (aLoad p W S2 68 v1) fun v4 =>
 bindS (aCall p (cw W) S2 (.func (.func 39) #[] #[]) #[v3, v4]) fun v5 S6 =>
 some (v5, S6)
 )
  := (fn_eq Try.func38 rfl ok38 _ _).trans (by kernel_rfl)
noncomputable abbrev f39 := Try.f39
noncomputable def c39 : Code := bodyOf f39
theorem ok39 : codeOk p c39 = true := by kernel_rfl
theorem eq39 (W : World) (x0 x1 : Value) (S : St) : cw W 39 #[x0, x1] S =
 gcR #[x0, x1] S (
 bindS (aBox S x0) fun v1 S2 =>
 bindS (aBox S2 x1) fun v3 S4 =>
 bindV (aLoad p W S4 26 v1) fun v5 =>
 bindV (aLoad p W S4 68 v3) fun v6 =>
 bindS (aCall p (cw W) S4 (.func (.func 56) #[] #[]) #[v5, v6]) fun v7 S8 =>
 bindV (aUn p .not v7) fun v9 =>
 condK v9
  (
   some ((.int .i64 0), S8)
  )
  (
   bindV (aFieldAddr p 68 v3 2) fun v10 =>
   bindV (aLoad p W S8 2 v10) fun v11 =>
   bindV (aFieldAddr p 68 v3 3) fun v12 =>
   bindV (aLoad p W S8 3 v12) fun v13 =>
   bindS (qS true S8 fun S_ => aCall p (cw W) S_ (.func (.func 57) #[] #[]) #[v13]) fun v14 S15 =>
   bindV (aBin p .add 2 v11 v14) fun v16 =>
   bindV (aFieldAddr p 26 v1 2) fun v17 =>
   bindV (aLoad p W S15 2 v17) fun v18 =>
   bindV (aBin p .add 2 v16 v18) fun v19 =>
   bindV (aFieldAddr p 26 v1 4) fun v20 =>
   bindV (aLoad p W S15 2 v20) fun v21 =>
   bindV (aBin p .mul 2 (.int .i64 2) v21) fun v22 =>
   bindV (aBin p .add 2 v19 v22) fun v23 =>
   some (v23, S15)
  )
 )
  := (fn_eq Try.func39 rfl ok39 _ _).trans (by kernel_rfl)
noncomputable abbrev f40 := Try.f40
noncomputable def c40 : Code := bodyOf f40
theorem ok40 : codeOk p c40 = true := by kernel_rfl
theorem eq40 (W : World) (x0 x1 : Value) (S : St) : cw W 40 #[x0, x1] S =
 gcR #[x0, x1] S (
 bindS (aCall p (cw W) S (.func (.func 58) #[] #[]) #[x0, x1]) fun v1 S2 =>
 bindV (aBin p .geq 3 v1 (.int .i64 0)) fun v3 =>
 some (v3, S2)
 )
  := (fn_eq Try.func40 rfl ok40 _ _).trans (by kernel_rfl)
noncomputable abbrev f41 := Try.f41
noncomputable def c41 : Code := bodyOf f41
theorem ok41 : codeOk p c41 = true := by kernel_rfl
theorem eq41 (W : World) (x0 x1 : Value) (S : St) : cw W 41 #[x0, x1] S =
 gcR #[x0, x1] S (
 bindS (aBox S x0) fun v1 S2 =>
 bindV (aFieldAddr p 26 x1 0) fun v3 =>
 bindV (aLoad p W S2 3 v3) fun v4 =>
 bindV (aFieldAddr p 68 v1 0) fun v5 =>
 bindV (aLoad p W S2 3 v5) fun v6 =>
 bindV (aFieldAddr p 68 v1 1) fun v7 =>
 bindV (aLoad p W S2 27 v7) fun v8 =>
 bindV (aFieldAddr p 68 v1 3) fun v9 =>
 bindV (aLoad p W S2 3 v9) fun v10 =>
 bindS (aCall p (cw W) S2 (.func (.func 28) #[] #[]) #[v4, v6, v8, v10]) fun v11 S12 =>
 bindV (aUn p .not v11) fun v13 =>
 some (v13, S12)
 )
  := (fn_eq Try.func41 rfl ok41 _ _).trans (by kernel_rfl)
noncomputable abbrev f42 := Try.f42
noncomputable def c42 : Code := bodyOf f42
theorem ok42 : codeOk p c42 = true := by kernel_rfl
theorem eq42 (W : World) (x0 x1 : Value) (S : St) : cw W 42 #[x0, x1] S =
 gcR #[x0, x1] S (
 bindS (aBox S x0) fun v1 S2 =>
 bindV (aFieldAddr p 68 v1 2) fun v3 =>
 bindV (aLoad p W S2 2 v3) fun v4 =>
 bindV (aLoad p W S2 26 x1) fun v5 =>
 bindS (qS true S2 fun S_ => aCall p (cw W) S_ (.func (.func 43) #[] #[]) #[v5]) fun v6 S7 =>
 bindV (aBin p .lss 2 v4 v6) fun v8 =>
 gV v8 false fun g9 =>
 bindV (wO g9 (aFieldAddr p 68 v1 2)) fun v10 =>
 gV v8 false fun g11 =>
 bindV (wO g11 (aLoad p W S7 2 v10)) fun v12 =>
 gV v8 false fun g13 =>
 bindV (wO g13 (aFieldAddr p 26 x1 1)) fun v14 =>
 gV v8 false fun g15 =>
 bindV (wO g15 (aLoad p W S7 2 v14)) fun v16 =>
 gV v8 false fun g17 =>
 bindV (wO g17 (aBin p .geq 2 v12 v16)) fun v18 =>
 bindV (aPick v8 (.bool true) v18) fun v19 =>
 gV v19 false fun g20 =>
 bindV (wO g20 (aLoad p W S7 26 x1)) fun v21 =>
 gV v19 false fun g22 =>
 bindV (wO g22 (aLoad p W S7 68 v1)) fun v23 =>
 gV v19 false fun g24 =>
 bindS (wS g24 S7 (qS true S7 fun S_ => aCall p (cw W) S_ (.func (.func 44) #[] #[]) #[v21, v23])) fun v25 S26 =>
 gV v19 false fun g27 =>
 bindV (wO g27 (aFieldAddr p 26 x1 1)) fun v28 =>
 gV v19 false fun g29 =>
 bindV (wO g29 (aLoad p W S26 2 v28)) fun v30 =>
 gV v19 false fun g31 =>
 bindV (wO g31 (aBin p .geq 2 v25 v30)) fun v32 =>
 bindV (aPick v19 (.bool true) v32) fun v33 =>
 some (v33, S26)
 )
  := (fn_eq Try.func42 rfl ok42 _ _).trans (by kernel_rfl)
noncomputable abbrev f43 := Try.f43
noncomputable def c43 : Code := bodyOf f43
theorem ok43 : codeOk p c43 = true := by kernel_rfl
theorem eq43 (W : World) (x0 : Value) (S : St) : cw W 43 #[x0] S =
 gcR #[x0] S (
 bindS (aBox S x0) fun v1 S2 =>
 bindV (aFieldAddr p 26 v1 2) fun v3 =>
 bindV (aLoad p W S2 2 v3) fun v4 =>
 bindV (aBin p .mul 2 (.int .i64 2) v4) fun v5 =>
 bindV (aFieldAddr p 26 v1 3) fun v6 =>
 bindV (aLoad p W S2 2 v6) fun v7 =>
 bindV (aBin p .add 2 v5 v7) fun v8 =>
 bindV (aFieldAddr p 26 v1 4) fun v9 =>
 bindV (aLoad p W S2 2 v9) fun v10 =>
 bindV (aBin p .mul 2 (.int .i64 4) v10) fun v11 =>
 bindV (aBin p .add 2 v8 v11) fun v12 =>
 some (v12, S2)
 )
  := (fn_eq Try.func43 rfl ok43 _ _).trans (by kernel_rfl)
noncomputable abbrev f44 := Try.f44
noncomputable def c44 : Code := bodyOf f44
theorem ok44 : codeOk p c44 = true := by kernel_rfl
theorem eq44 (W : World) (x0 x1 : Value) (S : St) : cw W 44 #[x0, x1] S =
 gcR #[x0, x1] S (
 bindS (aBox S x0) fun v1 S2 =>
 bindS (aBox S2 x1) fun v3 S4 =>
 bindV (aLoad p W S4 26 v1) fun v5 =>
 bindV (aLoad p W S4 68 v3) fun v6 =>
 bindS (aCall p (cw W) S4 (.func (.func 56) #[] #[]) #[v5, v6]) fun v7 S8 =>
 bindV (aUn p .not v7) fun v9 =>
 condK v9
  (
   some ((.int .i64 0), S8)
  )
  (
   bindV (aLoad p W S8 26 v1) fun v10 =>
   bindV (aLoad p W S8 68 v3) fun v11 =>
   bindS (qS true S8 fun S_ => aCall p (cw W) S_ (.func (.func 39) #[] #[]) #[v10, v11]) fun v12 S13 =>
   bindV (aFieldAddr p 68 v3 3) fun v14 =>
   bindV (aLoad p W S13 3 v14) fun v15 =>
   bindS (qS true S13 fun S_ => aCall p (cw W) S_ (.func (.func 57) #[] #[]) #[v15]) fun v16 S17 =>
   bindV (aBin p .add 2 v12 v16) fun v18 =>
   bindV (aFieldAddr p 26 v1 2) fun v19 =>
   bindV (aLoad p W S17 2 v19) fun v20 =>
   bindV (aBin p .add 2 v18 v20) fun v21 =>
   bindV (aFieldAddr p 26 v1 4) fun v22 =>
   bindV (aLoad p W S17 2 v22) fun v23 =>
   bindV (aBin p .add 2 v21 v23) fun v24 =>
   some (v24, S17)
  )
 )
  := (fn_eq Try.func44 rfl ok44 _ _).trans (by kernel_rfl)
noncomputable abbrev f45 := Try.f45
noncomputable def c45 : Code := bodyOf f45
theorem ok45 : codeOk p c45 = true := by kernel_rfl
noncomputable def c45_1010 : Code := codeAt [1, 0, 1, 0, 0] c45
theorem ok45_1010 : codeOk p c45_1010 = true := by kernel_rfl
noncomputable def l45_1010 (W : World) (y0 y1 y2 y3 y7 y8 y9 : Value) (S : St) : Out := la W c45_1010 ⟨#[y0, y1, y2, y3, junk, junk, junk, y7, y8, y9, junk, junk, junk, junk, junk, junk, junk, junk, junk, junk], []⟩ S
theorem eq45 (W : World) (x0 x1 : Value) (S : St) : cw W 45 #[x0, x1] S =
 gcR #[x0, x1] S (
 bindS (aBox S x1) fun v1 S2 =>
 bindV (aLen p W S2 #[23] #[x0]) fun v3 =>
 bindO (l45_1010 W x0 x1 undef v1 x0 v3 (.int .i64 0) S2) (kc W c45 [1, 0, 1, 0] f45)
 )
  := (fn_eq Try.func45 rfl ok45 _ _).trans (by kernel_rfl)
theorem r45_1010 (W : World) (y0 y1 y2 y3 y7 y8 y9 : Value) (S : St) : l45_1010 W y0 y1 y2 y3 y7 y8 y9 S =
 bindV (aBin p .lss 3 y9 y8) fun v4 =>
 condK v4
  (
   bindV (aIndexAddr p 23 y7 y9) fun v5 =>
   bindV (aLoad p W S 68 v5) fun v6 =>
   bindS (aAlloc p S 68) fun v7 S8 =>
   bindT (aStore p S8 68 v7 v6) fun S9 =>
   bindV (aSlice p W S9 23 y0 none (some y9) none) fun v10 =>
   bindS (aCall p (cw W) S9 (.func (.func 40) #[] #[]) #[v10, (.func (.func 59) #[] #[y3, v7])]) fun v11 S12 =>
   condK v11
    (
     some (.ret, ⟨#[y0, y1, y2, y3, (.bool true), y9, v7, y7, y8, y9, v4, y9, v5, v6, y0, y9, v10, (.func (.func 59) #[] #[y3, v7]), v11, junk], []⟩, S12)
    )
    (
     bindV (aBin p .add 3 y9 (.int .i64 1)) fun v13 =>
     l45_1010 W y0 y1 y2 y3 y7 y8 v13 S12
    )
  )
  (
   some (.exit 0, ⟨#[y0, y1, y2, y3, junk, junk, junk, y7, y8, y9, v4, junk, junk, junk, junk, junk, junk, junk, junk, junk], []⟩, S)
  )
  := (round_eq ok45_1010 ⟨#[y0, y1, y2, y3, junk, junk, junk, y7, y8, y9, junk, junk, junk, junk, junk, junk, junk, junk, junk, junk], []⟩ S).trans (by kernel_rfl)
theorem k45_1010_0 (W : World) (y0 y1 y2 y3 y4 y5 y6 y7 y8 y9 y10 y11 y12 y13 y14 y15 y16 y17 y18 y19 : Value) (S : St) : kc W c45 [1, 0, 1, 0] f45 (.exit 0) ⟨#[y0, y1, y2, y3, y4, y5, y6, y7, y8, y9, y10, y11, y12, y13, y14, y15, y16, y17, y18, y19], []⟩ S =
 some ((.bool false), S)
  := by kernel_rfl
theorem k45_1010_ret (W : World) (y0 y1 y2 y3 y4 y5 y6 y7 y8 y9 y10 y11 y12 y13 y14 y15 y16 y17 y18 y19 : Value) (S : St) : kc W c45 [1, 0, 1, 0] f45 (.ret) ⟨#[y0, y1, y2, y3, y4, y5, y6, y7, y8, y9, y10, y11, y12, y13, y14, y15, y16, y17, y18, y19], []⟩ S =
 some (y4, S)
  := by kernel_rfl
noncomputable abbrev f46 := Try.f46
noncomputable def c46 : Code := bodyOf f46
theorem ok46 : codeOk p c46 = true := by kernel_rfl
theorem eq46 (W : World) (x0 x1 x2 : Value) (S : St) : cw W 46 #[x0, x1, x2] S =
 gcR #[x0, x1, x2] S (
 bindS (aBox S x0) fun v1 S2 =>
 bindS (aBox S2 x1) fun v3 S4 =>
 bindV (aFieldAddr p 68 v1 0) fun v5 =>
 bindV (aLoad p W S4 3 v5) fun v6 =>
 bindV (aFieldAddr p 68 v3 0) fun v7 =>
 bindV (aLoad p W S4 3 v7) fun v8 =>
 bindV (aBin p .eql 3 v6 v8) fun v9 =>
 gV v9 true fun g10 =>
 bindV (wO g10 (aLoad p W S4 68 v1)) fun v11 =>
 gV v9 true fun g12 =>
 bindV (wO g12 (aLoad p W S4 68 v3)) fun v13 =>
 gV v9 true fun g14 =>
 bindV (wO g14 (aLoad p W S4 83 x2)) fun v15 =>
 gV v9 true fun g16 =>
 bindS (wS g16 S4 (aCall p (cw W) S4 (.func (.func 47) #[] #[]) #[v11, v13, v15])) fun v17 S18 =>
 bindV (aPick v9 v17 (.bool false)) fun v19 =>
 some (v19, S18)
 )
  := (fn_eq Try.func46 rfl ok46 _ _).trans (by kernel_rfl)
end Go.Proofs.Yteofdikfdknpbaa.F
end
section
namespace Go.Proofs.Yteofdikfdknpbaa.F
open Go Go.Proofs.Yteofdikfdknpbaa.E
set_option linter.unusedVariables false
set_option maxRecDepth 100000
noncomputable abbrev f47 := Try.f47
noncomputable def c47 : Code := bodyOf f47
theorem ok47 : codeOk p c47 = true := by kernel_rfl
theorem eq47 (W : World) (x0 x1 x2 : Value) (S : St) : cw W 47 #[x0, x1, x2] S =
 gcR #[x0, x1, x2] S (
 bindS (aBox S x0) fun v1 S2 =>
 bindS (aBox S2 x1) fun v3 S4 =>
 bindV (aLoad p W S4 68 v1) fun v5 =>
 bindS (qS true S4 fun S_ => aCall p (cw W) S_ x2 #[v5]) fun v6 S7 =>
 bindV (aLoad p W S7 68 v3) fun v8 =>
 bindS (qS true S7 fun S_ => aCall p (cw W) S_ x2 #[v8]) fun v9 S10 =>
 bindV (aFieldAddr p 68 v3 3) fun v11 =>
 bindV (aLoad p W S10 3 v11) fun v12 =>
 bindS (aCall p (cw W) S10 (.func (.func 57) #[] #[]) #[v12]) fun v13 S14 =>
 bindV (aBin p .add 2 v9 v13) fun v15 =>
 bindV (aBin p .lss 2 v6 v15) fun v16 =>
 gV v16 true fun g17 =>
 gV v16 true fun g18 =>
 bindV (wO g18 (aLoad p W S14 68 v3)) fun v19 =>
 gV v16 true fun g20 =>
 bindS (wS g20 S14 (qS true S14 fun S_ => aCall p (cw W) S_ (wV g17 x2) #[v19])) fun v21 S22 =>
 gV v16 true fun g23 =>
 gV v16 true fun g24 =>
 bindV (wO g24 (aLoad p W S22 68 v1)) fun v25 =>
 gV v16 true fun g26 =>
 bindS (wS g26 S22 (qS true S22 fun S_ => aCall p (cw W) S_ (wV g23 x2) #[v25])) fun v27 S28 =>
 gV v16 true fun g29 =>
 bindV (wO g29 (aFieldAddr p 68 v1 3)) fun v30 =>
 gV v16 true fun g31 =>
 bindV (wO g31 (aLoad p W S28 3 v30)) fun v32 =>
 gV v16 true fun g33 =>
 bindS (wS g33 S28 (aCall p (cw W) S28 (.func (.func 57) #[] #[]) #[v32])) fun v34 S35 =>
 gV v16 true fun g36 =>
 bindV (wO g36 (aBin p .add 2 v27 v34)) fun v37 =>
 gV v16 true fun g38 =>
 bindV (wO g38 (aBin p .lss 2 v21 v37)) fun v39 =>
 bindV (aPick v16 v39 (.bool false)) fun v40 =>
 some (v40, S35)
 )
  := (fn_eq Try.func47 rfl ok47 _ _).trans (by kernel_rfl)
noncomputable abbrev f48 := Try.f48
noncomputable def c48 : Code := bodyOf f48
theorem ok48 : codeOk p c48 = true := by kernel_rfl
theorem eq48 (W : World) (x0 x1 x2 : Value) (S : St) : cw W 48 #[x0, x1, x2] S =
 gcR #[x0, x1, x2] S (
 bindS (aBox S x0) fun v1 S2 =>
 bindS (aBox S2 x1) fun v3 S4 =>
 bindV (aFieldAddr p 68 v1 1) fun v5 =>
 bindV (aLoad p W S4 27 v5) fun v6 =>
 bindV (aFieldAddr p 68 v3 1) fun v7 =>
 bindV (aLoad p W S4 27 v7) fun v8 =>
 bindV (aBin p .and 27 v6 v8) fun v9 =>
 bindV (aBin p .neq 27 v9 (.int .u32 0)) fun v10 =>
 gV v10 true fun g11 =>
 bindV (wO g11 (aLoad p W S4 68 v1)) fun v12 =>
 gV v10 true fun g13 =>
 bindV (wO g13 (aLoad p W S4 68 v3)) fun v14 =>
 gV v10 true fun g15 =>
 bindV (wO g15 (aLoad p W S4 83 x2)) fun v16 =>
 gV v10 true fun g17 =>
 bindS (wS g17 S4 (aCall p (cw W) S4 (.func (.func 47) #[] #[]) #[v12, v14, v16])) fun v18 S19 =>
 bindV (aPick v10 v18 (.bool false)) fun v20 =>
 some (v20, S19)
 )
  := (fn_eq Try.func48 rfl ok48 _ _).trans (by kernel_rfl)
noncomputable abbrev f49 := Try.f49
noncomputable def c49 : Code := bodyOf f49
theorem ok49 : codeOk p c49 = true := by kernel_rfl
noncomputable def c49_1010 : Code := codeAt [1, 0, 1, 0, 0] c49
theorem ok49_1010 : codeOk p c49_1010 = true := by kernel_rfl
noncomputable def l49_1010 (W : World) (y0 y1 y2 y3 y6 y7 y8 : Value) (S : St) : Out := la W c49_1010 ⟨#[y0, y1, y2, y3, junk, junk, y6, y7, y8, junk, junk, junk, junk, junk, junk, junk, junk, junk, junk], []⟩ S
theorem eq49 (W : World) (x0 x1 : Value) (S : St) : cw W 49 #[x0, x1] S =
 gcR #[x0, x1] S (
 bindV (aLen p W S #[24] #[x0]) fun v1 =>
 bindO (l49_1010 W x0 x1 undef undef x0 v1 (.int .i64 0) S) (kc W c49 [1, 0, 1, 0] f49)
 )
  := (fn_eq Try.func49 rfl ok49 _ _).trans (by kernel_rfl)
theorem r49_1010 (W : World) (y0 y1 y2 y3 y6 y7 y8 : Value) (S : St) : l49_1010 W y0 y1 y2 y3 y6 y7 y8 S =
 bindV (aBin p .lss 3 y8 y7) fun v2 =>
 condK v2
  (
   bindV (aIndexAddr p 24 y0 y8) fun v3 =>
   bindV (aLoad p W S 73 v3) fun v4 =>
   bindS (aCall p (cw W) S y1 #[v4]) fun v5 S6 =>
   condK v5
    (
     some (.ret, ⟨#[y0, y1, y2, y3, y8, y8, y6, y7, y8, v2, y8, y1, y0, y8, v3, v4, v5, y8, junk], []⟩, S6)
    )
    (
     bindV (aBin p .add 3 y8 (.int .i64 1)) fun v7 =>
     l49_1010 W y0 y1 y2 y3 y6 y7 v7 S6
    )
  )
  (
   some (.exit 0, ⟨#[y0, y1, y2, y3, junk, junk, y6, y7, y8, v2, junk, junk, junk, junk, junk, junk, junk, junk, junk], []⟩, S)
  )
  := (round_eq ok49_1010 ⟨#[y0, y1, y2, y3, junk, junk, y6, y7, y8, junk, junk, junk, junk, junk, junk, junk, junk, junk, junk], []⟩ S).trans (by kernel_rfl)
theorem k49_1010_0 (W : World) (y0 y1 y2 y3 y4 y5 y6 y7 y8 y9 y10 y11 y12 y13 y14 y15 y16 y17 y18 : Value) (S : St) : kc W c49 [1, 0, 1, 0] f49 (.exit 0) ⟨#[y0, y1, y2, y3, y4, y5, y6, y7, y8, y9, y10, y11, y12, y13, y14, y15, y16, y17, y18], []⟩ S =
 some ((.int .i64 (-1)), S)
  := by kernel_rfl
theorem k49_1010_ret (W : World) (y0 y1 y2 y3 y4 y5 y6 y7 y8 y9 y10 y11 y12 y13 y14 y15 y16 y17 y18 : Value) (S : St) : kc W c49 [1, 0, 1, 0] f49 (.ret) ⟨#[y0, y1, y2, y3, y4, y5, y6, y7, y8, y9, y10, y11, y12, y13, y14, y15, y16, y17, y18], []⟩ S =
 some (y4, S)
  := by kernel_rfl
noncomputable abbrev f50 := Try.f50
noncomputable def c50 : Code := bodyOf f50
theorem ok50 : codeOk p c50 = true := by kernel_rfl
theorem eq50 (W : World) (x0 x1 : Value) (S : St) : cw W 50 #[x0, x1] S =
 gcR #[x0, x1] S (
 bindV (aBin p .geq 3 x1 (.int .i64 0)) fun v1 =>
 gV v1 true fun g2 =>
 gV v1 true fun g3 =>
 bindV (wO g3 (aBin p .lss 3 (wV g2 x1) (.int .i64 6))) fun v4 =>
 bindV (aPick v1 v4 (.bool false)) fun v5 =>
 gV v5 true fun g6 =>
 gV v5 true fun g7 =>
 gV v5 true fun g8 =>
 bindS (wS g8 S (aConv p W S 3 91 (wV g7 x1))) fun v9 S10 =>
 gV v5 true fun g11 =>
 bindV (wO g11 (aBin p .shr 27 (wV g6 x0) v9)) fun v12 =>
 gV v5 true fun g13 =>
 bindV (wO g13 (aBin p .and 27 v12 (.int .u32 1))) fun v14 =>
 gV v5 true fun g15 =>
 bindV (wO g15 (aBin p .eql 27 v14 (.int .u32 1))) fun v16 =>
 bindV (aPick v5 v16 (.bool false)) fun v17 =>
 some (v17, S10)
 )
  := (fn_eq Try.func50 rfl ok50 _ _).trans (by kernel_rfl)
noncomputable abbrev f51 := Try.f51
noncomputable def c51 : Code := bodyOf f51
theorem ok51 : codeOk p c51 = true := by kernel_rfl
theorem eq51 (W : World) (x0 x1 x2 : Value) (S : St) : cw W 51 #[x0, x1, x2] S =
 gcR #[x0, x1, x2] S (
 bindV (aBin p .geq 2 x0 x1) fun v1 =>
 gV v1 true fun g2 =>
 gV v1 true fun g3 =>
 gV v1 true fun g4 =>
 bindV (wO g4 (aBin p .leq 2 (wV g2 x0) (wV g3 x2))) fun v5 =>
 bindV (aPick v1 v5 (.bool false)) fun v6 =>
 some (v6, S)
 )
  := (fn_eq Try.func51 rfl ok51 _ _).trans (by kernel_rfl)
noncomputable abbrev f52 := Try.f52
noncomputable def c52 : Code := bodyOf f52
theorem ok52 : codeOk p c52 = true := by kernel_rfl
noncomputable def c52_11010 : Code := codeAt [1, 1, 0, 1, 0, 0] c52
theorem ok52_11010 : codeOk p c52_11010 = true := by kernel_rfl
noncomputable def l52_11010 (W : World) (y0 y1 y2 y3 y4 y7 y8 y9 y29 y30 : Value) (S : St) : Out := la W c52_11010 ⟨#[y0, y1, y2, y3, y4, junk, junk, y7, y8, y9, junk, junk, junk, junk, junk, junk, junk, junk, junk, junk, junk, junk, junk, junk, junk, junk, junk, junk, junk, y29, y30], []⟩ S
noncomputable def c52_11010011001110 : Code := codeAt [1, 1, 0, 1, 0, 0, 1, 1, 0, 0, 1, 1, 1, 0, 0] c52
theorem ok52_11010011001110 : codeOk p c52_11010011001110 = true := by kernel_rfl
noncomputable def l52_11010011001110 (W : World) (y0 y1 y2 y3 y4 y5 y7 y8 y9 y10 y11 y12 y13 y14 y15 y16 y17 y28 y29 y30 : Value) (S : St) : Out := la W c52_11010011001110 ⟨#[y0, y1, y2, y3, y4, y5, junk, y7, y8, y9, y10, y11, y12, y13, y14, y15, y16, y17, junk, junk, junk, junk, junk, junk, junk, junk, junk, junk, y28, y29, y30], []⟩ S
theorem eq52 (W : World) (x0 : Value) (S : St) : cw W 52 #[x0] S =
 gcR #[x0] S (
 bindV (aLen p W S #[55] #[x0]) fun v1 =>
 bindO (l52_11010 W x0 undef (.int .u32 0) (.int .u32 4294967295) undef x0 v1 (.int .i64 0) undef undef S) (kc W c52 [1, 1, 0, 1, 0] f52)
 )
  := (fn_eq Try.func52 rfl ok52 _ _).trans (by kernel_rfl)
theorem r52_11010 (W : World) (y0 y1 y2 y3 y4 y7 y8 y9 y29 y30 : Value) (S : St) : l52_11010 W y0 y1 y2 y3 y4 y7 y8 y9 y29 y30 S =
 bindV (aBin p .lss 3 y9 y8) fun v2 =>
 condK v2
  (
   bindV (aIndexAddr p 55 y7 y9) fun v3 =>
   bindV (aLoad p W S 5 v3) fun v4 =>
   bindS (aConv p W S 5 27 v4) fun v5 S6 =>
   bindV (aBin p .xor 27 y3 v5) fun v7 =>
   bindO (l52_11010011001110 W y0 y1 y2 v7 y4 v4 y7 y8 y9 v2 v3 v4 y3 v4 v5 v7 (.int .i64 0) junk y29 y30 S6) (rk W c52_11010 [1, 1, 0, 0, 1, 1, 1, 0])
  )
  (
   some (.exit 0, ⟨#[y0, y1, y2, y3, y4, junk, junk, y7, y8, y9, v2, junk, junk, junk, junk, junk, junk, junk, junk, junk, junk, junk, junk, junk, junk, junk, junk, junk, junk, y29, y30], []⟩, S)
  )
  := (round_eq ok52_11010 ⟨#[y0, y1, y2, y3, y4, junk, junk, y7, y8, y9, junk, junk, junk, junk, junk, junk, junk, junk, junk, junk, junk, junk, junk, junk, junk, junk, junk, junk, junk, y29, y30], []⟩ S).trans (by kernel_rfl)
theorem r52_11010011001110 (W : World) (y0 y1 y2 y3 y4 y5 y7 y8 y9 y10 y11 y12 y13 y14 y15 y16 y17 y28 y29 y30 : Value) (S : St) : l52_11010011001110 W y0 y1 y2 y3 y4 y5 y7 y8 y9 y10 y11 y12 y13 y14 y15 y16 y17 y28 y29 y30 S =
 bindV (aBin p .lss 3 y17 (.int .i64 8)) fun v8 =>
 condK v8
  (
   bindV (aBin p .and 27 y3 (.int .u32 1)) fun v9 =>
   bindV (aBin p .shr 27 y3 (.int .u64 1)) fun v10 =>
   bindV (aBin p .eql 27 v9 (.int .u32 1)) fun v11 =>
   condK v11
    (
     bindV (aBin p .xor 27 v10 (.int .u32 3988292384)) fun v12 =>
     bindV (aBin p .add 3 y17 (.int .i64 1)) fun v13 =>
     l52_11010011001110 W y0 y1 y2 v12 y4 y5 y7 y8 y9 y10 y11 y12 y13 y14 y15 y16 v13 y28 y29 y30 S
    )
    (
     bindV (aBin p .add 3 y17 (.int .i64 1)) fun v14 =>
     l52_11010011001110 W y0 y1 y2 v10 y4 y5 y7 y8 y9 y10 y11 y12 y13 y14 y15 y16 v14 y28 y29 y30 S
    )
  )
  (
   some (.exit 2, ⟨#[y0, y1, y2, y3, y4, y5, junk, y7, y8, y9, y10, y11, y12, y13, y14, y15, y16, y17, v8, junk, junk, junk, junk, junk, junk, junk, junk, junk, y28, y29, y30], []⟩, S)
  )
  := (round_eq ok52_11010011001110 ⟨#[y0, y1, y2, y3, y4, y5, junk, y7, y8, y9, y10, y11, y12, y13, y14, y15, y16, y17, junk, junk, junk, junk, junk, junk, junk, junk, junk, junk, y28, y29, y30], []⟩ S).trans (by kernel_rfl)
theorem k52_11010_0 (W : World) (y0 y1 y2 y3 y4 y5 y6 y7 y8 y9 y10 y11 y12 y13 y14 y15 y16 y17 y18 y19 y20 y21 y22 y23 y24 y25 y26 y27 y28 y29 y30 : Value) (S : St) : kc W c52 [1, 1, 0, 1, 0] f52 (.exit 0) ⟨#[y0, y1, y2, y3, y4, y5, y6, y7, y8, y9, y10, y11, y12, y13, y14, y15, y16, y17, y18, y19, y20, y21, y22, y23, y24, y25, y26, y27, y28, y29, y30], []⟩ S =
 bindV (aUn p .xor y3) fun v1 =>
 some (v1, S)
  := by kernel_rfl
theorem k52_11010011001110_2 (W : World) (y0 y1 y2 y3 y4 y5 y6 y7 y8 y9 y10 y11 y12 y13 y14 y15 y16 y17 y18 y19 y20 y21 y22 y23 y24 y25 y26 y27 y28 y29 y30 : Value) (S : St) : rk W c52_11010 [1, 1, 0, 0, 1, 1, 1, 0] (.exit 2) ⟨#[y0, y1, y2, y3, y4, y5, y6, y7, y8, y9, y10, y11, y12, y13, y14, y15, y16, y17, y18, y19, y20, y21, y22, y23, y24, y25, y26, y27, y28, y29, y30], []⟩ S =
 bindV (aBin p .add 3 y9 (.int .i64 1)) fun v1 =>
 l52_11010 W y0 y1 y2 y3 y4 y7 y8 v1 y29 y30 S
  := by kernel_rfl
noncomputable abbrev f53 := Try.f53
noncomputable def c53 : Code := bodyOf f53
theorem ok53 : codeOk p c53 = true := by kernel_rfl
theorem eq53 (W : World) (x0 : Value) (S : St) : cw W 53 #[x0] S =
 gcR #[x0] S (
 bindV (aBin p .shr 27 x0 (.int .u64 24)) fun v1 =>
 bindV (still p (Instr.index 9 (.string { data := #[0, 1, 1, 2, 1, 2, 2, 3, 1, 2, 2, 3, 2, 3, 3, 4, 1, 2, 2, 3, 2, 3, 3, 4, 2, 3, 3, 4, 3, 4, 4, 5, 1, 2, 2, 3, 2, 3, 3, 4, 2, 3, 3, 4, 3, 4, 4, 5, 2, 3, 3, 4, 3, 4, 4, 5, 3, 4, 4, 5, 4, 5, 5, 6, 1, 2, 2, 3, 2, 3, 3, 4, 2, 3, 3, 4, 3, 4, 4, 5, 2, 3, 3, 4, 3, 4, 4, 5, 3, 4, 4, 5, 4, 5, 5, 6, 2, 3, 3, 4, 3, 4, 4, 5, 3, 4, 4, 5, 4, 5, 5, 6, 3, 4, 4, 5, 4, 5, 5, 6, 4, 5, 5, 6, 5, 6, 6, 7, 1, 2, 2, 3, 2, 3, 3, 4, 2, 3, 3, 4, 3, 4, 4, 5, 2, 3, 3, 4, 3, 4, 4, 5, 3, 4, 4, 5, 4, 5, 5, 6, 2, 3, 3, 4, 3, 4, 4, 5, 3, 4, 4, 5, 4, 5, 5, 6, 3, 4, 4, 5, 4, 5, 5, 6, 4, 5, 5, 6, 5, 6, 6, 7, 2, 3, 3, 4, 3, 4, 4, 5, 3, 4, 4, 5, 4, 5, 5, 6, 3, 4, 4, 5, 4, 5, 5, 6, 4, 5, 5, 6, 5, 6, 6, 7, 3, 4, 4, 5, 4, 5, 5, 6, 4, 5, 5, 6, 5, 6, 6, 7, 4, 5, 5, 6, 5, 6, 6, 7, 5, 6, 6, 7, 6, 7, 7, 8] }) v1)) fun v2 =>
 bindV (aBin p .shr 27 x0 (.int .u64 16)) fun v3 =>
 bindV (aBin p .and 27 v3 (.int .u32 255)) fun v4 =>
 bindV (still p (Instr.index 9 (.string { data := #[0, 1, 1, 2, 1, 2, 2, 3, 1, 2, 2, 3, 2, 3, 3, 4, 1, 2, 2, 3, 2, 3, 3, 4, 2, 3, 3, 4, 3, 4, 4, 5, 1, 2, 2, 3, 2, 3, 3, 4, 2, 3, 3, 4, 3, 4, 4, 5, 2, 3, 3, 4, 3, 4, 4, 5, 3, 4, 4, 5, 4, 5, 5, 6, 1, 2, 2, 3, 2, 3, 3, 4, 2, 3, 3, 4, 3, 4, 4, 5, 2, 3, 3, 4, 3, 4, 4, 5, 3, 4, 4, 5, 4, 5, 5, 6, 2, 3, 3, 4, 3, 4, 4, 5, 3, 4, 4, 5, 4, 5, 5, 6, 3, 4, 4, 5, 4, 5, 5, 6, 4, 5, 5, 6, 5, 6, 6, 7, 1, 2, 2, 3, 2, 3, 3, 4, 2, 3, 3, 4, 3, 4, 4, 5, 2, 3, 3, 4, 3, 4, 4, 5, 3, 4, 4, 5, 4, 5, 5, 6, 2, 3, 3, 4, 3, 4, 4, 5, 3, 4, 4, 5, 4, 5, 5, 6, 3, 4, 4, 5, 4, 5, 5, 6, 4, 5, 5, 6, 5, 6, 6, 7, 2, 3, 3, 4, 3, 4, 4, 5, 3, 4, 4, 5, 4, 5, 5, 6, 3, 4, 4, 5, 4, 5, 5, 6, 4, 5, 5, 6, 5, 6, 6, 7, 3, 4, 4, 5, 4, 5, 5, 6, 4, 5, 5, 6, 5, 6, 6, 7, 4, 5, 5, 6, 5, 6, 6, 7, 5, 6, 6, 7, 6, 7, 7, 8] }) v4)) fun v5 =>
 bindV (aBin p .add 5 v2 v5) fun v6 =>
 bindV (aBin p .shr 27 x0 (.int .u64 8)) fun v7 =>
 bindV (aBin p .and 27 v7 (.int .u32 255)) fun v8 =>
 bindV (still p (Instr.index 9 (.string { data := #[0, 1, 1, 2, 1, 2, 2, 3, 1, 2, 2, 3, 2, 3, 3, 4, 1, 2, 2, 3, 2, 3, 3, 4, 2, 3, 3, 4, 3, 4, 4, 5, 1, 2, 2, 3, 2, 3, 3, 4, 2, 3, 3, 4, 3, 4, 4, 5, 2, 3, 3, 4, 3, 4, 4, 5, 3, 4, 4, 5, 4, 5, 5, 6, 1, 2, 2, 3, 2, 3, 3, 4, 2, 3, 3, 4, 3, 4, 4, 5, 2, 3, 3, 4, 3, 4, 4, 5, 3, 4, 4, 5, 4, 5, 5, 6, 2, 3, 3, 4, 3, 4, 4, 5, 3, 4, 4, 5, 4, 5, 5, 6, 3, 4, 4, 5, 4, 5, 5, 6, 4, 5, 5, 6, 5, 6, 6, 7, 1, 2, 2, 3, 2, 3, 3, 4, 2, 3, 3, 4, 3, 4, 4, 5, 2, 3, 3, 4, 3, 4, 4, 5, 3, 4, 4, 5, 4, 5, 5, 6, 2, 3, 3, 4, 3, 4, 4, 5, 3, 4, 4, 5, 4, 5, 5, 6, 3, 4, 4, 5, 4, 5, 5, 6, 4, 5, 5, 6, 5, 6, 6, 7, 2, 3, 3, 4, 3, 4, 4, 5, 3, 4, 4, 5, 4, 5, 5, 6, 3, 4, 4, 5, 4, 5, 5, 6, 4, 5, 5, 6, 5, 6, 6, 7, 3, 4, 4, 5, 4, 5, 5, 6, 4, 5, 5, 6, 5, 6, 6, 7, 4, 5, 5, 6, 5, 6, 6, 7, 5, 6, 6, 7, 6, 7, 7, 8] }) v8)) fun v9 =>
 bindV (aBin p .add 5 v6 v9) fun v10 =>
 bindV (aBin p .and 27 x0 (.int .u32 255)) fun v11 =>
 bindV (still p (Instr.index 9 (.string { data := #[0, 1, 1, 2, 1, 2, 2, 3, 1, 2, 2, 3, 2, 3, 3, 4, 1, 2, 2, 3, 2, 3, 3, 4, 2, 3, 3, 4, 3, 4, 4, 5, 1, 2, 2, 3, 2, 3, 3, 4, 2, 3, 3, 4, 3, 4, 4, 5, 2, 3, 3, 4, 3, 4, 4, 5, 3, 4, 4, 5, 4, 5, 5, 6, 1, 2, 2, 3, 2, 3, 3, 4, 2, 3, 3, 4, 3, 4, 4, 5, 2, 3, 3, 4, 3, 4, 4, 5, 3, 4, 4, 5, 4, 5, 5, 6, 2, 3, 3, 4, 3, 4, 4, 5, 3, 4, 4, 5, 4, 5, 5, 6, 3, 4, 4, 5, 4, 5, 5, 6, 4, 5, 5, 6, 5, 6, 6, 7, 1, 2, 2, 3, 2, 3, 3, 4, 2, 3, 3, 4, 3, 4, 4, 5, 2, 3, 3, 4, 3, 4, 4, 5, 3, 4, 4, 5, 4, 5, 5, 6, 2, 3, 3, 4, 3, 4, 4, 5, 3, 4, 4, 5, 4, 5, 5, 6, 3, 4, 4, 5, 4, 5, 5, 6, 4, 5, 5, 6, 5, 6, 6, 7, 2, 3, 3, 4, 3, 4, 4, 5, 3, 4, 4, 5, 4, 5, 5, 6, 3, 4, 4, 5, 4, 5, 5, 6, 4, 5, 5, 6, 5, 6, 6, 7, 3, 4, 4, 5, 4, 5, 5, 6, 4, 5, 5, 6, 5, 6, 6, 7, 4, 5, 5, 6, 5, 6, 6, 7, 5, 6, 6, 7, 6, 7, 7, 8] }) v11)) fun v12 =>
 bindV (aBin p .add 5 v10 v12) fun v13 =>
 bindS (aConv p W S 5 3 v13) fun v14 S15 =>
 some (v14, S15)
 )
  := (fn_eq Try.func53 rfl ok53 _ _).trans (by kernel_rfl)
noncomputable abbrev f54 := Try.f54
noncomputable def c54 : Code := bodyOf f54
theorem ok54 : codeOk p c54 = true := by kernel_rfl
noncomputable def c54_1010 : Code := codeAt [1, 0, 1, 0, 0] c54
theorem ok54_1010 : codeOk p c54_1010 = true := by kernel_rfl
noncomputable def l54_1010 (W : World) (y0 y1 y2 y3 y6 y7 y8 : Value) (S : St) : Out := la W c54_1010 ⟨#[y0, y1, y2, y3, junk, junk, y6, y7, y8, junk, junk, junk, junk, junk, junk, junk, junk, junk, junk], []⟩ S
theorem eq54 (W : World) (x0 x1 : Value) (S : St) : cw W 54 #[x0, x1] S =
 gcR #[x0, x1] S (
 bindV (aLen p W S #[22] #[x0]) fun v1 =>
 bindO (l54_1010 W x0 x1 undef undef x0 v1 (.int .i64 0) S) (kc W c54 [1, 0, 1, 0] f54)
 )
  := (fn_eq Try.func54 rfl ok54 _ _).trans (by kernel_rfl)
theorem r54_1010 (W : World) (y0 y1 y2 y3 y6 y7 y8 : Value) (S : St) : l54_1010 W y0 y1 y2 y3 y6 y7 y8 S =
 bindV (aBin p .lss 3 y8 y7) fun v2 =>
 condK v2
  (
   bindV (aIndexAddr p 22 y0 y8) fun v3 =>
   bindV (aLoad p W S 65 v3) fun v4 =>
   bindS (aCall p (cw W) S y1 #[v4]) fun v5 S6 =>
   condK v5
    (
     some (.ret, ⟨#[y0, y1, y2, y3, y8, y8, y6, y7, y8, v2, y8, y1, y0, y8, v3, v4, v5, y8, junk], []⟩, S6)
    )
    (
     bindV (aBin p .add 3 y8 (.int .i64 1)) fun v7 =>
     l54_1010 W y0 y1 y2 y3 y6 y7 v7 S6
    )
  )
  (
   some (.exit 0, ⟨#[y0, y1, y2, y3, junk, junk, y6, y7, y8, v2, junk, junk, junk, junk, junk, junk, junk, junk, junk], []⟩, S)
  )
  := (round_eq ok54_1010 ⟨#[y0, y1, y2, y3, junk, junk, y6, y7, y8, junk, junk, junk, junk, junk, junk, junk, junk, junk, junk], []⟩ S).trans (by kernel_rfl)
theorem k54_1010_0 (W : World) (y0 y1 y2 y3 y4 y5 y6 y7 y8 y9 y10 y11 y12 y13 y14 y15 y16 y17 y18 : Value) (S : St) : kc W c54 [1, 0, 1, 0] f54 (.exit 0) ⟨#[y0, y1, y2, y3, y4, y5, y6, y7, y8, y9, y10, y11, y12, y13, y14, y15, y16, y17, y18], []⟩ S =
 some ((.int .i64 (-1)), S)
  := by kernel_rfl
theorem k54_1010_ret (W : World) (y0 y1 y2 y3 y4 y5 y6 y7 y8 y9 y10 y11 y12 y13 y14 y15 y16 y17 y18 : Value) (S : St) : kc W c54 [1, 0, 1, 0] f54 (.ret) ⟨#[y0, y1, y2, y3, y4, y5, y6, y7, y8, y9, y10, y11, y12, y13, y14, y15, y16, y17, y18], []⟩ S =
 some (y4, S)
  := by kernel_rfl
noncomputable abbrev f55 := Try.f55
noncomputable def c55 : Code := bodyOf f55
theorem ok55 : codeOk p c55 = true := by kernel_rfl
noncomputable def c55_1010 : Code := codeAt [1, 0, 1, 0, 0] c55
theorem ok55_1010 : codeOk p c55_1010 = true := by kernel_rfl
noncomputable def l55_1010 (W : World) (y0 y1 y2 y3 y6 y7 y8 : Value) (S : St) : Out := la W c55_1010 ⟨#[y0, y1, y2, y3, junk, junk, y6, y7, y8, junk, junk, junk, junk, junk, junk, junk, junk, junk, junk], []⟩ S
theorem eq55 (W : World) (x0 x1 : Value) (S : St) : cw W 55 #[x0, x1] S =
 gcR #[x0, x1] S (
 bindV (aLen p W S #[65] #[x0]) fun v1 =>
 bindO (l55_1010 W x0 x1 undef undef x0 v1 (.int .i64 0) S) (kc W c55 [1, 0, 1, 0] f55)
 )
  := (fn_eq Try.func55 rfl ok55 _ _).trans (by kernel_rfl)
theorem r55_1010 (W : World) (y0 y1 y2 y3 y6 y7 y8 : Value) (S : St) : l55_1010 W y0 y1 y2 y3 y6 y7 y8 S =
 bindV (aBin p .lss 3 y8 y7) fun v2 =>
 condK v2
  (
   bindV (aIndexAddr p 65 y0 y8) fun v3 =>
   bindV (aLoad p W S 2 v3) fun v4 =>
   bindS (aCall p (cw W) S y1 #[v4]) fun v5 S6 =>
   condK v5
    (
     some (.ret, ⟨#[y0, y1, y2, y3, y8, y8, y6, y7, y8, v2, y8, y1, y0, y8, v3, v4, v5, y8, junk], []⟩, S6)
    )
    (
     bindV (aBin p .add 3 y8 (.int .i64 1)) fun v7 =>
     l55_1010 W y0 y1 y2 y3 y6 y7 v7 S6
    )
  )
  (
   some (.exit 0, ⟨#[y0, y1, y2, y3, junk, junk, y6, y7, y8, v2, junk, junk, junk, junk, junk, junk, junk, junk, junk], []⟩, S)
  )
  := (round_eq ok55_1010 ⟨#[y0, y1, y2, y3, junk, junk, y6, y7, y8, junk, junk, junk, junk, junk, junk, junk, junk, junk, junk], []⟩ S).trans (by kernel_rfl)
theorem k55_1010_0 (W : World) (y0 y1 y2 y3 y4 y5 y6 y7 y8 y9 y10 y11 y12 y13 y14 y15 y16 y17 y18 : Value) (S : St) : kc W c55 [1, 0, 1, 0] f55 (.exit 0) ⟨#[y0, y1, y2, y3, y4, y5, y6, y7, y8, y9, y10, y11, y12, y13, y14, y15, y16, y17, y18], []⟩ S =
 some ((.int .i64 (-1)), S)
  := by kernel_rfl
theorem k55_1010_ret (W : World) (y0 y1 y2 y3 y4 y5 y6 y7 y8 y9 y10 y11 y12 y13 y14 y15 y16 y17 y18 : Value) (S : St) : kc W c55 [1, 0, 1, 0] f55 (.ret) ⟨#[y0, y1, y2, y3, y4, y5, y6, y7, y8, y9, y10, y11, y12, y13, y14, y15, y16, y17, y18], []⟩ S =
 some (y4, S)
  := by kernel_rfl
noncomputable abbrev f56 := Try.f56
noncomputable def c56 : Code := bodyOf f56
theorem ok56 : codeOk p c56 = true := by kernel_rfl
theorem eq56 (W : World) (x0 x1 : Value) (S : St) : cw W 56 #[x0, x1] S =
 gcR #[x0, x1] S (
 bindS (aBox S x0) fun v1 S2 =>
 bindS (aBox S2 x1) fun v3 S4 =>
 bindV (aLoad p W S4 26 v1) fun v5 =>
 bindS (aCall p (cw W) S4 (.func (.func 23) #[] #[]) #[v5]) fun v6 S7 =>
 gV v6 true fun g8 =>
 bindV (wO g8 (aFieldAddr p 68 v3 0)) fun v9 =>
 gV v6 true fun g10 =>
 bindV (wO g10 (aLoad p W S7 3 v9)) fun v11 =>
 gV v6 true fun g12 =>
 bindV (wO g12 (aFieldAddr p 68 v3 1)) fun v13 =>
 gV v6 true fun g14 =>
 bindV (wO g14 (aLoad p W S7 27 v13)) fun v15 =>
 gV v6 true fun g16 =>
 bindV (wO g16 (aFieldAddr p 68 v3 3)) fun v17 =>
 gV v6 true fun g18 =>
 bindV (wO g18 (aLoad p W S7 3 v17)) fun v19 =>
 gV v6 true fun g20 =>
 bindS (wS g20 S7 (aCall p (cw W) S7 (.func (.func 28) #[] #[]) #[(.int .i64 6), v11, v15, v19])) fun v21 S22 =>
 bindV (aPick v6 v21 (.bool false)) fun v23 =>
 gV v23 true fun g24 =>
 bindV (wO g24 (aFieldAddr p 68 v3 2)) fun v25 =>
 gV v23 true fun g26 =>
 bindV (wO g26 (aLoad p W S22 2 v25)) fun v27 =>
 gV v23 true fun g28 =>
 bindS (wS g28 S22 (aCall p (cw W) S22 (.func (.func 22) #[] #[]) #[v27, (.int .i64 (-1125899906842624)), (.int .i64 1125899906842624)])) fun v29 S30 =>
 bindV (aPick v23 v29 (.bool false)) fun v31 =>
 some (v31, S30)
 )
  := (fn_eq Try.func56 rfl ok56 _ _).trans (by kernel_rfl)
noncomputable abbrev f57 := Try.f57
noncomputable def c57 : Code := bodyOf f57
theorem ok57 : codeOk p c57 = true := by kernel_rfl
theorem eq57 (W : World) (x0 : Value) (S : St) : cw W 57 #[x0] S =
 gcR #[x0] S (
 bindS (aBuiltin p W S .max #[3, 3] #[x0, (.int .i64 64)]) fun v1 S2 =>
 bindS (aBuiltin p W S2 .min #[3, 3] #[v1, (.int .i64 1518)]) fun v3 S4 =>
 bindV (aBin p .mul 2 (.int .i64 8) v3) fun v5 =>
 some (v5, S4)
 )
  := (fn_eq Try.func57 rfl ok57 _ _).trans (by kernel_rfl)
noncomputable abbrev f58 := Try.f58
noncomputable def c58 : Code := bodyOf f58
theorem ok58 : codeOk p c58 = true := by kernel_rfl
noncomputable def c58_1010 : Code := codeAt [1, 0, 1, 0, 0] c58
theorem ok58_1010 : codeOk p c58_1010 = true := by kernel_rfl
noncomputable def l58_1010 (W : World) (y0 y1 y2 y3 y6 y7 y8 : Value) (S : St) : Out := la W c58_1010 ⟨#[y0, y1, y2, y3, junk, junk, y6, y7, y8, junk, junk, junk, junk, junk, junk, junk, junk, junk, junk], []⟩ S
theorem eq58 (W : World) (x0 x1 : Value) (S : St) : cw W 58 #[x0, x1] S =
 gcR #[x0, x1] S (
 bindV (aLen p W S #[23] #[x0]) fun v1 =>
 bindO (l58_1010 W x0 x1 undef undef x0 v1 (.int .i64 0) S) (kc W c58 [1, 0, 1, 0] f58)
 )
  := (fn_eq Try.func58 rfl ok58 _ _).trans (by kernel_rfl)
theorem r58_1010 (W : World) (y0 y1 y2 y3 y6 y7 y8 : Value) (S : St) : l58_1010 W y0 y1 y2 y3 y6 y7 y8 S =
 bindV (aBin p .lss 3 y8 y7) fun v2 =>
 condK v2
  (
   bindV (aIndexAddr p 23 y0 y8) fun v3 =>
   bindV (aLoad p W S 68 v3) fun v4 =>
   bindS (aCall p (cw W) S y1 #[v4]) fun v5 S6 =>
   condK v5
    (
     some (.ret, ⟨#[y0, y1, y2, y3, y8, y8, y6, y7, y8, v2, y8, y1, y0, y8, v3, v4, v5, y8, junk], []⟩, S6)
    )
    (
     bindV (aBin p .add 3 y8 (.int .i64 1)) fun v7 =>
     l58_1010 W y0 y1 y2 y3 y6 y7 v7 S6
    )
  )
  (
   some (.exit 0, ⟨#[y0, y1, y2, y3, junk, junk, y6, y7, y8, v2, junk, junk, junk, junk, junk, junk, junk, junk, junk], []⟩, S)
  )
  := (round_eq ok58_1010 ⟨#[y0, y1, y2, y3, junk, junk, y6, y7, y8, junk, junk, junk, junk, junk, junk, junk, junk, junk, junk], []⟩ S).trans (by kernel_rfl)
theorem k58_1010_0 (W : World) (y0 y1 y2 y3 y4 y5 y6 y7 y8 y9 y10 y11 y12 y13 y14 y15 y16 y17 y18 : Value) (S : St) : kc W c58 [1, 0, 1, 0] f58 (.exit 0) ⟨#[y0, y1, y2, y3, y4, y5, y6, y7, y8, y9, y10, y11, y12, y13, y14, y15, y16, y17, y18], []⟩ S =
 some ((.int .i64 (-1)), S)
  := by kernel_rfl
theorem k58_1010_ret (W : World) (y0 y1 y2 y3 y4 y5 y6 y7 y8 y9 y10 y11 y12 y13 y14 y15 y16 y17 y18 : Value) (S : St) : kc W c58 [1, 0, 1, 0] f58 (.ret) ⟨#[y0, y1, y2, y3, y4, y5, y6, y7, y8, y9, y10, y11, y12, y13, y14, y15, y16, y17, y18], []⟩ S =
 some (y4, S)
  := by kernel_rfl
noncomputable abbrev f59 := Try.f59
noncomputable def c59 : Code := bodyOf f59
theorem ok59 : codeOk p c59 = true := by kernel_rfl
theorem eq59 (W : World) (x0 x1 x2 : Value) (S : St) : cw W 59 #[x0, x1, x2] S =
 gcR #[x0, x1, x2] S (
 bindS (aBox S x0) fun v1 S2 =>
 bindV (aLoad p W S2 89 x1) fun v3 =>
 bindV (aLoad p W S2 68 x2) fun v4 =>
 bindV (aLoad p W S2 68 v1) fun v5 =>
 bindS (aCall p (cw W) S2 v3 #[v4, v5]) fun v6 S7 =>
 some (v6, S7)
 )
  := (fn_eq Try.func59 rfl ok59 _ _).trans (by kernel_rfl)
end Go.Proofs.Yteofdikfdknpbaa.F
end
