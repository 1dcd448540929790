/- The functions' texts, laid out by a program for this claim. -/
import Derived.Test.YtnnajiaaakkjfaaDoorE20
import Derived.Test.YtnnajiaaakkjfaaDoorProg
namespace Go.Proofs.YtnnajiaaakkjfaaDoor.F
open Go Go.Proofs.YtnnajiaaakkjfaaDoor.E
set_option linter.unusedVariables false
set_option maxRecDepth 100000
noncomputable abbrev p : Program := Tryd.prog
def gl : FuncId → Bool := fun n => [8, 10, 11, 12, 13, 15, 16, 17, 18, 19, 21, 22, 23, 24, 25, 26, 27, 28].contains n
noncomputable abbrev cw (W : World) : Caller := callW p W gl
noncomputable abbrev la (W : World) (c : Code) (A : Act) (S : St) : Out := loopAt p W (cw W) loopW c A S
noncomputable abbrev kc (W : World) (c : Code) (q : List Nat) (fn : Func) : Exit → Act → St → Option (Value × St) := contK p W (cw W) loopW q c (finK p W fn)
noncomputable abbrev rk (W : World) (c : Code) (q : List Nat) : Exit → Act → St → Out := contK p W (cw W) loopW q c (roundK p W (cw W) loopW c)
/-! 3 tocsin/tocsinlaw13.MachRuns -/
noncomputable abbrev f3 := Tryd.f3
noncomputable def c3 : Code := bodyOf f3
theorem ok3 : codeOk p c3 = true := by kernel_rfl
noncomputable def c3_111111010 : Code := codeAt [1, 1, 1, 1, 1, 1, 0, 1, 0, 0] c3
theorem ok3_111111010 : codeOk p c3_111111010 = true := by kernel_rfl
noncomputable def l3_111111010 (W : World) (y0 y1 y2 y3 y5 y6 y7 y11 y12 y13 y14 y15 y16 y17 y18 y19 y20 y21 y22 y23 y24 y25 y26 y27 y28 y29 y30 y31 y32 y33 y34 y35 y36 y37 y38 y39 y40 y41 y42 y43 y44 y45 y46 y47 y48 : Value) (S : St) : Out := la W c3_111111010 ⟨#[y0, y1, y2, y3, junk, y5, y6, y7, junk, junk, junk, y11, y12, y13, y14, y15, y16, y17, y18, y19, y20, y21, y22, y23, y24, y25, y26, y27, y28, y29, y30, y31, y32, y33, y34, y35, y36, y37, y38, y39, y40, y41, y42, y43, y44, y45, y46, y47, y48, junk, junk, junk, junk, junk, junk, junk, junk, junk, junk, junk, junk, junk, junk, junk, junk, junk, junk, junk, junk, junk, junk, junk, junk, junk, junk, junk, junk, junk, junk, junk, junk, junk, junk, junk, junk, junk, junk, junk], []⟩ S
theorem eq3 (W : World) (x0 x1 : Value) (S : St) : cw W 3 #[x0, x1] S =
 bindS (aCall p (cw W) S (.func (.func 8) #[] #[]) #[]) fun v1 S2 =>
 bindV (aUn p .not v1) fun v3 =>
 condK v3
  (
   some ((.bool false), S2)
  )
  (
   bindS (aCall p (cw W) S2 (.func (.func 9) #[] #[]) #[x0, x1]) fun v4 S5 =>
   bindV (still p (Instr.extract v4 0)) fun v6 =>
   bindV (still p (Instr.extract v4 1)) fun v7 =>
   bindV (aBin p .lss 3 x0 (.int .i64 0)) fun v8 =>
   gV v8 false fun g9 =>
   gV v8 false fun g10 =>
   bindV (wO g10 (aBin p .gtr 3 (wV g9 x0) (.int .i64 5))) fun v11 =>
   bindV (aPick v8 (.bool true) v11) fun v12 =>
   condK v12
    (
     bindV (aLen p W S5 #[24] #[v6]) fun v13 =>
     bindV (aBin p .eql 3 v13 (.int .i64 0)) fun v14 =>
     gV v14 true fun g15 =>
     gV v14 true fun g16 =>
     bindV (wO g16 (aLen p W S5 #[25] #[(wV g15 v7)])) fun v17 =>
     gV v14 true fun g18 =>
     bindV (wO g18 (aBin p .eql 3 v17 (.int .i64 0))) fun v19 =>
     bindV (aPick v14 v19 (.bool false)) fun v20 =>
     some (v20, S5)
    )
    (
     bindV (aLen p W S5 #[24] #[v6]) fun v21 =>
     bindV (aLen p W S5 #[22] #[x1]) fun v22 =>
     bindV (aBin p .neq 3 v21 v22) fun v23 =>
     gV v23 false fun g24 =>
     gV v23 false fun g25 =>
     bindV (wO g25 (aLen p W S5 #[25] #[(wV g24 v7)])) fun v26 =>
     gV v23 false fun g27 =>
     gV v23 false fun g28 =>
     bindV (wO g28 (aLen p W S5 #[22] #[(wV g27 x1)])) fun v29 =>
     gV v23 false fun g30 =>
     bindV (wO g30 (aBin p .neq 3 v26 v29)) fun v31 =>
     bindV (aPick v23 (.bool true) v31) fun v32 =>
     condK v32
      (
       some ((.bool false), S5)
      )
      (
       bindV (aBuild p 30 #[(0, (.int .i64 1))]) fun v33 =>
       bindS (aAlloc p S5 30) fun v34 S35 =>
       bindT (aStore p S35 30 v34 v33) fun S36 =>
       bindV (aLen p W S36 #[22] #[x1]) fun v37 =>
       bindO (l3_111111010 W x0 x1 undef undef v6 v7 v34 v1 v3 v4 x0 x1 v4 v6 v7 x0 v8 v8 (wV g9 x0) v11 v12 undef undef undef undef undef undef undef undef v6 v21 x1 v22 v23 v23 (wV g24 v7) v26 (wV g27 x1) v29 v31 v32 v33 x1 v37 (.int .i64 0) S36) (kc W c3 [1, 1, 1, 1, 1, 1, 0, 1, 0] f3)
      )
    )
  )
  := (fn_eq Tryd.func3 rfl ok3 _ _).trans (by kernel_rfl)
theorem r3_111111010 (W : World) (y0 y1 y2 y3 y5 y6 y7 y11 y12 y13 y14 y15 y16 y17 y18 y19 y20 y21 y22 y23 y24 y25 y26 y27 y28 y29 y30 y31 y32 y33 y34 y35 y36 y37 y38 y39 y40 y41 y42 y43 y44 y45 y46 y47 y48 : Value) (S : St) : l3_111111010 W y0 y1 y2 y3 y5 y6 y7 y11 y12 y13 y14 y15 y16 y17 y18 y19 y20 y21 y22 y23 y24 y25 y26 y27 y28 y29 y30 y31 y32 y33 y34 y35 y36 y37 y38 y39 y40 y41 y42 y43 y44 y45 y46 y47 y48 S =
 bindV (aBin p .lss 3 y48 y47) fun v38 =>
 condK v38
  (
   bindV (aIndexAddr p 22 y46 y48) fun v39 =>
   bindV (aLoad p W S 32 v39) fun v40 =>
   bindS (aAlloc p S 32) fun v41 S42 =>
   bindT (aStore p S42 32 v41 v40) fun S43 =>
   bindV (aLoad p W S43 30 y7) fun v44 =>
   bindV (aFieldAddr p 32 v41 0) fun v45 =>
   bindV (aLoad p W S43 3 v45) fun v46 =>
   bindV (aFieldAddr p 32 v41 1) fun v47 =>
   bindV (aLoad p W S43 28 v47) fun v48 =>
   bindS (aCall p (cw W) S43 (.func (.func 10) #[] #[]) #[y0, v44, v46, v48]) fun v49 S50 =>
   bindV (still p (Instr.extract v49 0)) fun v51 =>
   bindV (still p (Instr.extract v49 1)) fun v52 =>
   bindT (aStore p S50 30 y7 v51) fun S53 =>
   bindV (aIndexAddr p 24 y5 y48) fun v54 =>
   bindV (aLoad p W S53 36 v54) fun v55 =>
   bindS (qS true S53 fun S_ => aCall p (cw W) S_ (.func (.func 11) #[] #[]) #[v55]) fun v56 S57 =>
   bindV (aLoad p W S57 30 y7) fun v58 =>
   bindV (aBin p .neq 30 v56 v58) fun v59 =>
   gV v59 false fun g60 =>
   gV v59 false fun g61 =>
   gV v59 false fun g62 =>
   bindV (wO g62 (aIndexAddr p 25 (wV g60 y6) (wV g61 y48))) fun v63 =>
   gV v59 false fun g64 =>
   bindV (wO g64 (aLoad p W S57 3 v63)) fun v65 =>
   gV v59 false fun g66 =>
   gV v59 false fun g67 =>
   bindV (wO g67 (aBin p .neq 3 v65 (wV g66 v52))) fun v68 =>
   bindV (aPick v59 (.bool true) v68) fun v69 =>
   gV v69 false fun g70 =>
   gV v69 false fun g71 =>
   gV v69 false fun g72 =>
   gV v69 false fun g73 =>
   bindV (wO g73 (aIndexAddr p 24 (wV g71 y5) (wV g72 y48))) fun v74 =>
   gV v69 false fun g75 =>
   bindV (wO g75 (aLoad p W S57 36 v74)) fun v76 =>
   gV v69 false fun g77 =>
   bindS (wS g77 S57 (aCall p (cw W) S57 (.func (.func 12) #[] #[]) #[(wV g70 y0), v76])) fun v78 S79 =>
   gV v69 false fun g80 =>
   bindV (wO g80 (aUn p .not v78)) fun v81 =>
   bindV (aPick v69 (.bool true) v81) fun v82 =>
   condK v82
    (
     some (.ret, ⟨#[y0, y1, y2, y3, (.bool false), y5, y6, y7, y48, v41, v52, y11, y12, y13, y14, y15, y16, y17, y18, y19, y20, y21, y22, y23, y24, y25, y26, y27, y28, y29, y30, y31, y32, y33, y34, y35, y36, y37, y38, y39, y40, y41, y42, y43, y44, y45, y46, y47, y48, v38, y48, v39, v40, v49, y0, v44, v45, v46, v47, v48, v49, v51, v52, y5, y48, v54, v55, v56, v58, v59, v59, (wV g60 y6), (wV g61 y48), v63, v65, (wV g66 v52), v68, v69, v69, (wV g70 y0), (wV g71 y5), (wV g72 y48), v74, v76, v78, v81, v82, junk], []⟩, S79)
    )
    (
     bindV (aBin p .add 3 y48 (.int .i64 1)) fun v83 =>
     l3_111111010 W y0 y1 y2 y3 y5 y6 y7 y11 y12 y13 y14 y15 y16 y17 y18 y19 y20 y21 y22 y23 y24 y25 y26 y27 y28 y29 y30 y31 y32 y33 y34 y35 y36 y37 y38 y39 y40 y41 y42 y43 y44 y45 y46 y47 v83 S79
    )
  )
  (
   some (.exit 0, ⟨#[y0, y1, y2, y3, junk, y5, y6, y7, junk, junk, junk, y11, y12, y13, y14, y15, y16, y17, y18, y19, y20, y21, y22, y23, y24, y25, y26, y27, y28, y29, y30, y31, y32, y33, y34, y35, y36, y37, y38, y39, y40, y41, y42, y43, y44, y45, y46, y47, y48, v38, junk, junk, junk, junk, junk, junk, junk, junk, junk, junk, junk, junk, junk, junk, junk, junk, junk, junk, junk, junk, junk, junk, junk, junk, junk, junk, junk, junk, junk, junk, junk, junk, junk, junk, junk, junk, junk, junk], []⟩, S)
  )
  := (round_eq ok3_111111010 ⟨#[y0, y1, y2, y3, junk, y5, y6, y7, junk, junk, junk, y11, y12, y13, y14, y15, y16, y17, y18, y19, y20, y21, y22, y23, y24, y25, y26, y27, y28, y29, y30, y31, y32, y33, y34, y35, y36, y37, y38, y39, y40, y41, y42, y43, y44, y45, y46, y47, y48, junk, junk, junk, junk, junk, junk, junk, junk, junk, junk, junk, junk, junk, junk, junk, junk, junk, junk, junk, junk, junk, junk, junk, junk, junk, junk, junk, junk, junk, junk, junk, junk, junk, junk, junk, junk, junk, junk, junk], []⟩ S).trans (by kernel_rfl)
theorem k3_111111010_0 (W : World) (y0 y1 y2 y3 y4 y5 y6 y7 y8 y9 y10 y11 y12 y13 y14 y15 y16 y17 y18 y19 y20 y21 y22 y23 y24 y25 y26 y27 y28 y29 y30 y31 y32 y33 y34 y35 y36 y37 y38 y39 y40 y41 y42 y43 y44 y45 y46 y47 y48 y49 y50 y51 y52 y53 y54 y55 y56 y57 y58 y59 y60 y61 y62 y63 y64 y65 y66 y67 y68 y69 y70 y71 y72 y73 y74 y75 y76 y77 y78 y79 y80 y81 y82 y83 y84 y85 y86 y87 : Value) (S : St) : kc W c3 [1, 1, 1, 1, 1, 1, 0, 1, 0] f3 (.exit 0) ⟨#[y0, y1, y2, y3, y4, y5, y6, y7, y8, y9, y10, y11, y12, y13, y14, y15, y16, y17, y18, y19, y20, y21, y22, y23, y24, y25, y26, y27, y28, y29, y30, y31, y32, y33, y34, y35, y36, y37, y38, y39, y40, y41, y42, y43, y44, y45, y46, y47, y48, y49, y50, y51, y52, y53, y54, y55, y56, y57, y58, y59, y60, y61, y62, y63, y64, y65, y66, y67, y68, y69, y70, y71, y72, y73, y74, y75, y76, y77, y78, y79, y80, y81, y82, y83, y84, y85, y86, y87], []⟩ S =
 some ((.bool true), S)
  := by kernel_rfl
theorem k3_111111010_ret (W : World) (y0 y1 y2 y3 y4 y5 y6 y7 y8 y9 y10 y11 y12 y13 y14 y15 y16 y17 y18 y19 y20 y21 y22 y23 y24 y25 y26 y27 y28 y29 y30 y31 y32 y33 y34 y35 y36 y37 y38 y39 y40 y41 y42 y43 y44 y45 y46 y47 y48 y49 y50 y51 y52 y53 y54 y55 y56 y57 y58 y59 y60 y61 y62 y63 y64 y65 y66 y67 y68 y69 y70 y71 y72 y73 y74 y75 y76 y77 y78 y79 y80 y81 y82 y83 y84 y85 y86 y87 : Value) (S : St) : kc W c3 [1, 1, 1, 1, 1, 1, 0, 1, 0] f3 (.ret) ⟨#[y0, y1, y2, y3, y4, y5, y6, y7, y8, y9, y10, y11, y12, y13, y14, y15, y16, y17, y18, y19, y20, y21, y22, y23, y24, y25, y26, y27, y28, y29, y30, y31, y32, y33, y34, y35, y36, y37, y38, y39, y40, y41, y42, y43, y44, y45, y46, y47, y48, y49, y50, y51, y52, y53, y54, y55, y56, y57, y58, y59, y60, y61, y62, y63, y64, y65, y66, y67, y68, y69, y70, y71, y72, y73, y74, y75, y76, y77, y78, y79, y80, y81, y82, y83, y84, y85, y86, y87], []⟩ S =
 some (y4, S)
  := by kernel_rfl
/-! 4 tocsin/tocsinlaw13.MachAlone -/
noncomputable abbrev f4 := Tryd.f4
noncomputable def c4 : Code := bodyOf f4
theorem ok4 : codeOk p c4 = true := by kernel_rfl
noncomputable def c4_1111010 : Code := codeAt [1, 1, 1, 1, 0, 1, 0, 0] c4
theorem ok4_1111010 : codeOk p c4_1111010 = true := by kernel_rfl
noncomputable def l4_1111010 (W : World) (y0 y1 y2 y3 y4 y5 y6 y7 y9 y10 y11 y12 y13 y14 y15 y16 y17 y18 y19 y20 y21 y32 y33 y34 y35 y36 y37 y38 y39 y40 y41 y42 y43 y44 y45 y46 y47 y48 y49 y50 y51 y52 y53 y54 y55 y56 y57 y58 y59 y60 y61 y62 y63 : Value) (S : St) : Out := la W c4_1111010 ⟨#[y0, y1, y2, y3, y4, y5, y6, y7, junk, y9, y10, y11, y12, y13, y14, y15, y16, y17, y18, y19, y20, y21, junk, junk, junk, junk, junk, junk, junk, junk, junk, junk, y32, y33, y34, y35, y36, y37, y38, y39, y40, y41, y42, y43, y44, y45, y46, y47, y48, y49, y50, y51, y52, y53, y54, y55, y56, y57, y58, y59, y60, y61, y62, y63], []⟩ S
noncomputable def c4_111111010 : Code := codeAt [1, 1, 1, 1, 1, 1, 0, 1, 0, 0] c4
theorem ok4_111111010 : codeOk p c4_111111010 = true := by kernel_rfl
noncomputable def l4_111111010 (W : World) (y0 y1 y2 y3 y5 y6 y7 y8 y9 y12 y13 y14 y15 y16 y17 y18 y19 y20 y21 y22 y23 y24 y25 y26 y27 y28 y29 y30 y31 y32 y33 y34 y35 y36 : Value) (S : St) : Out := la W c4_111111010 ⟨#[y0, y1, y2, y3, junk, y5, y6, y7, y8, y9, junk, junk, y12, y13, y14, y15, y16, y17, y18, y19, y20, y21, y22, y23, y24, y25, y26, y27, y28, y29, y30, y31, y32, y33, y34, y35, y36, junk, junk, junk, junk, junk, junk, junk, junk, junk, junk, junk, junk, junk, junk, junk, junk, junk, junk, junk, junk, junk, junk, junk, junk, junk, junk, junk], []⟩ S
theorem eq4 (W : World) (x0 x1 : Value) (S : St) : cw W 4 #[x0, x1] S =
 bindS (aCall p (cw W) S (.func (.func 8) #[] #[]) #[]) fun v1 S2 =>
 bindV (aUn p .not v1) fun v3 =>
 condK v3
  (
   some ((.bool false), S2)
  )
  (
   bindV (aBin p .rem 5 x0 (.int .u8 6)) fun v4 =>
   bindS (aConv p W S2 5 3 v4) fun v5 S6 =>
   bindV (aBuild p 32 #[(0, (.int .i64 1))]) fun v7 =>
   bindS (aBuildSlice p S6 22 1 #[(0, v7)]) fun v8 S9 =>
   bindV (aLen p W S9 #[39] #[x1]) fun v10 =>
   bindO (l4_1111010 W x0 x1 undef undef (.bool false) v5 v8 undef undef undef undef v1 v3 x0 v4 v5 v7 v8 x1 v10 (.int .i64 0) undef undef undef undef undef undef undef undef undef undef undef undef undef undef undef undef undef undef undef undef undef undef undef undef undef undef undef undef undef undef undef undef S9) (kc W c4 [1, 1, 1, 1, 0, 1, 0] f4)
  )
  := (fn_eq Tryd.func4 rfl ok4 _ _).trans (by kernel_rfl)
theorem r4_1111010 (W : World) (y0 y1 y2 y3 y4 y5 y6 y7 y9 y10 y11 y12 y13 y14 y15 y16 y17 y18 y19 y20 y21 y32 y33 y34 y35 y36 y37 y38 y39 y40 y41 y42 y43 y44 y45 y46 y47 y48 y49 y50 y51 y52 y53 y54 y55 y56 y57 y58 y59 y60 y61 y62 y63 : Value) (S : St) : l4_1111010 W y0 y1 y2 y3 y4 y5 y6 y7 y9 y10 y11 y12 y13 y14 y15 y16 y17 y18 y19 y20 y21 y32 y33 y34 y35 y36 y37 y38 y39 y40 y41 y42 y43 y44 y45 y46 y47 y48 y49 y50 y51 y52 y53 y54 y55 y56 y57 y58 y59 y60 y61 y62 y63 S =
 bindV (aBin p .lss 3 y21 y20) fun v11 =>
 condK v11
  (
   bindV (aIndexAddr p 39 y19 y21) fun v12 =>
   bindV (aLoad p W S 5 v12) fun v13 =>
   bindS (aCall p (cw W) S (.func (.func 13) #[] #[]) #[v13]) fun v14 S15 =>
   bindV (aBuild p 32 #[(0, v14), (1, (.int .u32 0))]) fun v16 =>
   bindS (aBuildSlice p S15 22 1 #[(0, v16)]) fun v17 S18 =>
   bindS (aBuiltin p W S18 .append #[22, 22] #[y6, v17]) fun v19 S20 =>
   bindV (aBin p .add 3 y21 (.int .i64 1)) fun v21 =>
   l4_1111010 W y0 y1 y2 y3 y4 y5 v19 y7 y9 y10 y11 y12 y13 y14 y15 y16 y17 y18 y19 y20 v21 y32 y33 y34 y35 y36 y37 y38 y39 y40 y41 y42 y43 y44 y45 y46 y47 y48 y49 y50 y51 y52 y53 y54 y55 y56 y57 y58 y59 y60 y61 y62 y63 S20
  )
  (
   some (.exit 0, ⟨#[y0, y1, y2, y3, y4, y5, y6, y7, junk, y9, y10, y11, y12, y13, y14, y15, y16, y17, y18, y19, y20, y21, v11, junk, junk, junk, junk, junk, junk, junk, junk, junk, y32, y33, y34, y35, y36, y37, y38, y39, y40, y41, y42, y43, y44, y45, y46, y47, y48, y49, y50, y51, y52, y53, y54, y55, y56, y57, y58, y59, y60, y61, y62, y63], []⟩, S)
  )
  := (round_eq ok4_1111010 ⟨#[y0, y1, y2, y3, y4, y5, y6, y7, junk, y9, y10, y11, y12, y13, y14, y15, y16, y17, y18, y19, y20, y21, junk, junk, junk, junk, junk, junk, junk, junk, junk, junk, y32, y33, y34, y35, y36, y37, y38, y39, y40, y41, y42, y43, y44, y45, y46, y47, y48, y49, y50, y51, y52, y53, y54, y55, y56, y57, y58, y59, y60, y61, y62, y63], []⟩ S).trans (by kernel_rfl)
theorem r4_111111010 (W : World) (y0 y1 y2 y3 y5 y6 y7 y8 y9 y12 y13 y14 y15 y16 y17 y18 y19 y20 y21 y22 y23 y24 y25 y26 y27 y28 y29 y30 y31 y32 y33 y34 y35 y36 : Value) (S : St) : l4_111111010 W y0 y1 y2 y3 y5 y6 y7 y8 y9 y12 y13 y14 y15 y16 y17 y18 y19 y20 y21 y22 y23 y24 y25 y26 y27 y28 y29 y30 y31 y32 y33 y34 y35 y36 S =
 bindV (aBin p .lss 3 y36 y35) fun v22 =>
 condK v22
  (
   bindV (aIndexAddr p 24 y34 y36) fun v23 =>
   bindV (aLoad p W S 36 v23) fun v24 =>
   bindS (aAlloc p S 36) fun v25 S26 =>
   bindT (aStore p S26 36 v25 v24) fun S27 =>
   bindV (aIndexAddr p 22 y6 y36) fun v28 =>
   bindV (aFieldAddr p 32 v28 0) fun v29 =>
   bindV (aLoad p W S27 3 v29) fun v30 =>
   bindV (aBin p .eql 3 v30 (.int .i64 3)) fun v31 =>
   condK v31
    (
     bindV (aBin p .add 3 y9 (.int .i64 1)) fun v32 =>
     bindV (aBin p .add 3 y5 (.int .i64 4)) fun v33 =>
     bindV (aBin p .lss 3 v32 v33) fun v34 =>
     gV v34 true fun g35 =>
     bindV (wO g35 (aFieldAddr p 36 v25 0)) fun v36 =>
     gV v34 true fun g37 =>
     bindV (wO g37 (aLoad p W S27 3 v36)) fun v38 =>
     gV v34 true fun g39 =>
     bindV (wO g39 (aBin p .eql 3 v38 (.int .i64 3))) fun v40 =>
     gV v34 true fun g41 =>
     gV v34 true fun g42 =>
     gV v34 true fun g43 =>
     bindV (wO g43 (aBin p .add 3 (wV g42 y5) (.int .i64 2))) fun v44 =>
     gV v34 true fun g45 =>
     bindV (wO g45 (aBin p .geq 3 (wV g41 v32) v44)) fun v46 =>
     gV v34 true fun g47 =>
     bindV (wO g47 (aBin p .neq 4 v40 v46)) fun v48 =>
     bindV (aPick v34 v48 (.bool false)) fun v49 =>
     condK v49
      (
       some (.ret, ⟨#[y0, y1, y2, y3, (.bool false), y5, y6, y7, y8, v32, y36, v25, y12, y13, y14, y15, y16, y17, y18, y19, y20, y21, y22, y23, y24, y25, y26, y27, y28, y29, y30, y31, y32, y33, y34, y35, y36, v22, y36, v23, v24, y6, y36, v28, v29, v30, v31, y9, v32, v32, y5, v33, v34, v34, v36, v38, v40, (wV g41 v32), (wV g42 y5), v44, v46, v48, v49, junk], []⟩, S27)
      )
      (
       bindV (aBin p .add 3 y36 (.int .i64 1)) fun v50 =>
       l4_111111010 W y0 y1 y2 y3 y5 y6 y7 y8 v32 y12 y13 y14 y15 y16 y17 y18 y19 y20 y21 y22 y23 y24 y25 y26 y27 y28 y29 y30 y31 y32 y33 y34 y35 v50 S27
      )
    )
    (
     bindV (aBin p .add 3 y5 (.int .i64 4)) fun v51 =>
     bindV (aBin p .lss 3 y9 v51) fun v52 =>
     gV v52 true fun g53 =>
     bindV (wO g53 (aFieldAddr p 36 v25 0)) fun v54 =>
     gV v52 true fun g55 =>
     bindV (wO g55 (aLoad p W S27 3 v54)) fun v56 =>
     gV v52 true fun g57 =>
     bindV (wO g57 (aBin p .eql 3 v56 (.int .i64 3))) fun v58 =>
     gV v52 true fun g59 =>
     gV v52 true fun g60 =>
     gV v52 true fun g61 =>
     bindV (wO g61 (aBin p .add 3 (wV g60 y5) (.int .i64 2))) fun v62 =>
     gV v52 true fun g63 =>
     bindV (wO g63 (aBin p .geq 3 (wV g59 y9) v62)) fun v64 =>
     gV v52 true fun g65 =>
     bindV (wO g65 (aBin p .neq 4 v58 v64)) fun v66 =>
     bindV (aPick v52 v66 (.bool false)) fun v67 =>
     condK v67
      (
       some (.ret, ⟨#[y0, y1, y2, y3, (.bool false), y5, y6, y7, y8, y9, y36, v25, y12, y13, y14, y15, y16, y17, y18, y19, y20, y21, y22, y23, y24, y25, y26, y27, y28, y29, y30, y31, y32, y33, y34, y35, y36, v22, y36, v23, v24, y6, y36, v28, v29, v30, v31, junk, junk, y9, y5, v51, v52, v52, v54, v56, v58, (wV g59 y9), (wV g60 y5), v62, v64, v66, v67, junk], []⟩, S27)
      )
      (
       bindV (aBin p .add 3 y36 (.int .i64 1)) fun v68 =>
       l4_111111010 W y0 y1 y2 y3 y5 y6 y7 y8 y9 y12 y13 y14 y15 y16 y17 y18 y19 y20 y21 y22 y23 y24 y25 y26 y27 y28 y29 y30 y31 y32 y33 y34 y35 v68 S27
      )
    )
  )
  (
   some (.exit 2, ⟨#[y0, y1, y2, y3, junk, y5, y6, y7, y8, y9, junk, junk, y12, y13, y14, y15, y16, y17, y18, y19, y20, y21, y22, y23, y24, y25, y26, y27, y28, y29, y30, y31, y32, y33, y34, y35, y36, v22, junk, junk, junk, junk, junk, junk, junk, junk, junk, junk, junk, junk, junk, junk, junk, junk, junk, junk, junk, junk, junk, junk, junk, junk, junk, junk], []⟩, S)
  )
  := (round_eq ok4_111111010 ⟨#[y0, y1, y2, y3, junk, y5, y6, y7, y8, y9, junk, junk, y12, y13, y14, y15, y16, y17, y18, y19, y20, y21, y22, y23, y24, y25, y26, y27, y28, y29, y30, y31, y32, y33, y34, y35, y36, junk, junk, junk, junk, junk, junk, junk, junk, junk, junk, junk, junk, junk, junk, junk, junk, junk, junk, junk, junk, junk, junk, junk, junk, junk, junk, junk], []⟩ S).trans (by kernel_rfl)
theorem k4_1111010_0 (W : World) (y0 y1 y2 y3 y4 y5 y6 y7 y8 y9 y10 y11 y12 y13 y14 y15 y16 y17 y18 y19 y20 y21 y22 y23 y24 y25 y26 y27 y28 y29 y30 y31 y32 y33 y34 y35 y36 y37 y38 y39 y40 y41 y42 y43 y44 y45 y46 y47 y48 y49 y50 y51 y52 y53 y54 y55 y56 y57 y58 y59 y60 y61 y62 y63 : Value) (S : St) : kc W c4 [1, 1, 1, 1, 0, 1, 0] f4 (.exit 0) ⟨#[y0, y1, y2, y3, y4, y5, y6, y7, y8, y9, y10, y11, y12, y13, y14, y15, y16, y17, y18, y19, y20, y21, y22, y23, y24, y25, y26, y27, y28, y29, y30, y31, y32, y33, y34, y35, y36, y37, y38, y39, y40, y41, y42, y43, y44, y45, y46, y47, y48, y49, y50, y51, y52, y53, y54, y55, y56, y57, y58, y59, y60, y61, y62, y63], []⟩ S =
 bindS (aCall p (cw W) S (.func (.func 14) #[] #[]) #[y5, y6]) fun v1 S2 =>
 bindV (aLen p W S2 #[24] #[v1]) fun v3 =>
 bindO (l4_111111010 W y0 y1 y2 y3 y5 y6 y7 y8 (.int .i64 0) y12 y13 y14 y15 y16 y17 y18 y19 y20 y21 y22 y23 y24 y25 y26 y27 y28 y29 y30 y31 y5 y6 v1 v3 (.int .i64 0) S2) (kc W c4 [1, 1, 1, 1, 1, 1, 0, 1, 0] f4)
  := by kernel_rfl
theorem k4_111111010_2 (W : World) (y0 y1 y2 y3 y4 y5 y6 y7 y8 y9 y10 y11 y12 y13 y14 y15 y16 y17 y18 y19 y20 y21 y22 y23 y24 y25 y26 y27 y28 y29 y30 y31 y32 y33 y34 y35 y36 y37 y38 y39 y40 y41 y42 y43 y44 y45 y46 y47 y48 y49 y50 y51 y52 y53 y54 y55 y56 y57 y58 y59 y60 y61 y62 y63 : Value) (S : St) : kc W c4 [1, 1, 1, 1, 1, 1, 0, 1, 0] f4 (.exit 2) ⟨#[y0, y1, y2, y3, y4, y5, y6, y7, y8, y9, y10, y11, y12, y13, y14, y15, y16, y17, y18, y19, y20, y21, y22, y23, y24, y25, y26, y27, y28, y29, y30, y31, y32, y33, y34, y35, y36, y37, y38, y39, y40, y41, y42, y43, y44, y45, y46, y47, y48, y49, y50, y51, y52, y53, y54, y55, y56, y57, y58, y59, y60, y61, y62, y63], []⟩ S =
 some ((.bool true), S)
  := by kernel_rfl
theorem k4_111111010_ret (W : World) (y0 y1 y2 y3 y4 y5 y6 y7 y8 y9 y10 y11 y12 y13 y14 y15 y16 y17 y18 y19 y20 y21 y22 y23 y24 y25 y26 y27 y28 y29 y30 y31 y32 y33 y34 y35 y36 y37 y38 y39 y40 y41 y42 y43 y44 y45 y46 y47 y48 y49 y50 y51 y52 y53 y54 y55 y56 y57 y58 y59 y60 y61 y62 y63 : Value) (S : St) : kc W c4 [1, 1, 1, 1, 1, 1, 0, 1, 0] f4 (.ret) ⟨#[y0, y1, y2, y3, y4, y5, y6, y7, y8, y9, y10, y11, y12, y13, y14, y15, y16, y17, y18, y19, y20, y21, y22, y23, y24, y25, y26, y27, y28, y29, y30, y31, y32, y33, y34, y35, y36, y37, y38, y39, y40, y41, y42, y43, y44, y45, y46, y47, y48, y49, y50, y51, y52, y53, y54, y55, y56, y57, y58, y59, y60, y61, y62, y63], []⟩ S =
 some (y4, S)
  := by kernel_rfl
/-! 5 tocsin/tocsinlaw13.MachStays -/
noncomputable abbrev f5 := Tryd.f5
noncomputable def c5 : Code := bodyOf f5
theorem ok5 : codeOk p c5 = true := by kernel_rfl
noncomputable def c5_1111010 : Code := codeAt [1, 1, 1, 1, 0, 1, 0, 0] c5
theorem ok5_1111010 : codeOk p c5_1111010 = true := by kernel_rfl
noncomputable def l5_1111010 (W : World) (y0 y1 y2 y3 y4 y5 y7 y8 y12 y13 y14 y15 y16 y17 y18 y19 y20 y21 y22 y23 y24 y25 y26 y27 y28 : Value) (S : St) : Out := la W c5_1111010 ⟨#[y0, y1, y2, y3, y4, y5, junk, y7, y8, junk, junk, junk, y12, y13, y14, y15, y16, y17, y18, y19, y20, y21, y22, y23, y24, y25, y26, y27, y28, junk, junk, junk, junk, junk, junk, junk, junk, junk, junk, junk, junk, junk, junk, junk, junk, junk, junk, junk, junk, junk, junk, junk, junk, junk, junk, junk, junk, junk, junk, junk, junk, junk, junk, junk, junk, junk, junk, junk, junk, junk, junk, junk, junk, junk, junk, junk, junk, junk, junk, junk, junk, junk, junk, junk, junk, junk, junk], []⟩ S
theorem eq5 (W : World) (x0 x1 x2 : Value) (S : St) : cw W 5 #[x0, x1, x2] S =
 bindS (aBox S x1) fun v1 S2 =>
 bindS (aCall p (cw W) S2 (.func (.func 8) #[] #[]) #[]) fun v3 S4 =>
 bindV (aUn p .not v3) fun v5 =>
 condK v5
  (
   some ((.bool false), S4)
  )
  (
   bindV (aBin p .rem 5 x0 (.int .u8 6)) fun v6 =>
   bindS (aConv p W S4 5 3 v6) fun v7 S8 =>
   bindV (aLoad p W S8 36 v1) fun v9 =>
   bindS (aCall p (cw W) S8 (.func (.func 12) #[] #[]) #[v7, v9]) fun v10 S11 =>
   bindV (aUn p .not v10) fun v12 =>
   gV v12 false fun g13 =>
   bindV (wO g13 (aFieldAddr p 36 v1 0)) fun v14 =>
   gV v12 false fun g15 =>
   bindV (wO g15 (aLoad p W S11 3 v14)) fun v16 =>
   gV v12 false fun g17 =>
   bindV (wO g17 (aBin p .neq 3 v16 (.int .i64 3))) fun v18 =>
   bindV (aPick v12 (.bool true) v18) fun v19 =>
   condK v19
    (
     some ((.bool true), S11)
    )
    (
     bindV (aLen p W S11 #[22] #[x2]) fun v20 =>
     bindO (l5_1111010 W x0 x1 x2 undef v1 undef v7 undef v3 v5 x0 v6 v7 v7 v9 v10 v12 v12 v14 v16 v18 v19 x2 v20 (.int .i64 0) S11) (kc W c5 [1, 1, 1, 1, 0, 1, 0] f5)
    )
  )
  := (fn_eq Tryd.func5 rfl ok5 _ _).trans (by kernel_rfl)
theorem r5_1111010 (W : World) (y0 y1 y2 y3 y4 y5 y7 y8 y12 y13 y14 y15 y16 y17 y18 y19 y20 y21 y22 y23 y24 y25 y26 y27 y28 : Value) (S : St) : l5_1111010 W y0 y1 y2 y3 y4 y5 y7 y8 y12 y13 y14 y15 y16 y17 y18 y19 y20 y21 y22 y23 y24 y25 y26 y27 y28 S =
 bindV (aBin p .lss 3 y28 y27) fun v21 =>
 condK v21
  (
   bindV (aIndexAddr p 22 y26 y28) fun v22 =>
   bindV (aLoad p W S 32 v22) fun v23 =>
   bindS (aAlloc p S 32) fun v24 S25 =>
   bindT (aStore p S25 32 v24 v23) fun S26 =>
   bindV (aFieldAddr p 32 v24 1) fun v27 =>
   bindV (aLoad p W S26 28 v27) fun v28 =>
   bindV (aBin p .rem 28 v28 (.int .u32 64)) fun v29 =>
   bindV (aFieldAddr p 32 v24 1) fun v30 =>
   bindT (aStore p S26 28 v30 v29) fun S31 =>
   bindV (aFieldAddr p 32 v24 0) fun v32 =>
   bindV (aLoad p W S31 3 v32) fun v33 =>
   bindV (aBin p .eql 3 v33 (.int .i64 2)) fun v34 =>
   gV v34 false fun g35 =>
   bindV (wO g35 (aFieldAddr p 32 v24 0)) fun v36 =>
   gV v34 false fun g37 =>
   bindV (wO g37 (aLoad p W S31 3 v36)) fun v38 =>
   gV v34 false fun g39 =>
   bindV (wO g39 (aBin p .eql 3 v38 (.int .i64 4))) fun v40 =>
   gV v34 false fun g41 =>
   gV (wV g41 v40) true fun g42 =>
   bindV (wO g42 (aFieldAddr p 32 v24 1)) fun v43 =>
   gV (wV g41 v40) true fun g44 =>
   bindV (wO g44 (aLoad p W S31 28 v43)) fun v45 =>
   gV (wV g41 v40) true fun g46 =>
   bindV (wO g46 (aFieldAddr p 36 y4 1)) fun v47 =>
   gV (wV g41 v40) true fun g48 =>
   bindV (wO g48 (aLoad p W S31 28 v47)) fun v49 =>
   gV (wV g41 v40) true fun g50 =>
   bindS (wS g50 S31 (aCall p (cw W) S31 (.func (.func 15) #[] #[]) #[v45, v49])) fun v51 S52 =>
   gV v34 false fun g53 =>
   bindV (wO g53 (aPick (wV g41 v40) v51 (.bool false))) fun v54 =>
   bindV (aPick v34 (.bool true) v54) fun v55 =>
   gV v55 false fun g56 =>
   bindV (wO g56 (aFieldAddr p 32 v24 0)) fun v57 =>
   gV v55 false fun g58 =>
   bindV (wO g58 (aLoad p W S52 3 v57)) fun v59 =>
   gV v55 false fun g60 =>
   bindV (wO g60 (aBin p .eql 3 v59 (.int .i64 3))) fun v61 =>
   gV v55 false fun g62 =>
   gV (wV g62 v61) true fun g63 =>
   bindV (wO g63 (aFieldAddr p 32 v24 1)) fun v64 =>
   gV (wV g62 v61) true fun g65 =>
   bindV (wO g65 (aLoad p W S52 28 v64)) fun v66 =>
   gV (wV g62 v61) true fun g67 =>
   bindV (wO g67 (aBin p .eql 28 v66 (.int .u32 0))) fun v68 =>
   gV v55 false fun g69 =>
   bindV (wO g69 (aPick (wV g62 v61) v68 (.bool false))) fun v70 =>
   gV v55 false fun g71 =>
   gV (wV g71 v70) true fun g72 =>
   bindV (wO g72 (aFieldAddr p 36 y4 2)) fun v73 =>
   gV (wV g71 v70) true fun g74 =>
   bindV (wO g74 (aLoad p W S52 3 v73)) fun v75 =>
   gV (wV g71 v70) true fun g76 =>
   bindV (wO g76 (aBin p .eql 3 v75 (.int .i64 1))) fun v77 =>
   gV v55 false fun g78 =>
   bindV (wO g78 (aPick (wV g71 v70) v77 (.bool false))) fun v79 =>
   bindV (aPick v55 (.bool true) v79) fun v80 =>
   condK v80
    (
     bindV (aBin p .add 3 y28 (.int .i64 1)) fun v81 =>
     l5_1111010 W y0 y1 y2 y3 y4 y5 y7 y8 y12 y13 y14 y15 y16 y17 y18 y19 y20 y21 y22 y23 y24 y25 y26 y27 v81 S52
    )
    (
     bindV (aLoad p W S52 36 y4) fun v82 =>
     bindV (aLoad p W S52 32 v24) fun v83 =>
     bindS (aCall p (cw W) S52 (.func (.func 16) #[] #[]) #[y7, v82, v83]) fun v84 S85 =>
     bindV (still p (Instr.extract v84 0)) fun v86 =>
     bindV (still p (Instr.extract v84 1)) fun v87 =>
     bindS (aAlloc p S85 36) fun v88 S89 =>
     bindT (aStore p S89 36 v88 v86) fun S90 =>
     bindV (aFieldAddr p 36 v88 0) fun v91 =>
     bindV (aLoad p W S90 3 v91) fun v92 =>
     bindV (aBin p .neq 3 v92 (.int .i64 3)) fun v93 =>
     gV v93 false fun g94 =>
     gV v93 false fun g95 =>
     bindV (wO g95 (aBin p .neq 3 (wV g94 v87) (.int .i64 0))) fun v96 =>
     bindV (aPick v93 (.bool true) v96) fun v97 =>
     gV v97 false fun g98 =>
     bindV (wO g98 (aFieldAddr p 36 v88 1)) fun v99 =>
     gV v97 false fun g100 =>
     bindV (wO g100 (aLoad p W S90 28 v99)) fun v101 =>
     gV v97 false fun g102 =>
     bindV (wO g102 (aBin p .eql 28 v101 (.int .u32 0))) fun v103 =>
     bindV (aPick v97 (.bool true) v103) fun v104 =>
     condK v104
      (
       some (.ret, ⟨#[y0, y1, y2, y3, y4, y5, (.bool false), y7, y8, v24, v88, v87, y12, y13, y14, y15, y16, y17, y18, y19, y20, y21, y22, y23, y24, y25, y26, y27, y28, v21, v22, v23, v27, v28, v29, v30, v32, v33, v34, v34, v36, v38, v40, (wV g41 v40), v43, v45, v47, v49, v51, v54, v55, v55, v57, v59, v61, (wV g62 v61), v64, v66, v68, v70, (wV g71 v70), v73, v75, v77, v79, v80, v84, y7, v82, v83, v84, v86, v87, v91, v92, v93, v93, (wV g94 v87), v96, v97, v97, v99, v101, v103, v104, junk, junk], []⟩, S90)
      )
      (
       bindV (aLoad p W S90 36 v88) fun v105 =>
       bindT (aStore p S90 36 y4 v105) fun S106 =>
       bindV (aBin p .add 3 y28 (.int .i64 1)) fun v107 =>
       l5_1111010 W y0 y1 y2 y3 y4 y5 y7 y8 y12 y13 y14 y15 y16 y17 y18 y19 y20 y21 y22 y23 y24 y25 y26 y27 v107 S106
      )
    )
  )
  (
   some (.exit 0, ⟨#[y0, y1, y2, y3, y4, y5, junk, y7, y8, junk, junk, junk, y12, y13, y14, y15, y16, y17, y18, y19, y20, y21, y22, y23, y24, y25, y26, y27, y28, v21, junk, junk, junk, junk, junk, junk, junk, junk, junk, junk, junk, junk, junk, junk, junk, junk, junk, junk, junk, junk, junk, junk, junk, junk, junk, junk, junk, junk, junk, junk, junk, junk, junk, junk, junk, junk, junk, junk, junk, junk, junk, junk, junk, junk, junk, junk, junk, junk, junk, junk, junk, junk, junk, junk, junk, junk, junk], []⟩, S)
  )
  := (round_eq ok5_1111010 ⟨#[y0, y1, y2, y3, y4, y5, junk, y7, y8, junk, junk, junk, y12, y13, y14, y15, y16, y17, y18, y19, y20, y21, y22, y23, y24, y25, y26, y27, y28, junk, junk, junk, junk, junk, junk, junk, junk, junk, junk, junk, junk, junk, junk, junk, junk, junk, junk, junk, junk, junk, junk, junk, junk, junk, junk, junk, junk, junk, junk, junk, junk, junk, junk, junk, junk, junk, junk, junk, junk, junk, junk, junk, junk, junk, junk, junk, junk, junk, junk, junk, junk, junk, junk, junk, junk, junk, junk], []⟩ S).trans (by kernel_rfl)
theorem k5_1111010_0 (W : World) (y0 y1 y2 y3 y4 y5 y6 y7 y8 y9 y10 y11 y12 y13 y14 y15 y16 y17 y18 y19 y20 y21 y22 y23 y24 y25 y26 y27 y28 y29 y30 y31 y32 y33 y34 y35 y36 y37 y38 y39 y40 y41 y42 y43 y44 y45 y46 y47 y48 y49 y50 y51 y52 y53 y54 y55 y56 y57 y58 y59 y60 y61 y62 y63 y64 y65 y66 y67 y68 y69 y70 y71 y72 y73 y74 y75 y76 y77 y78 y79 y80 y81 y82 y83 y84 y85 y86 : Value) (S : St) : kc W c5 [1, 1, 1, 1, 0, 1, 0] f5 (.exit 0) ⟨#[y0, y1, y2, y3, y4, y5, y6, y7, y8, y9, y10, y11, y12, y13, y14, y15, y16, y17, y18, y19, y20, y21, y22, y23, y24, y25, y26, y27, y28, y29, y30, y31, y32, y33, y34, y35, y36, y37, y38, y39, y40, y41, y42, y43, y44, y45, y46, y47, y48, y49, y50, y51, y52, y53, y54, y55, y56, y57, y58, y59, y60, y61, y62, y63, y64, y65, y66, y67, y68, y69, y70, y71, y72, y73, y74, y75, y76, y77, y78, y79, y80, y81, y82, y83, y84, y85, y86], []⟩ S =
 some ((.bool true), S)
  := by kernel_rfl
theorem k5_1111010_ret (W : World) (y0 y1 y2 y3 y4 y5 y6 y7 y8 y9 y10 y11 y12 y13 y14 y15 y16 y17 y18 y19 y20 y21 y22 y23 y24 y25 y26 y27 y28 y29 y30 y31 y32 y33 y34 y35 y36 y37 y38 y39 y40 y41 y42 y43 y44 y45 y46 y47 y48 y49 y50 y51 y52 y53 y54 y55 y56 y57 y58 y59 y60 y61 y62 y63 y64 y65 y66 y67 y68 y69 y70 y71 y72 y73 y74 y75 y76 y77 y78 y79 y80 y81 y82 y83 y84 y85 y86 : Value) (S : St) : kc W c5 [1, 1, 1, 1, 0, 1, 0] f5 (.ret) ⟨#[y0, y1, y2, y3, y4, y5, y6, y7, y8, y9, y10, y11, y12, y13, y14, y15, y16, y17, y18, y19, y20, y21, y22, y23, y24, y25, y26, y27, y28, y29, y30, y31, y32, y33, y34, y35, y36, y37, y38, y39, y40, y41, y42, y43, y44, y45, y46, y47, y48, y49, y50, y51, y52, y53, y54, y55, y56, y57, y58, y59, y60, y61, y62, y63, y64, y65, y66, y67, y68, y69, y70, y71, y72, y73, y74, y75, y76, y77, y78, y79, y80, y81, y82, y83, y84, y85, y86], []⟩ S =
 some (y6, S)
  := by kernel_rfl
/-! 6 tocsin/tocsinlaw13.MachStrengths -/
noncomputable abbrev f6 := Tryd.f6
noncomputable def c6 : Code := bodyOf f6
theorem ok6 : codeOk p c6 = true := by kernel_rfl
theorem eq6 (W : World) (x0 x1 x2 : Value) (S : St) : cw W 6 #[x0, x1, x2] S =
 bindS (aCall p (cw W) S (.func (.func 8) #[] #[]) #[]) fun v1 S2 =>
 bindV (aUn p .not v1) fun v3 =>
 condK v3
  (
   some ((.bool false), S2)
  )
  (
   bindS (aCall p (cw W) S2 (.func (.func 17) #[] #[]) #[x0, x1]) fun v4 S5 =>
   bindS (aCall p (cw W) S5 (.func (.func 17) #[] #[]) #[x1, x0]) fun v6 S7 =>
   gV v4 true fun g8 =>
   bindV (aPick v4 (wV g8 v6) (.bool false)) fun v9 =>
   bindV (aUn p .not v9) fun v10 =>
   gV v10 true fun g11 =>
   gV v10 true fun g12 =>
   gV v10 true fun g13 =>
   bindS (wS g13 S7 (aCall p (cw W) S7 (.func (.func 17) #[] #[]) #[(wV g11 x0), (wV g12 x0)])) fun v14 S15 =>
   gV v10 true fun g16 =>
   bindV (wO g16 (aUn p .not v14)) fun v17 =>
   bindV (aPick v10 v17 (.bool false)) fun v18 =>
   gV v18 true fun g19 =>
   gV v18 true fun g20 =>
   gV (wV g20 (wV g19 v4)) true fun g21 =>
   gV (wV g20 (wV g19 v4)) true fun g22 =>
   gV (wV g20 (wV g19 v4)) true fun g23 =>
   bindS (wS g23 S15 (aCall p (cw W) S15 (.func (.func 17) #[] #[]) #[(wV g21 x1), (wV g22 x2)])) fun v24 S25 =>
   gV v18 true fun g26 =>
   bindV (wO g26 (aPick (wV g20 (wV g19 v4)) v24 (.bool false))) fun v27 =>
   gV v18 true fun g28 =>
   gV (wV g28 v27) true fun g29 =>
   gV (wV g28 v27) true fun g30 =>
   gV (wV g28 v27) true fun g31 =>
   bindS (wS g31 S25 (aCall p (cw W) S25 (.func (.func 17) #[] #[]) #[(wV g29 x0), (wV g30 x2)])) fun v32 S33 =>
   gV (wV g28 v27) true fun g34 =>
   bindV (wO g34 (aUn p .not v32)) fun v35 =>
   gV v18 true fun g36 =>
   bindV (wO g36 (aPick (wV g28 v27) v35 (.bool false))) fun v37 =>
   gV v18 true fun g38 =>
   bindV (wO g38 (aUn p .not v37)) fun v39 =>
   bindV (aPick v18 v39 (.bool false)) fun v40 =>
   gV v40 true fun g41 =>
   gV v40 true fun g42 =>
   bindS (wS g42 S33 (aCall p (cw W) S33 (.func (.func 17) #[] #[]) #[(.int .u32 63), (wV g41 x0)])) fun v43 S44 =>
   gV v40 true fun g45 =>
   gV v40 true fun g46 =>
   bindV (wO g46 (aBin p .rem 28 (wV g45 x0) (.int .u32 64))) fun v47 =>
   gV v40 true fun g48 =>
   bindV (wO g48 (aBin p .neq 28 v47 (.int .u32 63))) fun v49 =>
   gV v40 true fun g50 =>
   bindV (wO g50 (aBin p .eql 4 v43 v49)) fun v51 =>
   bindV (aPick v40 v51 (.bool false)) fun v52 =>
   some (v52, S44)
  )
  := (fn_eq Tryd.func6 rfl ok6 _ _).trans (by kernel_rfl)
/-! 7 tocsin/tocsinlaw13.MachJoins -/
noncomputable abbrev f7 := Tryd.f7
noncomputable def c7 : Code := bodyOf f7
theorem ok7 : codeOk p c7 = true := by kernel_rfl
theorem eq7 (W : World) (x0 x1 x2 : Value) (S : St) : cw W 7 #[x0, x1, x2] S =
 bindS (aBox S x1) fun v1 S2 =>
 bindS (aCall p (cw W) S2 (.func (.func 8) #[] #[]) #[]) fun v3 S4 =>
 bindV (aUn p .not v3) fun v5 =>
 condK v5
  (
   some ((.bool false), S4)
  )
  (
   bindV (aBin p .rem 5 x0 (.int .u8 6)) fun v6 =>
   bindS (aConv p W S4 5 3 v6) fun v7 S8 =>
   bindV (aLoad p W S8 36 v1) fun v9 =>
   bindS (aCall p (cw W) S8 (.func (.func 12) #[] #[]) #[v7, v9]) fun v10 S11 =>
   bindV (aUn p .not v10) fun v12 =>
   condK v12
    (
     some ((.bool true), S11)
    )
    (
     bindV (aLoad p W S11 36 v1) fun v13 =>
     bindV (aBuild p 32 #[(0, (.int .i64 2))]) fun v14 =>
     bindS (aCall p (cw W) S11 (.func (.func 16) #[] #[]) #[v7, v13, v14]) fun v15 S16 =>
     bindV (still p (Instr.extract v15 0)) fun v17 =>
     bindV (still p (Instr.extract v15 1)) fun v18 =>
     bindS (aAlloc p S16 36) fun v19 S20 =>
     bindT (aStore p S20 36 v19 v17) fun S21 =>
     bindV (aLoad p W S21 36 v19) fun v22 =>
     bindV (aBuild p 36 #[(0, (.int .i64 1))]) fun v23 =>
     bindV (aBin p .neq 36 v22 v23) fun v24 =>
     gV v24 false fun g25 =>
     gV v24 false fun g26 =>
     bindV (wO g26 (aBin p .eql 3 (wV g25 v18) (.int .i64 5))) fun v27 =>
     gV v24 false fun g28 =>
     bindV (wO g28 (aFieldAddr p 36 v1 0)) fun v29 =>
     gV v24 false fun g30 =>
     bindV (wO g30 (aLoad p W S21 3 v29)) fun v31 =>
     gV v24 false fun g32 =>
     bindV (wO g32 (aBin p .neq 3 v31 (.int .i64 1))) fun v33 =>
     gV v24 false fun g34 =>
     bindV (wO g34 (aBin p .neq 4 v27 v33)) fun v35 =>
     bindV (aPick v24 (.bool true) v35) fun v36 =>
     condK v36
      (
       some ((.bool false), S21)
      )
      (
       bindV (aLoad p W S21 36 v1) fun v37 =>
       bindV (aBuild p 32 #[(0, (.int .i64 4)), (1, x2)]) fun v38 =>
       bindS (aCall p (cw W) S21 (.func (.func 16) #[] #[]) #[v7, v37, v38]) fun v39 S40 =>
       bindV (still p (Instr.extract v39 0)) fun v41 =>
       bindV (still p (Instr.extract v39 1)) fun v42 =>
       bindS (aAlloc p S40 36) fun v43 S44 =>
       bindT (aStore p S44 36 v43 v41) fun S45 =>
       bindV (aFieldAddr p 36 v1 0) fun v46 =>
       bindV (aLoad p W S45 3 v46) fun v47 =>
       bindV (aBin p .eql 3 v47 (.int .i64 2)) fun v48 =>
       gV v48 true fun g49 =>
       gV v48 true fun g50 =>
       bindV (wO g50 (aBin p .rem 28 (wV g49 x2) (.int .u32 64))) fun v51 =>
       gV v48 true fun g52 =>
       bindV (wO g52 (aBin p .neq 28 v51 (.int .u32 0))) fun v53 =>
       bindV (aPick v48 v53 (.bool false)) fun v54 =>
       condK v54
        (
         bindV (aLoad p W S45 36 v43) fun v55 =>
         bindV (aBin p .rem 28 x2 (.int .u32 64)) fun v56 =>
         bindV (aBuild p 36 #[(0, (.int .i64 3)), (1, v56)]) fun v57 =>
         bindV (aBin p .eql 36 v55 v57) fun v58 =>
         gV v58 true fun g59 =>
         gV v58 true fun g60 =>
         bindV (wO g60 (aBin p .eql 3 (wV g59 v42) (.int .i64 3))) fun v61 =>
         bindV (aPick v58 v61 (.bool false)) fun v62 =>
         some (v62, S45)
        )
        (
         bindV (aFieldAddr p 36 v1 0) fun v63 =>
         bindV (aLoad p W S45 3 v63) fun v64 =>
         bindV (aBin p .neq 3 v64 (.int .i64 2)) fun v65 =>
         gV v65 false fun g66 =>
         bindV (wO g66 (aLoad p W S45 36 v43)) fun v67 =>
         gV v65 false fun g68 =>
         bindV (wO g68 (aLoad p W S45 36 v1)) fun v69 =>
         gV v65 false fun g70 =>
         bindV (wO g70 (aBin p .eql 36 v67 v69)) fun v71 =>
         gV v65 false fun g72 =>
         gV (wV g72 v71) true fun g73 =>
         gV (wV g72 v71) true fun g74 =>
         bindV (wO g74 (aBin p .eql 3 (wV g73 v42) (.int .i64 0))) fun v75 =>
         gV v65 false fun g76 =>
         bindV (wO g76 (aPick (wV g72 v71) v75 (.bool false))) fun v77 =>
         bindV (aPick v65 (.bool true) v77) fun v78 =>
         some (v78, S45)
        )
      )
    )
  )
  := (fn_eq Tryd.func7 rfl ok7 _ _).trans (by kernel_rfl)
/-! 8 tocsin/tocsinlaw13.fixed -/
noncomputable abbrev f8 := Tryd.f8
noncomputable def c8 : Code := bodyOf f8
theorem ok8 : codeOk p c8 = true := by kernel_rfl
theorem eq8 (W : World) (S : St) : cw W 8 #[] S =
 gcR #[] S (
 bindV (aBuild p 36 #[(0, (.int .i64 1))]) fun v1 =>
 bindV (aBuild p 32 #[(0, (.int .i64 1))]) fun v2 =>
 bindS (aCall p (cw W) S (.func (.func 16) #[] #[]) #[(.int .i64 0), v1, v2]) fun v3 S4 =>
 bindV (still p (Instr.extract v3 0)) fun v5 =>
 bindV (still p (Instr.extract v3 1)) fun v6 =>
 bindS (aAlloc p S4 36) fun v7 S8 =>
 bindT (aStore p S8 36 v7 v5) fun S9 =>
 bindV (aBuild p 36 #[(0, (.int .i64 2)), (3, (.int .i64 1))]) fun v10 =>
 bindV (aBuild p 32 #[(0, (.int .i64 3))]) fun v11 =>
 bindS (aCall p (cw W) S9 (.func (.func 16) #[] #[]) #[(.int .i64 0), v10, v11]) fun v12 S13 =>
 bindV (still p (Instr.extract v12 0)) fun v14 =>
 bindV (still p (Instr.extract v12 1)) fun v15 =>
 bindS (aAlloc p S13 36) fun v16 S17 =>
 bindT (aStore p S17 36 v16 v14) fun S18 =>
 bindV (aBuild p 36 #[(0, (.int .i64 3)), (1, (.int .u32 4))]) fun v19 =>
 bindV (aBuild p 32 #[(0, (.int .i64 4)), (1, (.int .u32 3))]) fun v20 =>
 bindS (aCall p (cw W) S18 (.func (.func 16) #[] #[]) #[(.int .i64 2), v19, v20]) fun v21 S22 =>
 bindV (still p (Instr.extract v21 0)) fun v23 =>
 bindV (still p (Instr.extract v21 1)) fun v24 =>
 bindS (aAlloc p S22 36) fun v25 S26 =>
 bindT (aStore p S26 36 v25 v23) fun S27 =>
 bindV (aBuild p 36 #[(0, (.int .i64 3)), (1, (.int .u32 4))]) fun v28 =>
 bindV (aBuild p 32 #[(0, (.int .i64 4)), (1, (.int .u32 8))]) fun v29 =>
 bindS (aCall p (cw W) S27 (.func (.func 16) #[] #[]) #[(.int .i64 2), v28, v29]) fun v30 S31 =>
 bindV (still p (Instr.extract v30 0)) fun v32 =>
 bindV (still p (Instr.extract v30 1)) fun v33 =>
 bindS (aAlloc p S31 36) fun v34 S35 =>
 bindT (aStore p S35 36 v34 v32) fun S36 =>
 bindV (aBuild p 32 #[(0, (.int .i64 1))]) fun v37 =>
 bindS (aBuildSlice p S36 22 1 #[(0, v37)]) fun v38 S39 =>
 bindS (aCall p (cw W) S39 (.func (.func 9) #[] #[]) #[(.int .i64 0), v38]) fun v40 S41 =>
 bindV (still p (Instr.extract v40 0)) fun v42 =>
 bindV (still p (Instr.extract v40 1)) fun v43 =>
 bindV (aLoad p W S41 36 v7) fun v44 =>
 bindV (aBuild p 36 #[(0, (.int .i64 2))]) fun v45 =>
 bindV (aBin p .eql 36 v44 v45) fun v46 =>
 gV v46 true fun g47 =>
 gV v46 true fun g48 =>
 bindV (wO g48 (aBin p .eql 3 (wV g47 v6) (.int .i64 1))) fun v49 =>
 bindV (aPick v46 v49 (.bool false)) fun v50 =>
 gV v50 true fun g51 =>
 bindV (wO g51 (aLoad p W S41 36 v16)) fun v52 =>
 gV v50 true fun g53 =>
 bindV (wO g53 (aBuild p 36 #[(0, (.int .i64 3)), (1, (.int .u32 1))])) fun v54 =>
 gV v50 true fun g55 =>
 bindV (wO g55 (aBin p .eql 36 v52 v54)) fun v56 =>
 bindV (aPick v50 v56 (.bool false)) fun v57 =>
 gV v57 true fun g58 =>
 gV v57 true fun g59 =>
 bindV (wO g59 (aBin p .eql 3 (wV g58 v15) (.int .i64 2))) fun v60 =>
 bindV (aPick v57 v60 (.bool false)) fun v61 =>
 gV v61 true fun g62 =>
 bindV (wO g62 (aFieldAddr p 36 v25 0)) fun v63 =>
 gV v61 true fun g64 =>
 bindV (wO g64 (aLoad p W S41 3 v63)) fun v65 =>
 gV v61 true fun g66 =>
 bindV (wO g66 (aBin p .eql 3 v65 (.int .i64 2))) fun v67 =>
 bindV (aPick v61 v67 (.bool false)) fun v68 =>
 gV v68 true fun g69 =>
 gV v68 true fun g70 =>
 bindV (wO g70 (aBin p .eql 3 (wV g69 v24) (.int .i64 4))) fun v71 =>
 bindV (aPick v68 v71 (.bool false)) fun v72 =>
 gV v72 true fun g73 =>
 bindV (wO g73 (aFieldAddr p 36 v34 1)) fun v74 =>
 gV v72 true fun g75 =>
 bindV (wO g75 (aLoad p W S41 28 v74)) fun v76 =>
 gV v72 true fun g77 =>
 bindV (wO g77 (aBin p .eql 28 v76 (.int .u32 4))) fun v78 =>
 bindV (aPick v72 v78 (.bool false)) fun v79 =>
 gV v79 true fun g80 =>
 gV v79 true fun g81 =>
 bindV (wO g81 (aBin p .eql 3 (wV g80 v33) (.int .i64 0))) fun v82 =>
 bindV (aPick v79 v82 (.bool false)) fun v83 =>
 gV v83 true fun g84 =>
 gV v83 true fun g85 =>
 bindV (wO g85 (aLen p W S41 #[24] #[(wV g84 v42)])) fun v86 =>
 gV v83 true fun g87 =>
 bindV (wO g87 (aBin p .eql 3 v86 (.int .i64 1))) fun v88 =>
 bindV (aPick v83 v88 (.bool false)) fun v89 =>
 gV v89 true fun g90 =>
 gV v89 true fun g91 =>
 bindV (wO g91 (aLen p W S41 #[25] #[(wV g90 v43)])) fun v92 =>
 gV v89 true fun g93 =>
 bindV (wO g93 (aBin p .eql 3 v92 (.int .i64 1))) fun v94 =>
 bindV (aPick v89 v94 (.bool false)) fun v95 =>
 gV v95 true fun g96 =>
 bindV (wO g96 (aLoad p W S41 36 v7)) fun v97 =>
 gV v95 true fun g98 =>
 bindS (wS g98 S41 (aCall p (cw W) S41 (.func (.func 12) #[] #[]) #[(.int .i64 0), v97])) fun v99 S100 =>
 bindV (aPick v95 v99 (.bool false)) fun v101 =>
 gV v101 true fun g102 =>
 bindS (wS g102 S100 (aCall p (cw W) S100 (.func (.func 17) #[] #[]) #[(.int .u32 3), (.int .u32 4)])) fun v103 S104 =>
 bindV (aPick v101 v103 (.bool false)) fun v105 =>
 some (v105, S104)
 )
  := (fn_eq Tryd.func8 rfl ok8 _ _).trans (by kernel_rfl)
/-! 9 tocsin/mach.Run -/
noncomputable abbrev f9 := Tryd.f9
noncomputable def c9 : Code := bodyOf f9
theorem ok9 : codeOk p c9 = true := by kernel_rfl
noncomputable def c9_11111010 : Code := codeAt [1, 1, 1, 1, 1, 0, 1, 0, 0] c9
theorem ok9_11111010 : codeOk p c9_11111010 = true := by kernel_rfl
noncomputable def l9_11111010 (W : World) (y0 y1 y2 y3 y4 y5 y6 y7 y8 y9 y12 y13 y14 y15 y16 y17 y18 y19 y39 y40 : Value) (S : St) : Out := la W c9_11111010 ⟨#[y0, y1, y2, y3, y4, y5, y6, y7, y8, y9, junk, junk, y12, y13, y14, y15, y16, y17, y18, y19, junk, junk, junk, junk, junk, junk, junk, junk, junk, junk, junk, junk, junk, junk, junk, junk, junk, junk, junk, y39, y40], []⟩ S
theorem eq9 (W : World) (x0 x1 : Value) (S : St) : cw W 9 #[x0, x1] S =
 bindV (aBuild p 36 #[(0, (.int .i64 1))]) fun v1 =>
 bindS (aAlloc p S 36) fun v2 S3 =>
 bindT (aStore p S3 36 v2 v1) fun S4 =>
 bindV (aLoad p W S4 36 v2) fun v5 =>
 bindS (aCall p (cw W) S4 (.func (.func 12) #[] #[]) #[x0, v5]) fun v6 S7 =>
 bindV (aUn p .not v6) fun v8 =>
 condK v8
  (
   some (.tuple #[(.slice none 0 0), (.slice none 0 0)], S7)
  )
  (
   bindV (aLen p W S7 #[22] #[x1]) fun v9 =>
   bindO (l9_11111010 W x0 x1 undef undef (.slice none 0 0) (.slice none 0 0) v2 (.slice none 0 0) (.slice none 0 0) undef v1 x0 v5 v6 v8 x1 v9 (.int .i64 0) undef undef S7) (kc W c9 [1, 1, 1, 1, 1, 0, 1, 0] f9)
  )
  := (fn_eq Tryd.func9 rfl ok9 _ _).trans (by kernel_rfl)
theorem r9_11111010 (W : World) (y0 y1 y2 y3 y4 y5 y6 y7 y8 y9 y12 y13 y14 y15 y16 y17 y18 y19 y39 y40 : Value) (S : St) : l9_11111010 W y0 y1 y2 y3 y4 y5 y6 y7 y8 y9 y12 y13 y14 y15 y16 y17 y18 y19 y39 y40 S =
 bindV (aBin p .lss 3 y19 y18) fun v10 =>
 condK v10
  (
   bindV (aIndexAddr p 22 y17 y19) fun v11 =>
   bindV (aLoad p W S 32 v11) fun v12 =>
   bindS (aAlloc p S 32) fun v13 S14 =>
   bindT (aStore p S14 32 v13 v12) fun S15 =>
   bindV (aLoad p W S15 36 y6) fun v16 =>
   bindV (aLoad p W S15 32 v13) fun v17 =>
   bindS (aCall p (cw W) S15 (.func (.func 16) #[] #[]) #[y0, v16, v17]) fun v18 S19 =>
   bindV (still p (Instr.extract v18 0)) fun v20 =>
   bindV (still p (Instr.extract v18 1)) fun v21 =>
   bindT (aStore p S19 36 y6 v20) fun S22 =>
   bindV (aLoad p W S22 36 y6) fun v23 =>
   bindS (aBuildSlice p S22 24 1 #[(0, v23)]) fun v24 S25 =>
   bindS (aBuiltin p W S25 .append #[24, 24] #[y7, v24]) fun v26 S27 =>
   bindS (aBuildSlice p S27 25 1 #[(0, v21)]) fun v28 S29 =>
   bindS (aBuiltin p W S29 .append #[25, 25] #[y8, v28]) fun v30 S31 =>
   bindV (aBin p .add 3 y19 (.int .i64 1)) fun v32 =>
   l9_11111010 W y0 y1 y2 y3 y4 y5 y6 v26 v30 y9 y12 y13 y14 y15 y16 y17 y18 v32 y39 y40 S31
  )
  (
   some (.exit 0, ⟨#[y0, y1, y2, y3, y4, y5, y6, y7, y8, y9, junk, junk, y12, y13, y14, y15, y16, y17, y18, y19, v10, junk, junk, junk, junk, junk, junk, junk, junk, junk, junk, junk, junk, junk, junk, junk, junk, junk, junk, y39, y40], []⟩, S)
  )
  := (round_eq ok9_11111010 ⟨#[y0, y1, y2, y3, y4, y5, y6, y7, y8, y9, junk, junk, y12, y13, y14, y15, y16, y17, y18, y19, junk, junk, junk, junk, junk, junk, junk, junk, junk, junk, junk, junk, junk, junk, junk, junk, junk, junk, junk, y39, y40], []⟩ S).trans (by kernel_rfl)
theorem k9_11111010_0 (W : World) (y0 y1 y2 y3 y4 y5 y6 y7 y8 y9 y10 y11 y12 y13 y14 y15 y16 y17 y18 y19 y20 y21 y22 y23 y24 y25 y26 y27 y28 y29 y30 y31 y32 y33 y34 y35 y36 y37 y38 y39 y40 : Value) (S : St) : kc W c9 [1, 1, 1, 1, 1, 0, 1, 0] f9 (.exit 0) ⟨#[y0, y1, y2, y3, y4, y5, y6, y7, y8, y9, y10, y11, y12, y13, y14, y15, y16, y17, y18, y19, y20, y21, y22, y23, y24, y25, y26, y27, y28, y29, y30, y31, y32, y33, y34, y35, y36, y37, y38, y39, y40], []⟩ S =
 some (.tuple #[y7, y8], S)
  := by kernel_rfl
/-! 10 tocsin/tocsinref13.Step -/
noncomputable abbrev f10 := Tryd.f10
noncomputable def c10 : Code := bodyOf f10
theorem ok10 : codeOk p c10 = true := by kernel_rfl
theorem eq10 (W : World) (x0 x1 x2 x3 : Value) (S : St) : cw W 10 #[x0, x1, x2, x3] S =
 gcR #[x0, x1, x2, x3] S (
 bindS (aBox S x1) fun v1 S2 =>
 bindS (aAlloc p S2 30) fun v3 S4 =>
 bindV (aBin p .rem 28 x3 (.int .u32 64)) fun v5 =>
 bindV (aFieldAddr p 30 v1 0) fun v6 =>
 bindV (aLoad p W S4 3 v6) fun v7 =>
 bindV (aLoad p W S4 30 v1) fun v8 =>
 bindS (aCall p (cw W) S4 (.func (.func 18) #[] #[]) #[x0, v8]) fun v9 S10 =>
 bindV (aUn p .not v9) fun v11 =>
 condK v11
  (
   bindV (aLoad p W S10 30 v1) fun v12 =>
   bindT (aStore p S10 30 v3 v12) fun S13 =>
   bindV (aLoad p W S13 30 v3) fun v14 =>
   some (.tuple #[v14, (.int .i64 0)], S13)
  )
  (
   bindV (aBin p .eql 3 v7 (.int .i64 1)) fun v15 =>
   gV v15 true fun g16 =>
   gV v15 true fun g17 =>
   bindV (wO g17 (aBin p .eql 3 (wV g16 x2) (.int .i64 1))) fun v18 =>
   bindV (aPick v15 v18 (.bool false)) fun v19 =>
   condK v19
    (
     bindV (aBuild p 30 #[(0, (.int .i64 2))]) fun v20 =>
     bindT (aStore p S10 30 v3 v20) fun S21 =>
     bindV (aLoad p W S21 30 v3) fun v22 =>
     some (.tuple #[v22, (.int .i64 1)], S21)
    )
    (
     bindV (aBin p .neq 3 v7 (.int .i64 1)) fun v23 =>
     gV v23 true fun g24 =>
     gV v23 true fun g25 =>
     bindV (wO g25 (aBin p .eql 3 (wV g24 x2) (.int .i64 2))) fun v26 =>
     bindV (aPick v23 v26 (.bool false)) fun v27 =>
     condK v27
      (
       bindV (aBuild p 30 #[(0, (.int .i64 1))]) fun v28 =>
       bindT (aStore p S10 30 v3 v28) fun S29 =>
       bindV (aLoad p W S29 30 v3) fun v30 =>
       some (.tuple #[v30, (.int .i64 5)], S29)
      )
      (
       bindV (aBin p .eql 3 v7 (.int .i64 2)) fun v31 =>
       gV v31 true fun g32 =>
       gV v31 true fun g33 =>
       bindV (wO g33 (aBin p .eql 3 (wV g32 x2) (.int .i64 4))) fun v34 =>
       bindV (aPick v31 v34 (.bool false)) fun v35 =>
       gV v35 true fun g36 =>
       gV v35 true fun g37 =>
       bindV (wO g37 (aBin p .gtr 28 (wV g36 v5) (.int .u32 0))) fun v38 =>
       bindV (aPick v35 v38 (.bool false)) fun v39 =>
       condK v39
        (
         bindV (aBuild p 30 #[(0, (.int .i64 3)), (1, v5)]) fun v40 =>
         bindT (aStore p S10 30 v3 v40) fun S41 =>
         bindV (aLoad p W S41 30 v3) fun v42 =>
         some (.tuple #[v42, (.int .i64 3)], S41)
        )
        (
         bindV (aBin p .eql 3 v7 (.int .i64 2)) fun v43 =>
         gV v43 true fun g44 =>
         gV v43 true fun g45 =>
         bindV (wO g45 (aBin p .eql 3 (wV g44 x2) (.int .i64 3))) fun v46 =>
         bindV (aPick v43 v46 (.bool false)) fun v47 =>
         gV v47 true fun g48 =>
         bindV (wO g48 (aFieldAddr p 30 v1 3)) fun v49 =>
         gV v47 true fun g50 =>
         bindV (wO g50 (aLoad p W S10 3 v49)) fun v51 =>
         gV v47 true fun g52 =>
         gV v47 true fun g53 =>
         bindV (wO g53 (aBin p .add 3 (.int .i64 1) (wV g52 x0))) fun v54 =>
         gV v47 true fun g55 =>
         bindV (wO g55 (aBin p .lss 3 v51 v54)) fun v56 =>
         bindV (aPick v47 v56 (.bool false)) fun v57 =>
         condK v57
          (
           bindV (aFieldAddr p 30 v1 3) fun v58 =>
           bindV (aLoad p W S10 3 v58) fun v59 =>
           bindV (aBin p .add 3 v59 (.int .i64 1)) fun v60 =>
           bindV (aBuild p 30 #[(0, (.int .i64 2)), (3, v60)]) fun v61 =>
           bindT (aStore p S10 30 v3 v61) fun S62 =>
           bindV (aLoad p W S62 30 v3) fun v63 =>
           some (.tuple #[v63, (.int .i64 0)], S62)
          )
          (
           bindV (aBin p .eql 3 v7 (.int .i64 2)) fun v64 =>
           gV v64 true fun g65 =>
           gV v64 true fun g66 =>
           bindV (wO g66 (aBin p .eql 3 (wV g65 x2) (.int .i64 3))) fun v67 =>
           bindV (aPick v64 v67 (.bool false)) fun v68 =>
           condK v68
            (
             bindS (aBuildSlice p S10 25 1 #[(0, x0)]) fun v69 S70 =>
             bindS (aCall p (cw W) S70 (.func (.func 19) #[] #[]) #[v69]) fun v71 S72 =>
             bindV (aBuild p 30 #[(0, (.int .i64 3)), (1, v71)]) fun v73 =>
             bindT (aStore p S72 30 v3 v73) fun S74 =>
             bindV (aLoad p W S74 30 v3) fun v75 =>
             some (.tuple #[v75, (.int .i64 2)], S74)
            )
            (
             bindV (aBin p .eql 3 v7 (.int .i64 3)) fun v76 =>
             gV v76 true fun g77 =>
             gV v76 true fun g78 =>
             bindV (wO g78 (aBin p .eql 3 (wV g77 x2) (.int .i64 3))) fun v79 =>
             bindV (aPick v76 v79 (.bool false)) fun v80 =>
             gV v80 true fun g81 =>
             gV v80 true fun g82 =>
             bindV (wO g82 (aBin p .gtr 28 (wV g81 v5) (.int .u32 0))) fun v83 =>
             bindV (aPick v80 v83 (.bool false)) fun v84 =>
             condK v84
              (
               bindV (aBuild p 30 #[(0, (.int .i64 3)), (1, v5)]) fun v85 =>
               bindT (aStore p S10 30 v3 v85) fun S86 =>
               bindV (aLoad p W S86 30 v3) fun v87 =>
               some (.tuple #[v87, (.int .i64 0)], S86)
              )
              (
               bindV (aBin p .eql 3 v7 (.int .i64 3)) fun v88 =>
               gV v88 true fun g89 =>
               gV v88 true fun g90 =>
               bindV (wO g90 (aBin p .eql 3 (wV g89 x2) (.int .i64 3))) fun v91 =>
               bindV (aPick v88 v91 (.bool false)) fun v92 =>
               gV v92 true fun g93 =>
               bindV (wO g93 (aFieldAddr p 30 v1 2)) fun v94 =>
               gV v92 true fun g95 =>
               bindV (wO g95 (aLoad p W S10 3 v94)) fun v96 =>
               gV v92 true fun g97 =>
               bindV (wO g97 (aBin p .eql 3 v96 (.int .i64 0))) fun v98 =>
               bindV (aPick v92 v98 (.bool false)) fun v99 =>
               condK v99
                (
                 bindV (aFieldAddr p 30 v1 1) fun v100 =>
                 bindV (aLoad p W S10 28 v100) fun v101 =>
                 bindV (aBuild p 30 #[(0, (.int .i64 3)), (1, v101), (2, (.int .i64 1))]) fun v102 =>
                 bindT (aStore p S10 30 v3 v102) fun S103 =>
                 bindV (aLoad p W S103 30 v3) fun v104 =>
                 some (.tuple #[v104, (.int .i64 0)], S103)
                )
                (
                 bindV (aBin p .eql 3 v7 (.int .i64 3)) fun v105 =>
                 gV v105 true fun g106 =>
                 gV v105 true fun g107 =>
                 bindV (wO g107 (aBin p .eql 3 (wV g106 x2) (.int .i64 3))) fun v108 =>
                 bindV (aPick v105 v108 (.bool false)) fun v109 =>
                 condK v109
                  (
                   bindV (aBuild p 30 #[(0, (.int .i64 2))]) fun v110 =>
                   bindT (aStore p S10 30 v3 v110) fun S111 =>
                   bindV (aLoad p W S111 30 v3) fun v112 =>
                   some (.tuple #[v112, (.int .i64 4)], S111)
                  )
                  (
                   bindV (aBin p .eql 3 v7 (.int .i64 3)) fun v113 =>
                   gV v113 true fun g114 =>
                   gV v113 true fun g115 =>
                   bindV (wO g115 (aBin p .eql 3 (wV g114 x2) (.int .i64 4))) fun v116 =>
                   bindV (aPick v113 v116 (.bool false)) fun v117 =>
                   gV v117 true fun g118 =>
                   gV v117 true fun g119 =>
                   bindV (wO g119 (aFieldAddr p 30 v1 1)) fun v120 =>
                   gV v117 true fun g121 =>
                   bindV (wO g121 (aLoad p W S10 28 v120)) fun v122 =>
                   gV v117 true fun g123 =>
                   bindS (wS g123 S10 (aCall p (cw W) S10 (.func (.func 15) #[] #[]) #[(wV g118 v5), v122])) fun v124 S125 =>
                   bindV (aPick v117 v124 (.bool false)) fun v126 =>
                   condK v126
                    (
                     bindV (aBuild p 30 #[(0, (.int .i64 2))]) fun v127 =>
                     bindT (aStore p S125 30 v3 v127) fun S128 =>
                     bindV (aLoad p W S128 30 v3) fun v129 =>
                     some (.tuple #[v129, (.int .i64 4)], S128)
                    )
                    (
                     bindV (aLoad p W S125 30 v1) fun v130 =>
                     bindT (aStore p S125 30 v3 v130) fun S131 =>
                     bindV (aLoad p W S131 30 v3) fun v132 =>
                     some (.tuple #[v132, (.int .i64 0)], S131)
                    )
                  )
                )
              )
            )
          )
        )
      )
    )
  )
 )
  := (fn_eq Tryd.func10 rfl ok10 _ _).trans (by kernel_rfl)
/-! 11 tocsin/tocsinlaw13.of -/
noncomputable abbrev f11 := Tryd.f11
noncomputable def c11 : Code := bodyOf f11
theorem ok11 : codeOk p c11 = true := by kernel_rfl
theorem eq11 (W : World) (x0 : Value) (S : St) : cw W 11 #[x0] S =
 gcR #[x0] S (
 bindS (aBox S x0) fun v1 S2 =>
 bindS (aAlloc p S2 30) fun v3 S4 =>
 bindV (aFieldAddr p 36 v1 0) fun v5 =>
 bindV (aLoad p W S4 3 v5) fun v6 =>
 bindV (aFieldAddr p 36 v1 1) fun v7 =>
 bindV (aLoad p W S4 28 v7) fun v8 =>
 bindV (aFieldAddr p 36 v1 2) fun v9 =>
 bindV (aLoad p W S4 3 v9) fun v10 =>
 bindV (aFieldAddr p 36 v1 3) fun v11 =>
 bindV (aLoad p W S4 3 v11) fun v12 =>
 bindV (aBuild p 30 #[(0, v6), (1, v8), (2, v10), (3, v12)]) fun v13 =>
 bindT (aStore p S4 30 v3 v13) fun S14 =>
 bindV (aLoad p W S14 30 v3) fun v15 =>
 some (v15, S14)
 )
  := (fn_eq Tryd.func11 rfl ok11 _ _).trans (by kernel_rfl)
/-! 12 tocsin/mach.May -/
noncomputable abbrev f12 := Tryd.f12
noncomputable def c12 : Code := bodyOf f12
theorem ok12 : codeOk p c12 = true := by kernel_rfl
theorem eq12 (W : World) (x0 x1 : Value) (S : St) : cw W 12 #[x0, x1] S =
 gcR #[x0, x1] S (
 bindS (aBox S x1) fun v1 S2 =>
 bindV (aBin p .lss 3 x0 (.int .i64 0)) fun v3 =>
 gV v3 false fun g4 =>
 gV v3 false fun g5 =>
 bindV (wO g5 (aBin p .geq 3 (wV g4 x0) (.int .i64 6))) fun v6 =>
 bindV (aPick v3 (.bool true) v6) fun v7 =>
 condK v7
  (
   some ((.bool false), S2)
  )
  (
   bindV (aFieldAddr p 36 v1 0) fun v8 =>
   bindV (aLoad p W S2 3 v8) fun v9 =>
   bindV (aBin p .eql 3 v9 (.int .i64 1)) fun v10 =>
   condK v10
    (
     bindV (aLoad p W S2 36 v1) fun v11 =>
     bindV (aBuild p 36 #[(0, (.int .i64 1))]) fun v12 =>
     bindV (aBin p .eql 36 v11 v12) fun v13 =>
     some (v13, S2)
    )
    (
     bindV (aBin p .eql 3 v9 (.int .i64 2)) fun v14 =>
     condK v14
      (
       bindV (aFieldAddr p 36 v1 3) fun v15 =>
       bindV (aLoad p W S2 3 v15) fun v16 =>
       bindV (aBin p .geq 3 v16 (.int .i64 0)) fun v17 =>
       gV v17 true fun g18 =>
       bindV (wO g18 (aFieldAddr p 36 v1 3)) fun v19 =>
       gV v17 true fun g20 =>
       bindV (wO g20 (aLoad p W S2 3 v19)) fun v21 =>
       gV v17 true fun g22 =>
       gV v17 true fun g23 =>
       bindV (wO g23 (aBin p .add 3 (wV g22 x0) (.int .i64 1))) fun v24 =>
       gV v17 true fun g25 =>
       bindV (wO g25 (aBin p .leq 3 v21 v24)) fun v26 =>
       bindV (aPick v17 v26 (.bool false)) fun v27 =>
       gV v27 true fun g28 =>
       bindV (wO g28 (aLoad p W S2 36 v1)) fun v29 =>
       gV v27 true fun g30 =>
       bindV (wO g30 (aFieldAddr p 36 v1 3)) fun v31 =>
       gV v27 true fun g32 =>
       bindV (wO g32 (aLoad p W S2 3 v31)) fun v33 =>
       gV v27 true fun g34 =>
       bindV (wO g34 (aBuild p 36 #[(0, (.int .i64 2)), (3, v33)])) fun v35 =>
       gV v27 true fun g36 =>
       bindV (wO g36 (aBin p .eql 36 v29 v35)) fun v37 =>
       bindV (aPick v27 v37 (.bool false)) fun v38 =>
       some (v38, S2)
      )
      (
       bindV (aBin p .eql 3 v9 (.int .i64 3)) fun v39 =>
       condK v39
        (
         bindV (aFieldAddr p 36 v1 1) fun v40 =>
         bindV (aLoad p W S2 28 v40) fun v41 =>
         bindV (aBin p .neq 28 v41 (.int .u32 0)) fun v42 =>
         gV v42 true fun g43 =>
         bindV (wO g43 (aFieldAddr p 36 v1 1)) fun v44 =>
         gV v42 true fun g45 =>
         bindV (wO g45 (aLoad p W S2 28 v44)) fun v46 =>
         gV v42 true fun g47 =>
         bindV (wO g47 (aBin p .andNot 28 v46 (.int .u32 63))) fun v48 =>
         gV v42 true fun g49 =>
         bindV (wO g49 (aBin p .eql 28 v48 (.int .u32 0))) fun v50 =>
         bindV (aPick v42 v50 (.bool false)) fun v51 =>
         gV v51 true fun g52 =>
         bindV (wO g52 (aFieldAddr p 36 v1 2)) fun v53 =>
         gV v51 true fun g54 =>
         bindV (wO g54 (aLoad p W S2 3 v53)) fun v55 =>
         gV v51 true fun g56 =>
         bindV (wO g56 (aBin p .eql 3 v55 (.int .i64 0))) fun v57 =>
         gV v51 true fun g58 =>
         gV (wV g58 v57) false fun g59 =>
         bindV (wO g59 (aFieldAddr p 36 v1 2)) fun v60 =>
         gV (wV g58 v57) false fun g61 =>
         bindV (wO g61 (aLoad p W S2 3 v60)) fun v62 =>
         gV (wV g58 v57) false fun g63 =>
         bindV (wO g63 (aBin p .eql 3 v62 (.int .i64 1))) fun v64 =>
         gV v51 true fun g65 =>
         bindV (wO g65 (aPick (wV g58 v57) (.bool true) v64)) fun v66 =>
         bindV (aPick v51 v66 (.bool false)) fun v67 =>
         gV v67 true fun g68 =>
         bindV (wO g68 (aFieldAddr p 36 v1 3)) fun v69 =>
         gV v67 true fun g70 =>
         bindV (wO g70 (aLoad p W S2 3 v69)) fun v71 =>
         gV v67 true fun g72 =>
         bindV (wO g72 (aBin p .eql 3 v71 (.int .i64 0))) fun v73 =>
         bindV (aPick v67 v73 (.bool false)) fun v74 =>
         some (v74, S2)
        )
        (
         some ((.bool false), S2)
        )
      )
    )
  )
 )
  := (fn_eq Tryd.func12 rfl ok12 _ _).trans (by kernel_rfl)
/-! 13 tocsin/tocsinlaw13.Pick -/
noncomputable abbrev f13 := Tryd.f13
noncomputable def c13 : Code := bodyOf f13
theorem ok13 : codeOk p c13 = true := by kernel_rfl
theorem eq13 (W : World) (x0 : Value) (S : St) : cw W 13 #[x0] S =
 gcR #[x0] S (
 bindV (aBuild p 51 #[(0, (.int .i64 1)), (1, (.int .i64 3)), (2, (.int .i64 4))]) fun v1 =>
 bindV (aBin p .rem 5 x0 (.int .u8 3)) fun v2 =>
 bindV (still p (Instr.index 51 v1 v2)) fun v3 =>
 some (v3, S)
 )
  := (fn_eq Tryd.func13 rfl ok13 _ _).trans (by kernel_rfl)
/-! 14 tocsin/tocsinlaw13.first -/
noncomputable abbrev f14 := Tryd.f14
noncomputable def c14 : Code := bodyOf f14
theorem ok14 : codeOk p c14 = true := by kernel_rfl
theorem eq14 (W : World) (x0 x1 : Value) (S : St) : cw W 14 #[x0, x1] S =
 bindS (aCall p (cw W) S (.func (.func 9) #[] #[]) #[x0, x1]) fun v1 S2 =>
 bindV (still p (Instr.extract v1 0)) fun v3 =>
 bindV (still p (Instr.extract v1 1)) fun v4 =>
 some (v3, S2)
  := (fn_eq Tryd.func14 rfl ok14 _ _).trans (by kernel_rfl)
/-! 15 tocsin/tocsinref13.Stronger -/
noncomputable abbrev f15 := Tryd.f15
noncomputable def c15 : Code := bodyOf f15
theorem ok15 : codeOk p c15 = true := by kernel_rfl
theorem eq15 (W : World) (x0 x1 : Value) (S : St) : cw W 15 #[x0, x1] S =
 gcR #[x0, x1] S (
 bindS (aCall p (cw W) S (.func (.func 20) #[] #[]) #[x0]) fun v1 S2 =>
 bindS (aCall p (cw W) S2 (.func (.func 20) #[] #[]) #[x1]) fun v3 S4 =>
 bindV (aLen p W S4 #[25] #[v1]) fun v5 =>
 bindV (aLen p W S4 #[25] #[v3]) fun v6 =>
 bindV (aBin p .neq 3 v5 v6) fun v7 =>
 condK v7
  (
   bindV (aLen p W S4 #[25] #[v1]) fun v8 =>
   bindV (aLen p W S4 #[25] #[v3]) fun v9 =>
   bindV (aBin p .gtr 3 v8 v9) fun v10 =>
   some (v10, S4)
  )
  (
   bindV (aLen p W S4 #[25] #[v1]) fun v11 =>
   bindV (aBin p .gtr 3 v11 (.int .i64 0)) fun v12 =>
   gV v12 true fun g13 =>
   gV v12 true fun g14 =>
   bindV (wO g14 (aIndexAddr p 25 (wV g13 v1) (.int .i64 0))) fun v15 =>
   gV v12 true fun g16 =>
   bindV (wO g16 (aLoad p W S4 3 v15)) fun v17 =>
   gV v12 true fun g18 =>
   gV v12 true fun g19 =>
   bindV (wO g19 (aIndexAddr p 25 (wV g18 v3) (.int .i64 0))) fun v20 =>
   gV v12 true fun g21 =>
   bindV (wO g21 (aLoad p W S4 3 v20)) fun v22 =>
   gV v12 true fun g23 =>
   bindV (wO g23 (aBin p .lss 3 v17 v22)) fun v24 =>
   bindV (aPick v12 v24 (.bool false)) fun v25 =>
   some (v25, S4)
  )
 )
  := (fn_eq Tryd.func15 rfl ok15 _ _).trans (by kernel_rfl)
/-! 16 tocsin/mach.Step -/
noncomputable abbrev f16 := Tryd.f16
noncomputable def c16 : Code := bodyOf f16
theorem ok16 : codeOk p c16 = true := by kernel_rfl
theorem eq16 (W : World) (x0 x1 x2 : Value) (S : St) : cw W 16 #[x0, x1, x2] S =
 gcR #[x0, x1, x2] S (
 bindS (aBox S x1) fun v1 S2 =>
 bindS (aBox S2 x2) fun v3 S4 =>
 bindS (aAlloc p S4 36) fun v5 S6 =>
 bindV (aFieldAddr p 32 v3 1) fun v7 =>
 bindV (aLoad p W S6 28 v7) fun v8 =>
 bindV (aBin p .and 28 v8 (.int .u32 63)) fun v9 =>
 bindV (aFieldAddr p 32 v3 1) fun v10 =>
 bindT (aStore p S6 28 v10 v9) fun S11 =>
 bindV (aLoad p W S11 36 v1) fun v12 =>
 bindS (aCall p (cw W) S11 (.func (.func 12) #[] #[]) #[x0, v12]) fun v13 S14 =>
 bindV (aUn p .not v13) fun v15 =>
 condK v15
  (
   bindV (aLoad p W S14 36 v1) fun v16 =>
   bindT (aStore p S14 36 v5 v16) fun S17 =>
   bindV (aLoad p W S17 36 v5) fun v18 =>
   some (.tuple #[v18, (.int .i64 0)], S17)
  )
  (
   bindV (aFieldAddr p 36 v1 0) fun v19 =>
   bindV (aLoad p W S14 3 v19) fun v20 =>
   bindV (aBin p .eql 3 v20 (.int .i64 1)) fun v21 =>
   gV v21 true fun g22 =>
   bindV (wO g22 (aFieldAddr p 32 v3 0)) fun v23 =>
   gV v21 true fun g24 =>
   bindV (wO g24 (aLoad p W S14 3 v23)) fun v25 =>
   gV v21 true fun g26 =>
   bindV (wO g26 (aBin p .eql 3 v25 (.int .i64 1))) fun v27 =>
   bindV (aPick v21 v27 (.bool false)) fun v28 =>
   condK v28
    (
     bindV (aBuild p 36 #[(0, (.int .i64 2))]) fun v29 =>
     bindT (aStore p S14 36 v5 v29) fun S30 =>
     bindV (aLoad p W S30 36 v5) fun v31 =>
     some (.tuple #[v31, (.int .i64 1)], S30)
    )
    (
     bindV (aFieldAddr p 36 v1 0) fun v32 =>
     bindV (aLoad p W S14 3 v32) fun v33 =>
     bindV (aBin p .eql 3 v33 (.int .i64 1)) fun v34 =>
     condK v34
      (
       bindV (aLoad p W S14 36 v1) fun v35 =>
       bindT (aStore p S14 36 v5 v35) fun S36 =>
       bindV (aLoad p W S36 36 v5) fun v37 =>
       some (.tuple #[v37, (.int .i64 0)], S36)
      )
      (
       bindV (aFieldAddr p 32 v3 0) fun v38 =>
       bindV (aLoad p W S14 3 v38) fun v39 =>
       bindV (aBin p .eql 3 v39 (.int .i64 2)) fun v40 =>
       condK v40
        (
         bindV (aBuild p 36 #[(0, (.int .i64 1))]) fun v41 =>
         bindT (aStore p S14 36 v5 v41) fun S42 =>
         bindV (aLoad p W S42 36 v5) fun v43 =>
         some (.tuple #[v43, (.int .i64 5)], S42)
        )
        (
         bindV (aFieldAddr p 36 v1 0) fun v44 =>
         bindV (aLoad p W S14 3 v44) fun v45 =>
         bindV (aBin p .eql 3 v45 (.int .i64 2)) fun v46 =>
         condK v46
          (
           bindV (aLoad p W S14 36 v1) fun v47 =>
           bindV (aLoad p W S14 32 v3) fun v48 =>
           bindS (aCall p (cw W) S14 (.func (.func 21) #[] #[]) #[x0, v47, v48]) fun v49 S50 =>
           bindV (still p (Instr.extract v49 0)) fun v51 =>
           bindV (still p (Instr.extract v49 1)) fun v52 =>
           bindT (aStore p S50 36 v5 v51) fun S53 =>
           bindV (aLoad p W S53 36 v5) fun v54 =>
           some (.tuple #[v54, v52], S53)
          )
          (
           bindV (aLoad p W S14 36 v1) fun v55 =>
           bindV (aLoad p W S14 32 v3) fun v56 =>
           bindS (aCall p (cw W) S14 (.func (.func 22) #[] #[]) #[v55, v56]) fun v57 S58 =>
           bindV (still p (Instr.extract v57 0)) fun v59 =>
           bindV (still p (Instr.extract v57 1)) fun v60 =>
           bindT (aStore p S58 36 v5 v59) fun S61 =>
           bindV (aLoad p W S61 36 v5) fun v62 =>
           some (.tuple #[v62, v60], S61)
          )
        )
      )
    )
  )
 )
  := (fn_eq Tryd.func16 rfl ok16 _ _).trans (by kernel_rfl)
/-! 17 tocsin/mach.Stronger -/
noncomputable abbrev f17 := Tryd.f17
noncomputable def c17 : Code := bodyOf f17
theorem ok17 : codeOk p c17 = true := by kernel_rfl
theorem eq17 (W : World) (x0 x1 : Value) (S : St) : cw W 17 #[x0, x1] S =
 gcR #[x0, x1] S (
 bindS (aCall p (cw W) S (.func (.func 23) #[] #[]) #[x0]) fun v1 S2 =>
 bindS (aCall p (cw W) S2 (.func (.func 23) #[] #[]) #[x1]) fun v3 S4 =>
 bindV (aBin p .neq 3 v1 v3) fun v5 =>
 condK v5
  (
   bindV (aBin p .gtr 3 v1 v3) fun v6 =>
   some (v6, S4)
  )
  (
   bindS (aCall p (cw W) S4 (.func (.func 24) #[] #[]) #[x0]) fun v7 S8 =>
   bindS (aCall p (cw W) S8 (.func (.func 24) #[] #[]) #[x1]) fun v9 S10 =>
   bindV (aBin p .lss 3 v7 v9) fun v11 =>
   some (v11, S10)
  )
 )
  := (fn_eq Tryd.func17 rfl ok17 _ _).trans (by kernel_rfl)
/-! 18 tocsin/tocsinref13.May -/
noncomputable abbrev f18 := Tryd.f18
noncomputable def c18 : Code := bodyOf f18
theorem ok18 : codeOk p c18 = true := by kernel_rfl
theorem eq18 (W : World) (x0 x1 : Value) (S : St) : cw W 18 #[x0, x1] S =
 gcR #[x0, x1] S (
 bindS (aBox S x1) fun v1 S2 =>
 bindV (aBin p .lss 3 x0 (.int .i64 0)) fun v3 =>
 gV v3 false fun g4 =>
 gV v3 false fun g5 =>
 bindV (wO g5 (aBin p .gtr 3 (wV g4 x0) (.int .i64 5))) fun v6 =>
 bindV (aPick v3 (.bool true) v6) fun v7 =>
 condK v7
  (
   some ((.bool false), S2)
  )
  (
   bindV (aFieldAddr p 30 v1 0) fun v8 =>
   bindV (aLoad p W S2 3 v8) fun v9 =>
   bindV (aBin p .eql 3 v9 (.int .i64 1)) fun v10 =>
   condK v10
    (
     bindV (aFieldAddr p 30 v1 1) fun v11 =>
     bindV (aLoad p W S2 28 v11) fun v12 =>
     bindV (aBin p .eql 28 v12 (.int .u32 0)) fun v13 =>
     gV v13 true fun g14 =>
     bindV (wO g14 (aFieldAddr p 30 v1 2)) fun v15 =>
     gV v13 true fun g16 =>
     bindV (wO g16 (aLoad p W S2 3 v15)) fun v17 =>
     gV v13 true fun g18 =>
     bindV (wO g18 (aBin p .eql 3 v17 (.int .i64 0))) fun v19 =>
     bindV (aPick v13 v19 (.bool false)) fun v20 =>
     gV v20 true fun g21 =>
     bindV (wO g21 (aFieldAddr p 30 v1 3)) fun v22 =>
     gV v20 true fun g23 =>
     bindV (wO g23 (aLoad p W S2 3 v22)) fun v24 =>
     gV v20 true fun g25 =>
     bindV (wO g25 (aBin p .eql 3 v24 (.int .i64 0))) fun v26 =>
     bindV (aPick v20 v26 (.bool false)) fun v27 =>
     some (v27, S2)
    )
    (
     bindV (aFieldAddr p 30 v1 0) fun v28 =>
     bindV (aLoad p W S2 3 v28) fun v29 =>
     bindV (aBin p .eql 3 v29 (.int .i64 2)) fun v30 =>
     condK v30
      (
       bindV (aFieldAddr p 30 v1 1) fun v31 =>
       bindV (aLoad p W S2 28 v31) fun v32 =>
       bindV (aBin p .eql 28 v32 (.int .u32 0)) fun v33 =>
       gV v33 true fun g34 =>
       bindV (wO g34 (aFieldAddr p 30 v1 2)) fun v35 =>
       gV v33 true fun g36 =>
       bindV (wO g36 (aLoad p W S2 3 v35)) fun v37 =>
       gV v33 true fun g38 =>
       bindV (wO g38 (aBin p .eql 3 v37 (.int .i64 0))) fun v39 =>
       bindV (aPick v33 v39 (.bool false)) fun v40 =>
       gV v40 true fun g41 =>
       bindV (wO g41 (aFieldAddr p 30 v1 3)) fun v42 =>
       gV v40 true fun g43 =>
       bindV (wO g43 (aLoad p W S2 3 v42)) fun v44 =>
       gV v40 true fun g45 =>
       bindV (wO g45 (aBin p .geq 3 v44 (.int .i64 0))) fun v46 =>
       bindV (aPick v40 v46 (.bool false)) fun v47 =>
       gV v47 true fun g48 =>
       bindV (wO g48 (aFieldAddr p 30 v1 3)) fun v49 =>
       gV v47 true fun g50 =>
       bindV (wO g50 (aLoad p W S2 3 v49)) fun v51 =>
       gV v47 true fun g52 =>
       gV v47 true fun g53 =>
       bindV (wO g53 (aBin p .add 3 (wV g52 x0) (.int .i64 1))) fun v54 =>
       gV v47 true fun g55 =>
       bindV (wO g55 (aBin p .leq 3 v51 v54)) fun v56 =>
       bindV (aPick v47 v56 (.bool false)) fun v57 =>
       some (v57, S2)
      )
      (
       bindV (aFieldAddr p 30 v1 0) fun v58 =>
       bindV (aLoad p W S2 3 v58) fun v59 =>
       bindV (aBin p .eql 3 v59 (.int .i64 3)) fun v60 =>
       gV v60 true fun g61 =>
       bindV (wO g61 (aFieldAddr p 30 v1 1)) fun v62 =>
       gV v60 true fun g63 =>
       bindV (wO g63 (aLoad p W S2 28 v62)) fun v64 =>
       gV v60 true fun g65 =>
       bindV (wO g65 (aBin p .gtr 28 v64 (.int .u32 0))) fun v66 =>
       bindV (aPick v60 v66 (.bool false)) fun v67 =>
       gV v67 true fun g68 =>
       bindV (wO g68 (aFieldAddr p 30 v1 1)) fun v69 =>
       gV v67 true fun g70 =>
       bindV (wO g70 (aLoad p W S2 28 v69)) fun v71 =>
       gV v67 true fun g72 =>
       bindV (wO g72 (aBin p .lss 28 v71 (.int .u32 64))) fun v73 =>
       bindV (aPick v67 v73 (.bool false)) fun v74 =>
       gV v74 true fun g75 =>
       bindV (wO g75 (aFieldAddr p 30 v1 3)) fun v76 =>
       gV v74 true fun g77 =>
       bindV (wO g77 (aLoad p W S2 3 v76)) fun v78 =>
       gV v74 true fun g79 =>
       bindV (wO g79 (aBin p .eql 3 v78 (.int .i64 0))) fun v80 =>
       bindV (aPick v74 v80 (.bool false)) fun v81 =>
       gV v81 true fun g82 =>
       bindV (wO g82 (aFieldAddr p 30 v1 2)) fun v83 =>
       gV v81 true fun g84 =>
       bindV (wO g84 (aLoad p W S2 3 v83)) fun v85 =>
       gV v81 true fun g86 =>
       bindV (wO g86 (aBin p .geq 3 v85 (.int .i64 0))) fun v87 =>
       bindV (aPick v81 v87 (.bool false)) fun v88 =>
       gV v88 true fun g89 =>
       bindV (wO g89 (aFieldAddr p 30 v1 2)) fun v90 =>
       gV v88 true fun g91 =>
       bindV (wO g91 (aLoad p W S2 3 v90)) fun v92 =>
       gV v88 true fun g93 =>
       bindV (wO g93 (aBin p .leq 3 v92 (.int .i64 1))) fun v94 =>
       bindV (aPick v88 v94 (.bool false)) fun v95 =>
       some (v95, S2)
      )
    )
  )
 )
  := (fn_eq Tryd.func18 rfl ok18 _ _).trans (by kernel_rfl)
/-! 19 tocsin/tocsinref07.Of -/
noncomputable abbrev f19 := Tryd.f19
noncomputable def c19 : Code := bodyOf f19
theorem ok19 : codeOk p c19 = true := by kernel_rfl
noncomputable def c19_111010 : Code := codeAt [1, 1, 1, 0, 1, 0, 0] c19
theorem ok19_111010 : codeOk p c19_111010 = true := by kernel_rfl
noncomputable def l19_111010 (W : World) (y0 y1 y2 y3 y4 y5 y28 : Value) (S : St) : Out := la W c19_111010 ⟨#[y0, y1, y2, y3, y4, y5, junk, junk, junk, junk, junk, junk, junk, junk, junk, junk, junk, junk, junk, junk, junk, junk, junk, junk, junk, junk, junk, junk, y28], []⟩ S
noncomputable def c19_1110100100010 : Code := codeAt [1, 1, 1, 0, 1, 0, 0, 1, 0, 0, 0, 1, 0, 0] c19
theorem ok19_1110100100010 : codeOk p c19_1110100100010 = true := by kernel_rfl
noncomputable def l19_1110100100010 (W : World) (y0 y1 y2 y3 y4 y5 y6 y7 y8 y9 y10 y26 y27 y28 : Value) (S : St) : Out := la W c19_1110100100010 ⟨#[y0, y1, y2, y3, y4, y5, y6, y7, y8, y9, y10, junk, junk, junk, junk, junk, junk, junk, junk, junk, junk, junk, junk, junk, junk, junk, y26, y27, y28], []⟩ S
theorem eq19 (W : World) (x0 : Value) (S : St) : cw W 19 #[x0] S =
 gcR #[x0] S (
 bindO (l19_111010 W x0 undef (.int .u32 0) (.int .u32 0) (.int .u32 1) (.int .i64 0) undef S) (kc W c19 [1, 1, 1, 0, 1, 0] f19)
 )
  := (fn_eq Tryd.func19 rfl ok19 _ _).trans (by kernel_rfl)
theorem r19_111010 (W : World) (y0 y1 y2 y3 y4 y5 y28 : Value) (S : St) : l19_111010 W y0 y1 y2 y3 y4 y5 y28 S =
 bindV (aBin p .lss 3 y5 (.int .i64 6)) fun v1 =>
 condK v1
  (
   bindO (l19_1110100100010 W y0 y1 y2 y3 y4 y5 (.int .i64 0) y5 v1 junk junk junk junk y28 S) (rk W c19_111010 [1, 0, 0, 0, 1, 0])
  )
  (
   some (.exit 0, ⟨#[y0, y1, y2, y3, y4, y5, junk, y5, v1, junk, junk, junk, junk, junk, junk, junk, junk, junk, junk, junk, junk, junk, junk, junk, junk, junk, junk, junk, y28], []⟩, S)
  )
  := (round_eq ok19_111010 ⟨#[y0, y1, y2, y3, y4, y5, junk, junk, junk, junk, junk, junk, junk, junk, junk, junk, junk, junk, junk, junk, junk, junk, junk, junk, junk, junk, junk, junk, y28], []⟩ S).trans (by kernel_rfl)
theorem r19_1110100100010 (W : World) (y0 y1 y2 y3 y4 y5 y6 y7 y8 y9 y10 y26 y27 y28 : Value) (S : St) : l19_1110100100010 W y0 y1 y2 y3 y4 y5 y6 y7 y8 y9 y10 y26 y27 y28 S =
 bindV (aLen p W S #[25] #[y0]) fun v2 =>
 bindV (aBin p .lss 3 y6 v2) fun v3 =>
 condK v3
  (
   bindV (aIndexAddr p 25 y0 y6) fun v4 =>
   bindV (aLoad p W S 3 v4) fun v5 =>
   bindV (aBin p .eql 3 v5 y5) fun v6 =>
   condK v6
    (
     bindV (aBin p .add 28 y3 y4) fun v7 =>
     some (.exit 2, ⟨#[y0, y1, y2, v7, y4, y5, y6, y7, y8, y9, y10, y6, y0, v2, v3, junk, junk, y0, y6, v4, v5, y5, v6, y3, y4, v7, y26, y27, y28], []⟩, S)
    )
    (
     bindV (aBin p .add 3 y6 (.int .i64 1)) fun v8 =>
     l19_1110100100010 W y0 y1 y2 y3 y4 y5 v8 y7 y8 y9 y10 y26 y27 y28 S
    )
  )
  (
   some (.exit 2, ⟨#[y0, y1, y2, y3, y4, y5, y6, y7, y8, y9, y10, y6, y0, v2, v3, junk, junk, junk, junk, junk, junk, junk, junk, junk, junk, junk, y26, y27, y28], []⟩, S)
  )
  := (round_eq ok19_1110100100010 ⟨#[y0, y1, y2, y3, y4, y5, y6, y7, y8, y9, y10, junk, junk, junk, junk, junk, junk, junk, junk, junk, junk, junk, junk, junk, junk, junk, y26, y27, y28], []⟩ S).trans (by kernel_rfl)
theorem k19_111010_0 (W : World) (y0 y1 y2 y3 y4 y5 y6 y7 y8 y9 y10 y11 y12 y13 y14 y15 y16 y17 y18 y19 y20 y21 y22 y23 y24 y25 y26 y27 y28 : Value) (S : St) : kc W c19 [1, 1, 1, 0, 1, 0] f19 (.exit 0) ⟨#[y0, y1, y2, y3, y4, y5, y6, y7, y8, y9, y10, y11, y12, y13, y14, y15, y16, y17, y18, y19, y20, y21, y22, y23, y24, y25, y26, y27, y28], []⟩ S =
 some (y3, S)
  := by kernel_rfl
theorem k19_1110100100010_2 (W : World) (y0 y1 y2 y3 y4 y5 y6 y7 y8 y9 y10 y11 y12 y13 y14 y15 y16 y17 y18 y19 y20 y21 y22 y23 y24 y25 y26 y27 y28 : Value) (S : St) : rk W c19_111010 [1, 0, 0, 0, 1, 0] (.exit 2) ⟨#[y0, y1, y2, y3, y4, y5, y6, y7, y8, y9, y10, y11, y12, y13, y14, y15, y16, y17, y18, y19, y20, y21, y22, y23, y24, y25, y26, y27, y28], []⟩ S =
 bindV (aBin p .mul 28 y4 (.int .u32 2)) fun v1 =>
 bindV (aBin p .add 3 y5 (.int .i64 1)) fun v2 =>
 l19_111010 W y0 y1 y2 y3 v1 v2 y28 S
  := by kernel_rfl
/-! 20 tocsin/tocsinref07.Members -/
noncomputable abbrev f20 := Tryd.f20
noncomputable def c20 : Code := bodyOf f20
theorem ok20 : codeOk p c20 = true := by kernel_rfl
noncomputable def c20_11010 : Code := codeAt [1, 1, 0, 1, 0, 0] c20
theorem ok20_11010 : codeOk p c20_11010 = true := by kernel_rfl
noncomputable def l20_11010 (W : World) (y0 y1 y2 y3 y4 y16 : Value) (S : St) : Out := la W c20_11010 ⟨#[y0, y1, y2, y3, y4, junk, junk, junk, junk, junk, junk, junk, junk, junk, junk, junk, y16], []⟩ S
theorem eq20 (W : World) (x0 : Value) (S : St) : cw W 20 #[x0] S =
 bindO (l20_11010 W x0 undef (.slice none 0 0) (.slice none 0 0) (.int .i64 0) undef S) (kc W c20 [1, 1, 0, 1, 0] f20)
  := (fn_eq Tryd.func20 rfl ok20 _ _).trans (by kernel_rfl)
theorem r20_11010 (W : World) (y0 y1 y2 y3 y4 y16 : Value) (S : St) : l20_11010 W y0 y1 y2 y3 y4 y16 S =
 bindV (aBin p .lss 3 y4 (.int .i64 6)) fun v1 =>
 condK v1
  (
   bindS (aCall p (cw W) S (.func (.func 25) #[] #[]) #[y0, y4]) fun v2 S3 =>
   condK v2
    (
     bindS (aBuildSlice p S3 25 1 #[(0, y4)]) fun v4 S5 =>
     bindS (aBuiltin p W S5 .append #[25, 25] #[y3, v4]) fun v6 S7 =>
     bindV (aBin p .add 3 y4 (.int .i64 1)) fun v8 =>
     l20_11010 W y0 y1 y2 v6 v8 y16 S7
    )
    (
     bindV (aBin p .add 3 y4 (.int .i64 1)) fun v9 =>
     l20_11010 W y0 y1 y2 y3 v9 y16 S3
    )
  )
  (
   some (.exit 0, ⟨#[y0, y1, y2, y3, y4, y4, v1, junk, junk, junk, junk, junk, junk, junk, junk, junk, y16], []⟩, S)
  )
  := (round_eq ok20_11010 ⟨#[y0, y1, y2, y3, y4, junk, junk, junk, junk, junk, junk, junk, junk, junk, junk, junk, y16], []⟩ S).trans (by kernel_rfl)
theorem k20_11010_0 (W : World) (y0 y1 y2 y3 y4 y5 y6 y7 y8 y9 y10 y11 y12 y13 y14 y15 y16 : Value) (S : St) : kc W c20 [1, 1, 0, 1, 0] f20 (.exit 0) ⟨#[y0, y1, y2, y3, y4, y5, y6, y7, y8, y9, y10, y11, y12, y13, y14, y15, y16], []⟩ S =
 some (y3, S)
  := by kernel_rfl
/-! 21 tocsin/mach.listening -/
noncomputable abbrev f21 := Tryd.f21
noncomputable def c21 : Code := bodyOf f21
theorem ok21 : codeOk p c21 = true := by kernel_rfl
theorem eq21 (W : World) (x0 x1 x2 : Value) (S : St) : cw W 21 #[x0, x1, x2] S =
 gcR #[x0, x1, x2] S (
 bindS (aBox S x1) fun v1 S2 =>
 bindS (aBox S2 x2) fun v3 S4 =>
 bindS (aAlloc p S4 36) fun v5 S6 =>
 bindV (aFieldAddr p 32 v3 0) fun v7 =>
 bindV (aLoad p W S6 3 v7) fun v8 =>
 bindV (aBin p .eql 3 v8 (.int .i64 4)) fun v9 =>
 gV v9 true fun g10 =>
 bindV (wO g10 (aFieldAddr p 32 v3 1)) fun v11 =>
 gV v9 true fun g12 =>
 bindV (wO g12 (aLoad p W S6 28 v11)) fun v13 =>
 gV v9 true fun g14 =>
 bindV (wO g14 (aBin p .neq 28 v13 (.int .u32 0))) fun v15 =>
 bindV (aPick v9 v15 (.bool false)) fun v16 =>
 condK v16
  (
   bindV (aFieldAddr p 32 v3 1) fun v17 =>
   bindV (aLoad p W S6 28 v17) fun v18 =>
   bindV (aBuild p 36 #[(0, (.int .i64 3)), (1, v18)]) fun v19 =>
   bindT (aStore p S6 36 v5 v19) fun S20 =>
   bindV (aLoad p W S20 36 v5) fun v21 =>
   some (.tuple #[v21, (.int .i64 3)], S20)
  )
  (
   bindV (aFieldAddr p 32 v3 0) fun v22 =>
   bindV (aLoad p W S6 3 v22) fun v23 =>
   bindV (aBin p .eql 3 v23 (.int .i64 3)) fun v24 =>
   gV v24 true fun g25 =>
   bindV (wO g25 (aFieldAddr p 36 v1 3)) fun v26 =>
   gV v24 true fun g27 =>
   bindV (wO g27 (aLoad p W S6 3 v26)) fun v28 =>
   gV v24 true fun g29 =>
   gV v24 true fun g30 =>
   bindV (wO g30 (aBin p .add 3 (wV g29 x0) (.int .i64 1))) fun v31 =>
   gV v24 true fun g32 =>
   bindV (wO g32 (aBin p .lss 3 v28 v31)) fun v33 =>
   bindV (aPick v24 v33 (.bool false)) fun v34 =>
   condK v34
    (
     bindV (aFieldAddr p 36 v1 3) fun v35 =>
     bindV (aLoad p W S6 3 v35) fun v36 =>
     bindV (aBin p .add 3 v36 (.int .i64 1)) fun v37 =>
     bindV (aFieldAddr p 36 v1 3) fun v38 =>
     bindT (aStore p S6 3 v38 v37) fun S39 =>
     bindV (aLoad p W S39 36 v1) fun v40 =>
     bindT (aStore p S39 36 v5 v40) fun S41 =>
     bindV (aLoad p W S41 36 v5) fun v42 =>
     some (.tuple #[v42, (.int .i64 0)], S41)
    )
    (
     bindV (aFieldAddr p 32 v3 0) fun v43 =>
     bindV (aLoad p W S6 3 v43) fun v44 =>
     bindV (aBin p .eql 3 v44 (.int .i64 3)) fun v45 =>
     condK v45
      (
       bindS (aBuildSlice p S6 25 1 #[(0, x0)]) fun v46 S47 =>
       bindS (aCall p (cw W) S47 (.func (.func 26) #[] #[]) #[v46]) fun v48 S49 =>
       bindV (aBuild p 36 #[(0, (.int .i64 3)), (1, v48)]) fun v50 =>
       bindT (aStore p S49 36 v5 v50) fun S51 =>
       bindV (aLoad p W S51 36 v5) fun v52 =>
       some (.tuple #[v52, (.int .i64 2)], S51)
      )
      (
       bindV (aLoad p W S6 36 v1) fun v53 =>
       bindT (aStore p S6 36 v5 v53) fun S54 =>
       bindV (aLoad p W S54 36 v5) fun v55 =>
       some (.tuple #[v55, (.int .i64 0)], S54)
      )
    )
  )
 )
  := (fn_eq Tryd.func21 rfl ok21 _ _).trans (by kernel_rfl)
/-! 22 tocsin/mach.synced -/
noncomputable abbrev f22 := Tryd.f22
noncomputable def c22 : Code := bodyOf f22
theorem ok22 : codeOk p c22 = true := by kernel_rfl
theorem eq22 (W : World) (x0 x1 : Value) (S : St) : cw W 22 #[x0, x1] S =
 gcR #[x0, x1] S (
 bindS (aBox S x0) fun v1 S2 =>
 bindS (aBox S2 x1) fun v3 S4 =>
 bindS (aAlloc p S4 36) fun v5 S6 =>
 bindV (aFieldAddr p 32 v3 0) fun v7 =>
 bindV (aLoad p W S6 3 v7) fun v8 =>
 bindV (aBin p .eql 3 v8 (.int .i64 3)) fun v9 =>
 gV v9 true fun g10 =>
 bindV (wO g10 (aFieldAddr p 32 v3 1)) fun v11 =>
 gV v9 true fun g12 =>
 bindV (wO g12 (aLoad p W S6 28 v11)) fun v13 =>
 gV v9 true fun g14 =>
 bindV (wO g14 (aBin p .neq 28 v13 (.int .u32 0))) fun v15 =>
 bindV (aPick v9 v15 (.bool false)) fun v16 =>
 condK v16
  (
   bindV (aFieldAddr p 32 v3 1) fun v17 =>
   bindV (aLoad p W S6 28 v17) fun v18 =>
   bindV (aBuild p 36 #[(0, (.int .i64 3)), (1, v18)]) fun v19 =>
   bindT (aStore p S6 36 v5 v19) fun S20 =>
   bindV (aLoad p W S20 36 v5) fun v21 =>
   some (.tuple #[v21, (.int .i64 0)], S20)
  )
  (
   bindV (aFieldAddr p 32 v3 0) fun v22 =>
   bindV (aLoad p W S6 3 v22) fun v23 =>
   bindV (aBin p .eql 3 v23 (.int .i64 3)) fun v24 =>
   gV v24 true fun g25 =>
   bindV (wO g25 (aFieldAddr p 36 v1 2)) fun v26 =>
   gV v24 true fun g27 =>
   bindV (wO g27 (aLoad p W S6 3 v26)) fun v28 =>
   gV v24 true fun g29 =>
   bindV (wO g29 (aBin p .eql 3 v28 (.int .i64 0))) fun v30 =>
   bindV (aPick v24 v30 (.bool false)) fun v31 =>
   condK v31
    (
     bindV (aFieldAddr p 36 v1 2) fun v32 =>
     bindT (aStore p S6 3 v32 (.int .i64 1)) fun S33 =>
     bindV (aLoad p W S33 36 v1) fun v34 =>
     bindT (aStore p S33 36 v5 v34) fun S35 =>
     bindV (aLoad p W S35 36 v5) fun v36 =>
     some (.tuple #[v36, (.int .i64 0)], S35)
    )
    (
     bindV (aFieldAddr p 32 v3 0) fun v37 =>
     bindV (aLoad p W S6 3 v37) fun v38 =>
     bindV (aBin p .eql 3 v38 (.int .i64 3)) fun v39 =>
     condK v39
      (
       condK v39
        (
         bindV (aBuild p 36 #[(0, (.int .i64 2))]) fun v40 =>
         bindT (aStore p S6 36 v5 v40) fun S41 =>
         bindV (aLoad p W S41 36 v5) fun v42 =>
         some (.tuple #[v42, (.int .i64 4)], S41)
        )
        (
         bindV (aLoad p W S6 36 v1) fun v43 =>
         bindT (aStore p S6 36 v5 v43) fun S44 =>
         bindV (aLoad p W S44 36 v5) fun v45 =>
         some (.tuple #[v45, (.int .i64 0)], S44)
        )
      )
      (
       bindV (aFieldAddr p 32 v3 0) fun v46 =>
       bindV (aLoad p W S6 3 v46) fun v47 =>
       bindV (aBin p .eql 3 v47 (.int .i64 4)) fun v48 =>
       gV v48 true fun g49 =>
       bindV (wO g49 (aFieldAddr p 32 v3 1)) fun v50 =>
       gV v48 true fun g51 =>
       bindV (wO g51 (aLoad p W S6 28 v50)) fun v52 =>
       gV v48 true fun g53 =>
       bindV (wO g53 (aFieldAddr p 36 v1 1)) fun v54 =>
       gV v48 true fun g55 =>
       bindV (wO g55 (aLoad p W S6 28 v54)) fun v56 =>
       gV v48 true fun g57 =>
       bindS (wS g57 S6 (aCall p (cw W) S6 (.func (.func 17) #[] #[]) #[v52, v56])) fun v58 S59 =>
       bindV (aPick v48 v58 (.bool false)) fun v60 =>
       condK v60
        (
         bindV (aBuild p 36 #[(0, (.int .i64 2))]) fun v61 =>
         bindT (aStore p S59 36 v5 v61) fun S62 =>
         bindV (aLoad p W S62 36 v5) fun v63 =>
         some (.tuple #[v63, (.int .i64 4)], S62)
        )
        (
         bindV (aLoad p W S59 36 v1) fun v64 =>
         bindT (aStore p S59 36 v5 v64) fun S65 =>
         bindV (aLoad p W S65 36 v5) fun v66 =>
         some (.tuple #[v66, (.int .i64 0)], S65)
        )
      )
    )
  )
 )
  := (fn_eq Tryd.func22 rfl ok22 _ _).trans (by kernel_rfl)
/-! 23 tocsin/crew.Count -/
noncomputable abbrev f23 := Tryd.f23
noncomputable def c23 : Code := bodyOf f23
theorem ok23 : codeOk p c23 = true := by kernel_rfl
theorem eq23 (W : World) (x0 : Value) (S : St) : cw W 23 #[x0] S =
 gcR #[x0] S (
 bindV (aBin p .and 28 x0 (.int .u32 63)) fun v1 =>
 bindS (aCall p (cw W) S (.func (.func 27) #[] #[]) #[v1]) fun v2 S3 =>
 some (v2, S3)
 )
  := (fn_eq Tryd.func23 rfl ok23 _ _).trans (by kernel_rfl)
/-! 24 tocsin/crew.First -/
noncomputable abbrev f24 := Tryd.f24
noncomputable def c24 : Code := bodyOf f24
theorem ok24 : codeOk p c24 = true := by kernel_rfl
theorem eq24 (W : World) (x0 : Value) (S : St) : cw W 24 #[x0] S =
 gcR #[x0] S (
 bindV (aBin p .and 28 x0 (.int .u32 63)) fun v1 =>
 bindV (aBin p .eql 28 v1 (.int .u32 0)) fun v2 =>
 condK v2
  (
   some ((.int .i64 (-1)), S)
  )
  (
   bindS (aCall p (cw W) S (.func (.func 28) #[] #[]) #[x0]) fun v3 S4 =>
   some (v3, S4)
  )
 )
  := (fn_eq Tryd.func24 rfl ok24 _ _).trans (by kernel_rfl)
/-! 25 tocsin/tocsinref07.Has -/
noncomputable abbrev f25 := Tryd.f25
noncomputable def c25 : Code := bodyOf f25
theorem ok25 : codeOk p c25 = true := by kernel_rfl
noncomputable def c25_11010 : Code := codeAt [1, 1, 0, 1, 0, 0] c25
theorem ok25_11010 : codeOk p c25_11010 = true := by kernel_rfl
noncomputable def l25_11010 (W : World) (y0 y1 y2 y3 y4 y5 y6 y7 y8 y9 y10 y11 y19 y20 y21 : Value) (S : St) : Out := la W c25_11010 ⟨#[y0, y1, y2, y3, y4, y5, y6, y7, y8, y9, y10, y11, junk, junk, junk, junk, junk, junk, junk, y19, y20, y21], []⟩ S
theorem eq25 (W : World) (x0 x1 : Value) (S : St) : cw W 25 #[x0, x1] S =
 gcR #[x0, x1] S (
 bindV (aBin p .lss 3 x1 (.int .i64 0)) fun v1 =>
 gV v1 false fun g2 =>
 gV v1 false fun g3 =>
 bindV (wO g3 (aBin p .gtr 3 (wV g2 x1) (.int .i64 5))) fun v4 =>
 bindV (aPick v1 (.bool true) v4) fun v5 =>
 condK v5
  (
   some ((.bool false), S)
  )
  (
   bindO (l25_11010 W x0 x1 undef undef (.bool false) (.int .i64 0) x1 v1 v1 (wV g2 x1) v4 v5 undef undef undef S) (kc W c25 [1, 1, 0, 1, 0] f25)
  )
 )
  := (fn_eq Tryd.func25 rfl ok25 _ _).trans (by kernel_rfl)
theorem r25_11010 (W : World) (y0 y1 y2 y3 y4 y5 y6 y7 y8 y9 y10 y11 y19 y20 y21 : Value) (S : St) : l25_11010 W y0 y1 y2 y3 y4 y5 y6 y7 y8 y9 y10 y11 y19 y20 y21 S =
 bindV (aBin p .lss 3 y5 y1) fun v6 =>
 condK v6
  (
   bindV (aBin p .quo 28 y0 (.int .u32 2)) fun v7 =>
   bindV (aBin p .add 3 y5 (.int .i64 1)) fun v8 =>
   l25_11010 W v7 y1 y2 y3 y4 v8 y6 y7 y8 y9 y10 y11 y19 y20 y21 S
  )
  (
   some (.exit 0, ⟨#[y0, y1, y2, y3, y4, y5, y6, y7, y8, y9, y10, y11, y5, y1, v6, junk, junk, junk, junk, y19, y20, y21], []⟩, S)
  )
  := (round_eq ok25_11010 ⟨#[y0, y1, y2, y3, y4, y5, y6, y7, y8, y9, y10, y11, junk, junk, junk, junk, junk, junk, junk, y19, y20, y21], []⟩ S).trans (by kernel_rfl)
theorem k25_11010_0 (W : World) (y0 y1 y2 y3 y4 y5 y6 y7 y8 y9 y10 y11 y12 y13 y14 y15 y16 y17 y18 y19 y20 y21 : Value) (S : St) : kc W c25 [1, 1, 0, 1, 0] f25 (.exit 0) ⟨#[y0, y1, y2, y3, y4, y5, y6, y7, y8, y9, y10, y11, y12, y13, y14, y15, y16, y17, y18, y19, y20, y21], []⟩ S =
 bindV (aBin p .rem 28 y0 (.int .u32 2)) fun v1 =>
 bindV (aBin p .eql 28 v1 (.int .u32 1)) fun v2 =>
 some (v2, S)
  := by kernel_rfl
/-! 26 tocsin/crew.Of -/
noncomputable abbrev f26 := Tryd.f26
noncomputable def c26 : Code := bodyOf f26
theorem ok26 : codeOk p c26 = true := by kernel_rfl
noncomputable def c26_11010 : Code := codeAt [1, 1, 0, 1, 0, 0] c26
theorem ok26_11010 : codeOk p c26_11010 = true := by kernel_rfl
noncomputable def l26_11010 (W : World) (y0 y1 y2 y3 y4 y6 y7 y8 y24 : Value) (S : St) : Out := la W c26_11010 ⟨#[y0, y1, y2, y3, y4, junk, y6, y7, y8, junk, junk, junk, junk, junk, junk, junk, junk, junk, junk, junk, junk, junk, junk, junk, y24], []⟩ S
theorem eq26 (W : World) (x0 : Value) (S : St) : cw W 26 #[x0] S =
 gcR #[x0] S (
 bindV (aLen p W S #[25] #[x0]) fun v1 =>
 bindO (l26_11010 W x0 undef (.int .u32 0) (.int .u32 0) undef x0 v1 (.int .i64 0) undef S) (kc W c26 [1, 1, 0, 1, 0] f26)
 )
  := (fn_eq Tryd.func26 rfl ok26 _ _).trans (by kernel_rfl)
theorem r26_11010 (W : World) (y0 y1 y2 y3 y4 y6 y7 y8 y24 : Value) (S : St) : l26_11010 W y0 y1 y2 y3 y4 y6 y7 y8 y24 S =
 bindV (aBin p .lss 3 y8 y7) fun v2 =>
 condK v2
  (
   bindV (aIndexAddr p 25 y6 y8) fun v3 =>
   bindV (aLoad p W S 3 v3) fun v4 =>
   bindV (aBin p .geq 3 v4 (.int .i64 0)) fun v5 =>
   gV v5 true fun g6 =>
   gV v5 true fun g7 =>
   bindV (wO g7 (aBin p .lss 3 (wV g6 v4) (.int .i64 6))) fun v8 =>
   bindV (aPick v5 v8 (.bool false)) fun v9 =>
   condK v9
    (
     bindS (aConv p W S 3 56 v4) fun v10 S11 =>
     bindV (aBin p .shl 28 (.int .u32 1) v10) fun v12 =>
     bindV (aBin p .or 28 y3 v12) fun v13 =>
     bindV (aBin p .add 3 y8 (.int .i64 1)) fun v14 =>
     l26_11010 W y0 y1 y2 v13 y4 y6 y7 v14 y24 S11
    )
    (
     bindV (aBin p .add 3 y8 (.int .i64 1)) fun v15 =>
     l26_11010 W y0 y1 y2 y3 y4 y6 y7 v15 y24 S
    )
  )
  (
   some (.exit 0, ⟨#[y0, y1, y2, y3, y4, junk, y6, y7, y8, v2, junk, junk, junk, junk, junk, junk, junk, junk, junk, junk, junk, junk, junk, junk, y24], []⟩, S)
  )
  := (round_eq ok26_11010 ⟨#[y0, y1, y2, y3, y4, junk, y6, y7, y8, junk, junk, junk, junk, junk, junk, junk, junk, junk, junk, junk, junk, junk, junk, junk, y24], []⟩ S).trans (by kernel_rfl)
theorem k26_11010_0 (W : World) (y0 y1 y2 y3 y4 y5 y6 y7 y8 y9 y10 y11 y12 y13 y14 y15 y16 y17 y18 y19 y20 y21 y22 y23 y24 : Value) (S : St) : kc W c26 [1, 1, 0, 1, 0] f26 (.exit 0) ⟨#[y0, y1, y2, y3, y4, y5, y6, y7, y8, y9, y10, y11, y12, y13, y14, y15, y16, y17, y18, y19, y20, y21, y22, y23, y24], []⟩ S =
 some (y3, S)
  := by kernel_rfl
/-! 27 math/bits.OnesCount32 -/
noncomputable abbrev f27 := Tryd.f27
noncomputable def c27 : Code := bodyOf f27
theorem ok27 : codeOk p c27 = true := by kernel_rfl
theorem eq27 (W : World) (x0 : Value) (S : St) : cw W 27 #[x0] S =
 gcR #[x0] S (
 bindV (aBin p .shr 28 x0 (.int .u64 24)) fun v1 =>
 bindV (still p (Instr.index 9 (.string { data := (List.toArray (List.append (List.append [0, 1, 1, 2, 1, 2, 2, 3, 1, 2, 2, 3, 2, 3, 3, 4, 1, 2, 2, 3, 2, 3, 3, 4, 2, 3, 3, 4, 3, 4, 4, 5, 1, 2, 2, 3, 2, 3, 3, 4, 2, 3, 3, 4, 3, 4, 4, 5, 2, 3, 3, 4, 3, 4, 4, 5, 3, 4, 4, 5, 4, 5, 5, 6] [1, 2, 2, 3, 2, 3, 3, 4, 2, 3, 3, 4, 3, 4, 4, 5, 2, 3, 3, 4, 3, 4, 4, 5, 3, 4, 4, 5, 4, 5, 5, 6, 2, 3, 3, 4, 3, 4, 4, 5, 3, 4, 4, 5, 4, 5, 5, 6, 3, 4, 4, 5, 4, 5, 5, 6, 4, 5, 5, 6, 5, 6, 6, 7]) (List.append [1, 2, 2, 3, 2, 3, 3, 4, 2, 3, 3, 4, 3, 4, 4, 5, 2, 3, 3, 4, 3, 4, 4, 5, 3, 4, 4, 5, 4, 5, 5, 6, 2, 3, 3, 4, 3, 4, 4, 5, 3, 4, 4, 5, 4, 5, 5, 6, 3, 4, 4, 5, 4, 5, 5, 6, 4, 5, 5, 6, 5, 6, 6, 7] [2, 3, 3, 4, 3, 4, 4, 5, 3, 4, 4, 5, 4, 5, 5, 6, 3, 4, 4, 5, 4, 5, 5, 6, 4, 5, 5, 6, 5, 6, 6, 7, 3, 4, 4, 5, 4, 5, 5, 6, 4, 5, 5, 6, 5, 6, 6, 7, 4, 5, 5, 6, 5, 6, 6, 7, 5, 6, 6, 7, 6, 7, 7, 8]))) }) v1)) fun v2 =>
 bindV (aBin p .shr 28 x0 (.int .u64 16)) fun v3 =>
 bindV (aBin p .and 28 v3 (.int .u32 255)) fun v4 =>
 bindV (still p (Instr.index 9 (.string { data := (List.toArray (List.append (List.append [0, 1, 1, 2, 1, 2, 2, 3, 1, 2, 2, 3, 2, 3, 3, 4, 1, 2, 2, 3, 2, 3, 3, 4, 2, 3, 3, 4, 3, 4, 4, 5, 1, 2, 2, 3, 2, 3, 3, 4, 2, 3, 3, 4, 3, 4, 4, 5, 2, 3, 3, 4, 3, 4, 4, 5, 3, 4, 4, 5, 4, 5, 5, 6] [1, 2, 2, 3, 2, 3, 3, 4, 2, 3, 3, 4, 3, 4, 4, 5, 2, 3, 3, 4, 3, 4, 4, 5, 3, 4, 4, 5, 4, 5, 5, 6, 2, 3, 3, 4, 3, 4, 4, 5, 3, 4, 4, 5, 4, 5, 5, 6, 3, 4, 4, 5, 4, 5, 5, 6, 4, 5, 5, 6, 5, 6, 6, 7]) (List.append [1, 2, 2, 3, 2, 3, 3, 4, 2, 3, 3, 4, 3, 4, 4, 5, 2, 3, 3, 4, 3, 4, 4, 5, 3, 4, 4, 5, 4, 5, 5, 6, 2, 3, 3, 4, 3, 4, 4, 5, 3, 4, 4, 5, 4, 5, 5, 6, 3, 4, 4, 5, 4, 5, 5, 6, 4, 5, 5, 6, 5, 6, 6, 7] [2, 3, 3, 4, 3, 4, 4, 5, 3, 4, 4, 5, 4, 5, 5, 6, 3, 4, 4, 5, 4, 5, 5, 6, 4, 5, 5, 6, 5, 6, 6, 7, 3, 4, 4, 5, 4, 5, 5, 6, 4, 5, 5, 6, 5, 6, 6, 7, 4, 5, 5, 6, 5, 6, 6, 7, 5, 6, 6, 7, 6, 7, 7, 8]))) }) v4)) fun v5 =>
 bindV (aBin p .add 5 v2 v5) fun v6 =>
 bindV (aBin p .shr 28 x0 (.int .u64 8)) fun v7 =>
 bindV (aBin p .and 28 v7 (.int .u32 255)) fun v8 =>
 bindV (still p (Instr.index 9 (.string { data := (List.toArray (List.append (List.append [0, 1, 1, 2, 1, 2, 2, 3, 1, 2, 2, 3, 2, 3, 3, 4, 1, 2, 2, 3, 2, 3, 3, 4, 2, 3, 3, 4, 3, 4, 4, 5, 1, 2, 2, 3, 2, 3, 3, 4, 2, 3, 3, 4, 3, 4, 4, 5, 2, 3, 3, 4, 3, 4, 4, 5, 3, 4, 4, 5, 4, 5, 5, 6] [1, 2, 2, 3, 2, 3, 3, 4, 2, 3, 3, 4, 3, 4, 4, 5, 2, 3, 3, 4, 3, 4, 4, 5, 3, 4, 4, 5, 4, 5, 5, 6, 2, 3, 3, 4, 3, 4, 4, 5, 3, 4, 4, 5, 4, 5, 5, 6, 3, 4, 4, 5, 4, 5, 5, 6, 4, 5, 5, 6, 5, 6, 6, 7]) (List.append [1, 2, 2, 3, 2, 3, 3, 4, 2, 3, 3, 4, 3, 4, 4, 5, 2, 3, 3, 4, 3, 4, 4, 5, 3, 4, 4, 5, 4, 5, 5, 6, 2, 3, 3, 4, 3, 4, 4, 5, 3, 4, 4, 5, 4, 5, 5, 6, 3, 4, 4, 5, 4, 5, 5, 6, 4, 5, 5, 6, 5, 6, 6, 7] [2, 3, 3, 4, 3, 4, 4, 5, 3, 4, 4, 5, 4, 5, 5, 6, 3, 4, 4, 5, 4, 5, 5, 6, 4, 5, 5, 6, 5, 6, 6, 7, 3, 4, 4, 5, 4, 5, 5, 6, 4, 5, 5, 6, 5, 6, 6, 7, 4, 5, 5, 6, 5, 6, 6, 7, 5, 6, 6, 7, 6, 7, 7, 8]))) }) v8)) fun v9 =>
 bindV (aBin p .add 5 v6 v9) fun v10 =>
 bindV (aBin p .and 28 x0 (.int .u32 255)) fun v11 =>
 bindV (still p (Instr.index 9 (.string { data := (List.toArray (List.append (List.append [0, 1, 1, 2, 1, 2, 2, 3, 1, 2, 2, 3, 2, 3, 3, 4, 1, 2, 2, 3, 2, 3, 3, 4, 2, 3, 3, 4, 3, 4, 4, 5, 1, 2, 2, 3, 2, 3, 3, 4, 2, 3, 3, 4, 3, 4, 4, 5, 2, 3, 3, 4, 3, 4, 4, 5, 3, 4, 4, 5, 4, 5, 5, 6] [1, 2, 2, 3, 2, 3, 3, 4, 2, 3, 3, 4, 3, 4, 4, 5, 2, 3, 3, 4, 3, 4, 4, 5, 3, 4, 4, 5, 4, 5, 5, 6, 2, 3, 3, 4, 3, 4, 4, 5, 3, 4, 4, 5, 4, 5, 5, 6, 3, 4, 4, 5, 4, 5, 5, 6, 4, 5, 5, 6, 5, 6, 6, 7]) (List.append [1, 2, 2, 3, 2, 3, 3, 4, 2, 3, 3, 4, 3, 4, 4, 5, 2, 3, 3, 4, 3, 4, 4, 5, 3, 4, 4, 5, 4, 5, 5, 6, 2, 3, 3, 4, 3, 4, 4, 5, 3, 4, 4, 5, 4, 5, 5, 6, 3, 4, 4, 5, 4, 5, 5, 6, 4, 5, 5, 6, 5, 6, 6, 7] [2, 3, 3, 4, 3, 4, 4, 5, 3, 4, 4, 5, 4, 5, 5, 6, 3, 4, 4, 5, 4, 5, 5, 6, 4, 5, 5, 6, 5, 6, 6, 7, 3, 4, 4, 5, 4, 5, 5, 6, 4, 5, 5, 6, 5, 6, 6, 7, 4, 5, 5, 6, 5, 6, 6, 7, 5, 6, 6, 7, 6, 7, 7, 8]))) }) v11)) fun v12 =>
 bindV (aBin p .add 5 v10 v12) fun v13 =>
 bindS (aConv p W S 5 3 v13) fun v14 S15 =>
 some (v14, S15)
 )
  := (fn_eq Tryd.func27 rfl ok27 _ _).trans (by kernel_rfl)
/-! 28 math/bits.TrailingZeros32 -/
noncomputable abbrev f28 := Tryd.f28
noncomputable def c28 : Code := bodyOf f28
theorem ok28 : codeOk p c28 = true := by kernel_rfl
theorem eq28 (W : World) (x0 : Value) (S : St) : cw W 28 #[x0] S =
 gcR #[x0] S (
 bindV (aBin p .eql 28 x0 (.int .u32 0)) fun v1 =>
 condK v1
  (
   some ((.int .i64 32), S)
  )
  (
   bindV (aUn p .neg x0) fun v2 =>
   bindV (aBin p .and 28 x0 v2) fun v3 =>
   bindV (aBin p .mul 28 v3 (.int .u32 125613361)) fun v4 =>
   bindV (aBin p .shr 28 v4 (.int .u64 27)) fun v5 =>
   bindV (aIndexAddr p 57 (.pointer (some ⟨0, 0, none⟩)) v5) fun v6 =>
   bindV (aLoad p W S 5 v6) fun v7 =>
   bindS (aConv p W S 5 3 v7) fun v8 S9 =>
   some (v8, S9)
  )
 )
  := (fn_eq Tryd.func28 rfl ok28 _ _).trans (by kernel_rfl)
end Go.Proofs.YtnnajiaaakkjfaaDoor.F
