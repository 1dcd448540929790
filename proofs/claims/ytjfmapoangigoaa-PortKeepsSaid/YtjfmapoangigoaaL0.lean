/- The functions' texts, laid out by a program for this claim. -/
import Derived.Test.YtjfmapoangigoaaE20
import Derived.Test.YtjfmapoangigoaaProg
namespace Go.Proofs.Ytjfmapoangigoaa.F
open Go Go.Proofs.Ytjfmapoangigoaa.E
set_option linter.unusedVariables false
set_option maxRecDepth 100000
noncomputable abbrev p : Program := Try.prog
noncomputable abbrev cw (W : World) : Caller := callW p W
noncomputable abbrev la (W : World) (c : Code) (A : Act) (S : St) : Out := loopAt p W (cw W) loopW c A S
noncomputable abbrev kc (W : World) (c : Code) (q : List Nat) (fn : Func) : Exit → Act → St → Option (Value × St) := contK p W (cw W) loopW q c (finK p W fn)
noncomputable abbrev rk (W : World) (c : Code) (q : List Nat) : Exit → Act → St → Out := contK p W (cw W) loopW q c (roundK p W (cw W) loopW c)
/-! 8 tocsin/port.New -/
noncomputable abbrev f8 := Try.f8
noncomputable def c8 : Code := bodyOf f8
theorem ok8 : codeOk p c8 = true := by kernel_rfl
theorem eq8 (W : World) (x0 : Value) (S : St) : cw W 8 #[x0] S =
 bindV (aBin p .lss 3 x0 (.int .i64 1)) fun v1 =>
 gV v1 false fun g2 =>
 gV v1 false fun g3 =>
 bindV (wO g3 (aBin p .gtr 3 (wV g2 x0) (.int .i64 64))) fun v4 =>
 bindV (aPick v1 (.bool true) v4) fun v5 =>
 condK v5
  (
   some (.tuple #[(.pointer none), (.int .i64 1)], S)
  )
  (
   bindV (aBuild p 49 #[(0, x0)]) fun v6 =>
   bindS (aBox S v6) fun v7 S8 =>
   some (.tuple #[v7, (.int .i64 0)], S8)
  )
  := (fn_eq Try.func8 rfl ok8 _ _).trans (by kernel_rfl)
/-! 17 (*tocsin/port.Port).Len -/
noncomputable abbrev f17 := Try.f17
noncomputable def c17 : Code := bodyOf f17
theorem ok17 : codeOk p c17 = true := by kernel_rfl
theorem eq17 (W : World) (x0 : Value) (S : St) : cw W 17 #[x0] S =
 bindV (aBin p .eql 24 x0 (.pointer none)) fun v1 =>
 condK v1
  (
   some ((.int .i64 0), S)
  )
  (
   bindV (aNil x0) fun v2 =>
   bindV (aFieldAddr p 49 v2 2) fun v3 =>
   bindV (aLoad p W S 28 v3) fun v4 =>
   bindV (aLen p W S #[28] #[v4]) fun v5 =>
   bindV (aNil x0) fun v6 =>
   bindV (aFieldAddr p 49 v6 3) fun v7 =>
   bindV (aLoad p W S 28 v7) fun v8 =>
   bindV (aLen p W S #[28] #[v8]) fun v9 =>
   bindV (aBin p .add 3 v5 v9) fun v10 =>
   some (v10, S)
  )
  := (fn_eq Try.func17 rfl ok17 _ _).trans (by kernel_rfl)
/-! 25 tocsin/frame.within -/
noncomputable abbrev f25 := Try.f25
noncomputable def c25 : Code := bodyOf f25
theorem ok25 : codeOk p c25 = true := by kernel_rfl
theorem eq25 (W : World) (x0 x1 x2 : Value) (S : St) : cw W 25 #[x0, x1, x2] S =
 bindV (aBin p .geq 2 x0 x1) fun v1 =>
 gV v1 true fun g2 =>
 gV v1 true fun g3 =>
 gV v1 true fun g4 =>
 bindV (wO g4 (aBin p .leq 2 (wV g2 x0) (wV g3 x2))) fun v5 =>
 bindV (aPick v1 v5 (.bool false)) fun v6 =>
 some (v6, S)
  := (fn_eq Try.func25 rfl ok25 _ _).trans (by kernel_rfl)
/-! 22 tocsin/frame.rightData -/
noncomputable abbrev f22 := Try.f22
noncomputable def c22 : Code := bodyOf f22
theorem ok22 : codeOk p c22 = true := by kernel_rfl
theorem eq22 (W : World) (x0 : Value) (S : St) : cw W 22 #[x0] S =
 bindS (aBox S x0) fun v1 S2 =>
 bindV (aFieldAddr p 30 v1 0) fun v3 =>
 bindV (aLoad p W S2 3 v3) fun v4 =>
 bindS (aCall p (cw W) S2 (.func (.func 25) #[] #[]) #[v4, (.int .i64 1), (.int .i64 3)]) fun v5 S6 =>
 gV v5 true fun g7 =>
 bindV (wO g7 (aFieldAddr p 30 v1 1)) fun v8 =>
 gV v5 true fun g9 =>
 bindV (wO g9 (aLoad p W S6 3 v8)) fun v10 =>
 gV v5 true fun g11 =>
 bindS (wS g11 S6 (aCall p (cw W) S6 (.func (.func 25) #[] #[]) #[v10, (.int .i64 0), (.int .i64 255)])) fun v12 S13 =>
 bindV (aPick v5 v12 (.bool false)) fun v14 =>
 gV v14 true fun g15 =>
 bindV (wO g15 (aFieldAddr p 30 v1 2)) fun v16 =>
 gV v14 true fun g17 =>
 bindV (wO g17 (aLoad p W S13 3 v16)) fun v18 =>
 gV v14 true fun g19 =>
 bindS (wS g19 S13 (aCall p (cw W) S13 (.func (.func 25) #[] #[]) #[v18, (.int .i64 0), (.int .i64 2147483647)])) fun v20 S21 =>
 bindV (aPick v14 v20 (.bool false)) fun v22 =>
 gV v22 true fun g23 =>
 bindV (wO g23 (aFieldAddr p 30 v1 4)) fun v24 =>
 gV v22 true fun g25 =>
 bindV (wO g25 (aLoad p W S21 3 v24)) fun v26 =>
 gV v22 true fun g27 =>
 bindS (wS g27 S21 (aCall p (cw W) S21 (.func (.func 25) #[] #[]) #[v26, (.int .i64 64), (.int .i64 1518)])) fun v28 S29 =>
 bindV (aPick v22 v28 (.bool false)) fun v30 =>
 gV v30 true fun g31 =>
 bindV (wO g31 (aFieldAddr p 30 v1 3)) fun v32 =>
 gV v30 true fun g33 =>
 bindV (wO g33 (aLoad p W S29 9 v32)) fun v34 =>
 gV v30 true fun g35 =>
 bindV (wO g35 (aLen p W S29 #[9] #[v34])) fun v36 =>
 gV v30 true fun g37 =>
 bindV (wO g37 (aFieldAddr p 30 v1 4)) fun v38 =>
 gV v30 true fun g39 =>
 bindV (wO g39 (aLoad p W S29 3 v38)) fun v40 =>
 gV v30 true fun g41 =>
 bindV (wO g41 (aBin p .sub 3 v40 (.int .i64 10))) fun v42 =>
 gV v30 true fun g43 =>
 bindV (wO g43 (aBin p .sub 3 v42 (.int .i64 4))) fun v44 =>
 gV v30 true fun g45 =>
 bindV (wO g45 (aBin p .leq 3 v36 v44)) fun v46 =>
 bindV (aPick v30 v46 (.bool false)) fun v47 =>
 some (v47, S29)
  := (fn_eq Try.func22 rfl ok22 _ _).trans (by kernel_rfl)
/-! 23 tocsin/frame.put -/
noncomputable abbrev f23 := Try.f23
noncomputable def c23 : Code := bodyOf f23
theorem ok23 : codeOk p c23 = true := by kernel_rfl
noncomputable def c23_1010 : Code := codeAt [1, 0, 1, 0, 0] c23
theorem ok23_1010 : codeOk p c23_1010 = true := by kernel_rfl
theorem eq23 (W : World) (x0 x1 x2 : Value) (S : St) : cw W 23 #[x0, x1, x2] S =
 bindV (aBin p .sub 3 x2 (.int .i64 1)) fun v1 =>
 bindO (la W c23_1010 ⟨#[x0, x1, x2, undef, undef, undef, (.slice none 0 0), v1, x2, v1, undef, undef, undef, undef, undef, undef, undef, undef, undef, undef, undef, undef, undef, undef], []⟩ S) (kc W c23 [1, 0, 1, 0] f23)
  := (fn_eq Try.func23 rfl ok23 _ _).trans (by kernel_rfl)
theorem r23_1010 (W : World) (y0 y1 y2 y3 y4 y5 y6 y7 y8 y9 y10 y11 y12 y13 y14 y15 y16 y17 y18 y19 y20 y21 y22 y23 : Value) (S : St) : la W c23_1010 ⟨#[y0, y1, y2, y3, y4, y5, y6, y7, y8, y9, y10, y11, y12, y13, y14, y15, y16, y17, y18, y19, y20, y21, y22, y23], []⟩ S =
 bindV (aBin p .geq 3 y7 (.int .i64 0)) fun v2 =>
 condK v2
  (
   bindV (aBin p .mul 3 (.int .i64 8) y7) fun v3 =>
   bindS (aConv p W S 3 59 v3) fun v4 S5 =>
   bindV (aBin p .shr 56 y1 v4) fun v6 =>
   bindS (aConv p W S5 56 5 v6) fun v7 S8 =>
   bindS (aBuildSlice p S8 50 1 #[(0, v7)]) fun v9 S10 =>
   bindS (aBuiltin p W S10 .append #[50, 50] #[y0, v9]) fun v11 S12 =>
   bindV (aBin p .sub 3 y7 (.int .i64 1)) fun v13 =>
   la W c23_1010 ⟨#[v11, y1, y2, y3, y4, y5, y6, v13, y8, y9, y7, v2, y7, v13, y0, y1, y7, v3, v4, v6, v7, v9, v11, y23], []⟩ S12
  )
  (
   some (.exit 0, ⟨#[y0, y1, y2, y3, y4, y5, y6, y7, y8, y9, y7, v2, junk, junk, junk, junk, junk, junk, junk, junk, junk, junk, junk, y23], []⟩, S)
  )
  := (round_eq ok23_1010 _ _).trans (by kernel_rfl)
theorem k23_1010_0 (W : World) (y0 y1 y2 y3 y4 y5 y6 y7 y8 y9 y10 y11 y12 y13 y14 y15 y16 y17 y18 y19 y20 y21 y22 y23 : Value) (S : St) : kc W c23 [1, 0, 1, 0] f23 (.exit 0) ⟨#[y0, y1, y2, y3, y4, y5, y6, y7, y8, y9, y10, y11, y12, y13, y14, y15, y16, y17, y18, y19, y20, y21, y22, y23], []⟩ S =
 some (y0, S)
  := by kernel_rfl
/-! 26 tocsin/frame.Sum -/
noncomputable abbrev f26 := Try.f26
noncomputable def c26 : Code := bodyOf f26
theorem ok26 : codeOk p c26 = true := by kernel_rfl
noncomputable def c26_11010 : Code := codeAt [1, 1, 0, 1, 0, 0] c26
theorem ok26_11010 : codeOk p c26_11010 = true := by kernel_rfl
noncomputable def c26_11010011001110 : Code := codeAt [1, 1, 0, 1, 0, 0, 1, 1, 0, 0, 1, 1, 1, 0, 0] c26
theorem ok26_11010011001110 : codeOk p c26_11010011001110 = true := by kernel_rfl
theorem eq26 (W : World) (x0 : Value) (S : St) : cw W 26 #[x0] S =
 bindV (aLen p W S #[50] #[x0]) fun v1 =>
 bindO (la W c26_11010 ⟨#[x0, undef, (.int .u32 0), (.int .u32 4294967295), undef, undef, undef, x0, v1, (.int .i64 0), undef, undef, undef, undef, undef, undef, undef, undef, undef, undef, undef, undef, undef, undef, undef, undef, undef, undef, undef, undef, undef], []⟩ S) (kc W c26 [1, 1, 0, 1, 0] f26)
  := (fn_eq Try.func26 rfl ok26 _ _).trans (by kernel_rfl)
theorem r26_11010 (W : World) (y0 y1 y2 y3 y4 y5 y6 y7 y8 y9 y10 y11 y12 y13 y14 y15 y16 y17 y18 y19 y20 y21 y22 y23 y24 y25 y26 y27 y28 y29 y30 : Value) (S : St) : la W c26_11010 ⟨#[y0, y1, y2, y3, y4, y5, y6, y7, y8, y9, y10, y11, y12, y13, y14, y15, y16, y17, y18, y19, y20, y21, y22, y23, y24, y25, y26, y27, y28, y29, y30], []⟩ S =
 bindV (aBin p .lss 3 y9 y8) fun v2 =>
 condK v2
  (
   bindV (aIndexAddr p 50 y7 y9) fun v3 =>
   bindV (aLoad p W S 5 v3) fun v4 =>
   bindS (aConv p W S 5 60 v4) fun v5 S6 =>
   bindV (aBin p .xor 60 y3 v5) fun v7 =>
   bindO (la W c26_11010011001110 ⟨#[y0, y1, y2, v7, y4, v4, junk, y7, y8, y9, v2, v3, v4, y3, v4, v5, v7, (.int .i64 0), junk, junk, junk, junk, junk, junk, junk, junk, junk, junk, junk, y29, y30], []⟩ S6) (rk W c26_11010 [1, 1, 0, 0, 1, 1, 1, 0])
  )
  (
   some (.exit 0, ⟨#[y0, y1, y2, y3, y4, junk, junk, y7, y8, y9, v2, junk, junk, junk, junk, junk, junk, junk, junk, junk, junk, junk, junk, junk, junk, junk, junk, junk, junk, y29, y30], []⟩, S)
  )
  := (round_eq ok26_11010 _ _).trans (by kernel_rfl)
theorem r26_11010011001110 (W : World) (y0 y1 y2 y3 y4 y5 y6 y7 y8 y9 y10 y11 y12 y13 y14 y15 y16 y17 y18 y19 y20 y21 y22 y23 y24 y25 y26 y27 y28 y29 y30 : Value) (S : St) : la W c26_11010011001110 ⟨#[y0, y1, y2, y3, y4, y5, y6, y7, y8, y9, y10, y11, y12, y13, y14, y15, y16, y17, y18, y19, y20, y21, y22, y23, y24, y25, y26, y27, y28, y29, y30], []⟩ S =
 bindV (aBin p .lss 3 y17 (.int .i64 8)) fun v8 =>
 condK v8
  (
   bindV (aBin p .and 60 y3 (.int .u32 1)) fun v9 =>
   bindV (aBin p .shr 60 y3 (.int .u64 1)) fun v10 =>
   bindV (aBin p .eql 60 v9 (.int .u32 1)) fun v11 =>
   condK v11
    (
     bindV (aBin p .xor 60 v10 (.int .u32 3988292384)) fun v12 =>
     bindV (aBin p .add 3 y17 (.int .i64 1)) fun v13 =>
     la W c26_11010011001110 ⟨#[y0, y1, y2, v12, y4, y5, v9, y7, y8, y9, y10, y11, y12, y13, y14, y15, y16, v13, v8, y3, v9, y3, v10, v9, v11, v10, v12, v13, y28, y29, y30], []⟩ S
    )
    (
     bindV (aBin p .add 3 y17 (.int .i64 1)) fun v14 =>
     la W c26_11010011001110 ⟨#[y0, y1, y2, v10, y4, y5, v9, y7, y8, y9, y10, y11, y12, y13, y14, y15, y16, v14, v8, y3, v9, y3, v10, v9, v11, junk, junk, v14, y28, y29, y30], []⟩ S
    )
  )
  (
   some (.exit 2, ⟨#[y0, y1, y2, y3, y4, y5, junk, y7, y8, y9, y10, y11, y12, y13, y14, y15, y16, y17, v8, junk, junk, junk, junk, junk, junk, junk, junk, junk, y28, y29, y30], []⟩, S)
  )
  := (round_eq ok26_11010011001110 _ _).trans (by kernel_rfl)
theorem k26_11010_0 (W : World) (y0 y1 y2 y3 y4 y5 y6 y7 y8 y9 y10 y11 y12 y13 y14 y15 y16 y17 y18 y19 y20 y21 y22 y23 y24 y25 y26 y27 y28 y29 y30 : Value) (S : St) : kc W c26 [1, 1, 0, 1, 0] f26 (.exit 0) ⟨#[y0, y1, y2, y3, y4, y5, y6, y7, y8, y9, y10, y11, y12, y13, y14, y15, y16, y17, y18, y19, y20, y21, y22, y23, y24, y25, y26, y27, y28, y29, y30], []⟩ S =
 bindV (aUn p .xor y3) fun v1 =>
 some (v1, S)
  := by kernel_rfl
theorem k26_11010011001110_2 (W : World) (y0 y1 y2 y3 y4 y5 y6 y7 y8 y9 y10 y11 y12 y13 y14 y15 y16 y17 y18 y19 y20 y21 y22 y23 y24 y25 y26 y27 y28 y29 y30 : Value) (S : St) : rk W c26_11010 [1, 1, 0, 0, 1, 1, 1, 0] (.exit 2) ⟨#[y0, y1, y2, y3, y4, y5, y6, y7, y8, y9, y10, y11, y12, y13, y14, y15, y16, y17, y18, y19, y20, y21, y22, y23, y24, y25, y26, y27, y28, y29, y30], []⟩ S =
 bindV (aBin p .add 3 y9 (.int .i64 1)) fun v1 =>
 la W c26_11010 ⟨#[y0, y1, y2, y3, y4, y5, y6, y7, y8, v1, y10, y11, y12, y13, y14, y15, y16, y17, y18, y19, y20, y21, y22, y23, y24, y25, y26, y27, v1, y29, y30], []⟩ S
  := by kernel_rfl
/-! 24 tocsin/frame.sealed -/
noncomputable abbrev f24 := Try.f24
noncomputable def c24 : Code := bodyOf f24
theorem ok24 : codeOk p c24 = true := by kernel_rfl
theorem eq24 (W : World) (x0 : Value) (S : St) : cw W 24 #[x0] S =
 bindS (aCall p (cw W) S (.func (.func 26) #[] #[]) #[x0]) fun v1 S2 =>
 bindS (aConv p W S2 60 56 v1) fun v3 S4 =>
 bindS (aCall p (cw W) S4 (.func (.func 23) #[] #[]) #[x0, v3, (.int .i64 4)]) fun v5 S6 =>
 some (v5, S6)
  := (fn_eq Try.func24 rfl ok24 _ _).trans (by kernel_rfl)
/-! 20 tocsin/frame.Data -/
noncomputable abbrev f20 := Try.f20
noncomputable def c20 : Code := bodyOf f20
theorem ok20 : codeOk p c20 = true := by kernel_rfl
theorem eq20 (W : World) (x0 : Value) (S : St) : cw W 20 #[x0] S =
 bindS (aBox S x0) fun v1 S2 =>
 bindV (aLoad p W S2 30 v1) fun v3 =>
 bindS (aCall p (cw W) S2 (.func (.func 22) #[] #[]) #[v3]) fun v4 S5 =>
 bindV (aUn p .not v4) fun v6 =>
 condK v6
  (
   some (.tuple #[(.slice none 0 0), (.int .i64 1)], S5)
  )
  (
   bindV (aFieldAddr p 30 v1 0) fun v7 =>
   bindV (aLoad p W S5 3 v7) fun v8 =>
   bindS (aConv p W S5 3 5 v8) fun v9 S10 =>
   bindV (aFieldAddr p 30 v1 1) fun v11 =>
   bindV (aLoad p W S10 3 v11) fun v12 =>
   bindS (aConv p W S10 3 5 v12) fun v13 S14 =>
   bindS (aBuildSlice p S14 50 4 #[(0, (.int .u8 8)), (1, (.int .u8 0)), (2, v9), (3, v13)]) fun v15 S16 =>
   bindV (aFieldAddr p 30 v1 2) fun v17 =>
   bindV (aLoad p W S16 3 v17) fun v18 =>
   bindS (aConv p W S16 3 56 v18) fun v19 S20 =>
   bindS (aCall p (cw W) S20 (.func (.func 23) #[] #[]) #[v15, v19, (.int .i64 4)]) fun v21 S22 =>
   bindV (aFieldAddr p 30 v1 3) fun v23 =>
   bindV (aLoad p W S22 9 v23) fun v24 =>
   bindV (aLen p W S22 #[9] #[v24]) fun v25 =>
   bindS (aConv p W S22 3 56 v25) fun v26 S27 =>
   bindS (aCall p (cw W) S27 (.func (.func 23) #[] #[]) #[v21, v26, (.int .i64 2)]) fun v28 S29 =>
   bindV (aFieldAddr p 30 v1 3) fun v30 =>
   bindV (aLoad p W S29 9 v30) fun v31 =>
   bindS (aBuiltin p W S29 .append #[50, 9] #[v28, v31]) fun v32 S33 =>
   bindV (aFieldAddr p 30 v1 4) fun v34 =>
   bindV (aLoad p W S33 3 v34) fun v35 =>
   bindV (aBin p .sub 3 v35 (.int .i64 4)) fun v36 =>
   bindV (aLen p W S33 #[50] #[v32]) fun v37 =>
   bindV (aBin p .sub 3 v36 v37) fun v38 =>
   bindS (aBuiltin p W S33 .append #[50, 3] #[v32, v38]) fun v39 S40 =>
   bindS (aCall p (cw W) S40 (.func (.func 24) #[] #[]) #[v39]) fun v41 S42 =>
   some (.tuple #[v41, (.int .i64 0)], S42)
  )
  := (fn_eq Try.func20 rfl ok20 _ _).trans (by kernel_rfl)
/-! 11 (*tocsin/port.Port).Offer -/
noncomputable abbrev f11 := Try.f11
noncomputable def c11 : Code := bodyOf f11
theorem ok11 : codeOk p c11 = true := by kernel_rfl
theorem eq11 (W : World) (x0 x1 : Value) (S : St) : cw W 11 #[x0, x1] S =
 bindS (aBox S x1) fun v1 S2 =>
 bindV (aLoad p W S2 30 v1) fun v3 =>
 bindS (aCall p (cw W) S2 (.func (.func 20) #[] #[]) #[v3]) fun v4 S5 =>
 bindV (still p (Instr.extract v4 0)) fun v6 =>
 bindV (still p (Instr.extract v4 1)) fun v7 =>
 bindV (aBin p .eql 24 x0 (.pointer none)) fun v8 =>
 gV v8 false fun g9 =>
 gV v8 false fun g10 =>
 bindV (wO g10 (aBin p .neq 25 (wV g9 v7) (.int .i64 0))) fun v11 =>
 bindV (aPick v8 (.bool true) v11) fun v12 =>
 gV v12 false fun g13 =>
 bindV (wO g13 (aFieldAddr p 30 v1 0)) fun v14 =>
 gV v12 false fun g15 =>
 bindV (wO g15 (aLoad p W S5 3 v14)) fun v16 =>
 gV v12 false fun g17 =>
 bindV (wO g17 (aBin p .eql 3 v16 (.int .i64 1))) fun v18 =>
 bindV (aPick v12 (.bool true) v18) fun v19 =>
 condK v19
  (
   some ((.int .i64 1), S5)
  )
  (
   bindS (qS true S5 fun S_ => aCall p (cw W) S_ (.func (.func 17) #[] #[]) #[x0]) fun v20 S21 =>
   bindV (aNil x0) fun v22 =>
   bindV (aFieldAddr p 49 v22 0) fun v23 =>
   bindV (aLoad p W S21 3 v23) fun v24 =>
   bindV (aBin p .eql 3 v20 v24) fun v25 =>
   condK v25
    (
     bindV (aNil x0) fun v26 =>
     bindV (aFieldAddr p 49 v26 1) fun v27 =>
     bindV (aLoad p W S21 3 v27) fun v28 =>
     bindV (aBin p .add 3 v28 (.int .i64 1)) fun v29 =>
     bindV (aNil x0) fun v30 =>
     bindV (aFieldAddr p 49 v30 1) fun v31 =>
     bindT (aStore p S21 3 v31 v29) fun S32 =>
     some ((.int .i64 6), S32)
    )
    (
     bindV (aFieldAddr p 30 v1 0) fun v33 =>
     bindV (aLoad p W S21 3 v33) fun v34 =>
     bindV (aBin p .eql 3 v34 (.int .i64 2)) fun v35 =>
     condK v35
      (
       bindV (aNil x0) fun v36 =>
       bindV (aFieldAddr p 49 v36 2) fun v37 =>
       bindV (aLoad p W S21 28 v37) fun v38 =>
       bindV (aLoad p W S21 30 v1) fun v39 =>
       bindS (qS true S21 fun S_ => aBuildSlice p S_ 28 1 #[(0, v39)]) fun v40 S41 =>
       bindS (aBuiltin p W S41 .append #[28, 28] #[v38, v40]) fun v42 S43 =>
       bindV (aNil x0) fun v44 =>
       bindV (aFieldAddr p 49 v44 2) fun v45 =>
       bindT (aStore p S43 28 v45 v42) fun S46 =>
       some ((.int .i64 0), S46)
      )
      (
       bindV (aNil x0) fun v47 =>
       bindV (aFieldAddr p 49 v47 3) fun v48 =>
       bindV (aLoad p W S21 28 v48) fun v49 =>
       bindV (aLoad p W S21 30 v1) fun v50 =>
       bindS (qS true S21 fun S_ => aBuildSlice p S_ 28 1 #[(0, v50)]) fun v51 S52 =>
       bindS (aBuiltin p W S52 .append #[28, 28] #[v49, v51]) fun v53 S54 =>
       bindV (aNil x0) fun v55 =>
       bindV (aFieldAddr p 49 v55 3) fun v56 =>
       bindT (aStore p S54 28 v56 v53) fun S57 =>
       some ((.int .i64 0), S57)
      )
    )
  )
  := (fn_eq Try.func11 rfl ok11 _ _).trans (by kernel_rfl)
/-! 21 (*tocsin/port.Port).next -/
noncomputable abbrev f21 := Try.f21
noncomputable def c21 : Code := bodyOf f21
theorem ok21 : codeOk p c21 = true := by kernel_rfl
theorem eq21 (W : World) (x0 : Value) (S : St) : cw W 21 #[x0] S =
 bindV (aBin p .eql 24 x0 (.pointer none)) fun v1 =>
 condK v1
  (
   some ((.pointer none), S)
  )
  (
   bindV (aNil x0) fun v2 =>
   bindV (aFieldAddr p 49 v2 2) fun v3 =>
   bindV (aLoad p W S 28 v3) fun v4 =>
   bindV (aLen p W S #[28] #[v4]) fun v5 =>
   bindV (aBin p .gtr 3 v5 (.int .i64 0)) fun v6 =>
   condK v6
    (
     bindV (aNil x0) fun v7 =>
     bindV (aFieldAddr p 49 v7 2) fun v8 =>
     some (v8, S)
    )
    (
     bindV (aNil x0) fun v9 =>
     bindV (aFieldAddr p 49 v9 3) fun v10 =>
     some (v10, S)
    )
  )
  := (fn_eq Try.func21 rfl ok21 _ _).trans (by kernel_rfl)
/-! 12 (*tocsin/port.Port).Peek -/
noncomputable abbrev f12 := Try.f12
noncomputable def c12 : Code := bodyOf f12
theorem ok12 : codeOk p c12 = true := by kernel_rfl
theorem eq12 (W : World) (x0 : Value) (S : St) : cw W 12 #[x0] S =
 bindS (aAlloc p S 30) fun v1 S2 =>
 bindS (aCall p (cw W) S2 (.func (.func 21) #[] #[]) #[x0]) fun v3 S4 =>
 bindV (aBin p .eql 53 v3 (.pointer none)) fun v5 =>
 gV v5 false fun g6 =>
 gV v5 false fun g7 =>
 bindV (wO g7 (aNil (wV g6 v3))) fun v8 =>
 gV v5 false fun g9 =>
 bindV (wO g9 (aLoad p W S4 28 v8)) fun v10 =>
 gV v5 false fun g11 =>
 bindV (wO g11 (aLen p W S4 #[28] #[v10])) fun v12 =>
 gV v5 false fun g13 =>
 bindV (wO g13 (aBin p .eql 3 v12 (.int .i64 0))) fun v14 =>
 bindV (aPick v5 (.bool true) v14) fun v15 =>
 condK v15
  (
   bindV (aBuild p 30 #[]) fun v16 =>
   bindT (aStore p S4 30 v1 v16) fun S17 =>
   bindV (aLoad p W S17 30 v1) fun v18 =>
   some (.tuple #[v18, (.bool false)], S17)
  )
  (
   bindV (aNil v3) fun v19 =>
   bindV (aLoad p W S4 28 v19) fun v20 =>
   bindV (aIndexAddr p 28 v20 (.int .i64 0)) fun v21 =>
   bindV (aLoad p W S4 30 v21) fun v22 =>
   bindT (aStore p S4 30 v1 v22) fun S23 =>
   bindV (aLoad p W S23 30 v1) fun v24 =>
   some (.tuple #[v24, (.bool true)], S23)
  )
  := (fn_eq Try.func12 rfl ok12 _ _).trans (by kernel_rfl)
/-! 13 (*tocsin/port.Port).Take -/
noncomputable abbrev f13 := Try.f13
noncomputable def c13 : Code := bodyOf f13
theorem ok13 : codeOk p c13 = true := by kernel_rfl
theorem eq13 (W : World) (x0 : Value) (S : St) : cw W 13 #[x0] S =
 bindS (aAlloc p S 30) fun v1 S2 =>
 bindS (aCall p (cw W) S2 (.func (.func 12) #[] #[]) #[x0]) fun v3 S4 =>
 bindV (still p (Instr.extract v3 0)) fun v5 =>
 bindV (still p (Instr.extract v3 1)) fun v6 =>
 bindS (aAlloc p S4 30) fun v7 S8 =>
 bindT (aStore p S8 30 v7 v5) fun S9 =>
 condK v6
  (
   bindS (aCall p (cw W) S9 (.func (.func 21) #[] #[]) #[x0]) fun v10 S11 =>
   bindV (aNil v10) fun v12 =>
   bindV (aLoad p W S11 28 v12) fun v13 =>
   bindV (aSlice p W S11 28 v13 (some (.int .i64 1)) none none) fun v14 =>
   bindV (aNil v10) fun v15 =>
   bindT (aStore p S11 28 v15 v14) fun S16 =>
   bindV (aLoad p W S16 30 v7) fun v17 =>
   bindT (aStore p S16 30 v1 v17) fun S18 =>
   bindV (aLoad p W S18 30 v1) fun v19 =>
   some (.tuple #[v19, v6], S18)
  )
  (
   bindV (aLoad p W S9 30 v7) fun v20 =>
   bindT (aStore p S9 30 v1 v20) fun S21 =>
   bindV (aLoad p W S21 30 v1) fun v22 =>
   some (.tuple #[v22, v6], S21)
  )
  := (fn_eq Try.func13 rfl ok13 _ _).trans (by kernel_rfl)
/-! 16 (*tocsin/port.Port).Clear -/
noncomputable abbrev f16 := Try.f16
noncomputable def c16 : Code := bodyOf f16
theorem ok16 : codeOk p c16 = true := by kernel_rfl
noncomputable def c16_11010 : Code := codeAt [1, 1, 0, 1, 0, 0] c16
theorem ok16_11010 : codeOk p c16_11010 = true := by kernel_rfl
theorem eq16 (W : World) (x0 : Value) (S : St) : cw W 16 #[x0] S =
 bindS (aCall p (cw W) S (.func (.func 13) #[] #[]) #[x0]) fun v1 S2 =>
 bindV (still p (Instr.extract v1 0)) fun v3 =>
 bindV (still p (Instr.extract v1 1)) fun v4 =>
 bindS (aAlloc p S2 30) fun v5 S6 =>
 bindT (aStore p S6 30 v5 v3) fun S7 =>
 bindO (la W c16_11010 ⟨#[x0, undef, (.slice none 0 0), (.slice none 0 0), v5, v4, v1, x0, v1, v3, v4, undef, undef, undef, undef, undef, undef, undef, undef, undef, undef, undef, undef], []⟩ S7) (kc W c16 [1, 1, 0, 1, 0] f16)
  := (fn_eq Try.func16 rfl ok16 _ _).trans (by kernel_rfl)
theorem r16_11010 (W : World) (y0 y1 y2 y3 y4 y5 y6 y7 y8 y9 y10 y11 y12 y13 y14 y15 y16 y17 y18 y19 y20 y21 y22 : Value) (S : St) : la W c16_11010 ⟨#[y0, y1, y2, y3, y4, y5, y6, y7, y8, y9, y10, y11, y12, y13, y14, y15, y16, y17, y18, y19, y20, y21, y22], []⟩ S =
 condK y5
  (
   bindV (aLoad p W S 30 y4) fun v8 =>
   bindS (aBuildSlice p S 28 1 #[(0, v8)]) fun v9 S10 =>
   bindS (aBuiltin p W S10 .append #[28, 28] #[y3, v9]) fun v11 S12 =>
   bindV (aLoad p W S12 30 y4) fun v13 =>
   bindS (aAlloc p S12 30) fun v14 S15 =>
   bindT (aStore p S15 30 v14 v13) fun S16 =>
   bindS (aCall p (cw W) S16 (.func (.func 13) #[] #[]) #[y0]) fun v17 S18 =>
   bindV (still p (Instr.extract v17 0)) fun v19 =>
   bindV (still p (Instr.extract v17 1)) fun v20 =>
   bindT (aStore p S18 30 v14 v19) fun S21 =>
   la W c16_11010 ⟨#[y0, y1, y2, v11, v14, v20, y6, y7, y8, y9, y10, y5, v17, y0, v17, v19, v20, y3, v8, v9, v11, v13, y22], []⟩ S21
  )
  (
   some (.exit 0, ⟨#[y0, y1, y2, y3, y4, y5, y6, y7, y8, y9, y10, y5, junk, junk, junk, junk, junk, junk, junk, junk, junk, junk, y22], []⟩, S)
  )
  := (round_eq ok16_11010 _ _).trans (by kernel_rfl)
theorem k16_11010_0 (W : World) (y0 y1 y2 y3 y4 y5 y6 y7 y8 y9 y10 y11 y12 y13 y14 y15 y16 y17 y18 y19 y20 y21 y22 : Value) (S : St) : kc W c16 [1, 1, 0, 1, 0] f16 (.exit 0) ⟨#[y0, y1, y2, y3, y4, y5, y6, y7, y8, y9, y10, y11, y12, y13, y14, y15, y16, y17, y18, y19, y20, y21, y22], []⟩ S =
 some (y3, S)
  := by kernel_rfl
/-! 18 (*tocsin/port.Port).Lost -/
noncomputable abbrev f18 := Try.f18
noncomputable def c18 : Code := bodyOf f18
theorem ok18 : codeOk p c18 = true := by kernel_rfl
theorem eq18 (W : World) (x0 : Value) (S : St) : cw W 18 #[x0] S =
 bindV (aBin p .eql 24 x0 (.pointer none)) fun v1 =>
 condK v1
  (
   some ((.int .i64 0), S)
  )
  (
   bindV (aNil x0) fun v2 =>
   bindV (aFieldAddr p 49 v2 1) fun v3 =>
   bindV (aLoad p W S 3 v3) fun v4 =>
   some (v4, S)
  )
  := (fn_eq Try.func18 rfl ok18 _ _).trans (by kernel_rfl)
/-! 19 tocsin/tocsinlaw16.one -/
noncomputable abbrev f19 := Try.f19
noncomputable def c19 : Code := bodyOf f19
theorem ok19 : codeOk p c19 = true := by kernel_rfl
theorem eq19 (W : World) (x0 x1 : Value) (S : St) : cw W 19 #[x0, x1] S =
 bindS (aAlloc p S 30) fun v1 S2 =>
 bindV (aBuild p 30 #[(0, x0), (2, x1), (4, (.int .i64 64))]) fun v3 =>
 bindT (aStore p S2 30 v1 v3) fun S4 =>
 bindV (aLoad p W S4 30 v1) fun v5 =>
 some (v5, S4)
  := (fn_eq Try.func19 rfl ok19 _ _).trans (by kernel_rfl)
/-! 7 tocsin/tocsinlaw16.fixed -/
noncomputable abbrev f7 := Try.f7
noncomputable def c7 : Code := bodyOf f7
theorem ok7 : codeOk p c7 = true := by kernel_rfl
theorem eq7 (W : World) (S : St) : cw W 7 #[] S =
 bindS (aCall p (cw W) S (.func (.func 8) #[] #[]) #[(.int .i64 2)]) fun v1 S2 =>
 bindV (still p (Instr.extract v1 0)) fun v3 =>
 bindV (still p (Instr.extract v1 1)) fun v4 =>
 bindS (aCall p (cw W) S2 (.func (.func 8) #[] #[]) #[(.int .i64 0)]) fun v5 S6 =>
 bindV (still p (Instr.extract v5 0)) fun v7 =>
 bindV (still p (Instr.extract v5 1)) fun v8 =>
 bindV (aBin p .eql 24 v3 (.pointer none)) fun v9 =>
 gV v9 false fun g10 =>
 gV v9 false fun g11 =>
 bindV (wO g11 (aBin p .neq 25 (wV g10 v4) (.int .i64 0))) fun v12 =>
 bindV (aPick v9 (.bool true) v12) fun v13 =>
 gV v13 false fun g14 =>
 gV v13 false fun g15 =>
 bindV (wO g15 (aBin p .neq 25 (wV g14 v8) (.int .i64 1))) fun v16 =>
 bindV (aPick v13 (.bool true) v16) fun v17 =>
 condK v17
  (
   some ((.bool false), S6)
  )
  (
   bindS (aCall p (cw W) S6 (.func (.func 19) #[] #[]) #[(.int .i64 3), (.int .i64 1)]) fun v18 S19 =>
   bindS (aCall p (cw W) S19 (.func (.func 11) #[] #[]) #[v3, v18]) fun v20 S21 =>
   bindS (aCall p (cw W) S21 (.func (.func 19) #[] #[]) #[(.int .i64 2), (.int .i64 2)]) fun v22 S23 =>
   bindS (aCall p (cw W) S23 (.func (.func 11) #[] #[]) #[v3, v22]) fun v24 S25 =>
   bindS (aCall p (cw W) S25 (.func (.func 19) #[] #[]) #[(.int .i64 2), (.int .i64 3)]) fun v26 S27 =>
   bindS (aCall p (cw W) S27 (.func (.func 11) #[] #[]) #[v3, v26]) fun v28 S29 =>
   bindS (aCall p (cw W) S29 (.func (.func 12) #[] #[]) #[v3]) fun v30 S31 =>
   bindV (still p (Instr.extract v30 0)) fun v32 =>
   bindV (still p (Instr.extract v30 1)) fun v33 =>
   bindS (aAlloc p S31 30) fun v34 S35 =>
   bindT (aStore p S35 30 v34 v32) fun S36 =>
   bindS (aCall p (cw W) S36 (.func (.func 13) #[] #[]) #[v3]) fun v37 S38 =>
   bindV (still p (Instr.extract v37 0)) fun v39 =>
   bindV (still p (Instr.extract v37 1)) fun v40 =>
   bindS (aAlloc p S38 30) fun v41 S42 =>
   bindT (aStore p S42 30 v41 v39) fun S43 =>
   bindS (aCall p (cw W) S43 (.func (.func 16) #[] #[]) #[v3]) fun v44 S45 =>
   bindS (aCall p (cw W) S45 (.func (.func 13) #[] #[]) #[v3]) fun v46 S47 =>
   bindV (still p (Instr.extract v46 0)) fun v48 =>
   bindV (still p (Instr.extract v46 1)) fun v49 =>
   bindS (aAlloc p S47 30) fun v50 S51 =>
   bindT (aStore p S51 30 v50 v48) fun S52 =>
   bindV (aBin p .eql 25 v20 (.int .i64 0)) fun v53 =>
   gV v53 true fun g54 =>
   gV v53 true fun g55 =>
   bindV (wO g55 (aBin p .eql 25 (wV g54 v24) (.int .i64 0))) fun v56 =>
   bindV (aPick v53 v56 (.bool false)) fun v57 =>
   gV v57 true fun g58 =>
   gV v57 true fun g59 =>
   bindV (wO g59 (aBin p .eql 25 (wV g58 v28) (.int .i64 6))) fun v60 =>
   bindV (aPick v57 v60 (.bool false)) fun v61 =>
   gV v61 true fun g62 =>
   bindV (wO g62 (aFieldAddr p 30 v34 2)) fun v63 =>
   gV v61 true fun g64 =>
   bindV (wO g64 (aLoad p W S52 3 v63)) fun v65 =>
   gV v61 true fun g66 =>
   bindV (wO g66 (aBin p .eql 3 v65 (.int .i64 2))) fun v67 =>
   bindV (aPick v61 v67 (.bool false)) fun v68 =>
   gV v68 true fun g69 =>
   bindV (wO g69 (aFieldAddr p 30 v41 2)) fun v70 =>
   gV v68 true fun g71 =>
   bindV (wO g71 (aLoad p W S52 3 v70)) fun v72 =>
   gV v68 true fun g73 =>
   bindV (wO g73 (aBin p .eql 3 v72 (.int .i64 2))) fun v74 =>
   bindV (aPick v68 v74 (.bool false)) fun v75 =>
   gV v75 true fun g76 =>
   gV v75 true fun g77 =>
   bindV (wO g77 (aLen p W S52 #[28] #[(wV g76 v44)])) fun v78 =>
   gV v75 true fun g79 =>
   bindV (wO g79 (aBin p .eql 3 v78 (.int .i64 1))) fun v80 =>
   bindV (aPick v75 v80 (.bool false)) fun v81 =>
   gV v81 true fun g82 =>
   gV v81 true fun g83 =>
   bindV (wO g83 (aIndexAddr p 28 (wV g82 v44) (.int .i64 0))) fun v84 =>
   gV v81 true fun g85 =>
   bindV (wO g85 (aFieldAddr p 30 v84 2)) fun v86 =>
   gV v81 true fun g87 =>
   bindV (wO g87 (aLoad p W S52 3 v86)) fun v88 =>
   gV v81 true fun g89 =>
   bindV (wO g89 (aBin p .eql 3 v88 (.int .i64 1))) fun v90 =>
   bindV (aPick v81 v90 (.bool false)) fun v91 =>
   gV v91 true fun g92 =>
   gV v91 true fun g93 =>
   bindV (wO g93 (aUn p .not (wV g92 v49))) fun v94 =>
   bindV (aPick v91 v94 (.bool false)) fun v95 =>
   gV v95 true fun g96 =>
   gV v95 true fun g97 =>
   bindS (wS g97 S52 (aCall p (cw W) S52 (.func (.func 18) #[] #[]) #[(wV g96 v3)])) fun v98 S99 =>
   gV v95 true fun g100 =>
   bindV (wO g100 (aBin p .eql 3 v98 (.int .i64 1))) fun v101 =>
   bindV (aPick v95 v101 (.bool false)) fun v102 =>
   gV v102 true fun g103 =>
   gV v102 true fun g104 =>
   bindS (wS g104 S99 (aCall p (cw W) S99 (.func (.func 17) #[] #[]) #[(wV g103 v3)])) fun v105 S106 =>
   gV v102 true fun g107 =>
   bindV (wO g107 (aBin p .eql 3 v105 (.int .i64 0))) fun v108 =>
   bindV (aPick v102 v108 (.bool false)) fun v109 =>
   some (v109, S106)
  )
  := (fn_eq Try.func7 rfl ok7 _ _).trans (by kernel_rfl)
/-! 9 tocsin/tocsinref16.Next -/
noncomputable abbrev f9 := Try.f9
noncomputable def c9 : Code := bodyOf f9
theorem ok9 : codeOk p c9 = true := by kernel_rfl
noncomputable def c9_1010 : Code := codeAt [1, 0, 1, 0, 0] c9
theorem ok9_1010 : codeOk p c9_1010 = true := by kernel_rfl
theorem eq9 (W : World) (x0 : Value) (S : St) : cw W 9 #[x0] S =
 bindO (la W c9_1010 ⟨#[x0, undef, (.int .i64 0), (.int .i64 0), undef, undef, undef, undef, undef, undef, undef, undef, undef, undef, undef, undef, undef, undef, undef, undef], []⟩ S) (kc W c9 [1, 0, 1, 0] f9)
  := (fn_eq Try.func9 rfl ok9 _ _).trans (by kernel_rfl)
theorem r9_1010 (W : World) (y0 y1 y2 y3 y4 y5 y6 y7 y8 y9 y10 y11 y12 y13 y14 y15 y16 y17 y18 y19 : Value) (S : St) : la W c9_1010 ⟨#[y0, y1, y2, y3, y4, y5, y6, y7, y8, y9, y10, y11, y12, y13, y14, y15, y16, y17, y18, y19], []⟩ S =
 bindV (aLen p W S #[28] #[y0]) fun v1 =>
 bindV (aBin p .lss 3 y3 v1) fun v2 =>
 condK v2
  (
   bindV (aIndexAddr p 28 y0 y3) fun v3 =>
   bindV (aFieldAddr p 30 v3 0) fun v4 =>
   bindV (aLoad p W S 3 v4) fun v5 =>
   bindV (aBin p .eql 3 v5 (.int .i64 2)) fun v6 =>
   condK v6
    (
     some (.ret, ⟨#[y0, y1, y3, y3, y3, y0, v1, v2, junk, junk, y0, y3, v3, v4, v5, v6, y3, y17, y18, y19], []⟩, S)
    )
    (
     bindV (aBin p .add 3 y3 (.int .i64 1)) fun v7 =>
     la W c9_1010 ⟨#[y0, y1, junk, v7, y3, y0, v1, v2, y3, v7, y0, y3, v3, v4, v5, v6, junk, y17, y18, y19], []⟩ S
    )
  )
  (
   some (.exit 0, ⟨#[y0, y1, junk, y3, y3, y0, v1, v2, junk, junk, junk, junk, junk, junk, junk, junk, junk, y17, y18, y19], []⟩, S)
  )
  := (round_eq ok9_1010 _ _).trans (by kernel_rfl)
theorem k9_1010_0 (W : World) (y0 y1 y2 y3 y4 y5 y6 y7 y8 y9 y10 y11 y12 y13 y14 y15 y16 y17 y18 y19 : Value) (S : St) : kc W c9 [1, 0, 1, 0] f9 (.exit 0) ⟨#[y0, y1, y2, y3, y4, y5, y6, y7, y8, y9, y10, y11, y12, y13, y14, y15, y16, y17, y18, y19], []⟩ S =
 bindV (aLen p W S #[28] #[y0]) fun v1 =>
 bindV (aBin p .gtr 3 v1 (.int .i64 0)) fun v2 =>
 condK v2
  (
   some ((.int .i64 0), S)
  )
  (
   some ((.int .i64 (-1)), S)
  )
  := by kernel_rfl
theorem k9_1010_ret (W : World) (y0 y1 y2 y3 y4 y5 y6 y7 y8 y9 y10 y11 y12 y13 y14 y15 y16 y17 y18 y19 : Value) (S : St) : kc W c9 [1, 0, 1, 0] f9 (.ret) ⟨#[y0, y1, y2, y3, y4, y5, y6, y7, y8, y9, y10, y11, y12, y13, y14, y15, y16, y17, y18, y19], []⟩ S =
 some (y2, S)
  := by kernel_rfl
/-! 10 tocsin/tocsinref06.RightData -/
noncomputable abbrev f10 := Try.f10
noncomputable def c10 : Code := bodyOf f10
theorem ok10 : codeOk p c10 = true := by kernel_rfl
theorem eq10 (W : World) (x0 : Value) (S : St) : cw W 10 #[x0] S =
 bindS (aBox S x0) fun v1 S2 =>
 bindV (aFieldAddr p 30 v1 0) fun v3 =>
 bindV (aLoad p W S2 3 v3) fun v4 =>
 bindV (aBin p .geq 3 v4 (.int .i64 1)) fun v5 =>
 gV v5 true fun g6 =>
 bindV (wO g6 (aFieldAddr p 30 v1 0)) fun v7 =>
 gV v5 true fun g8 =>
 bindV (wO g8 (aLoad p W S2 3 v7)) fun v9 =>
 gV v5 true fun g10 =>
 bindV (wO g10 (aBin p .leq 3 v9 (.int .i64 3))) fun v11 =>
 bindV (aPick v5 v11 (.bool false)) fun v12 =>
 gV v12 true fun g13 =>
 bindV (wO g13 (aFieldAddr p 30 v1 1)) fun v14 =>
 gV v12 true fun g15 =>
 bindV (wO g15 (aLoad p W S2 3 v14)) fun v16 =>
 gV v12 true fun g17 =>
 bindV (wO g17 (aBin p .geq 3 v16 (.int .i64 0))) fun v18 =>
 bindV (aPick v12 v18 (.bool false)) fun v19 =>
 gV v19 true fun g20 =>
 bindV (wO g20 (aFieldAddr p 30 v1 1)) fun v21 =>
 gV v19 true fun g22 =>
 bindV (wO g22 (aLoad p W S2 3 v21)) fun v23 =>
 gV v19 true fun g24 =>
 bindV (wO g24 (aBin p .leq 3 v23 (.int .i64 255))) fun v25 =>
 bindV (aPick v19 v25 (.bool false)) fun v26 =>
 gV v26 true fun g27 =>
 bindV (wO g27 (aFieldAddr p 30 v1 2)) fun v28 =>
 gV v26 true fun g29 =>
 bindV (wO g29 (aLoad p W S2 3 v28)) fun v30 =>
 gV v26 true fun g31 =>
 bindV (wO g31 (aBin p .geq 3 v30 (.int .i64 0))) fun v32 =>
 bindV (aPick v26 v32 (.bool false)) fun v33 =>
 gV v33 true fun g34 =>
 bindV (wO g34 (aFieldAddr p 30 v1 2)) fun v35 =>
 gV v33 true fun g36 =>
 bindV (wO g36 (aLoad p W S2 3 v35)) fun v37 =>
 gV v33 true fun g38 =>
 bindV (wO g38 (aBin p .leq 3 v37 (.int .i64 2147483647))) fun v39 =>
 bindV (aPick v33 v39 (.bool false)) fun v40 =>
 gV v40 true fun g41 =>
 bindV (wO g41 (aFieldAddr p 30 v1 4)) fun v42 =>
 gV v40 true fun g43 =>
 bindV (wO g43 (aLoad p W S2 3 v42)) fun v44 =>
 gV v40 true fun g45 =>
 bindV (wO g45 (aBin p .geq 3 v44 (.int .i64 64))) fun v46 =>
 bindV (aPick v40 v46 (.bool false)) fun v47 =>
 gV v47 true fun g48 =>
 bindV (wO g48 (aFieldAddr p 30 v1 4)) fun v49 =>
 gV v47 true fun g50 =>
 bindV (wO g50 (aLoad p W S2 3 v49)) fun v51 =>
 gV v47 true fun g52 =>
 bindV (wO g52 (aBin p .leq 3 v51 (.int .i64 1518))) fun v53 =>
 bindV (aPick v47 v53 (.bool false)) fun v54 =>
 gV v54 true fun g55 =>
 bindV (wO g55 (aFieldAddr p 30 v1 3)) fun v56 =>
 gV v54 true fun g57 =>
 bindV (wO g57 (aLoad p W S2 9 v56)) fun v58 =>
 gV v54 true fun g59 =>
 bindV (wO g59 (aLen p W S2 #[9] #[v58])) fun v60 =>
 gV v54 true fun g61 =>
 bindV (wO g61 (aFieldAddr p 30 v1 4)) fun v62 =>
 gV v54 true fun g63 =>
 bindV (wO g63 (aLoad p W S2 3 v62)) fun v64 =>
 gV v54 true fun g65 =>
 bindV (wO g65 (aBin p .sub 3 v64 (.int .i64 14))) fun v66 =>
 gV v54 true fun g67 =>
 bindV (wO g67 (aBin p .leq 3 v60 v66)) fun v68 =>
 bindV (aPick v54 v68 (.bool false)) fun v69 =>
 some (v69, S2)
  := (fn_eq Try.func10 rfl ok10 _ _).trans (by kernel_rfl)
/-! 14 tocsin/tocsinref16.Without -/
noncomputable abbrev f14 := Try.f14
noncomputable def c14 : Code := bodyOf f14
theorem ok14 : codeOk p c14 = true := by kernel_rfl
noncomputable def c14_11010 : Code := codeAt [1, 1, 0, 1, 0, 0] c14
theorem ok14_11010 : codeOk p c14_11010 = true := by kernel_rfl
theorem eq14 (W : World) (x0 x1 : Value) (S : St) : cw W 14 #[x0, x1] S =
 bindO (la W c14_11010 ⟨#[x0, x1, undef, undef, (.slice none 0 0), (.slice none 0 0), (.int .i64 0), undef, undef, undef, undef, undef, undef, undef, undef, undef, undef, undef, undef, undef, undef, undef, undef, undef], []⟩ S) (kc W c14 [1, 1, 0, 1, 0] f14)
  := (fn_eq Try.func14 rfl ok14 _ _).trans (by kernel_rfl)
theorem r14_11010 (W : World) (y0 y1 y2 y3 y4 y5 y6 y7 y8 y9 y10 y11 y12 y13 y14 y15 y16 y17 y18 y19 y20 y21 y22 y23 : Value) (S : St) : la W c14_11010 ⟨#[y0, y1, y2, y3, y4, y5, y6, y7, y8, y9, y10, y11, y12, y13, y14, y15, y16, y17, y18, y19, y20, y21, y22, y23], []⟩ S =
 bindV (aLen p W S #[28] #[y0]) fun v1 =>
 bindV (aBin p .lss 3 y6 v1) fun v2 =>
 condK v2
  (
   bindV (aBin p .neq 3 y6 y1) fun v3 =>
   condK v3
    (
     bindV (aIndexAddr p 28 y0 y6) fun v4 =>
     bindV (aLoad p W S 30 v4) fun v5 =>
     bindS (aBuildSlice p S 28 1 #[(0, v5)]) fun v6 S7 =>
     bindS (aBuiltin p W S7 .append #[28, 28] #[y5, v6]) fun v8 S9 =>
     bindV (aBin p .add 3 y6 (.int .i64 1)) fun v10 =>
     la W c14_11010 ⟨#[y0, y1, y2, y3, y4, v8, v10, y6, y0, v1, v2, y6, v10, y6, y1, v3, y5, y0, y6, v4, v5, v6, v8, y23], []⟩ S9
    )
    (
     bindV (aBin p .add 3 y6 (.int .i64 1)) fun v11 =>
     la W c14_11010 ⟨#[y0, y1, y2, y3, y4, y5, v11, y6, y0, v1, v2, y6, v11, y6, y1, v3, junk, junk, junk, junk, junk, junk, junk, y23], []⟩ S
    )
  )
  (
   some (.exit 0, ⟨#[y0, y1, y2, y3, y4, y5, y6, y6, y0, v1, v2, junk, junk, junk, junk, junk, junk, junk, junk, junk, junk, junk, junk, y23], []⟩, S)
  )
  := (round_eq ok14_11010 _ _).trans (by kernel_rfl)
theorem k14_11010_0 (W : World) (y0 y1 y2 y3 y4 y5 y6 y7 y8 y9 y10 y11 y12 y13 y14 y15 y16 y17 y18 y19 y20 y21 y22 y23 : Value) (S : St) : kc W c14 [1, 1, 0, 1, 0] f14 (.exit 0) ⟨#[y0, y1, y2, y3, y4, y5, y6, y7, y8, y9, y10, y11, y12, y13, y14, y15, y16, y17, y18, y19, y20, y21, y22, y23], []⟩ S =
 some (y5, S)
  := by kernel_rfl
/-! 15 tocsin/tocsinref16.Same -/
noncomputable abbrev f15 := Try.f15
noncomputable def c15 : Code := bodyOf f15
theorem ok15 : codeOk p c15 = true := by kernel_rfl
noncomputable def c15_11010 : Code := codeAt [1, 1, 0, 1, 0, 0] c15
theorem ok15_11010 : codeOk p c15_11010 = true := by kernel_rfl
theorem eq15 (W : World) (x0 x1 : Value) (S : St) : cw W 15 #[x0, x1] S =
 bindV (aLen p W S #[28] #[x0]) fun v1 =>
 bindV (aLen p W S #[28] #[x1]) fun v2 =>
 bindV (aBin p .neq 3 v1 v2) fun v3 =>
 condK v3
  (
   some ((.bool false), S)
  )
  (
   bindO (la W c15_11010 ⟨#[x0, x1, undef, undef, (.bool false), (.int .i64 0), x0, v1, x1, v2, v3, undef, undef, undef, undef, undef, undef, undef, undef, undef, undef, undef, undef, undef, undef, undef], []⟩ S) (kc W c15 [1, 1, 0, 1, 0] f15)
  )
  := (fn_eq Try.func15 rfl ok15 _ _).trans (by kernel_rfl)
theorem r15_11010 (W : World) (y0 y1 y2 y3 y4 y5 y6 y7 y8 y9 y10 y11 y12 y13 y14 y15 y16 y17 y18 y19 y20 y21 y22 y23 y24 y25 : Value) (S : St) : la W c15_11010 ⟨#[y0, y1, y2, y3, y4, y5, y6, y7, y8, y9, y10, y11, y12, y13, y14, y15, y16, y17, y18, y19, y20, y21, y22, y23, y24, y25], []⟩ S =
 bindV (aLen p W S #[28] #[y0]) fun v4 =>
 bindV (aBin p .lss 3 y5 v4) fun v5 =>
 condK v5
  (
   bindV (aIndexAddr p 28 y0 y5) fun v6 =>
   bindV (aLoad p W S 30 v6) fun v7 =>
   bindV (aIndexAddr p 28 y1 y5) fun v8 =>
   bindV (aLoad p W S 30 v8) fun v9 =>
   bindV (aBin p .neq 30 v7 v9) fun v10 =>
   condK v10
    (
     some (.ret, ⟨#[y0, y1, y2, y3, (.bool false), y5, y6, y7, y8, y9, y10, y5, y0, v4, v5, junk, junk, y0, y5, v6, v7, y1, y5, v8, v9, v10], []⟩, S)
    )
    (
     bindV (aBin p .add 3 y5 (.int .i64 1)) fun v11 =>
     la W c15_11010 ⟨#[y0, y1, y2, y3, junk, v11, y6, y7, y8, y9, y10, y5, y0, v4, v5, y5, v11, y0, y5, v6, v7, y1, y5, v8, v9, v10], []⟩ S
    )
  )
  (
   some (.exit 0, ⟨#[y0, y1, y2, y3, junk, y5, y6, y7, y8, y9, y10, y5, y0, v4, v5, junk, junk, junk, junk, junk, junk, junk, junk, junk, junk, junk], []⟩, S)
  )
  := (round_eq ok15_11010 _ _).trans (by kernel_rfl)
theorem k15_11010_0 (W : World) (y0 y1 y2 y3 y4 y5 y6 y7 y8 y9 y10 y11 y12 y13 y14 y15 y16 y17 y18 y19 y20 y21 y22 y23 y24 y25 : Value) (S : St) : kc W c15 [1, 1, 0, 1, 0] f15 (.exit 0) ⟨#[y0, y1, y2, y3, y4, y5, y6, y7, y8, y9, y10, y11, y12, y13, y14, y15, y16, y17, y18, y19, y20, y21, y22, y23, y24, y25], []⟩ S =
 some ((.bool true), S)
  := by kernel_rfl
theorem k15_11010_ret (W : World) (y0 y1 y2 y3 y4 y5 y6 y7 y8 y9 y10 y11 y12 y13 y14 y15 y16 y17 y18 y19 y20 y21 y22 y23 y24 y25 : Value) (S : St) : kc W c15 [1, 1, 0, 1, 0] f15 (.ret) ⟨#[y0, y1, y2, y3, y4, y5, y6, y7, y8, y9, y10, y11, y12, y13, y14, y15, y16, y17, y18, y19, y20, y21, y22, y23, y24, y25], []⟩ S =
 some (y4, S)
  := by kernel_rfl
end Go.Proofs.Ytjfmapoangigoaa.F
