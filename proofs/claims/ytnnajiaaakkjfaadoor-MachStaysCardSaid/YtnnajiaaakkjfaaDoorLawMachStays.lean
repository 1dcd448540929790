/- The tied card: over the walk. -/
import Derived.Test.YtnnajiaaakkjfaaDoorRows
import Derived.Test.YtnnajiaaakkjfaaDoorCards
import Derived.Test.YtnnajiaaakkjfaaDoorTie
import Derived.Test.YtnnajiaaakkjfaaDoorR2
import Derived.Test.YtnnajiaaakkjfaaDoorTB
import Derived.SevenTiedAt
namespace Go.Proofs.YtnnajiaaakkjfaaDoor.machStays
open Go Go.ChangeShapes Go.WideShapes Go.ChangeAt Go.RowKit Go.Proofs.YtnnajiaaakkjfaaDoor Go.Proofs.YtnnajiaaakkjfaaDoor.E Go.Proofs.YtnnajiaaakkjfaaDoor.F
set_option linter.unusedVariables false
set_option maxRecDepth 100000 in
theorem lifted (os : Os) (started : os.Started) (H : Type) (enc : TypeId × Value → H) :
    ReturnsInHanded {} Tryd.checked os 5 .any (fun w args => (Rows.machStaysSpec.pre enc Tryd.prog Tryd.f5 [] false w args ∧ laidMetH Tryd.prog laidT w) ∧ sizedMet enc Tryd.prog Tryd.f5 (OpenSpec.ofChange Rows.machStaysSpec) false w args) (Rows.machStaysSpec.post enc Tryd.prog Tryd.f5 false true false false) := by
  refine returnsInHanded_of_change_and (C := Tryd.checked) (X := fun w _ => laidMetH Tryd.prog laidT w) (fun _ _ _ hh h => h.of_heap hh) own started (by kernel_rfl) Tryd.func5
    (ChangeSpec.witness_shaped (enc := enc) (C := Tryd.checked) (os := os) (X := fun w _ => laidMetH Tryd.prog laidT w) false (World.doorLaid Tryd.prog 400 os) #[.int .u8 0, .agg #[.int .i64 0, .int .u32 0, .int .i64 0, .int .i64 0], .slice none 0 0] 8 rfl (World.shaped_of_RefB (by kernel_rfl) (by kernel_rfl)) (by kernel_rfl) (by kernel_rfl) (by kernel_rfl) (door_met os _)) ?_
  intro W base args ds gs before hval0 hW hcnd hsz0 hL0 _
  have TB := of_laid hL0
  have hsz : (DataW.weightsEach Tryd.prog (Tryd.f5.params.toList ++ Rows.machStaysSpec.plain.varTypes Tryd.prog) (ds ++ gs)).all (· ≤ reachBytes) = true := hsz0
  have hval : ∀ (j : Nat) t v, Tryd.f5.params[j]? = some t → args[j]? = some v → Value.okWide Tryd.prog W .any base t v := hval0
  have hW' := hW
  obtain ⟨p, q, hA0, hV, rfl, hfz, hnd⟩ := hW
  have hA : DataW.TrodAll enc Tryd.prog W 0 (fun _ => true) true Tryd.f5.params.toList args.toList ds p := hA0
  rw [Tryd.params5] at hA hval hsz
  obtain ⟨v0, vs0, d0, ds0, p0, q0, hargs, rfl, rfl, h0, r0⟩ := trodAll_cons hA
  obtain ⟨v1, vs1, d1, ds1, p1, q1, rfl, rfl, rfl, h1, r1⟩ := trodAll_cons r0
  obtain ⟨v2, vs2, d2, ds2, p2, q2, rfl, rfl, rfl, h2, r2⟩ := trodAll_cons r1
  obtain ⟨rfl, rfl, rfl⟩ := trodAll_nil r2
  obtain rfl : args = #[v0, v1, v2] := by cases args; simp_all
  obtain ⟨rfl, rfl⟩ := trodVars_none hV
  obtain ⟨x0, rfl, rfl, rfl, w0⟩ := open_int Tryd.underlying5 (hval 0 5 v0 rfl rfl) h0
  have k1 := h1
  have lt1 : ∀ x ∈ p1, x.block < W.heap.size := by obtain ⟨m, hm⟩ := k1; exact DataW.trod_lt m _ _ _ hm
  have ww1 := E.weights_at hsz (j := 1) (t := 36) (d := d1) rfl rfl
  obtain ⟨fu1, hf1⟩ := h1
  obtain ⟨cs1, rfl, _⟩ := okWide_struct Tryd.underlying36 (hval 1 36 v1 rfl rfl)
  obtain ⟨x1, hx1, w1⟩ := rf_M enc W 0 (fun _ => true) true fu1 cs1.toList (d1, p1) hf1 ww1
  obtain rfl : cs1 = #[.int .i64 x1.s, .int .u32 (x1.c : Int), .int .i64 x1.m, .int .i64 x1.w] := by rw [← Array.toList_inj]; exact hx1
  have k2 := h2
  have lt2 : ∀ x ∈ p2, x.block < W.heap.size := by obtain ⟨m, hm⟩ := k2; exact DataW.trod_lt m _ _ _ hm
  have ww2 := E.weights_at hsz (j := 2) (t := 22) (d := d2) rfl rfl
  obtain ⟨fu2, hf2⟩ := h2
  obtain ⟨aa2, ln2, cp2, rfl⟩ := okWide_slice Tryd.underlying22 (hval 2 22 v2 rfl rfl)
  have hg2 : DataW.trod enc Tryd.prog W 0 (fun _ => true) true fu2 22 [.slice aa2 ln2 cp2] = some (d2, p2) := hf2
  obtain ⟨l2, o2, y2, r2⟩ := old_slice (T := ET) (y := (d2, p2)) Tryd.underlying22 (by kernel_rfl) rf_Ev hg2 ww2 (hval 2 22 _ rfl rfl)
  clear hA0 hval0 hsz0 hsz
  obtain ⟨⟨v, S'⟩, e, ev⟩ := stays_law (W := W) (S := St.start W) (start_ok W) TB x0 w0 x1 w1 o2 (by have e : Tryd.prog.bytesOf 32 = 16 := (by kernel_rfl); rw [e] at y2; omega) r2
  obtain rfl : v = .bool true := ev
  refine (calls_of_W (P := Tryd.prog) (hG_of TB) (by kernel_rfl) (fun v hv => ?_) e).mono ?_
  · simp only [List.mem_toArray, List.mem_cons, List.not_mem_nil, or_false] at hv
    rcases hv with rfl | rfl | rfl
    · exact rfl
    · exact (by simp [oldArg, oldV, flat0])
    · exact o2.old
  rintro e W' ⟨rfl, bel⟩
  exact ⟨_, rfl, _, _, _, [], _, [], hW', trodAll_mk1 (shut_bool Tryd.underlying4 _), (trodAll_cons_mk (shut_int Tryd.underlying5 w0) (trodAll_cons_mk (Below.trod laidOut (by kernel_rfl) (of_decide_eq_true (by kernel_rfl)) k1 bel lt1) (trodAll_cons_mk (Below.trod laidOut (by kernel_rfl) (of_decide_eq_true (by kernel_rfl)) k2 bel lt2) trodAll_mk0))), rfl, bel.frame _, fun h => by cases h⟩
theorem over : Rows.machStaysRow.holds Tryd.pinned (OpenSpec.ofChange Rows.machStaysSpec) :=
  OpenClaim.holds_of_wide 5 Tryd.f5 rfl rfl rfl rfl rfl rfl rfl ⟨rfl, rfl, rfl, rfl, rfl⟩ rfl rfl rfl rfl rfl (by kernel_rfl) Tryd.func5 (by kernel_rfl)
    (of_decide_eq_true (by kernel_rfl)) (by unfold Func.isWrapper; first | (rw [if_pos (by decide +kernel)]; kernel_rfl) | (rw [if_neg (by decide +kernel)]; exact ⟨rfl, rfl⟩))
    (fun os started H enc _ => lifted os started H enc)
theorem card : Rows.MachStaysCardSaid :=
  Claim7.holds_tied_plain_at .later [] [.data] true (true, "c925964d6ee0550ccc9b9b77719177b031e16cc5293aaad310006dccf5001969") false
    over (fun _ h => by cases h) (by kernel_rfl) (fun _ h => by cases h) machStays_row_tie rfl ⟨rfl, rfl⟩ (by kernel_rfl) rfl
    (fun f fn hf hfn => by
      obtain rfl : f = 5 := Option.some.inj ((show Tryd.prog.funcNamed "tocsin/tocsinlaw13.MachStays" = some 5 by kernel_rfl).symm.trans hf) |>.symm
      obtain rfl : fn = Tryd.f5 := (Option.some.inj (Tryd.func5.symm.trans hfn)).symm
      exact ⟨by kernel_rfl, fun j t ht => by
        rw [Tryd.params5] at ht
        have hm : t ∈ [5, 36, 22] := by simpa using Array.mem_of_getElem? ht
        have hall : ([5, 36, 22].all fun u => !Tryd.prog.wantsStandIn u) = true := by kernel_rfl
        exact (show Tryd.prog.wantsStandIn t = false by simpa using List.all_eq_true.1 hall t hm)⟩)
    (by kernel_rfl)
#print axioms card
end Go.Proofs.YtnnajiaaakkjfaaDoor.machStays
namespace Go.Proofs.YtnnajiaaakkjfaaDoor
/-- The tied card, under a short name, for the claim. -/
theorem machStays_holds : Rows.MachStaysCardSaid := machStays.card
end Go.Proofs.YtnnajiaaakkjfaaDoor
