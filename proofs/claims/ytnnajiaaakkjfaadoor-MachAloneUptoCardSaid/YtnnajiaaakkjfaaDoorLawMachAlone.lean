/- The tied card: over the walk. -/
import Derived.Test.YtnnajiaaakkjfaaDoorRows
import Derived.Test.YtnnajiaaakkjfaaDoorCards
import Derived.Test.YtnnajiaaakkjfaaDoorTie
import Derived.Test.YtnnajiaaakkjfaaDoorV2
import Derived.Test.YtnnajiaaakkjfaaDoorTB
import Derived.Test.YtnnajiaaakkjfaaDoorHL
import Derived.SevenTiedAt
namespace Go.Proofs.YtnnajiaaakkjfaaDoor.machAlone
open Go Go.ChangeShapes Go.WideShapes Go.ChangeAt Go.RowKit Go.Proofs.YtnnajiaaakkjfaaDoor Go.Proofs.YtnnajiaaakkjfaaDoor.E Go.Proofs.YtnnajiaaakkjfaaDoor.F
set_option linter.unusedVariables false
set_option maxRecDepth 100000 in
theorem lifted (os : Os) (started : os.Started) (H : Type) (enc : TypeId × Value → H) (F0 : Stop.Interp) :
    ReturnsInHanded {} Tryd.checked os 4 .any (fun w args => ((Rows.OpenSpec.upto Rows.machAloneSpec).pre enc Tryd.prog Tryd.f4 [] false w args ∧ laidMetH Tryd.prog laidT w) ∧ sizedMet enc Tryd.prog Tryd.f4 (Rows.OpenSpec.upto Rows.machAloneSpec) false w args) (((Rows.OpenSpec.upto Rows.machAloneSpec).at F0).post enc Tryd.prog Tryd.f4 false true false false) := by
  refine handed_small_and (C := Tryd.checked) (s := (Rows.OpenSpec.upto Rows.machAloneSpec)) (k := Rows.uptoSmall) rfl (X := fun w _ => laidMetH Tryd.prog laidT w) (fun _ _ _ hh h => h.of_heap hh) own started (by kernel_rfl) Tryd.func4
    (witness_small (enc := enc) (C := Tryd.checked) (os := os) (s := (Rows.OpenSpec.upto Rows.machAloneSpec)) (k := Rows.uptoSmall) rfl (X := fun w _ => laidMetH Tryd.prog laidT w) false (World.doorLaid Tryd.prog 400 os) #[.int .u8 0, .slice none 0 0] 8 rfl (World.shaped_of_RefB (by kernel_rfl) (by kernel_rfl)) (by kernel_rfl) (x := ([.lit (.int .u8 0), .nil], [], [])) (by kernel_rfl) (by kernel_rfl) (by kernel_rfl) (by kernel_rfl) (door_met os _)) ?_
  intro W base args ds gs before hval0 hW hsmall hsz0 hL0
  have TB := of_laid hL0
  have hsz : (DataW.weightsEach Tryd.prog (Tryd.f4.params.toList ++ Rows.machAloneSpec.plain.varTypes Tryd.prog) (ds ++ gs)).all (· ≤ reachBytes) = true := hsz0
  have hval : ∀ (j : Nat) t v, Tryd.f4.params[j]? = some t → args[j]? = some v → Value.okWide Tryd.prog W .any base t v := hval0
  have hW' : DataW.Whole enc Tryd.prog Tryd.f4.params.toList Rows.machAloneSpec.vars false W args.toList ds gs before := hW
  have hW : DataW.Whole enc Tryd.prog Tryd.f4.params.toList Rows.machAloneSpec.vars false W args.toList ds gs before := hW
  obtain ⟨p, q, hA0, hV, rfl, hfz, hnd⟩ := hW
  have hA : DataW.TrodAll enc Tryd.prog W 0 (fun _ => true) true Tryd.f4.params.toList args.toList ds p := hA0
  rw [Tryd.params4] at hA hval hsz
  obtain ⟨v0, vs0, d0, ds0, p0, q0, hargs, rfl, rfl, h0, r0⟩ := trodAll_cons hA
  obtain ⟨v1, vs1, d1, ds1, p1, q1, rfl, rfl, rfl, h1, r1⟩ := trodAll_cons r0
  obtain ⟨rfl, rfl, rfl⟩ := trodAll_nil r1
  obtain rfl : args = #[v0, v1] := by cases args; simp_all
  obtain ⟨rfl, rfl⟩ := trodVars_none hV
  obtain ⟨x0, rfl, rfl, rfl, w0⟩ := open_int Tryd.underlying5 (hval 0 5 v0 rfl rfl) h0
  have k1 := h1
  have lt1 : ∀ x ∈ p1, x.block < W.heap.size := by obtain ⟨m, hm⟩ := k1; exact DataW.trod_lt m _ _ _ hm
  have ww1 := E.weights_at hsz (j := 1) (t := 39) (d := d1) rfl rfl
  obtain ⟨fu1, hf1⟩ := h1
  obtain ⟨aa1, ln1, cp1, rfl⟩ := okWide_slice Tryd.underlying39 (hval 1 39 v1 rfl rfl)
  have hg1 : DataW.trod enc Tryd.prog W 0 (fun _ => true) true fu1 39 [.slice aa1 ln1 cp1] = some (d1, p1) := hf1
  obtain ⟨l1, o1, y1, r1⟩ := old_slice (T := UT) (y := (d1, p1)) Tryd.underlying39 (by kernel_rfl) rf_u8 hg1 ww1 (hval 1 39 _ rfl rfl)
  have z1 : l1.length ≤ 1048576 := by
    have b1 : ln1 ≤ Rows.uptoBulk d1 := bulk_slice Tryd.underlying39 hg1
    have b2 : Rows.uptoBulk d1 ≤ 1048576 := Nat.le_trans (bulk_mem (by simp)) (of_decide_eq_true hsmall)
    obtain ⟨a9, c9, e9⟩ := o1.form
    injection e9 with _ e9 _
    omega
  clear hA0 hval0 hsz0 hsz
  obtain ⟨⟨v, S'⟩, e, ev⟩ := alone_law (W := W) (S := St.start W) (start_ok W) TB x0 w0 o1 z1 r1
  obtain rfl : v = .bool true := ev
  refine (calls_of_W (P := Tryd.prog) (hG_of TB) (by kernel_rfl) (fun v hv => ?_) e).mono ?_
  · simp only [List.mem_toArray, List.mem_cons, List.not_mem_nil, or_false] at hv
    rcases hv with rfl | rfl
    · exact rfl
    · exact o1.old
  rintro e W' ⟨rfl, bel⟩
  exact ⟨_, rfl, _, _, _, [], _, [], hW', trodAll_mk1 (shut_bool Tryd.underlying4 _), (trodAll_cons_mk (shut_int Tryd.underlying5 w0) (trodAll_cons_mk (Below.trod laidOut (by kernel_rfl) (of_decide_eq_true (by kernel_rfl)) k1 bel lt1) trodAll_mk0)), rfl, bel.frame _, fun h => by cases h⟩
theorem over : Rows.machAloneUptoRow.holds Tryd.pinned (Rows.OpenSpec.upto Rows.machAloneSpec) :=
  OpenClaim.holds_of_cond 4 Tryd.f4 rfl rfl rfl rfl rfl rfl rfl ⟨rfl, rfl, rfl, rfl, rfl⟩ rfl rfl rfl rfl rfl (by kernel_rfl) Tryd.func4 (by kernel_rfl)
    (of_decide_eq_true (by kernel_rfl)) (by unfold Func.isWrapper; first | (rw [if_pos (by decide +kernel)]; kernel_rfl) | (rw [if_neg (by decide +kernel)]; exact ⟨rfl, rfl⟩))
    (fun os started H enc _ F0 => lifted os started H enc F0)
theorem card : Rows.MachAloneUptoCardSaid :=
  Claim7.holds_tied_plain_at .later [] [.data] true (true, "c925964d6ee0550ccc9b9b77719177b031e16cc5293aaad310006dccf5001969") false
    over (fun _ h => by cases h) (by kernel_rfl) (fun _ h => by cases h) machAloneUpto_row_tie rfl ⟨rfl, rfl⟩ (by kernel_rfl) rfl
    (fun f fn hf hfn => by
      obtain rfl : f = 4 := Option.some.inj ((show Tryd.prog.funcNamed "tocsin/tocsinlaw13.MachAlone" = some 4 by kernel_rfl).symm.trans hf) |>.symm
      obtain rfl : fn = Tryd.f4 := (Option.some.inj (Tryd.func4.symm.trans hfn)).symm
      exact ⟨by kernel_rfl, fun j t ht => by
        rw [Tryd.params4] at ht
        have hm : t ∈ [5, 39] := by simpa using Array.mem_of_getElem? ht
        have hall : ([5, 39].all fun u => !Tryd.prog.wantsStandIn u) = true := by kernel_rfl
        exact (show Tryd.prog.wantsStandIn t = false by simpa using List.all_eq_true.1 hall t hm)⟩)
    (by kernel_rfl)
#print axioms card
end Go.Proofs.YtnnajiaaakkjfaaDoor.machAlone
namespace Go.Proofs.YtnnajiaaakkjfaaDoor
/-- The tied card, under a short name, for the claim. -/
theorem machAloneUpto_holds : Rows.MachAloneUptoCardSaid := machAlone.card
end Go.Proofs.YtnnajiaaakkjfaaDoor
