/- The row, over the walk. -/
import Derived.Test.YteofdikfdknpbaaRows
import Derived.Test.YteofdikfdknpbaaRWalkA2
import Derived.WalkKit
import Derived.ProofKit
import Derived.OpenShut
import Derived.ShutString
import Derived.ChangeOld
import Derived.Below
import Derived.SizedLaws
namespace Go.Proofs.Yteofdikfdknpbaa.alignTogether
open Go Go.ChangeShapes Go.WideShapes Go.ChangeAt Go.RowKit Go.Proofs.Yteofdikfdknpbaa Go.Proofs.Yteofdikfdknpbaa.E Go.Proofs.Yteofdikfdknpbaa.F
open Go.ChangeMaps (open_string shut_string)
set_option linter.unusedVariables false
set_option linter.unusedSimpArgs false
theorem own : ownKnob Try.prog.godebug = none := by kernel_rfl
theorem laidOut : laidOutB Try.prog = true := by kernel_rfl
theorem hG_of (W : World) : Try.prog.globals.size ≤ W.heap.size := by rw [show Try.prog.globals.size = 0 from by kernel_rfl]; exact Nat.zero_le _
theorem start_ok (W : World) : Gd W (St.start1 W) := ⟨Nat.le_refl _, ⟨Nat.le_succ _, fun _ _ => rfl⟩, fun _ _ => rfl⟩
theorem start_lt (W : World) : W.heap.size < (St.start1 W).c := Nat.lt_succ_self _
set_option maxRecDepth 100000 in
theorem lifted (os : Os) (started : os.Started) (H : Type) (enc : TypeId × Value → H) :
    ReturnsInHanded {} Try.checked os 4 .any (Rows.alignTogetherSpec.pre6 enc Try.prog Try.f4 Rows.alignTogetherRow.domain false) (Rows.alignTogetherSpec.post enc Try.prog Try.f4 false true false false) := by
  refine returnsInHanded_of_change_sized (C := Try.checked) own started (by kernel_rfl) Try.func4
    (ChangeSpec.witness6 (enc := enc) (C := Try.checked) false ⟨#[], #[.agg #[.int .i64 0, .int .i64 0, .int .i64 0, .int .i64 0, .int .i64 0, .slice none 0 0, .slice none 0 0, .slice none 0 0, .int .i64 0], .agg #[.int .i32 0, .int .i32 0], .int .u32 0], []⟩ 8 (by kernel_rfl) (by kernel_rfl) (by kernel_rfl) (by kernel_rfl)) ?_
  intro W base args ds gs before hval0 hW hcnd hsz0 _
  have hsz : (DataW.weightsEach Try.prog (Try.f4.params.toList ++ Rows.alignTogetherSpec.plain.varTypes Try.prog) (ds ++ gs)).all (· ≤ reachBytes) = true := hsz0
  have hval : ∀ (j : Nat) t v, Try.f4.params[j]? = some t → args[j]? = some v → Value.okWide Try.prog W .any base t v := hval0
  have hW' := hW
  obtain ⟨p, q, hA0, hV, rfl, hfz, hnd⟩ := hW
  have hA : DataW.TrodAll enc Try.prog W 0 (fun _ => true) true Try.f4.params.toList args.toList ds p := hA0
  rw [Try.params4] at hA hval hsz
  obtain ⟨v0, vs0, d0, ds0, p0, q0, hargs, rfl, rfl, h0, r0⟩ := trodAll_cons hA
  obtain ⟨v1, vs1, d1, ds1, p1, q1, rfl, rfl, rfl, h1, r1⟩ := trodAll_cons r0
  obtain ⟨v2, vs2, d2, ds2, p2, q2, rfl, rfl, rfl, h2, r2⟩ := trodAll_cons r1
  obtain ⟨rfl, rfl, rfl⟩ := trodAll_nil r2
  obtain rfl : args = #[v0, v1, v2] := by cases args; simp_all
  obtain ⟨rfl, rfl⟩ := trodVars_none hV
  have k0 := h0
  have lt0 : ∀ x ∈ p0, x.block < W.heap.size := by obtain ⟨m, hm⟩ := k0; exact DataW.trod_lt m _ _ _ hm
  have ww0 := E.weights_at hsz (j := 0) (t := 26) (d := d0) rfl rfl
  obtain ⟨fu0, hf0⟩ := h0
  obtain ⟨cs0, rfl, _⟩ := okWide_struct Try.underlying26 (hval 0 26 v0 rfl rfl)
  obtain ⟨c0, q0', ec0, B0, R0, at0, ov0⟩ := old_cfg (cs := cs0.toList) hf0 ww0 (hval 0 26 _ rfl rfl)
  obtain rfl : cs0 = (ccs c0 q0').toArray := by rw [← Array.toList_inj]; exact ec0
  have k1 := h1
  have lt1 : ∀ x ∈ p1, x.block < W.heap.size := by obtain ⟨m, hm⟩ := k1; exact DataW.trod_lt m _ _ _ hm
  have ww1 := E.weights_at hsz (j := 1) (t := 42) (d := d1) rfl rfl
  obtain ⟨fu1, hf1⟩ := h1
  obtain ⟨cs1, rfl, _⟩ := okWide_arr Try.underlying42 (hval 1 42 v1 rfl rfl)
  obtain ⟨x1, y1, hx1, u1, z1⟩ := rd_j2 (cs := cs1.toList) hf1 ww1
  obtain rfl : cs1 = #[.int .i32 x1, .int .i32 y1] := by rw [← Array.toList_inj]; exact hx1
  obtain ⟨x2, rfl, rfl, rfl, w2⟩ := open_int Try.underlying27 (hval 2 27 v2 rfl rfl) h2
  clear hA0 hval0 hsz0 hsz
  obtain ⟨⟨v, S'⟩, e, ev⟩ := together_law (W := W) (S := St.start1 W) (start_ok W) c0 q0' (at0 _ (start_ok W) (start_lt W)) B0 R0 x1 y1 u1 z1 x2 w2
  obtain rfl : v = .bool true := ev
  refine (calls_of_W1 (P := Try.prog) (hG_of W) (by kernel_rfl) (fun v hv => ?_) e).mono ?_
  · simp only [List.mem_toArray, List.mem_cons, List.not_mem_nil, or_false] at hv
    rcases hv with rfl | rfl | rfl
    · exact (by show (ccs c0 q0').toArray.all (oldV W) = true; rw [List.all_toArray]; exact ov0)
    · exact (by simp [oldArg, oldV, flat0])
    · exact rfl
  rintro e W' ⟨rfl, bel⟩
  exact ⟨_, rfl, _, _, _, [], _, [], hW', trodAll_mk1 (shut_bool Try.underlying4 _), (trodAll_cons_mk (Below.trod laidOut (by kernel_rfl) (of_decide_eq_true (by kernel_rfl)) k0 bel lt0) (trodAll_cons_mk (Below.trod laidOut (by kernel_rfl) (of_decide_eq_true (by kernel_rfl)) k1 bel lt1) (trodAll_cons_mk (shut_int Try.underlying27 w2) trodAll_mk0))), rfl, bel.frame _, fun h => by cases h⟩
theorem over : Rows.alignTogetherRow.holds Try.pinned (OpenSpec.ofChange Rows.alignTogetherSpec) :=
  OpenClaim.holds_of_wide 4 Try.f4 rfl rfl rfl rfl rfl rfl rfl ⟨rfl, rfl, rfl, rfl, rfl⟩ rfl rfl rfl rfl rfl (by kernel_rfl) Try.func4 (by kernel_rfl)
    (of_decide_eq_true (by kernel_rfl)) (by unfold Func.isWrapper; first | (rw [if_pos (by decide +kernel)]; kernel_rfl) | (rw [if_neg (by decide +kernel)]; exact ⟨rfl, rfl⟩))
    (fun os started H enc _ => lifted os started H enc)
theorem proved : Rows.AlignTogetherSaid := over
#print axioms proved
end Go.Proofs.Yteofdikfdknpbaa.alignTogether
namespace Go.Proofs.Yteofdikfdknpbaa
/-- The row, under a short name, for the claim. -/
theorem alignTogether_holds : Rows.AlignTogetherSaid := alignTogether.proved
end Go.Proofs.Yteofdikfdknpbaa
