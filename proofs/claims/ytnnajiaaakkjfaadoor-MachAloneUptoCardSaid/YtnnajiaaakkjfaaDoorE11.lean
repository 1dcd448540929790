/- One operation of the evaluator's is the operation of the model: lengths, rows made, copies. -/
import Derived.Test.YtnnajiaaakkjfaaDoorE10
namespace Go.Proofs.YtnnajiaaakkjfaaDoor.E
open Go Go.RowKit
set_option linter.unusedVariables false

section
variable {P : Program} {W : World} {φ : Emb} {S : St} {w : World}

theorem all_flat_eq {args args' : Array Value} (h : args.all flat = true) (k : RRel W.heap.size φ args args') : args' = args := by
  simp only [Array.all_eq_true_iff_forall_mem] at h
  exact Array.ext k.size.symm fun i h1 h2 => flat_eq (h _ (Array.getElem_mem h2)) (k.pt i h2 h1)

theorem len_still {ts : Array TypeId} {args args' : Array Value} (k : RRel W.heap.size φ args args') (hj : ∀ x, args[0]? = some x → notJ x = true) {v : Value} (e : still P (Builtin.len_ ts 0 args) = some v) : still P (Builtin.len_ ts 0 args') = some v := by
  unfold Builtin.len_ at *
  cases h0 : ts[0]? with
  | none => rw [h0] at e; cases e
  | some t =>
    rw [h0] at e
    cases h1 : args[0]? with
    | none => rw [h1] at e; cases e
    | some x =>
      rw [h1] at e
      obtain ⟨x', a, b⟩ := k.getElem? h1
      rw [a]
      dsimp only at e ⊢
      rw [still_bind, still_und] at *
      cases hu : P.underlying t with
      | none => rw [hu] at e; cases e
      | some d =>
        rw [hu, Option.bind_some] at e
        rw [Option.bind_some]
        have hjx := hj x h1
        cases b <;> first | (cases hjx; done) | exact e | skip
        all_goals (cases d <;> first | exact e | (simp [still, stuck] at e; done) | skip)
        all_goals (first | cases e | skip)

theorem does_len (h : Rel W φ S w) {ts : Array TypeId} {ty : TypeId} {args args' : Array Value} (k : RRel W.heap.size φ args args') {v : Value} (e : aLen P W S ts args = some v) : Does P W φ S w (Builtin.len_ ts ty args') v S := by
  unfold aLen at e
  split at e
  · rename_i t r h0 h1
    split at e
    · rename_i kt et hu
      split at e
      · cases e
      · rename_i hr
        split at e
        · rename_i es clk hh
          cases e
          obtain ⟨x', a, b⟩ := k.getElem? h1
          cases b with
          | map hm hz =>
            rename_i L
            refine Does.same h (v' := goInt es.size) ?_ (.int _ _)
            obtain ⟨b1, b2, b3⟩ := h.blk _ L hm (by omega)
            rw [hh] at b3
            unfold Builtin.len_
            rw [h0, a]
            dsimp only
            rw [run_bind_ok (run_und hu w)]
            dsimp only
            have : (getObj L.blk).run P w = .ok (.map es clk) w := by
              unfold getObj
              simp only [Sem.run, b3.1]
            rw [run_bind_ok this]
            rfl
        · cases e
    · cases e
  · rename_i h0 x h1
    split at e
    · rename_i hj
      obtain ⟨e1, e2⟩ := stillF_spec e
      exact Does.same h (still_run w (len_still k (fun x hx => by rw [hx] at h1; cases h1; exact hj) e1)) (flat_refl e2)
    · cases e
  · cases e

theorem flat_zero {z : Value} (hf : flat z = true) (n : Nat) : LRel W.heap.size φ (zeros n z.cells.toList) (zeros n z.cells.toList) := by
  have hf := flat_cells (W := W) (φ := φ) hf
  unfold zeros
  generalize List.range n = l
  induction l with
  | nil => exact LRel.nil
  | cons _ l ih => rw [List.flatMap_cons]; exact LRel.append hf ih

theorem does_makeSlice (h : Rel W φ S w) {t : TypeId} {l l' c c' v : Value} {S' : St} (hl : VRel W.heap.size φ l l') (hc : VRel W.heap.size φ c c') (e : aMakeSlice P S t l c = some (v, S')) (hf : S.c < S'.c → φ S.c = none) :
    Does P W φ S w (Instr.makeSlice t l' c') v S' := by
  unfold aMakeSlice at e
  split at e
  rotate_left
  · cases e
  rename_i el l c hu
  split at e
  rotate_left
  · cases e
  rename_i ie hi
  split at e
  rotate_left
  · cases e
  rename_i z hz
  split at e
  rotate_left
  · cases e
  rename_i hcond
  obtain ⟨hzs, hp, hfz, h0, hlc, hc47, hb⟩ := hcond
  cases e
  cases hl
  cases hc
  have hfree := hf (Nat.lt_succ_self _)
  have wl : IntKind.i64.wrap l = l := IntWalk.i64_in _ (by omega)
  have wc : IntKind.i64.wrap c = c := IntWalk.i64_in _ (by omega)
  have hcn : ((c.toNat : Nat) : Int) = c := Int.toNat_of_nonneg (by omega)
  have hsz : (Builtin.zeroCells z.cells c.toNat).size = c.toNat * ie.size := by rw [zeroCells_size, hzs]
  have hrow : (Array.range (c.toNat * ie.size)).map (fun i => z.cells[i % z.cells.size]!) = Builtin.zeroCells z.cells c.toNat := by
    unfold Builtin.zeroCells
    rw [hzs]
  have hrun : (Instr.makeSlice t (.int .i64 l) (.int .i64 c)).run P w = .ok (.slice (some ⟨w.heap.size, 0, none⟩) l.toNat c.toNat) (w.alloc (.cells (Builtin.zeroCells z.cells c.toNat) el)) := by
    unfold Instr.makeSlice
    rw [run_bind_ok (run_und hu w)]
    dsimp only
    rw [run_bind_ok (show (asInt (.int .i64 l)).run P w = .ok l w from rfl), run_bind_ok (show (asInt (.int .i64 c)).run P w = .ok c w from rfl), run_bind_ok (run_info hi w)]
    have t1 : (decide (c < 0) || decide ((ie.bytes : Int) * c > 2 ^ 48)) = false := by simp; omega
    have t2 : ((decide (c < 0) || decide ((ie.bytes : Int) * c > 2 ^ 48)) || decide (l < 0) || decide (l > c)) = false := by rw [t1]; simp; omega
    rw [wl, wc]
    rw [if_neg (by rw [t2]; exact Bool.false_ne_true)]
    rw [run_bind_ok (run_ask _ _), run_bind_ok (run_size (n := ie.size) (by unfold szOf; rw [hi]; rfl) w)]
    by_cases hz0 : c.toNat * ie.size = 0
    · rw [if_pos hz0, run_bind_ok (runPure _ _), run_bind_ok (run_newRow _ _ _)]
      have e1 : Builtin.zeroCells z.cells c.toNat = #[] := zeroCells_nil _ _ (by rw [hzs]; exact hz0)
      rw [e1, hz0]
      have e2 : ((Array.range 0).map fun i => (#[] : Array Value)[i % (#[] : Array Value).size]!) = #[] := by simp
      rw [e2]
      rfl
    · rw [if_neg hz0, run_bind_ok (run_zero hi hz w), run_bind_ok (runPure _ _), run_bind_ok (run_newRow _ _ _), hrow]
      rfl
  have hpost := new_fresh h hfree (cs := zeros c.toNat z.cells.toList) 0 el (Builtin.zeroCells z.cells c.toNat) (flat_zero hfz _) (fun j v hv => by rw [← Array.getElem?_toList, zeroCells_eq _ _ (by omega)]; exact hv) (by rw [hsz, zeros_length, Array.length_toList, hzs]; exact Nat.le_refl _)
  exact ⟨_, _, _, hrun, .sl ⟨_, if_pos rfl, rfl, rfl, fun _ => rfl, .inl ⟨rfl, rfl, rfl⟩⟩, hpost, AStep.newOk h _⟩

theorem does_buildSlice (h : Rel W φ S w) {t : TypeId} {len : Nat} {ps ps' : Array (Nat × Value)} {v : Value} {S' : St} (h1 : ps.toList.map (·.1) = ps'.toList.map (·.1)) (h2 : LRel W.heap.size φ (ps.toList.map (·.2)) (ps'.toList.map (·.2)))
    (e : aBuildSlice P S t len ps = some (v, S')) (hf : S.c < S'.c → φ S.c = none) : Does P W φ S w (Instr.buildSlice t len ps') v S' := by
  unfold aBuildSlice at e
  split at e
  rotate_left
  · cases e
  rename_i el hu
  split at e
  rotate_left
  · cases e
  rename_i size z hs hz
  obtain ⟨i, z1, z2, z3⟩ := aZero_spec hz
  split at e
  rotate_left
  · cases e
  rename_i hcond
  split at e
  rotate_left
  · cases e
  rename_i cells hfill
  cases e
  have hfree := hf (Nat.lt_succ_self _)
  have hbase : RRel W.heap.size φ ((Array.range (len * size)).map (z.cells[· % z.cells.size]!)) ((Array.range (len * size)).map (z.cells[· % z.cells.size]!)) := by
    refine RRel.map _ fun x _ => ?_
    have hfc := flat_cells (W := W) (φ := φ) z3
    by_cases hx : x % z.cells.size < z.cells.size
    · rw [getElem!_pos z.cells _ hx]; exact hfc.pt _ hx hx
    · rw [getElem!_neg z.cells _ hx]; exact .bool _
  obtain ⟨cells', f1, f2⟩ := fill_rel _ _ _ _ _ _ hcond.2.2 h1 h2 hbase hfill
  have hrun : (Instr.buildSlice t len ps').run P w = .ok (.slice (some ⟨w.heap.size, 0, none⟩) len len) (w.alloc (.cells cells' el)) := by
    unfold Instr.buildSlice
    rw [run_bind_ok (run_und hu w)]
    dsimp only
    rw [run_bind_ok (run_size hs w)]
    rw [if_neg (by omega)]
    rw [if_neg (by omega), run_bind_ok (run_zero z1 z2 w)]
    rw [run_bind_ok (runPure _ _), f1]
    dsimp only
    rw [run_bind_ok (run_newRow _ _ _)]
    rfl
  have hpost := new_fresh h hfree (cs := cells.toList) (cs' := cells'.toList) 0 el cells' f2 (fun j v hv => by rwa [Array.getElem?_toList] at hv) (by have := f2.size; simp; omega)
  exact ⟨_, _, _, hrun, .sl ⟨_, if_pos rfl, rfl, rfl, fun _ => rfl, .inl ⟨rfl, rfl, rfl⟩⟩, hpost, AStep.newOk h _⟩

theorem does_makeFunc (h : Rel W φ S w) (fn : Fn) {u u' v v' : Array Value} (hu : RRel W.heap.size φ u u') (hv : RRel W.heap.size φ v v') : Does P W φ S w (Instr.makeFunc fn u' v') (.func fn u v) S :=
  Does.same h rfl (VRel.func' fn hu hv)
end
end Go.Proofs.YtnnajiaaakkjfaaDoor.E
