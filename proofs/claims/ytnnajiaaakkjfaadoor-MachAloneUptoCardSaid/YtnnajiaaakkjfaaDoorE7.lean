/- One operation of the evaluator's is the operation of the model: addresses, parts, conversions. -/
import Derived.Test.YtnnajiaaakkjfaaDoorE6
namespace Go.Proofs.YtnnajiaaakkjfaaDoor.E
open Go Go.RowKit
set_option linter.unusedVariables false

section
variable {P : Program} {W : World} {φ : Emb} {S : St} {w : World}

theorem does_bin (h : Rel W φ S w) {op : BinOp} {t : TypeId} {x y : Operand} {a a' b b' v : Value} (ha : VRel W.heap.size φ a a') (hb : VRel W.heap.size φ b b') (e : aBin P op t a b = some v) :
    Does P W φ S w (do eqGuard op t x y a' b'; binOp op t a' b') v S := by
  unfold aBin at e
  split at e
  rotate_left
  · cases e
  rename_i hc
  obtain ⟨e, hv⟩ := stillF_spec e
  have key : still P (do eqGuard op t (.const (.bool true)) (.const (.bool true)) a' b'; binOp op t a' b') = some v ∧ a' ≠ .nilIface := by
    by_cases hff : (flat a && flat b) = true
    · simp only [Bool.and_eq_true] at hff
      rw [flat_eq hff.1 ha, flat_eq hff.2 hb]
      exact ⟨e, notIface hff.1⟩
    · rw [Bool.or_eq_true] at hc
      have hc := hc.resolve_left hff
      simp only [Bool.and_eq_true, Bool.or_eq_true] at hc
      obtain ⟨⟨hop, hn⟩, hja⟩ := hc
      have gone : ∀ a b : Value, (nilish a = true ∨ nilish b = true) → a ≠ .nilIface → (eqGuard op t (.const (.bool true)) (.const (.bool true)) a b : Sem Unit) = pure () := by
        intro a b hn hni
        unfold eqGuard
        cases a <;> first | exact (hni rfl).elim | (split <;> rfl) | skip
        cases b <;> first | (simp [nilish] at hn; done) | (split <;> rfl)
      have ni : a ≠ .nilIface ∧ a' ≠ .nilIface := by
        rcases hn with hn | hn
        · have := nilish_flat hn
          rw [flat_eq this ha]
          exact ⟨notIface this, notIface this⟩
        · cases ha <;> first | (cases hja; done) | (constructor <;> (intro hh; cases hh))
      have hn' : nilish a' = true ∨ nilish b' = true := by
        rcases hn with hn | hn
        · exact .inl (by rw [flat_eq (nilish_flat hn) ha]; exact hn)
        · exact .inr (by rw [flat_eq (nilish_flat hn) hb]; exact hn)
      refine ⟨?_, ni.2⟩
      rw [gone a b hn ni.1] at e
      rw [gone a' b' hn' ni.2]
      have par : ∀ r, still P (Op.equal t a b) = some r → still P (Op.equal t a' b') = some r := by
        intro r er
        rcases hn with hn | hn
        · rw [flat_eq (nilish_flat hn) ha]; exact eq_nilish_left hn hb er
        · rw [flat_eq (nilish_flat hn) hb]; exact eq_nilish_right hn ha er
      have shape : ∀ a b : Value, (nilish a = true ∨ nilish b = true) → (binOp .eql t a b = do pure (.bool (← Op.equal t a b))) ∧ (binOp .neq t a b = do pure (.bool (!(← Op.equal t a b)))) := by
        intro a b hn
        cases a <;> first | exact ⟨rfl, rfl⟩ | (cases b <;> first | exact ⟨rfl, rfl⟩ | (simp [nilish] at hn; done))
      show still P (binOp op t a' b') = some v
      have e : still P (binOp op t a b) = some v := e
      cases op <;> first | (simp [isEq] at hop; done) | skip
      · rw [(shape a b hn).1, still_bind] at e
        rw [(shape a' b' hn').1, still_bind]
        cases hr : still P (Op.equal t a b) with
        | none => rw [hr] at e; cases e
        | some r => rw [hr] at e; rw [par r hr]; exact e
      · rw [(shape a b hn).2, still_bind] at e
        rw [(shape a' b' hn').2, still_bind]
        cases hr : still P (Op.equal t a b) with
        | none => rw [hr] at e; cases e
        | some r => rw [hr] at e; rw [par r hr]; exact e
  refine Does.same h (still_run w ?_) (flat_refl hv)
  rw [eqGuard_const op t x y _ _ a' b' key.2]
  exact key.1

theorem does_un (h : Rel W φ S w) {op : UnOp} {a a' v : Value} (ha : VRel W.heap.size φ a a') (e : aUn P op a = some v) : Does P W φ S w (Op.unary op a') v S := by
  unfold aUn at e
  split at e
  · rw [flat_eq ‹_› ha]; exact Does.stillF h e
  · cases e

theorem bytes_spec : ∀ {l : List Value} {bs : List UInt8}, bytesOfCells l = some bs → ∃ ns : List Int, l = ns.map (Value.int .u8) ∧ bs = ns.map fun n => UInt8.ofNat n.toNat
  | [], bs, h => by simp only [bytesOfCells, Option.some.injEq] at h; subst h; exact ⟨[], rfl, rfl⟩
  | v :: l, bs, h => by
    cases v with
    | int k n =>
      cases k with
      | u8 =>
        simp only [bytesOfCells] at h
        split at h
        · rename_i r hr
          cases h
          obtain ⟨ns, e1, e2⟩ := bytes_spec hr
          exact ⟨n :: ns, by rw [e1]; rfl, by rw [e2]; rfl⟩
        · cases h
      | _ => simp [bytesOfCells] at h
    | _ => simp [bytesOfCells] at h
theorem push_bytes (ns : List Int) : ∀ s : ByteArray, ns.foldl (fun r n => r.push (UInt8.ofNat n.toNat)) s = ⟨s.data ++ (ns.map fun n => UInt8.ofNat n.toNat).toArray⟩ := by
  induction ns with
  | nil => intro s; simp
  | cons n ns ih => intro s; rw [List.foldl_cons, ih]; simp [ByteArray.push]
theorem ints_rel {N : Nat} {ns : List Int} {l' : List Value} (h : LRel N φ (ns.map (Value.int .u8)) l') : l' = ns.map (Value.int .u8) := by
  induction ns generalizing l' with
  | nil => exact LRel.of_nil h
  | cons n ns ih =>
    obtain ⟨v', r, rfl, h1, h2⟩ := LRel.uncons (v := .int .u8 n) (l := ns.map (Value.int .u8)) h
    cases h1
    rw [ih h2]
    rfl

theorem AStep.newOk {S : St} (h : Rel W φ S w) (o : AObj) : AStep S (S.new o) := AStep.new S o h.ok.1

theorem does_conv (h : Rel W φ S w) {src dst : TypeId} {x x' v : Value} {S' : St} (hx : VRel W.heap.size φ x x') (hsrc : ∃ u, P.underlying src = some u) (e : aConv P W S src dst x = some (v, S')) (hf : S.c < S'.c → φ S.c = none) :
    Does P W φ S w (convert src dst x') v S' := by
  unfold aConv at e
  split at e
  · rename_i a n c
    split at e
    · rename_i el hs hd
      split at e
      · rename_i he
        split at e
        · rename_i l hl
          split at e
          · rename_i bs hbs
            cases e
            cases hx with
            | sl hsl =>
              rename_i a' c'
              obtain ⟨ns, rfl, rfl⟩ := bytes_spec hbs
              by_cases hn : n = 0
              · subst hn
                have hns : ns = [] := by
                  unfold St.cells at hl
                  rw [if_pos rfl] at hl
                  cases ns with
                  | nil => rfl
                  | cons _ _ => simp at hl
                subst hns
                refine Does.same h ?_ (.string _)
                rw [run_convert_bytes_string w src dst el _ _ _ hs he hd, run_bytesToString w _ 0 c' [] (by rfl)]
                rfl
              · obtain ⟨L, k1, k2, k3, k4, k5⟩ := hsl
                have hoff : a'.off = L.off + a.off := by
                  rcases k5 with k | k | k
                  · exact k.2.2
                  · exact k.2.2.1
                  · exact (hn k.2.1).elim
                obtain ⟨l', r1, r2, r3⟩ := cells_sound h (a := a) (a' := a') ⟨L, k1, k2, hoff, k3, k4⟩ hl
                refine Does.same h ?_ (.string _)
                rw [run_convert_bytes_string w src dst el _ _ _ hs he hd, run_bytesToString w _ n c' ns (by
                  have := ints_rel r1
                  subst this
                  exact runLoadCells (r1.1.symm.trans r2) r3), push_bytes]
                simp
            | sl0 hb =>
              rename_i b o a'
              obtain ⟨ns, rfl, rfl⟩ := bytes_spec hbs
              have hns : ns = [] := by
                unfold St.cells at hl
                rw [if_pos rfl] at hl
                cases ns with
                | nil => rfl
                | cons _ _ => simp at hl
              subst hns
              refine Does.same h ?_ (.string _)
              rw [run_convert_bytes_string w src dst el _ _ _ hs he hd, run_bytesToString w _ 0 0 [] (by rfl)]
              rfl
          · cases e
        · cases e
      · cases e
    · cases e
  · rename_i s
    cases hx
    split at e
    · rename_i el hd
      split at e
      · rename_i he
        split at e
        · rename_i hle
          cases e
          obtain ⟨u, hs⟩ := hsrc
          have hfree := hf (Nat.lt_succ_self _)
          have hrun := Lib.run_convert_string_bytes (P := P) w src dst el s hs hd he
          have hcap : s.size ≤ grownCap w s.size 0 el := Nat.le_add_right _ _
          have hbs : (Lib.bytesCells w el s).size = grownCap w s.size 0 el := by
            have hd : s.data.size = s.size := rfl
            unfold Lib.bytesCells
            simp only [Array.size_append, Array.size_map, Array.size_replicate, hd]
            omega
          have hpost : Post W φ S w (Emb.ext φ S.c ⟨w.heap.size, 0, 1, (Lib.bytesCells w el s).size⟩) (S.new (.row (s.data.toList.map fun b => .int .u8 b.toNat) 1)) (Lib.bytesWorld w el s) := by
            have p := new_fresh h hfree (cs := s.data.toList.map fun b => .int .u8 b.toNat) 1 el (Lib.bytesCells w el s) (LRel.map _ fun b _ => .int _ _) (fun j u hu => by
              unfold Lib.bytesCells
              have hlt : j < (s.data.map fun b => Value.int .u8 b.toNat).size := by
                have := (List.getElem?_eq_some_iff.1 hu).1
                simpa using this
              rw [Array.getElem?_append_left hlt, ← Array.getElem?_toList, Array.toList_map]
              exact hu) (by rw [hbs]; simp only [List.length_map, Array.length_toList]; exact hcap)
            have same : ∀ b, b ≠ w.heap.size → (Lib.bytesWorld w el s).heap[b]? = (w.alloc (.cells (Lib.bytesCells w el s) el)).heap[b]? := by
              intro b hb
              rcases Nat.lt_or_ge b w.heap.size with hlt | hge
              · rw [Lib.bytesWorld_at_old w el s b hlt, Below.heap_alloc _ _ _ hlt]
              · rw [Array.getElem?_eq_none (by rw [Lib.bytesWorld_size]; omega), Array.getElem?_eq_none (by show (w.heap.push _).size ≤ b; simp; omega)]
            have q := post_write p.rel (i := S.c) (L := ⟨w.heap.size, 0, 1, (Lib.bytesCells w el s).size⟩) (o := .row (s.data.toList.map fun b => .int .u8 b.toNat) 1) (w' := Lib.bytesWorld w el s) (if_pos rfl) h.ok.1 (by show (if S.c = S.c then _ else _) ≠ _; rw [if_pos rfl]; exact fun e => by cases e)
              (by rw [Lib.bytesWorld_size]; show _ = (w.heap.push _).size; simp) same rfl rfl rfl ?_
            · have e : (S.new (.row (s.data.toList.map fun b => .int .u8 b.toNat) 1)).upd S.c (.row (s.data.toList.map fun b => .int .u8 b.toNat) 1) = S.new (.row (s.data.toList.map fun b => .int .u8 b.toNat) 1) := by
                simp only [St.new, St.upd]
                congr 1
                funext m
                split <;> rfl
              rw [e] at q
              exact p.trans (Nat.le_succ _) (Nat.le_refl _) q
            · refine ⟨Lib.bytesCells w el s, el, _, Lib.bytesWorld_at_new w el s, fun j hj hh => by have := hh.1; omega, rfl, rfl, by rw [hbs]; simp only [List.length_map, Array.length_toList, Nat.zero_add]; exact hcap, fun j u hu => ?_⟩
              have hlt : j < (s.data.map fun b => Value.int .u8 b.toNat).size := by
                have := (List.getElem?_eq_some_iff.1 hu).1
                simpa using this
              refine ⟨u, ?_, ?_⟩
              · rw [Nat.zero_add]
                unfold Lib.bytesCells
                rw [Array.getElem?_append_left hlt, ← Array.getElem?_toList, Array.toList_map]
                exact hu
              · obtain ⟨hx, e⟩ := List.getElem?_eq_some_iff.1 hu
                rw [List.getElem_map] at e
                subst e
                exact .int _ _
          exact ⟨_, _, _, hrun, .sl ⟨_, if_pos rfl, rfl, rfl, fun _ => rfl,   .inr (.inl ⟨Nat.one_ne_zero, hcap, rfl, by rw [hbs]; simp⟩)⟩, hpost, AStep.newOk h _⟩
        · cases e
      · cases e
    · split at e
      · cases e; exact Does.stillF h ‹_›
      · cases e
  · split at e
    · split at e
      · cases e; rw [flat_eq ‹_› hx]; exact Does.stillF h ‹_›
      · cases e
    · cases e

/-- Parts of a value. -/
theorem still_agg (t : TypeId) : still P (isAgg t) = (P.underlying t).map aggT := by
  unfold isAgg
  rw [still_bind, still_und]
  cases P.underlying t with
  | none => rfl
  | some d => cases d <;> rfl
theorem part_rel (h : Rel W φ S w) {t : TypeId} {cs cs' : Array Value} {off : Nat} {v : Value} (hr : RRel W.heap.size φ cs cs') (e : still P (part t cs off) = some v) : ∃ v', still P (part t cs' off) = some v' ∧ VRel W.heap.size φ v v' := by
  unfold part at *
  rw [still_bind, still_agg] at *
  cases hu : P.underlying t with
  | none => rw [hu] at e; cases e
  | some d =>
    rw [hu] at e
    simp only [Option.map_some, Option.bind_some] at e ⊢
    split at e
    · rename_i hb
      rw [if_pos hb]
      rw [still_bind, still_size] at *
      cases hn : szOf P t with
      | none => rw [hn] at e; cases e
      | some n =>
        rw [hn] at e
        simp only [Option.bind_some, still_pure, Option.some.injEq] at e ⊢
        subst e
        exact ⟨_, rfl, VRel.agg' (hr.extract _ _)⟩
    · rename_i hb
      rw [if_neg hb]
      split at e
      · rename_i u hu2
        obtain ⟨v', a, b⟩ := hr.getElem? hu2
        rw [still_pure] at e
        cases e
        rw [a]
        exact ⟨v', rfl, b⟩
      · cases e
theorem does_field (h : Rel W φ S w) {t : TypeId} {x x' v : Value} {f : Nat} (hx : VRel W.heap.size φ x x') (e : still P (Instr.field t x f) = some v) : Does P W φ S w (Instr.field t x' f) v S := by
  have : ∃ v', still P (Instr.field t x' f) = some v' ∧ VRel W.heap.size φ v v' := by
    unfold Instr.field at *
    rw [still_bind, still_und] at *
    cases hu : P.underlying t with
    | none => rw [hu] at e; cases e
    | some d =>
      rw [hu, Option.bind_some] at e
      rw [Option.bind_some]
      cases d with
      | struct fs =>
        dsimp only at *
        split at e
        · rename_i fd hfd
          try rw [hfd]
          try dsimp only
          rw [still_bind] at *
          cases hx with
          | agg hs hp => exact part_rel h (RRel.of_pt hs hp) e
          | _ => cases e
        · cases e
      | _ => cases e
  obtain ⟨v', a, b⟩ := this
  exact Does.same h (still_run w a) b
theorem does_index (h : Rel W φ S w) {t : TypeId} {x x' i i' v : Value} (hx : VRel W.heap.size φ x x') (hi : VRel W.heap.size φ i i') (e : still P (Instr.index t x i) = some v) : Does P W φ S w (Instr.index t x' i') v S := by
  have hb0 : ∀ (k : IntKind) (n : Int) (m : Nat) (c : BoundsCode), still P (boundsPanic k n m c : Sem Value) = none := by
    intro k n m c
    unfold boundsPanic
    dsimp only
    split <;> rw [still_bind]
    · rfl
    · rw [still_pure]; rfl
  have : ∃ v', still P (Instr.index t x' i') = some v' ∧ VRel W.heap.size φ v v' := by
    unfold Instr.index at *
    cases hi with
    | int k n =>
      simp only [asIntOf] at *
      rw [still_bind, still_pure, Option.bind_some] at *
      dsimp only at *
      rw [still_bind, still_und] at *
      cases hu : P.underlying t with
      | none => rw [hu] at e; cases e
      | some d =>
        rw [hu, Option.bind_some] at e
        rw [Option.bind_some]
        cases d with
        | array len el =>
          cases hx with
          | agg hs hp =>
            dsimp only at *
            split at e
            · rename_i hlt
              rw [if_pos hlt]
              rw [still_bind, still_size] at *
              cases hn : szOf P el with
              | none => rw [hn] at e; cases e
              | some m =>
                rw [hn, Option.bind_some] at e
                rw [Option.bind_some]
                exact part_rel h (RRel.of_pt hs hp) e
            · rw [hb0] at e; cases e
          | _ => cases e
        | string =>
          cases hx with
          | string s =>
            dsimp only at *
            split at e
            · rename_i b hb
              try rw [hb]
              rw [still_pure] at e
              cases e
              exact ⟨_, rfl, .int _ _⟩
            · rw [hb0] at e; cases e
          | _ => cases e
        | _ => cases e
    | _ => cases e
  obtain ⟨v', a, b⟩ := this
  exact Does.same h (still_run w a) b
theorem does_extract (h : Rel W φ S w) {x x' v : Value} {i : Nat} (hx : VRel W.heap.size φ x x') (e : still P (Instr.extract x i) = some v) : Does P W φ S w (Instr.extract x' i) v S := by
  cases hx with
  | tuple hs hp =>
    simp only [Instr.extract] at e
    split at e
    · rename_i u hu
      rw [still_pure] at e
      cases e
      obtain ⟨v', a, b⟩ := (RRel.of_pt hs hp).getElem? hu
      refine Does.same h ?_ b
      simp only [Instr.extract, a]
      rfl
    · cases e
  | _ => cases e
theorem does_fieldAddr (h : Rel W φ S w) {s : TypeId} {x x' v : Value} {f : Nat} (hx : VRel W.heap.size φ x x') (e : aFieldAddr P s x f = some v) : Does P W φ S w (Instr.fieldAt s x' f) v S := by
  unfold aFieldAddr at e
  split at e
  · rename_i fs a hu
    split at e
    · rename_i fd hfd
      split at e
      · rename_i n hn
        split at e
        · cases e
        · rename_i hn0
          cases e
          cases hx with
          | ptr ha =>
            rename_i a'
            refine Does.same h (v' := .pointer (some (a'.add fd.offset))) ?_ (.ptr (ha.add _))
            unfold Instr.fieldAt
            rw [run_bind_ok (run_und hu w)]
            dsimp only
            rw [hfd]
            dsimp only [Instr.sureAddr]
            rw [run_bind_ok (runPure _ _)]
            unfold fieldPlace
            simp only [Sem.run_bind, run_size hn, Result.andThen_ok, if_neg hn0]
            rfl
      · cases e
    · cases e
  · cases e
theorem does_indexAddr (h : Rel W φ S w) {t : TypeId} {x x' i i' v : Value} (hx : VRel W.heap.size φ x x') (hi : VRel W.heap.size φ i i') (e : aIndexAddr P t x i = some v) : Does P W φ S w (Instr.indexAt t x' i') v S := by
  unfold aIndexAddr at e
  split at e
  · rename_i k n
    cases hi
    split at e
    · rename_i el a len c hu
      split at e
      · rename_i hlt
        split at e
        · rename_i m hm
          cases e
          cases hx with
          | sl hsl =>
            rename_i a' c'
            obtain ⟨L, k1, k2, k3, k4, k5⟩ := hsl
            have hoff : a'.off = L.off + a.off := by
              rcases k5 with k | k | k
              · exact k.2.2
              · exact k.2.2.1
              · have := hlt.2; rw [k.2.1] at this; omega
            have ha : ARel W.heap.size φ a a' := ⟨L, k1, k2, hoff, k3, k4⟩
            refine Does.same h (v' := .pointer (some (a'.add (n.toNat * m)))) ?_ (.ptr (ha.add _))
            unfold Instr.indexAt
            simp only [asIntOf, Sem.run_bind, Sem.run_pure, Result.andThen_ok, run_und hu]
            simp only [if_pos hlt, Sem.run_bind, run_size hm, Result.andThen_ok]
            rfl
          | sl0 hb => exact absurd hlt.2 (by have := hlt.1; simp at *; omega)
        · cases e
      · cases e
    · rename_i len el a hu
      split at e
      · rename_i hlt
        split at e
        · rename_i m hm
          cases e
          cases hx with
          | ptr ha =>
            rename_i a'
            refine Does.same h (v' := .pointer (some (a'.add (n.toNat * m)))) ?_ (.ptr (ha.add _))
            unfold Instr.indexAt
            simp only [asIntOf, Sem.run_bind, Sem.run_pure, Result.andThen_ok, run_und hu, Instr.sureAddr]
            simp only [if_pos hlt, Sem.run_bind, run_size hm, Result.andThen_ok]
            rfl
        · cases e
      · cases e
    · cases e
  · cases e
end
end Go.Proofs.YtnnajiaaakkjfaaDoor.E
