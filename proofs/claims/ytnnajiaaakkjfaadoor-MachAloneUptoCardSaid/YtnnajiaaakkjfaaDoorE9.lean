/- One operation of the evaluator's is the operation of the model: append. -/
import Derived.Test.YtnnajiaaakkjfaaDoorE8
import Derived.IntWalk
namespace Go.Proofs.YtnnajiaaakkjfaaDoor.E
open Go Go.RowKit
set_option linter.unusedVariables false

section
variable {P : Program} {W : World} {φ : Emb} {S : St} {w : World}

def Src (P : Program) (xt e : TypeId) (size bytes : Nat) (z x : Value) (n : Nat) (new : Array Value) (w : World) : Prop :=
  ∃ d, P.underlying xt = some d ∧
    (((∃ k, d = .int k) ∧ x = .int .i64 n ∧ n ≤ 2 ^ 46 ∧ n * bytes ≤ 2 ^ 48 ∧ new = Builtin.zeroCells z.cells n) ∨
     ((∀ k, d ≠ .int k) ∧ (Builtin.lenOf x).run P w = .ok n w ∧ (Builtin.firstCells size n x).run P w = .ok new w))

theorem zeroCells_nil (z : Array Value) (n : Nat) (h : n * z.size = 0) : Builtin.zeroCells z n = #[] := by
  unfold Builtin.zeroCells
  rw [h]; simp

theorem append_room {ts : Array TypeId} {ty st xt e : TypeId} {ie : TypeInfo} {z : Value} {base : Option Addr} {sLen sCap n : Nat} {x : Value} {new : Array Value}
    (t0 : ts[0]? = some st) (t1 : ts[1]? = some xt) (h1 : P.underlying st = some (.slice e)) (h2 : P.info? e = some ie) (hz : ie.zero = some z) (hzs : z.cells.size = ie.size)
    (hs : Src P xt e ie.size ie.bytes z x n new w) (hle : sLen + n ≤ sCap) {w' : World} (hst : ∀ a, base = some a → (storeCells (a.add (sLen * ie.size)) new.toList).run P w = .ok () w') (hb : base = none → w' = w) :
    (Builtin.append_ ts ty #[.slice base sLen sCap, x]).run P w = .ok (.slice base (sLen + n) sCap) w' := by
  obtain ⟨d, hd, hs⟩ := hs
  have hsz := run_size (P := P) (t := e) (n := ie.size) (by unfold szOf; rw [h2]; rfl) w
  unfold Builtin.append_
  have a0 : (#[Value.slice base sLen sCap, x] : Array Value)[0]? = some (.slice base sLen sCap) := rfl
  have a1 : (#[Value.slice base sLen sCap, x] : Array Value)[1]? = some x := rfl
  rw [t0, t1, a0, a1]
  try dsimp only
  rw [run_bind_ok (run_und h1 w)]
  try dsimp only
  rw [run_bind_ok hsz]
  rw [run_bind_ok (run_und hd w), run_bind_ok (runPure _ _)]
  rcases hs with ⟨⟨k, rfl⟩, rfl, b1, b2, hnew⟩ | ⟨hz0, hlen, hnew⟩
  · have hw : IntKind.i64.wrap (n : Int) = n := IntWalk.i64_in _ (by omega)
    have c1 : ¬ ((n : Int) < 0) := by omega
    have c2 : ¬ ((n : Int) * (ie.bytes : Int) > 2 ^ 48) := by
      have : ((n * ie.bytes : Nat) : Int) ≤ ((2 ^ 48 : Nat) : Int) := Int.ofNat_le.2 b2
      simp only [Int.natCast_mul] at this
      omega
    try dsimp only
    rw [if_pos rfl, run_bind_ok (show (asInt (.int .i64 n)).run P w = .ok (n : Int) w from rfl)]
    try dsimp only
    rw [hw, if_neg c1, run_bind_ok (run_info h2 w), if_neg c2, run_bind_ok (runPure _ _)]
    have hz1 : (if n * ie.size = 0 then pure #[] else do pure (Builtin.zeroCells (← zeroValue e).cells n) : Sem (Array Value)).run P w = .ok new w := by
      by_cases h0 : n * ie.size = 0
      · rw [if_pos h0, hnew, zeroCells_nil z.cells n (by rw [hzs]; exact h0)]; rfl
      · rw [if_neg h0, run_bind_ok (run_zero h2 hz w), hnew]; rfl
    rw [Int.toNat_natCast, if_pos hle, if_neg (show ¬ (!true) = true by decide), run_bind_ok hz1]
    cases base with
    | none => rw [hb rfl]; rfl
    | some a => dsimp only; rw [run_bind_ok (hst a rfl)]; rfl
  · cases d <;> first | exact absurd rfl (hz0 _) | skip
    all_goals
      try dsimp only
      rw [if_neg Bool.false_ne_true, run_bind_ok hlen]
      try dsimp only
      rw [if_pos hle, if_pos (show (!false) = true from rfl), run_bind_ok hnew]
      cases base with
      | none => rw [hb rfl]; rfl
      | some a => dsimp only; rw [run_bind_ok (hst a rfl)]; rfl

theorem nextcap_le (need old : Nat) (h : old < need) : Builtin.nextslicecap need old ≤ need + need / 4 + 512 := by
  unfold Builtin.nextslicecap
  split
  · omega
  split
  · omega
  have key : ∀ r c, c < need → Builtin.growBy need r c ≤ need + need / 4 + 512 := by
    intro r
    induction r with
    | zero => intro c hc; simp only [Builtin.growBy]; omega
    | succ r ih =>
      intro c hc
      simp only [Builtin.growBy]
      rw [if_neg (by omega)]
      by_cases h2 : c + (c + 768) / 4 < need
      · exact ih _ h2
      · cases r with
        | zero => simp only [Builtin.growBy]; omega
        | succ r => simp only [Builtin.growBy]; rw [if_pos (by omega)]; omega
  exact key 4 old h

theorem run_ask (m : Nat) (w : World) : (askRoom m).run P w = .ok () w := by
  unfold askRoom
  split <;> rfl
theorem run_cap (need old : Nat) (e : TypeId) (w : World) : (choose (.appendCap need old e)).run P w = .ok ((Question.appendCap need old e).cut (w.tape w.drawn (.appendCap need old e))) { w with drawn := w.drawn + 1 } := rfl

theorem append_grow {ts : Array TypeId} {ty st xt e : TypeId} {ie : TypeInfo} {z : Value} {base : Option Addr} {sLen sCap n : Nat} {x : Value} {old new : Array Value}
    (t0 : ts[0]? = some st) (t1 : ts[1]? = some xt) (h1 : P.underlying st = some (.slice e)) (h2 : P.info? e = some ie) (hz : ie.zero = some z) (hzs : z.cells.size = ie.size)
    (hs : ∀ w' : World, w'.heap = w.heap → Src P xt e ie.size ie.bytes z x n new w') (hlt : ¬ sLen + n ≤ sCap) (hb : 0 < ie.bytes) (hsz2 : (sLen + n + (sLen + n) / 4 + 512) * ie.bytes ≤ 2 ^ 48)
    (hold : (Builtin.firstCells ie.size sLen (.slice base sLen sCap)).run P { w with drawn := w.drawn + 1 } = .ok old { w with drawn := w.drawn + 1 }) :
    ∃ cap, sLen + n ≤ cap ∧ (Builtin.append_ ts ty #[.slice base sLen sCap, x]).run P w =
      .ok (.slice (some ⟨w.heap.size, 0, none⟩) (sLen + n) cap) (World.alloc { w with drawn := w.drawn + 1 } (.cells (old ++ new ++ Builtin.zeroCells z.cells (cap - (sLen + n))) e)) := by
  obtain ⟨d, hd, hs0⟩ := hs w rfl
  refine ⟨(Question.appendCap (sLen + n) sCap e).cut (w.tape w.drawn (.appendCap (sLen + n) sCap e)), Nat.le_add_right _ _, ?_⟩
  have hsz := run_size (P := P) (t := e) (n := ie.size) (by unfold szOf; rw [h2]; rfl)
  have hcap := nextcap_le (sLen + n) sCap (by omega)
  have hnot : ¬ (Builtin.nextslicecap (sLen + n) sCap * ie.bytes > 2 ^ 48) := by
    have := Nat.mul_le_mul_right ie.bytes hcap
    omega
  have hmax : ¬ (((sLen + n : Nat) : Int) > IntKind.i64.max) := by
    have h48 : sLen + n ≤ 2 ^ 48 := by
      have := Nat.mul_le_mul_left (sLen + n + (sLen + n) / 4 + 512) hb
      omega
    have : IntKind.i64.max = 9223372036854775807 := by decide
    rw [this]
    omega
  have a0 : (#[Value.slice base sLen sCap, x] : Array Value)[0]? = some (.slice base sLen sCap) := rfl
  have a1 : (#[Value.slice base sLen sCap, x] : Array Value)[1]? = some x := rfl
  unfold Builtin.append_
  rw [t0, t1, a0, a1]
  dsimp only
  rw [run_bind_ok (run_und h1 w)]
  dsimp only
  rw [run_bind_ok (hsz w)]
  rw [run_bind_ok (run_und hd w), run_bind_ok (runPure _ _)]
  rcases hs0 with ⟨⟨k, rfl⟩, rfl, b1, b2, hnew⟩ | ⟨hz0, hlen, hnew⟩
  · have hw : IntKind.i64.wrap (n : Int) = n := IntWalk.i64_in _ (by omega)
    have c1 : ¬ ((n : Int) < 0) := by omega
    have c2 : ¬ ((n : Int) * (ie.bytes : Int) > 2 ^ 48) := by
      have : ((n * ie.bytes : Nat) : Int) ≤ ((2 ^ 48 : Nat) : Int) := Int.ofNat_le.2 b2
      simp only [Int.natCast_mul] at this
      omega
    try dsimp only
    rw [if_pos rfl, run_bind_ok (show (asInt (.int .i64 n)).run P w = .ok (n : Int) w from rfl)]
    try dsimp only
    rw [hw, if_neg c1, run_bind_ok (run_info h2 w), if_neg c2, run_bind_ok (runPure _ _)]
    have hz1 : ∀ w : World, (if n * ie.size = 0 then pure #[] else do pure (Builtin.zeroCells (← zeroValue e).cells n) : Sem (Array Value)).run P w = .ok new w := by
      intro w
      by_cases h0 : n * ie.size = 0
      · rw [if_pos h0, hnew, zeroCells_nil z.cells n (by rw [hzs]; exact h0)]; rfl
      · rw [if_neg h0, run_bind_ok (run_zero h2 hz w), hnew]; rfl
    rw [Int.toNat_natCast, if_neg hlt, run_bind_ok (run_info h2 w), if_neg (fun h => hmax h.1), run_bind_ok (run_info h2 w), if_neg hnot, run_bind_ok (run_cap _ _ _ w), run_bind_ok (run_info h2 _), run_bind_ok (run_ask _ _), run_bind_ok hold,
      if_neg (show ¬ (!true) = true by decide), run_bind_ok (hz1 _), run_bind_ok (run_zero h2 hz _), run_bind_ok (run_newRow _ _ _)]
    rfl
  · obtain ⟨d', hd', hs1⟩ := hs { w with drawn := w.drawn + 1 } rfl
    rw [hd] at hd'
    cases hd'
    rcases hs1 with ⟨⟨k, rfl⟩, _, _, _, _⟩ | ⟨_, hlen1, hnew1⟩
    · exact absurd rfl (hz0 k)
    cases d <;> first | exact absurd rfl (hz0 _) | skip
    all_goals
      try dsimp only
      rw [if_neg Bool.false_ne_true, run_bind_ok hlen]
      try dsimp only
      rw [if_neg hlt, run_bind_ok (run_info h2 w), if_neg (fun h => hmax h.1), run_bind_ok (run_info h2 w), if_neg hnot, run_bind_ok (run_cap _ _ _ w), run_bind_ok (run_info h2 _), run_bind_ok (run_ask _ _), run_bind_ok hold,
        if_pos (show (!false) = true from rfl), run_bind_ok hnew1, run_bind_ok (run_zero h2 hz _), run_bind_ok (run_newRow _ _ _)]
      rfl

theorem zeros_length (n : Nat) (z : List Value) : (zeros n z).length = n * z.length := by
  induction n with
  | zero => simp [zeros]
  | succ n ih =>
    unfold zeros at *
    rw [List.range_succ, List.flatMap_append, List.length_append, ih]
    simp [Nat.succ_mul]
theorem zeroCells_eq (z : Array Value) (n : Nat) (hz : 0 < z.size) : (Builtin.zeroCells z n).toList = zeros n z.toList := by
  have hl : (zeros n z.toList).length = n * z.size := by rw [zeros_length, Array.length_toList]
  refine List.ext_getElem? fun i => ?_
  have key : ∀ (n i : Nat), i < n * z.size → (zeros n z.toList)[i]? = z[i % z.size]? := by
    intro n
    induction n with
    | zero => intro i hi; omega
    | succ n ih =>
      intro i hi
      have e : zeros (n + 1) z.toList = zeros n z.toList ++ z.toList := by
        unfold zeros
        rw [List.range_succ, List.flatMap_append]
        simp
      rw [e]
      have hl : (zeros n z.toList).length = n * z.size := by rw [zeros_length, Array.length_toList]
      by_cases h : i < n * z.size
      · rw [List.getElem?_append_left (by omega)]; exact ih i h
      · rw [List.getElem?_append_right (by omega), hl, Array.getElem?_toList]
        have : i % z.size = i - n * z.size := by
          rw [Nat.succ_mul] at hi
          have : i = (i - n * z.size) + n * z.size := by omega
          rw [this, Nat.add_mul_mod_self_right, Nat.mod_eq_of_lt (by omega)]
          omega
        rw [this]
  rcases Nat.lt_or_ge i (n * z.size) with h | h
  · rw [key n i h]
    unfold Builtin.zeroCells
    rw [Array.getElem?_toList]
    simp only [Array.getElem?_map, Array.getElem?_range, h, if_true, Option.map_some]
    have hm := Nat.mod_lt i hz
    rw [Array.getElem?_eq_getElem hm, getElem!_pos z (i % z.size) hm]
  · rw [List.getElem?_eq_none (l := zeros n z.toList) (by omega)]
    unfold Builtin.zeroCells
    rw [Array.getElem?_toList]
    simp only [Array.getElem?_map, Array.getElem?_range]
    rw [if_neg (by omega)]
    rfl
theorem zeroCells_size (z : Array Value) (n : Nat) : (Builtin.zeroCells z n).size = n * z.size := by
  unfold Builtin.zeroCells
  simp

theorem cells_len {a : Addr} {n : Nat} {l : List Value} (e : S.cells W a n = some l) : l.length = n := by
  unfold St.cells at e
  split at e
  · cases e; simp_all
  split at e
  · exact (oldCells_spec _ _ _ e).1
  · split at e
    · split at e
      · cases e; simp only [List.length_take, List.length_drop]; omega
      · cases e
    · cases e

/-- What is appended is read alike. -/
theorem src_sound (h : Rel W φ S w) {xt e : TypeId} {size bytes : Nat} {z x x' : Value} {n : Nat} {new : List Value} (hx : VRel W.heap.size φ x x') (hz : flat z = true) (hzs : z.cells.size = size) (hp : 0 < size)
    (es : srcOf P W S xt size z x = some (n, new)) (hb : n * bytes ≤ 2 ^ 48) :
    ∃ new' : Array Value, LRel W.heap.size φ new new'.toList ∧ new.length = n * size ∧ ∀ w' : World, w'.heap = w.heap → Src P xt e size bytes z x' n new' w' := by
  unfold srcOf at es
  cases hd : P.underlying xt with
  | none => rw [hd] at es; cases es
  | some d =>
    rw [hd, if_neg (by simp)] at es
    unfold isIntT at es
    rw [hd] at es
    by_cases hi : ∃ k, d = .int k
    · obtain ⟨k, rfl⟩ := hi
      rw [if_pos rfl] at es
      split at es
      · rename_i m
        split at es
        · rename_i hm
          simp only [Option.some.injEq, Prod.mk.injEq] at es
          obtain ⟨rfl, rfl⟩ := es
          cases hx
          refine ⟨Builtin.zeroCells z.cells m.toNat, ?_, ?_, fun w' _ => ⟨_, hd, .inl ⟨⟨k, rfl⟩, ?_, by omega, hb, rfl⟩⟩⟩
          · rw [zeroCells_eq _ _ (by omega)]
            have hf := flat_cells (W := W) (φ := φ) hz
            unfold zeros
            generalize List.range m.toNat = l
            induction l with
            | nil => exact LRel.nil
            | cons _ l ih => rw [List.flatMap_cons]; exact LRel.append hf ih
          · rw [zeros_length, Array.length_toList, hzs]
          · congr 1; omega
        · cases es
      · cases es
    · have hk : ∀ k, d ≠ .int k := fun k e => hi ⟨k, e⟩
      have es : srcCells W S size x = some (n, new) := by
        cases d <;> first | exact es | exact absurd rfl (hk _)
      unfold srcCells at es
      split at es
      · rename_i a m c _
        split at es
        · rename_i l hl
          simp only [Option.some.injEq, Prod.mk.injEq] at es
          obtain ⟨rfl, rfl⟩ := es
          have hlen := cells_len hl
          cases hx with
          | sl0 hb =>
            have : l = [] := List.eq_nil_of_length_eq_zero (by rw [hlen]; omega)
            subst this
            refine ⟨#[], LRel.nil, by simp, fun w' _ => ⟨d, hd, .inr ⟨hk, rfl, ?_⟩⟩⟩
            simp only [Builtin.firstCells, Nat.zero_mul]
            exact runLoadCells (l := []) rfl (fun j v hv => by simp at hv)
          | sl hsl =>
            rename_i a' c'
            by_cases hm : m = 0
            · subst hm
              have : l = [] := List.eq_nil_of_length_eq_zero (by rw [hlen]; omega)
              subst this
              refine ⟨#[], LRel.nil, by simp, fun w' _ => ⟨d, hd, .inr ⟨hk, rfl, ?_⟩⟩⟩
              simp only [Builtin.firstCells, Nat.zero_mul]
              exact runLoadCells (l := []) rfl (fun j v hv => by simp at hv)
            · obtain ⟨L, k1, k2, k3, k4, k5⟩ := hsl
              have hoff : a'.off = L.off + a.off := by
                rcases k5 with k | k | k
                · exact k.2.2
                · exact k.2.2.1
                · exact (hm k.2.1).elim
              obtain ⟨l', r1, r2, r3⟩ := cells_sound h (a := a) (a' := a') ⟨L, k1, k2, hoff, k3, k4⟩ hl
              refine ⟨l'.toArray, r1, hlen, fun w' hw' => ⟨d, hd, .inr ⟨hk, rfl, ?_⟩⟩⟩
              simp only [Builtin.firstCells]
              refine runLoadCells (r1.1.symm.trans r2) (fun j v hv => ?_)
              have := r3 j v hv
              unfold World.cell? at this ⊢
              rwa [hw']
        · cases es
      · split at es
        · rename_i hm
          simp only [Option.some.injEq, Prod.mk.injEq] at es
          obtain ⟨rfl, rfl⟩ := es
          subst hm
          cases hx
          exact ⟨#[], LRel.nil, by simp, fun w' _ => ⟨d, hd, .inr ⟨hk, rfl, rfl⟩⟩⟩
        · cases es
      · rename_i s _
        split at es
        · rename_i h1
          simp only [Option.some.injEq, Prod.mk.injEq] at es
          obtain ⟨rfl, rfl⟩ := es
          cases hx
          have hs : (s.extract 0 s.size) = s := ByteArray.extract_zero_size
          refine ⟨s.data.map fun b => .int .u8 b.toNat, ?_, ?_, fun w' _ => ⟨d, hd, .inr ⟨hk, rfl, ?_⟩⟩⟩
          · rw [Array.toList_map]; exact LRel.map _ fun b _ => .int _ _
          · simp only [List.length_map, Array.length_toList]; rw [h1, Nat.mul_one]; rfl
          · simp only [Builtin.firstCells, hs]; rfl
        · cases es
      · cases es
end
end Go.Proofs.YtnnajiaaakkjfaaDoor.E
