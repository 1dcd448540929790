/- What comes out meets a test: with the test kept as a name. -/
import Derived.Test.YtnnajiaaakkjfaaDoorE24
namespace Go.Proofs.YtnnajiaaakkjfaaDoor.E
open Go Go.RowKit
set_option linter.unusedVariables false

section
variable {β : Type}
def Wp (o : Option β) (Q : β → Prop) : Prop := ∃ b, o = some b ∧ Q b
theorem Wp.ret {b : β} {Q : β → Prop} (h : Q b) : Wp (some b) Q := ⟨b, rfl, h⟩
theorem Wp.of {o : Option β} {b : β} {Q : β → Prop} (e : o = some b) (h : Q b) : Wp o Q := ⟨b, e, h⟩
theorem Wp.mono {o : Option β} {Q R : β → Prop} (h : Wp o Q) (hq : ∀ b, Q b → R b) : Wp o R := by obtain ⟨b, e, q⟩ := h; exact ⟨b, e, hq b q⟩
theorem Wp.bS {o : Option (Value × St)} {k : Value → St → Option β} {Q : β → Prop} (h : Wp o fun r => Wp (k r.1 r.2) Q) : Wp (bindS o k) Q := by
  obtain ⟨⟨v, S⟩, rfl, q⟩ := h; exact q
theorem Wp.bSq {S : St} {f : St → Option (Value × St)} {k : Value → St → Option β} {Q : β → Prop} (h : Wp (f (S.relock S.c)) fun r => Wp (k r.1 (r.2.relock S.lock)) Q) : Wp (bindS (unlock S.lock (f (S.relock S.c))) k) Q := by
  obtain ⟨⟨v, S'⟩, e, q⟩ := h; rw [e]; exact q
theorem Wp.get {o : Option β} {Q : β → Prop} (h : Wp o Q) : ∃ b, o = some b ∧ Q b := h
theorem bindO_bindO {x : Out} {k : Exit → Act → St → Out} {K : Exit → Act → St → Option β} : bindO (bindO x k) K = bindO x fun e A S => bindO (k e A S) K := by
  unfold bindO; cases x with
  | none => rfl
  | some r => rfl
theorem bindO_bindS {x : Option (Value × St)} {k : Value → St → Out} {K : Exit → Act → St → Option β} : bindO (bindS x k) K = bindS x fun v S => bindO (k v S) K := by
  unfold bindO bindS; cases x with
  | none => rfl
  | some r => rfl
end
section
variable {P : Program} {W : World} {S S' : St} {β : Type}
theorem Wp.append (g : Gd W S) {st xt e : TypeId} {z : Value} {sz by_ : Nat} (E : Elem P st e z sz by_) {v : Value} {cs : List Value} (h : Gr S v sz cs) {x : Value} {n : Nat} {new : List Value} (hx : SrcIs P W S xt sz z x n new) (hn : new.length = n * sz) (hst : new.all storable = true) (hcl : new.all (vlt1 S.c) = true)
    {len : Nat} (hl : cs.length = len * sz) (hb : (len + n + (len + n) / 4 + 512) * by_ ≤ 2 ^ 48) {k : Value → St → Option β} {Q : β → Prop}
    (K : ∀ v' S', Gd W S' → Gr S' v' sz (cs ++ new) → Ext (blkOf v) S S' → (∀ i, i ∈ blkOf v' → i ∈ blkOf v ∨ S.c ≤ i) → Wp (k v' S') Q) : Wp (bindS (aBuiltin P W S .append #[st, xt] #[v, x]) k) Q := by
  obtain ⟨v', S', a1, a2, a3, a4⟩ := append_gr g E h hx hn hst hcl hl hb
  rw [a1]
  exact K v' S' (a3.good g) a2 a3 a4
theorem Wp.grow {α : Type} {T : Enc α} (g : Gd W S) {st xt e : TypeId} {z : Value} {by_ : Nat} (E : Elem P st e z T.k by_) {v : Value} {l new : List α} (h : Sl T S v l) {x : Value} (hx : SrcIs P W S xt T.k z x new.length (T.fl new)) (hcl : (T.fl new).all (vlt1 S.c) = true)
    (hb : (l.length + new.length + (l.length + new.length) / 4 + 512) * by_ ≤ 2 ^ 48) {k : Value → St → Option β} {Q : β → Prop}
    (K : ∀ v' S', Gd W S' → Sl T S' v' (l ++ new) → Ext (blkOf v) S S' → (∀ i, i ∈ blkOf v' → S.c ≤ i) → Wp (k v' S') Q) : Wp (bindS (aBuiltin P W S .append #[st, xt] #[v, x]) k) Q := by
  obtain ⟨v', S', a1, a2, a3, a4⟩ := Sl.append g E h hx hcl hb
  rw [a1]
  exact K v' S' (a3.good g) a2 a3 a4
/-- What one round of an append with a made row asks. -/
theorem src_made {st e : TypeId} (hu : P.underlying st = some (.slice e)) {sz : Nat} {z : Value} {n : Nat} (g : Gd W S) {l : List Value} (hl : l.length = n * sz) (hp : 0 < n * sz) (k : Nat) : SrcIs P W (S.new (.row l k)) st sz z (.slice (some ⟨S.c, 0, none⟩) n n) n l :=
  src_slice hu (fun k => by simp) (by rw [cells_at g.n _ hp, new_self, cellsOf_row, if_pos (by omega), List.drop_zero, List.take_of_length_le (by omega)])
theorem Ext.pre {D : List Nat} (h : Ok S) {o : AObj} (ho : objLt (S.c + 1) o = true) (k : Ext D (S.new o) S') : Ext D S S' := (Ext.new h ho (D := D)).trans k fun _ hi _ => hi
theorem Ext.set {S0 : St} {D : List Nat} (h : Ext D S0 S) {i : Nat} (hi : i < S.c) {o : AObj} (ho : objLt S.c o = true) {X : List Nat} (hX : ∀ j, j ∈ D → j ∈ X) (hi2 : i < S0.c → i ∈ X) : Ext X S0 (S.upd i o) :=
  (h.mono hX).trans (Ext.upd h.ok hi ho) fun j hj hc => by simp at hj; subst hj; exact hi2 hc
theorem relock_back (l : Nat) : (S.relock l).relock S.lock = S := rfl
theorem nd {x : Nat} {a b : List Nat} : (x :: (a ++ b)).Nodup ↔ x ∉ a ∧ x ∉ b ∧ a.Nodup ∧ b.Nodup ∧ ∀ y, y ∈ a → y ∉ b := by
  simp only [List.nodup_cons, List.mem_append, List.nodup_append, not_or]
  constructor
  · rintro ⟨⟨h1, h2⟩, h3, h4, h5⟩; exact ⟨h1, h2, h3, h4, fun y hy hb => h5 y hy y hb rfl⟩
  · rintro ⟨h1, h2, h3, h4, h5⟩; exact ⟨⟨h1, h2⟩, h3, h4, fun y hy z hz e => h5 y hy (e ▸ hz)⟩
theorem blk_nd (v : Value) : (blkOf v).Nodup := by unfold blkOf; split <;> simp
theorem new_lo (o : AObj) {i : Nat} (h : i < S.c) : (S.new o).heap i = S.heap i := if_neg (by omega)
theorem upd_lo (o : AObj) {i j : Nat} (h : j ≠ i) : (S.upd i o).heap j = S.heap j := if_neg h
theorem pos1 (n : Nat) : (0 < n + 1) = True := by simp
theorem cast1 : ((1 : Nat) : Int) = 1 := rfl
theorem cast0 : ((0 : Nat) : Int) = 0 := rfl
theorem new_upd (o o' : AObj) {i : Nat} (h : i ≤ S.c) (h2 : S.c ≤ i) : (S.new o).upd i o' = S.new o' := by
  obtain rfl : i = S.c := Nat.le_antisymm h h2
  unfold St.upd St.new
  congr 1
  funext j
  dsimp only
  by_cases h : j = S.c
  · rw [if_pos h, if_pos h]
  · rw [if_neg h, if_neg h, if_neg h]
theorem Gr.new {v : Value} {sz : Nat} {cs : List Value} (h : Gr S v sz cs) (ok : Ok S) {o : AObj} (ho : objLt (S.c + 1) o = true) : Gr (S.new o) v sz cs := h.keep (Ext.new ok ho (D := [])) (fun _ _ => by simp) ok
theorem Sl.new {α : Type} {T : Enc α} {v : Value} {l : List α} (h : Sl T S v l) (ok : Ok S) {o : AObj} (ho : objLt (S.c + 1) o = true) : Sl T (S.new o) v l := h.keep (Ext.new ok ho (D := [])) (fun _ _ => by simp) ok
end
end Go.Proofs.YtnnajiaaakkjfaaDoor.E
