/- Two events of a walk more: a string made a slice of bytes, whether it is a constant or not: what is read in the new row, and that nothing else has changed. -/
import Derived.Test.YtgeheedfmdlefaaFrameSealedWords0
import Derived.Lib.ConvBytes
import Derived.Lib.SlBytesConst
import Derived.Laws.AppendOwn
namespace Go.Proofs.Ytgeheedfmdlefaa.Conv
open Go.RowKit Go.Proofs.YtgeheedfmdlefaaW.PrintWords
set_option linter.unusedVariables false
variable {P : Program} {ops : Array Oper} {rest : List Oper} {o : Oper} {a : Act} {Q : Exit → Act → World → Prop}

theorem C_of_cells {w : World} {g : Nat} {xs : List Int} (hb : xs.length ≤ 9223372036854775807) (h : ∀ (j : Nat) (x : Int), xs[j]? = some x → w.cell? ⟨g, j, none⟩ = some (.int .u8 x)) : (Kd.int .u8).C w (some ⟨g, 0, none⟩) xs.length xs := by
  refine ⟨rfl, hb, fun _ => ⟨_, rfl, fun j p hj => ⟨[.int .u8 p], rfl, rfl, fun i u hu => ?_⟩⟩⟩
  have hi : i = 0 := by
    have := (List.getElem?_eq_some_iff.1 hu).1
    simp at this
    exact this
  subst hi
  simp only [List.getElem?_cons_zero, Option.some.injEq] at hu
  subst hu
  rw [add_plain]
  have := h j p hj
  have e : j * (Kd.int .u8).sz + 0 = j := by show j * 1 + 0 = j; omega
  rw [e]
  exact this

theorem conv_kept {w : World} {S : Nat → Prop} {g n : Nat} {xs : List Int} (h : (Kd.int .u8).C w (some ⟨g, 0, none⟩) n xs) (hne : ¬ S g) : ∀ W_, Kept w W_ S → (Kd.int .u8).C W_ (some ⟨g, 0, none⟩) n xs := by
  intro W_ hk
  obtain ⟨h1, h2, h3⟩ := h
  refine ⟨h1, h2, fun hp => ?_⟩
  obtain ⟨ad, e, hc⟩ := h3 hp
  refine ⟨ad, e, fun j p hj => ?_⟩
  obtain ⟨c, hl, hK, hcell⟩ := hc j p hj
  refine ⟨c, hl, hK, fun i u hu => ?_⟩
  have hw := hcell i u hu
  injection e with e
  subst e
  rw [add_plain] at hw ⊢
  have hlt : g < w.heap.size := World.block_lt_of_cell? w _ hw
  have hb := hk.2 g hlt hne
  unfold World.cell? at hw ⊢
  rw [hb]
  exact hw

theorem conv_event {W : World} (hgd : o.guard = none) {N : Tmp} (_hd : o.dst = some N) {e : TypeId} {s : ByteArray} {xs : List Int} (hxs : xs = bytesOf s) (hle : s.size ≤ 9223372036854775807)
    (hrun : (execOp a.eval o).run P W = .ok (.value (.slice (some ⟨W.heap.size, 0, none⟩) s.size (grownCap W s.size 0 e))) (Go.Lib.bytesWorld W e s))
    (h : ∀ g c w1, W.heap.size ≤ g → (Kd.int .u8).C w1 (some ⟨g, 0, none⟩) xs.length xs → xs.length ≤ c → Below W.heap.size W w1 → wpList P ops Q rest (a.put o.dst (.slice (some ⟨g, 0, none⟩) xs.length c)) w1) : wpList P ops Q (o :: rest) a W := by
  subst hxs
  have hlen := bytesOf_length s
  refine Kd.event_run hgd hrun ?_
  have hh := h W.heap.size (grownCap W s.size 0 e) (Go.Lib.bytesWorld W e s) (Nat.le_refl _) (C_of_cells (by omega) fun j x hj => ?_) ?_ ?_
  · rw [hlen] at hh
    exact hh
  · have hlt : j < s.size := by rw [← hlen]; exact (List.getElem?_eq_some_iff.1 hj).1
    rw [Go.Lib.bytesWorld_cell W e s j hlt]
    unfold bytesOf at hj
    rw [List.getElem?_map] at hj
    have hl2 : j < s.data.toList.length := by rw [data_length]; exact hlt
    rw [List.getElem?_eq_getElem hl2] at hj
    simp only [Option.map_some, Option.some.injEq] at hj
    rw [List.getD_eq_getElem?_getD, List.getElem?_eq_getElem hl2, Option.getD_some, hj]
  · rw [hlen]
    exact grownCap_ge _ _ _ _
  · refine ⟨rfl, rfl, rfl, ?_, fun i hi => Go.Lib.bytesWorld_at_old W e s i hi⟩
    rw [Go.Lib.bytesWorld_size]
    omega

theorem conv_lit_event {W : World} (hgd : o.guard = none) {N : Tmp} (_hd : o.dst = some N) {e : TypeId} {C : Array Value} {xs : List Int} {n c : Nat} (hxs : C.toList = nums .u8 xs) (hn : n = xs.length) (hc : xs.length ≤ c) (hb : xs.length ≤ 9223372036854775807)
    (hrun : (execOp a.eval o).run P (W.alloc (.cells C e)) = .ok (.value (.slice (some ⟨W.heap.size, 0, none⟩) n c)) (W.alloc (.cells C e (C.size, C.size + 1))))
    (h : ∀ g c w1, W.heap.size ≤ g → (Kd.int .u8).C w1 (some ⟨g, 0, none⟩) xs.length xs → xs.length ≤ c → Below W.heap.size W w1 → wpList P ops Q rest (a.put o.dst (.slice (some ⟨g, 0, none⟩) xs.length c)) w1) : wpList P ops Q (o :: rest) a (W.alloc (.cells C e)) := by
  subst hn
  refine Kd.event_run hgd hrun (h _ _ _ (Nat.le_refl _) (C_of_cells hb fun j x hj => ?_) hc (bal (Below.refl _ _) _))
  have hcell : (W.alloc (.cells C e (C.size, C.size + 1))).cell? ⟨W.heap.size, j, none⟩ = C[j]? := by
    unfold World.cell?
    rw [blk_new]
    simp
  rw [hcell, ← Array.getElem?_toList, hxs]
  unfold nums
  rw [List.getElem?_map, hj]
  rfl
theorem conv_lit_run {W : World} {ρ : Operand → Value} {T e : TypeId} {C : Array Value} {n c g : Nat} {x : Operand} (ho : o.op = .convert T T x) (hx : ρ x = .slice (some ⟨g, 0, none⟩) n c) (hg : g = W.heap.size)
    (ht : P.underlying T = some (.slice e)) (he : P.underlying e = some (.int .u8)) :
    (execOp ρ o).run P (W.alloc (.cells C e)) = .ok (.value (.slice (some ⟨W.heap.size, 0, none⟩) n c)) (W.alloc (.cells C e (C.size, C.size + 1))) := by
  subst hg
  unfold execOp
  rw [ho]
  dsimp only
  rw [hx]
  have := Go.Lib.run_convert_bytes_const (P := P) W T e C n c ht he
  show (convert T T (.slice (some ⟨W.heap.size, 0, none⟩) n c) >>= fun v => pure (Next.value v)).run P _ = _
  rw [Sem.run_bind, this]
  rfl
theorem cell_ne {w : World} {ad : Addr} {v : Value} {g : Nat} (h : w.cell? ad = some v) (G : w.heap.size ≤ g) : ad.block ≠ g := Nat.ne_of_lt (Nat.lt_of_lt_of_le (World.block_lt_of_cell? w _ h) G)
end Go.Proofs.Ytgeheedfmdlefaa.Conv
