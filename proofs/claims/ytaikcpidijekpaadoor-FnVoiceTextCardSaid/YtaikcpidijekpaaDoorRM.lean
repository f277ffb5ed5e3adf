/- Worlds that keep all blocks but some; what a drawing region leaves in its slots. No function of the program. Conditions: none. -/
import Derived.Test.YtaikcpidijekpaaDoorRG
import Derived.Test.YtaikcpidijekpaaDoorD1
namespace Go.Proofs.YtaikcpidijekpaaDoor
open Go.RowKit
set_option linter.unusedSimpArgs false
set_option linter.unusedVariables false
set_option maxHeartbeats 1000000

/-- All blocks but those of X are as they were. -/
structure Mv (X : Nat → Prop) (W W' : World) : Prop where
  os : W'.os = W.os
  tape : W'.tape = W.tape
  output : W'.output = W.output
  size : W.heap.size ≤ W'.heap.size
  block : ∀ b, b < W.heap.size → ¬ X b → W'.heap[b]? = W.heap[b]?
section
variable {X Y : Nat → Prop} {a w w' : World} {g : Nat}
theorem Mv.refl (X : Nat → Prop) (w : World) : Mv X w w := ⟨rfl, rfl, rfl, Nat.le_refl _, fun _ _ _ => rfl⟩
theorem Mv.trans (h : Mv X a w) (k : Mv X w w') : Mv X a w' :=
  ⟨k.os.trans h.os, k.tape.trans h.tape, k.output.trans h.output, Nat.le_trans h.size k.size, fun b hb hx => (k.block b (Nat.lt_of_lt_of_le hb h.size) hx).trans (h.block b hb hx)⟩
theorem Mv.mono (h : Mv X w w') (hx : ∀ b, X b → Y b) : Mv Y w w' := ⟨h.os, h.tape, h.output, h.size, fun b hb hy => h.block b hb fun h' => hy (hx b h')⟩
theorem Mv.of_kp (h : w.grownBy w' (some g)) : Mv (· = g) w w' := ⟨h.os, h.tape, h.output, h.size, fun b hb hx => h.block b hb (by simpa using hx)⟩
theorem Mv.of_bel (h : Below w.heap.size w w') : Mv X w w' := ⟨h.os, h.tape, h.output, h.size, fun b hb _ => h.block b hb⟩
theorem Mv.to_kp (h : Mv (· = g) w w') : w.grownBy w' (some g) := ⟨h.os, h.tape, h.output, h.size, fun b hb hx => h.block b hb (by simpa using hx)⟩
theorem Mv.alloc (w : World) (o : Obj) : Mv X w (w.alloc o) := Mv.of_bel (bel1 w o)
theorem Mv.drew (w : World) : Mv X w w.drew := ⟨rfl, rfl, rfl, Nat.le_refl _, fun _ _ _ => rfl⟩
theorem Mv.setCell (w : World) {p : Addr} (hp : X p.block) (u : Value) : Mv X w (w.setCell p u) :=
  ⟨rfl, rfl, rfl, by simp [World.setCell], fun b _ hx => Below.heap_setCell w p u b (by rintro rfl; exact hx hp)⟩
/-- Stores into a block of one's own. -/
theorem Mv.fresh3 {b : Nat} (h : Mv X a w) (hb : a.heap.size ≤ b) (i j k : Nat) {u1 u2 u3 : Value} : Mv X a (((w.setCell ⟨b, i, none⟩ u1).setCell ⟨b, j, none⟩ u2).setCell ⟨b, k, none⟩ u3) :=
  ⟨h.os, h.tape, h.output, by simpa [World.setCell] using h.size, fun c hc hx => by
    rw [Below.heap_setCell _ ⟨b, k, none⟩ _ c (by show c ≠ b; omega), Below.heap_setCell _ ⟨b, j, none⟩ _ c (by show c ≠ b; omega), Below.heap_setCell _ ⟨b, i, none⟩ _ c (by show c ≠ b; omega)]
    exact h.block c hc hx⟩
theorem Mv.set3 (w : World) (b i j k : Nat) (u1 u2 u3 : Value) : Mv (· = b) w (((w.setCell ⟨b, i, none⟩ u1).setCell ⟨b, j, none⟩ u2).setCell ⟨b, k, none⟩ u3) :=
  ((Mv.setCell (X := (· = b)) w (p := ⟨b, i, none⟩) rfl u1).trans (Mv.setCell (X := (· = b)) _ (p := ⟨b, j, none⟩) rfl u2)).trans (Mv.setCell (X := (· = b)) _ (p := ⟨b, k, none⟩) rfl u3)
theorem Mv.heap {b : Nat} {o : Obj} (h : Mv X w w') (hb : w.heap[b]? = some o) (hx : ¬ X b) : w'.heap[b]? = some o :=
  (h.block b (Array.getElem?_eq_some_iff.1 hb).1 hx).trans hb
theorem Mv.cell {p : Addr} {u : Value} (h : Mv X w w') (hb : w.cell? p = some u) (hx : ¬ X p.block) : w'.cell? p = some u :=
  (World.cell?_of_block (w := w) (h.block p.block (World.block_lt_of_cell? w p hb) hx)).trans hb
theorem Mv.below {B : Nat} (ha : Below B a w) (h : Mv X w w') (hX : ∀ b, X b → B ≤ b) (hB : B ≤ w.heap.size) : Below B a w' :=
  ha.trans ⟨h.os, h.tape, h.output, h.size, fun b hb => h.block b (by omega) fun hx => by have := hX b hx; omega⟩
theorem Mv.own {base e size n : Nat} {v : Value} {xs : List Value} (h : w.ownsRow base e size v n xs) (hm : Mv X w w') (hx : ∀ b, X b → b < base) : w'.ownsRow base e size v n xs := by
  refine ⟨h.1, ?_⟩
  rcases h.2 with h1 | ⟨g, cap, cur, hv, hb, hg, r⟩
  · exact .inl h1
  · exact .inr ⟨g, cap, cur, hv, hb, hm.heap hg (fun h' => by have := hx g h'; omega), r⟩
/-- A row keeps, if its block does. -/
theorem Mv.own1 {base e size n gv cap : Nat} {xs : List Value} (h : w.ownsRow base e size (.slice (some ⟨gv, 0, none⟩) n cap) n xs) (hm : Mv X w w') (hx : ¬ X gv) : w'.ownsRow base e size (.slice (some ⟨gv, 0, none⟩) n cap) n xs := by
  refine ⟨h.1, ?_⟩
  rcases h.2 with h1 | ⟨g, cap, cur, hv, hb, hg, r⟩
  · exact .inl h1
  · refine .inr ⟨g, cap, cur, hv, hb, hm.heap hg (fun h' => ?_), r⟩
    cases hv
    exact hx h'
theorem Mv.rdr {m : Nat} (h : Rdr w g m) (hm : Mv X w w') (hx : ∀ b, b ≤ g → ¬ X b) : Rdr w' g m :=
  h.keep fun k hk => hm.block k (Nat.lt_of_le_of_lt hk h.lt) (hx k hk)
end
def IntIn (p : Int → Prop) (v : Value) : Prop := ∃ x, v = .int .i64 x ∧ p x
/-- A short list of numbers, made in the region. -/
def RowAt (B : Nat) (T : TypeId) (p : Int → Prop) (n : Nat) (v : Value) (W : World) : Prop :=
  ∃ (b : Nat) (ys : List Int), v = .slice (some ⟨b, 0, none⟩) n n ∧ B ≤ b ∧ W.heap[b]? = some (.cells (ys.map (Value.int .i64)).toArray T (0, 0)) ∧ ys.length = n ∧ ∀ y ∈ ys, p y
/-- An element of it. -/
def ElAt (B : Nat) (p : Int → Prop) (v : Value) (W : World) : Prop :=
  ∃ (b k : Nat) (y : Int), v = .pointer (some ⟨b, k, none⟩) ∧ B ≤ b ∧ W.cell? ⟨b, k, none⟩ = some (.int .i64 y) ∧ p y
section
variable {X : Nat → Prop} {W W' : World} {B n : Nat} {T : TypeId} {p : Int → Prop} {v : Value}
theorem RowAt.mv (h : RowAt B T p n v W) (hm : Mv X W W') (hx : ∀ b, X b → b < B) : RowAt B T p n v W' := by
  obtain ⟨b, ys, h1, h2, h3, h4⟩ := h
  exact ⟨b, ys, h1, h2, hm.heap h3 (fun h' => by have := hx b h'; omega), h4⟩
theorem ElAt.mv (h : ElAt B p v W) (hm : Mv X W W') (hx : ∀ b, X b → b < B) : ElAt B p v W' := by
  obtain ⟨b, k, y, h1, h2, h3, h4⟩ := h
  exact ⟨b, k, y, h1, h2, hm.cell h3 (fun h' => by have := hx b h'; omega), h4⟩
theorem RowAt.new (hB : B ≤ W.heap.size) (ys : List Int) (hn : ys.length = n) (hp : ∀ y ∈ ys, p y) : RowAt B T p n (.slice (some ⟨W.heap.size, 0, none⟩) n n) (W.alloc (.cells (ys.map (Value.int .i64)).toArray T)) :=
  ⟨_, ys, rfl, hB, heap_alloc_new W _, hn, hp⟩
/-- The element with a number. -/
theorem RowAt.el (h : RowAt B T p n v W) (x : Int) (h0 : 0 ≤ x) (h1 : x < n) : ∃ b y, v = .slice (some ⟨b, 0, none⟩) n n ∧ B ≤ b ∧ W.cell? ⟨b, x.toNat, none⟩ = some (.int .i64 y) ∧ p y := by
  obtain ⟨b, ys, rfl, hb, hh, hn, hp⟩ := h
  obtain ⟨y, hc, hy⟩ := at_list ys hh x h0 (by omega)
  exact ⟨b, y, rfl, hb, hc, hp y hy⟩
end
end Go.Proofs.YtaikcpidijekpaaDoor
