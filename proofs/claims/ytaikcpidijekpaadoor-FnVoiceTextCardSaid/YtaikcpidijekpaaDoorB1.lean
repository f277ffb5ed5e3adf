/- Words for slices that are read: plain lemmas on worlds, no function of the program. Conditions: none. -/
import Derived.Test.YtaikcpidijekpaaDoorB0
namespace Go.Proofs.YtaikcpidijekpaaDoor
open Go.RowKit
set_option linter.unusedSimpArgs false
set_option linter.unusedVariables false
set_option maxHeartbeats 1000000

theorem below_cell {w1 w2 : World} {p : Addr} {v : Value} (hb : Below w1.heap.size w1 w2) (h : w1.cell? p = some v) : w2.cell? p = some v :=
  (hb.cell (World.block_lt_of_cell? w1 p h)).trans h

theorem below_heap {w1 w2 : World} {g : Nat} {o : Obj} (hb : Below w1.heap.size w1 w2) (h : w1.heap[g]? = some o) : w2.heap[g]? = some o :=
  (hb.block g (Array.getElem?_eq_some_iff.1 h).1).trans h

/-- v is a slice of n elements of 'size' cells each; its cells read as xs. -/
def Rd (w : World) (v : Value) (size n : Nat) (xs : List Value) : Prop :=
  xs.length = n * size ∧ ∃ A c, v = .slice A n c ∧ n ≤ c ∧ c ≤ maxLen ∧
    (0 < n → ∃ b off, A = some ⟨b, off, none⟩ ∧ ∀ j u, xs[j]? = some u → w.cell? ⟨b, off + j, none⟩ = some u)

section
variable {w w' : World} {v : Value} {size n : Nat} {xs : List Value}

theorem Rd.cases (h : Rd w v size n xs) :
    (n = 0 ∧ xs = [] ∧ ∃ A c, v = .slice A 0 c ∧ c ≤ maxLen) ∨
    (0 < n ∧ n ≤ maxLen ∧ xs.length = n * size ∧ ∃ b off c, v = .slice (some ⟨b, off, none⟩) n c ∧ n ≤ c ∧ c ≤ maxLen ∧ ∀ j u, xs[j]? = some u → w.cell? ⟨b, off + j, none⟩ = some u) := by
  obtain ⟨hl, A, c, rfl, hnc, hcm, hc⟩ := h
  rcases Nat.eq_zero_or_pos n with h0 | h0
  · subst h0
    exact .inl ⟨rfl, List.eq_nil_of_length_eq_zero (by simpa using hl), A, c, rfl, hcm⟩
  · obtain ⟨b, off, rfl, hcc⟩ := hc h0
    exact .inr ⟨h0, Nat.le_trans hnc hcm, hl, b, off, c, rfl, hnc, hcm, hcc⟩

theorem Rd.keep (h : Rd w v size n xs) (hk : ∀ p u, w.cell? p = some u → w'.cell? p = some u) : Rd w' v size n xs := by
  obtain ⟨hl, A, c, rfl, hnc, hcm, hc⟩ := h
  refine ⟨hl, A, c, rfl, hnc, hcm, fun h0 => ?_⟩
  obtain ⟨b, off, rfl, hcc⟩ := hc h0
  exact ⟨b, off, rfl, fun j u hu => hk _ _ (hcc j u hu)⟩

theorem Rd.below {B : Nat} (h : Rd w v size n xs) (hB : w.heap.size ≤ B) (hb : Below B w w') : Rd w' v size n xs :=
  h.keep fun p u hp => (hb.cell (Nat.lt_of_lt_of_le (World.block_lt_of_cell? w p hp) hB)).trans hp

theorem Rd.alloc (h : Rd w v size n xs) (o : Obj) : Rd (w.alloc o) v size n xs := h.below (Nat.le_refl _) (bel1 w o)
theorem Rd.drew (h : Rd w v size n xs) : Rd w.drew v size n xs := h
theorem Rd.drewN (h : Rd w v size n xs) (k : Nat) : Rd (w.drewN k) v size n xs := h

theorem Rd.of_own {base : Nat} {e : TypeId} (h : w.ownsRow base e size v n xs) : Rd w v size n xs := by
  refine ⟨h.1, ?_⟩
  rcases h.2 with ⟨rfl, rfl⟩ | ⟨g, cap, cur, rfl, hb, hg, hn, hcm, _⟩
  · exact ⟨none, 0, rfl, Nat.le_refl _, by simp [maxLen], fun h0 => absurd h0 (by omega)⟩
  · refine ⟨_, _, rfl, hn, hcm, fun _ => ⟨g, 0, rfl, fun j u hu => ?_⟩⟩
    have hc := h.cells (g := g) rfl j u hu
    have hadd : (⟨g, 0, none⟩ : Addr).add j = ⟨g, 0 + j, none⟩ := by unfold Addr.add; split <;> simp_all
    rw [hadd] at hc
    exact hc
end

/-! ### Notes: six cells each. -/
structure Nt where
  rest : Bool
  tone : Pit
  ticks : Int
  tied : Bool
abbrev Nt.v (n : Nt) : Value := .agg #[.bool n.rest, .int .i64 n.tone.step, .int .i64 n.tone.alter, .int .i64 n.tone.octave, .int .i64 n.ticks, .bool n.tied]
def Nt.cells (n : Nt) : List Value := [.bool n.rest, .int .i64 n.tone.step, .int .i64 n.tone.alter, .int .i64 n.tone.octave, .int .i64 n.ticks, .bool n.tied]
def Pit.cells (p : Pit) : List Value := [.int .i64 p.step, .int .i64 p.alter, .int .i64 p.octave]

/-- The cells of a list, k cells an element. -/
def cellsOf {α : Type} (f : α → List Value) (l : List α) : List Value := l.flatMap f
theorem cellsOf_nil {α : Type} (f : α → List Value) : cellsOf f [] = [] := rfl
theorem cellsOf_cons {α : Type} (f : α → List Value) (a : α) (l : List α) : cellsOf f (a :: l) = f a ++ cellsOf f l := rfl
theorem cellsOf_append {α : Type} (f : α → List Value) (a b : List α) : cellsOf f (a ++ b) = cellsOf f a ++ cellsOf f b := by simp [cellsOf]
theorem cellsOf_len {α : Type} (f : α → List Value) (k : Nat) (hf : ∀ a, (f a).length = k) (l : List α) : (cellsOf f l).length = l.length * k := by
  induction l with
  | nil => simp [cellsOf]
  | cons a l ih => rw [cellsOf_cons, List.length_append, hf, ih, List.length_cons, Nat.add_mul]; omega
theorem cellsOf_get {α : Type} (f : α → List Value) (k : Nat) (hf : ∀ a, (f a).length = k) (l : List α) (i j : Nat) (hj : j < k) (hi : i < l.length) :
    (cellsOf f l)[i * k + j]? = (f l[i])[j]? := by
  induction l generalizing i with
  | nil => simp at hi
  | cons a l ih =>
    rw [cellsOf_cons]
    cases i with
    | zero =>
      rw [List.getElem?_append_left (by rw [hf]; omega)]
      simp
    | succ i =>
      rw [List.getElem?_append_right (by rw [hf, Nat.add_mul]; omega), hf]
      have : (i + 1) * k + j - k = i * k + j := by rw [Nat.add_mul]; omega
      rw [this, ih i (by simpa using hi)]
      simp
theorem cellsOf_drop {α : Type} (f : α → List Value) (k : Nat) (hf : ∀ a, (f a).length = k) (l : List α) (i : Nat) : (cellsOf f l).drop (i * k) = cellsOf f (l.drop i) := by
  induction i generalizing l with
  | zero => simp
  | succ i ih =>
    cases l with
    | nil => simp [cellsOf]
    | cons a l =>
      rw [cellsOf_cons, Nat.add_mul, Nat.one_mul, Nat.add_comm (i * k) k, ← List.drop_drop, List.drop_left' (hf a), ih]
      rfl
theorem cellsOf_take {α : Type} (f : α → List Value) (k : Nat) (hf : ∀ a, (f a).length = k) (l : List α) (i : Nat) : (cellsOf f l).take (i * k) = cellsOf f (l.take i) := by
  induction i generalizing l with
  | zero => simp [cellsOf]
  | succ i ih =>
    cases l with
    | nil => simp [cellsOf]
    | cons a l =>
      rw [cellsOf_cons, List.take_succ_cons, cellsOf_cons, Nat.add_mul, Nat.one_mul, Nat.add_comm (i * k) k, ← ih l, List.take_append, hf, Nat.add_sub_cancel_left, List.take_of_length_le (by rw [hf]; omega)]

theorem Nt.cells_len (n : Nt) : n.cells.length = 6 := rfl
theorem Pit.cells_len (p : Pit) : p.cells.length = 3 := rfl
abbrev ntCells (l : List Nt) : List Value := cellsOf Nt.cells l
abbrev pitCells (l : List Pit) : List Value := cellsOf Pit.cells l

abbrev byteCells (l : List Int) : List Value := cellsOf (fun b => [Value.int .u8 b]) l
abbrev intCells (l : List Int) : List Value := cellsOf (fun b => [Value.int .i64 b]) l

/-- The six cells of note k, at the addresses as the walk spells them. -/
theorem nt_at {w : World} {b off : Nat} {ns : List Nt} (hc : ∀ j u, (ntCells ns)[j]? = some u → w.cell? ⟨b, off + j, none⟩ = some u) (k : Nat) (hk : k < ns.length) :
    w.cell? ⟨b, off + k * 6, none⟩ = some (.bool ns[k].rest) ∧ w.cell? ⟨b, off + k * 6 + 1, none⟩ = some (.int .i64 ns[k].tone.step) ∧
    w.cell? ⟨b, off + k * 6 + 2, none⟩ = some (.int .i64 ns[k].tone.alter) ∧ w.cell? ⟨b, off + k * 6 + 3, none⟩ = some (.int .i64 ns[k].tone.octave) ∧
    w.cell? ⟨b, off + k * 6 + 4, none⟩ = some (.int .i64 ns[k].ticks) ∧ w.cell? ⟨b, off + k * 6 + 5, none⟩ = some (.bool ns[k].tied) := by
  have h := fun j (hj : j < 6) => cellsOf_get Nt.cells 6 Nt.cells_len ns k j hj hk
  refine ⟨hc (k * 6 + 0) _ (h 0 (by omega)), ?_, ?_, ?_, ?_, ?_⟩
  · rw [Nat.add_assoc]; exact hc (k * 6 + 1) _ (h 1 (by omega))
  · rw [Nat.add_assoc]; exact hc (k * 6 + 2) _ (h 2 (by omega))
  · rw [Nat.add_assoc]; exact hc (k * 6 + 3) _ (h 3 (by omega))
  · rw [Nat.add_assoc]; exact hc (k * 6 + 4) _ (h 4 (by omega))
  · rw [Nat.add_assoc]; exact hc (k * 6 + 5) _ (h 5 (by omega))
end Go.Proofs.YtaikcpidijekpaaDoor
