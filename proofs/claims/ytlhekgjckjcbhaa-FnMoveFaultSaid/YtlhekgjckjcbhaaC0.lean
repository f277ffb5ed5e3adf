/- Slices of pitches: copied, compared, marked. Conditions: lengths up to 2^20. -/
import Derived.Test.YtlhekgjckjcbhaaB3
import Derived.Test.YtlhekgjckjcbhaaI1
namespace Go.Proofs.Ytlhekgjckjcbhaa
open Go.RowKit
set_option linter.unusedSimpArgs false
set_option linter.unusedVariables false
set_option maxHeartbeats 4000000

theorem pit_at {w : World} {b off : Nat} {ns : List Pit} (hc : ∀ j u, (pitCells ns)[j]? = some u → w.cell? ⟨b, off + j, none⟩ = some u) (k : Nat) (hk : k < ns.length) :
    w.cell? ⟨b, off + k * 3, none⟩ = some (.int .i64 ns[k].step) ∧ w.cell? ⟨b, off + k * 3 + 1, none⟩ = some (.int .i64 ns[k].alter) ∧
    w.cell? ⟨b, off + k * 3 + 2, none⟩ = some (.int .i64 ns[k].octave) := by
  have h := fun j (hj : j < 3) => cellsOf_get Pit.cells 3 Pit.cells_len ns k j hj hk
  refine ⟨hc (k * 3 + 0) _ (h 0 (by omega)), ?_, ?_⟩
  · rw [Nat.add_assoc]; exact hc (k * 3 + 1) _ (h 1 (by omega))
  · rw [Nat.add_assoc]; exact hc (k * 3 + 2) _ (h 2 (by omega))
theorem store3 {w : World} {g : Nat} {cur : Array Value} {T : TypeId} (h : w.heap[g]? = some (.cells cur T (0, 0))) (a : Nat) (v0 v1 v2 : Value) (hs : a + 3 ≤ cur.size) :
    ∃ cur', (((w.setCell ⟨g, a, none⟩ v0).setCell ⟨g, a + 1, none⟩ v1).setCell ⟨g, a + 2, none⟩ v2).heap[g]? = some (.cells cur' T (0, 0)) ∧
      cur'.size = cur.size ∧ cur'.toList.take (a + 3) = cur.toList.take a ++ [v0, v1, v2] := by
  refine ⟨((cur.setIfInBounds a v0).setIfInBounds (a + 1) v1).setIfInBounds (a + 2) v2, ?_, by simp, ?_⟩
  · simp only [heap_setCell_get, if_true, h, Option.map_some]
  · apply List.ext_getElem?
    intro i
    simp only [Array.toList_setIfInBounds, List.getElem?_take, List.getElem?_set, List.length_set, Array.length_toList, List.getElem?_append, List.length_take]
    by_cases h1 : i < a
    · have : i < min a cur.size := by omega
      simp [this, show i < a + 3 by omega, h1, show ¬ a + 2 = i by omega, show ¬ a + 1 = i by omega, show ¬ a = i by omega]
    · have hn : ¬ i < min a cur.size := by omega
      have hm : min a cur.size = a := by omega
      by_cases h2 : i < a + 3
      · obtain ⟨d, rfl⟩ : ∃ d, i = a + d := ⟨i - a, by omega⟩
        have hd : d = 0 ∨ d = 1 ∨ d = 2 := by omega
        rcases hd with rfl | rfl | rfl <;> simp [hm, show a + 2 < cur.size by omega, show a + 1 < cur.size by omega, show a < cur.size by omega] <;> (try (intro hh; exact absurd hh (by omega)))
      · rw [if_neg h2, if_neg hn, hm, List.getElem?_eq_none (by simp; omega)]
theorem there3 {w : World} {g : Nat} {cur : Array Value} {T : TypeId} (h : w.heap[g]? = some (.cells cur T (0, 0))) (a : Nat) (hs : a + 3 ≤ cur.size) :
    ∃ u0 u1 u2, w.cell? ⟨g, a, none⟩ = some u0 ∧ w.cell? ⟨g, a + 1, none⟩ = some u1 ∧ w.cell? ⟨g, a + 2, none⟩ = some u2 ∧ ∀ o, w.frozen? ⟨g, o, none⟩ = false := by
  have e := fun j (hj : j < 3) => (cell_of_row w g (a + j) cur T (0, 0) h).trans (Array.getElem?_eq_getElem (show a + j < cur.size by omega))
  exact ⟨_, _, _, e 0 (by omega), e 1 (by omega), e 2 (by omega), (blk_facts h).2⟩
theorem below_store3 {B : Nat} {a w : World} {g o : Nat} (h : Below B a w) (hg : B ≤ g) (v0 v1 v2 : Value) :
    Below B a (((w.setCell ⟨g, o, none⟩ v0).setCell ⟨g, o + 1, none⟩ v1).setCell ⟨g, o + 2, none⟩ v2) :=
  ((h.setCell (p := ⟨g, o, none⟩) hg v0).setCell (p := ⟨g, o + 1, none⟩) hg v1).setCell (p := ⟨g, o + 2, none⟩) hg v2
theorem kp_store3 {g o : Nat} {a w : World} (h : a.grownBy w (some g)) (v0 v1 v2 : Value) :
    a.grownBy (((w.setCell ⟨g, o, none⟩ v0).setCell ⟨g, o + 1, none⟩ v1).setCell ⟨g, o + 2, none⟩ v2) (some g) := by
  have st : ∀ (w : World) (p : Addr) (u : Value), a.grownBy w (some g) → p.block = g → a.grownBy (w.setCell p u) (some g) := fun w p u h hp =>
    ⟨h.os, h.tape, h.output, by simpa [World.setCell] using h.size, fun i hi hne => (Below.heap_setCell w p u i (by rintro rfl; exact hne (by rw [hp]))).trans (h.block i hi hne)⟩
  exact st _ _ _ (st _ _ _ (st _ _ _ h rfl) rfl) rfl
theorem pits_take_succ (ns : List Pit) (k : Nat) (hk : k < ns.length) : pitCells (ns.take (k + 1)) = pitCells (ns.take k) ++ ns[k].cells := by
  show cellsOf _ _ = _
  rw [List.take_succ_eq_append_getElem hk, cellsOf_append, cellsOf_cons, cellsOf_nil, List.append_nil]
theorem pits_snoc (l : List Pit) (n : Pit) : pitCells (l ++ [n]) = pitCells l ++ n.cells := by
  show cellsOf _ _ = _
  rw [cellsOf_append, cellsOf_cons, cellsOf_nil, List.append_nil]
theorem pit_one (n : Pit) : ∀ u ∈ n.cells, u.oneCell' = true := by
  intro u hu
  simp [Pit.cells] at hu
  rcases hu with rfl | rfl | rfl <;> rfl
theorem info_pit : (Try.prog.info? 29).map (fun i => (i.zero, i.size, i.bytes)) = some (some (.agg #[.int .i64 0, .int .i64 0, .int .i64 0]), 3, 24) := by kernel_rfl
def allEqP (a b : List Pit) : Bool := decide (a = b)
theorem pne_at {a b : List Pit} {k : Nat} (h1 : k < a.length) (h2 : k < b.length) (h : pitEq a[k] b[k] = false) : allEqP a b = false := by
  simp only [allEqP, decide_eq_false_iff_not]
  intro e
  subst e
  rw [pitEq_iff.2 rfl] at h
  cases h
theorem peq_all {a b : List Pit} (hl : a.length = b.length) (h : ∀ i (h1 : i < a.length) (h2 : i < b.length), pitEq a[i] b[i] = true) : allEqP a b = true := by
  simp only [allEqP, decide_eq_true_eq]
  exact List.ext_getElem hl fun i h1 h2 => pitEq_iff.1 (h i h1 h2)
theorem run_neq_pit (xs xa xo ys ya yo : Int) (w : World) :
    (binOp .neq 29 (.agg #[.int .i64 xs, .int .i64 xa, .int .i64 xo]) (.agg #[.int .i64 ys, .int .i64 ya, .int .i64 yo])).run Try.prog w =
      .ok (.bool (!pitEq ⟨xs, xa, xo⟩ ⟨ys, ya, yo⟩)) w := by
  by_cases h2 : xs = ys
  · by_cases h3 : xa = ya
    · by_cases h4 : xo = yo <;> simp [go_sem, pitEq, h2, h3, h4]
    · simp [go_sem, pitEq, h2, h3]
  · simp [go_sem, pitEq, h2]
end Go.Proofs.Ytlhekgjckjcbhaa
