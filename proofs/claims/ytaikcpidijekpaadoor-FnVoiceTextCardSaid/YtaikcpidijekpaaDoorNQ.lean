/- Words for voices that are made note by note. Conditions: none. -/
import Derived.Test.YtaikcpidijekpaaDoorB6
import Derived.Test.YtaikcpidijekpaaDoorAP
namespace Go.Proofs.YtaikcpidijekpaaDoor
open Go.RowKit
set_option linter.unusedSimpArgs false
set_option linter.unusedVariables false
set_option maxHeartbeats 4000000
def ShiftPost (o : Option (List Nt)) (w : World) (e : Ending) (w' : World) : Prop :=
  ∃ v, e = .returned (.tuple #[v, .bool o.isSome]) ∧ w'.ownsRow w.heap.size 29 6 v (o.getD []).length (ntCells (o.getD [])) ∧ (o.getD []).length ≤ 60 ∧ Below w.heap.size w w'
theorem own_setN {base e size n cap m g : Nat} {xs : List Value} {w : World} (h : w.ownsRow base e size (.slice (some ⟨g, 0, none⟩) n cap) m xs) {a : Addr} (hne : a.block ≠ g) (u : Value) : (w.setCell a u).ownsRow base e size (.slice (some ⟨g, 0, none⟩) n cap) m xs :=
  h.kept (row := some a.block) ⟨rfl, rfl, rfl, by simp [World.setCell], fun i hi hn => Below.heap_setCell w a u i (fun hh => hn (by rw [hh]))⟩ (.inr (by simpa [Value.ownBlock] using fun hh => hne hh.symm))
theorem cells_newL (W : World) (arr : Array Value) (T : TypeId) : ∀ j u, arr.toList[j]? = some u → (W.alloc (.cells arr T)).cell? ⟨W.heap.size, 0 + j, none⟩ = some u := by
  intro j u hj
  rw [Nat.zero_add, cell_of_row (W.alloc (.cells arr T)) W.heap.size j arr T (0, 0) (heap_alloc_new W _)]
  simpa using hj
theorem nts_snoc (l : List Nt) (n : Nt) : ntCells (l ++ [n]) = ntCells l ++ n.cells := by
  show cellsOf _ _ = _
  rw [cellsOf_append, cellsOf_cons, cellsOf_nil, List.append_nil]
theorem nt_one (n : Nt) : ∀ u ∈ n.cells, u.oneCell' = true := by
  intro u hu
  simp [Nt.cells] at hu
  rcases hu with rfl | rfl | rfl | rfl | rfl | rfl <;> rfl
end Go.Proofs.YtaikcpidijekpaaDoor
