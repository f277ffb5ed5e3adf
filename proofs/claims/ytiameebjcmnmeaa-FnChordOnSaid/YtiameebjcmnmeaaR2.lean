/- Drawing a way and an instrument. Conditions: none. -/
import Derived.Test.YtiameebjcmnmeaaR0
import Derived.Test.YtiameebjcmnmeaaN6
import Derived.Deep.RegionLaw
namespace Go.Proofs.Ytiameebjcmnmeaa
open Go.RowKit
set_option linter.unusedSimpArgs false
set_option linter.unusedVariables false
set_option maxHeartbeats 8000000

def DrewIv (g m : Nat) (w : World) (e : Ending) (w' : World) : Prop := ∃ i : Iv, e = .returned i.v ∧ I64 i.steps ∧ I64 i.halves ∧ Rdr w' g m ∧ w.grownBy w' (some g)
theorem list6 {x y : Int} (hx : Sml x) (hy : y ∈ [0, 0, 0, -1, 1, x]) : Sml y := by
  simp at hy
  rcases hy with rfl | rfl | rfl | rfl
  · unfold Sml; omega
  · unfold Sml; omega
  · unfold Sml; omega
  · exact hx
theorem nat_sml {p y : Int} (h0 : 0 ≤ p) (h1 : p ≤ 7) (hy : -3 ≤ y ∧ y ≤ 3) : -3 ≤ natural p + y ∧ natural p + y ≤ 100 := by
  have := nat_bd h0 (by omega)
  omega
theorem list6b {x y : Int} (hx : -3 ≤ x ∧ x ≤ 3) (hy : y ∈ [0, 0, 0, -1, 1, x]) : -3 ≤ y ∧ y ≤ 3 := by
  simp at hy
  rcases hy with rfl | rfl | rfl | rfl <;> omega
theorem at_list_k (l : List Int) {W : World} {b : Nat} {T : TypeId} {G : Prop} (h : W.heap[b]? = some (.cells (l.map (Value.int .i64)).toArray T (0, 0))) (x : Int) (h0 : 0 ≤ x) (h1 : x < l.length)
    (k : ∀ y, W.cell? ⟨b, x.toNat, none⟩ = some (.int .i64 y) → y ∈ l → G) : G := by
  obtain ⟨y, h2, h3⟩ := at_list l h x h0 h1
  exact k y h2 h3
end Go.Proofs.Ytiameebjcmnmeaa
