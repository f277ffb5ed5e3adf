/- StackFault on both sides; the walk of its exact law. Conditions: none beyond the law's own. -/
import Derived.Test.YtiameebjcmnmeaaC1
namespace Go.Proofs.Ytiameebjcmnmeaa
open Go.RowKit
set_option linter.unusedSimpArgs false
set_option linter.unusedVariables false
set_option maxHeartbeats 16000000
theorem pit_pair {W : World} {b off : Nat} {ns : List Pit} (hc : ∀ j u, (pitCells ns)[j]? = some u → W.cell? ⟨b, off + j, none⟩ = some u) (j : Nat) (h : j + 1 < ns.length) :
    ∃ x y : Pit, ns[j + 1]? = some x ∧ ns[j]? = some y ∧ pk ns (j + 1) = keyOf x ∧ pk ns j = keyOf y ∧
      (W.cell? ⟨b, off + (j + 1) * 3, none⟩ = some (.int .i64 x.step) ∧ W.cell? ⟨b, off + (j + 1) * 3 + 1, none⟩ = some (.int .i64 x.alter) ∧ W.cell? ⟨b, off + (j + 1) * 3 + 2, none⟩ = some (.int .i64 x.octave)) ∧
      (W.cell? ⟨b, off + j * 3, none⟩ = some (.int .i64 y.step) ∧ W.cell? ⟨b, off + j * 3 + 1, none⟩ = some (.int .i64 y.alter) ∧ W.cell? ⟨b, off + j * 3 + 2, none⟩ = some (.int .i64 y.octave)) :=
  ⟨ns[j + 1], ns[j], List.getElem?_eq_getElem h, List.getElem?_eq_getElem (by omega), pk_get h, pk_get (by omega), pit_at hc (j + 1) h, pit_at hc j (by omega)⟩
def Asc (ns : List Pit) (j : Nat) : Prop := ∀ i, i < j → ¬ pk ns (i + 1) < pk ns i
def Spc (ns : List Pit) (j : Nat) : Prop := ∀ i, 1 ≤ i → i < j → ¬ 12 < pk ns (i + 1) - pk ns i
def InR (ns : List Pit) (j : Nat) : Prop := ∀ i, i < j → inB (pk ns i) (loK i) (hiK i) = true
theorem Asc.next {ns : List Pit} {j : Nat} (h : Asc ns j) (hn : ¬ pk ns (j + 1) < pk ns j) : Asc ns (j + 1) := fun i hi => by
  rcases Nat.lt_succ_iff_lt_or_eq.1 hi with h3 | rfl
  · exact h i h3
  · exact hn
theorem Spc.next {ns : List Pit} {j : Nat} (h : Spc ns j) (hn : ¬ 12 < pk ns (j + 1) - pk ns j) : Spc ns (j + 1) := fun i h1 hi => by
  rcases Nat.lt_succ_iff_lt_or_eq.1 hi with h3 | rfl
  · exact h i h1 h3
  · exact hn
theorem InR.next {ns : List Pit} {j : Nat} (h : InR ns j) (hn : inB (pk ns j) (loK j) (hiK j) = true) : InR ns (j + 1) := fun i hi => by
  rcases Nat.lt_succ_iff_lt_or_eq.1 hi with h3 | rfl
  · exact h i h3
  · exact hn
end Go.Proofs.Ytiameebjcmnmeaa
