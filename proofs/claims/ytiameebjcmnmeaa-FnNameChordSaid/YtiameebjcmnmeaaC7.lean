/- The reference's MoveFault. Conditions: none. -/
import Derived.Test.YtiameebjcmnmeaaC6
namespace Go.Proofs.Ytiameebjcmnmeaa
open Go.RowKit
set_option linter.unusedSimpArgs false
set_option linter.unusedVariables false
set_option maxHeartbeats 16000000
theorem keyOf_bdV {p : Pit} (h : pitchValid p = true) : -2 ≤ keyOf p ∧ keyOf p ≤ 109 := by
  have hb := keyOf_bd p
  unfold keyOf at hb ⊢
  rw [if_pos h] at hb ⊢
  unfold pitchValid at h
  simp only [Bool.and_eq_true, inB_iff] at h
  obtain ⟨⟨⟨h1, h2⟩, h3, h4⟩, h5, h6⟩ := h
  refine ⟨?_, hb.2⟩
  have hs : p.step = 0 ∨ p.step = 1 ∨ p.step = 2 ∨ p.step = 3 ∨ p.step = 4 ∨ p.step = 5 ∨ p.step = 6 := by omega
  have h0 : 0 ≤ stepH p.step := by rcases hs with h | h | h | h | h | h | h <;> rw [h] <;> decide
  omega
theorem pit_getK {W : World} {b off : Nat} {ns : List Pit} (ha : arePits ns 4 4 = true) (hc : ∀ j u, (pitCells ns)[j]? = some u → W.cell? ⟨b, off + j, none⟩ = some u) (j : Nat) (h : j < 4) :
    ∃ x : Pit, pk ns j = keyOf x ∧ (-2 ≤ keyOf x ∧ keyOf x ≤ 109) ∧ W.cell? ⟨b, off + j * 3, none⟩ = some (.int .i64 x.step) ∧ W.cell? ⟨b, off + j * 3 + 1, none⟩ = some (.int .i64 x.alter) ∧ W.cell? ⟨b, off + j * 3 + 2, none⟩ = some (.int .i64 x.octave) := by
  obtain ⟨h1, h2⟩ := arePits_iff.1 ha
  have hl : j < ns.length := by omega
  exact ⟨ns[j], pk_get hl, keyOf_bdV (h2 j hl), pit_at hc j hl⟩
def AllV (ns : List Pit) (j : Nat) : Prop := ∀ i (h : i < ns.length), i < j → pitchValid ns[i] = true
theorem AllV.start {ns : List Pit} : AllV ns 0 := fun i _ hi => absurd hi (by omega)
theorem AllV.next {ns : List Pit} {j : Nat} (h : AllV ns j) (hj : j < ns.length) (hn : pitchValid ns[j] = true) : AllV ns (j + 1) := fun i h1 hi => by
  rcases Nat.lt_succ_iff_lt_or_eq.1 hi with h3 | rfl
  · exact h i h1 h3
  · exact hn
theorem AllV.all {ns : List Pit} (hl : ns.length = 4) (h : AllV ns 4) : arePits ns 4 4 = true := arePits_iff.2 ⟨by omega, fun i hi => h i hi (by omega)⟩
theorem not4 {ns : List Pit} (h : ¬ ns.length = 4) : arePits ns 4 4 = false := by
  cases ha : arePits ns 4 4
  · rfl
  · have := (arePits_iff.1 ha).1; omega
theorem mul_bd {x y : Int} (hx : -209 ≤ x ∧ x ≤ 209) (hy : -209 ≤ y ∧ y ≤ 209) : -43681 ≤ x * y ∧ x * y ≤ 43681 := by
  have h := Int.natAbs_mul x y
  have h2 : x.natAbs * y.natAbs ≤ 209 * 209 := Nat.mul_le_mul (by omega) (by omega)
  omega
theorem mul_same {x y : Int} : 0 < x * y ↔ samD x y := by
  unfold samD
  constructor
  · intro h
    by_cases hx : 0 < x
    · left
      refine ⟨hx, ?_⟩
      by_cases hy : 0 < y
      · exact hy
      · have := Int.mul_nonpos_of_nonneg_of_nonpos (Int.le_of_lt hx) (show y ≤ 0 by omega)
        omega
    · have hx' : x ≠ 0 := by rintro rfl; simp at h
      right
      refine ⟨by omega, ?_⟩
      by_cases hy : y < 0
      · exact hy
      · have := Int.mul_nonpos_of_nonpos_of_nonneg (show x ≤ 0 by omega) (show 0 ≤ y by omega)
        omega
  · rintro (⟨h1, h2⟩ | ⟨h1, h2⟩)
    · exact Int.mul_pos h1 h2
    · exact Int.mul_pos_of_neg_of_neg h1 h2
def NPass (a b : List Pit) (p : Nat) : Prop := (0 < p → ¬ Par a b 7) ∧ (1 < p → ¬ Par a b 0)
theorem pass_hit {a b : List Pit} (ha : arePits a 4 4 = true) (hb : arePits b 4 4 = true) {p : Nat} (hp : p < 2) (hN : NPass a b p) {d : Int} (hd : 7 - 7 * (p : Int) = d) (h : Par a b d) : moveF a b = 5 + (p : Int) := by
  have : p = 0 ∨ p = 1 := by omega
  rcases this with rfl | rfl
  · obtain rfl : d = 7 := by omega
    exact moveF_5 ha hb h
  · obtain rfl : d = 0 := by omega
    exact moveF_6 ha hb (hN.1 (by omega)) h
theorem pass_next {a b : List Pit} {p : Nat} (hp : p < 2) (hN : NPass a b p) {d : Int} (hd : 7 - 7 * (p : Int) = d) (h : ¬ Par a b d) : NPass a b (p + 1) := by
  have : p = 0 ∨ p = 1 := by omega
  rcases this with rfl | rfl
  · obtain rfl : d = 7 := by omega
    exact ⟨fun _ => h, fun h1 => absurd h1 (by omega)⟩
  · obtain rfl : d = 0 := by omega
    exact ⟨fun _ => hN.1 (by omega), fun _ => h⟩
end Go.Proofs.Ytiameebjcmnmeaa
