/- Parallels and leaps between two chords of four voices, in plain terms. Conditions: none. -/
import Derived.Test.YtlhekgjckjcbhaaC2
namespace Go.Proofs.Ytlhekgjckjcbhaa
set_option linter.unusedVariables false
def samD (x y : Int) : Prop := (0 < x ∧ 0 < y) ∨ (x < 0 ∧ y < 0)
def ParP (a b : List Pit) (d : Int) (i k : Nat) : Prop :=
  samD (pk b i - pk a i) (pk b k - pk a k) ∧ (pk a k - pk a i) % 12 = d ∧ (pk b k - pk b i) % 12 = d
def Par (a b : List Pit) (d : Int) : Prop := ∃ i k, i < k ∧ k < 4 ∧ ParP a b d i k
def NoP (a b : List Pit) (d : Int) (i k : Nat) : Prop := ∀ i' k', i' < k' → k' < 4 → (i' < i ∨ i' = i ∧ k' < k) → ¬ ParP a b d i' k'
theorem NoP.start {a b : List Pit} {d : Int} : NoP a b d 0 1 := fun i k h1 h2 h3 => by omega
theorem NoP.next {a b : List Pit} {d : Int} {i k : Nat} (h : NoP a b d i k) (hn : ¬ ParP a b d i k) : NoP a b d i (k + 1) := fun i' k' h1 h2 h3 => by
  by_cases he : i' = i ∧ k' = k
  · obtain ⟨rfl, rfl⟩ := he; exact hn
  · exact h i' k' h1 h2 (by omega)
theorem NoP.row {a b : List Pit} {d : Int} {i : Nat} (h : NoP a b d i 4) : NoP a b d (i + 1) (i + 1 + 1) := fun i' k' h1 h2 h3 => h i' k' h1 h2 (by omega)
theorem NoP.all {a b : List Pit} {d : Int} {k : Nat} (h : NoP a b d 4 k) : ¬ Par a b d := by
  rintro ⟨i, k', h1, h2, h3⟩
  exact h i k' h1 h2 (by omega) h3
def Leap (a b : List Pit) : Prop := ∃ i, i < 4 ∧ (12 < pk a i - pk b i ∨ 12 < pk b i - pk a i)
def NoL (a b : List Pit) (k : Nat) : Prop := ∀ i, i < k → ¬ (12 < pk a i - pk b i ∨ 12 < pk b i - pk a i)
theorem NoL.next {a b : List Pit} {k : Nat} (h : NoL a b k) (hn : ¬ (12 < pk a k - pk b k ∨ 12 < pk b k - pk a k)) : NoL a b (k + 1) := fun i hi => by
  rcases Nat.lt_succ_iff_lt_or_eq.1 hi with h3 | rfl
  · exact h i h3
  · exact hn
theorem NoL.all {a b : List Pit} (h : NoL a b 4) : ¬ Leap a b := by
  rintro ⟨i, h1, h2⟩
  exact h i h1 h2
open Classical in
noncomputable def parB (a b : List Pit) (d : Int) : Bool := decide (Par a b d)
open Classical in
noncomputable def moveF (a b : List Pit) : Int :=
  if arePits a 4 4 = true ∧ arePits b 4 4 = true then
    if Par a b 7 then 5 else if Par a b 0 then 6 else if Leap a b then 7 else 0
  else 1
theorem moveF_1a {a b : List Pit} (h : arePits a 4 4 = false) : moveF a b = 1 := by unfold moveF; rw [if_neg (by rw [h]; simp)]
theorem moveF_1b {a b : List Pit} (h : arePits b 4 4 = false) : moveF a b = 1 := by unfold moveF; rw [if_neg (by rw [h]; simp)]
theorem moveF_5 {a b : List Pit} (ha : arePits a 4 4 = true) (hb : arePits b 4 4 = true) (h : Par a b 7) : moveF a b = 5 := by
  unfold moveF; rw [if_pos ⟨ha, hb⟩, if_pos h]
theorem moveF_6 {a b : List Pit} (ha : arePits a 4 4 = true) (hb : arePits b 4 4 = true) (h5 : ¬ Par a b 7) (h : Par a b 0) : moveF a b = 6 := by
  unfold moveF; rw [if_pos ⟨ha, hb⟩, if_neg h5, if_pos h]
theorem moveF_7 {a b : List Pit} (ha : arePits a 4 4 = true) (hb : arePits b 4 4 = true) (h5 : ¬ Par a b 7) (h6 : ¬ Par a b 0) (h : Leap a b) : moveF a b = 7 := by
  unfold moveF; rw [if_pos ⟨ha, hb⟩, if_neg h5, if_neg h6, if_pos h]
theorem moveF_0 {a b : List Pit} (ha : arePits a 4 4 = true) (hb : arePits b 4 4 = true) (h5 : ¬ Par a b 7) (h6 : ¬ Par a b 0) (h : ¬ Leap a b) : moveF a b = 0 := by
  unfold moveF; rw [if_pos ⟨ha, hb⟩, if_neg h5, if_neg h6, if_neg h]
/-! What the law says of it. -/
theorem ParP.symm {a b : List Pit} {d : Int} {i k : Nat} (h : ParP a b d i k) : ParP b a d i k := by
  obtain ⟨h1, h2, h3⟩ := h
  refine ⟨?_, h3, h2⟩
  unfold samD at h1 ⊢
  omega
theorem Par.comm {a b : List Pit} {d : Int} : Par a b d ↔ Par b a d :=
  ⟨fun ⟨i, k, h1, h2, h3⟩ => ⟨i, k, h1, h2, h3.symm⟩, fun ⟨i, k, h1, h2, h3⟩ => ⟨i, k, h1, h2, h3.symm⟩⟩
theorem Leap.comm {a b : List Pit} : Leap a b ↔ Leap b a :=
  ⟨fun ⟨i, h1, h2⟩ => ⟨i, h1, h2.symm⟩, fun ⟨i, h1, h2⟩ => ⟨i, h1, h2.symm⟩⟩
theorem moveF_comm (a b : List Pit) : moveF a b = moveF b a := by
  cases ha : arePits a 4 4
  · rw [moveF_1a ha, moveF_1b ha]
  · cases hb : arePits b 4 4
    · rw [moveF_1b hb, moveF_1a hb]
    · by_cases h7 : Par a b 7
      · rw [moveF_5 ha hb h7, moveF_5 hb ha (Par.comm.1 h7)]
      · by_cases h0 : Par a b 0
        · rw [moveF_6 ha hb h7 h0, moveF_6 hb ha (fun h => h7 (Par.comm.1 h)) (Par.comm.1 h0)]
        · by_cases hl : Leap a b
          · rw [moveF_7 ha hb h7 h0 hl, moveF_7 hb ha (fun h => h7 (Par.comm.1 h)) (fun h => h0 (Par.comm.1 h)) (Leap.comm.1 hl)]
          · rw [moveF_0 ha hb h7 h0 hl, moveF_0 hb ha (fun h => h7 (Par.comm.1 h)) (fun h => h0 (Par.comm.1 h)) (fun h => hl (Leap.comm.1 h))]
theorem moveF_self (a : List Pit) (h : moveF a a ≠ 1) : moveF a a = 0 := by
  cases ha : arePits a 4 4
  · exact absurd (moveF_1a ha) h
  · refine moveF_0 ha ha ?_ ?_ ?_
    · rintro ⟨i, k, -, -, h1, -, -⟩; unfold samD at h1; omega
    · rintro ⟨i, k, -, -, h1, -, -⟩; unfold samD at h1; omega
    · rintro ⟨i, -, h1⟩; omega
theorem moveF_left {a b : List Pit} (h : moveF a b ≠ 1) : moveF a a = 0 := by
  refine moveF_self a (fun h1 => ?_)
  cases ha : arePits a 4 4
  · exact h (moveF_1a ha)
  · cases hb : arePits b 4 4
    · exact h (moveF_1b hb)
    · have : moveF a a = 0 := by
        refine moveF_0 ha ha ?_ ?_ ?_
        · rintro ⟨i, k, -, -, h1, -, -⟩; unfold samD at h1; omega
        · rintro ⟨i, k, -, -, h1, -, -⟩; unfold samD at h1; omega
        · rintro ⟨i, -, h1⟩; omega
      omega
theorem moveF_range (a b : List Pit) : moveF a b = 1 ∨ moveF a b = 5 ∨ moveF a b = 6 ∨ moveF a b = 7 ∨ moveF a b = 0 := by
  unfold moveF
  split
  · split
    · simp
    · split
      · simp
      · split <;> simp
  · simp
end Go.Proofs.Ytlhekgjckjcbhaa
