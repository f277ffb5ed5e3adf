/- The reference's reader of notes: plain part. Conditions: none. -/
import Derived.Test.YtaikcpidijekpaaDoorTI
namespace Go.Proofs.YtaikcpidijekpaaDoor
open Go.RowKit
set_option linter.unusedSimpArgs false
set_option linter.unusedVariables false
set_option maxHeartbeats 4000000
set_option maxRecDepth 100000
def tkF (acc : Nat) (c : UInt8) : Nat := if 48 ≤ c.toNat ∧ c.toNat ≤ 57 then 10 * acc + (c.toNat - 48) else acc
def tkAt (u : List UInt8) (j : Nat) : Nat := (u.take j).foldl tkF 0
def tdAt (u : List UInt8) (j : Nat) : Bool := (u.take j).any (· == 126)
theorem tkAt_succ (u : List UInt8) (j : Nat) (h : j < u.length) : tkAt u (j + 1) = tkF (tkAt u j) u[j] := by
  unfold tkAt
  rw [List.take_succ_eq_append_getElem h, List.foldl_append]
  rfl
theorem tdAt_succ (u : List UInt8) (j : Nat) (h : j < u.length) : tdAt u (j + 1) = (tdAt u j || (u[j] == 126)) := by
  unfold tdAt
  rw [List.take_succ_eq_append_getElem h, List.any_append]
  simp
theorem tkF_fold_bd (l : List UInt8) (acc k : Nat) (h : acc < 10 ^ k) : l.foldl tkF acc < 10 ^ (k + l.length) := by
  induction l generalizing acc k with
  | nil => simpa using h
  | cons c l ih =>
    rw [List.foldl_cons, List.length_cons, show k + (l.length + 1) = (k + 1) + l.length by omega]
    apply ih
    unfold tkF
    rw [Nat.pow_succ]
    have := c.toNat_lt
    split <;> omega
theorem tkAt_bd (u : List UInt8) (j : Nat) (hj : j ≤ 5) : tkAt u j < 100000 := by
  have h := tkF_fold_bd (u.take j) 0 0 (by decide)
  have h2 : (u.take j).length ≤ 5 := by rw [List.length_take]; omega
  have h3 : 10 ^ (0 + (u.take j).length) ≤ 10 ^ 5 := Nat.pow_le_pow_right (by decide) (by omega)
  unfold tkAt
  omega
theorem tk_dec (d : List UInt8) (acc m : Nat) (h : Lib.decFrom acc d = some m) : d.foldl tkF acc = m := by
  induction d generalizing acc with
  | nil => simpa [Lib.decFrom] using h
  | cons c d ih =>
    unfold Lib.decFrom at h
    rw [List.foldl_cons]
    unfold Lib.digitVal at h
    by_cases hc : 48 ≤ c.toNat ∧ c.toNat ≤ 57
    · rw [if_pos hc] at h
      have e : tkF acc c = acc * 10 + (c.toNat - 48) := by unfold tkF; rw [if_pos hc]; omega
      rw [e]
      exact ih _ h
    · rw [if_neg hc] at h
      cases h
/-- What the reference's reader finds in the text of a note. -/
theorem tail_read {n : Nt} (hv : noteValid n = true) : (tailT n).length ≤ 4 ∧ ∀ j, (tailT n).length ≤ j → (tkAt (tailT n) j : Int) = n.ticks ∧ tdAt (tailT n) j = n.tied := by
  obtain ⟨h1, h2⟩ := noteValid_ticks hv
  have hl := dd_len (n := n.ticks.toNat) (by omega)
  have hd := dd_digit n.ticks.toNat
  have hf := tk_dec _ 0 _ (decFrom_dd n.ticks.toNat)
  refine ⟨?_, fun j hj => ?_⟩
  · unfold tailT
    split <;> simp <;> omega
  · unfold tkAt tdAt
    rw [List.take_of_length_le hj]
    unfold tailT
    generalize Lib.decDigits n.ticks.toNat = d at *
    have h126 : d.any (· == 126) = false := by
      rw [List.any_eq_false]
      intro c hc
      have := hd c hc
      simp
      intro e
      subst e
      exact absurd this (by decide)
    rw [List.foldl_append, hf, List.any_append, h126]
    cases hz : n.tied
    · refine ⟨?_, by simp⟩
      simp
      omega
    · refine ⟨?_, by simp⟩
      have e : tkF n.ticks.toNat 126 = n.ticks.toNat := by unfold tkF; rw [if_neg (by decide)]
      simp [e]
      omega
/-- The first slash. -/
theorem at_unique {a b : List UInt8} {k : Nat} (ha : ∀ x ∈ a, x ≠ 47) (h1 : ∀ i, i < k → (a ++ 47 :: b).getD i 0 ≠ 47) (h2 : k = (a ++ 47 :: b).length ∨ (a ++ 47 :: b).getD k 0 = 47) (hk : k ≤ (a ++ 47 :: b).length) : k = a.length := by
  rcases Nat.lt_trichotomy k a.length with h | h | h
  · exfalso
    rcases h2 with h2 | h2
    · simp at h2; omega
    · have hm : (a ++ 47 :: b).getD k 0 = a[k] := by simp [List.getElem?_append_left h, h]
      rw [hm] at h2
      exact ha _ (List.getElem_mem h) h2
  · exact h
  · exfalso
    have := h1 a.length h
    simp at this
end Go.Proofs.YtaikcpidijekpaaDoor
