/- Plain laws on sections: bounds, how many bars are written. No function of the program. Conditions: none. -/
import Derived.Test.YtlhekgjckjcbhaaS3
namespace Go.Proofs.Ytlhekgjckjcbhaa
set_option linter.unusedSimpArgs false
set_option linter.unusedVariables false
set_option maxHeartbeats 1000000

theorem SD.ok_iff {s : SD} : s.ok = true ↔ (0 ≤ s.bars ∧ s.bars ≤ 12) ∧ (1 ≤ s.times ∧ s.times ≤ 4) ∧ (s.l.length = 0 ∨ (s.l.length : Int) = s.times) ∧ ∀ x ∈ s.l, 0 ≤ x ∧ x ≤ 12 := by
  obtain ⟨b, t, l⟩ := s
  simp only [SD.ok, secOk, endOk, Bool.and_eq_true, inB_iff, Bool.or_eq_true, beq_iff_eq, List.all_eq_true, and_assoc]
def SD.written (s : SD) : Int := s.bars + s.l.sum
def writtenS (ds : List SD) : Int := (ds.map SD.written).sum
def writtenB (ds : List SD) : Int := if secsOk ds = true then writtenS ds else -1
theorem sum_bd (l : List Int) (h : ∀ x ∈ l, 0 ≤ x ∧ x ≤ 12) : 0 ≤ l.sum ∧ l.sum ≤ 12 * l.length := by
  induction l with
  | nil => simp
  | cons a l ih =>
    have h1 := h a (by simp)
    have h2 := ih (fun x hx => h x (by simp [hx]))
    rw [List.sum_cons, List.length_cons]
    omega
theorem sum_take_bd (l : List Int) (h : ∀ x ∈ l, 0 ≤ x ∧ x ≤ 12) (k : Nat) : 0 ≤ (l.take k).sum ∧ (l.take k).sum ≤ 12 * k := by
  have h1 := sum_bd (l.take k) (fun x hx => h x (List.mem_of_mem_take hx))
  have h2 := List.length_take_le k l
  omega
theorem sum_take_succ (l : List Int) (k : Nat) (hk : k < l.length) : (l.take (k + 1)).sum = (l.take k).sum + l[k] := by
  rw [List.take_succ_eq_append_getElem hk, List.sum_append]
  simp
theorem SD.len_bd {s : SD} (h : s.ok = true) : s.l.length ≤ 4 := by
  obtain ⟨_, ⟨h1, h2⟩, h3, _⟩ := SD.ok_iff.1 h
  rcases h3 with h3 | h3 <;> omega
theorem SD.written_bd {s : SD} (h : s.ok = true) : 0 ≤ s.written ∧ s.written ≤ 60 := by
  have hl := s.len_bd h
  obtain ⟨⟨h1, h2⟩, _, _, h4⟩ := SD.ok_iff.1 h
  have := sum_bd s.l h4
  unfold SD.written
  omega
theorem writtenS_succ (ds : List SD) (k : Nat) (hk : k < ds.length) : writtenS (ds.take (k + 1)) = writtenS (ds.take k) + ds[k].written := by
  unfold writtenS
  rw [List.take_succ_eq_append_getElem hk, List.map_append, List.sum_append]
  simp
theorem writtenS_bd (ds : List SD) (h : ∀ i (hi : i < ds.length), ds[i].ok = true) (k : Nat) (hk : k ≤ ds.length) : 0 ≤ writtenS (ds.take k) ∧ writtenS (ds.take k) ≤ 60 * k := by
  induction k with
  | zero => simp [writtenS]
  | succ k ih =>
    have h1 := ih (by omega)
    rw [writtenS_succ ds k (by omega)]
    have h2 := SD.written_bd (h k (by omega))
    omega
theorem writtenS_all {ds : List SD} (h : secsOk ds = true) : 0 ≤ writtenS ds ∧ writtenS ds ≤ 480 := by
  obtain ⟨h1, h2⟩ := secsOk_iff.1 h
  have := writtenS_bd ds h2 ds.length (Nat.le_refl _)
  rw [List.take_length] at this
  omega
end Go.Proofs.Ytlhekgjckjcbhaa
