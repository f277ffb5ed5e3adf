/- Plain laws on the order in which bars are played; the walk of FnWrittenBars. Conditions: none beyond the law's own. -/
import Derived.Test.YtlhekgjckjcbhaaS12
import Derived.Test.YtlhekgjckjcbhaaS9
namespace Go.Proofs.Ytlhekgjckjcbhaa
open Go.RowKit
set_option linter.unusedSimpArgs false
set_option linter.unusedVariables false
set_option maxHeartbeats 8000000

theorem mem_runL {a x : Int} {n : Nat} : x ∈ runL a n ↔ a ≤ x ∧ x < a + n := by
  unfold runL
  rw [List.mem_map]
  constructor
  · rintro ⟨i, hi, rfl⟩
    have := List.mem_range.1 hi
    omega
  · rintro ⟨h1, h2⟩
    exact ⟨(x - a).toNat, List.mem_range.2 (by omega), by omega⟩
theorem sum_cover (l : List Int) (h : ∀ x ∈ l, 0 ≤ x ∧ x ≤ 12) (x : Int) (h0 : 0 ≤ x) : ∀ k, k ≤ l.length → x < (l.take k).sum → ∃ u, ∃ hu : u < l.length, u < k ∧ (l.take u).sum ≤ x ∧ x < (l.take u).sum + l[u] := by
  intro k
  induction k with
  | zero => intro _ hx; simp at hx; omega
  | succ k ih =>
    intro hk hx
    by_cases hlt : x < (l.take k).sum
    · obtain ⟨u, hu, h1, h2⟩ := ih (by omega) hlt
      exact ⟨u, hu, by omega, h2⟩
    · rw [sum_take_succ l k (by omega)] at hx
      exact ⟨k, by omega, by omega, by omega, hx⟩
theorem mem_timesL {F : Int} {s : SD} (h : s.ok = true) (x : Int) : ∀ t : Nat, (t : Int) ≤ s.times → (x ∈ timesL F s t ↔ (0 < t ∧ F ≤ x ∧ x < F + s.bars) ∨ (F + s.bars ≤ x ∧ x < F + s.bars + (s.l.take t).sum)) := by
  obtain ⟨⟨b1, b2⟩, ⟨t1, t2⟩, hl, hx⟩ := SD.ok_iff.1 h
  intro t
  induction t with
  | zero => intro _; simp [timesL]
  | succ t ih =>
    intro ht
    have ih' := ih (by omega)
    have hs := sum_take_bd s.l hx t
    rw [timesL_succ, List.mem_append, List.mem_append, ih', mem_runL]
    have hb : (s.bars.toNat : Int) = s.bars := by omega
    by_cases hlt : t < s.l.length
    · have hy := hx _ (List.getElem_mem hlt)
      have he : x ∈ endL F s t ↔ F + s.bars + (s.l.take t).sum ≤ x ∧ x < F + s.bars + (s.l.take t).sum + s.l[t] := by
        unfold endL
        rw [List.getElem?_eq_getElem hlt]
        dsimp only
        rw [mem_runL]
        omega
      rw [he, sum_take_succ s.l t hlt]
      omega
    · have he : x ∈ endL F s t ↔ False := by
        unfold endL
        rw [List.getElem?_eq_none (by omega)]
        simp
      have e1 : s.l.take (t + 1) = s.l := List.take_of_length_le (by omega)
      have e2 : s.l.take t = s.l := List.take_of_length_le (by omega)
      rw [e2] at hs
      rw [he, e1, e2, or_false]
      omega
theorem take_times {s : SD} (h : s.ok = true) : s.l.take s.times.toNat = s.l := by
  obtain ⟨_, ⟨t1, t2⟩, hl, _⟩ := SD.ok_iff.1 h
  exact List.take_of_length_le (by omega)
theorem mem_playedUp {ds : List SD} (h : ∀ i (hi : i < ds.length), ds[i].ok = true) (x : Int) : ∀ k, k ≤ ds.length → (x ∈ playedUp ds k ↔ 0 ≤ x ∧ x < writtenS (ds.take k)) := by
  intro k
  induction k with
  | zero => intro _; simp [playedUp, writtenS]
  | succ k ih =>
    intro hk
    have hlt : k < ds.length := by omega
    have hb := writtenS_bd ds h k (by omega)
    have hok := h k hlt
    obtain ⟨⟨b1, b2⟩, ⟨t1, t2⟩, hl, hx⟩ := SD.ok_iff.1 hok
    have hsum := sum_bd ds[k].l hx
    rw [playedUp_succ (List.getElem?_eq_getElem hlt), List.mem_append, ih (by omega), mem_timesL hok x _ (by omega), take_times hok, writtenS_succ ds k hlt]
    unfold SD.written
    omega
theorem timesL_length {F : Int} {s : SD} (h : s.ok = true) : ∀ t : Nat, (t : Int) ≤ s.times → ((timesL F s t).length : Int) = t * s.bars + (s.l.take t).sum := by
  obtain ⟨⟨b1, b2⟩, ⟨t1, t2⟩, hl, hx⟩ := SD.ok_iff.1 h
  intro t
  induction t with
  | zero => intro _; simp [timesL]
  | succ t ih =>
    intro ht
    have ih' := ih (by omega)
    rw [timesL_succ, List.length_append, List.length_append, runL_len]
    have he : ((endL F s t).length : Int) = (s.l.take (t + 1)).sum - (s.l.take t).sum := by
      by_cases hlt : t < s.l.length
      · have hy := hx _ (List.getElem_mem hlt)
        rw [sum_take_succ s.l t hlt]
        unfold endL
        rw [List.getElem?_eq_getElem hlt]
        dsimp only
        rw [runL_len]
        omega
      · rw [List.take_of_length_le (show s.l.length ≤ t + 1 by omega), List.take_of_length_le (show s.l.length ≤ t by omega)]
        unfold endL
        rw [List.getElem?_eq_none (by omega)]
        simp
    have hm : ((t : Int) + 1) * s.bars = t * s.bars + s.bars := by rw [Int.add_mul, Int.one_mul]
    push_cast
    rw [hm]
    omega
theorem playedUp_ge {ds : List SD} (h : ∀ i (hi : i < ds.length), ds[i].ok = true) : ∀ k, k ≤ ds.length → writtenS (ds.take k) ≤ (playedUp ds k).length := by
  intro k
  induction k with
  | zero => intro _; simp [playedUp, writtenS]
  | succ k ih =>
    intro hk
    have hlt : k < ds.length := by omega
    have hok := h k hlt
    obtain ⟨⟨b1, b2⟩, ⟨t1, t2⟩, hl, hx⟩ := SD.ok_iff.1 hok
    have h1 := timesL_length (F := writtenS (ds.take k)) hok ds[k].times.toNat (by omega)
    have h2 := ih (by omega)
    rw [playedUp_succ (List.getElem?_eq_getElem hlt), writtenS_succ ds k hlt, List.length_append]
    rw [take_times hok] at h1
    have h3 : ds[k].bars ≤ (ds[k].times.toNat : Int) * ds[k].bars := by
      have : (1 : Int) * ds[k].bars ≤ (ds[k].times.toNat : Int) * ds[k].bars := Int.mul_le_mul_of_nonneg_right (by omega) b1
      omega
    unfold SD.written
    push_cast
    omega
theorem played_all {ds : List SD} (h : secsOk ds = true) : (∀ x, x ∈ playedB ds ↔ 0 ≤ x ∧ x < writtenS ds) ∧ writtenS ds ≤ (playedB ds).length := by
  obtain ⟨_, h2⟩ := secsOk_iff.1 h
  have h3 := fun x => mem_playedUp h2 x ds.length (Nat.le_refl _)
  have h4 := playedUp_ge h2 ds.length (Nat.le_refl _)
  rw [List.take_length] at h4
  simp only [List.take_length] at h3
  unfold playedB
  rw [if_pos h]
  exact ⟨h3, h4⟩
end Go.Proofs.Ytlhekgjckjcbhaa
