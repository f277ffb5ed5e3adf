/- Intervals and instruments: validity on both sides. Conditions: none. -/
import Derived.Test.YtlhekgjckjcbhaaB2
namespace Go.Proofs.Ytlhekgjckjcbhaa
open Go.RowKit
set_option linter.unusedSimpArgs false
set_option linter.unusedVariables false
set_option maxHeartbeats 4000000

structure Iv where
  steps : Int
  halves : Int
abbrev Iv.v (i : Iv) : Value := .agg #[.int .i64 i.steps, .int .i64 i.halves]
def natural (p : Int) : Int := 12 * (p / 7) + stepH (p % 7)
theorem nat_le21 {p : Int} (h0 : 0 ≤ p) (h1 : p ≤ 21) : 0 ≤ natural p ∧ natural p ≤ 47 := by
  obtain ⟨s0, s1⟩ := stepH_bd (p % 7)
  unfold natural
  omega
def downIv (i : Iv) : Bool := decide (i.steps < 0) || (i.steps == 0 && decide (i.halves < 0))
def upIv (i : Iv) : Iv := if downIv i = true then ⟨-i.steps, -i.halves⟩ else i
def qualOf (i : Iv) : Int := (upIv i).halves - natural (upIv i).steps
def ivValid (i : Iv) : Bool := inB i.steps (-21) 21 && inB i.halves (-60) 60 && inB (qualOf i) (-3) 3
theorem c_l1Natural' (p : Nat) (w : World) (h1 : p ≤ 1000000) :
    Calls Try.prog 71 #[.int .i64 p] w fun e w' => e = .returned (.int .i64 (natural p)) ∧ Below w.heap.size w w' := by
  have m0 : (0 : Int) ≤ (p : Int) % 7 := Int.emod_nonneg _ (by omega)
  have m1 : (p : Int) % 7 ≤ 6 := by omega
  obtain ⟨s0, s1⟩ := stepH_bd ((p : Int) % 7)
  go_enter Try.func71, Try.ntmps71
  go_wp2
  go_loopw [0, 4] (fun a b wr => a = .int .i64 p ∧ b = .int .i64 0 ∧ Below w.heap.size w wr ∧ wr.heap[w.heap.size]? = some (.cells #[.int .i64 0, .int .i64 2, .int .i64 4, .int .i64 5, .int .i64 7, .int .i64 9, .int .i64 11] 3 (0, 0))) (fun _ _ _ => 0)
  case atStart => exact ⟨rfl, rfl, by (repeat' (first | (with_reducible exact Below.refl _ _) | (with_reducible refine Below.setCell ?_ ?_ _) | (with_reducible refine Below.alloc ?_ ?_ _) | (with_reducible refine Below.drew ?_) | (with_reducible refine below_drewN ?_ _) | (with_reducible refine Below.trans ?_ (Below.mono (by with_reducible assumption) ?_)) | omega | (simp only [size_alloc', size_setCell', size_drew', size_drewN'] at *; omega))), heap_alloc_new w _⟩
  case round =>
    obtain ⟨rfl, rfl, hbl, hh⟩ := hrel
    have hc : wr.cell? ⟨w.heap.size, p % 7, none⟩ = some (.int .i64 (stepH ((p : Int) % 7))) := by
      rw [cell_of_row wr w.heap.size (p % 7) _ _ _ hh]
      have : p % 7 = 0 ∨ p % 7 = 1 ∨ p % 7 = 2 ∨ p % 7 = 3 ∨ p % 7 = 4 ∨ p % 7 = 5 ∨ p % 7 = 6 := by omega
      rw [show (p : Int) % 7 = ((p % 7 : Nat) : Int) by omega]
      rcases this with h | h | h | h | h | h | h <;> rw [h] <;> rfl
    go_wp2
    go_ret
    exact ⟨by simp [natural], by (repeat' (first | (with_reducible exact Below.refl _ _) | (with_reducible refine Below.setCell ?_ ?_ _) | (with_reducible refine Below.alloc ?_ ?_ _) | (with_reducible refine Below.drew ?_) | (with_reducible refine below_drewN ?_ _) | (with_reducible refine Below.trans ?_ (Below.mono (by with_reducible assumption) ?_)) | omega | (simp only [size_alloc', size_setCell', size_drew', size_drewN'] at *; omega)))⟩
theorem c_l1Natural (p : Int) (w : World) (h0 : 0 ≤ p) (h1 : p ≤ 1000000) :
    Calls Try.prog 71 #[.int .i64 p] w fun e w' => e = .returned (.int .i64 (natural p)) ∧ Below w.heap.size w w' := by
  obtain ⟨n, rfl⟩ := Int.eq_ofNat_of_zero_le h0
  exact c_l1Natural' n w (by omega)
theorem nat_bd {p : Int} (h0 : 0 ≤ p) (h1 : p ≤ 1000) : 0 ≤ natural p ∧ natural p ≤ 12 * p + 11 := by
  obtain ⟨s0, s1⟩ := stepH_bd (p % 7)
  unfold natural
  omega
theorem up_neg {s h : Int} (hs : s < 0) : upIv ⟨s, h⟩ = ⟨-s, -h⟩ := by simp [upIv, downIv, hs]
theorem up_zneg {h : Int} (hs : h < 0) : upIv ⟨0, h⟩ = ⟨0, -h⟩ := by simp [upIv, downIv, hs]
theorem up_znn {h : Int} (hs : ¬ h < 0) : upIv ⟨0, h⟩ = ⟨0, h⟩ := by simp [upIv, downIv, hs]
theorem up_pos {s h : Int} (hs : 0 < s) : upIv ⟨s, h⟩ = ⟨s, h⟩ := by
  have h1 : ¬ s < 0 := by omega
  have h2 : (s == 0) = false := by simp; omega
  simp [upIv, downIv, h1, h2]
theorem c_l2Quality (i : Iv) (w : World) (h1 : -100 ≤ i.steps ∧ i.steps ≤ 100) (h2 : -1000 ≤ i.halves ∧ i.halves ≤ 1000) :
    Calls Try.prog 80 #[i.v] w fun e w' => e = .returned (.int .i64 (qualOf i)) ∧ Below w.heap.size w w' := by
  obtain ⟨s, h⟩ := i
  obtain ⟨h1, h1'⟩ := h1
  obtain ⟨h2, h2'⟩ := h2
  dsimp only at h1 h1' h2 h2'
  by_cases hs : s < 0
  · have HQ := Lib.hid (show qualOf ⟨s, h⟩ = -h - natural (-s) by unfold qualOf; rw [up_neg hs])
    have hb := nat_bd (p := -s) (by omega) (by omega)
    go_enter Try.func80, Try.ntmps80
    go_wp2_with fail
    (refine wp_region_more_lit (by kernel_rfl) (by kernel_rfl) ?_; (repeat (go_big_quiet_step ((go_at_call 71; with_reducible exact Calls.more_of (c_l1Natural _ _ (by omega) (by omega)))))); refine wpQuiet_nil ?_; intro wq hwq; have hbq := below_of_more hwq; clear hwq; have hzq := hbq.size; (try simp only [size_alloc', size_setCell', size_drew', size_drewN'] at hzq); (try (refine keep_heap (b := w.heap.size) hbq ?_ ?_; (first | omega | (simp only [size_alloc', size_setCell', size_drew', size_drewN']; omega)); intro hkq; simp only [heap_alloc_get, heap_setCell_get, heap_drew_get, heap_drewN_get, size_alloc', size_setCell', size_drew', size_drewN', nat_simp1, nat_simp2, nat_simp3, nat_simp4, nat_simp5, if_true, if_false, *] at hkq; obtain ⟨_, _⟩ := blk_facts hkq)); skip)
    go_wp2
    go_ret
    exact ⟨ret_int HQ.out.symm, by (repeat' (first | (with_reducible exact Below.refl _ _) | (with_reducible refine Below.setCell ?_ ?_ _) | (with_reducible refine Below.alloc ?_ ?_ _) | (with_reducible refine Below.drew ?_) | (with_reducible refine below_drewN ?_ _) | (with_reducible refine Below.trans ?_ (Below.mono (by with_reducible assumption) ?_)) | omega | (simp only [size_alloc', size_setCell', size_drew', size_drewN'] at *; omega)))⟩
  · by_cases hz : s = 0
    · subst hz
      have hb := nat_bd (p := 0) (by omega) (by omega)
      by_cases hh : h < 0
      · have HQ := Lib.hid (show qualOf ⟨0, h⟩ = -h - natural 0 by unfold qualOf; rw [up_zneg hh])
        go_enter Try.func80, Try.ntmps80
        go_wp2_with fail
        (refine wp_region_more_lit (by kernel_rfl) (by kernel_rfl) ?_; (repeat (go_big_quiet_step ((go_at_call 71; with_reducible exact Calls.more_of (c_l1Natural _ _ (by omega) (by omega)))))); refine wpQuiet_nil ?_; intro wq hwq; have hbq := below_of_more hwq; clear hwq; have hzq := hbq.size; (try simp only [size_alloc', size_setCell', size_drew', size_drewN'] at hzq); (try (refine keep_heap (b := w.heap.size) hbq ?_ ?_; (first | omega | (simp only [size_alloc', size_setCell', size_drew', size_drewN']; omega)); intro hkq; simp only [heap_alloc_get, heap_setCell_get, heap_drew_get, heap_drewN_get, size_alloc', size_setCell', size_drew', size_drewN', nat_simp1, nat_simp2, nat_simp3, nat_simp4, nat_simp5, if_true, if_false, *] at hkq; obtain ⟨_, _⟩ := blk_facts hkq)); skip)
        go_wp2
        go_ret
        exact ⟨ret_int HQ.out.symm, by (repeat' (first | (with_reducible exact Below.refl _ _) | (with_reducible refine Below.setCell ?_ ?_ _) | (with_reducible refine Below.alloc ?_ ?_ _) | (with_reducible refine Below.drew ?_) | (with_reducible refine below_drewN ?_ _) | (with_reducible refine Below.trans ?_ (Below.mono (by with_reducible assumption) ?_)) | omega | (simp only [size_alloc', size_setCell', size_drew', size_drewN'] at *; omega)))⟩
      · have HQ := Lib.hid (show qualOf ⟨0, h⟩ = h - natural 0 by unfold qualOf; rw [up_znn hh])
        go_enter Try.func80, Try.ntmps80
        go_wp2_with fail
        (refine wp_region_more_lit (by kernel_rfl) (by kernel_rfl) ?_; (repeat (go_big_quiet_step ((go_at_call 71; with_reducible exact Calls.more_of (c_l1Natural _ _ (by omega) (by omega)))))); refine wpQuiet_nil ?_; intro wq hwq; have hbq := below_of_more hwq; clear hwq; have hzq := hbq.size; (try simp only [size_alloc', size_setCell', size_drew', size_drewN'] at hzq); (try (refine keep_heap (b := w.heap.size) hbq ?_ ?_; (first | omega | (simp only [size_alloc', size_setCell', size_drew', size_drewN']; omega)); intro hkq; simp only [heap_alloc_get, heap_setCell_get, heap_drew_get, heap_drewN_get, size_alloc', size_setCell', size_drew', size_drewN', nat_simp1, nat_simp2, nat_simp3, nat_simp4, nat_simp5, if_true, if_false, *] at hkq; obtain ⟨_, _⟩ := blk_facts hkq)); skip)
        go_wp2
        go_ret
        exact ⟨ret_int HQ.out.symm, by (repeat' (first | (with_reducible exact Below.refl _ _) | (with_reducible refine Below.setCell ?_ ?_ _) | (with_reducible refine Below.alloc ?_ ?_ _) | (with_reducible refine Below.drew ?_) | (with_reducible refine below_drewN ?_ _) | (with_reducible refine Below.trans ?_ (Below.mono (by with_reducible assumption) ?_)) | omega | (simp only [size_alloc', size_setCell', size_drew', size_drewN'] at *; omega)))⟩
    · have HQ := Lib.hid (show qualOf ⟨s, h⟩ = h - natural s by unfold qualOf; rw [up_pos (by omega)])
      have hb := nat_bd (p := s) (by omega) (by omega)
      go_enter Try.func80, Try.ntmps80
      go_wp2_with fail
      (refine wp_region_more_lit (by kernel_rfl) (by kernel_rfl) ?_; (repeat (go_big_quiet_step ((go_at_call 71; with_reducible exact Calls.more_of (c_l1Natural _ _ (by omega) (by omega)))))); refine wpQuiet_nil ?_; intro wq hwq; have hbq := below_of_more hwq; clear hwq; have hzq := hbq.size; (try simp only [size_alloc', size_setCell', size_drew', size_drewN'] at hzq); (try (refine keep_heap (b := w.heap.size) hbq ?_ ?_; (first | omega | (simp only [size_alloc', size_setCell', size_drew', size_drewN']; omega)); intro hkq; simp only [heap_alloc_get, heap_setCell_get, heap_drew_get, heap_drewN_get, size_alloc', size_setCell', size_drew', size_drewN', nat_simp1, nat_simp2, nat_simp3, nat_simp4, nat_simp5, if_true, if_false, *] at hkq; obtain ⟨_, _⟩ := blk_facts hkq)); skip)
      go_wp2
      go_ret
      exact ⟨ret_int HQ.out.symm, by (repeat' (first | (with_reducible exact Below.refl _ _) | (with_reducible refine Below.setCell ?_ ?_ _) | (with_reducible refine Below.alloc ?_ ?_ _) | (with_reducible refine Below.drew ?_) | (with_reducible refine below_drewN ?_ _) | (with_reducible refine Below.trans ?_ (Below.mono (by with_reducible assumption) ?_)) | omega | (simp only [size_alloc', size_setCell', size_drew', size_drewN'] at *; omega)))⟩
end Go.Proofs.Ytlhekgjckjcbhaa
