/- Intervals (impl) and instruments: validity on both sides; the walk of FnExactInstrumentValid. Conditions: none. -/
import Derived.Test.YtlhekgjckjcbhaaN0
namespace Go.Proofs.Ytlhekgjckjcbhaa
open Go.RowKit
set_option linter.unusedSimpArgs false
set_option linter.unusedVariables false
set_option maxHeartbeats 4000000

theorem c_sIntervalValid (s h : Int) (w : World) :
    Calls Try.prog 78 #[.agg #[.int .i64 s, .int .i64 h]] w fun e w' => e = .returned (.bool (ivValid ⟨s, h⟩)) ∧ Below w.heap.size w w' := by
  cases h1 : inB s (-21) 21
  · go_enter Try.func78, Try.ntmps78
    go_wp2_with (go_at_call 44; (with_reducible refine (c_l1In _ _ _ _).mono ?_); rintro e wq ⟨rfl, rfl⟩)
    go_ret
    exact ⟨by simp [ivValid, h1], by (repeat' (first | (with_reducible exact Below.refl _ _) | (with_reducible refine Below.setCell ?_ ?_ _) | (with_reducible refine Below.alloc ?_ ?_ _) | (with_reducible refine Below.drew ?_) | (with_reducible refine below_drewN ?_ _) | (with_reducible refine Below.trans ?_ (Below.mono (by with_reducible assumption) ?_)) | omega | (simp only [size_alloc', size_setCell', size_drew', size_drewN'] at *; omega)))⟩
  · cases h2 : inB h (-60) 60
    · go_enter Try.func78, Try.ntmps78
      go_wp2_with (go_at_call 44; (with_reducible refine (c_l1In _ _ _ _).mono ?_); rintro e wq ⟨rfl, rfl⟩)
      go_ret
      exact ⟨by simp [ivValid, h2], by (repeat' (first | (with_reducible exact Below.refl _ _) | (with_reducible refine Below.setCell ?_ ?_ _) | (with_reducible refine Below.alloc ?_ ?_ _) | (with_reducible refine Below.drew ?_) | (with_reducible refine below_drewN ?_ _) | (with_reducible refine Below.trans ?_ (Below.mono (by with_reducible assumption) ?_)) | omega | (simp only [size_alloc', size_setCell', size_drew', size_drewN'] at *; omega)))⟩
    · have b1 := inB_iff.1 h1
      have b2 := inB_iff.1 h2
      have B1 := Lib.hid (show -100 ≤ s ∧ s ≤ 100 by omega)
      have B2 := Lib.hid (show -1000 ≤ h ∧ h ≤ 1000 by omega)
      clear b1 b2
      go_enter Try.func78, Try.ntmps78
      go_wp2_with (first | (go_at_call 44; (with_reducible refine (c_l1In _ _ _ _).mono ?_); rintro e wq ⟨rfl, rfl⟩) | (go_at_call 80; (with_reducible refine (c_l2Quality ⟨s, h⟩ _ B1.out B2.out).mono ?_); rintro e wq ⟨rfl, hbq⟩; have hzq := hbq.size; (try simp only [size_alloc', size_setCell', size_drew', size_drewN'] at hzq); (try (refine keep_heap (b := w.heap.size) hbq ?_ ?_; (first | omega | (simp only [size_alloc', size_setCell', size_drew', size_drewN']; omega)); intro hkq; simp only [heap_alloc_get, heap_setCell_get, heap_drew_get, heap_drewN_get, size_alloc', size_setCell', size_drew', size_drewN', nat_simp1, nat_simp2, nat_simp3, nat_simp4, nat_simp5, if_true, if_false, *] at hkq; obtain ⟨_, _⟩ := blk_facts hkq)); (try (refine keep_heap (b := w.heap.size + 1) hbq ?_ ?_; (first | omega | (simp only [size_alloc', size_setCell', size_drew', size_drewN']; omega)); intro hkq; simp only [heap_alloc_get, heap_setCell_get, heap_drew_get, heap_drewN_get, size_alloc', size_setCell', size_drew', size_drewN', nat_simp1, nat_simp2, nat_simp3, nat_simp4, nat_simp5, if_true, if_false, *] at hkq; obtain ⟨_, _⟩ := blk_facts hkq)); (try (refine keep_heap (b := w.heap.size + 1 + 1) hbq ?_ ?_; (first | omega | (simp only [size_alloc', size_setCell', size_drew', size_drewN']; omega)); intro hkq; simp only [heap_alloc_get, heap_setCell_get, heap_drew_get, heap_drewN_get, size_alloc', size_setCell', size_drew', size_drewN', nat_simp1, nat_simp2, nat_simp3, nat_simp4, nat_simp5, if_true, if_false, *] at hkq; obtain ⟨_, _⟩ := blk_facts hkq)); (try (refine keep_heap (b := w.heap.size + 1 + 1 + 1) hbq ?_ ?_; (first | omega | (simp only [size_alloc', size_setCell', size_drew', size_drewN']; omega)); intro hkq; simp only [heap_alloc_get, heap_setCell_get, heap_drew_get, heap_drewN_get, size_alloc', size_setCell', size_drew', size_drewN', nat_simp1, nat_simp2, nat_simp3, nat_simp4, nat_simp5, if_true, if_false, *] at hkq; obtain ⟨_, _⟩ := blk_facts hkq)); skip))
      go_ret
      exact ⟨by simp [ivValid, h1, h2], by (repeat' (first | (with_reducible exact Below.refl _ _) | (with_reducible refine Below.setCell ?_ ?_ _) | (with_reducible refine Below.alloc ?_ ?_ _) | (with_reducible refine Below.drew ?_) | (with_reducible refine below_drewN ?_ _) | (with_reducible refine Below.trans ?_ (Below.mono (by with_reducible assumption) ?_)) | omega | (simp only [size_alloc', size_setCell', size_drew', size_drewN'] at *; omega)))⟩
end Go.Proofs.Ytlhekgjckjcbhaa
