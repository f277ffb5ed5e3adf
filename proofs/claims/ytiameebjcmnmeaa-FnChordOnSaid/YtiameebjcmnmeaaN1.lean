/- Intervals (impl) and instruments: validity on both sides; the walk of FnExactInstrumentValid. Conditions: none. -/
import Derived.Test.YtiameebjcmnmeaaN0
namespace Go.Proofs.Ytiameebjcmnmeaa
open Go.RowKit
set_option linter.unusedSimpArgs false
set_option linter.unusedVariables false
set_option maxHeartbeats 4000000

theorem c_placeHalves (p : Int) (w : World) (h0 : 0 ≤ p) (h1 : p ≤ 1000000) :
    Calls Try.prog 71 #[.int .i64 p] w fun e w' => e = .returned (.int .i64 (natural p)) ∧ w = w' := by
  obtain ⟨n, rfl⟩ := Int.eq_ofNat_of_zero_le h0
  exact c_placeHalves' n w (by omega)
theorem c_up (s h s' h' : Int) (w : World) (hu : upIv ⟨s, h⟩ = ⟨s', h'⟩) (h1 : -1000 ≤ s ∧ s ≤ 1000) (h2 : -1000 ≤ h ∧ h ≤ 1000) :
    Calls Try.prog 73 #[.agg #[.int .i64 s, .int .i64 h]] w fun e w' => e = .returned (.agg #[.int .i64 s', .int .i64 h']) ∧ Below w.heap.size w w' := by
  obtain ⟨h1, h1'⟩ := h1
  obtain ⟨h2, h2'⟩ := h2
  by_cases hs : s < 0
  · rw [up_neg hs] at hu
    injection hu with e1 e2
    subst e1 e2
    go_enter Try.func73, Try.ntmps73
    go_wp2
    (refine bodyPost_ret (results_cell_row rfl _ _ (w.heap.size + 1) 75 #[.int .i64 (-s), .int .i64 (-h)] (0, 0) _ rfl ?_ Try.underlying75 rfl (by kernel_rfl)) rfl ⟨rfl, ?_⟩)
    · (simp only [heap_alloc_get, heap_setCell_get, heap_drew_get, heap_drewN_get, size_alloc', size_setCell', size_drew', size_drewN', nat_simp1, nat_simp2, nat_simp3, nat_simp4, nat_simp5, if_true, if_false, Option.map_some, *]; first | done | rfl | simp)
    · (repeat' (first | (with_reducible exact Below.refl _ _) | (with_reducible refine Below.setCell ?_ ?_ _) | (with_reducible refine Below.alloc ?_ ?_ _) | (with_reducible refine Below.drew ?_) | (with_reducible refine below_drewN ?_ _) | (with_reducible refine Below.trans ?_ (Below.mono (by with_reducible assumption) ?_)) | omega | (simp only [size_alloc', size_setCell', size_drew', size_drewN'] at *; omega)))
  · by_cases hz : s = 0
    · subst hz
      by_cases hh : h < 0
      · rw [up_zneg hh] at hu
        injection hu with e1 e2
        subst e1 e2
        go_enter Try.func73, Try.ntmps73
        go_wp2
        (refine bodyPost_ret (results_cell_row rfl _ _ (w.heap.size + 1) 75 #[.int .i64 0, .int .i64 (-h)] (0, 0) _ rfl ?_ Try.underlying75 rfl (by kernel_rfl)) rfl ⟨rfl, ?_⟩)
        · (simp only [heap_alloc_get, heap_setCell_get, heap_drew_get, heap_drewN_get, size_alloc', size_setCell', size_drew', size_drewN', nat_simp1, nat_simp2, nat_simp3, nat_simp4, nat_simp5, if_true, if_false, Option.map_some, *]; first | done | rfl | simp)
        · (repeat' (first | (with_reducible exact Below.refl _ _) | (with_reducible refine Below.setCell ?_ ?_ _) | (with_reducible refine Below.alloc ?_ ?_ _) | (with_reducible refine Below.drew ?_) | (with_reducible refine below_drewN ?_ _) | (with_reducible refine Below.trans ?_ (Below.mono (by with_reducible assumption) ?_)) | omega | (simp only [size_alloc', size_setCell', size_drew', size_drewN'] at *; omega)))
      · rw [up_znn hh] at hu
        injection hu with e1 e2
        subst e1 e2
        go_enter Try.func73, Try.ntmps73
        go_wp2
        (refine bodyPost_ret (results_cell_row rfl _ _ (w.heap.size + 1) 75 #[.int .i64 0, .int .i64 h] (0, 0) _ rfl ?_ Try.underlying75 rfl (by kernel_rfl)) rfl ⟨rfl, ?_⟩)
        · (simp only [heap_alloc_get, heap_setCell_get, heap_drew_get, heap_drewN_get, size_alloc', size_setCell', size_drew', size_drewN', nat_simp1, nat_simp2, nat_simp3, nat_simp4, nat_simp5, if_true, if_false, Option.map_some, *]; first | done | rfl | simp)
        · (repeat' (first | (with_reducible exact Below.refl _ _) | (with_reducible refine Below.setCell ?_ ?_ _) | (with_reducible refine Below.alloc ?_ ?_ _) | (with_reducible refine Below.drew ?_) | (with_reducible refine below_drewN ?_ _) | (with_reducible refine Below.trans ?_ (Below.mono (by with_reducible assumption) ?_)) | omega | (simp only [size_alloc', size_setCell', size_drew', size_drewN'] at *; omega)))
    · rw [up_pos (by omega)] at hu
      injection hu with e1 e2
      subst e1 e2
      have hz' : (s == 0) = false := by simp; omega
      go_enter Try.func73, Try.ntmps73
      go_wp2
      (refine bodyPost_ret (results_cell_row rfl _ _ (w.heap.size + 1) 75 #[.int .i64 s, .int .i64 h] (0, 0) _ rfl ?_ Try.underlying75 rfl (by kernel_rfl)) rfl ⟨rfl, ?_⟩)
      · (simp only [heap_alloc_get, heap_setCell_get, heap_drew_get, heap_drewN_get, size_alloc', size_setCell', size_drew', size_drewN', nat_simp1, nat_simp2, nat_simp3, nat_simp4, nat_simp5, if_true, if_false, Option.map_some, *]; first | done | rfl | simp)
      · (repeat' (first | (with_reducible exact Below.refl _ _) | (with_reducible refine Below.setCell ?_ ?_ _) | (with_reducible refine Below.alloc ?_ ?_ _) | (with_reducible refine Below.drew ?_) | (with_reducible refine below_drewN ?_ _) | (with_reducible refine Below.trans ?_ (Below.mono (by with_reducible assumption) ?_)) | omega | (simp only [size_alloc', size_setCell', size_drew', size_drewN'] at *; omega)))
theorem up_bd {s h : Int} (h1 : -1000 ≤ s ∧ s ≤ 1000) (h2 : -1000 ≤ h ∧ h ≤ 1000) : 0 ≤ (upIv ⟨s, h⟩).steps ∧ (upIv ⟨s, h⟩).steps ≤ 1000 ∧ -1000 ≤ (upIv ⟨s, h⟩).halves ∧ (upIv ⟨s, h⟩).halves ≤ 1000 := by
  by_cases hs : s < 0
  · rw [up_neg hs]; dsimp only; omega
  · by_cases hz : s = 0
    · subst hz
      by_cases hh : h < 0
      · rw [up_zneg hh]; dsimp only; omega
      · rw [up_znn hh]; dsimp only; omega
    · rw [up_pos (by omega)]; dsimp only; omega
theorem field_iv0 (W : World) (a b : Int) : (Instr.field 75 (.agg #[.int .i64 a, .int .i64 b]) 0).run Try.prog W = .ok (.int .i64 a) W := by kernel_rfl
theorem field_iv1 (W : World) (a b : Int) : (Instr.field 75 (.agg #[.int .i64 a, .int .i64 b]) 1).run Try.prog W = .ok (.int .i64 b) W := by kernel_rfl
theorem c_quality (s h : Int) (w : World) (h1 : -1000 ≤ s ∧ s ≤ 1000) (h2 : -1000 ≤ h ∧ h ≤ 1000) :
    Calls Try.prog 70 #[.agg #[.int .i64 s, .int .i64 h]] w fun e w' => e = .returned (.int .i64 (qualOf ⟨s, h⟩)) ∧ Below w.heap.size w w' := by
  obtain ⟨b1, b2, b3, b4⟩ := up_bd h1 h2
  have HQ := Lib.hid (show qualOf ⟨s, h⟩ = (upIv ⟨s, h⟩).halves - natural (upIv ⟨s, h⟩).steps from rfl)
  obtain ⟨u, hu⟩ : ∃ u, upIv ⟨s, h⟩ = u := ⟨_, rfl⟩
  rw [hu] at b1 b2 b3 b4 HQ
  obtain ⟨s', h'⟩ := u
  dsimp only at b1 b2 b3 b4 HQ
  obtain ⟨n1, n2⟩ := nat_bd b1 b2
  have hu' := Lib.hid hu
  clear hu
  obtain ⟨h1, h1'⟩ := h1
  obtain ⟨h2, h2'⟩ := h2
  have F0 := field_iv0
  have F1 := field_iv1
  go_enter Try.func70, Try.ntmps70
  go_wp2_with fail
  (refine wp_region_more_lit (by kernel_rfl) (by kernel_rfl) ?_; (repeat (go_big_quiet_step (first | (go_at_call 73; with_reducible exact Calls.more_of (c_up s h s' h' _ hu'.out ⟨h1, h1'⟩ ⟨h2, h2'⟩)) | (go_at_call 71; with_reducible exact Calls.more_same (c_placeHalves _ _ (by omega) (by omega)))))); refine wpQuiet_nil ?_; intro wq hwq; have hbq := below_of_more hwq; clear hwq; have hzq := hbq.size; (try simp only [size_alloc', size_setCell', size_drew', size_drewN'] at hzq); (try (refine keep_heap (b := w.heap.size) hbq ?_ ?_; (first | omega | (simp only [size_alloc', size_setCell', size_drew', size_drewN']; omega)); intro hkq; simp only [heap_alloc_get, heap_setCell_get, heap_drew_get, heap_drewN_get, size_alloc', size_setCell', size_drew', size_drewN', nat_simp1, nat_simp2, nat_simp3, nat_simp4, nat_simp5, if_true, if_false, *] at hkq; obtain ⟨_, _⟩ := blk_facts hkq)); skip)
  go_wp2
  go_ret
  exact ⟨ret_int HQ.out.symm, by (repeat' (first | (with_reducible exact Below.refl _ _) | (with_reducible refine Below.setCell ?_ ?_ _) | (with_reducible refine Below.alloc ?_ ?_ _) | (with_reducible refine Below.drew ?_) | (with_reducible refine below_drewN ?_ _) | (with_reducible refine Below.trans ?_ (Below.mono (by with_reducible assumption) ?_)) | omega | (simp only [size_alloc', size_setCell', size_drew', size_drewN'] at *; omega)))⟩
theorem c_sIntervalValid (s h : Int) (w : World) :
    Calls Try.prog 67 #[.agg #[.int .i64 s, .int .i64 h]] w fun e w' => e = .returned (.bool (ivValid ⟨s, h⟩)) ∧ Below w.heap.size w w' := by
  cases h1 : inB s (-21) 21
  · go_enter Try.func67, Try.ntmps67
    go_wp2_with (go_at_call 41; (with_reducible refine (c_l1In _ _ _ _).mono ?_); rintro e wq ⟨rfl, rfl⟩)
    go_ret
    exact ⟨by simp [ivValid, h1], by (repeat' (first | (with_reducible exact Below.refl _ _) | (with_reducible refine Below.setCell ?_ ?_ _) | (with_reducible refine Below.alloc ?_ ?_ _) | (with_reducible refine Below.drew ?_) | (with_reducible refine below_drewN ?_ _) | (with_reducible refine Below.trans ?_ (Below.mono (by with_reducible assumption) ?_)) | omega | (simp only [size_alloc', size_setCell', size_drew', size_drewN'] at *; omega)))⟩
  · cases h2 : inB h (-60) 60
    · go_enter Try.func67, Try.ntmps67
      go_wp2_with (go_at_call 41; (with_reducible refine (c_l1In _ _ _ _).mono ?_); rintro e wq ⟨rfl, rfl⟩)
      go_ret
      exact ⟨by simp [ivValid, h2], by (repeat' (first | (with_reducible exact Below.refl _ _) | (with_reducible refine Below.setCell ?_ ?_ _) | (with_reducible refine Below.alloc ?_ ?_ _) | (with_reducible refine Below.drew ?_) | (with_reducible refine below_drewN ?_ _) | (with_reducible refine Below.trans ?_ (Below.mono (by with_reducible assumption) ?_)) | omega | (simp only [size_alloc', size_setCell', size_drew', size_drewN'] at *; omega)))⟩
    · have b1 := inB_iff.1 h1
      have b2 := inB_iff.1 h2
      have B1 := Lib.hid (show -100 ≤ s ∧ s ≤ 100 by omega)
      have B2 := Lib.hid (show -1000 ≤ h ∧ h ≤ 1000 by omega)
      clear b1 b2
      go_enter Try.func67, Try.ntmps67
      go_wp2_with (first | (go_at_call 41; (with_reducible refine (c_l1In _ _ _ _).mono ?_); rintro e wq ⟨rfl, rfl⟩) | (go_at_call 72; (with_reducible refine (c_l2Quality ⟨s, h⟩ _ B1.out B2.out).mono ?_); rintro e wq ⟨rfl, hbq⟩; have hzq := hbq.size; (try simp only [size_alloc', size_setCell', size_drew', size_drewN'] at hzq); (try (refine keep_heap (b := w.heap.size) hbq ?_ ?_; (first | omega | (simp only [size_alloc', size_setCell', size_drew', size_drewN']; omega)); intro hkq; simp only [heap_alloc_get, heap_setCell_get, heap_drew_get, heap_drewN_get, size_alloc', size_setCell', size_drew', size_drewN', nat_simp1, nat_simp2, nat_simp3, nat_simp4, nat_simp5, if_true, if_false, *] at hkq; obtain ⟨_, _⟩ := blk_facts hkq)); (try (refine keep_heap (b := w.heap.size + 1) hbq ?_ ?_; (first | omega | (simp only [size_alloc', size_setCell', size_drew', size_drewN']; omega)); intro hkq; simp only [heap_alloc_get, heap_setCell_get, heap_drew_get, heap_drewN_get, size_alloc', size_setCell', size_drew', size_drewN', nat_simp1, nat_simp2, nat_simp3, nat_simp4, nat_simp5, if_true, if_false, *] at hkq; obtain ⟨_, _⟩ := blk_facts hkq)); (try (refine keep_heap (b := w.heap.size + 1 + 1) hbq ?_ ?_; (first | omega | (simp only [size_alloc', size_setCell', size_drew', size_drewN']; omega)); intro hkq; simp only [heap_alloc_get, heap_setCell_get, heap_drew_get, heap_drewN_get, size_alloc', size_setCell', size_drew', size_drewN', nat_simp1, nat_simp2, nat_simp3, nat_simp4, nat_simp5, if_true, if_false, *] at hkq; obtain ⟨_, _⟩ := blk_facts hkq)); (try (refine keep_heap (b := w.heap.size + 1 + 1 + 1) hbq ?_ ?_; (first | omega | (simp only [size_alloc', size_setCell', size_drew', size_drewN']; omega)); intro hkq; simp only [heap_alloc_get, heap_setCell_get, heap_drew_get, heap_drewN_get, size_alloc', size_setCell', size_drew', size_drewN', nat_simp1, nat_simp2, nat_simp3, nat_simp4, nat_simp5, if_true, if_false, *] at hkq; obtain ⟨_, _⟩ := blk_facts hkq)); skip))
      go_ret
      exact ⟨by simp [ivValid, h1, h2], by (repeat' (first | (with_reducible exact Below.refl _ _) | (with_reducible refine Below.setCell ?_ ?_ _) | (with_reducible refine Below.alloc ?_ ?_ _) | (with_reducible refine Below.drew ?_) | (with_reducible refine below_drewN ?_ _) | (with_reducible refine Below.trans ?_ (Below.mono (by with_reducible assumption) ?_)) | omega | (simp only [size_alloc', size_setCell', size_drew', size_drewN'] at *; omega)))⟩
theorem ivValid_wide (s h : Int) : ivValid ⟨s, h⟩ = (inB s (-21) 21 && inB h (-99) 99 && inB (qualOf ⟨s, h⟩) (-3) 3) := by
  cases h1 : inB s (-21) 21
  · simp [ivValid, h1]
  · cases h3 : inB (qualOf ⟨s, h⟩) (-3) 3
    · simp [ivValid, h3]
    · have b1 := inB_iff.1 h1
      have b3 := inB_iff.1 h3
      have key : -60 ≤ h ∧ h ≤ 60 := by
        unfold qualOf at b3
        by_cases hs : s < 0
        · rw [up_neg hs] at b3
          dsimp only at b3
          have := nat_le21 (p := -s) (by omega) (by omega)
          omega
        · by_cases hz : s = 0
          · subst hz
            have := nat_le21 (p := 0) (by omega) (by omega)
            by_cases hh : h < 0
            · rw [up_zneg hh] at b3; dsimp only at b3; omega
            · rw [up_znn hh] at b3; dsimp only at b3; omega
          · rw [up_pos (by omega)] at b3
            dsimp only at b3
            have := nat_le21 (p := s) (by omega) (by omega)
            omega
      have e1 : inB h (-60) 60 = true := inB_iff.2 key
      have e2 : inB h (-99) 99 = true := inB_iff.2 (by omega)
      simp [ivValid, h1, h3, e1, e2]
theorem c_IntervalValid (s h : Int) (w : World) :
    Calls Try.prog 65 #[.agg #[.int .i64 s, .int .i64 h]] w fun e w' => e = .returned (.bool (ivValid ⟨s, h⟩)) ∧ Below w.heap.size w w' := by
  have HV := Lib.hid (ivValid_wide s h)
  cases h1 : inB s (-21) 21
  · go_enter Try.func65, Try.ntmps65
    go_wp2_with (go_at_call 38; (with_reducible refine (c_within _ _ _ _).mono ?_); rintro e wq ⟨rfl, rfl⟩)
    go_ret
    exact ⟨by rw [HV.out]; simp [h1], by (repeat' (first | (with_reducible exact Below.refl _ _) | (with_reducible refine Below.setCell ?_ ?_ _) | (with_reducible refine Below.alloc ?_ ?_ _) | (with_reducible refine Below.drew ?_) | (with_reducible refine below_drewN ?_ _) | (with_reducible refine Below.trans ?_ (Below.mono (by with_reducible assumption) ?_)) | omega | (simp only [size_alloc', size_setCell', size_drew', size_drewN'] at *; omega)))⟩
  · cases h2 : inB h (-99) 99
    · go_enter Try.func65, Try.ntmps65
      go_wp2_with (go_at_call 38; (with_reducible refine (c_within _ _ _ _).mono ?_); rintro e wq ⟨rfl, rfl⟩)
      go_ret
      exact ⟨by rw [HV.out]; simp [h2], by (repeat' (first | (with_reducible exact Below.refl _ _) | (with_reducible refine Below.setCell ?_ ?_ _) | (with_reducible refine Below.alloc ?_ ?_ _) | (with_reducible refine Below.drew ?_) | (with_reducible refine below_drewN ?_ _) | (with_reducible refine Below.trans ?_ (Below.mono (by with_reducible assumption) ?_)) | omega | (simp only [size_alloc', size_setCell', size_drew', size_drewN'] at *; omega)))⟩
    · have b1 := inB_iff.1 h1
      have b2 := inB_iff.1 h2
      have B1 := Lib.hid (show -1000 ≤ s ∧ s ≤ 1000 by omega)
      have B2 := Lib.hid (show -1000 ≤ h ∧ h ≤ 1000 by omega)
      clear b1 b2
      go_enter Try.func65, Try.ntmps65
      go_wp2_with (first | (go_at_call 38; (with_reducible refine (c_within _ _ _ _).mono ?_); rintro e wq ⟨rfl, rfl⟩) | (go_at_call 70; (with_reducible refine (c_quality s h _ B1.out B2.out).mono ?_); rintro e wq ⟨rfl, hbq⟩; have hzq := hbq.size; (try simp only [size_alloc', size_setCell', size_drew', size_drewN'] at hzq); (try (refine keep_heap (b := w.heap.size) hbq ?_ ?_; (first | omega | (simp only [size_alloc', size_setCell', size_drew', size_drewN']; omega)); intro hkq; simp only [heap_alloc_get, heap_setCell_get, heap_drew_get, heap_drewN_get, size_alloc', size_setCell', size_drew', size_drewN', nat_simp1, nat_simp2, nat_simp3, nat_simp4, nat_simp5, if_true, if_false, *] at hkq; obtain ⟨_, _⟩ := blk_facts hkq)); (try (refine keep_heap (b := w.heap.size + 1) hbq ?_ ?_; (first | omega | (simp only [size_alloc', size_setCell', size_drew', size_drewN']; omega)); intro hkq; simp only [heap_alloc_get, heap_setCell_get, heap_drew_get, heap_drewN_get, size_alloc', size_setCell', size_drew', size_drewN', nat_simp1, nat_simp2, nat_simp3, nat_simp4, nat_simp5, if_true, if_false, *] at hkq; obtain ⟨_, _⟩ := blk_facts hkq)); (try (refine keep_heap (b := w.heap.size + 1 + 1) hbq ?_ ?_; (first | omega | (simp only [size_alloc', size_setCell', size_drew', size_drewN']; omega)); intro hkq; simp only [heap_alloc_get, heap_setCell_get, heap_drew_get, heap_drewN_get, size_alloc', size_setCell', size_drew', size_drewN', nat_simp1, nat_simp2, nat_simp3, nat_simp4, nat_simp5, if_true, if_false, *] at hkq; obtain ⟨_, _⟩ := blk_facts hkq)); (try (refine keep_heap (b := w.heap.size + 1 + 1 + 1) hbq ?_ ?_; (first | omega | (simp only [size_alloc', size_setCell', size_drew', size_drewN']; omega)); intro hkq; simp only [heap_alloc_get, heap_setCell_get, heap_drew_get, heap_drewN_get, size_alloc', size_setCell', size_drew', size_drewN', nat_simp1, nat_simp2, nat_simp3, nat_simp4, nat_simp5, if_true, if_false, *] at hkq; obtain ⟨_, _⟩ := blk_facts hkq)); skip))
      go_ret
      exact ⟨by rw [HV.out]; simp [h1, h2], by (repeat' (first | (with_reducible exact Below.refl _ _) | (with_reducible refine Below.setCell ?_ ?_ _) | (with_reducible refine Below.alloc ?_ ?_ _) | (with_reducible refine Below.drew ?_) | (with_reducible refine below_drewN ?_ _) | (with_reducible refine Below.trans ?_ (Below.mono (by with_reducible assumption) ?_)) | omega | (simp only [size_alloc', size_setCell', size_drew', size_drewN'] at *; omega)))⟩
end Go.Proofs.Ytiameebjcmnmeaa
