/- FillBar on both sides. Conditions: none. -/
import Derived.Test.YtendoahanngacaaPF
import Derived.Test.YtendoahanngacaaNQ
namespace Go.Proofs.Ytendoahanngacaa
open Go.RowKit
set_option linter.unusedSimpArgs false
set_option linter.unusedVariables false
set_option maxHeartbeats 8000000
theorem nts_one (l : List Nt) : ∀ u ∈ ntCells l, u.oneCell' = true := by
  intro u hu
  obtain ⟨n, _, hn⟩ := List.mem_flatMap.1 hu
  exact nt_one n u hn
theorem fill_no {ns : List Nt} {m : Met} (h : ¬ (voiceValid ns = true ∧ meterValid m = true)) : fillV ns m = none := by unfold fillV; rw [if_neg h]
set_option maxHeartbeats 16000000 in
theorem c_FillBar (v : Value) (ns : List Nt) (m : Met) (w : World) (h : Rd w v 6 ns.length (ntCells ns)) :
    Calls Try.prog 36 #[v, m.v] w (ShiftPost (fillV ns m) w) := by
  obtain ⟨b, u⟩ := m
  have h' := Lib.hid h
  obtain ⟨_, A, c, rfl, hnc, hcm, hA⟩ := h
  unfold maxLen at hcm
  clear hA
  obtain ⟨i0, hi0, hz0, hz1, hz2⟩ := info_parts info_nt
  have hmk := fun (l : Nat) (hl : l ≤ 60) W => show (Instr.makeSlice 44 (.int .i64 0) (.int .i64 ((l : Int) + 1))).run Try.prog W = .ok (.slice (some ⟨W.heap.size, 0, none⟩) 0 (l + 1)) (W.alloc (.cells (madeCells (Value.cells (.agg #[.bool false, .int .i64 0, .int .i64 0, .int .i64 0, .int .i64 0, .bool false])) ((l + 1) * 6)) 57)) by
    have := run_make_rowN (P := Try.prog) 44 57 i0 _ Try.underlying44 hi0 hz0 .i64 .i64 0 (l + 1) (by omega) (by rw [hz2]; omega) (by omega) W
    rw [hz1] at this
    exact this
  have HMK := Lib.hid hmk
  clear hi0 hz0 hz1 hz2 hmk
  cases hv : voiceValid ns
  · have HV := Lib.hid (fill_no (ns := ns) (m := ⟨b, u⟩) (by rw [hv]; simp))
    rw [HV.out]
    go_enter Try.func36, Try.ntmps36
    go_wp2_with (go_at_call 45; (with_reducible refine (c_VoiceValid _ ns _ (h'.out.alloc _)).mono ?_); rintro e wq ⟨rfl, hbq⟩; have hzq := hbq.size; (try simp only [size_alloc', size_setCell', size_drew', size_drewN'] at hzq); (try (refine keep_heap (b := w.heap.size) hbq ?_ ?_; (first | omega | (simp only [size_alloc', size_setCell', size_drew', size_drewN']; omega)); intro hkq; simp only [heap_alloc_get, heap_setCell_get, heap_drew_get, heap_drewN_get, size_alloc', size_setCell', size_drew', size_drewN', nat_simp1, nat_simp2, nat_simp3, nat_simp4, nat_simp5, if_true, if_false, *] at hkq; obtain ⟨_, _⟩ := blk_facts hkq)); skip)
    go_ret2
    exact ⟨_, rfl, ⟨rfl, .inl ⟨rfl, rfl⟩⟩, by simp, by (repeat' (first | (with_reducible exact Below.refl _ _) | (with_reducible refine Below.setCell ?_ ?_ _) | (with_reducible refine Below.alloc ?_ ?_ _) | (with_reducible refine Below.drew ?_) | (with_reducible refine below_drewN ?_ _) | (with_reducible refine Below.trans ?_ (Below.mono (by with_reducible assumption) ?_)) | omega | (simp only [size_alloc', size_setCell', size_drew', size_drewN'] at *; omega)))⟩
  · cases hm : meterValid ⟨b, u⟩
    · have HV := Lib.hid (fill_no (ns := ns) (m := ⟨b, u⟩) (by rw [hm]; simp))
      rw [HV.out]
      go_enter Try.func36, Try.ntmps36
      go_wp2_with fail
      (go_at_call 45; (with_reducible refine (c_VoiceValid _ ns _ (h'.out.alloc _)).mono ?_); rintro e wq ⟨rfl, hbq⟩; have hzq := hbq.size; (try simp only [size_alloc', size_setCell', size_drew', size_drewN'] at hzq); (try (refine keep_heap (b := w.heap.size) hbq ?_ ?_; (first | omega | (simp only [size_alloc', size_setCell', size_drew', size_drewN']; omega)); intro hkq; simp only [heap_alloc_get, heap_setCell_get, heap_drew_get, heap_drewN_get, size_alloc', size_setCell', size_drew', size_drewN', nat_simp1, nat_simp2, nat_simp3, nat_simp4, nat_simp5, if_true, if_false, *] at hkq; obtain ⟨_, _⟩ := blk_facts hkq)); skip)
      go_wp2_with (go_at_call 18; (with_reducible refine (c_MeterValid ⟨b, u⟩ _).mono ?_); rintro e w2 ⟨rfl, hbq⟩; have hzq := hbq.size; (try simp only [size_alloc', size_setCell', size_drew', size_drewN'] at hzq); (try (refine keep_heap (b := w.heap.size) hbq ?_ ?_; (first | omega | (simp only [size_alloc', size_setCell', size_drew', size_drewN']; omega)); intro hkq; simp only [heap_alloc_get, heap_setCell_get, heap_drew_get, heap_drewN_get, size_alloc', size_setCell', size_drew', size_drewN', nat_simp1, nat_simp2, nat_simp3, nat_simp4, nat_simp5, if_true, if_false, *] at hkq; obtain ⟨_, _⟩ := blk_facts hkq)); skip)
      go_ret2
      exact ⟨_, rfl, ⟨rfl, .inl ⟨rfl, rfl⟩⟩, by simp, by (repeat' (first | (with_reducible exact Below.refl _ _) | (with_reducible refine Below.setCell ?_ ?_ _) | (with_reducible refine Below.alloc ?_ ?_ _) | (with_reducible refine Below.drew ?_) | (with_reducible refine below_drewN ?_ _) | (with_reducible refine Below.trans ?_ (Below.mono (by with_reducible assumption) ?_)) | omega | (simp only [size_alloc', size_setCell', size_drew', size_drewN'] at *; omega)))⟩
    · obtain ⟨h60, hbd⟩ := voiceValid_bd hv
      obtain ⟨s1, s2⟩ := sumT_valid hv
      obtain ⟨c1, c2, c3, c4⟩ := barCount_bd hv hm
      have HVM := Lib.hid (And.intro hv hm)
      clear hbd
      go_enter Try.func36, Try.ntmps36
      go_wp2_with fail
      (go_at_call 45; (with_reducible refine (c_VoiceValid _ ns _ (h'.out.alloc _)).mono ?_); rintro e wq ⟨rfl, hbq⟩; have hzq := hbq.size; (try simp only [size_alloc', size_setCell', size_drew', size_drewN'] at hzq); (try (refine keep_heap (b := w.heap.size) hbq ?_ ?_; (first | omega | (simp only [size_alloc', size_setCell', size_drew', size_drewN']; omega)); intro hkq; simp only [heap_alloc_get, heap_setCell_get, heap_drew_get, heap_drewN_get, size_alloc', size_setCell', size_drew', size_drewN', nat_simp1, nat_simp2, nat_simp3, nat_simp4, nat_simp5, if_true, if_false, *] at hkq; obtain ⟨_, _⟩ := blk_facts hkq)); skip)
      have hB1 : Below w.heap.size w wq := by (repeat' (first | (with_reducible exact Below.refl _ _) | (with_reducible refine Below.setCell ?_ ?_ _) | (with_reducible refine Below.alloc ?_ ?_ _) | (with_reducible refine Below.drew ?_) | (with_reducible refine below_drewN ?_ _) | (with_reducible refine Below.trans ?_ (Below.mono (by with_reducible assumption) ?_)) | omega | (simp only [size_alloc', size_setCell', size_drew', size_drewN'] at *; omega)))
      go_wp2_with fail
      (go_at_call 18; (with_reducible refine (c_MeterValid ⟨b, u⟩ _).mono ?_); rintro e w2 ⟨rfl, hbq⟩; have hzq := hbq.size; (try simp only [size_alloc', size_setCell', size_drew', size_drewN'] at hzq); (try (refine keep_heap (b := w.heap.size) hbq ?_ ?_; (first | omega | (simp only [size_alloc', size_setCell', size_drew', size_drewN']; omega)); intro hkq; simp only [heap_alloc_get, heap_setCell_get, heap_drew_get, heap_drewN_get, size_alloc', size_setCell', size_drew', size_drewN', nat_simp1, nat_simp2, nat_simp3, nat_simp4, nat_simp5, if_true, if_false, *] at hkq; obtain ⟨_, _⟩ := blk_facts hkq)); skip)
      have hB2 : Below w.heap.size w w2 := by (repeat' (first | (with_reducible exact Below.refl _ _) | (with_reducible refine Below.setCell ?_ ?_ _) | (with_reducible refine Below.alloc ?_ ?_ _) | (with_reducible refine Below.drew ?_) | (with_reducible refine below_drewN ?_ _) | (with_reducible refine Below.trans ?_ (Below.mono (by with_reducible assumption) ?_)) | omega | (simp only [size_alloc', size_setCell', size_drew', size_drewN'] at *; omega)))
      have hX2 : w2.heap[w.heap.size]? = some (.cells #[.int .i64 b, .int .i64 u] 25 (0, 0)) := by assumption
      have hlt2 : w.heap.size < w2.heap.size := (Array.getElem?_eq_some_iff.1 hX2).1
      have HX2 := Lib.hid hX2
      have HB2 := Lib.hid hB2
      have HR2 := Lib.hid (h'.out.below (Nat.le_refl _) hB2)
      have hmk := HMK.out ns.length h60 w2
      have HO0 := Lib.hid (show (w2.alloc (.cells (madeCells (Value.cells (.agg #[.bool false, .int .i64 0, .int .i64 0, .int .i64 0, .int .i64 0, .bool false])) ((ns.length + 1) * 6)) 57)).ownsRow (w.heap.size + 1) 57 6 (.slice (some ⟨w2.heap.size, 0, none⟩) 0 (ns.length + 1)) 0 [] from
        ⟨by simp, .inr ⟨w2.heap.size, ns.length + 1, _, rfl, by omega, heap_alloc_new w2 _, Nat.zero_le _, by unfold maxLen; omega, size_madeCells _ _, by simp⟩⟩)
      have HRa := Lib.hid (HR2.out.alloc (.cells (madeCells (Value.cells (.agg #[.bool false, .int .i64 0, .int .i64 0, .int .i64 0, .int .i64 0, .bool false])) ((ns.length + 1) * 6)) 57))
      have HXa := Lib.hid (below_heap (bel1 w2 (.cells (madeCells (Value.cells (.agg #[.bool false, .int .i64 0, .int .i64 0, .int .i64 0, .int .i64 0, .bool false])) ((ns.length + 1) * 6)) 57)) HX2.out)
      have HBa := Lib.hid (HB2.out.alloc (Nat.le_of_lt hlt2) (.cells (madeCells (Value.cells (.agg #[.bool false, .int .i64 0, .int .i64 0, .int .i64 0, .int .i64 0, .bool false])) ((ns.length + 1) * 6)) 57))
      go_wp2_with (at_builtin; refine wp_apprd (by rfl) (.tmp 19) (.tmp 20) 44 57 rfl _ 6 48 Try.underlying44 info_nt rfl (by decide) (by decide) (w.heap.size + 1) w2.heap.size (ns.length + 1) 0 _ rfl HO0.out _ ns.length (ntCells ns) rfl HRa.out (nts_one ns) (by omega) ?c8 ?_)
      case c8 => first | omega | (simp only [size_alloc', size_setCell']; omega)
      clear hmk
      intro g3 cap3 w3 hown3 hgr3 hat3 hlt3
      (try simp only [Nat.zero_add, List.nil_append] at hown3 ⊢)
      have HO3 := Lib.hid hown3
      have hX3 := heap_appA hgr3 HXa.out (by omega)
      have HB3 := Lib.hid (bel_app HBa.out HO0.out hgr3 (by omega) (by simp only [size_alloc', size_setCell']; omega))
      have HR3 := Lib.hid (h'.out.below (Nat.le_refl _) HB3.out)
      have hz3 := HB3.out.size
      have hx3 : w.heap.size < w3.heap.size := (Array.getElem?_eq_some_iff.1 hX3).1
      obtain ⟨_, _⟩ := blk_facts hX3
      clear hown3 hgr3 hat3 hX3
      go_wp2_with fail
      (refine wp_region_more_lit (by kernel_rfl) (by kernel_rfl) ?_; (repeat (go_big_quiet_step ((first | (go_at_call 31; with_reducible exact Calls.more_of (c_BarCount _ ns ⟨b, u⟩ _ (HR3.out.below (Nat.le_refl _) (more_below _ _)))) | (go_at_call 20; with_reducible exact Calls.more_of (c_BarTicks ⟨b, u⟩ _)) | (go_at_call 56; with_reducible exact Calls.more_of (c_voiceTicks _ ns _ (HR3.out.below (Nat.le_refl _) (more_below _ _)) HVM.out.1)))))); refine wpQuiet_nil ?_; intro wq hwq; have hbq := below_of_more hwq; clear hwq; have hzq := hbq.size; (try simp only [size_alloc', size_setCell', size_drew', size_drewN'] at hzq); (try (refine keep_heap (b := w.heap.size) hbq ?_ ?_; (first | omega | (simp only [size_alloc', size_setCell', size_drew', size_drewN']; omega)); intro hkq; simp only [heap_alloc_get, heap_setCell_get, heap_drew_get, heap_drewN_get, size_alloc', size_setCell', size_drew', size_drewN', nat_simp1, nat_simp2, nat_simp3, nat_simp4, nat_simp5, if_true, if_false, *] at hkq; obtain ⟨_, _⟩ := blk_facts hkq)); skip)
      have HO3 := Lib.hid (own_belA HO3.out hbq)
      have HB3 := Lib.hid (HB3.out.trans (hbq.mono HB3.out.size))
      by_cases hz : barCount ns ⟨b, u⟩ * barTicks ⟨b, u⟩ - sumT ns = 0
      · have hze : ((barCount ns ⟨b, u⟩ * barTicks ⟨b, u⟩ - sumT ns) == 0) = true := by simpa using hz
        have HV := Lib.hid (show fillV ns ⟨b, u⟩ = some ns by unfold fillV; rw [if_pos HVM.out]; exact if_pos hz)
        clear hz
        go_wp2_with fail
        go_ret2
        rw [HV.out]
        exact ⟨_, rfl, own_monoA HO3.out (by omega), h60, HB3.out⟩
      · have hze : ((barCount ns ⟨b, u⟩ * barTicks ⟨b, u⟩ - sumT ns) == 0) = false := by simpa using hz
        by_cases h7 : 768 < barCount ns ⟨b, u⟩ * barTicks ⟨b, u⟩ - sumT ns
        · have HV := Lib.hid (show fillV ns ⟨b, u⟩ = none by unfold fillV; rw [if_pos HVM.out]; exact (if_neg hz).trans (if_pos (.inl h7)))
          clear hz
          go_wp2_with fail
          go_ret2
          rw [HV.out]
          exact ⟨_, rfl, ⟨rfl, .inl ⟨rfl, rfl⟩⟩, by simp, HB3.out⟩
        · by_cases h6 : ns.length = 60
          · have HV := Lib.hid (show fillV ns ⟨b, u⟩ = none by unfold fillV; rw [if_pos HVM.out]; exact (if_neg hz).trans (if_pos (.inr h6)))
            have h6e : ((ns.length : Int) == 60) = true := by simp; omega
            clear hz h6
            go_wp2_with fail
            go_ret2
            rw [HV.out]
            exact ⟨_, rfl, ⟨rfl, .inl ⟨rfl, rfl⟩⟩, by simp, HB3.out⟩
          · have HV := Lib.hid (show fillV ns ⟨b, u⟩ = some (ns ++ [⟨true, ⟨0, 0, 0⟩, barCount ns ⟨b, u⟩ * barTicks ⟨b, u⟩ - sumT ns, false⟩]) by
              unfold fillV
              rw [if_pos HVM.out]
              exact (if_neg hz).trans (if_neg (by rintro (h | h); exact h7 h; exact h6 h)))
            have h6e : ((ns.length : Int) == 60) = false := by simp; omega
            have h59 : ns.length < 60 := by omega
            clear hz h6
            have HC := Lib.hid (cells_newL wq #[.bool true, .int .i64 0, .int .i64 0, .int .i64 0, .int .i64 (barCount ns ⟨b, u⟩ * barTicks ⟨b, u⟩ - sumT ns), .bool false] 57)
            have HO4 := Lib.hid (HO3.out.alloc (.cells #[.bool true, .int .i64 0, .int .i64 0, .int .i64 0, .int .i64 (barCount ns ⟨b, u⟩ * barTicks ⟨b, u⟩ - sumT ns), .bool false] 57))
            have HB4 := Lib.hid (HB3.out.alloc (by omega) (.cells #[.bool true, .int .i64 0, .int .i64 0, .int .i64 0, .int .i64 (barCount ns ⟨b, u⟩ * barTicks ⟨b, u⟩ - sumT ns), .bool false] 57))
            go_wp2_with (at_builtin; refine wp_appl (by rfl) (.tmp 41) (.tmp 44) 44 57 rfl _ 6 48 Try.underlying44 info_nt rfl (by decide) (by decide) (w.heap.size + 1) g3 cap3 ns.length _ rfl HO4.out (wq).heap.size 0 1 1 (Nt.cells ⟨true, ⟨0, 0, 0⟩, barCount ns ⟨b, u⟩ * barTicks ⟨b, u⟩ - sumT ns, false⟩) rfl rfl HC.out (nt_one _) (by omega) ?c9 ?_)
            case c9 => first | omega | (simp only [size_alloc', size_setCell']; omega)
            intro g5 cap5 w5 hown5 hgr5 hat5 hlt5
            have HO5 := Lib.hid hown5
            have HB5 := Lib.hid (bel_app HB4.out HO4.out hgr5 (by omega) (by simp only [size_alloc', size_setCell']; omega))
            clear hown5 hgr5 hat5
            go_wp2_with fail
            go_ret2
            rw [HV.out]
            exact ⟨_, rfl, by
              show w5.ownsRow w.heap.size _ _ _ (ns ++ [_]).length (ntCells (ns ++ [_]))
              rw [nts_snoc, List.length_append]
              exact own_monoA HO5.out (by omega), by simp; omega, HB5.out⟩
theorem c_sVoiceTicks_v (v : Value) (ns : List Nt) (w : World) (h : Rd w v 6 ns.length (ntCells ns)) (hv : voiceValid ns = true) :
    Calls Try.prog 54 #[v] w fun e w' => e = .returned (.int .i64 (sumT ns)) ∧ Below w.heap.size w w' := by
  have := c_sVoiceTicks v ns w h
  rwa [show voiceT ns = sumT ns by simp [voiceT, hv]] at this
set_option maxHeartbeats 16000000 in
theorem c_sFillBar (v : Value) (ns : List Nt) (m : Met) (w : World) (h : Rd w v 6 ns.length (ntCells ns)) :
    Calls Try.prog 35 #[v, m.v] w (ShiftPost (fillV ns m) w) := by
  obtain ⟨b, u⟩ := m
  have h' := Lib.hid h
  obtain ⟨_, A, c, rfl, hnc, hcm, hA⟩ := h
  unfold maxLen at hcm
  clear hA
  cases hv : voiceValid ns
  · have HV := Lib.hid (fill_no (ns := ns) (m := ⟨b, u⟩) (by rw [hv]; simp))
    rw [HV.out]
    go_enter Try.func35, Try.ntmps35
    go_wp2_with (go_at_call 53; (with_reducible refine (c_sVoiceValid _ ns _ (h'.out.alloc _)).mono ?_); rintro e wq ⟨rfl, hbq⟩; have hzq := hbq.size; (try simp only [size_alloc', size_setCell', size_drew', size_drewN'] at hzq); (try (refine keep_heap (b := w.heap.size) hbq ?_ ?_; (first | omega | (simp only [size_alloc', size_setCell', size_drew', size_drewN']; omega)); intro hkq; simp only [heap_alloc_get, heap_setCell_get, heap_drew_get, heap_drewN_get, size_alloc', size_setCell', size_drew', size_drewN', nat_simp1, nat_simp2, nat_simp3, nat_simp4, nat_simp5, if_true, if_false, *] at hkq; obtain ⟨_, _⟩ := blk_facts hkq)); skip)
    go_ret2
    exact ⟨_, rfl, own_monoA (own_new _ 57 6) (by have := hbq.size; (try simp only [size_alloc'] at this); omega), by simp, by (repeat' (first | (with_reducible exact Below.refl _ _) | (with_reducible refine Below.setCell ?_ ?_ _) | (with_reducible refine Below.alloc ?_ ?_ _) | (with_reducible refine Below.drew ?_) | (with_reducible refine below_drewN ?_ _) | (with_reducible refine Below.trans ?_ (Below.mono (by with_reducible assumption) ?_)) | omega | (simp only [size_alloc', size_setCell', size_drew', size_drewN'] at *; omega)))⟩
  · cases hm : meterValid ⟨b, u⟩
    · have HV := Lib.hid (fill_no (ns := ns) (m := ⟨b, u⟩) (by rw [hm]; simp))
      rw [HV.out]
      go_enter Try.func35, Try.ntmps35
      go_wp2_with fail
      (go_at_call 53; (with_reducible refine (c_sVoiceValid _ ns _ (h'.out.alloc _)).mono ?_); rintro e wq ⟨rfl, hbq⟩; have hzq := hbq.size; (try simp only [size_alloc', size_setCell', size_drew', size_drewN'] at hzq); (try (refine keep_heap (b := w.heap.size) hbq ?_ ?_; (first | omega | (simp only [size_alloc', size_setCell', size_drew', size_drewN']; omega)); intro hkq; simp only [heap_alloc_get, heap_setCell_get, heap_drew_get, heap_drewN_get, size_alloc', size_setCell', size_drew', size_drewN', nat_simp1, nat_simp2, nat_simp3, nat_simp4, nat_simp5, if_true, if_false, *] at hkq; obtain ⟨_, _⟩ := blk_facts hkq)); skip)
      go_wp2_with (go_at_call 16; (with_reducible refine (c_sMeterValid ⟨b, u⟩ _).mono ?_); rintro e w2 ⟨rfl, hbq⟩; have hzq := hbq.size; (try simp only [size_alloc', size_setCell', size_drew', size_drewN'] at hzq); (try (refine keep_heap (b := w.heap.size) hbq ?_ ?_; (first | omega | (simp only [size_alloc', size_setCell', size_drew', size_drewN']; omega)); intro hkq; simp only [heap_alloc_get, heap_setCell_get, heap_drew_get, heap_drewN_get, size_alloc', size_setCell', size_drew', size_drewN', nat_simp1, nat_simp2, nat_simp3, nat_simp4, nat_simp5, if_true, if_false, *] at hkq; obtain ⟨_, _⟩ := blk_facts hkq)); skip)
      go_ret2
      exact ⟨_, rfl, own_monoA (own_new _ 57 6) (by have := hbq.size; (try simp only [size_alloc'] at this); omega), by simp, by (repeat' (first | (with_reducible exact Below.refl _ _) | (with_reducible refine Below.setCell ?_ ?_ _) | (with_reducible refine Below.alloc ?_ ?_ _) | (with_reducible refine Below.drew ?_) | (with_reducible refine below_drewN ?_ _) | (with_reducible refine Below.trans ?_ (Below.mono (by with_reducible assumption) ?_)) | omega | (simp only [size_alloc', size_setCell', size_drew', size_drewN'] at *; omega)))⟩
    · obtain ⟨h60, hbd⟩ := voiceValid_bd hv
      obtain ⟨s1, s2⟩ := sumT_valid hv
      obtain ⟨c1, c2, c3, c4⟩ := barCount_bd hv hm
      have HVM := Lib.hid (And.intro hv hm)
      clear hbd
      go_enter Try.func35, Try.ntmps35
      go_wp2_with fail
      (go_at_call 53; (with_reducible refine (c_sVoiceValid _ ns _ (h'.out.alloc _)).mono ?_); rintro e wq ⟨rfl, hbq⟩; have hzq := hbq.size; (try simp only [size_alloc', size_setCell', size_drew', size_drewN'] at hzq); (try (refine keep_heap (b := w.heap.size) hbq ?_ ?_; (first | omega | (simp only [size_alloc', size_setCell', size_drew', size_drewN']; omega)); intro hkq; simp only [heap_alloc_get, heap_setCell_get, heap_drew_get, heap_drewN_get, size_alloc', size_setCell', size_drew', size_drewN', nat_simp1, nat_simp2, nat_simp3, nat_simp4, nat_simp5, if_true, if_false, *] at hkq; obtain ⟨_, _⟩ := blk_facts hkq)); skip)
      have hB1 : Below w.heap.size w wq := by (repeat' (first | (with_reducible exact Below.refl _ _) | (with_reducible refine Below.setCell ?_ ?_ _) | (with_reducible refine Below.alloc ?_ ?_ _) | (with_reducible refine Below.drew ?_) | (with_reducible refine below_drewN ?_ _) | (with_reducible refine Below.trans ?_ (Below.mono (by with_reducible assumption) ?_)) | omega | (simp only [size_alloc', size_setCell', size_drew', size_drewN'] at *; omega)))
      go_wp2_with fail
      (go_at_call 16; (with_reducible refine (c_sMeterValid ⟨b, u⟩ _).mono ?_); rintro e w2 ⟨rfl, hbq⟩; have hzq := hbq.size; (try simp only [size_alloc', size_setCell', size_drew', size_drewN'] at hzq); (try (refine keep_heap (b := w.heap.size) hbq ?_ ?_; (first | omega | (simp only [size_alloc', size_setCell', size_drew', size_drewN']; omega)); intro hkq; simp only [heap_alloc_get, heap_setCell_get, heap_drew_get, heap_drewN_get, size_alloc', size_setCell', size_drew', size_drewN', nat_simp1, nat_simp2, nat_simp3, nat_simp4, nat_simp5, if_true, if_false, *] at hkq; obtain ⟨_, _⟩ := blk_facts hkq)); skip)
      have hB2 : Below w.heap.size w w2 := by (repeat' (first | (with_reducible exact Below.refl _ _) | (with_reducible refine Below.setCell ?_ ?_ _) | (with_reducible refine Below.alloc ?_ ?_ _) | (with_reducible refine Below.drew ?_) | (with_reducible refine below_drewN ?_ _) | (with_reducible refine Below.trans ?_ (Below.mono (by with_reducible assumption) ?_)) | omega | (simp only [size_alloc', size_setCell', size_drew', size_drewN'] at *; omega)))
      have hX2 : w2.heap[w.heap.size]? = some (.cells #[.int .i64 b, .int .i64 u] 25 (0, 0)) := by assumption
      have hlt2 : w.heap.size < w2.heap.size := (Array.getElem?_eq_some_iff.1 hX2).1
      have HX2 := Lib.hid hX2
      have HB2 := Lib.hid hB2
      have HR2 := Lib.hid (h'.out.below (Nat.le_refl _) hB2)
      go_wp2_with fail
      (refine wp_region_more_lit (by kernel_rfl) (by kernel_rfl) ?_; (repeat (go_big_quiet_step ((first | (go_at_call 29; with_reducible exact Calls.more_of (c_sBarCount _ ns ⟨b, u⟩ _ (HR2.out.below (Nat.le_refl _) (more_below _ _)))) | (go_at_call 19; with_reducible exact Calls.more_of (c_sBarTicks ⟨b, u⟩ _)) | (go_at_call 54; with_reducible exact Calls.more_of (c_sVoiceTicks_v _ ns _ (HR2.out.below (Nat.le_refl _) (more_below _ _)) HVM.out.1)))))); refine wpQuiet_nil ?_; intro wq hwq; have hbq := below_of_more hwq; clear hwq; have hzq := hbq.size; (try simp only [size_alloc', size_setCell', size_drew', size_drewN'] at hzq); (try (refine keep_heap (b := w.heap.size) hbq ?_ ?_; (first | omega | (simp only [size_alloc', size_setCell', size_drew', size_drewN']; omega)); intro hkq; simp only [heap_alloc_get, heap_setCell_get, heap_drew_get, heap_drewN_get, size_alloc', size_setCell', size_drew', size_drewN', nat_simp1, nat_simp2, nat_simp3, nat_simp4, nat_simp5, if_true, if_false, *] at hkq; obtain ⟨_, _⟩ := blk_facts hkq)); skip)
      have HB4 := Lib.hid (HB2.out.trans (hbq.mono HB2.out.size))
      have hlt4 : w.heap.size < wq.heap.size := by omega
      have HO0 := Lib.hid (own_monoA (own_new wq 57 6) (show w.heap.size + 1 ≤ wq.heap.size by omega))
      have HBa := Lib.hid (HB4.out.alloc (Nat.le_of_lt hlt4) (.cells #[] 57))
      have HRa := Lib.hid (h'.out.below (Nat.le_refl _) HBa.out)
      go_wp2_with (at_builtin; refine wp_apprd (by rfl) (.tmp 26) (.tmp 27) 44 57 rfl _ 6 48 Try.underlying44 info_nt rfl (by decide) (by decide) (w.heap.size + 1) wq.heap.size 0 0 _ rfl HO0.out _ ns.length (ntCells ns) rfl HRa.out (nts_one ns) (by omega) ?c8 ?_)
      case c8 => first | omega | (simp only [size_alloc', size_setCell']; omega)
      intro g3 cap3 w3 hown3 hgr3 hat3 hlt3
      (try simp only [Nat.zero_add, List.nil_append] at hown3 ⊢)
      have HO3 := Lib.hid hown3
      have HB3 := Lib.hid (bel_app HBa.out HO0.out hgr3 (by omega) (by simp only [size_alloc', size_setCell']; omega))
      have hx3 : w.heap.size < w3.heap.size := by have := hgr3.size; simp only [size_alloc'] at this; omega
      clear hown3 hgr3 hat3
      by_cases hz : barCount ns ⟨b, u⟩ * barTicks ⟨b, u⟩ - sumT ns = 0
      · have hze : ((barCount ns ⟨b, u⟩ * barTicks ⟨b, u⟩ - sumT ns) == 0) = true := by simpa using hz
        have HV := Lib.hid (show fillV ns ⟨b, u⟩ = some ns by unfold fillV; rw [if_pos HVM.out]; exact if_pos hz)
        clear hz
        go_wp2_with fail
        go_ret2
        rw [HV.out]
        exact ⟨_, rfl, own_monoA HO3.out (by omega), h60, HB3.out⟩
      · have hze : ((barCount ns ⟨b, u⟩ * barTicks ⟨b, u⟩ - sumT ns) == 0) = false := by simpa using hz
        by_cases h7 : 768 < barCount ns ⟨b, u⟩ * barTicks ⟨b, u⟩ - sumT ns
        · have HV := Lib.hid (show fillV ns ⟨b, u⟩ = none by unfold fillV; rw [if_pos HVM.out]; exact (if_neg hz).trans (if_pos (.inl h7)))
          clear hz
          go_wp2_with fail
          go_ret2
          rw [HV.out]
          exact ⟨_, rfl, own_monoA (own_new _ 57 6) (by omega), by simp, HB3.out.alloc (by omega) _⟩
        · by_cases h6 : ns.length = 60
          · have HV := Lib.hid (show fillV ns ⟨b, u⟩ = none by unfold fillV; rw [if_pos HVM.out]; exact (if_neg hz).trans (if_pos (.inr h6)))
            have h6e : ((ns.length : Int) == 60) = true := by simp; omega
            clear hz h6
            go_wp2_with fail
            go_ret2
            rw [HV.out]
            exact ⟨_, rfl, own_monoA (own_new _ 57 6) (by omega), by simp, HB3.out.alloc (by omega) _⟩
          · have HV := Lib.hid (show fillV ns ⟨b, u⟩ = some (ns ++ [⟨true, ⟨0, 0, 0⟩, barCount ns ⟨b, u⟩ * barTicks ⟨b, u⟩ - sumT ns, false⟩]) by
              unfold fillV
              rw [if_pos HVM.out]
              exact (if_neg hz).trans (if_neg (by rintro (h | h); exact h7 h; exact h6 h)))
            have h6e : ((ns.length : Int) == 60) = false := by simp; omega
            have h59 : ns.length < 60 := by omega
            clear hz h6
            have HC := Lib.hid (cells_newL w3 #[.bool true, .int .i64 0, .int .i64 0, .int .i64 0, .int .i64 (barCount ns ⟨b, u⟩ * barTicks ⟨b, u⟩ - sumT ns), .bool false] 57)
            have HO4 := Lib.hid (HO3.out.alloc (.cells #[.bool true, .int .i64 0, .int .i64 0, .int .i64 0, .int .i64 (barCount ns ⟨b, u⟩ * barTicks ⟨b, u⟩ - sumT ns), .bool false] 57))
            have HB4 := Lib.hid (HB3.out.alloc (by omega) (.cells #[.bool true, .int .i64 0, .int .i64 0, .int .i64 0, .int .i64 (barCount ns ⟨b, u⟩ * barTicks ⟨b, u⟩ - sumT ns), .bool false] 57))
            go_wp2_with (at_builtin; refine wp_appl (by rfl) (.tmp 40) (.tmp 43) 44 57 rfl _ 6 48 Try.underlying44 info_nt rfl (by decide) (by decide) (w.heap.size + 1) g3 cap3 ns.length _ rfl HO4.out (w3).heap.size 0 1 1 (Nt.cells ⟨true, ⟨0, 0, 0⟩, barCount ns ⟨b, u⟩ * barTicks ⟨b, u⟩ - sumT ns, false⟩) rfl rfl HC.out (nt_one _) (by omega) ?c9 ?_)
            case c9 => first | omega | (simp only [size_alloc', size_setCell']; omega)
            intro g5 cap5 w5 hown5 hgr5 hat5 hlt5
            have HO5 := Lib.hid hown5
            have HB5 := Lib.hid (bel_app HB4.out HO4.out hgr5 (by omega) (by simp only [size_alloc', size_setCell']; omega))
            clear hown5 hgr5 hat5
            go_wp2_with fail
            go_ret2
            rw [HV.out]
            exact ⟨_, rfl, by
              show w5.ownsRow w.heap.size _ _ _ (ns ++ [_]).length (ntCells (ns ++ [_]))
              rw [nts_snoc, List.length_append]
              exact own_monoA HO5.out (by omega), by simp; omega, HB5.out⟩
end Go.Proofs.Ytendoahanngacaa
