/- Moving a voice: of the reference. Conditions: none. -/
import Derived.Test.YthkaofnciaommaaN6
namespace Go.Proofs.Ythkaofnciaommaa
open Go.RowKit
set_option linter.unusedSimpArgs false
set_option linter.unusedVariables false
set_option maxHeartbeats 8000000

theorem c_sShiftVoice (v : Value) (ns : List Nt) (i : Iv) (w : World) (h : Rd w v 6 ns.length (ntCells ns)) :
    Calls Try.prog 37 #[v, i.v] w (ShiftPost (shiftV ns i) w) := by
  have h' := Lib.hid h
  obtain ⟨ps, ph⟩ := i
  obtain ⟨_, A, c, rfl, hnc, hcm, hA⟩ := h
  unfold maxLen at hcm
  cases hv : voiceValid ns
  · have HV := Lib.hid (show shiftV ns ⟨ps, ph⟩ = none by unfold shiftV; rw [hv]; simp)
    rw [HV.out]
    clear hA
    go_enter Try.func37, Try.ntmps37
    go_wp2_with fail
    (go_at_call 24; (with_reducible refine (c_sVoiceValid _ ns _ ((h'.out.alloc _).alloc _)).mono ?_); rintro e wq ⟨rfl, hbq⟩; have hzq := hbq.size; (try simp only [size_alloc', size_setCell', size_drew', size_drewN'] at hzq); (try (refine keep_heap (b := w.heap.size) hbq ?_ ?_; (first | omega | (simp only [size_alloc', size_setCell', size_drew', size_drewN']; omega)); intro hkq; simp only [heap_alloc_get, heap_setCell_get, heap_drew_get, heap_drewN_get, size_alloc', size_setCell', size_drew', size_drewN', nat_simp1, nat_simp2, nat_simp3, nat_simp4, nat_simp5, if_true, if_false, *] at hkq; obtain ⟨_, _⟩ := blk_facts hkq)); skip)
    have HO0 := Lib.hid (own_belA (own_new (w.alloc (.cells #[.int .i64 ps, .int .i64 ph] 27)) 50 6) hbq)
    rw [size_alloc'] at HO0
    go_wp2
    go_ret2
    exact ⟨_, rfl, own_monoA HO0.out (Nat.le_succ _), by simp, by (repeat' (first | (with_reducible exact Below.refl _ _) | (with_reducible refine Below.setCell ?_ ?_ _) | (with_reducible refine Below.alloc ?_ ?_ _) | (with_reducible refine Below.drew ?_) | (with_reducible refine below_drewN ?_ _) | (with_reducible refine Below.trans ?_ (Below.mono (by with_reducible assumption) ?_)) | omega | (simp only [size_alloc', size_setCell', size_drew', size_drewN'] at *; omega)))⟩
  · cases h2 : ivValid ⟨ps, ph⟩
    · have HV := Lib.hid (show shiftV ns ⟨ps, ph⟩ = none by unfold shiftV; rw [h2]; simp)
      rw [HV.out]
      clear hA
      go_enter Try.func37, Try.ntmps37
      go_wp2_with fail
      (go_at_call 24; (with_reducible refine (c_sVoiceValid _ ns _ ((h'.out.alloc _).alloc _)).mono ?_); rintro e wq ⟨rfl, hbq⟩; have hzq := hbq.size; (try simp only [size_alloc', size_setCell', size_drew', size_drewN'] at hzq); (try (refine keep_heap (b := w.heap.size) hbq ?_ ?_; (first | omega | (simp only [size_alloc', size_setCell', size_drew', size_drewN']; omega)); intro hkq; simp only [heap_alloc_get, heap_setCell_get, heap_drew_get, heap_drewN_get, size_alloc', size_setCell', size_drew', size_drewN', nat_simp1, nat_simp2, nat_simp3, nat_simp4, nat_simp5, if_true, if_false, *] at hkq; obtain ⟨_, _⟩ := blk_facts hkq)); skip)
      have HO1 := Lib.hid (own_belA (own_new (w.alloc (.cells #[.int .i64 ps, .int .i64 ph] 27)) 50 6) hbq)
      rw [size_alloc'] at HO1
      go_wp2_with fail
      (go_at_call 41; (with_reducible refine (c_sIntervalValid ps ph _).mono ?_); rintro e w2 ⟨rfl, hbq⟩; have hzq := hbq.size; (try simp only [size_alloc', size_setCell', size_drew', size_drewN'] at hzq); (try (refine keep_heap (b := w.heap.size) hbq ?_ ?_; (first | omega | (simp only [size_alloc', size_setCell', size_drew', size_drewN']; omega)); intro hkq; simp only [heap_alloc_get, heap_setCell_get, heap_drew_get, heap_drewN_get, size_alloc', size_setCell', size_drew', size_drewN', nat_simp1, nat_simp2, nat_simp3, nat_simp4, nat_simp5, if_true, if_false, *] at hkq; obtain ⟨_, _⟩ := blk_facts hkq)); skip)
      have HO0 := Lib.hid (own_belA HO1.out hbq)
      go_wp2
      go_ret2
      exact ⟨_, rfl, own_monoA HO0.out (Nat.le_succ _), by simp, by (repeat' (first | (with_reducible exact Below.refl _ _) | (with_reducible refine Below.setCell ?_ ?_ _) | (with_reducible refine Below.alloc ?_ ?_ _) | (with_reducible refine Below.drew ?_) | (with_reducible refine below_drewN ?_ _) | (with_reducible refine Below.trans ?_ (Below.mono (by with_reducible assumption) ?_)) | omega | (simp only [size_alloc', size_setCell', size_drew', size_drewN'] at *; omega)))⟩
    · have HV := Lib.hid (show shiftV ns ⟨ps, ph⟩ = shiftL ⟨ps, ph⟩ ns by unfold shiftV; rw [if_pos ⟨hv, h2⟩])
      obtain ⟨h60, hbd⟩ := voiceValid_bd hv
      have HPost := Lib.hid (show ∀ o, shiftL ⟨ps, ph⟩ ns = o → ∀ e w', ShiftPost o w e w' → ShiftPost (shiftV ns ⟨ps, ph⟩) w e w' from fun o ho e w' hp => by rw [HV.out, ho]; exact hp)
      clear hbd
      go_enter Try.func37, Try.ntmps37
      go_wp2_with fail
      (go_at_call 24; (with_reducible refine (c_sVoiceValid _ ns _ ((h'.out.alloc _).alloc _)).mono ?_); rintro e wq ⟨rfl, hbq⟩; have hzq := hbq.size; (try simp only [size_alloc', size_setCell', size_drew', size_drewN'] at hzq); (try (refine keep_heap (b := w.heap.size) hbq ?_ ?_; (first | omega | (simp only [size_alloc', size_setCell', size_drew', size_drewN']; omega)); intro hkq; simp only [heap_alloc_get, heap_setCell_get, heap_drew_get, heap_drewN_get, size_alloc', size_setCell', size_drew', size_drewN', nat_simp1, nat_simp2, nat_simp3, nat_simp4, nat_simp5, if_true, if_false, *] at hkq; obtain ⟨_, _⟩ := blk_facts hkq)); skip)
      have HO1 := Lib.hid (own_belA (own_new (w.alloc (.cells #[.int .i64 ps, .int .i64 ph] 27)) 50 6) hbq)
      rw [size_alloc'] at HO1
      have hB1 : Below w.heap.size w wq := by (repeat' (first | (with_reducible exact Below.refl _ _) | (with_reducible refine Below.setCell ?_ ?_ _) | (with_reducible refine Below.alloc ?_ ?_ _) | (with_reducible refine Below.drew ?_) | (with_reducible refine below_drewN ?_ _) | (with_reducible refine Below.trans ?_ (Below.mono (by with_reducible assumption) ?_)) | omega | (simp only [size_alloc', size_setCell', size_drew', size_drewN'] at *; omega)))
      go_wp2_with fail
      (go_at_call 41; (with_reducible refine (c_sIntervalValid ps ph _).mono ?_); rintro e w2 ⟨rfl, hbq⟩; have hzq := hbq.size; (try simp only [size_alloc', size_setCell', size_drew', size_drewN'] at hzq); (try (refine keep_heap (b := w.heap.size) hbq ?_ ?_; (first | omega | (simp only [size_alloc', size_setCell', size_drew', size_drewN']; omega)); intro hkq; simp only [heap_alloc_get, heap_setCell_get, heap_drew_get, heap_drewN_get, size_alloc', size_setCell', size_drew', size_drewN', nat_simp1, nat_simp2, nat_simp3, nat_simp4, nat_simp5, if_true, if_false, *] at hkq; obtain ⟨_, _⟩ := blk_facts hkq)); skip)
      have hB2 : Below w.heap.size w w2 := by (repeat' (first | (with_reducible exact Below.refl _ _) | (with_reducible refine Below.setCell ?_ ?_ _) | (with_reducible refine Below.alloc ?_ ?_ _) | (with_reducible refine Below.drew ?_) | (with_reducible refine below_drewN ?_ _) | (with_reducible refine Below.trans ?_ (Below.mono (by with_reducible assumption) ?_)) | omega | (simp only [size_alloc', size_setCell', size_drew', size_drewN'] at *; omega)))
      have hX2 : w2.heap[w.heap.size]? = some (.cells #[.int .i64 ps, .int .i64 ph] 27 (0, 0)) := by assumption
      have HX2 := Lib.hid hX2
      have hlt2 : w.heap.size < w2.heap.size := (Array.getElem?_eq_some_iff.1 hX2).1
      have HO0 := Lib.hid (own_belA HO1.out hbq)
      have HBel := Lib.hid hB2
      clear hX2
      go_wp2_with fail
      clear hv h2
      go_loopw [6, 7] (fun o j wr => ∃ (k g cap : Nat) (out : List Nt), k ≤ ns.length ∧ j = .int .i64 k ∧ o = .slice (some ⟨g, 0, none⟩) k cap ∧ shiftL ⟨ps, ph⟩ (ns.take k) = some out ∧
        wr.ownsRow (w.heap.size + 1) 50 6 (.slice (some ⟨g, 0, none⟩) k cap) k (ntCells out) ∧ wr.heap[w.heap.size]? = some (.cells #[.int .i64 ps, .int .i64 ph] 27 (0, 0)) ∧ Below w.heap.size w wr) (fun _ j _ => ns.length - (intOf j).toNat)
      case atStart => exact ⟨0, _, _, [], Nat.zero_le _, rfl, rfl, rfl, HO0.out, HX2.out, HBel.out⟩
      case round =>
        obtain ⟨k, g, cap, out, hk, rfl, rfl, hsh, hown, hX, hbl⟩ := hrel
        have hz := hbl.size
        have hXlt : w.heap.size < wr.heap.size := (Array.getElem?_eq_some_iff.1 hX).1
        have hgw := (hown.lt g rfl).2
        have hgb := (hown.lt g rfl).1
        have HSh := Lib.hid hsh
        have HO := Lib.hid hown
        have HX := Lib.hid hX
        clear hsh hown
        by_cases hlt : k < ns.length
        · obtain ⟨b, off, rfl, hcc⟩ := hA (by omega)
          have hr : ∀ j u, (ntCells ns)[j]? = some u → wr.cell? ⟨b, off + j, none⟩ = some u := fun j u hu => (hbl.cell (World.block_lt_of_cell? w _ (hcc j u hu))).trans (hcc j u hu)
          obtain ⟨c0, c1, c2, c3, c4, c5⟩ := nt_at hr k hlt
          have HNone := Lib.hid (fun hn => shiftL_none ⟨ps, ph⟩ ns k hlt hn)
          have HStep := Lib.hid (fun (m : Nt) hm => shiftL_step hlt HSh.out (m := m) hm)
          generalize ns[k] = n0 at *
          obtain ⟨r0, ⟨s0, a0, o0⟩, t0, td0⟩ := n0
          clear hA hcc hr
          cases r0
          · have hA8 := heap_alloc_new wr (.cells #[.bool false, .int .i64 s0, .int .i64 a0, .int .i64 o0, .int .i64 t0, .bool td0] 50)
            have HA8 := Lib.hid hA8
            have HOa := Lib.hid (HO.out.alloc (.cells #[.bool false, .int .i64 s0, .int .i64 a0, .int .i64 o0, .int .i64 t0, .bool td0] 50))
            have HXa := Lib.hid (below_heap (bel1 wr (.cells #[.bool false, .int .i64 s0, .int .i64 a0, .int .i64 o0, .int .i64 t0, .bool td0] 50)) HX.out)
            have HBa := Lib.hid (hbl.alloc hz (.cells #[.bool false, .int .i64 s0, .int .i64 a0, .int .i64 o0, .int .i64 t0, .bool td0] 50))
            have hXw := HX.out
            obtain ⟨_, _⟩ := blk_facts hXw
            have hneX : (w.heap.size = wr.heap.size) = False := eq_false (by omega)
            have hneX' : (wr.heap.size = w.heap.size) = False := eq_false (by omega)
            clear hA8 hXw
            rcases addVal_cases (addIv ⟨s0, a0, o0⟩ ⟨ps, ph⟩) with ⟨⟨q1, q2, q3⟩, hq⟩ | hq
            · have HSt := Lib.hid (HStep.out ⟨false, ⟨q1, q2, q3⟩, t0, td0⟩ (by simp only [shiftN, hq]; rfl))
              have HW := Lib.hid (fun w => show Calls Try.prog 58 #[.agg #[.int .i64 s0, .int .i64 a0, .int .i64 o0], .agg #[.int .i64 ps, .int .i64 ph]] w fun e w' => e = .returned (.tuple #[.agg #[.int .i64 q1, .int .i64 q2, .int .i64 q3], .bool true]) ∧ Below w.heap.size w w' by
                have := c_sAddInterval ⟨s0, a0, o0⟩ ⟨ps, ph⟩ w
                rw [hq] at this
                exact this)
              clear hq
              go_wp2_with fail
              (go_at_call 58; (with_reducible refine (HW.out _).mono ?_); rintro e w3 ⟨rfl, hb3⟩)
              have hz3 := hb3.size
              simp only [size_alloc'] at hz3
              have hB8 := below_heap hb3 HA8.out
              have HO3 := Lib.hid (own_belA HOa.out hb3)
              have HX3 := Lib.hid (below_heap hb3 HXa.out)
              have HB3 := Lib.hid (HBa.out.trans (hb3.mono (by simp; omega)))
              have hn1 : (wr.heap.size = w3.heap.size) = False := eq_false (by omega)
              have hn2 : (w3.heap.size = wr.heap.size) = False := eq_false (by omega)
              have hn3 : (w.heap.size = w3.heap.size) = False := eq_false (by omega)
              have hn4 : (w3.heap.size = w.heap.size) = False := eq_false (by omega)
              have f1 := below_heap (bel1 w3 (.cells #[.int .i64 q1, .int .i64 q2, .int .i64 q3] 48)) hB8
              have f2 : ((w3.alloc (.cells #[.int .i64 q1, .int .i64 q2, .int .i64 q3] 48)).setCell ⟨wr.heap.size, 1, none⟩ (.int .i64 q1)).heap[wr.heap.size]? = some (.cells #[.bool false, .int .i64 q1, .int .i64 a0, .int .i64 o0, .int .i64 t0, .bool td0] 50 (0, 0)) := by (simp only [heap_alloc_get, heap_setCell_get, heap_drew_get, heap_drewN_get, size_alloc', size_setCell', size_drew', size_drewN', nat_simp1, nat_simp2, nat_simp3, nat_simp4, nat_simp5, if_true, if_false, Option.map_some, *]; first | done | rfl | simp)
              have f3 : (((w3.alloc (.cells #[.int .i64 q1, .int .i64 q2, .int .i64 q3] 48)).setCell ⟨wr.heap.size, 1, none⟩ (.int .i64 q1)).setCell ⟨wr.heap.size, 2, none⟩ (.int .i64 q2)).heap[wr.heap.size]? = some (.cells #[.bool false, .int .i64 q1, .int .i64 q2, .int .i64 o0, .int .i64 t0, .bool td0] 50 (0, 0)) := by (simp only [heap_alloc_get, heap_setCell_get, heap_drew_get, heap_drewN_get, size_alloc', size_setCell', size_drew', size_drewN', nat_simp1, nat_simp2, nat_simp3, nat_simp4, nat_simp5, if_true, if_false, Option.map_some, *]; first | done | rfl | simp)
              have f4 : ((((w3.alloc (.cells #[.int .i64 q1, .int .i64 q2, .int .i64 q3] 48)).setCell ⟨wr.heap.size, 1, none⟩ (.int .i64 q1)).setCell ⟨wr.heap.size, 2, none⟩ (.int .i64 q2)).setCell ⟨wr.heap.size, 3, none⟩ (.int .i64 q3)).heap[wr.heap.size]? = some (.cells #[.bool false, .int .i64 q1, .int .i64 q2, .int .i64 q3, .int .i64 t0, .bool td0] 50 (0, 0)) := by (simp only [heap_alloc_get, heap_setCell_get, heap_drew_get, heap_drewN_get, size_alloc', size_setCell', size_drew', size_drewN', nat_simp1, nat_simp2, nat_simp3, nat_simp4, nat_simp5, if_true, if_false, Option.map_some, *]; first | done | rfl | simp)
              have HX4 := Lib.hid (show ((((w3.alloc (.cells #[.int .i64 q1, .int .i64 q2, .int .i64 q3] 48)).setCell ⟨wr.heap.size, 1, none⟩ (.int .i64 q1)).setCell ⟨wr.heap.size, 2, none⟩ (.int .i64 q2)).setCell ⟨wr.heap.size, 3, none⟩ (.int .i64 q3)).heap[w.heap.size]? = some (.cells #[.int .i64 ps, .int .i64 ph] 27 (0, 0)) by have := HX3.out; (simp only [heap_alloc_get, heap_setCell_get, heap_drew_get, heap_drewN_get, size_alloc', size_setCell', size_drew', size_drewN', nat_simp1, nat_simp2, nat_simp3, nat_simp4, nat_simp5, if_true, if_false, Option.map_some, *]; first | done | rfl | simp))
              have HO4 := Lib.hid (own_setN (a := ⟨wr.heap.size, 3, none⟩) (own_setN (a := ⟨wr.heap.size, 2, none⟩) (own_setN (a := ⟨wr.heap.size, 1, none⟩) (HO3.out.alloc (.cells #[.int .i64 q1, .int .i64 q2, .int .i64 q3] 48)) (by show wr.heap.size ≠ g; omega) (.int .i64 q1)) (by show wr.heap.size ≠ g; omega) (.int .i64 q2)) (by show wr.heap.size ≠ g; omega) (.int .i64 q3))
              have HB4 := Lib.hid ((((HB3.out.alloc (by omega) (.cells #[.int .i64 q1, .int .i64 q2, .int .i64 q3] 48)).setCell (p := ⟨wr.heap.size, 1, none⟩) (by show w.heap.size ≤ wr.heap.size; omega) (.int .i64 q1)).setCell (p := ⟨wr.heap.size, 2, none⟩) (by show w.heap.size ≤ wr.heap.size; omega) (.int .i64 q2)).setCell (p := ⟨wr.heap.size, 3, none⟩) (by show w.heap.size ≤ wr.heap.size; omega) (.int .i64 q3))
              obtain ⟨_, _⟩ := blk_facts hB8
              obtain ⟨_, _⟩ := blk_facts f1
              obtain ⟨_, _⟩ := blk_facts f2
              obtain ⟨_, _⟩ := blk_facts f3
              obtain ⟨_, _⟩ := blk_facts f4
              clear hB8 f1 f2 f3 f4
              have HOb := Lib.hid (HO4.out.alloc (.cells #[.bool false, .int .i64 q1, .int .i64 q2, .int .i64 q3, .int .i64 t0, .bool td0] 50))
              have HXb := Lib.hid (below_heap (bel1 _ (.cells #[.bool false, .int .i64 q1, .int .i64 q2, .int .i64 q3, .int .i64 t0, .bool td0] 50)) HX4.out)
              have HC := Lib.hid (cells_newL ((((w3.alloc (.cells #[.int .i64 q1, .int .i64 q2, .int .i64 q3] 48)).setCell ⟨wr.heap.size, 1, none⟩ (.int .i64 q1)).setCell ⟨wr.heap.size, 2, none⟩ (.int .i64 q2)).setCell ⟨wr.heap.size, 3, none⟩ (.int .i64 q3)) #[.bool false, .int .i64 q1, .int .i64 q2, .int .i64 q3, .int .i64 t0, .bool td0] 50)
              rw [size_setCell', size_setCell', size_setCell', size_alloc'] at HC
              have HBb := Lib.hid (HB4.out.alloc (by rw [size_setCell', size_setCell', size_setCell', size_alloc']; omega) (.cells #[.bool false, .int .i64 q1, .int .i64 q2, .int .i64 q3, .int .i64 t0, .bool td0] 50))
              go_wp2_with (at_builtin; refine wp_appl (by rfl) (.tmp 46) (.tmp 48) 39 50 rfl _ 6 48 Try.underlying39 info_nt rfl (by decide) (by decide) (w.heap.size + 1) g cap k _ rfl HOb.out (w3.heap.size + 1) 0 1 1 (Nt.cells ⟨false, ⟨q1, q2, q3⟩, t0, td0⟩) rfl rfl HC.out (nt_one _) (by omega) ?c2 ?_)
              case c2 => first | omega | (simp only [size_alloc', size_setCell']; omega)
              intro g4 cap4 w4 hown4 hgr4 hat4 hlt4
              have HO5 := Lib.hid hown4
              have HX5 := Lib.hid (heap_appA hgr4 HXb.out (by omega))
              have HB5 := Lib.hid (bel_app HBb.out HOb.out hgr4 (by omega) (by simp only [size_alloc', size_setCell']; omega))
              clear hown4 hgr4 hat4
              go_wp2_with fail
              go_roundw
              case rel => exact ⟨k + 1, g4, cap4, out ++ [⟨false, ⟨q1, q2, q3⟩, t0, td0⟩], by omega, by go_num, rfl, HSt.out, by rw [nts_snoc]; exact HO5.out, HX5.out, HB5.out⟩
              case measure => simp [intOf]; omega
            · have HE := Lib.hid (HNone.out (by simp only [shiftN, hq]; rfl))
              have HW := Lib.hid (fun w => show Calls Try.prog 58 #[.agg #[.int .i64 s0, .int .i64 a0, .int .i64 o0], .agg #[.int .i64 ps, .int .i64 ph]] w fun e w' => e = .returned (.tuple #[.agg #[.int .i64 0, .int .i64 0, .int .i64 0], .bool false]) ∧ Below w.heap.size w w' by
                have := c_sAddInterval ⟨s0, a0, o0⟩ ⟨ps, ph⟩ w
                rw [hq] at this
                exact this)
              clear hq
              go_wp2_with fail
              (go_at_call 58; (with_reducible refine (HW.out _).mono ?_); rintro e w3 ⟨rfl, hb3⟩)
              have HB3 := Lib.hid (HBa.out.trans (hb3.mono (by simp; omega)))
              have hz3 := hb3.size
              simp only [size_alloc'] at hz3
              go_wp2_with fail
              go_ret2
              exact HPost.out _ HE.out _ _ ⟨.slice (some ⟨w3.heap.size + 1, 0, none⟩) 0 0, rfl, (by have hn := own_new (w3.alloc (.cells #[.int .i64 0, .int .i64 0, .int .i64 0] 48)) 50 6; rw [size_alloc'] at hn; exact own_monoA hn (by omega)), by simp, (HB3.out.alloc (by omega) _).alloc (by rw [size_alloc']; omega) _⟩
          · have HSt := Lib.hid (HStep.out ⟨true, ⟨s0, a0, o0⟩, t0, td0⟩ rfl)
            have HOa := Lib.hid ((HO.out.alloc (.cells #[.bool true, .int .i64 s0, .int .i64 a0, .int .i64 o0, .int .i64 t0, .bool td0] 50)).alloc (.cells #[.bool true, .int .i64 s0, .int .i64 a0, .int .i64 o0, .int .i64 t0, .bool td0] 50))
            have HC := Lib.hid (cells_newL (wr.alloc (.cells #[.bool true, .int .i64 s0, .int .i64 a0, .int .i64 o0, .int .i64 t0, .bool td0] 50)) #[.bool true, .int .i64 s0, .int .i64 a0, .int .i64 o0, .int .i64 t0, .bool td0] 50)
            rw [size_alloc'] at HC
            go_wp2_with (at_builtin; refine wp_appl (by rfl) (.tmp 46) (.tmp 48) 39 50 rfl _ 6 48 Try.underlying39 info_nt rfl (by decide) (by decide) (w.heap.size + 1) g cap k _ rfl HOa.out (wr.heap.size + 1) 0 1 1 (Nt.cells ⟨true, ⟨s0, a0, o0⟩, t0, td0⟩) rfl rfl HC.out (nt_one _) (by omega) ?c2 ?_)
            case c2 => first | omega | (simp; omega)
            intro g2 cap2 w3 hown3 hgr3 hat3 hlt3
            have HO3 := Lib.hid hown3
            have HX3 := Lib.hid (heap_appA hgr3 (below_heap ((bel1 wr _).alloc (by simp) _) HX.out) (by omega))
            have HB3 := Lib.hid (bel_app ((hbl.alloc hz _).alloc (by simp; omega) _) HOa.out hgr3 (by omega) (by simp; omega))
            clear hown3 hgr3 hat3
            go_wp2_with fail
            go_roundw
            case rel => exact ⟨k + 1, g2, cap2, out ++ [⟨true, ⟨s0, a0, o0⟩, t0, td0⟩], by omega, by go_num, rfl, HSt.out, by rw [nts_snoc]; exact HO3.out, HX3.out, HB3.out⟩
            case measure => simp [intOf]; omega
        · have hke : k = ns.length := by omega
          subst hke
          have HE := Lib.hid (show shiftL ⟨ps, ph⟩ ns = some out by have := HSh.out; rwa [List.take_length] at this)
          clear hA
          go_wp2_with fail
          go_ret2
          refine HPost.out _ HE.out _ _ ⟨.slice (some ⟨g, 0, none⟩) ns.length cap, rfl, ?_, ?_, hbl⟩
          · show wr.ownsRow _ _ _ _ out.length (ntCells out)
            rw [shiftL_len HE.out]
            exact own_monoA HO.out (by omega)
          · show out.length ≤ 60
            rw [shiftL_len HE.out]
            exact h60
end Go.Proofs.Ythkaofnciaommaa
