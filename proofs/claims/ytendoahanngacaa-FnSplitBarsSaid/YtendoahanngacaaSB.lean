/- SplitBars on both sides. Conditions: none. -/
import Derived.Test.YtendoahanngacaaPS
import Derived.Test.YtendoahanngacaaB7
import Derived.Test.YtendoahanngacaaNQ
namespace Go.Proofs.Ytendoahanngacaa
open Go.RowKit
set_option linter.unusedSimpArgs false
set_option linter.unusedVariables false
set_option maxHeartbeats 8000000
def sliceLen : Value → Nat | .slice _ n _ => n | _ => 0
theorem split_no {ns : List Nt} {m : Met} (h : ¬ (voiceValid ns = true ∧ meterValid m = true)) : splitB ns m = none := by unfold splitB; rw [if_neg h]
theorem splitV_next {B : Int} {ns out : List Nt} {R : Int} {k : Nat} (hk : k < ns.length) (h : splitV B B (ns.take k) = (out, R)) :
    splitV B B (ns.take (k + 1)) = (out ++ (splitN B ns[k].ticks.toNat R ns[k]).1, (splitN B ns[k].ticks.toNat R ns[k]).2) := by
  rw [List.take_succ_eq_append_getElem hk, splitV_snoc, h]
theorem own_new1 (w : World) (o : Obj) (T size : Nat) : ((w.alloc o).alloc (.cells #[] T)).ownsRow w.heap.size T size (.slice (some ⟨w.heap.size + 1, 0, none⟩) 0 0) 0 [] := by
  have h := own_new (w.alloc o) T size
  simp only [size_alloc'] at h
  exact own_monoA h (by omega)
set_option maxHeartbeats 32000000 in
theorem c_SplitBars (v : Value) (ns : List Nt) (m : Met) (w : World) (h : Rd w v 6 ns.length (ntCells ns)) :
    Calls Try.prog 42 #[v, m.v] w (ShiftPost (splitB ns m) w) := by
  obtain ⟨b, u⟩ := m
  have h' := Lib.hid h
  obtain ⟨_, A, c, rfl, hnc, hcm, hA⟩ := h
  unfold maxLen at hcm
  have HAA := Lib.hid hA
  clear hA
  cases hv : voiceValid ns
  · have HV := Lib.hid (split_no (ns := ns) (m := ⟨b, u⟩) (by rw [hv]; simp))
    rw [HV.out]
    go_enter Try.func42, Try.ntmps42
    go_wp2_with (go_at_call 45; (with_reducible refine (c_VoiceValid _ ns _ (h'.out.alloc _)).mono ?_); rintro e wq ⟨rfl, hbq⟩; have hzq := hbq.size; (try simp only [size_alloc', size_setCell', size_drew', size_drewN'] at hzq); (try (refine keep_heap (b := w.heap.size) hbq ?_ ?_; (first | omega | (simp only [size_alloc', size_setCell', size_drew', size_drewN']; omega)); intro hkq; simp only [heap_alloc_get, heap_setCell_get, heap_drew_get, heap_drewN_get, size_alloc', size_setCell', size_drew', size_drewN', nat_simp1, nat_simp2, nat_simp3, nat_simp4, nat_simp5, if_true, if_false, *] at hkq; obtain ⟨_, _⟩ := blk_facts hkq)); skip)
    go_ret2
    exact ⟨_, rfl, ⟨rfl, .inl ⟨rfl, rfl⟩⟩, by simp, by (repeat' (first | (with_reducible exact Below.refl _ _) | (with_reducible refine Below.setCell ?_ ?_ _) | (with_reducible refine Below.alloc ?_ ?_ _) | (with_reducible refine Below.drew ?_) | (with_reducible refine below_drewN ?_ _) | (with_reducible refine Below.trans ?_ (Below.mono (by with_reducible assumption) ?_)) | omega | (simp only [size_alloc', size_setCell', size_drew', size_drewN'] at *; omega)))⟩
  · cases hm : meterValid ⟨b, u⟩
    · have HV := Lib.hid (split_no (ns := ns) (m := ⟨b, u⟩) (by rw [hm]; simp))
      rw [HV.out]
      go_enter Try.func42, Try.ntmps42
      go_wp2_with fail
      (go_at_call 45; (with_reducible refine (c_VoiceValid _ ns _ (h'.out.alloc _)).mono ?_); rintro e wq ⟨rfl, hbq⟩; have hzq := hbq.size; (try simp only [size_alloc', size_setCell', size_drew', size_drewN'] at hzq); (try (refine keep_heap (b := w.heap.size) hbq ?_ ?_; (first | omega | (simp only [size_alloc', size_setCell', size_drew', size_drewN']; omega)); intro hkq; simp only [heap_alloc_get, heap_setCell_get, heap_drew_get, heap_drewN_get, size_alloc', size_setCell', size_drew', size_drewN', nat_simp1, nat_simp2, nat_simp3, nat_simp4, nat_simp5, if_true, if_false, *] at hkq; obtain ⟨_, _⟩ := blk_facts hkq)); skip)
      have hq1 := hbq
      have hB1 : Below w.heap.size w wq := by (repeat' (first | (with_reducible exact Below.refl _ _) | (with_reducible refine Below.setCell ?_ ?_ _) | (with_reducible refine Below.alloc ?_ ?_ _) | (with_reducible refine Below.drew ?_) | (with_reducible refine below_drewN ?_ _) | (with_reducible refine Below.trans ?_ (Below.mono (by with_reducible assumption) ?_)) | omega | (simp only [size_alloc', size_setCell', size_drew', size_drewN'] at *; omega)))
      go_wp2_with (go_at_call 18; (with_reducible refine (c_MeterValid ⟨b, u⟩ _).mono ?_); rintro e w2 ⟨rfl, hbq⟩; have hzq := hbq.size; (try simp only [size_alloc', size_setCell', size_drew', size_drewN'] at hzq); (try (refine keep_heap (b := w.heap.size) hbq ?_ ?_; (first | omega | (simp only [size_alloc', size_setCell', size_drew', size_drewN']; omega)); intro hkq; simp only [heap_alloc_get, heap_setCell_get, heap_drew_get, heap_drewN_get, size_alloc', size_setCell', size_drew', size_drewN', nat_simp1, nat_simp2, nat_simp3, nat_simp4, nat_simp5, if_true, if_false, *] at hkq; obtain ⟨_, _⟩ := blk_facts hkq)); skip)
      go_ret2
      exact ⟨_, rfl, ⟨rfl, .inl ⟨rfl, rfl⟩⟩, by simp, by (repeat' (first | (with_reducible exact Below.refl _ _) | (with_reducible refine Below.setCell ?_ ?_ _) | (with_reducible refine Below.alloc ?_ ?_ _) | (with_reducible refine Below.drew ?_) | (with_reducible refine below_drewN ?_ _) | (with_reducible refine Below.trans ?_ (Below.mono (by with_reducible assumption) ?_)) | omega | (simp only [size_alloc', size_setCell', size_drew', size_drewN'] at *; omega)))⟩
    · obtain ⟨h60, hbd⟩ := voiceValid_bd hv
      obtain ⟨B1, B2, -, -, -, -⟩ := bar_bd hm
      have HV := Lib.hid (show splitB ns ⟨b, u⟩ = if 60 < (splitV (barTicks ⟨b, u⟩) (barTicks ⟨b, u⟩) ns).1.length then none else some (splitV (barTicks ⟨b, u⟩) (barTicks ⟨b, u⟩) ns).1 by unfold splitB; rw [if_pos ⟨hv, hm⟩])
      have HBD := Lib.hid hbd
      obtain ⟨B, hB⟩ : ∃ B, barTicks ⟨b, u⟩ = B := ⟨_, rfl⟩
      have HB := Lib.hid hB
      rw [hB] at B1 B2 HV
      clear hB hbd
      go_enter Try.func42, Try.ntmps42
      go_wp2_with fail
      (go_at_call 45; (with_reducible refine (c_VoiceValid _ ns _ (h'.out.alloc _)).mono ?_); rintro e wq ⟨rfl, hbq⟩; have hzq := hbq.size; (try simp only [size_alloc', size_setCell', size_drew', size_drewN'] at hzq); (try (refine keep_heap (b := w.heap.size) hbq ?_ ?_; (first | omega | (simp only [size_alloc', size_setCell', size_drew', size_drewN']; omega)); intro hkq; simp only [heap_alloc_get, heap_setCell_get, heap_drew_get, heap_drewN_get, size_alloc', size_setCell', size_drew', size_drewN', nat_simp1, nat_simp2, nat_simp3, nat_simp4, nat_simp5, if_true, if_false, *] at hkq; obtain ⟨_, _⟩ := blk_facts hkq)); skip)
      have hq1 := hbq
      have hB1 : Below w.heap.size w wq := by (repeat' (first | (with_reducible exact Below.refl _ _) | (with_reducible refine Below.setCell ?_ ?_ _) | (with_reducible refine Below.alloc ?_ ?_ _) | (with_reducible refine Below.drew ?_) | (with_reducible refine below_drewN ?_ _) | (with_reducible refine Below.trans ?_ (Below.mono (by with_reducible assumption) ?_)) | omega | (simp only [size_alloc', size_setCell', size_drew', size_drewN'] at *; omega)))
      go_wp2_with fail
      (go_at_call 18; (with_reducible refine (c_MeterValid ⟨b, u⟩ _).mono ?_); rintro e w2 ⟨rfl, hbq⟩; have hzq := hbq.size; (try simp only [size_alloc', size_setCell', size_drew', size_drewN'] at hzq); (try (refine keep_heap (b := w.heap.size) hbq ?_ ?_; (first | omega | (simp only [size_alloc', size_setCell', size_drew', size_drewN']; omega)); intro hkq; simp only [heap_alloc_get, heap_setCell_get, heap_drew_get, heap_drewN_get, size_alloc', size_setCell', size_drew', size_drewN', nat_simp1, nat_simp2, nat_simp3, nat_simp4, nat_simp5, if_true, if_false, *] at hkq; obtain ⟨_, _⟩ := blk_facts hkq)); skip)
      have hB2 : Below w.heap.size w w2 := by (repeat' (first | (with_reducible exact Below.refl _ _) | (with_reducible refine Below.setCell ?_ ?_ _) | (with_reducible refine Below.alloc ?_ ?_ _) | (with_reducible refine Below.drew ?_) | (with_reducible refine below_drewN ?_ _) | (with_reducible refine Below.trans ?_ (Below.mono (by with_reducible assumption) ?_)) | omega | (simp only [size_alloc', size_setCell', size_drew', size_drewN'] at *; omega)))
      have hq2 := hbq
      go_wp2_with fail
      (go_at_call 20; (with_reducible refine (c_BarTicks ⟨b, u⟩ _).mono ?_); rintro e w3 ⟨rfl, hbq⟩; have hzq := hbq.size; (try simp only [size_alloc', size_setCell', size_drew', size_drewN'] at hzq); (try (refine keep_heap (b := w.heap.size) hbq ?_ ?_; (first | omega | (simp only [size_alloc', size_setCell', size_drew', size_drewN']; omega)); intro hkq; simp only [heap_alloc_get, heap_setCell_get, heap_drew_get, heap_drewN_get, size_alloc', size_setCell', size_drew', size_drewN', nat_simp1, nat_simp2, nat_simp3, nat_simp4, nat_simp5, if_true, if_false, *] at hkq; obtain ⟨_, _⟩ := blk_facts hkq)); skip)
      rw [HB.out]
      have hB3 : Below w.heap.size w w3 := by (repeat' (first | (with_reducible exact Below.refl _ _) | (with_reducible refine Below.setCell ?_ ?_ _) | (with_reducible refine Below.alloc ?_ ?_ _) | (with_reducible refine Below.drew ?_) | (with_reducible refine below_drewN ?_ _) | (with_reducible refine Below.trans ?_ (Below.mono (by with_reducible assumption) ?_)) | omega | (simp only [size_alloc', size_setCell', size_drew', size_drewN'] at *; omega)))
      clear hv hm
      have hz3 := hB3.size
      have HO0 := Lib.hid (own_monoA (own_new w3 57 6) hz3)
      have HB0 := Lib.hid (hB3.alloc hz3 (.cells #[] 57))
      go_wp2_with fail
      go_loopw [7, 8, 26] (fun r o j wr => ∃ (k n g cap : Nat) (R : Int) (out : List Nt), k ≤ ns.length ∧ j = .int .i64 k ∧ r = .int .i64 R ∧ o = .slice (some ⟨g, 0, none⟩) n cap ∧ out.length = n ∧ splitV B B (ns.take k) = (out, R) ∧ 0 < R ∧ R ≤ B ∧ n ≤ 769 * k ∧
        wr.ownsRow w.heap.size 57 6 (.slice (some ⟨g, 0, none⟩) n cap) n (ntCells out) ∧ Below w.heap.size w wr) (fun _ _ j _ => ns.length - (intOf j).toNat)
      case atStart => exact ⟨0, 0, _, _, B, [], Nat.zero_le _, rfl, rfl, rfl, rfl, rfl, by omega, Int.le_refl _, by omega, HO0.out, HB0.out⟩
      case round =>
        obtain ⟨k, n, g, cap, R, out, hk, rfl, rfl, rfl, hln, hsp, hR0, hR1, hnk, hown, hbl⟩ := hrel
        obtain ⟨wo, rfl⟩ : ∃ wo : World, wo = wr := ⟨_, rfl⟩
        have hz := hbl.size
        have hgw := (hown.lt g rfl).2
        have HSp := Lib.hid hsp
        have HO := Lib.hid hown
        have HBl := Lib.hid hbl
        have HLn := Lib.hid hln
        clear hsp hown hln
        by_cases hlt : k < ns.length
        · obtain ⟨b1, off, rfl, hcc⟩ := HAA.out (by omega)
          obtain ⟨p0, p1, p2, p3, p4, p5⟩ := nt_at (fun j u hu => below_cell hbl (hcc j u hu)) k hlt
          have HNx := Lib.hid (splitV_next hlt HSp.out)
          have hbd := HBD.out k hlt
          generalize ns[k] = n0 at *
          obtain ⟨r0, ⟨s0, a0, o0⟩, t0, td0⟩ := n0
          dsimp only at hbd HNx p0 p1 p2 p3 p4 p5
          obtain ⟨tb1, tb2⟩ := hbd
          obtain ⟨TOT, hT⟩ : ∃ T, out ++ (splitN B t0.toNat R ⟨r0, ⟨s0, a0, o0⟩, t0, td0⟩).1 = T := ⟨_, rfl⟩
          obtain ⟨FIN, hF⟩ : ∃ F, (splitN B t0.toNat R ⟨r0, ⟨s0, a0, o0⟩, t0, td0⟩).2 = F := ⟨_, rfl⟩
          have HT := Lib.hid hT
          have HF := Lib.hid hF
          rw [hT, hF] at HNx
          clear hcc hT hF
          have HN0 := Lib.hid (heap_alloc_new wo (.cells #[.bool r0, .int .i64 s0, .int .i64 a0, .int .i64 o0, .int .i64 t0, .bool td0] 57))
          have HOa := Lib.hid (HO.out.alloc (.cells #[.bool r0, .int .i64 s0, .int .i64 a0, .int .i64 o0, .int .i64 t0, .bool td0] 57))
          have HBa := Lib.hid (HBl.out.alloc hz (.cells #[.bool r0, .int .i64 s0, .int .i64 a0, .int .i64 o0, .int .i64 t0, .bool td0] 57))
          go_wp2_with fail
          go_loopw [7, 8] (fun r o wi => ∃ (n g cap : Nat) (R t : Int) (out : List Nt), r = .int .i64 R ∧ o = .slice (some ⟨g, 0, none⟩) n cap ∧ out.length = n ∧ wi.heap[wo.heap.size]? = some (.cells #[.bool r0, .int .i64 s0, .int .i64 a0, .int .i64 o0, .int .i64 t, .bool td0] 57 (0, 0)) ∧ g ≠ wo.heap.size ∧
            out ++ (splitN B t.toNat R ⟨r0, ⟨s0, a0, o0⟩, t, td0⟩).1 = TOT ∧ (splitN B t.toNat R ⟨r0, ⟨s0, a0, o0⟩, t, td0⟩).2 = FIN ∧ 1 ≤ t ∧ t ≤ t0 ∧ 0 < R ∧ R ≤ B ∧ n + t.toNat ≤ 769 * k + 768 ∧
            wi.ownsRow w.heap.size 57 6 (.slice (some ⟨g, 0, none⟩) n cap) n (ntCells out) ∧ Below w.heap.size w wi) (fun _ o _ => 769 * k + 768 - sliceLen o)
          case atStart => exact ⟨n, g, cap, R, t0, out, rfl, rfl, HLn.out, HN0.out, by omega, HT.out, HF.out, tb1, Int.le_refl _, hR0, hR1, by omega, HOa.out, HBa.out⟩
          case round =>
            clear HOa HBa HN0 HT HF HO HSp HLn p0 p1 p2 p3 p4 p5 hgw hR0 hR1 hnk
            obtain ⟨n, g, cap, R, t, out, rfl, rfl, hln, hN, hgn, hT, hF, ht1, ht2, hR0, hR1, hnt, hown, hbi⟩ := hrel
            obtain ⟨wi, rfl⟩ : ∃ wi : World, wi = wr := ⟨_, rfl⟩
            have hzi := hbi.size
            have hgw := (hown.lt g rfl).2
            have hgb := (hown.lt g rfl).1
            have hNl : wo.heap.size < wi.heap.size := (Array.getElem?_eq_some_iff.1 hN).1
            obtain ⟨_, _⟩ := blk_facts hN
            have HO := Lib.hid hown
            have HBi := Lib.hid hbi
            have HLn := Lib.hid hln
            have HT := Lib.hid hT
            have HF := Lib.hid hF
            have HN := Lib.hid hN
            clear hown hln hT hF
            by_cases hgt : R < t
            · have HLt := Lib.hid (show splitN B t.toNat R ⟨r0, ⟨s0, a0, o0⟩, t, td0⟩ = (⟨r0, ⟨s0, a0, o0⟩, R, !r0⟩ :: (splitN B (t - R).toNat B ⟨r0, ⟨s0, a0, o0⟩, t - R, td0⟩).1, (splitN B (t - R).toNat B ⟨r0, ⟨s0, a0, o0⟩, t - R, td0⟩).2) from splitN_lt B (by omega) R ⟨r0, ⟨s0, a0, o0⟩, t, td0⟩ hR0 hgt)
              have HT' := Lib.hid (show (out ++ [⟨r0, ⟨s0, a0, o0⟩, R, !r0⟩]) ++ (splitN B (t - R).toNat B ⟨r0, ⟨s0, a0, o0⟩, t - R, td0⟩).1 = TOT by have := HT.out; rw [HLt.out] at this; simpa using this)
              have HF' := Lib.hid (show (splitN B (t - R).toNat B ⟨r0, ⟨s0, a0, o0⟩, t - R, td0⟩).2 = FIN by have := HF.out; rw [HLt.out] at this; exact this)
              have HO1 := Lib.hid (HO.out.alloc (.cells #[.bool r0, .int .i64 s0, .int .i64 a0, .int .i64 o0, .int .i64 R, .bool !r0] 57))
              have HB1 := Lib.hid (HBi.out.alloc hzi (.cells #[.bool r0, .int .i64 s0, .int .i64 a0, .int .i64 o0, .int .i64 R, .bool !r0] 57))
              have HN1 := Lib.hid (below_heap (bel1 wi (.cells #[.bool r0, .int .i64 s0, .int .i64 a0, .int .i64 o0, .int .i64 R, .bool !r0] 57)) HN.out)
              go_wp2_with fail
              go_region
              have HC := Lib.hid (show ∀ j u, (Nt.cells ⟨r0, ⟨s0, a0, o0⟩, R, !r0⟩)[j]? = some u → (((wi.alloc (.cells #[.bool r0, .int .i64 s0, .int .i64 a0, .int .i64 o0, .int .i64 R, .bool !r0] 57)).alloc (.cells #[.bool r0, .int .i64 s0, .int .i64 a0, .int .i64 o0, .int .i64 R, .bool !r0] 57)).drew).cell? ⟨wi.heap.size + 1, 0 + j, none⟩ = some u by
                have := cells_newL (wi.alloc (.cells #[.bool r0, .int .i64 s0, .int .i64 a0, .int .i64 o0, .int .i64 R, .bool !r0] 57)) #[.bool r0, .int .i64 s0, .int .i64 a0, .int .i64 o0, .int .i64 R, .bool !r0] 57
                try simp only [size_alloc', size_setCell'] at this
                exact this)
              have HOa := Lib.hid (show (((wi.alloc (.cells #[.bool r0, .int .i64 s0, .int .i64 a0, .int .i64 o0, .int .i64 R, .bool !r0] 57)).alloc (.cells #[.bool r0, .int .i64 s0, .int .i64 a0, .int .i64 o0, .int .i64 R, .bool !r0] 57)).drew).ownsRow w.heap.size 57 6 (.slice (some ⟨g, 0, none⟩) n cap) n (ntCells out) from (HO1.out).alloc _)
              have HBa := Lib.hid (show Below w.heap.size w (((wi.alloc (.cells #[.bool r0, .int .i64 s0, .int .i64 a0, .int .i64 o0, .int .i64 R, .bool !r0] 57)).alloc (.cells #[.bool r0, .int .i64 s0, .int .i64 a0, .int .i64 o0, .int .i64 R, .bool !r0] 57)).drew) by
                have hx := (HB1.out).alloc (by first | omega | (simp only [size_alloc', size_setCell', size_drew']; omega)) (.cells #[.bool r0, .int .i64 s0, .int .i64 a0, .int .i64 o0, .int .i64 R, .bool !r0] 57)
                first | exact hx | exact hx.drew)
              have hNa := below_heap (bel1 (wi.alloc (.cells #[.bool r0, .int .i64 s0, .int .i64 a0, .int .i64 o0, .int .i64 R, .bool !r0] 57)) (.cells #[.bool r0, .int .i64 s0, .int .i64 a0, .int .i64 o0, .int .i64 R, .bool !r0] 57)) HN1.out
              have HNa := Lib.hid (show (((wi.alloc (.cells #[.bool r0, .int .i64 s0, .int .i64 a0, .int .i64 o0, .int .i64 R, .bool !r0] 57)).alloc (.cells #[.bool r0, .int .i64 s0, .int .i64 a0, .int .i64 o0, .int .i64 R, .bool !r0] 57)).drew).heap[wo.heap.size]? = some (.cells #[.bool r0, .int .i64 s0, .int .i64 a0, .int .i64 o0, .int .i64 t, .bool td0] 57 (0, 0)) from hNa)
              clear hNa
              go_wp2_with (at_builtin; refine wp_appl (by rfl) (.tmp 41) (.tmp 43) 44 57 rfl _ 6 48 Try.underlying44 info_nt rfl (by decide) (by decide) w.heap.size g cap n _ rfl HOa.out (wi.heap.size + 1) 0 1 1 (Nt.cells ⟨r0, ⟨s0, a0, o0⟩, R, !r0⟩) rfl rfl HC.out (nt_one _) (by omega) ?c2 ?_)
              case c2 => first | omega | (simp only [size_alloc', size_setCell', size_drew']; omega)
              intro g5 cap5 w5 hown5 hgr5 hat5 hlt5
              have HO5 := Lib.hid (show w5.ownsRow w.heap.size 57 6 (.slice (some ⟨g5, 0, none⟩) (n + 1) cap5) (n + 1) (ntCells (out ++ [⟨r0, ⟨s0, a0, o0⟩, R, !r0⟩])) by rw [nts_snoc]; exact hown5)
              have HB5 := Lib.hid (bel_app HBa.out HOa.out hgr5 (by omega) (by first | omega | (simp only [size_alloc', size_setCell', size_drew']; omega)))
              have HN5 := Lib.hid (heap_appA hgr5 HNa.out (by omega))
              have hg5 : g5 ≠ wo.heap.size := by
                rcases hat5 with h | h
                · rw [h]; exact hgn
                · rw [h]; first | omega | (simp only [size_alloc', size_setCell', size_drew']; omega)
              clear hown5 hgr5 hat5
              have hN5 := HN5.out
              obtain ⟨_, _⟩ := blk_facts hN5
              clear hN5
              go_wp2_with fail
              go_roundw
              case rel => exact ⟨n + 1, g5, cap5, B, t - R, out ++ [⟨r0, ⟨s0, a0, o0⟩, R, !r0⟩], rfl, rfl, by simp [HLn.out], by have hN5 := HN5.out; (simp only [heap_alloc_get, heap_setCell_get, heap_drew_get, heap_drewN_get, size_alloc', size_setCell', size_drew', size_drewN', nat_simp1, nat_simp2, nat_simp3, nat_simp4, nat_simp5, if_true, if_false, Option.map_some, *]; first | done | rfl | simp), hg5, HT'.out, HF'.out, by omega, by omega, by omega, Int.le_refl _, by omega,
                own_setN HO5.out (by show wo.heap.size ≠ g5; omega) _, HB5.out.setCell (by show w.heap.size ≤ wo.heap.size; omega) _⟩
              case measure => simp [sliceLen]; omega
            · have HGe := Lib.hid (show splitN B t.toNat R ⟨r0, ⟨s0, a0, o0⟩, t, td0⟩ = ([⟨r0, ⟨s0, a0, o0⟩, t, td0⟩], if R - t = 0 then B else R - t) from splitN_ge B (by omega) R ⟨r0, ⟨s0, a0, o0⟩, t, td0⟩ hR0 hgt)
              have HT' := Lib.hid (show out ++ [⟨r0, ⟨s0, a0, o0⟩, t, td0⟩] = TOT by have := HT.out; rw [HGe.out] at this; exact this)
              have HF' := Lib.hid (show (if R - t = 0 then B else R - t) = FIN by have := HF.out; rw [HGe.out] at this; exact this)
              have HC := Lib.hid (show ∀ j u, (Nt.cells ⟨r0, ⟨s0, a0, o0⟩, t, td0⟩)[j]? = some u → (((wi).alloc (.cells #[.bool r0, .int .i64 s0, .int .i64 a0, .int .i64 o0, .int .i64 t, .bool td0] 57))).cell? ⟨wi.heap.size, 0 + j, none⟩ = some u by
                have := cells_newL (wi) #[.bool r0, .int .i64 s0, .int .i64 a0, .int .i64 o0, .int .i64 t, .bool td0] 57
                try simp only [size_alloc', size_setCell'] at this
                exact this)
              have HOa := Lib.hid (show (((wi).alloc (.cells #[.bool r0, .int .i64 s0, .int .i64 a0, .int .i64 o0, .int .i64 t, .bool td0] 57))).ownsRow w.heap.size 57 6 (.slice (some ⟨g, 0, none⟩) n cap) n (ntCells out) from (HO.out).alloc _)
              have HBa := Lib.hid (show Below w.heap.size w (((wi).alloc (.cells #[.bool r0, .int .i64 s0, .int .i64 a0, .int .i64 o0, .int .i64 t, .bool td0] 57))) by
                have hx := (HBi.out).alloc (by first | omega | (simp only [size_alloc', size_setCell', size_drew']; omega)) (.cells #[.bool r0, .int .i64 s0, .int .i64 a0, .int .i64 o0, .int .i64 t, .bool td0] 57)
                first | exact hx | exact hx.drew)
              have hNa := below_heap (bel1 (wi) (.cells #[.bool r0, .int .i64 s0, .int .i64 a0, .int .i64 o0, .int .i64 t, .bool td0] 57)) HN.out
              have HNa := Lib.hid (show (((wi).alloc (.cells #[.bool r0, .int .i64 s0, .int .i64 a0, .int .i64 o0, .int .i64 t, .bool td0] 57))).heap[wo.heap.size]? = some (.cells #[.bool r0, .int .i64 s0, .int .i64 a0, .int .i64 o0, .int .i64 t, .bool td0] 57 (0, 0)) from hNa)
              clear hNa
              go_wp2_with (at_builtin; refine wp_appl (by rfl) (.tmp 51) (.tmp 53) 44 57 rfl _ 6 48 Try.underlying44 info_nt rfl (by decide) (by decide) w.heap.size g cap n _ rfl HOa.out (wi.heap.size) 0 1 1 (Nt.cells ⟨r0, ⟨s0, a0, o0⟩, t, td0⟩) rfl rfl HC.out (nt_one _) (by omega) ?c2 ?_)
              case c2 => first | omega | (simp only [size_alloc', size_setCell', size_drew']; omega)
              intro g5 cap5 w5 hown5 hgr5 hat5 hlt5
              have HO5 := Lib.hid (show w5.ownsRow w.heap.size 57 6 (.slice (some ⟨g5, 0, none⟩) (n + 1) cap5) (n + 1) (ntCells (out ++ [⟨r0, ⟨s0, a0, o0⟩, t, td0⟩])) by rw [nts_snoc]; exact hown5)
              have HB5 := Lib.hid (bel_app HBa.out HOa.out hgr5 (by omega) (by first | omega | (simp only [size_alloc', size_setCell', size_drew']; omega)))
              have HN5 := Lib.hid (heap_appA hgr5 HNa.out (by omega))
              have hg5 : g5 ≠ wo.heap.size := by
                rcases hat5 with h | h
                · rw [h]; exact hgn
                · rw [h]; first | omega | (simp only [size_alloc', size_setCell', size_drew']; omega)
              clear hown5 hgr5 hat5
              have hN5 := HN5.out
              obtain ⟨_, _⟩ := blk_facts hN5
              clear hN5
              by_cases hz0 : R - t = 0
              · have hz1 : (R - t == 0) = true := by simpa using hz0
                have HX := Lib.hid (show splitV B B (ns.take (k + 1)) = (out ++ [⟨r0, ⟨s0, a0, o0⟩, t, td0⟩], B) by rw [HNx.out, HT'.out, ← HF'.out, if_pos hz0])
                clear hz0
                go_wp2_with fail
                go_roundw
                case rel => exact ⟨k + 1, n + 1, g5, cap5, B, out ++ [⟨r0, ⟨s0, a0, o0⟩, t, td0⟩], by omega, by go_num, rfl, rfl, by simp [HLn.out], HX.out, by omega, Int.le_refl _, by omega, HO5.out, HB5.out⟩
                case measure => simp [intOf]; omega
              · have hz1 : (R - t == 0) = false := by simpa using hz0
                have HX := Lib.hid (show splitV B B (ns.take (k + 1)) = (out ++ [⟨r0, ⟨s0, a0, o0⟩, t, td0⟩], R - t) by rw [HNx.out, HT'.out, ← HF'.out, if_neg hz0])
                go_wp2_with fail
                go_roundw
                case rel => exact ⟨k + 1, n + 1, g5, cap5, R - t, out ++ [⟨r0, ⟨s0, a0, o0⟩, t, td0⟩], by omega, by go_num, rfl, rfl, by simp [HLn.out], HX.out, by omega, by omega, by omega, HO5.out, HB5.out⟩
                case measure => simp [intOf]; omega
        · have hlno := HLn.out
          subst hlno
          have HSe := Lib.hid (show splitV B B ns = (out, R) by have := HSp.out; rwa [List.take_of_length_le (by omega)] at this)
          by_cases h6 : 60 < out.length
          · have HW := Lib.hid (show splitB ns ⟨b, u⟩ = none by rw [HV.out, HSe.out]; exact if_pos h6)
            go_wp2_with fail
            go_ret2
            rw [HW.out]
            exact ⟨_, rfl, ⟨rfl, .inl ⟨rfl, rfl⟩⟩, by simp, HBl.out⟩
          · have HW := Lib.hid (show splitB ns ⟨b, u⟩ = some out by rw [HV.out, HSe.out]; exact if_neg h6)
            go_wp2_with fail
            go_ret2
            rw [HW.out]
            exact ⟨_, rfl, HO.out, by show out.length ≤ 60; omega, HBl.out⟩
set_option maxHeartbeats 32000000 in
theorem c_sSplitBars (v : Value) (ns : List Nt) (m : Met) (w : World) (h : Rd w v 6 ns.length (ntCells ns)) :
    Calls Try.prog 41 #[v, m.v] w (ShiftPost (splitB ns m) w) := by
  obtain ⟨b, u⟩ := m
  have h' := Lib.hid h
  obtain ⟨_, A, c, rfl, hnc, hcm, hA⟩ := h
  unfold maxLen at hcm
  have HAA := Lib.hid hA
  clear hA
  cases hv : voiceValid ns
  · have HV := Lib.hid (split_no (ns := ns) (m := ⟨b, u⟩) (by rw [hv]; simp))
    rw [HV.out]
    go_enter Try.func41, Try.ntmps41
    go_wp2_with (go_at_call 53; (with_reducible refine (c_sVoiceValid _ ns _ ((h'.out.alloc _).alloc _)).mono ?_); rintro e wq ⟨rfl, hbq⟩; have hzq := hbq.size; (try simp only [size_alloc', size_setCell', size_drew', size_drewN'] at hzq); (try (refine keep_heap (b := w.heap.size) hbq ?_ ?_; (first | omega | (simp only [size_alloc', size_setCell', size_drew', size_drewN']; omega)); intro hkq; simp only [heap_alloc_get, heap_setCell_get, heap_drew_get, heap_drewN_get, size_alloc', size_setCell', size_drew', size_drewN', nat_simp1, nat_simp2, nat_simp3, nat_simp4, nat_simp5, if_true, if_false, *] at hkq; obtain ⟨_, _⟩ := blk_facts hkq)); skip)
    go_ret2
    exact ⟨.slice (some ⟨w.heap.size + 1, 0, none⟩) 0 0, rfl, own_belA (own_new1 w _ 57 6) hbq, by simp, by (repeat' (first | (with_reducible exact Below.refl _ _) | (with_reducible refine Below.setCell ?_ ?_ _) | (with_reducible refine Below.alloc ?_ ?_ _) | (with_reducible refine Below.drew ?_) | (with_reducible refine below_drewN ?_ _) | (with_reducible refine Below.trans ?_ (Below.mono (by with_reducible assumption) ?_)) | omega | (simp only [size_alloc', size_setCell', size_drew', size_drewN'] at *; omega)))⟩
  · cases hm : meterValid ⟨b, u⟩
    · have HV := Lib.hid (split_no (ns := ns) (m := ⟨b, u⟩) (by rw [hm]; simp))
      rw [HV.out]
      go_enter Try.func41, Try.ntmps41
      go_wp2_with fail
      (go_at_call 53; (with_reducible refine (c_sVoiceValid _ ns _ ((h'.out.alloc _).alloc _)).mono ?_); rintro e wq ⟨rfl, hbq⟩; have hzq := hbq.size; (try simp only [size_alloc', size_setCell', size_drew', size_drewN'] at hzq); (try (refine keep_heap (b := w.heap.size) hbq ?_ ?_; (first | omega | (simp only [size_alloc', size_setCell', size_drew', size_drewN']; omega)); intro hkq; simp only [heap_alloc_get, heap_setCell_get, heap_drew_get, heap_drewN_get, size_alloc', size_setCell', size_drew', size_drewN', nat_simp1, nat_simp2, nat_simp3, nat_simp4, nat_simp5, if_true, if_false, *] at hkq; obtain ⟨_, _⟩ := blk_facts hkq)); skip)
      have hq1 := hbq
      have hB1 : Below w.heap.size w wq := by (repeat' (first | (with_reducible exact Below.refl _ _) | (with_reducible refine Below.setCell ?_ ?_ _) | (with_reducible refine Below.alloc ?_ ?_ _) | (with_reducible refine Below.drew ?_) | (with_reducible refine below_drewN ?_ _) | (with_reducible refine Below.trans ?_ (Below.mono (by with_reducible assumption) ?_)) | omega | (simp only [size_alloc', size_setCell', size_drew', size_drewN'] at *; omega)))
      go_wp2_with (go_at_call 16; (with_reducible refine (c_sMeterValid ⟨b, u⟩ _).mono ?_); rintro e w2 ⟨rfl, hbq⟩; have hzq := hbq.size; (try simp only [size_alloc', size_setCell', size_drew', size_drewN'] at hzq); (try (refine keep_heap (b := w.heap.size) hbq ?_ ?_; (first | omega | (simp only [size_alloc', size_setCell', size_drew', size_drewN']; omega)); intro hkq; simp only [heap_alloc_get, heap_setCell_get, heap_drew_get, heap_drewN_get, size_alloc', size_setCell', size_drew', size_drewN', nat_simp1, nat_simp2, nat_simp3, nat_simp4, nat_simp5, if_true, if_false, *] at hkq; obtain ⟨_, _⟩ := blk_facts hkq)); skip)
      go_ret2
      exact ⟨.slice (some ⟨w.heap.size + 1, 0, none⟩) 0 0, rfl, own_belA (own_belA (own_new1 w _ 57 6) hq1) hbq, by simp, by (repeat' (first | (with_reducible exact Below.refl _ _) | (with_reducible refine Below.setCell ?_ ?_ _) | (with_reducible refine Below.alloc ?_ ?_ _) | (with_reducible refine Below.drew ?_) | (with_reducible refine below_drewN ?_ _) | (with_reducible refine Below.trans ?_ (Below.mono (by with_reducible assumption) ?_)) | omega | (simp only [size_alloc', size_setCell', size_drew', size_drewN'] at *; omega)))⟩
    · obtain ⟨h60, hbd⟩ := voiceValid_bd hv
      obtain ⟨B1, B2, -, -, -, -⟩ := bar_bd hm
      have HV := Lib.hid (show splitB ns ⟨b, u⟩ = if 60 < (splitV (barTicks ⟨b, u⟩) (barTicks ⟨b, u⟩) ns).1.length then none else some (splitV (barTicks ⟨b, u⟩) (barTicks ⟨b, u⟩) ns).1 by unfold splitB; rw [if_pos ⟨hv, hm⟩])
      have HBD := Lib.hid hbd
      obtain ⟨B, hB⟩ : ∃ B, barTicks ⟨b, u⟩ = B := ⟨_, rfl⟩
      have HB := Lib.hid hB
      rw [hB] at B1 B2 HV
      clear hB hbd
      go_enter Try.func41, Try.ntmps41
      go_wp2_with fail
      (go_at_call 53; (with_reducible refine (c_sVoiceValid _ ns _ ((h'.out.alloc _).alloc _)).mono ?_); rintro e wq ⟨rfl, hbq⟩; have hzq := hbq.size; (try simp only [size_alloc', size_setCell', size_drew', size_drewN'] at hzq); (try (refine keep_heap (b := w.heap.size) hbq ?_ ?_; (first | omega | (simp only [size_alloc', size_setCell', size_drew', size_drewN']; omega)); intro hkq; simp only [heap_alloc_get, heap_setCell_get, heap_drew_get, heap_drewN_get, size_alloc', size_setCell', size_drew', size_drewN', nat_simp1, nat_simp2, nat_simp3, nat_simp4, nat_simp5, if_true, if_false, *] at hkq; obtain ⟨_, _⟩ := blk_facts hkq)); skip)
      have hq1 := hbq
      have hB1 : Below w.heap.size w wq := by (repeat' (first | (with_reducible exact Below.refl _ _) | (with_reducible refine Below.setCell ?_ ?_ _) | (with_reducible refine Below.alloc ?_ ?_ _) | (with_reducible refine Below.drew ?_) | (with_reducible refine below_drewN ?_ _) | (with_reducible refine Below.trans ?_ (Below.mono (by with_reducible assumption) ?_)) | omega | (simp only [size_alloc', size_setCell', size_drew', size_drewN'] at *; omega)))
      go_wp2_with fail
      (go_at_call 16; (with_reducible refine (c_sMeterValid ⟨b, u⟩ _).mono ?_); rintro e w2 ⟨rfl, hbq⟩; have hzq := hbq.size; (try simp only [size_alloc', size_setCell', size_drew', size_drewN'] at hzq); (try (refine keep_heap (b := w.heap.size) hbq ?_ ?_; (first | omega | (simp only [size_alloc', size_setCell', size_drew', size_drewN']; omega)); intro hkq; simp only [heap_alloc_get, heap_setCell_get, heap_drew_get, heap_drewN_get, size_alloc', size_setCell', size_drew', size_drewN', nat_simp1, nat_simp2, nat_simp3, nat_simp4, nat_simp5, if_true, if_false, *] at hkq; obtain ⟨_, _⟩ := blk_facts hkq)); skip)
      have hB2 : Below w.heap.size w w2 := by (repeat' (first | (with_reducible exact Below.refl _ _) | (with_reducible refine Below.setCell ?_ ?_ _) | (with_reducible refine Below.alloc ?_ ?_ _) | (with_reducible refine Below.drew ?_) | (with_reducible refine below_drewN ?_ _) | (with_reducible refine Below.trans ?_ (Below.mono (by with_reducible assumption) ?_)) | omega | (simp only [size_alloc', size_setCell', size_drew', size_drewN'] at *; omega)))
      have hq2 := hbq
      go_wp2_with fail
      (go_at_call 19; (with_reducible refine (c_sBarTicks ⟨b, u⟩ _).mono ?_); rintro e w3 ⟨rfl, hbq⟩; have hzq := hbq.size; (try simp only [size_alloc', size_setCell', size_drew', size_drewN'] at hzq); (try (refine keep_heap (b := w.heap.size) hbq ?_ ?_; (first | omega | (simp only [size_alloc', size_setCell', size_drew', size_drewN']; omega)); intro hkq; simp only [heap_alloc_get, heap_setCell_get, heap_drew_get, heap_drewN_get, size_alloc', size_setCell', size_drew', size_drewN', nat_simp1, nat_simp2, nat_simp3, nat_simp4, nat_simp5, if_true, if_false, *] at hkq; obtain ⟨_, _⟩ := blk_facts hkq)); skip)
      rw [HB.out]
      have hB3 : Below w.heap.size w w3 := by (repeat' (first | (with_reducible exact Below.refl _ _) | (with_reducible refine Below.setCell ?_ ?_ _) | (with_reducible refine Below.alloc ?_ ?_ _) | (with_reducible refine Below.drew ?_) | (with_reducible refine below_drewN ?_ _) | (with_reducible refine Below.trans ?_ (Below.mono (by with_reducible assumption) ?_)) | omega | (simp only [size_alloc', size_setCell', size_drew', size_drewN'] at *; omega)))
      clear hv hm
      have hz3 := hB3.size
      have HO0 := Lib.hid (show w3.ownsRow w.heap.size 57 6 (.slice (some ⟨w.heap.size + 1, 0, none⟩) 0 0) 0 [] from own_belA (own_belA (own_belA (own_new1 w (.cells #[.int .i64 b, .int .i64 u] 25) 57 6) hq1) hq2) hbq)
      have HB0 := Lib.hid hB3
      go_wp2_with fail
      go_loopw [6, 8, 9] (fun o a j wr => ∃ (k n g cap : Nat) (AT : Int) (out : List Nt), k ≤ ns.length ∧ j = .int .i64 k ∧ a = .int .i64 AT ∧ 0 ≤ AT ∧ AT ≤ 768 * k ∧ o = .slice (some ⟨g, 0, none⟩) n cap ∧ out.length = n ∧ splitV B B (ns.take k) = (out, B - AT % B) ∧ n ≤ 769 * k ∧
        wr.ownsRow w.heap.size 57 6 (.slice (some ⟨g, 0, none⟩) n cap) n (ntCells out) ∧ Below w.heap.size w wr) (fun _ _ j _ => ns.length - (intOf j).toNat)
      case atStart => exact ⟨0, 0, _, _, 0, [], Nat.zero_le _, rfl, rfl, Int.le_refl _, by omega, rfl, rfl, by simp [splitV], by omega, HO0.out, HB0.out⟩
      case round =>
        obtain ⟨k, n, g, cap, AT, out, hk, rfl, rfl, hA0, hA1, rfl, hln, hsp, hnk, hown, hbl⟩ := hrel
        obtain ⟨wo, rfl⟩ : ∃ wo : World, wo = wr := ⟨_, rfl⟩
        have hz := hbl.size
        have hgw := (hown.lt g rfl).2
        have HSp := Lib.hid hsp
        have HO := Lib.hid hown
        have HBl := Lib.hid hbl
        have HLn := Lib.hid hln
        clear hsp hown hln
        by_cases hlt : k < ns.length
        · obtain ⟨b1, off, rfl, hcc⟩ := HAA.out (by omega)
          obtain ⟨p0, p1, p2, p3, p4, p5⟩ := nt_at (fun j u hu => below_cell hbl (hcc j u hu)) k hlt
          have HTd := Lib.hid (show w.cell? ⟨b1, off + k * 6 + 5, none⟩ = some (.bool ns[k].tied) from (nt_at hcc k hlt).2.2.2.2.2)
          have HNx := Lib.hid (splitV_next hlt HSp.out)
          have hbd := HBD.out k hlt
          have hk1 : (0 : Int) ≤ (k : Int) := by omega
          have hk2 : (k : Int) < (ns.length : Int) := by omega
          generalize ns[k] = n0 at *
          obtain ⟨r0, ⟨s0, a0, o0⟩, t0, td0⟩ := n0
          dsimp only at hbd HNx HTd p0 p1 p2 p3 p4 p5
          obtain ⟨tb1, tb2⟩ := hbd
          have hbw : b1 < wo.heap.size := World.block_lt_of_cell? wo _ p0
          have hne1 : (b1 = wo.heap.size) = False := eq_false (by omega)
          have hne2 : (wo.heap.size = b1) = False := eq_false (by omega)
          obtain ⟨TOT, hT⟩ : ∃ T, out ++ (splitN B t0.toNat (B - AT % B) ⟨r0, ⟨s0, a0, o0⟩, t0, td0⟩).1 = T := ⟨_, rfl⟩
          obtain ⟨FIN, hF⟩ : ∃ F, (splitN B t0.toNat (B - AT % B) ⟨r0, ⟨s0, a0, o0⟩, t0, td0⟩).2 = F := ⟨_, rfl⟩
          have HT := Lib.hid hT
          have HF := Lib.hid hF
          rw [hT, hF] at HNx
          clear hcc hT hF
          have HN0 := Lib.hid (heap_alloc_new wo (.cells #[.bool r0, .int .i64 s0, .int .i64 a0, .int .i64 o0, .int .i64 t0, .bool td0] 57))
          have HOa := Lib.hid (HO.out.alloc (.cells #[.bool r0, .int .i64 s0, .int .i64 a0, .int .i64 o0, .int .i64 t0, .bool td0] 57))
          have HBa := Lib.hid (HBl.out.alloc hz (.cells #[.bool r0, .int .i64 s0, .int .i64 a0, .int .i64 o0, .int .i64 t0, .bool td0] 57))
          go_wp2_with fail
          go_loopw [6, 8, 11] (fun o a l wi => ∃ (n g cap : Nat) (AT t tx : Int) (tdx : Bool) (out : List Nt), l = .int .i64 t ∧ a = .int .i64 AT ∧ 0 ≤ AT ∧ AT + t ≤ 768 * k + 768 ∧ o = .slice (some ⟨g, 0, none⟩) n cap ∧ out.length = n ∧ wi.heap[wo.heap.size]? = some (.cells #[.bool r0, .int .i64 s0, .int .i64 a0, .int .i64 o0, .int .i64 tx, .bool tdx] 57 (0, 0)) ∧ g ≠ wo.heap.size ∧
            (0 < t → out ++ (splitN B t.toNat (B - AT % B) ⟨r0, ⟨s0, a0, o0⟩, t, td0⟩).1 = TOT ∧ (splitN B t.toNat (B - AT % B) ⟨r0, ⟨s0, a0, o0⟩, t, td0⟩).2 = FIN) ∧ (t = 0 → out = TOT ∧ B - AT % B = FIN) ∧ 0 ≤ t ∧ t ≤ t0 ∧ n + t.toNat ≤ 769 * k + 768 ∧
            wi.ownsRow w.heap.size 57 6 (.slice (some ⟨g, 0, none⟩) n cap) n (ntCells out) ∧ Below w.heap.size w wi) (fun _ _ l _ => (intOf l).toNat)
          case atStart => exact ⟨n, g, cap, AT, t0, t0, td0, out, rfl, rfl, hA0, by omega, rfl, HLn.out, HN0.out, by omega, fun _ => ⟨HT.out, HF.out⟩, fun h => absurd h (by omega), by omega, Int.le_refl _, by omega, HOa.out, HBa.out⟩
          case round =>
            clear HOa HBa HN0 HT HF HO HSp HLn p0 p1 p2 p3 p4 p5 hgw hA0 hA1 hnk
            obtain ⟨n, g, cap, AT, t, tx, tdx, out, rfl, rfl, hA0, hA1, rfl, hln, hN, hgn, hTT, hTz, ht0, ht2, hnt, hown, hbi⟩ := hrel
            obtain ⟨wi, rfl⟩ : ∃ wi : World, wi = wr := ⟨_, rfl⟩
            have hzi := hbi.size
            have hgw := (hown.lt g rfl).2
            have hgb := (hown.lt g rfl).1
            have hNl : wo.heap.size < wi.heap.size := (Array.getElem?_eq_some_iff.1 hN).1
            have m0 := Int.emod_nonneg AT (show B ≠ 0 by omega)
            have m1 := Int.emod_lt_of_pos AT (show 0 < B by omega)
            obtain ⟨_, _⟩ := blk_facts hN
            have HO := Lib.hid hown
            have HBi := Lib.hid hbi
            have HLn := Lib.hid hln
            have HTT := Lib.hid hTT
            have HTz := Lib.hid hTz
            have HN := Lib.hid hN
            have pTd := below_cell hbi HTd.out
            clear hown hln hTT hTz
            by_cases hpos : 0 < t
            · by_cases hgt : B - AT % B < t
              · cases r0
                · have HPl := Lib.hid (place_fits (at_ := AT) (r := B - AT % B) (t := B - AT % B) (by omega : (0 : Int) < B) rfl (by omega) (Int.le_refl _)).2
                  have HPl := Lib.hid (show B - (AT + (B - AT % B)) % B = B by have := HPl.out; rw [if_pos (by omega)] at this; exact this.symm)
                  have HLt := Lib.hid (show splitN B t.toNat (B - AT % B) ⟨false, ⟨s0, a0, o0⟩, t, td0⟩ = (⟨false, ⟨s0, a0, o0⟩, B - AT % B, true⟩ :: (splitN B (t - (B - AT % B)).toNat B ⟨false, ⟨s0, a0, o0⟩, t - (B - AT % B), td0⟩).1, (splitN B (t - (B - AT % B)).toNat B ⟨false, ⟨s0, a0, o0⟩, t - (B - AT % B), td0⟩).2) from splitN_lt B (by omega) (B - AT % B) ⟨false, ⟨s0, a0, o0⟩, t, td0⟩ (by omega) hgt)
                  have HT' := Lib.hid (show (out ++ [⟨false, ⟨s0, a0, o0⟩, B - AT % B, true⟩]) ++ (splitN B (t - (B - AT % B)).toNat B ⟨false, ⟨s0, a0, o0⟩, t - (B - AT % B), td0⟩).1 = TOT by have := (HTT.out hpos).1; rw [HLt.out] at this; simpa using this)
                  have HF' := Lib.hid (show (splitN B (t - (B - AT % B)).toNat B ⟨false, ⟨s0, a0, o0⟩, t - (B - AT % B), td0⟩).2 = FIN by have := (HTT.out hpos).2; rw [HLt.out] at this; exact this)
                  have HO1 := Lib.hid (own_setN (own_setN HO.out (a := ⟨wo.heap.size, 4, none⟩) (by show wo.heap.size ≠ g; omega) (.int .i64 (B - AT % B))) (a := ⟨wo.heap.size, 5, none⟩) (by show wo.heap.size ≠ g; omega) (.bool true))
                  have HB1 := Lib.hid ((HBi.out.setCell (p := ⟨wo.heap.size, 4, none⟩) (by show w.heap.size ≤ wo.heap.size; omega) (.int .i64 (B - AT % B))).setCell (p := ⟨wo.heap.size, 5, none⟩) (by show w.heap.size ≤ wo.heap.size; omega) (.bool true))
                  have HN1 := Lib.hid (show ((wi.setCell ⟨wo.heap.size, 4, none⟩ (.int .i64 (B - AT % B))).setCell ⟨wo.heap.size, 5, none⟩ (.bool true)).heap[wo.heap.size]? = some (.cells #[.bool false, .int .i64 s0, .int .i64 a0, .int .i64 o0, .int .i64 (B - AT % B), .bool true] 57 (0, 0)) by have hN := HN.out; (simp only [heap_alloc_get, heap_setCell_get, heap_drew_get, heap_drewN_get, size_alloc', size_setCell', size_drew', size_drewN', nat_simp1, nat_simp2, nat_simp3, nat_simp4, nat_simp5, if_true, if_false, Option.map_some, *]; first | done | rfl | simp))
                  have HC := Lib.hid (show ∀ j u, (Nt.cells ⟨false, ⟨s0, a0, o0⟩, (B - AT % B), true⟩)[j]? = some u → ((((wi.setCell ⟨wo.heap.size, 4, none⟩ (.int .i64 (B - AT % B))).setCell ⟨wo.heap.size, 5, none⟩ (.bool true)).alloc (.cells #[.bool false, .int .i64 s0, .int .i64 a0, .int .i64 o0, .int .i64 (B - AT % B), .bool true] 57))).cell? ⟨wi.heap.size, 0 + j, none⟩ = some u by
                    have := cells_newL ((wi.setCell ⟨wo.heap.size, 4, none⟩ (.int .i64 (B - AT % B))).setCell ⟨wo.heap.size, 5, none⟩ (.bool true)) #[.bool false, .int .i64 s0, .int .i64 a0, .int .i64 o0, .int .i64 (B - AT % B), .bool true] 57
                    try simp only [size_alloc', size_setCell'] at this
                    exact this)
                  have HOa := Lib.hid (show ((((wi.setCell ⟨wo.heap.size, 4, none⟩ (.int .i64 (B - AT % B))).setCell ⟨wo.heap.size, 5, none⟩ (.bool true)).alloc (.cells #[.bool false, .int .i64 s0, .int .i64 a0, .int .i64 o0, .int .i64 (B - AT % B), .bool true] 57))).ownsRow w.heap.size 57 6 (.slice (some ⟨g, 0, none⟩) n cap) n (ntCells out) from (HO1.out).alloc _)
                  have HBa := Lib.hid (show Below w.heap.size w ((((wi.setCell ⟨wo.heap.size, 4, none⟩ (.int .i64 (B - AT % B))).setCell ⟨wo.heap.size, 5, none⟩ (.bool true)).alloc (.cells #[.bool false, .int .i64 s0, .int .i64 a0, .int .i64 o0, .int .i64 (B - AT % B), .bool true] 57))) by
                    have hx := (HB1.out).alloc (by first | omega | (simp only [size_alloc', size_setCell', size_drew']; omega)) (.cells #[.bool false, .int .i64 s0, .int .i64 a0, .int .i64 o0, .int .i64 (B - AT % B), .bool true] 57)
                    first | exact hx | exact hx.drew)
                  have hNa := below_heap (bel1 ((wi.setCell ⟨wo.heap.size, 4, none⟩ (.int .i64 (B - AT % B))).setCell ⟨wo.heap.size, 5, none⟩ (.bool true)) (.cells #[.bool false, .int .i64 s0, .int .i64 a0, .int .i64 o0, .int .i64 (B - AT % B), .bool true] 57)) HN1.out
                  have HNa := Lib.hid (show ((((wi.setCell ⟨wo.heap.size, 4, none⟩ (.int .i64 (B - AT % B))).setCell ⟨wo.heap.size, 5, none⟩ (.bool true)).alloc (.cells #[.bool false, .int .i64 s0, .int .i64 a0, .int .i64 o0, .int .i64 (B - AT % B), .bool true] 57))).heap[wo.heap.size]? = some (.cells #[.bool false, .int .i64 s0, .int .i64 a0, .int .i64 o0, .int .i64 (B - AT % B), .bool true] 57 (0, 0)) from hNa)
                  clear hNa
                  go_wp2_with (at_builtin; refine wp_appl (by rfl) (.tmp 76) (.tmp 78) 44 57 rfl _ 6 48 Try.underlying44 info_nt rfl (by decide) (by decide) w.heap.size g cap n _ rfl HOa.out (wi.heap.size) 0 1 1 (Nt.cells ⟨false, ⟨s0, a0, o0⟩, (B - AT % B), true⟩) rfl rfl HC.out (nt_one _) (by omega) ?c2 ?_)
                  case c2 => first | omega | (simp only [size_alloc', size_setCell', size_drew']; omega)
                  intro g5 cap5 w5 hown5 hgr5 hat5 hlt5
                  have HO5 := Lib.hid (show w5.ownsRow w.heap.size 57 6 (.slice (some ⟨g5, 0, none⟩) (n + 1) cap5) (n + 1) (ntCells (out ++ [⟨false, ⟨s0, a0, o0⟩, (B - AT % B), true⟩])) by rw [nts_snoc]; exact hown5)
                  have HB5 := Lib.hid (bel_app HBa.out HOa.out hgr5 (by omega) (by first | omega | (simp only [size_alloc', size_setCell', size_drew']; omega)))
                  have HN5 := Lib.hid (heap_appA hgr5 HNa.out (by omega))
                  have hg5 : g5 ≠ wo.heap.size := by
                    rcases hat5 with h | h
                    · rw [h]; exact hgn
                    · rw [h]; first | omega | (simp only [size_alloc', size_setCell', size_drew']; omega)
                  clear hown5 hgr5 hat5
                  have hN5 := HN5.out
                  obtain ⟨_, _⟩ := blk_facts hN5
                  clear hN5
                  go_wp2_with fail
                  go_roundw
                  case rel => exact ⟨n + 1, g5, cap5, AT + (B - AT % B), (t - (B - AT % B)), (B - AT % B), true, out ++ [⟨false, ⟨s0, a0, o0⟩, (B - AT % B), true⟩], by go_num, rfl, by omega, by omega, rfl, by simp [HLn.out], HN5.out, hg5, (fun _ => by rw [HPl.out]; exact ⟨HT'.out, HF'.out⟩), (fun h => absurd h (by omega)), by omega, by omega, by omega, HO5.out, HB5.out⟩
                  case measure => simp [intOf]; omega
                · have HPl := Lib.hid (place_fits (at_ := AT) (r := B - AT % B) (t := B - AT % B) (by omega : (0 : Int) < B) rfl (by omega) (Int.le_refl _)).2
                  have HPl := Lib.hid (show B - (AT + (B - AT % B)) % B = B by have := HPl.out; rw [if_pos (by omega)] at this; exact this.symm)
                  have HLt := Lib.hid (show splitN B t.toNat (B - AT % B) ⟨true, ⟨s0, a0, o0⟩, t, td0⟩ = (⟨true, ⟨s0, a0, o0⟩, B - AT % B, false⟩ :: (splitN B (t - (B - AT % B)).toNat B ⟨true, ⟨s0, a0, o0⟩, t - (B - AT % B), td0⟩).1, (splitN B (t - (B - AT % B)).toNat B ⟨true, ⟨s0, a0, o0⟩, t - (B - AT % B), td0⟩).2) from splitN_lt B (by omega) (B - AT % B) ⟨true, ⟨s0, a0, o0⟩, t, td0⟩ (by omega) hgt)
                  have HT' := Lib.hid (show (out ++ [⟨true, ⟨s0, a0, o0⟩, B - AT % B, false⟩]) ++ (splitN B (t - (B - AT % B)).toNat B ⟨true, ⟨s0, a0, o0⟩, t - (B - AT % B), td0⟩).1 = TOT by have := (HTT.out hpos).1; rw [HLt.out] at this; simpa using this)
                  have HF' := Lib.hid (show (splitN B (t - (B - AT % B)).toNat B ⟨true, ⟨s0, a0, o0⟩, t - (B - AT % B), td0⟩).2 = FIN by have := (HTT.out hpos).2; rw [HLt.out] at this; exact this)
                  have HO1 := Lib.hid (own_setN (own_setN HO.out (a := ⟨wo.heap.size, 4, none⟩) (by show wo.heap.size ≠ g; omega) (.int .i64 (B - AT % B))) (a := ⟨wo.heap.size, 5, none⟩) (by show wo.heap.size ≠ g; omega) (.bool false))
                  have HB1 := Lib.hid ((HBi.out.setCell (p := ⟨wo.heap.size, 4, none⟩) (by show w.heap.size ≤ wo.heap.size; omega) (.int .i64 (B - AT % B))).setCell (p := ⟨wo.heap.size, 5, none⟩) (by show w.heap.size ≤ wo.heap.size; omega) (.bool false))
                  have HN1 := Lib.hid (show ((wi.setCell ⟨wo.heap.size, 4, none⟩ (.int .i64 (B - AT % B))).setCell ⟨wo.heap.size, 5, none⟩ (.bool false)).heap[wo.heap.size]? = some (.cells #[.bool true, .int .i64 s0, .int .i64 a0, .int .i64 o0, .int .i64 (B - AT % B), .bool false] 57 (0, 0)) by have hN := HN.out; (simp only [heap_alloc_get, heap_setCell_get, heap_drew_get, heap_drewN_get, size_alloc', size_setCell', size_drew', size_drewN', nat_simp1, nat_simp2, nat_simp3, nat_simp4, nat_simp5, if_true, if_false, Option.map_some, *]; first | done | rfl | simp))
                  have HC := Lib.hid (show ∀ j u, (Nt.cells ⟨true, ⟨s0, a0, o0⟩, (B - AT % B), false⟩)[j]? = some u → ((((wi.setCell ⟨wo.heap.size, 4, none⟩ (.int .i64 (B - AT % B))).setCell ⟨wo.heap.size, 5, none⟩ (.bool false)).alloc (.cells #[.bool true, .int .i64 s0, .int .i64 a0, .int .i64 o0, .int .i64 (B - AT % B), .bool false] 57))).cell? ⟨wi.heap.size, 0 + j, none⟩ = some u by
                    have := cells_newL ((wi.setCell ⟨wo.heap.size, 4, none⟩ (.int .i64 (B - AT % B))).setCell ⟨wo.heap.size, 5, none⟩ (.bool false)) #[.bool true, .int .i64 s0, .int .i64 a0, .int .i64 o0, .int .i64 (B - AT % B), .bool false] 57
                    try simp only [size_alloc', size_setCell'] at this
                    exact this)
                  have HOa := Lib.hid (show ((((wi.setCell ⟨wo.heap.size, 4, none⟩ (.int .i64 (B - AT % B))).setCell ⟨wo.heap.size, 5, none⟩ (.bool false)).alloc (.cells #[.bool true, .int .i64 s0, .int .i64 a0, .int .i64 o0, .int .i64 (B - AT % B), .bool false] 57))).ownsRow w.heap.size 57 6 (.slice (some ⟨g, 0, none⟩) n cap) n (ntCells out) from (HO1.out).alloc _)
                  have HBa := Lib.hid (show Below w.heap.size w ((((wi.setCell ⟨wo.heap.size, 4, none⟩ (.int .i64 (B - AT % B))).setCell ⟨wo.heap.size, 5, none⟩ (.bool false)).alloc (.cells #[.bool true, .int .i64 s0, .int .i64 a0, .int .i64 o0, .int .i64 (B - AT % B), .bool false] 57))) by
                    have hx := (HB1.out).alloc (by first | omega | (simp only [size_alloc', size_setCell', size_drew']; omega)) (.cells #[.bool true, .int .i64 s0, .int .i64 a0, .int .i64 o0, .int .i64 (B - AT % B), .bool false] 57)
                    first | exact hx | exact hx.drew)
                  have hNa := below_heap (bel1 ((wi.setCell ⟨wo.heap.size, 4, none⟩ (.int .i64 (B - AT % B))).setCell ⟨wo.heap.size, 5, none⟩ (.bool false)) (.cells #[.bool true, .int .i64 s0, .int .i64 a0, .int .i64 o0, .int .i64 (B - AT % B), .bool false] 57)) HN1.out
                  have HNa := Lib.hid (show ((((wi.setCell ⟨wo.heap.size, 4, none⟩ (.int .i64 (B - AT % B))).setCell ⟨wo.heap.size, 5, none⟩ (.bool false)).alloc (.cells #[.bool true, .int .i64 s0, .int .i64 a0, .int .i64 o0, .int .i64 (B - AT % B), .bool false] 57))).heap[wo.heap.size]? = some (.cells #[.bool true, .int .i64 s0, .int .i64 a0, .int .i64 o0, .int .i64 (B - AT % B), .bool false] 57 (0, 0)) from hNa)
                  clear hNa
                  go_wp2_with (at_builtin; refine wp_appl (by rfl) (.tmp 76) (.tmp 78) 44 57 rfl _ 6 48 Try.underlying44 info_nt rfl (by decide) (by decide) w.heap.size g cap n _ rfl HOa.out (wi.heap.size) 0 1 1 (Nt.cells ⟨true, ⟨s0, a0, o0⟩, (B - AT % B), false⟩) rfl rfl HC.out (nt_one _) (by omega) ?c2 ?_)
                  case c2 => first | omega | (simp only [size_alloc', size_setCell', size_drew']; omega)
                  intro g5 cap5 w5 hown5 hgr5 hat5 hlt5
                  have HO5 := Lib.hid (show w5.ownsRow w.heap.size 57 6 (.slice (some ⟨g5, 0, none⟩) (n + 1) cap5) (n + 1) (ntCells (out ++ [⟨true, ⟨s0, a0, o0⟩, (B - AT % B), false⟩])) by rw [nts_snoc]; exact hown5)
                  have HB5 := Lib.hid (bel_app HBa.out HOa.out hgr5 (by omega) (by first | omega | (simp only [size_alloc', size_setCell', size_drew']; omega)))
                  have HN5 := Lib.hid (heap_appA hgr5 HNa.out (by omega))
                  have hg5 : g5 ≠ wo.heap.size := by
                    rcases hat5 with h | h
                    · rw [h]; exact hgn
                    · rw [h]; first | omega | (simp only [size_alloc', size_setCell', size_drew']; omega)
                  clear hown5 hgr5 hat5
                  have hN5 := HN5.out
                  obtain ⟨_, _⟩ := blk_facts hN5
                  clear hN5
                  go_wp2_with fail
                  go_roundw
                  case rel => exact ⟨n + 1, g5, cap5, AT + (B - AT % B), (t - (B - AT % B)), (B - AT % B), false, out ++ [⟨true, ⟨s0, a0, o0⟩, (B - AT % B), false⟩], by go_num, rfl, by omega, by omega, rfl, by simp [HLn.out], HN5.out, hg5, (fun _ => by rw [HPl.out]; exact ⟨HT'.out, HF'.out⟩), (fun h => absurd h (by omega)), by omega, by omega, by omega, HO5.out, HB5.out⟩
                  case measure => simp [intOf]; omega
              · cases r0
                · have HPl := Lib.hid (place_fits (at_ := AT) (r := B - AT % B) (t := t) (by omega : (0 : Int) < B) rfl (by omega) (by omega)).2
                  have HGe := Lib.hid (show splitN B t.toNat (B - AT % B) ⟨false, ⟨s0, a0, o0⟩, t, td0⟩ = ([⟨false, ⟨s0, a0, o0⟩, t, td0⟩], if B - AT % B - t = 0 then B else B - AT % B - t) from splitN_ge B (by omega) (B - AT % B) ⟨false, ⟨s0, a0, o0⟩, t, td0⟩ (by omega) hgt)
                  have HT' := Lib.hid (show out ++ [⟨false, ⟨s0, a0, o0⟩, t, td0⟩] = TOT by have := (HTT.out hpos).1; rw [HGe.out] at this; exact this)
                  have HF' := Lib.hid (show B - (AT + t) % B = FIN by have := (HTT.out hpos).2; rw [HGe.out] at this; exact HPl.out.symm.trans this)
                  have htt : t ≤ B - AT % B := by omega
                  clear hgt
                  have HO1 := Lib.hid (own_setN (own_setN HO.out (a := ⟨wo.heap.size, 4, none⟩) (by show wo.heap.size ≠ g; omega) (.int .i64 t)) (a := ⟨wo.heap.size, 5, none⟩) (by show wo.heap.size ≠ g; omega) (.bool td0))
                  have HB1 := Lib.hid ((HBi.out.setCell (p := ⟨wo.heap.size, 4, none⟩) (by show w.heap.size ≤ wo.heap.size; omega) (.int .i64 t)).setCell (p := ⟨wo.heap.size, 5, none⟩) (by show w.heap.size ≤ wo.heap.size; omega) (.bool td0))
                  have HN1 := Lib.hid (show ((wi.setCell ⟨wo.heap.size, 4, none⟩ (.int .i64 t)).setCell ⟨wo.heap.size, 5, none⟩ (.bool td0)).heap[wo.heap.size]? = some (.cells #[.bool false, .int .i64 s0, .int .i64 a0, .int .i64 o0, .int .i64 t, .bool td0] 57 (0, 0)) by have hN := HN.out; (simp only [heap_alloc_get, heap_setCell_get, heap_drew_get, heap_drewN_get, size_alloc', size_setCell', size_drew', size_drewN', nat_simp1, nat_simp2, nat_simp3, nat_simp4, nat_simp5, if_true, if_false, Option.map_some, *]; first | done | rfl | simp))
                  have HC := Lib.hid (show ∀ j u, (Nt.cells ⟨false, ⟨s0, a0, o0⟩, t, td0⟩)[j]? = some u → ((((wi.setCell ⟨wo.heap.size, 4, none⟩ (.int .i64 t)).setCell ⟨wo.heap.size, 5, none⟩ (.bool td0)).alloc (.cells #[.bool false, .int .i64 s0, .int .i64 a0, .int .i64 o0, .int .i64 t, .bool td0] 57))).cell? ⟨wi.heap.size, 0 + j, none⟩ = some u by
                    have := cells_newL ((wi.setCell ⟨wo.heap.size, 4, none⟩ (.int .i64 t)).setCell ⟨wo.heap.size, 5, none⟩ (.bool td0)) #[.bool false, .int .i64 s0, .int .i64 a0, .int .i64 o0, .int .i64 t, .bool td0] 57
                    try simp only [size_alloc', size_setCell'] at this
                    exact this)
                  have HOa := Lib.hid (show ((((wi.setCell ⟨wo.heap.size, 4, none⟩ (.int .i64 t)).setCell ⟨wo.heap.size, 5, none⟩ (.bool td0)).alloc (.cells #[.bool false, .int .i64 s0, .int .i64 a0, .int .i64 o0, .int .i64 t, .bool td0] 57))).ownsRow w.heap.size 57 6 (.slice (some ⟨g, 0, none⟩) n cap) n (ntCells out) from (HO1.out).alloc _)
                  have HBa := Lib.hid (show Below w.heap.size w ((((wi.setCell ⟨wo.heap.size, 4, none⟩ (.int .i64 t)).setCell ⟨wo.heap.size, 5, none⟩ (.bool td0)).alloc (.cells #[.bool false, .int .i64 s0, .int .i64 a0, .int .i64 o0, .int .i64 t, .bool td0] 57))) by
                    have hx := (HB1.out).alloc (by first | omega | (simp only [size_alloc', size_setCell', size_drew']; omega)) (.cells #[.bool false, .int .i64 s0, .int .i64 a0, .int .i64 o0, .int .i64 t, .bool td0] 57)
                    first | exact hx | exact hx.drew)
                  have hNa := below_heap (bel1 ((wi.setCell ⟨wo.heap.size, 4, none⟩ (.int .i64 t)).setCell ⟨wo.heap.size, 5, none⟩ (.bool td0)) (.cells #[.bool false, .int .i64 s0, .int .i64 a0, .int .i64 o0, .int .i64 t, .bool td0] 57)) HN1.out
                  have HNa := Lib.hid (show ((((wi.setCell ⟨wo.heap.size, 4, none⟩ (.int .i64 t)).setCell ⟨wo.heap.size, 5, none⟩ (.bool td0)).alloc (.cells #[.bool false, .int .i64 s0, .int .i64 a0, .int .i64 o0, .int .i64 t, .bool td0] 57))).heap[wo.heap.size]? = some (.cells #[.bool false, .int .i64 s0, .int .i64 a0, .int .i64 o0, .int .i64 t, .bool td0] 57 (0, 0)) from hNa)
                  clear hNa
                  go_wp2_with (at_builtin; refine wp_appl (by rfl) (.tmp 76) (.tmp 78) 44 57 rfl _ 6 48 Try.underlying44 info_nt rfl (by decide) (by decide) w.heap.size g cap n _ rfl HOa.out (wi.heap.size) 0 1 1 (Nt.cells ⟨false, ⟨s0, a0, o0⟩, t, td0⟩) rfl rfl HC.out (nt_one _) (by omega) ?c2 ?_)
                  case c2 => first | omega | (simp only [size_alloc', size_setCell', size_drew']; omega)
                  intro g5 cap5 w5 hown5 hgr5 hat5 hlt5
                  have HO5 := Lib.hid (show w5.ownsRow w.heap.size 57 6 (.slice (some ⟨g5, 0, none⟩) (n + 1) cap5) (n + 1) (ntCells (out ++ [⟨false, ⟨s0, a0, o0⟩, t, td0⟩])) by rw [nts_snoc]; exact hown5)
                  have HB5 := Lib.hid (bel_app HBa.out HOa.out hgr5 (by omega) (by first | omega | (simp only [size_alloc', size_setCell', size_drew']; omega)))
                  have HN5 := Lib.hid (heap_appA hgr5 HNa.out (by omega))
                  have hg5 : g5 ≠ wo.heap.size := by
                    rcases hat5 with h | h
                    · rw [h]; exact hgn
                    · rw [h]; first | omega | (simp only [size_alloc', size_setCell', size_drew']; omega)
                  clear hown5 hgr5 hat5
                  have hN5 := HN5.out
                  obtain ⟨_, _⟩ := blk_facts hN5
                  clear hN5
                  go_wp2_with fail
                  go_roundw
                  case rel => exact ⟨n + 1, g5, cap5, AT + t, 0, t, td0, out ++ [⟨false, ⟨s0, a0, o0⟩, t, td0⟩], by go_num, rfl, by omega, by omega, rfl, by simp [HLn.out], HN5.out, hg5, (fun h => absurd h (by omega)), (fun _ => ⟨HT'.out, HF'.out⟩), by omega, by omega, by omega, HO5.out, HB5.out⟩
                  case measure => simp [intOf]; omega
                · have HPl := Lib.hid (place_fits (at_ := AT) (r := B - AT % B) (t := t) (by omega : (0 : Int) < B) rfl (by omega) (by omega)).2
                  have HGe := Lib.hid (show splitN B t.toNat (B - AT % B) ⟨true, ⟨s0, a0, o0⟩, t, td0⟩ = ([⟨true, ⟨s0, a0, o0⟩, t, td0⟩], if B - AT % B - t = 0 then B else B - AT % B - t) from splitN_ge B (by omega) (B - AT % B) ⟨true, ⟨s0, a0, o0⟩, t, td0⟩ (by omega) hgt)
                  have HT' := Lib.hid (show out ++ [⟨true, ⟨s0, a0, o0⟩, t, td0⟩] = TOT by have := (HTT.out hpos).1; rw [HGe.out] at this; exact this)
                  have HF' := Lib.hid (show B - (AT + t) % B = FIN by have := (HTT.out hpos).2; rw [HGe.out] at this; exact HPl.out.symm.trans this)
                  have htt : t ≤ B - AT % B := by omega
                  clear hgt
                  have HO1 := Lib.hid (own_setN (own_setN HO.out (a := ⟨wo.heap.size, 4, none⟩) (by show wo.heap.size ≠ g; omega) (.int .i64 t)) (a := ⟨wo.heap.size, 5, none⟩) (by show wo.heap.size ≠ g; omega) (.bool td0))
                  have HB1 := Lib.hid ((HBi.out.setCell (p := ⟨wo.heap.size, 4, none⟩) (by show w.heap.size ≤ wo.heap.size; omega) (.int .i64 t)).setCell (p := ⟨wo.heap.size, 5, none⟩) (by show w.heap.size ≤ wo.heap.size; omega) (.bool td0))
                  have HN1 := Lib.hid (show ((wi.setCell ⟨wo.heap.size, 4, none⟩ (.int .i64 t)).setCell ⟨wo.heap.size, 5, none⟩ (.bool td0)).heap[wo.heap.size]? = some (.cells #[.bool true, .int .i64 s0, .int .i64 a0, .int .i64 o0, .int .i64 t, .bool td0] 57 (0, 0)) by have hN := HN.out; (simp only [heap_alloc_get, heap_setCell_get, heap_drew_get, heap_drewN_get, size_alloc', size_setCell', size_drew', size_drewN', nat_simp1, nat_simp2, nat_simp3, nat_simp4, nat_simp5, if_true, if_false, Option.map_some, *]; first | done | rfl | simp))
                  have HC := Lib.hid (show ∀ j u, (Nt.cells ⟨true, ⟨s0, a0, o0⟩, t, td0⟩)[j]? = some u → ((((wi.setCell ⟨wo.heap.size, 4, none⟩ (.int .i64 t)).setCell ⟨wo.heap.size, 5, none⟩ (.bool td0)).alloc (.cells #[.bool true, .int .i64 s0, .int .i64 a0, .int .i64 o0, .int .i64 t, .bool td0] 57))).cell? ⟨wi.heap.size, 0 + j, none⟩ = some u by
                    have := cells_newL ((wi.setCell ⟨wo.heap.size, 4, none⟩ (.int .i64 t)).setCell ⟨wo.heap.size, 5, none⟩ (.bool td0)) #[.bool true, .int .i64 s0, .int .i64 a0, .int .i64 o0, .int .i64 t, .bool td0] 57
                    try simp only [size_alloc', size_setCell'] at this
                    exact this)
                  have HOa := Lib.hid (show ((((wi.setCell ⟨wo.heap.size, 4, none⟩ (.int .i64 t)).setCell ⟨wo.heap.size, 5, none⟩ (.bool td0)).alloc (.cells #[.bool true, .int .i64 s0, .int .i64 a0, .int .i64 o0, .int .i64 t, .bool td0] 57))).ownsRow w.heap.size 57 6 (.slice (some ⟨g, 0, none⟩) n cap) n (ntCells out) from (HO1.out).alloc _)
                  have HBa := Lib.hid (show Below w.heap.size w ((((wi.setCell ⟨wo.heap.size, 4, none⟩ (.int .i64 t)).setCell ⟨wo.heap.size, 5, none⟩ (.bool td0)).alloc (.cells #[.bool true, .int .i64 s0, .int .i64 a0, .int .i64 o0, .int .i64 t, .bool td0] 57))) by
                    have hx := (HB1.out).alloc (by first | omega | (simp only [size_alloc', size_setCell', size_drew']; omega)) (.cells #[.bool true, .int .i64 s0, .int .i64 a0, .int .i64 o0, .int .i64 t, .bool td0] 57)
                    first | exact hx | exact hx.drew)
                  have hNa := below_heap (bel1 ((wi.setCell ⟨wo.heap.size, 4, none⟩ (.int .i64 t)).setCell ⟨wo.heap.size, 5, none⟩ (.bool td0)) (.cells #[.bool true, .int .i64 s0, .int .i64 a0, .int .i64 o0, .int .i64 t, .bool td0] 57)) HN1.out
                  have HNa := Lib.hid (show ((((wi.setCell ⟨wo.heap.size, 4, none⟩ (.int .i64 t)).setCell ⟨wo.heap.size, 5, none⟩ (.bool td0)).alloc (.cells #[.bool true, .int .i64 s0, .int .i64 a0, .int .i64 o0, .int .i64 t, .bool td0] 57))).heap[wo.heap.size]? = some (.cells #[.bool true, .int .i64 s0, .int .i64 a0, .int .i64 o0, .int .i64 t, .bool td0] 57 (0, 0)) from hNa)
                  clear hNa
                  go_wp2_with (at_builtin; refine wp_appl (by rfl) (.tmp 76) (.tmp 78) 44 57 rfl _ 6 48 Try.underlying44 info_nt rfl (by decide) (by decide) w.heap.size g cap n _ rfl HOa.out (wi.heap.size) 0 1 1 (Nt.cells ⟨true, ⟨s0, a0, o0⟩, t, td0⟩) rfl rfl HC.out (nt_one _) (by omega) ?c2 ?_)
                  case c2 => first | omega | (simp only [size_alloc', size_setCell', size_drew']; omega)
                  intro g5 cap5 w5 hown5 hgr5 hat5 hlt5
                  have HO5 := Lib.hid (show w5.ownsRow w.heap.size 57 6 (.slice (some ⟨g5, 0, none⟩) (n + 1) cap5) (n + 1) (ntCells (out ++ [⟨true, ⟨s0, a0, o0⟩, t, td0⟩])) by rw [nts_snoc]; exact hown5)
                  have HB5 := Lib.hid (bel_app HBa.out HOa.out hgr5 (by omega) (by first | omega | (simp only [size_alloc', size_setCell', size_drew']; omega)))
                  have HN5 := Lib.hid (heap_appA hgr5 HNa.out (by omega))
                  have hg5 : g5 ≠ wo.heap.size := by
                    rcases hat5 with h | h
                    · rw [h]; exact hgn
                    · rw [h]; first | omega | (simp only [size_alloc', size_setCell', size_drew']; omega)
                  clear hown5 hgr5 hat5
                  have hN5 := HN5.out
                  obtain ⟨_, _⟩ := blk_facts hN5
                  clear hN5
                  go_wp2_with fail
                  go_roundw
                  case rel => exact ⟨n + 1, g5, cap5, AT + t, 0, t, td0, out ++ [⟨true, ⟨s0, a0, o0⟩, t, td0⟩], by go_num, rfl, by omega, by omega, rfl, by simp [HLn.out], HN5.out, hg5, (fun h => absurd h (by omega)), (fun _ => ⟨HT'.out, HF'.out⟩), by omega, by omega, by omega, HO5.out, HB5.out⟩
                  case measure => simp [intOf]; omega
            · have ht0' : t = 0 := by omega
              obtain ⟨HZ1, HZ2⟩ := HTz.out ht0'
              have HX := Lib.hid (show splitV B B (ns.take (k + 1)) = (out, B - AT % B) by rw [HNx.out, HZ1, HZ2])
              clear ht0' HZ1 HZ2
              go_wp2_with fail
              go_roundw
              case rel => exact ⟨k + 1, n, g, cap, AT, out, by omega, by go_num, rfl, hA0, by omega, rfl, HLn.out, HX.out, by omega, HO.out, HBi.out⟩
              case measure => simp [intOf]; omega
        · have hlno := HLn.out
          subst hlno
          have HSe := Lib.hid (show splitV B B ns = (out, (B - AT % B)) by have := HSp.out; rwa [List.take_of_length_le (by omega)] at this)
          by_cases h6 : 60 < out.length
          · have HW := Lib.hid (show splitB ns ⟨b, u⟩ = none by rw [HV.out, HSe.out]; exact if_pos h6)
            go_wp2_with fail
            go_ret2
            rw [HW.out]
            exact ⟨_, rfl, own_monoA (own_new _ 57 6) hz, by simp, HBl.out.alloc hz _⟩
          · have HW := Lib.hid (show splitB ns ⟨b, u⟩ = some out by rw [HV.out, HSe.out]; exact if_neg h6)
            go_wp2_with fail
            go_ret2
            rw [HW.out]
            exact ⟨_, rfl, HO.out, by show out.length ≤ 60; omega, HBl.out⟩
end Go.Proofs.Ytendoahanngacaa
