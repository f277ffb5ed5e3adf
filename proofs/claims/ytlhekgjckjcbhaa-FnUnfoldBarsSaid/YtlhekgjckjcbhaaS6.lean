/- WrittenBars on both sides; the walk of FnExactWrittenBars. Conditions: none beyond the law's own. -/
import Derived.Test.YtlhekgjckjcbhaaS4
import Derived.Test.YtlhekgjckjcbhaaS5
namespace Go.Proofs.Ytlhekgjckjcbhaa
open Go.RowKit
set_option linter.unusedSimpArgs false
set_option linter.unusedVariables false
set_option maxHeartbeats 4000000

theorem c_written (b t : Int) (v : Value) (l : List Int) (w : World) (h : Rd w v 1 l.length (intCells l)) (hb : 0 ≤ b ∧ b ≤ 12) (hl : l.length ≤ 4) (hx : ∀ x ∈ l, 0 ≤ x ∧ x ≤ 12) :
    Calls Try.prog 68 #[.agg #[.int .i64 b, .int .i64 t, v]] w fun e w' => e = .returned (.int .i64 (b + l.sum)) ∧ Below w.heap.size w w' := by
  obtain ⟨_, A, c, rfl, hnc, hcm, hA⟩ := h
  unfold maxLen at hcm
  obtain ⟨hb1, hb2⟩ := hb
  have HX := Lib.hid hx
  clear hx
  go_enter Try.func68, Try.ntmps68
  go_wp2
  go_loopw [3, 11] (fun t i wr => ∃ k : Nat, k ≤ l.length ∧ i = .int .i64 k ∧ t = .int .i64 (b + (l.take k).sum) ∧ Below w.heap.size w wr) (fun _ i _ => l.length - (intOf i).toNat)
  case atStart => exact ⟨0, Nat.zero_le _, rfl, by simp, by (repeat' (first | (with_reducible exact Below.refl _ _) | (with_reducible refine Below.setCell ?_ ?_ _) | (with_reducible refine Below.alloc ?_ ?_ _) | (with_reducible refine Below.drew ?_) | (with_reducible refine below_drewN ?_ _) | (with_reducible refine Below.trans ?_ (Below.mono (by with_reducible assumption) ?_)) | omega | (simp only [size_alloc', size_setCell', size_drew', size_drewN'] at *; omega)))⟩
  case round =>
    obtain ⟨k, hk, rfl, rfl, hbl⟩ := hrel
    have hz := hbl.size
    obtain ⟨s1, s2⟩ := sum_take_bd l HX.out k
    by_cases hlt : k < l.length
    · obtain ⟨bb, off, rfl, hcc⟩ := hA (by omega)
      have p0 := int_at (rd_later hbl hcc) k hlt
      obtain ⟨x1, x2⟩ := HX.out _ (List.getElem_mem hlt)
      have HS := Lib.hid (sum_take_succ l k hlt)
      generalize l[k] = x at *
      clear hA hcc
      go_wp2
      go_roundw
      case rel => exact ⟨k + 1, by omega, by go_num, by rw [HS.out, Int.add_assoc], by (repeat' (first | (with_reducible exact Below.refl _ _) | (with_reducible refine Below.setCell ?_ ?_ _) | (with_reducible refine Below.alloc ?_ ?_ _) | (with_reducible refine Below.drew ?_) | (with_reducible refine below_drewN ?_ _) | (with_reducible refine Below.trans ?_ (Below.mono (by with_reducible assumption) ?_)) | omega | (simp only [size_alloc', size_setCell', size_drew', size_drewN'] at *; omega)))⟩
      case measure => simp [intOf]; omega
    · clear hA
      go_wp2
      go_ret
      exact ⟨ret_int (by rw [List.take_of_length_le (by omega)]), by (repeat' (first | (with_reducible exact Below.refl _ _) | (with_reducible refine Below.setCell ?_ ?_ _) | (with_reducible refine Below.alloc ?_ ?_ _) | (with_reducible refine Below.drew ?_) | (with_reducible refine below_drewN ?_ _) | (with_reducible refine Below.trans ?_ (Below.mono (by with_reducible assumption) ?_)) | omega | (simp only [size_alloc', size_setCell', size_drew', size_drewN'] at *; omega)))⟩
theorem c_WrittenBars (v : Value) (ss : List Sec) (w : World) (h : RdS w v ss) :
    Calls Try.prog 61 #[v] w fun e w' => e = .returned (.int .i64 (writtenB (ss.map Sec.d))) ∧ Below w.heap.size w w' := by
  have h' := Lib.hid h
  obtain ⟨⟨_, A, c, rfl, hnc, hcm, hA⟩, hg⟩ := h
  unfold maxLen at hcm
  have HG := Lib.hid hg
  clear hg
  cases hv : secsOk (ss.map Sec.d)
  · have HV := Lib.hid hv
    go_enter Try.func61, Try.ntmps61
    go_wp2_with (go_at_call 60; (with_reducible refine (c_SectionsValid _ ss _ h'.out).mono ?_); rintro e wq ⟨rfl, hbq⟩; rw [HV.out])
    go_ret
    exact ⟨ret_int (by unfold writtenB; rw [HV.out]; rfl), hbq⟩
  · have HV := Lib.hid hv
    obtain ⟨h8, hall⟩ := secsOk_map.1 hv
    have HO := Lib.hid hall
    have HB := Lib.hid (fun k (hk : k ≤ (ss.map Sec.d).length) => writtenS_bd (ss.map Sec.d) (secsOk_iff.1 hv).2 k hk)
    clear hall hv
    go_enter Try.func61, Try.ntmps61
    go_wp2_with fail
    (go_at_call 60; (with_reducible refine (c_SectionsValid _ ss _ h'.out).mono ?_); rintro e wq ⟨rfl, hbq⟩; rw [HV.out])
    go_wp2_with fail
    go_loopw [3, 11] (fun t i wr => ∃ k : Nat, k ≤ ss.length ∧ i = .int .i64 k ∧ t = .int .i64 (writtenS ((ss.map Sec.d).take k)) ∧ Below w.heap.size w wr) (fun _ i _ => ss.length - (intOf i).toNat)
    case atStart => exact ⟨0, Nat.zero_le _, rfl, rfl, hbq⟩
    case round =>
      obtain ⟨k, hk, rfl, rfl, hbl⟩ := hrel
      have hz := hbl.size
      obtain ⟨s1, s2⟩ := HB.out k (by simpa using hk)
      by_cases hlt : k < ss.length
      · obtain ⟨b, off, rfl, hcc⟩ := hA (by omega)
        obtain ⟨c0, c1, c2⟩ := sec_at (rd_later hbl hcc) k hlt
        have hX := Rd.below (HG.out _ (List.getElem_mem hlt)) (Nat.le_refl _) hbl
        have hok := HO.out k hlt
        have HS := Lib.hid (writtenS_succ (ss.map Sec.d) k (by simpa using hlt))
        have HE := Lib.hid (show (ss.map Sec.d)[k]'(by simpa using hlt) = ss[k].d by simp)
        generalize ss[k] = s at *
        obtain ⟨sb, st, sv, sl⟩ := s
        change Rd wr sv 1 sl.length (intCells sl) at hX
        dsimp only at c0 c1 c2
        have HX := Lib.hid hX
        obtain ⟨_, A1, cc1, rfl, -, -, -⟩ := hX
        rw [HE.out] at HS
        have HL := Lib.hid (show sl.length ≤ 4 from SD.len_bd hok)
        obtain ⟨g1, _, _, g4⟩ := SD.ok_iff.1 hok
        obtain ⟨wb1, wb2⟩ := SD.written_bd hok
        have HG1 := Lib.hid (show 0 ≤ sb ∧ sb ≤ 12 from g1)
        have HG4 := Lib.hid (show ∀ x ∈ sl, 0 ≤ x ∧ x ≤ 12 from g4)
        change 0 ≤ sb + sl.sum at wb1
        change sb + sl.sum ≤ 60 at wb2
        clear hA hcc hok g1 g4
        go_wp2_with fail
        (go_at_call 68; (with_reducible refine (c_written sb st _ sl _ (HX.out.alloc _) HG1.out HL.out HG4.out).mono ?_); rintro e wq ⟨rfl, hbq⟩)
        go_wp2
        go_roundw
        case rel => exact ⟨k + 1, by omega, by go_num, by rw [HS.out]; rfl, by (repeat' (first | (with_reducible exact Below.refl _ _) | (with_reducible refine Below.setCell ?_ ?_ _) | (with_reducible refine Below.alloc ?_ ?_ _) | (with_reducible refine Below.drew ?_) | (with_reducible refine below_drewN ?_ _) | (with_reducible refine Below.trans ?_ (Below.mono (by with_reducible assumption) ?_)) | omega | (simp only [size_alloc', size_setCell', size_drew', size_drewN'] at *; omega)))⟩
        case measure => simp [intOf]; omega
      · clear hA
        go_wp2
        go_ret
        exact ⟨ret_int (by unfold writtenB; rw [if_pos HV.out, List.take_of_length_le (by simp; omega)]), hbl⟩
theorem c_sWrittenBars (v : Value) (ss : List Sec) (w : World) (h : RdS w v ss) :
    Calls Try.prog 57 #[v] w fun e w' => e = .returned (.int .i64 (writtenB (ss.map Sec.d))) ∧ Below w.heap.size w w' := by
  have h' := Lib.hid h
  obtain ⟨⟨_, A, c, rfl, hnc, hcm, hA⟩, hg⟩ := h
  unfold maxLen at hcm
  have HG := Lib.hid hg
  clear hg
  cases hv : secsOk (ss.map Sec.d)
  · have HV := Lib.hid hv
    go_enter Try.func57, Try.ntmps57
    go_wp2_with (go_at_call 56; (with_reducible refine (c_sSectionsValid _ ss _ h'.out).mono ?_); rintro e wq ⟨rfl, hbq⟩; rw [HV.out])
    go_ret
    exact ⟨ret_int (by unfold writtenB; rw [HV.out]; rfl), hbq⟩
  · have HV := Lib.hid hv
    obtain ⟨h8, hall⟩ := secsOk_map.1 hv
    have HO := Lib.hid hall
    have HB := Lib.hid (fun k (hk : k ≤ (ss.map Sec.d).length) => writtenS_bd (ss.map Sec.d) (secsOk_iff.1 hv).2 k hk)
    clear hall hv
    go_enter Try.func57, Try.ntmps57
    go_wp2_with fail
    (go_at_call 56; (with_reducible refine (c_sSectionsValid _ ss _ h'.out).mono ?_); rintro e wq ⟨rfl, hbq⟩; rw [HV.out])
    go_wp2_with fail
    have hzq := hbq.size
    go_loop [3, 4] (fun t i => ∃ k : Nat, k ≤ ss.length ∧ i = .int .i64 k ∧ t = .int .i64 (writtenS ((ss.map Sec.d).take k))) (fun _ i => ss.length - (intOf i).toNat)
    case atStart => exact ⟨0, Nat.zero_le _, rfl, rfl⟩
    case round =>
      obtain ⟨k, hk, rfl, rfl⟩ := hrel
      obtain ⟨s1, s2⟩ := HB.out k (by simpa using hk)
      by_cases hlt : k < ss.length
      · obtain ⟨b, off, rfl, hcc⟩ := hA (by omega)
        obtain ⟨c0, c1, c2⟩ := sec_at (rd_later hbq hcc) k hlt
        have hX := Rd.below (HG.out _ (List.getElem_mem hlt)) (Nat.le_refl _) hbq
        have hok := HO.out k hlt
        have HS := Lib.hid (writtenS_succ (ss.map Sec.d) k (by simpa using hlt))
        have HE := Lib.hid (show (ss.map Sec.d)[k]'(by simpa using hlt) = ss[k].d by simp)
        generalize ss[k] = s at *
        obtain ⟨sb, st, sv, sl⟩ := s
        rw [HE.out] at HS
        have hl4 : sl.length ≤ 4 := SD.len_bd hok
        obtain ⟨⟨g1, g2⟩, _, _, g4⟩ := SD.ok_iff.1 hok
        change 0 ≤ sb at g1
        change sb ≤ 12 at g2
        have HG4 := Lib.hid (show ∀ x ∈ sl, 0 ≤ x ∧ x ≤ 12 from g4)
        change Rd wq sv 1 sl.length (intCells sl) at hX
        dsimp only at c0 c1 c2
        obtain ⟨_, A1, cc1, rfl, hnc1, hcm1, hA1⟩ := hX
        unfold maxLen at hcm1
        clear hA hcc hok g4
        have HA1 := Lib.hid hA1
        clear hA1
        go_wp2_with fail
        go_loop [3, 5] (fun t i => ∃ j : Nat, j ≤ sl.length ∧ i = .int .i64 j ∧ t = .int .i64 (writtenS ((ss.map Sec.d).take k) + sb + (sl.take j).sum)) (fun _ i => sl.length - (intOf i).toNat)
        case atStart => exact ⟨0, Nat.zero_le _, rfl, by simp⟩
        case round =>
          obtain ⟨j, hj, rfl, rfl⟩ := hrel
          obtain ⟨r1, r2⟩ := sum_take_bd sl HG4.out j
          by_cases hjt : j < sl.length
          · obtain ⟨b2, off2, rfl, hcc2⟩ := HA1.out (by omega)
            have p0 := int_at hcc2 j hjt
            obtain ⟨x1, x2⟩ := HG4.out _ (List.getElem_mem hjt)
            have HT := Lib.hid (sum_take_succ sl j hjt)
            generalize sl[j] = x at *
            clear hcc2
            go_wp2
            go_round
            case rel => exact ⟨j + 1, by omega, by go_num, by rw [HT.out, ← Int.add_assoc]⟩
            case measure => simp [intOf]; omega
          · have HT := Lib.hid (show sl.take j = sl from List.take_of_length_le (by omega))
            go_wp2
            go_round
            case rel => exact ⟨k + 1, by omega, by go_num, by rw [HS.out, HT.out, Int.add_assoc]; rfl⟩
            case measure => simp [intOf]; omega
      · clear hA
        go_wp2
        go_ret
        exact ⟨ret_int (by unfold writtenB; rw [if_pos HV.out, List.take_of_length_le (by simp; omega)]), hbq⟩
end Go.Proofs.Ytlhekgjckjcbhaa
