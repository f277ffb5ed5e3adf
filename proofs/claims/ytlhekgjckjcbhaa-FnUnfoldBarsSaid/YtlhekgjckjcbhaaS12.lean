/- PlayedOrder of the reference. Conditions: none. -/
import Derived.Test.YtlhekgjckjcbhaaS11
namespace Go.Proofs.Ytlhekgjckjcbhaa
open Go.RowKit
set_option linter.unusedSimpArgs false
set_option linter.unusedVariables false
set_option maxHeartbeats 16000000

theorem c_sPlayedOrder_no (v : Value) (ss : List Sec) (w : World) (h : RdS w v ss) (hv : secsOk (ss.map Sec.d) = false) :
    Calls Try.prog 58 #[v] w (OrderMade [] w) := by
  have h' := Lib.hid h
  obtain ⟨⟨_, A, c, rfl, hnc, hcm, -⟩, -⟩ := h
  unfold maxLen at hcm
  have h0 : 0 < ss.length := by
    cases ss with
    | nil => simp [secsOk] at hv
    | cons a l => simp
  have HV := Lib.hid hv
  clear hv
  go_enter Try.func58, Try.ntmps58
  go_wp2_with fail
  go_loopw [3, 4, 5] (fun o f i wr => i = .int .i64 0 ∧ f = .int .i64 0 ∧ o = .slice (some ⟨w.heap.size, 0, none⟩) 0 0 ∧ wr = w.alloc (.cells #[] 3)) (fun _ _ _ _ => 0)
  case atStart => exact ⟨rfl, rfl, rfl, rfl⟩
  case round =>
    obtain ⟨rfl, rfl, rfl, rfl⟩ := hrel
    go_wp2_with fail
    (go_at_call 56; (with_reducible refine (c_sSectionsValid _ ss _ (h'.out.later (bel1 _ _))).mono ?_); rintro e wq ⟨rfl, hbq⟩; rw [HV.out])
    go_wp2_with fail
    go_ret
    exact ⟨w.heap.size, 0, 0, rfl, own_belA (own_new w 3 1) hbq, by omega, (bel1 w (.cells #[] 3)).trans (hbq.mono (by simp))⟩
set_option maxRecDepth 100000 in
theorem c_sPlayedOrder (v : Value) (ss : List Sec) (w : World) (h : RdS w v ss) (hv : secsOk (ss.map Sec.d) = true) :
    Calls Try.prog 58 #[v] w (OrderMade (playedB (ss.map Sec.d)) w) := by
  have h' := Lib.hid h
  obtain ⟨⟨_, A, c, rfl, hnc, hcm, hA⟩, hg⟩ := h
  unfold maxLen at hcm
  have HG := Lib.hid hg
  clear hg
  have HV := Lib.hid hv
  obtain ⟨h8, hall⟩ := secsOk_map.1 hv
  have HO := Lib.hid hall
  have HB := Lib.hid (fun k (hk : k ≤ (ss.map Sec.d).length) => writtenS_bd (ss.map Sec.d) (secsOk_iff.1 hv).2 k hk)
  have HS := Lib.hid (fun k (hk : k < (ss.map Sec.d).length) => writtenS_succ (ss.map Sec.d) k hk)
  have HP := Lib.hid (show playedB (ss.map Sec.d) = playedUp (ss.map Sec.d) ss.length by unfold playedB; rw [if_pos hv, List.length_map])
  have HE := Lib.hid (fun k (hk : k < ss.length) => show (ss.map Sec.d)[k]? = some ss[k].d by simp [hk])
  have HLn := Lib.hid (show (ss.map Sec.d).length = ss.length by simp)
  clear hall hv
  obtain ⟨ds, hds⟩ : ∃ ds, ds = ss.map Sec.d := ⟨_, rfl⟩
  have HPd := Lib.hid (show playedB (ss.map Sec.d) = playedUp ds ss.length by rw [hds]; exact HP.out)
  rw [← hds] at HB HS HE HLn
  clear hds HP
  go_enter Try.func58, Try.ntmps58
  go_wp2_with fail
  go_loopw [3, 4, 5] (fun o f i wr => ∃ (k n g cap : Nat), k ≤ ss.length ∧ i = .int .i64 k ∧ f = .int .i64 (writtenS (ds.take k)) ∧ o = .slice (some ⟨g, 0, none⟩) n cap ∧ n ≤ 96 * k ∧
      wr.ownsRow w.heap.size 3 1 (.slice (some ⟨g, 0, none⟩) n cap) n (intCells (playedUp ds k)) ∧ Below w.heap.size w wr) (fun _ _ i _ => ss.length - (intOf i).toNat)
  case atStart => exact ⟨0, 0, _, _, Nat.zero_le _, rfl, rfl, rfl, by omega, own_new w 3 1, bel1 _ _⟩
  case round =>
    obtain ⟨k, n, g, cap, hk, rfl, rfl, rfl, hn, hown, hbl⟩ := hrel
    have hz := hbl.size
    obtain ⟨s1, s2⟩ := HB.out k (by rw [HLn.out]; exact hk)
    have HW := Lib.hid hown
    clear hown
    by_cases hlt : k < ss.length
    · go_wp2_with fail
      (go_at_call 56; (with_reducible refine (c_sSectionsValid _ ss _ (h'.out.later hbl)).mono ?_); rintro e wo ⟨rfl, hbo⟩; rw [HV.out])
      have HWo := Lib.hid (own_belA HW.out hbo)
      have hblo := hbl.trans (hbo.mono hz)
      have hzo := hblo.size
      have hgr := (HWo.out.lt g rfl).2
      obtain ⟨b, off, rfl, hcc⟩ := hA (by omega)
      obtain ⟨c0, c1, c2⟩ := sec_at (rd_later hblo hcc) k hlt
      have hX := HG.out _ (List.getElem_mem hlt)
      have hok := HO.out k hlt
      have HSs := HS.out k (by rw [HLn.out]; exact hlt)
      have HEk := HE.out k hlt
      have e1 : ds[k]'(by rw [HLn.out]; exact hlt) = ss[k].d := by
        have := List.getElem?_eq_getElem (l := ds) (i := k) (by rw [HLn.out]; exact hlt)
        rw [HEk] at this
        exact (Option.some.inj this).symm
      rw [e1] at HSs
      clear e1
      generalize ss[k] = s at *
      obtain ⟨sb, st, sv, sl⟩ := s
      change Rd w sv 1 sl.length (intCells sl) at hX
      dsimp only at c0 c1 c2
      have HX := Lib.hid hX
      obtain ⟨_, A1, cc1, rfl, hnc1, hcm1, hA1⟩ := hX
      unfold maxLen at hcm1
      have hl4 : sl.length ≤ 4 := SD.len_bd hok
      obtain ⟨⟨g1, g2⟩, ⟨g3, g4⟩, g5, g6⟩ := SD.ok_iff.1 hok
      change 0 ≤ sb at g1
      change sb ≤ 12 at g2
      change 1 ≤ st at g3
      change st ≤ 4 at g4
      change sl.length = 0 ∨ (sl.length : Int) = st at g5
      have G6 := Lib.hid (show ∀ x ∈ sl, 0 ≤ x ∧ x ≤ 12 from g6)
      have HSU := Lib.hid (playedUp_succ HEk)
      have HSW := Lib.hid (show writtenS (ds.take (k + 1)) = writtenS (ds.take k) + (sb + sl.sum) from HSs)
      have HA1 := Lib.hid hA1
      obtain ⟨bn, rfl⟩ := Int.eq_ofNat_of_zero_le g1
      obtain ⟨tn, rfl⟩ := Int.eq_ofNat_of_zero_le (show 0 ≤ st by omega)
      have HSU2 := Lib.hid (show playedUp ds (k + 1) = playedUp ds k ++ timesL (writtenS (ds.take k)) ⟨bn, tn, sl⟩ tn from HSU.out)
      have hg5 : sl.length = 0 ∨ sl.length = tn := by omega
      clear HSU g5 g6 hA1 HSs HEk hok hA hcc HW hbl hbo
      generalize writtenS (ds.take k) = F at *
      go_wp2_with fail
      go_loopw [3, 7, 8] (fun o f i wr => ∃ (t n g cap : Nat), t ≤ tn ∧ i = .int .i64 t ∧ f = .int .i64 (F + bn + (sl.take t).sum) ∧ o = .slice (some ⟨g, 0, none⟩) n cap ∧ n ≤ 96 * k + 24 * t ∧
        wr.ownsRow w.heap.size 3 1 (.slice (some ⟨g, 0, none⟩) n cap) n (intCells (playedUp ds k ++ timesL F ⟨bn, tn, sl⟩ t)) ∧ g ≠ wo.heap.size ∧ wr.heap[wo.heap.size]? = some (.cells #[.int .i64 bn, .int .i64 tn, .slice A1 sl.length cc1] 43 (0, 0)) ∧
        wo.heap.size < wr.heap.size ∧ Below w.heap.size w wr) (fun _ _ i _ => tn - (intOf i).toNat)
      case atStart => exact ⟨0, n, g, cap, Nat.zero_le _, rfl, by simp, rfl, by omega, by rw [show timesL F ⟨bn, tn, sl⟩ 0 = [] from rfl, List.append_nil]; exact HWo.out.alloc _, by omega, heap_alloc_new _ _, by simp, hblo.alloc hzo _⟩
      case round =>
        obtain ⟨t, n2, g2, cap2, ht, rfl, rfl, rfl, hn2, hown2, hne2, hB2, hlt2, hbl2⟩ := hrel
        obtain ⟨r1, r2⟩ := sum_take_bd sl G6.out t
        obtain ⟨_, _⟩ := blk_facts hB2
        have HW2 := Lib.hid hown2
        have HB2 := Lib.hid hB2
        have hz2 := hbl2.size
        clear hown2 hB2
        obtain ⟨wp, rfl⟩ : ∃ wp : World, wp = wr := ⟨_, rfl⟩
        by_cases htl : t < tn
        · go_wp2_with fail
          go_loopw [3, 9] (fun o b wr => ∃ (j n g cap : Nat), j ≤ bn ∧ b = .int .i64 j ∧ o = .slice (some ⟨g, 0, none⟩) n cap ∧ n ≤ 96 * k + 24 * t + j ∧
            wr.ownsRow w.heap.size 3 1 (.slice (some ⟨g, 0, none⟩) n cap) n (intCells (playedUp ds k ++ timesL F ⟨bn, tn, sl⟩ t ++ runL F j)) ∧ g ≠ wo.heap.size ∧ wr.heap[wo.heap.size]? = some (.cells #[.int .i64 bn, .int .i64 tn, .slice A1 sl.length cc1] 43 (0, 0)) ∧
            wo.heap.size < wr.heap.size ∧ Below w.heap.size w wr) (fun _ b _ => bn - (intOf b).toNat)
          case atStart => exact ⟨0, n2, g2, cap2, Nat.zero_le _, rfl, rfl, by omega, by rw [show runL F 0 = [] from rfl, List.append_nil]; exact HW2.out, hne2, HB2.out, hlt2, hbl2⟩
          case round =>
            obtain ⟨j, n3, g3, cap3, hj, rfl, rfl, hn3, hown3, hne3, hB3, hlt3, hbl3⟩ := hrel
            obtain ⟨_, _⟩ := blk_facts hB3
            have HW3 := Lib.hid hown3
            have HB3 := Lib.hid hB3
            have hz3 := hbl3.size
            clear hown3 hB3
            by_cases hjl : j < bn
            · have HO := Lib.hid (HW3.out.alloc (.cells #[.int .i64 (F + j)] 3))
              go_wp2_with (at_builtin; refine wp_appl (by rfl) (.tmp 42) (.tmp 46) 41 3 rfl _ 1 8 Try.underlying41 info_int rfl (by decide) (by decide) w.heap.size g3 cap3 n3 _ rfl HO.out wr.heap.size 0 1 1 [.int .i64 (F + j)] rfl rfl (cells_new1 _ _ _) (by simp [Value.oneCell']) (by omega) ?c2 ?_)
              case c2 => simp; omega
              intro g4 cap4 w4 hown4 hgr4 hat4 hlt4
              have HW4 := Lib.hid hown4
              have HB4 := Lib.hid (heap_appA hgr4 (below_heap (bel1 wr (.cells #[.int .i64 (F + j)] 3)) HB3.out) (by omega))
              have hbl4 := bel_app (hbl3.alloc hz3 (.cells #[.int .i64 (F + j)] 3)) HO.out hgr4 (Nat.le_refl _) (by simp; omega)
              have hz4 := hgr4.size
              simp only [size_alloc'] at hz4 hat4
              have hg3 := (HW3.out.lt g3 rfl).2
              have hne4 : g4 ≠ wo.heap.size := by omega
              clear hown4 hgr4 hat4
              go_wp2_with fail
              go_roundw
              case rel => exact ⟨j + 1, n3 + 1, g4, cap4, by omega, by go_num, rfl, by omega, by have h := HW4.out; simp only [runL_succ, intCells_app, List.append_assoc] at h ⊢; exact h, hne4, HB4.out, by omega, hbl4⟩
              case measure => simp [intOf]; omega
            · have hje : j = bn := by omega
              subst hje
              obtain ⟨wn, rfl⟩ : ∃ wn : World, wn = wr := ⟨_, rfl⟩
              by_cases hs0 : sl.length < 1
              · have htf : ¬ ((t : Int) < (sl.length : Int)) := by omega
                have HT := Lib.hid (show timesL F ⟨j, tn, sl⟩ (t + 1) = timesL F ⟨j, tn, sl⟩ t ++ runL F j by rw [timesL_succ, endL_none (by omega), List.append_nil]; rfl)
                have HT2 := Lib.hid (show (sl.take (t + 1)).sum = (sl.take t).sum by rw [List.take_of_length_le (by omega), List.take_of_length_le (by omega)])
                go_wp2_with fail
                go_loopw [3, 7, 10] (fun o f b wr => o = .slice (some ⟨g3, 0, none⟩) n3 cap3 ∧ f = .int .i64 (F + j + (sl.take t).sum) ∧ b = .int .i64 0 ∧ wr = wn) (fun _ _ _ _ => 0)
                case atStart => exact ⟨rfl, rfl, rfl, rfl⟩
                case round =>
                  obtain ⟨rfl, rfl, rfl, rfl⟩ := hrel
                  go_wp2_with fail
                  go_roundw
                  case rel => exact ⟨t + 1, n3, g3, cap3, by omega, by go_num, by rw [HT2.out], rfl, by omega, by have h := HW3.out; rw [HT.out]; simp only [intCells_app, List.append_assoc] at h ⊢; exact h, hne3, HB3.out, hlt3, hbl3⟩
                  case measure => simp [intOf]; omega
              · have htn : t < sl.length := by omega
                obtain ⟨b2, off2, rfl, hcc2⟩ := HA1.out (by omega)
                have HC2 := Lib.hid hcc2
                obtain ⟨x1, x2⟩ := G6.out _ (List.getElem_mem htn)
                have HT2 := Lib.hid (sum_take_succ sl t htn)
                have HT := Lib.hid (show timesL F ⟨j, tn, sl⟩ (t + 1) = timesL F ⟨j, tn, sl⟩ t ++ (runL F j ++ runL (F + j + (sl.take t).sum) sl[t].toNat) by rw [timesL_succ, endL_some htn]; rfl)
                have HP0 := Lib.hid (fun (wz : World) (hz : Below w.heap.size w wz) => int_at (rd_later hz hcc2) t htn)
                generalize sl[t] = x at *
                obtain ⟨xn, rfl⟩ := Int.eq_ofNat_of_zero_le x1
                have hS0 : 0 < sl.length := by omega
                clear hcc2
                go_wp2_with fail
                go_loopw [3, 7, 10] (fun o f b wr => ∃ (y n g cap : Nat), y ≤ xn ∧ b = .int .i64 y ∧ f = .int .i64 (F + j + (sl.take t).sum + y) ∧ o = .slice (some ⟨g, 0, none⟩) n cap ∧ n ≤ 96 * k + 24 * t + 12 + y ∧
                  wr.ownsRow w.heap.size 3 1 (.slice (some ⟨g, 0, none⟩) n cap) n (intCells (playedUp ds k ++ timesL F ⟨j, tn, sl⟩ t ++ runL F j ++ runL (F + j + (sl.take t).sum) y)) ∧ g ≠ wo.heap.size ∧ wr.heap[wo.heap.size]? = some (.cells #[.int .i64 j, .int .i64 tn, .slice (some ⟨b2, off2, none⟩) sl.length cc1] 43 (0, 0)) ∧
                  wo.heap.size < wr.heap.size ∧ Below w.heap.size w wr) (fun _ _ b _ => xn - (intOf b).toNat)
                case atStart => exact ⟨0, n3, g3, cap3, Nat.zero_le _, rfl, by simp, rfl, by omega, by rw [show runL (F + j + (sl.take t).sum) 0 = [] from rfl, List.append_nil]; exact HW3.out, hne3, HB3.out, hlt3, hbl3⟩
                case round =>
                  obtain ⟨y, n5, g5, cap5, hy, rfl, rfl, rfl, hn5, hown5, hne5, hB5, hlt5, hbl5⟩ := hrel
                  obtain ⟨_, _⟩ := blk_facts hB5
                  have HW5 := Lib.hid hown5
                  have HB5 := Lib.hid hB5
                  have hz5 := hbl5.size
                  have p5 := HP0.out wr hbl5
                  clear hown5 hB5
                  by_cases hyl : y < xn
                  · have HO := Lib.hid (HW5.out.alloc (.cells #[.int .i64 (F + j + (sl.take t).sum + y)] 3))
                    go_wp2_with (at_builtin; refine wp_appl (by rfl) (.tmp 64) (.tmp 66) 41 3 rfl _ 1 8 Try.underlying41 info_int rfl (by decide) (by decide) w.heap.size g5 cap5 n5 _ rfl HO.out wr.heap.size 0 1 1 [.int .i64 (F + j + (sl.take t).sum + y)] rfl rfl (cells_new1 _ _ _) (by simp [Value.oneCell']) (by omega) ?c2 ?_)
                    case c2 => simp; omega
                    intro g6 cap6 w6 hown6 hgr6 hat6 hlt6
                    have HW6 := Lib.hid hown6
                    have HB6 := Lib.hid (heap_appA hgr6 (below_heap (bel1 wr (.cells #[.int .i64 (F + j + (sl.take t).sum + y)] 3)) HB5.out) (by omega))
                    have hbl6 := bel_app (hbl5.alloc hz5 (.cells #[.int .i64 (F + j + (sl.take t).sum + y)] 3)) HO.out hgr6 (Nat.le_refl _) (by simp; omega)
                    have hz6 := hgr6.size
                    simp only [size_alloc'] at hz6 hat6
                    have hg5 := (HW5.out.lt g5 rfl).2
                    have hne6 : g6 ≠ wo.heap.size := by omega
                    clear hown6 hgr6 hat6 p5
                    go_wp2_with fail
                    go_roundw
                    case rel => exact ⟨y + 1, n5 + 1, g6, cap6, by omega, by go_num, by go_num, rfl, by omega, by have h := HW6.out; simp only [runL_succ, intCells_app, List.append_assoc] at h ⊢; exact h, hne6, HB6.out, by omega, hbl6⟩
                    case measure => simp [intOf]; omega
                  · have hye : y = xn := by omega
                    subst hye
                    go_wp2_with fail
                    go_roundw
                    case rel => exact ⟨t + 1, n5, g5, cap5, by omega, by go_num, by rw [HT2.out, ← Int.add_assoc], rfl, by omega, by have h := HW5.out; rw [HT.out, Int.toNat_natCast]; simp only [intCells_app, List.append_assoc] at h ⊢; exact h, hne5, HB5.out, hlt5, hbl5⟩
                    case measure => simp [intOf]; omega
        · have hte : t = tn := by omega
          subst hte
          have HTs := Lib.hid (show sl.take t = sl from List.take_of_length_le (by omega))
          go_wp2_with fail
          go_roundw
          case rel => exact ⟨k + 1, n2, g2, cap2, by omega, by go_num, by rw [HSW.out, HTs.out, Int.add_assoc], rfl, by omega, by rw [HSU2.out]; exact HW2.out, hbl2⟩
          case measure => simp [intOf]; omega
    · have hke : k = ss.length := by omega
      subst hke
      clear hA
      go_wp2_with fail
      go_ret
      exact ⟨g, n, cap, rfl, by rw [HPd.out]; exact HW.out, by omega, hbl⟩
end Go.Proofs.Ytlhekgjckjcbhaa
