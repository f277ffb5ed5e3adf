/- PlayedOrder of the program. Conditions: none. -/
import Derived.Test.YtlhekgjckjcbhaaS10
namespace Go.Proofs.Ytlhekgjckjcbhaa
open Go.RowKit
set_option linter.unusedSimpArgs false
set_option linter.unusedVariables false
set_option maxHeartbeats 8000000

theorem timesL_succ (F : Int) (s : SD) (t : Nat) : timesL F s (t + 1) = timesL F s t ++ (runL F s.bars.toNat ++ endL F s t) := rfl
theorem endL_none {F : Int} {b t : Int} {l : List Int} {k : Nat} (h : l.length ≤ k) : endL F ⟨b, t, l⟩ k = [] := by
  unfold endL
  dsimp only
  rw [List.getElem?_eq_none h]
theorem endL_some {F : Int} {b t : Int} {l : List Int} {k : Nat} (h : k < l.length) : endL F ⟨b, t, l⟩ k = runL (F + b + (l.take k).sum) l[k].toNat := by
  unfold endL
  dsimp only
  rw [List.getElem?_eq_getElem h]
theorem playedUp_succ {ds : List SD} {k : Nat} {s : SD} (h : ds[k]? = some s) : playedUp ds (k + 1) = playedUp ds k ++ timesL (writtenS (ds.take k)) s s.times.toNat := by
  simp only [playedUp, h]
theorem c_PlayedOrder_no (v : Value) (ss : List Sec) (w : World) (h : RdS w v ss) (hv : secsOk (ss.map Sec.d) = false) :
    Calls Try.prog 36 #[v] w fun e w' => e = .returned (.slice none 0 0) ∧ Below w.heap.size w w' := by
  have h' := Lib.hid h
  obtain ⟨⟨_, A, c, rfl, -, -, -⟩, -⟩ := h
  have HV := Lib.hid hv
  clear hv
  go_enter Try.func36, Try.ntmps36
  go_wp2_with (go_at_call 60; (with_reducible refine (c_SectionsValid _ ss _ h'.out).mono ?_); rintro e wq ⟨rfl, hbq⟩; rw [HV.out])
  go_ret
  exact ⟨rfl, hbq⟩
def OrderMade (xs : List Int) (w : World) (e : Ending) (w' : World) : Prop :=
  ∃ g n cap, e = .returned (.slice (some ⟨g, 0, none⟩) n cap) ∧ w'.ownsRow w.heap.size 3 1 (.slice (some ⟨g, 0, none⟩) n cap) n (intCells xs) ∧ n ≤ 4000 ∧ Below w.heap.size w w'
theorem c_PlayedOrder (v : Value) (ss : List Sec) (w : World) (h : RdS w v ss) (hv : secsOk (ss.map Sec.d) = true) :
    Calls Try.prog 36 #[v] w (OrderMade (playedB (ss.map Sec.d)) w) := by
  have h' := Lib.hid h
  obtain ⟨⟨_, A, c, rfl, hnc, hcm, hA⟩, hg⟩ := h
  unfold maxLen at hcm
  have HG := Lib.hid hg
  clear hg
  have HV := Lib.hid hv
  obtain ⟨h8, hall⟩ := secsOk_map.1 hv
  have HO := Lib.hid hall
  have HB := Lib.hid (fun k (hk : k ≤ (ss.map Sec.d).length) => writtenS_bd (ss.map Sec.d) (secsOk_iff.1 hv).2 k hk)
  have HS := Lib.hid (fun k (hk : k < (ss.map Sec.d).length) => writtenS_succ (ss.map Sec.d) k hk)
  have HP := Lib.hid (show playedB (ss.map Sec.d) = playedUp (ss.map Sec.d) ss.length by unfold playedB; rw [if_pos hv, List.length_map])
  have HE := Lib.hid (fun k (hk : k < ss.length) => show (ss.map Sec.d)[k]? = some ss[k].d by simp [hk])
  have HLn := Lib.hid (show (ss.map Sec.d).length = ss.length by simp)
  clear hall hv
  go_enter Try.func36, Try.ntmps36
  go_wp2_with fail
  (go_at_call 60; (with_reducible refine (c_SectionsValid _ ss _ h'.out).mono ?_); rintro e wq ⟨rfl, hbq⟩; rw [HV.out])
  have hzq := hbq.size
  obtain ⟨ds, hds⟩ : ∃ ds, ds = ss.map Sec.d := ⟨_, rfl⟩
  have HPd := Lib.hid (show playedB (ss.map Sec.d) = playedUp ds ss.length by rw [hds]; exact HP.out)
  rw [← hds] at HV HB HS HE HLn
  clear hds HP HV
  go_wp2_with fail
  go_loopw [3, 4, 15] (fun o f i wr => ∃ (k n g cap : Nat), k ≤ ss.length ∧ i = .int .i64 k ∧ f = .int .i64 (writtenS (ds.take k)) ∧ o = .slice (some ⟨g, 0, none⟩) n cap ∧ n ≤ 96 * k ∧
      wr.ownsRow w.heap.size 3 1 (.slice (some ⟨g, 0, none⟩) n cap) n (intCells (playedUp ds k)) ∧ Below w.heap.size w wr) (fun _ _ i _ => ss.length - (intOf i).toNat)
  case atStart => exact ⟨0, 0, _, _, Nat.zero_le _, rfl, rfl, rfl, by omega, own_monoA (own_new wq 3 1) hzq, hbq.alloc hzq _⟩
  case round =>
    obtain ⟨k, n, g, cap, hk, rfl, rfl, rfl, hn, hown, hbl⟩ := hrel
    have hz := hbl.size
    obtain ⟨s1, s2⟩ := HB.out k (by rw [HLn.out]; exact hk)
    have hgr := (hown.lt g rfl).2
    have HW := Lib.hid hown
    clear hown
    by_cases hlt : k < ss.length
    · obtain ⟨b, off, rfl, hcc⟩ := hA (by omega)
      obtain ⟨c0, c1, c2⟩ := sec_at (rd_later hbl hcc) k hlt
      have hX := HG.out _ (List.getElem_mem hlt)
      have hok := HO.out k hlt
      have HSs := HS.out k (by rw [HLn.out]; exact hlt)
      have HEk := HE.out k hlt
      have e1 : ds[k]'(by rw [HLn.out]; exact hlt) = ss[k].d := by
        have := List.getElem?_eq_getElem (l := ds) (i := k) (by rw [HLn.out]; exact hlt)
        rw [HEk] at this
        exact (Option.some.inj this).symm
      rw [e1] at HSs
      clear e1
      generalize ss[k] = s at *
      obtain ⟨sb, st, sv, sl⟩ := s
      change Rd w sv 1 sl.length (intCells sl) at hX
      dsimp only at c0 c1 c2
      have HX := Lib.hid hX
      obtain ⟨_, A1, cc1, rfl, hnc1, hcm1, hA1⟩ := hX
      unfold maxLen at hcm1
      have hl4 : sl.length ≤ 4 := SD.len_bd hok
      obtain ⟨⟨g1, g2⟩, ⟨g3, g4⟩, g5, g6⟩ := SD.ok_iff.1 hok
      change 0 ≤ sb at g1
      change sb ≤ 12 at g2
      change 1 ≤ st at g3
      change st ≤ 4 at g4
      change sl.length = 0 ∨ (sl.length : Int) = st at g5
      have G6 := Lib.hid (show ∀ x ∈ sl, 0 ≤ x ∧ x ≤ 12 from g6)
      have HSU := Lib.hid (playedUp_succ HEk)
      have HSW := Lib.hid (show writtenS (ds.take (k + 1)) = writtenS (ds.take k) + (sb + sl.sum) from HSs)
      have HA1 := Lib.hid hA1
      obtain ⟨bn, rfl⟩ := Int.eq_ofNat_of_zero_le g1
      obtain ⟨tn, rfl⟩ := Int.eq_ofNat_of_zero_le (show 0 ≤ st by omega)
      have HSU2 := Lib.hid (show playedUp ds (k + 1) = playedUp ds k ++ timesL (writtenS (ds.take k)) ⟨bn, tn, sl⟩ tn from HSU.out)
      have hg5 : sl.length = 0 ∨ sl.length = tn := by omega
      clear HSU g5 g6 hA1 HSs HEk hok hA hcc
      generalize writtenS (ds.take k) = F at *
      obtain ⟨wo, rfl⟩ : ∃ wo : World, wo = wr := ⟨_, rfl⟩
      go_wp2_with fail
      go_loopw [3, 7, 25] (fun o f i wr => ∃ (t n g cap : Nat), t ≤ tn ∧ i = .int .i64 t ∧ f = .int .i64 (F + bn + (sl.take t).sum) ∧ o = .slice (some ⟨g, 0, none⟩) n cap ∧ n ≤ 96 * k + 24 * t ∧
        wr.ownsRow w.heap.size 3 1 (.slice (some ⟨g, 0, none⟩) n cap) n (intCells (playedUp ds k ++ timesL F ⟨bn, tn, sl⟩ t)) ∧ g ≠ wo.heap.size ∧ wr.heap[wo.heap.size]? = some (.cells #[.int .i64 bn, .int .i64 tn, .slice A1 sl.length cc1] 43 (0, 0)) ∧
        wo.heap.size < wr.heap.size ∧ Below w.heap.size w wr) (fun _ _ i _ => tn - (intOf i).toNat)
      case atStart => exact ⟨0, n, g, cap, Nat.zero_le _, rfl, by simp, rfl, by omega, by rw [show timesL F ⟨bn, tn, sl⟩ 0 = [] from rfl, List.append_nil]; exact HW.out.alloc _, by omega, heap_alloc_new _ _, by simp, hbl.alloc hz _⟩
      case round =>
        obtain ⟨t, n2, g2, cap2, ht, rfl, rfl, rfl, hn2, hown2, hne2, hB2, hlt2, hbl2⟩ := hrel
        obtain ⟨r1, r2⟩ := sum_take_bd sl G6.out t
        obtain ⟨_, _⟩ := blk_facts hB2
        have HW2 := Lib.hid hown2
        have HB2 := Lib.hid hB2
        have hz2 := hbl2.size
        clear hown2 hB2
        by_cases htl : t < tn
        · go_wp2_with fail
          (go_at_call 67; (with_reducible refine (c_run F bn _ (by omega) (by omega)).mono ?_); rintro e w3 ⟨g3, cap3, rfl, hown3, hb3⟩)
          have hz3 := hb3.size
          have HW3 := Lib.hid (own_belA HW2.out hb3)
          have HB3 := Lib.hid (below_heap hb3 HB2.out)
          have hbl3 := hbl2.trans (hb3.mono hz2)
          have HR3 := Lib.hid (own_cells hown3)
          clear hown3
          go_wp2_with (at_builtin; refine wp_appl (by rfl) (.tmp 28) (.tmp 32) 41 3 rfl _ 1 8 Try.underlying41 info_int rfl (by decide) (by decide) w.heap.size g2 cap2 n2 _ rfl HW3.out g3 0 cap3 bn (intCells (runL F bn)) rfl (by rw [intCells_lenA, runL_len]; omega) HR3.out (intCells_one _) (by omega) (by omega) ?_)
          intro g4 cap4 w4 hown4 hgr4 hat4 hlt4
          have hz4 := hgr4.size
          have HW4 := Lib.hid hown4
          have hB4 := heap_appA hgr4 HB3.out (by omega)
          have HB4 := Lib.hid hB4
          have hbl4 := bel_app hbl3 HW3.out hgr4 (Nat.le_refl _) (by omega)
          have hne4 : g4 ≠ wo.heap.size := by omega
          obtain ⟨_, _⟩ := blk_facts hB4
          clear hown4 hgr4 hat4 hB4
          by_cases hs0 : sl.length = 0
          · have HT := Lib.hid (show timesL F ⟨bn, tn, sl⟩ (t + 1) = timesL F ⟨bn, tn, sl⟩ t ++ runL F bn by rw [timesL_succ, endL_none (by omega), List.append_nil]; rfl)
            have HT2 := Lib.hid (show (sl.take (t + 1)).sum = (sl.take t).sum by rw [List.take_of_length_le (by omega), List.take_of_length_le (by omega)])
            go_wp2_with fail
            go_roundw
            case rel => exact ⟨t + 1, n2 + bn, g4, cap4, by omega, by go_num, by rw [HT2.out], rfl, by omega, by rw [HT.out, ← List.append_assoc, intCells_app _ (runL F bn)]; exact HW4.out, hne4, HB4.out, by omega, hbl4⟩
            case measure => simp [intOf]; omega
          · have htn : t < sl.length := by omega
            obtain ⟨b2, off2, rfl, hcc2⟩ := HA1.out (by omega)
            have HC2 := Lib.hid hcc2
            have p0 := int_at (rd_later hbl4 hcc2) t htn
            obtain ⟨x1, x2⟩ := G6.out _ (List.getElem_mem htn)
            have HT2 := Lib.hid (sum_take_succ sl t htn)
            have HT := Lib.hid (show timesL F ⟨bn, tn, sl⟩ (t + 1) = timesL F ⟨bn, tn, sl⟩ t ++ (runL F bn ++ runL (F + bn + (sl.take t).sum) sl[t].toNat) by rw [timesL_succ, endL_some htn]; rfl)
            have HP0 := Lib.hid (fun (wz : World) (hz : Below w.heap.size w wz) => int_at (rd_later hz hcc2) t htn)
            generalize sl[t] = x at *
            obtain ⟨xn, rfl⟩ := Int.eq_ofNat_of_zero_le x1
            have hS0 : 0 < sl.length := by omega
            clear hcc2
            go_wp2_with fail
            (go_at_call 67; (with_reducible refine (c_run (F + bn + (sl.take t).sum) xn _ (by omega) (by omega)).mono ?_); rintro e w5 ⟨g5, cap5, rfl, hown5, hb5⟩)
            have hz5 := hb5.size
            have HW5 := Lib.hid (own_belA HW4.out hb5)
            have HB5 := Lib.hid (below_heap hb5 HB4.out)
            have hbl5 := hbl4.trans (hb5.mono (by omega))
            have HR5 := Lib.hid (own_cells hown5)
            clear hown5
            go_wp2_with (at_builtin; refine wp_appl (by rfl) (.tmp 38) (.tmp 45) 41 3 rfl _ 1 8 Try.underlying41 info_int rfl (by decide) (by decide) w.heap.size g4 cap4 (n2 + bn) _ rfl HW5.out g5 0 cap5 xn (intCells (runL (F + bn + (sl.take t).sum) xn)) rfl (by rw [intCells_lenA, runL_len]; omega) HR5.out (intCells_one _) (by omega) (by omega) ?_)
            intro g6 cap6 w6 hown6 hgr6 hat6 hlt6
            have hz6 := hgr6.size
            have HW6 := Lib.hid hown6
            have hB6 := heap_appA hgr6 HB5.out (by omega)
            have HB6 := Lib.hid hB6
            have hbl6 := bel_app hbl5 HW5.out hgr6 (Nat.le_refl _) (by omega)
            have hne6 : g6 ≠ wo.heap.size := by omega
            have p6 := HP0.out w6 hbl6
            obtain ⟨_, _⟩ := blk_facts hB6
            clear hown6 hgr6 hat6 hB6 p0
            go_wp2_with fail
            go_roundw
            case rel => exact ⟨t + 1, n2 + bn + xn, g6, cap6, by omega, by go_num, by rw [HT2.out, ← Int.add_assoc], rfl, by omega, by rw [HT.out, Int.toNat_natCast, ← List.append_assoc, intCells_app (_ ++ _) (_ ++ _), intCells_app (runL _ _)]; exact HW6.out, hne6, HB6.out, by omega, hbl6⟩
            case measure => simp [intOf]; omega
        · have hte : t = tn := by omega
          subst hte
          have HTs := Lib.hid (show sl.take t = sl from List.take_of_length_le (by omega))
          obtain ⟨w1, w2⟩ := sum_bd sl G6.out
          go_wp2_with fail
          (go_at_call 68; (with_reducible refine (c_written bn t _ sl _ (Rd.below HX.out (Nat.le_refl _) hbl2) ⟨by omega, by omega⟩ hl4 G6.out).mono ?_); rintro e w7 ⟨rfl, hb7⟩)
          have HW7 := Lib.hid (own_belA HW2.out hb7)
          have hbl7 := hbl2.trans (hb7.mono hz2)
          go_wp2_with fail
          go_roundw
          case rel => exact ⟨k + 1, n2, g2, cap2, by omega, by go_num, by rw [HSW.out], rfl, by omega, by rw [HSU2.out]; exact HW7.out, hbl7⟩
          case measure => simp [intOf]; omega
    · have hke : k = ss.length := by omega
      subst hke
      clear hA
      go_wp2_with fail
      go_ret
      exact ⟨g, n, cap, rfl, by rw [HPd.out]; exact HW.out, by omega, hbl⟩
end Go.Proofs.Ytlhekgjckjcbhaa
