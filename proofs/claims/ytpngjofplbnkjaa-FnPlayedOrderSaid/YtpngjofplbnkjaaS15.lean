/- How often bars are played: plain; the walk of FnPlayedOrder. Conditions: none beyond the law's own. -/
import Derived.Test.YtpngjofplbnkjaaS14
namespace Go.Proofs.Ytpngjofplbnkjaa
open Go.RowKit
set_option linter.unusedSimpArgs false
set_option linter.unusedVariables false
set_option maxHeartbeats 16000000

theorem count_runL (a x : Int) (n : Nat) : (runL a n).count x = if a ≤ x ∧ x < a + n then 1 else 0 := by
  induction n with
  | zero => simp [runL]
  | succ n ih =>
    rw [runL_succ, List.count_append, ih, List.count_cons, List.count_nil]
    by_cases h1 : a + (n : Int) = x
    · subst h1
      simp
      omega
    · have : (a + (n : Int) == x) = false := by simpa using h1
      rw [this]
      push_cast
      split <;> split <;> simp_all <;> omega
theorem count_endL {F : Int} {s : SD} (x : Int) (t : Nat) : (endL F s t).count x = if ∃ h : t < s.l.length, F + s.bars + (s.l.take t).sum ≤ x ∧ x < F + s.bars + (s.l.take t).sum + (s.l[t].toNat : Int) then 1 else 0 := by
  unfold endL
  by_cases h : t < s.l.length
  · rw [List.getElem?_eq_getElem h]
    dsimp only
    rw [count_runL]
    congr 1
    simp [h]
  · rw [List.getElem?_eq_none (by omega)]
    rw [if_neg (fun ⟨h', _⟩ => h h')]
    rfl
/-- A bar of the section itself: once a time. -/
theorem count_bars {F : Int} {s : SD} (h : s.ok = true) (x : Int) (h0 : F ≤ x) (h1 : x < F + s.bars) : ∀ t, (timesL F s t).count x = t := by
  obtain ⟨⟨b1, b2⟩, _, hl, hx⟩ := SD.ok_iff.1 h
  intro t
  induction t with
  | zero => rfl
  | succ t ih =>
    have hs := sum_take_bd s.l hx t
    rw [timesL_succ, List.count_append, List.count_append, ih, count_runL, count_endL, if_pos ⟨h0, by omega⟩, if_neg (fun ⟨_, h2, _⟩ => by omega)]
theorem sum_take_mono (l : List Int) (h : ∀ x ∈ l, 0 ≤ x ∧ x ≤ 12) (a : Nat) : ∀ d, (l.take a).sum ≤ (l.take (a + d)).sum := by
  intro d
  induction d with
  | zero => exact Int.le_refl _
  | succ d ih =>
    by_cases hlt : a + d < l.length
    · have := (h _ (List.getElem_mem hlt)).1
      rw [← Nat.add_assoc, sum_take_succ l (a + d) hlt]
      omega
    · rw [show l.take (a + (d + 1)) = l.take (a + d) by rw [List.take_of_length_le (by omega), List.take_of_length_le (by omega)]]
      exact ih
/-- A bar of an ending: once. -/
theorem count_ends {F : Int} {s : SD} (h : s.ok = true) (u : Nat) (hu : u < s.l.length) (x : Int) (h0 : F + s.bars + (s.l.take u).sum ≤ x) (h1 : x < F + s.bars + (s.l.take u).sum + s.l[u]) :
    ∀ t, (timesL F s t).count x = if u < t then 1 else 0 := by
  obtain ⟨⟨b1, b2⟩, _, hl, hx⟩ := SD.ok_iff.1 h
  have hsu := sum_take_bd s.l hx u
  intro t
  induction t with
  | zero => rfl
  | succ t ih =>
    rw [timesL_succ, List.count_append, List.count_append, ih, count_runL, count_endL, if_neg (show ¬ (F ≤ x ∧ x < F + (s.bars.toNat : Int)) by omega)]
    by_cases hut : u = t
    · subst hut
      have := (hx _ (List.getElem_mem hu)).1
      rw [if_neg (by omega), if_pos ⟨hu, h0, by omega⟩, if_pos (by omega)]
    · have hno : ¬ ∃ ht : t < s.l.length, F + s.bars + (s.l.take t).sum ≤ x ∧ x < F + s.bars + (s.l.take t).sum + (s.l[t].toNat : Int) := by
        rintro ⟨ht, h2, h3⟩
        have hyt := (hx _ (List.getElem_mem ht)).1
        rcases Nat.lt_or_ge u t with h4 | h4
        · obtain ⟨d, rfl⟩ : ∃ d, t = u + 1 + d := ⟨t - (u + 1), by omega⟩
          have h5 := sum_take_mono s.l hx (u + 1) d
          rw [sum_take_succ s.l u hu] at h5
          omega
        · obtain ⟨d, rfl⟩ : ∃ d, u = t + 1 + d := ⟨u - (t + 1), by omega⟩
          have h5 := sum_take_mono s.l hx (t + 1) d
          rw [sum_take_succ s.l t ht] at h5
          omega
      rw [if_neg hno]
      by_cases hlt : u < t
      · rw [if_pos hlt, if_pos (by omega)]
      · rw [if_neg hlt, if_neg (by omega)]
theorem count_far {F : Int} {s : SD} (h : s.ok = true) (x : Int) (hx : x < F ∨ F + s.written ≤ x) : (timesL F s s.times.toNat).count x = 0 := by
  obtain ⟨⟨b1, b2⟩, ⟨t1, t2⟩, hl, hh⟩ := SD.ok_iff.1 h
  rw [List.count_eq_zero]
  intro hm
  have hs := sum_bd s.l hh
  rw [mem_timesL h x _ (by omega), take_times h] at hm
  unfold SD.written at hx
  omega
theorem writtenS_mono {ds : List SD} (h : ∀ i (hi : i < ds.length), ds[i].ok = true) (a : Nat) : ∀ d, a + d ≤ ds.length → writtenS (ds.take a) ≤ writtenS (ds.take (a + d)) := by
  intro d
  induction d with
  | zero => intro _; exact Int.le_refl _
  | succ d ih =>
    intro hd
    have h1 := ih (by omega)
    have h2 := (SD.written_bd (h (a + d) (by omega))).1
    rw [← Nat.add_assoc, writtenS_succ ds (a + d) (by omega)]
    omega
theorem count_played {ds : List SD} (h : ∀ i (hi : i < ds.length), ds[i].ok = true) (k : Nat) (hk : k < ds.length) (x : Int) (h0 : writtenS (ds.take k) ≤ x) (h1 : x < writtenS (ds.take k) + ds[k].written) :
    ∀ m, m ≤ ds.length → (playedUp ds m).count x = if k < m then (timesL (writtenS (ds.take k)) ds[k] ds[k].times.toNat).count x else 0 := by
  intro m
  induction m with
  | zero => intro _; rfl
  | succ m ih =>
    intro hm
    rw [playedUp_succ (List.getElem?_eq_getElem (show m < ds.length by omega)), List.count_append, ih (by omega)]
    by_cases hkm : k = m
    · subst hkm
      rw [if_neg (by omega), if_pos (by omega), Nat.zero_add]
    · rw [count_far (h m (by omega)) x]
      · by_cases hlt : k < m
        · rw [if_pos hlt, if_pos (by omega), Nat.add_zero]
        · rw [if_neg hlt, if_neg (by omega)]
      · rcases Nat.lt_or_ge k m with h4 | h4
        · left
          obtain ⟨d, rfl⟩ : ∃ d, m = k + 1 + d := ⟨m - (k + 1), by omega⟩
          have h5 := writtenS_mono h (k + 1) d (by omega)
          rw [writtenS_succ ds k hk] at h5
          omega
        · right
          obtain ⟨d, rfl⟩ : ∃ d, k = m + 1 + d := ⟨k - (m + 1), by omega⟩
          have h5 := writtenS_mono h (m + 1) d (by omega)
          rw [writtenS_succ ds m (by omega)] at h5
          omega
theorem times_of {ds : List SD} (hv : secsOk ds = true) (k : Nat) (hk : k < ds.length) :
    (∀ b : Int, 0 ≤ b → b < ds[k].bars → (playedB ds).count (writtenS (ds.take k) + b) = ds[k].times.toNat) ∧
    (∀ (u : Nat) (hu : u < ds[k].l.length) (b : Int), 0 ≤ b → b < ds[k].l[u] → (playedB ds).count (writtenS (ds.take k) + ds[k].bars + (ds[k].l.take u).sum + b) = 1) := by
  obtain ⟨_, hok⟩ := secsOk_iff.1 hv
  have h := hok k hk
  obtain ⟨⟨b1, b2⟩, ⟨t1, t2⟩, hl, hh⟩ := SD.ok_iff.1 h
  have hs := sum_bd ds[k].l hh
  unfold playedB
  rw [if_pos hv]
  refine ⟨fun b h0 h1 => ?_, fun u hu b h0 h1 => ?_⟩
  · rw [count_played hok k hk _ (by omega) (by unfold SD.written; omega) _ (Nat.le_refl _), if_pos hk, count_bars h _ (by omega) (by omega)]
  · have h2 := sum_take_bd ds[k].l hh u
    have h3 := sum_take_mono ds[k].l hh (u + 1) (ds[k].l.length - (u + 1))
    rw [sum_take_succ _ u hu, show u + 1 + (ds[k].l.length - (u + 1)) = ds[k].l.length by omega, List.take_length] at h3
    rw [count_played hok k hk _ (by omega) (by unfold SD.written; omega) _ (Nat.le_refl _), if_pos hk, count_ends h u hu _ (by omega) (by omega), if_pos (by omega)]
theorem count_take_succ (X : List Int) (y : Int) (j : Nat) (hj : j < X.length) : (X.take (j + 1)).count y = (X.take j).count y + if (X[j] == y) = true then 1 else 0 := by
  rw [List.take_succ_eq_append_getElem hj, List.count_append, List.count_cons, List.count_nil, Nat.zero_add]
theorem count_take_le (X : List Int) (y : Int) (j : Nat) : (X.take j).count y ≤ j := Nat.le_trans List.count_le_length (List.length_take_le _ _)
set_option maxRecDepth 100000 in
theorem walk_FnPlayedOrder (w : World) (v : Value) (bs : List Int) (h : Rd w v 1 bs.length (byteCells bs)) (hb : ∀ x ∈ bs, 0 ≤ x ∧ x ≤ 255) :
    Calls Try.prog 13 #[v] w fun e w' => e = .returned (.bool true) ∧ Below w.heap.size w w' := by
  have h' := Lib.hid h
  obtain ⟨_, A, c, rfl, hnc, hcm, hA⟩ := h
  unfold maxLen at hcm
  clear hA
  by_cases hlen : bs.length ≤ 1048576
  · go_enter Try.func13, Try.ntmps13
    go_wp2_with fail
    (go_at_call 43; (with_reducible refine (c_DrawPlayedOrder _ bs _ h'.out hb).mono ?_); rintro e w1 ⟨v1, ss, rfl, hso, hl9, hl8, S2⟩)
    obtain ⟨⟨ga, ca, rfl⟩, -⟩ := id hso
    have HA1 := Lib.hid hso.rd
    clear hso
    go_wp2_with fail
    (go_at_call 42; (with_reducible refine (c_PlayedOrder_any _ ss _ HA1.out).mono ?_); rintro e w3 ⟨vx, rfl, hx3, hxl, -, hb3⟩; have S2 := (S2.trans (hb3.mono S2.size)))
    have HA3 := Lib.hid (HA1.out.later hb3)
    have HX3 := Lib.hid hx3
    clear hx3
    go_wp2_with fail
    (go_at_call 45; (with_reducible refine (c_sPlayedOrder_any _ ss _ HA3.out).mono ?_); rintro e w4 ⟨vy, rfl, hy4, hyl, -, hb4⟩; have S2 := (S2.trans (hb4.mono S2.size)))
    have HA4 := Lib.hid (HA3.out.later hb4)
    have HX4 := Lib.hid (HX3.out.below (Nat.le_refl _) hb4)
    have HY4 := Lib.hid hy4
    clear hy4
    go_wp2_with fail
    (go_at_call 44; (with_reducible refine (c_sameInts_eq _ _ _ _ HX4.out HY4.out).mono ?_); rintro e w5 ⟨rfl, hb5⟩; have S2 := (S2.trans (hb5.mono S2.size)))
    have HA5 := Lib.hid (HA4.out.later hb5)
    have HX5 := Lib.hid (HX4.out.below (Nat.le_refl _) hb5)
    go_wp2_with fail
    (go_at_call 35; (with_reducible refine (c_sSectionsValid _ ss _ HA5.out).mono ?_); rintro e w6 ⟨rfl, hb6⟩; have S2 := (S2.trans (hb6.mono S2.size)))
    have HA6 := Lib.hid (HA5.out.later hb6)
    have HX6 := Lib.hid (HX5.out.below (Nat.le_refl _) hb6)
    have hz6 := S2.size
    obtain ⟨_, Ax, cx, rfl, hx1, hx2, hx3⟩ := HX6.out
    unfold maxLen at hx2
    have HX3 := Lib.hid hx3
    clear hx3
    cases hv : secsOk (ss.map Sec.d)
    · have HN := Lib.hid (playedB_no hv)
      rw [HN.out]
      clear hv
      go_wp2_with (go_at_call 25; (with_reducible refine (c_alive _).mono ?_); rintro e wq ⟨rfl, hbq⟩; have hzq := hbq.size; (try simp only [size_alloc', size_setCell', size_drew', size_drewN'] at hzq); (try (refine keep_heap (b := w.heap.size) hbq ?_ ?_; (first | omega | (simp only [size_alloc', size_setCell', size_drew', size_drewN']; omega)); intro hkq; simp only [heap_alloc_get, heap_setCell_get, heap_drew_get, heap_drewN_get, size_alloc', size_setCell', size_drew', size_drewN', nat_simp1, nat_simp2, nat_simp3, nat_simp4, nat_simp5, if_true, if_false, *] at hkq; obtain ⟨_, _⟩ := blk_facts hkq)); skip)
      go_ret
      exact ⟨rfl, S2.trans (hbq.mono hz6)⟩
    · have HT := Lib.hid (fun k (hk : k < ss.length) => show (∀ b : Int, 0 ≤ b → b < ss[k].bars → (playedB (ss.map Sec.d)).count (writtenS ((ss.map Sec.d).take k) + b) = ss[k].times.toNat) ∧
          (∀ (u : Nat) (hu : u < ss[k].l.length) (b : Int), 0 ≤ b → b < ss[k].l[u] → (playedB (ss.map Sec.d)).count (writtenS ((ss.map Sec.d).take k) + ss[k].bars + (ss[k].l.take u).sum + b) = 1) by
        have h1 := times_of hv k (by simpa using hk)
        simp only [List.getElem_map] at h1
        exact h1)
      have HB := Lib.hid (fun k (hk : k ≤ (ss.map Sec.d).length) => writtenS_bd (ss.map Sec.d) (secsOk_iff.1 hv).2 k hk)
      have HS := Lib.hid (fun k (hk : k < (ss.map Sec.d).length) => writtenS_succ (ss.map Sec.d) k hk)
      have HE := Lib.hid (fun k (hk : k < ss.length) => show (ss.map Sec.d)[k]'(by simpa using hk) = ss[k].d by simp)
      have HOK := Lib.hid (secsOk_map.1 hv).2
      have HLn := Lib.hid (show (ss.map Sec.d).length = ss.length by simp)
      obtain ⟨⟨-, -⟩, hg⟩ := id HA6.out
      have HG := Lib.hid hg
      have HCs := Lib.hid HA6.out.cells
      clear hv hg
      generalize playedB (ss.map Sec.d) = X at *
      obtain ⟨ds, hds⟩ : ∃ ds, ds = ss.map Sec.d := ⟨_, rfl⟩
      rw [← hds] at HB HS HLn HT
      have HE2 := Lib.hid (fun k (hk : k < ss.length) => show ds[k]'(by rw [HLn.out]; exact hk) = ss[k].d by simp [hds])
      clear HE
      clear hds
      go_wp2_with fail
      go_loop [5, 6] (fun a i => ∃ k : Nat, k ≤ ss.length ∧ i = .int .i64 k ∧ a = .int .i64 (writtenS (ds.take k))) (fun _ i => ss.length - (intOf i).toNat)
      case atStart => exact ⟨0, Nat.zero_le _, rfl, rfl⟩
      case round =>
        obtain ⟨k, hk, rfl, rfl⟩ := hrel
        obtain ⟨f1, f2⟩ := HB.out k (by rw [HLn.out]; exact hk)
        by_cases hlt : k < ss.length
        · obtain ⟨c0, c1, c2⟩ := sec_at (off := 0) HCs.out k hlt
          rw [Nat.zero_add] at c0 c1 c2
          have hX := HG.out _ (List.getElem_mem hlt)
          have hok := HOK.out k hlt
          obtain ⟨hT1, hT2⟩ := HT.out k hlt
          have HSs := HS.out k (by rw [HLn.out]; exact hlt)
          rw [HE2.out k hlt] at HSs
          generalize ss[k] = s at *
          obtain ⟨sb, st, sv, sl⟩ := s
          change Rd w6 sv 1 sl.length (intCells sl) at hX
          dsimp only at c0 c1 c2 hT1 hT2
          have HT1 := Lib.hid hT1
          have HT2 := Lib.hid hT2
          obtain ⟨_, A1, cc1, rfl, hnc1, hcm1, hA1⟩ := hX
          unfold maxLen at hcm1
          have HA1 := Lib.hid hA1
          have hl4 : sl.length ≤ 4 := SD.len_bd hok
          obtain ⟨⟨g1, g2⟩, ⟨g3, g4⟩, g5, g6⟩ := SD.ok_iff.1 hok
          change 0 ≤ sb at g1
          change sb ≤ 12 at g2
          change 1 ≤ st at g3
          change st ≤ 4 at g4
          have G6 := Lib.hid (show ∀ x ∈ sl, 0 ≤ x ∧ x ≤ 12 from g6)
          have HSW := Lib.hid (show writtenS (ds.take (k + 1)) = writtenS (ds.take k) + (sb + sl.sum) from HSs)
          obtain ⟨bn, rfl⟩ := Int.eq_ofNat_of_zero_le g1
          obtain ⟨tn, rfl⟩ := Int.eq_ofNat_of_zero_le (show 0 ≤ st by omega)
          clear hT1 hT2 hA1 hok g5 g6 HSs
          generalize writtenS (ds.take k) = F at *
          go_wp2_with fail
          go_loop [7] (fun b => ∃ q : Nat, q ≤ bn ∧ b = .int .i64 q) (fun b => bn - (intOf b).toNat)
          case atStart => exact ⟨0, Nat.zero_le _, rfl⟩
          case round =>
            obtain ⟨q, hq, rfl⟩ := hrel
            by_cases hql : q < bn
            · have HCt := Lib.hid (show X.count (F + q) = tn by have := HT1.out q (by omega) (by omega); simpa using this)
              go_wp2_with fail
              go_loop [8, 9] (fun m i => ∃ j : Nat, j ≤ X.length ∧ i = .int .i64 j ∧ m = .int .i64 ((X.take j).count (F + (q:Int)) : Nat)) (fun _ i => X.length - (intOf i).toNat)
              case atStart => exact ⟨0, Nat.zero_le _, rfl, rfl⟩
              case round =>
                obtain ⟨j, hj, rfl, rfl⟩ := hrel
                have hcl := count_take_le X (F + (q:Int)) j
                by_cases hjl : j < X.length
                · obtain ⟨xb, xo, rfl, hcx⟩ := HX3.out (by omega)
                  have p0 := int_at hcx j hjl
                  have HC := Lib.hid (count_take_succ X (F + (q:Int)) j hjl)
                  generalize X[j] = x at *
                  clear hcx
                  by_cases hxy : x = (F + (q:Int))
                  · have HC1 := Lib.hid (show (X.take (j + 1)).count (F + (q:Int)) = (X.take j).count (F + (q:Int)) + 1 by rw [HC.out, if_pos (by simpa using hxy)])
                    have he : (x == (F + (q:Int))) = true := by simpa using hxy
                    clear hxy
                    go_wp2_with fail
                    go_round
                    case rel => exact ⟨j + 1, by omega, by go_num, by rw [HC1.out]; go_num⟩
                    case measure => simp [intOf]; omega
                  · have he : (x == (F + (q:Int))) = false := by simpa using hxy
                    have HC1 := Lib.hid (show (X.take (j + 1)).count (F + (q:Int)) = (X.take j).count (F + (q:Int)) by rw [HC.out, he]; rfl)
                    clear hxy
                    go_wp2_with fail
                    go_round
                    case rel => exact ⟨j + 1, by omega, by go_num, by rw [HC1.out]⟩
                    case measure => simp [intOf]; omega
                · have hje : X.take j = X := List.take_of_length_le (by omega)
                  have HF := Lib.hid (show (X.take j).count (F + (q : Int)) = tn by rw [hje]; exact HCt.out)
                  clear hje hcl
                  rw [HF.out]
                  go_wp2_with fail
                  go_round
                  case rel => exact ⟨q + 1, by omega, by go_num⟩
                  case measure => simp [intOf]; omega
            · have hqe : q = bn := by omega
              subst hqe
              go_wp2_with fail
              go_loop [5, 10] (fun a i => ∃ e : Nat, e ≤ sl.length ∧ i = .int .i64 e ∧ a = .int .i64 (F + q + (sl.take e).sum)) (fun _ i => sl.length - (intOf i).toNat)
              case atStart => exact ⟨0, Nat.zero_le _, rfl, by simp⟩
              case round =>
                obtain ⟨e, he, rfl, rfl⟩ := hrel
                obtain ⟨r1, r2⟩ := sum_take_bd sl G6.out e
                by_cases hel : e < sl.length
                · obtain ⟨b2, off2, rfl, hcc2⟩ := HA1.out (by omega)
                  have pe := int_at hcc2 e hel
                  obtain ⟨x1, x2⟩ := G6.out _ (List.getElem_mem hel)
                  have HS2 := Lib.hid (sum_take_succ sl e hel)
                  have HCe := Lib.hid (HT2.out e hel)
                  generalize sl[e] = z at *
                  obtain ⟨zn, rfl⟩ := Int.eq_ofNat_of_zero_le x1
                  clear hcc2
                  go_wp2_with fail
                  go_loop [5, 11] (fun a i => ∃ y : Nat, y ≤ zn ∧ i = .int .i64 y ∧ a = .int .i64 (F + q + (sl.take e).sum + y)) (fun _ i => zn - (intOf i).toNat)
                  case atStart => exact ⟨0, Nat.zero_le _, rfl, by simp⟩
                  case round =>
                    obtain ⟨y, hy, rfl, rfl⟩ := hrel
                    by_cases hyl : y < zn
                    · have HCt := Lib.hid (HCe.out y (by omega) (by omega))
                      go_wp2_with fail
                      go_loop [12, 13] (fun m i => ∃ j : Nat, j ≤ X.length ∧ i = .int .i64 j ∧ m = .int .i64 ((X.take j).count (F + (q:Int) + (sl.take e).sum + (y:Int)) : Nat)) (fun _ i => X.length - (intOf i).toNat)
                      case atStart => exact ⟨0, Nat.zero_le _, rfl, rfl⟩
                      case round =>
                        obtain ⟨j, hj, rfl, rfl⟩ := hrel
                        have hcl := count_take_le X (F + (q:Int) + (sl.take e).sum + (y:Int)) j
                        by_cases hjl : j < X.length
                        · obtain ⟨xb, xo, rfl, hcx⟩ := HX3.out (by omega)
                          have p0 := int_at hcx j hjl
                          have HC := Lib.hid (count_take_succ X (F + (q:Int) + (sl.take e).sum + (y:Int)) j hjl)
                          generalize X[j] = x at *
                          clear hcx
                          by_cases hxy : x = (F + (q:Int) + (sl.take e).sum + (y:Int))
                          · have HC1 := Lib.hid (show (X.take (j + 1)).count (F + (q:Int) + (sl.take e).sum + (y:Int)) = (X.take j).count (F + (q:Int) + (sl.take e).sum + (y:Int)) + 1 by rw [HC.out, if_pos (by simpa using hxy)])
                            have he : (x == (F + (q:Int) + (sl.take e).sum + (y:Int))) = true := by simpa using hxy
                            clear hxy
                            go_wp2_with fail
                            go_round
                            case rel => exact ⟨j + 1, by omega, by go_num, by rw [HC1.out]; go_num⟩
                            case measure => simp [intOf]; omega
                          · have he : (x == (F + (q:Int) + (sl.take e).sum + (y:Int))) = false := by simpa using hxy
                            have HC1 := Lib.hid (show (X.take (j + 1)).count (F + (q:Int) + (sl.take e).sum + (y:Int)) = (X.take j).count (F + (q:Int) + (sl.take e).sum + (y:Int)) by rw [HC.out, he]; rfl)
                            clear hxy
                            go_wp2_with fail
                            go_round
                            case rel => exact ⟨j + 1, by omega, by go_num, by rw [HC1.out]⟩
                            case measure => simp [intOf]; omega
                        · have hje : X.take j = X := List.take_of_length_le (by omega)
                          have HF := Lib.hid (show (X.take j).count (F + (q : Int) + (sl.take e).sum + (y : Int)) = 1 by rw [hje]; exact HCt.out)
                          clear hje hcl
                          rw [HF.out]
                          go_wp2_with fail
                          go_round
                          case rel => exact ⟨y + 1, by omega, by go_num, by go_num⟩
                          case measure => simp [intOf]; omega
                    · have hye : y = zn := by omega
                      subst hye
                      go_wp2_with fail
                      go_round
                      case rel => exact ⟨e + 1, by omega, by go_num, by rw [HS2.out, ← Int.add_assoc]⟩
                      case measure => simp [intOf]; omega
                · have hee : sl.take e = sl := List.take_of_length_le (by omega)
                  have HEe := Lib.hid hee
                  clear hee
                  go_wp2_with fail
                  go_round
                  case rel => exact ⟨k + 1, by omega, by go_num, by rw [HSW.out, HEe.out, Int.add_assoc]⟩
                  case measure => simp [intOf]; omega
        · have hke : k = ss.length := by omega
          go_wp2_with fail
          go_ret
          exact ⟨rfl, S2⟩
  · go_enter Try.func13, Try.ntmps13
    go_wp2_with fail
    go_ret
    exact ⟨rfl, Below.refl _ _⟩
end Go.Proofs.Ytpngjofplbnkjaa
