/- What the laws on bars draw; the walks of FnBarCount, FnFillBar. Conditions: none. -/
import Derived.Test.YtendoahanngacaaF1
import Derived.Test.YtendoahanngacaaNR
import Derived.Test.YtendoahanngacaaR6
namespace Go.Proofs.Ytendoahanngacaa
open Go.RowKit
set_option linter.unusedSimpArgs false
set_option linter.unusedVariables false
set_option maxHeartbeats 8000000
theorem own_setB {base e size n : Nat} {v : Value} {xs : List Value} {W : World} (h : W.ownsRow base e size v n xs) {p : Addr} (hp : p.block < base) (u : Value) : (W.setCell p u).ownsRow base e size v n xs :=
  h.kept (row := some p.block) ⟨rfl, rfl, rfl, by simp [World.setCell], fun i hi hn => Below.heap_setCell W p u i (fun hh => hn (by rw [hh]))⟩ (by
    cases hv : v.ownBlock with
    | none => exact .inl rfl
    | some k =>
      right
      intro hk
      cases hk
      have := (h.lt p.block hv).1
      omega)
def DBar (w : World) (e : Ending) (w' : World) : Prop :=
  ∃ v ns m, e = .returned (.tuple #[v, Met.v m]) ∧ w'.ownsRow w.heap.size 57 6 v (ns : List Nt).length (ntCells ns) ∧ ns.length ≤ 61 ∧ Below w.heap.size w w'
theorem c_DrawSplitBars (v : Value) (bs : List Int) (w : World) (h : Rd w v 1 bs.length (byteCells bs)) (hb : ∀ x ∈ bs, 0 ≤ x ∧ x ≤ 255) :
    Calls Try.prog 43 #[v] w (DBar w) := by
  go_enter Try.func43, Try.ntmps43
  go_wp2_with fail
  (go_at_call 49; (with_reducible refine (c_open _ _ _ (h.alloc _) hb).mono ?_); rintro e w1 ⟨g, rfl, hg, hr1, hbq⟩; have hzq := hbq.size; (try simp only [size_alloc', size_setCell', size_drew', size_drewN'] at hzq hg); (try (refine keep_heap (b := w.heap.size) hbq ?_ ?_; (first | omega | (simp only [size_alloc', size_setCell', size_drew', size_drewN']; omega)); intro hkq; simp only [heap_alloc_get, heap_setCell_get, heap_drew_get, heap_drewN_get, size_alloc', size_setCell', size_drew', size_drewN', nat_simp1, nat_simp2, nat_simp3, nat_simp4, nat_simp5, if_true, if_false, *] at hkq; obtain ⟨_, _⟩ := blk_facts hkq)); (try (refine ne_cps (a := w.heap.size) (b := w1.heap.size) ?_ ?_; omega; intro _ _)); (try (refine ne_cps (a := w.heap.size) (b := w1.heap.size + 1) ?_ ?_; omega; intro _ _)); (try (refine ne_cps (a := w.heap.size) (b := w1.heap.size + 1 + 1) ?_ ?_; omega; intro _ _)); skip)
  have hr2 := hr1.mono (m' := 7 + 200) (by omega)
  clear hr1
  go_wp2_with fail
  (go_at_call 58; (with_reducible refine (c_l20Voice g 7 _ _ ?_ (by omega) (by omega)).mono ?_); (focus (repeat' (first | (with_reducible assumption) | (with_reducible refine Rdr.alloc ?_ _) | (with_reducible refine Rdr.setCell ?_ ?_ _) | (with_reducible refine Rdr.drewN ?_ _) | (with_reducible refine Rdr.drew ?_) | (show _ < _; first | omega | (simp only [size_alloc', size_setCell', size_drew', size_drewN'] at *; omega))))); rintro e w2 ⟨v2, ns, rfl, hov, hl2, hsm, hrq, hgq⟩; have hsq := hgq.size; (try simp only [size_alloc', size_setCell', size_drew', size_drewN'] at hsq); (try (refine keep_heap_g (b := w.heap.size) hgq ?_ ?_ ?_; (first | omega | (simp only [size_alloc', size_setCell', size_drew', size_drewN']; omega)); omega; intro hkq; simp only [heap_alloc_get, heap_setCell_get, heap_drew_get, heap_drewN_get, size_alloc', size_setCell', size_drew', size_drewN', nat_simp1, nat_simp2, nat_simp3, nat_simp4, nat_simp5, if_true, if_false, Option.map_some, *] at hkq; obtain ⟨_, _⟩ := blk_facts hkq)); (try (refine ne_cps (a := w.heap.size) (b := w2.heap.size) ?_ ?_; omega; intro _ _)); (try (refine ne_cps (a := w.heap.size) (b := w2.heap.size + 1) ?_ ?_; omega; intro _ _)); (try (refine ne_cps (a := w.heap.size) (b := w2.heap.size + 1 + 1) ?_ ?_; omega; intro _ _)); skip)
  have HOV := Lib.hid hov
  have hb2 : Below (w.heap.size + 1) (w.alloc (.cells #[.int .i64 0, .int .i64 0] 25)) w2 := below_of_kp (hbq.mono (by simp)) hgq (by omega) (by omega)
  clear hov hsm
  have hr3 : Rdr w2 g (2 + 5) := hrq.mono (by omega)
  clear hrq
  have hw12 : w1.heap.size ≤ w2.heap.size := hgq.size
  have hg1 : g < w1.heap.size := hr2.lt
  go_wp2_with fail
  (go_at_call 48; (with_reducible refine (c_l20Meter g 2 _ _ ?_ (by omega) (by omega)).mono ?_); (focus (repeat' (first | (with_reducible assumption) | (with_reducible refine Rdr.alloc ?_ _) | (with_reducible refine Rdr.setCell ?_ ?_ _) | (with_reducible refine Rdr.drewN ?_ _) | (with_reducible refine Rdr.drew ?_) | (show _ < _; first | omega | (simp only [size_alloc', size_setCell', size_drew', size_drewN'] at *; omega))))); rintro e w3 ⟨⟨a, b⟩, rfl, hia, hrq, hgq⟩; have hsq := hgq.size; (try simp only [size_alloc', size_setCell', size_drew', size_drewN'] at hsq); (try (refine keep_heap_g (b := w.heap.size) hgq ?_ ?_ ?_; (first | omega | (simp only [size_alloc', size_setCell', size_drew', size_drewN']; omega)); omega; intro hkq; simp only [heap_alloc_get, heap_setCell_get, heap_drew_get, heap_drewN_get, size_alloc', size_setCell', size_drew', size_drewN', nat_simp1, nat_simp2, nat_simp3, nat_simp4, nat_simp5, if_true, if_false, Option.map_some, *] at hkq; obtain ⟨_, _⟩ := blk_facts hkq)); (try (refine ne_cps (a := w.heap.size) (b := w3.heap.size) ?_ ?_; omega; intro _ _)); (try (refine ne_cps (a := w.heap.size) (b := w3.heap.size + 1) ?_ ?_; omega; intro _ _)); (try (refine ne_cps (a := w.heap.size) (b := w3.heap.size + 1 + 1) ?_ ?_; omega; intro _ _)); skip)
  have HO3 := Lib.hid (pick_own HOV.out hgq hg1)
  have hb3 := below_of_kp hb2 hgq (by omega) (by omega)
  have hz3 := hgq.size
  go_wp2_with fail
  have hZ : ((w3.setCell ⟨w.heap.size, 0, none⟩ (.int .i64 a)).setCell ⟨w.heap.size, 1, none⟩ (.int .i64 b)).heap[w.heap.size]? = some (.cells #[.int .i64 a, .int .i64 b] 25 (0, 0)) := by (simp only [heap_alloc_get, heap_setCell_get, heap_drew_get, heap_drewN_get, size_alloc', size_setCell', size_drew', size_drewN', nat_simp1, nat_simp2, nat_simp3, nat_simp4, nat_simp5, if_true, if_false, Option.map_some, *]; first | done | rfl | simp)
  obtain ⟨_, _⟩ := blk_facts hZ
  exact bodyPost_ret (v := .tuple #[v2, .agg #[.int .i64 a, .int .i64 b]]) (by simp [results, Try.results43, go_sem, *]) rfl
    ⟨v2, ns, ⟨a, b⟩, rfl, own_monoA (own_setB (own_setB HO3.out (p := ⟨w.heap.size, 0, none⟩) (by show w.heap.size < w1.heap.size; omega) _) (p := ⟨w.heap.size, 1, none⟩) (by show w.heap.size < w1.heap.size; omega) _) (by omega), hl2, by
      have hb4 : Below w.heap.size w w3 := (bel1 w _).trans (hb3.mono (by omega))
      exact Below.setCell (Below.setCell hb4 (by show w.heap.size ≤ w.heap.size; omega) _) (by show w.heap.size ≤ w.heap.size; omega) _⟩
theorem c_DrawBarCount (v : Value) (bs : List Int) (w : World) (h : Rd w v 1 bs.length (byteCells bs)) (hb : ∀ x ∈ bs, 0 ≤ x ∧ x ≤ 255) :
    Calls Try.prog 33 #[v] w (DBar w) := by
  go_enter Try.func33, Try.ntmps33
  go_wp2_with fail
  (go_at_call 43; (with_reducible refine (c_DrawSplitBars v bs _ (h.alloc _) hb).mono ?_); rintro e w1 ⟨v1, ns, ⟨a, b⟩, rfl, hov, hl, hb1⟩)
  have HOV := Lib.hid hov
  clear hov
  have hz1 := hb1.size
  have hb0 : Below w.heap.size w w1 := (bel1 w _).trans (hb1.mono (by simp))
  have hZ0 := below_heap hb1 (heap_alloc_new w (.cells #[.int .i64 0, .int .i64 0] 25))
  obtain ⟨_, _⟩ := blk_facts hZ0
  simp only [size_alloc'] at hz1
  have hZ : ((w1.setCell ⟨w.heap.size, 0, none⟩ (.int .i64 a)).setCell ⟨w.heap.size, 1, none⟩ (.int .i64 b)).heap[w.heap.size]? = some (.cells #[.int .i64 a, .int .i64 b] 25 (0, 0)) := by (simp only [heap_alloc_get, heap_setCell_get, heap_drew_get, heap_drewN_get, size_alloc', size_setCell', size_drew', size_drewN', nat_simp1, nat_simp2, nat_simp3, nat_simp4, nat_simp5, if_true, if_false, Option.map_some, *]; first | done | rfl | simp)
  obtain ⟨_, _⟩ := blk_facts hZ
  go_wp2_with fail
  exact bodyPost_ret (v := .tuple #[v1, .agg #[.int .i64 a, .int .i64 b]]) (by simp [results, Try.results33, go_sem, *]) rfl ⟨v1, ns, ⟨a, b⟩, rfl,
    own_monoA (own_setB (own_setB HOV.out (p := ⟨w.heap.size, 0, none⟩) (by simp) _) (p := ⟨w.heap.size, 1, none⟩) (by simp) _) (by simp), hl,
    Below.setCell (Below.setCell hb0 (Nat.le_refl w.heap.size) _) (Nat.le_refl w.heap.size) _⟩
theorem c_DrawFillBar (v : Value) (bs : List Int) (w : World) (h : Rd w v 1 bs.length (byteCells bs)) (hb : ∀ x ∈ bs, 0 ≤ x ∧ x ≤ 255) :
    Calls Try.prog 39 #[v] w (DBar w) := by
  go_enter Try.func39, Try.ntmps39
  go_wp2_with fail
  (go_at_call 43; (with_reducible refine (c_DrawSplitBars v bs _ (h.alloc _) hb).mono ?_); rintro e w1 ⟨v1, ns, ⟨a, b⟩, rfl, hov, hl, hb1⟩)
  have HOV := Lib.hid hov
  clear hov
  have hz1 := hb1.size
  have hb0 : Below w.heap.size w w1 := (bel1 w _).trans (hb1.mono (by simp))
  have hZ0 := below_heap hb1 (heap_alloc_new w (.cells #[.int .i64 0, .int .i64 0] 25))
  obtain ⟨_, _⟩ := blk_facts hZ0
  simp only [size_alloc'] at hz1
  have hZ : ((w1.setCell ⟨w.heap.size, 0, none⟩ (.int .i64 a)).setCell ⟨w.heap.size, 1, none⟩ (.int .i64 b)).heap[w.heap.size]? = some (.cells #[.int .i64 a, .int .i64 b] 25 (0, 0)) := by (simp only [heap_alloc_get, heap_setCell_get, heap_drew_get, heap_drewN_get, size_alloc', size_setCell', size_drew', size_drewN', nat_simp1, nat_simp2, nat_simp3, nat_simp4, nat_simp5, if_true, if_false, Option.map_some, *]; first | done | rfl | simp)
  obtain ⟨_, _⟩ := blk_facts hZ
  go_wp2_with fail
  exact bodyPost_ret (v := .tuple #[v1, .agg #[.int .i64 a, .int .i64 b]]) (by simp [results, Try.results39, go_sem, *]) rfl ⟨v1, ns, ⟨a, b⟩, rfl,
    own_monoA (own_setB (own_setB HOV.out (p := ⟨w.heap.size, 0, none⟩) (by simp) _) (p := ⟨w.heap.size, 1, none⟩) (by simp) _) (by simp), hl,
    Below.setCell (Below.setCell hb0 (Nat.le_refl w.heap.size) _) (Nat.le_refl w.heap.size) _⟩
theorem c_VoiceTicks_is (v : Value) (ns : List Nt) (N : Int) (w : World) (h : Rd w v 6 ns.length (ntCells ns)) (hN : voiceT ns = N) :
    Calls Try.prog 34 #[v] w fun e w' => e = .returned (.int .i64 N) ∧ Below w.heap.size w w' := by
  subst hN
  exact c_VoiceTicks v ns w h
theorem barCount_no {ns : List Nt} {m : Met} (h : ¬ (voiceValid ns = true ∧ meterValid m = true)) : barCount ns m = -1 := by unfold barCount; rw [if_neg h]
theorem walk_FnBarCount (w : World) (v : Value) (bs : List Int) (h : Rd w v 1 bs.length (byteCells bs)) (hb : ∀ x ∈ bs, 0 ≤ x ∧ x ≤ 255) :
    Calls Try.prog 10 #[v] w fun e w' => e = .returned (.bool true) ∧ Below w.heap.size w w' := by
  have h' := Lib.hid h
  obtain ⟨_, A, c0, rfl, hnc, hcm, hA⟩ := h
  unfold maxLen at hcm
  clear hA
  by_cases hlen : bs.length ≤ 1048576
  · go_enter Try.func10, Try.ntmps10
    go_wp2_with fail
    (go_at_call 33; (with_reducible refine (c_DrawBarCount _ bs _ h'.out hb).mono ?_); rintro e w1 ⟨v1, ns, ⟨b, u⟩, rfl, ho1, hl1, hb1⟩)
    have HV1 := Lib.hid (Rd.of_own ho1)
    have hz1 := hb1.size
    obtain ⟨_, A1, c1, rfl, hn1, hm1, _⟩ := Rd.of_own ho1
    unfold maxLen at hm1
    have HV1 := Lib.hid (show Rd w1 (.slice A1 ns.length c1) 6 ns.length (ntCells ns) from HV1.out)
    clear ho1
    have HA1 := Lib.hid (heap_alloc_new w1 (.cells #[.int .i64 b, .int .i64 u] 25))
    have HR1 := Lib.hid (HV1.out.alloc (.cells #[.int .i64 b, .int .i64 u] 25))
    have S := hb1.alloc hz1 (.cells #[.int .i64 b, .int .i64 u] 25)
    obtain ⟨C, hC⟩ : ∃ C, barCount ns ⟨b, u⟩ = C := ⟨_, rfl⟩
    have HC := Lib.hid hC
    by_cases hvm : voiceValid ns = true ∧ meterValid ⟨b, u⟩ = true
    · obtain ⟨hv, hm⟩ := hvm
      obtain ⟨s1, s2⟩ := sumT_valid hv
      obtain ⟨c1', c2', c3', c4'⟩ := barCount_bd hv hm
      obtain ⟨k1, k2, -, -, -, -⟩ := bar_bd hm
      obtain ⟨l1, l2⟩ := barCount_law hv hm
      have HT := Lib.hid (show voiceT ns = sumT ns by simp [voiceT, hv])
      obtain ⟨B, hB⟩ : ∃ B, barTicks ⟨b, u⟩ = B := ⟨_, rfl⟩
      have HB := Lib.hid hB
      obtain ⟨T, hT⟩ : ∃ T, sumT ns = T := ⟨_, rfl⟩
      have HTT := Lib.hid hT
      rw [hC] at c1' c2' c3' c4' l1 l2
      rw [hB] at c3' c4' l1 l2 k1 k2
      rw [hT] at l1 l2 s1 s2
      have hne : ¬ C < 0 := by omega
      clear hC hB hT hv hm
      go_wp2_with fail
      (go_at_call 31; (with_reducible refine (c_BarCount _ ns ⟨b, u⟩ _ HR1.out).mono ?_); rintro e w2 ⟨rfl, hb2⟩; rw [HC.out])
      have S := S.trans (hb2.mono S.size)
      have hhc := below_heap hb2 HA1.out
      have HX2 := Lib.hid hhc
      obtain ⟨_, _⟩ := blk_facts hhc
      clear hhc
      have HR2 := Lib.hid (HR1.out.below (Nat.le_refl _) hb2)
      go_wp2_with fail
      (go_at_call 29; (with_reducible refine (c_sBarCount _ ns ⟨b, u⟩ _ HR2.out).mono ?_); rintro e w3 ⟨rfl, hb3⟩; rw [HC.out])
      have S := S.trans (hb3.mono S.size)
      have hhc := below_heap hb3 HX2.out
      have HX3 := Lib.hid hhc
      obtain ⟨_, _⟩ := blk_facts hhc
      clear hhc
      have HR3 := Lib.hid (HR2.out.below (Nat.le_refl _) hb3)
      go_wp2_with fail
      (go_at_call 34; (with_reducible refine (c_VoiceTicks_is _ ns T _ HR3.out (HT.out.trans HTT.out)).mono ?_); rintro e w4 ⟨rfl, hb4⟩)
      have S := S.trans (hb4.mono S.size)
      have hhc := below_heap hb4 HX3.out
      have HX4 := Lib.hid hhc
      obtain ⟨_, _⟩ := blk_facts hhc
      clear hhc
      go_wp2_with fail
      (go_at_call 20; (with_reducible refine (c_BarTicks ⟨b, u⟩ _).mono ?_); rintro e w5 ⟨rfl, hb5⟩; rw [HB.out])
      have S := S.trans (hb5.mono S.size)
      by_cases h00 : C = 0 ∧ T = 0
      · obtain ⟨rfl, rfl⟩ := h00
        clear l2
        go_wp2_with fail
        go_ret
        exact ⟨rfl, S⟩
      · have hl : (C - 1) * B < T := by
          rcases l2 with l2 | l2
          · exact absurd l2 h00
          · exact l2
        have hC0 : (C == 0) = false := by
          rw [beq_eq_false_iff_ne]
          rintro rfl
          simp at l1
          omega
        have hm1 : (C - 1) * B = C * B - B := by rw [Int.sub_mul, Int.one_mul]
        have hl2 : C * B - B < T := by omega
        have hlo : -9223372036854775808 ≤ (C - 1) * B := by omega
        have hhi : (C - 1) * B ≤ 9223372036854775807 := by omega
        clear l2 h00 hm1
        go_wp2_with fail
        go_ret
        exact ⟨rfl, S⟩
    · have hCn := hC.symm.trans (barCount_no hvm)
      subst hCn
      clear hC hvm
      go_wp2_with fail
      (go_at_call 31; (with_reducible refine (c_BarCount _ ns ⟨b, u⟩ _ HR1.out).mono ?_); rintro e w2 ⟨rfl, hb2⟩; rw [HC.out])
      have S := S.trans (hb2.mono S.size)
      have hhc := below_heap hb2 HA1.out
      have HX2 := Lib.hid hhc
      obtain ⟨_, _⟩ := blk_facts hhc
      clear hhc
      have HR2 := Lib.hid (HR1.out.below (Nat.le_refl _) hb2)
      go_wp2_with fail
      (go_at_call 29; (with_reducible refine (c_sBarCount _ ns ⟨b, u⟩ _ HR2.out).mono ?_); rintro e w3 ⟨rfl, hb3⟩; rw [HC.out])
      have S := S.trans (hb3.mono S.size)
      go_wp2_with fail
      (go_at_call 24; (with_reducible refine (c_alive _).mono ?_); rintro e w5 ⟨rfl, hb5⟩)
      have S := S.trans (hb5.mono S.size)
      go_wp2
      go_ret
      exact ⟨rfl, S⟩
  · go_enter Try.func10, Try.ntmps10
    go_wp2_with fail
    go_ret
    exact ⟨rfl, Below.refl _ _⟩
theorem walk_FnFillBar (w : World) (v : Value) (bs : List Int) (h : Rd w v 1 bs.length (byteCells bs)) (hb : ∀ x ∈ bs, 0 ≤ x ∧ x ≤ 255) :
    Calls Try.prog 12 #[v] w fun e w' => e = .returned (.bool true) ∧ Below w.heap.size w w' := by
  have h' := Lib.hid h
  obtain ⟨_, A, c0, rfl, hnc, hcm, hA⟩ := h
  unfold maxLen at hcm
  clear hA
  by_cases hlen : bs.length ≤ 1048576
  · go_enter Try.func12, Try.ntmps12
    go_wp2_with fail
    (go_at_call 39; (with_reducible refine (c_DrawFillBar _ bs _ h'.out hb).mono ?_); rintro e w1 ⟨v1, ns, ⟨b, u⟩, rfl, ho1, hl1, hb1⟩)
    have HV1 := Lib.hid (Rd.of_own ho1)
    have hz1 := hb1.size
    obtain ⟨_, A1, c1, rfl, hn1, hm1, _⟩ := Rd.of_own ho1
    unfold maxLen at hm1
    have HV1 := Lib.hid (show Rd w1 (.slice A1 ns.length c1) 6 ns.length (ntCells ns) from HV1.out)
    clear ho1
    have HA1 := Lib.hid (heap_alloc_new w1 (.cells #[.int .i64 b, .int .i64 u] 25))
    have HR1 := Lib.hid (HV1.out.alloc (.cells #[.int .i64 b, .int .i64 u] 25))
    have S := hb1.alloc hz1 (.cells #[.int .i64 b, .int .i64 u] 25)
    cases hO : fillV ns ⟨b, u⟩ with
    | none =>
      have HP := Lib.hid (show ∀ w e w', ShiftPost (fillV ns ⟨b, u⟩) w e w' → WPost [] false w e w' from fun w e w' hp => by rw [hO] at hp; exact hp)
      clear hO
      go_wp2_with fail
      (go_at_call 36; (with_reducible refine (c_FillBar _ ns ⟨b, u⟩ _ HR1.out).mono ?_); rintro e w2 hpost; obtain ⟨vg, rfl, hog, hlg, hb2⟩ := HP.out _ _ _ hpost; clear hpost)
      have S := S.trans (hb2.mono S.size)
      have hhc := below_heap hb2 HA1.out
      have HX2 := Lib.hid hhc
      obtain ⟨_, _⟩ := blk_facts hhc
      clear hhc
      have HR2 := Lib.hid (HR1.out.below (Nat.le_refl _) hb2)
      obtain ⟨_, Ag, cg, rfl, hcg1, hcg2, hcg3⟩ := Rd.of_own hog
      have HG2 := Lib.hid (show Rd w2 (.slice Ag 0 cg) 6 ([] : List Nt).length (ntCells []) from Rd.of_own hog)
      clear hog hcg3
      go_wp2_with fail
      (go_at_call 35; (with_reducible refine (c_sFillBar _ ns ⟨b, u⟩ _ HR2.out).mono ?_); rintro e w3 hpost; obtain ⟨vw, rfl, how, hlw, hb3⟩ := HP.out _ _ _ hpost; clear hpost)
      have S := S.trans (hb3.mono S.size)
      have hhc := below_heap hb3 HX2.out
      have HX3 := Lib.hid hhc
      obtain ⟨_, _⟩ := blk_facts hhc
      clear hhc
      have HG3 := Lib.hid (HG2.out.below (Nat.le_refl _) hb3)
      have HW3 := Lib.hid (Rd.of_own how)
      clear how
      go_wp2_with fail
      (go_at_call 40; (with_reducible refine (c_sameVoice_eq _ _ ([] : List Nt) _ HG3.out HW3.out).mono ?_); rintro e w4 ⟨rfl, hb4⟩)
      have S := S.trans (hb4.mono S.size)
      go_wp2_with fail
      (go_at_call 24; (with_reducible refine (c_alive _).mono ?_); rintro e w5 ⟨rfl, hb5⟩)
      have S := S.trans (hb5.mono S.size)
      go_wp2
      go_ret
      exact ⟨rfl, S⟩
    | some out =>
      have HP := Lib.hid (show ∀ w e w', ShiftPost (fillV ns ⟨b, u⟩) w e w' → WPost out true w e w' from fun w e w' hp => by rw [hO] at hp; exact hp)
      obtain ⟨f1, f2, f3, f4, hv, hm⟩ := fillV_law hO
      obtain ⟨c1', c2', c3', c4'⟩ := barCount_bd hv hm
      have HQ := Lib.hid (show ∀ w e w', ShiftPost (fillV out ⟨b, u⟩) w e w' → WPost out true w e w' from fun w e w' hp => by rw [f2] at hp; exact hp)
      have HF1 := Lib.hid f1
      clear hO f1 f2 hv hm
      go_wp2_with fail
      (go_at_call 36; (with_reducible refine (c_FillBar _ ns ⟨b, u⟩ _ HR1.out).mono ?_); rintro e w2 hpost; obtain ⟨vg, rfl, hog, hlg, hb2⟩ := HP.out _ _ _ hpost; clear hpost)
      have S := S.trans (hb2.mono S.size)
      have hhc := below_heap hb2 HA1.out
      have HX2 := Lib.hid hhc
      obtain ⟨_, _⟩ := blk_facts hhc
      clear hhc
      have HR2 := Lib.hid (HR1.out.below (Nat.le_refl _) hb2)
      obtain ⟨_, Ag, cg, rfl, hcg1, hcg2, hcg3⟩ := Rd.of_own hog
      have HG2 := Lib.hid (show Rd w2 (.slice Ag out.length cg) 6 out.length (ntCells out) from Rd.of_own hog)
      clear hog hcg3
      go_wp2_with fail
      (go_at_call 35; (with_reducible refine (c_sFillBar _ ns ⟨b, u⟩ _ HR2.out).mono ?_); rintro e w3 hpost; obtain ⟨vw, rfl, how, hlw, hb3⟩ := HP.out _ _ _ hpost; clear hpost)
      have S := S.trans (hb3.mono S.size)
      have hhc := below_heap hb3 HX2.out
      have HX3 := Lib.hid hhc
      obtain ⟨_, _⟩ := blk_facts hhc
      clear hhc
      have HG3 := Lib.hid (HG2.out.below (Nat.le_refl _) hb3)
      have HR3 := Lib.hid (HR2.out.below (Nat.le_refl _) hb3)
      have HW3 := Lib.hid (Rd.of_own how)
      clear how
      go_wp2_with fail
      (go_at_call 40; (with_reducible refine (c_sameVoice_eq _ _ out _ HG3.out HW3.out).mono ?_); rintro e w4 ⟨rfl, hb4⟩)
      have S := S.trans (hb4.mono S.size)
      have hhc := below_heap hb4 HX3.out
      have HX4 := Lib.hid hhc
      obtain ⟨_, _⟩ := blk_facts hhc
      clear hhc
      have HG4 := Lib.hid (HG3.out.below (Nat.le_refl _) hb4)
      have HR4 := Lib.hid (HR3.out.below (Nat.le_refl _) hb4)
      go_wp2_with fail
      (go_at_call 36; (with_reducible refine (c_FillBar _ out ⟨b, u⟩ _ HG4.out).mono ?_); rintro e w5 hpost; obtain ⟨vk, rfl, hok, hlk, hb5⟩ := HQ.out _ _ _ hpost; clear hpost)
      have S := S.trans (hb5.mono S.size)
      have hhc := below_heap hb5 HX4.out
      have HX5 := Lib.hid hhc
      obtain ⟨_, _⟩ := blk_facts hhc
      clear hhc
      have HG5 := Lib.hid (HG4.out.below (Nat.le_refl _) hb5)
      have HR5 := Lib.hid (HR4.out.below (Nat.le_refl _) hb5)
      have HK5 := Lib.hid (Rd.of_own hok)
      clear hok
      go_wp2_with fail
      (refine wp_region_more_lit (by kernel_rfl) (by kernel_rfl) ?_; (repeat (go_big_quiet_step ((first | (go_at_call 34; with_reducible exact Calls.more_of (c_VoiceTicks_is _ out _ _ (HG5.out.below (Nat.le_refl _) (more_below _ _)) HF1.out)) | (go_at_call 31; with_reducible exact Calls.more_of (c_BarCount _ ns ⟨b, u⟩ _ (HR5.out.below (Nat.le_refl _) (more_below _ _)))) | (go_at_call 20; with_reducible exact Calls.more_of (c_BarTicks ⟨b, u⟩ _)) | (go_at_call 40; with_reducible exact Calls.more_of (c_sameVoice_eq _ _ out _ (HK5.out.below (Nat.le_refl _) (more_below _ _)) (HG5.out.below (Nat.le_refl _) (more_below _ _)))))))); refine wpQuiet_nil ?_; intro wq hwq; have hbq := below_of_more hwq; clear hwq; have hzq := hbq.size; (try simp only [size_alloc', size_setCell', size_drew', size_drewN'] at hzq); (try (refine keep_heap (b := w1.heap.size) hbq ?_ ?_; (first | omega | (simp only [size_alloc', size_setCell', size_drew', size_drewN']; omega)); intro hkq; simp only [heap_alloc_get, heap_setCell_get, heap_drew_get, heap_drewN_get, size_alloc', size_setCell', size_drew', size_drewN', nat_simp1, nat_simp2, nat_simp3, nat_simp4, nat_simp5, if_true, if_false, *] at hkq; obtain ⟨_, _⟩ := blk_facts hkq)); skip)
      have S := S.trans (hbq.mono S.size)
      go_wp2
      go_ret
      exact ⟨by simp; omega, S⟩
  · go_enter Try.func12, Try.ntmps12
    go_wp2_with fail
    go_ret
    exact ⟨rfl, Below.refl _ _⟩
end Go.Proofs.Ytendoahanngacaa
