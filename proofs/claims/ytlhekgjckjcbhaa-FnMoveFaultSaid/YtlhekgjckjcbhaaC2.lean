/- StackFault on both sides; the walk of its exact law. Conditions: none beyond the law's own. -/
import Derived.Test.YtlhekgjckjcbhaaC1
namespace Go.Proofs.Ytlhekgjckjcbhaa
open Go.RowKit
set_option linter.unusedSimpArgs false
set_option linter.unusedVariables false
set_option maxHeartbeats 16000000
theorem pit_pair {W : World} {b off : Nat} {ns : List Pit} (hc : ∀ j u, (pitCells ns)[j]? = some u → W.cell? ⟨b, off + j, none⟩ = some u) (j : Nat) (h : j + 1 < ns.length) :
    ∃ x y : Pit, ns[j + 1]? = some x ∧ ns[j]? = some y ∧ pk ns (j + 1) = keyOf x ∧ pk ns j = keyOf y ∧
      (W.cell? ⟨b, off + (j + 1) * 3, none⟩ = some (.int .i64 x.step) ∧ W.cell? ⟨b, off + (j + 1) * 3 + 1, none⟩ = some (.int .i64 x.alter) ∧ W.cell? ⟨b, off + (j + 1) * 3 + 2, none⟩ = some (.int .i64 x.octave)) ∧
      (W.cell? ⟨b, off + j * 3, none⟩ = some (.int .i64 y.step) ∧ W.cell? ⟨b, off + j * 3 + 1, none⟩ = some (.int .i64 y.alter) ∧ W.cell? ⟨b, off + j * 3 + 2, none⟩ = some (.int .i64 y.octave)) :=
  ⟨ns[j + 1], ns[j], List.getElem?_eq_getElem h, List.getElem?_eq_getElem (by omega), pk_get h, pk_get (by omega), pit_at hc (j + 1) h, pit_at hc j (by omega)⟩
def Asc (ns : List Pit) (j : Nat) : Prop := ∀ i, i < j → ¬ pk ns (i + 1) < pk ns i
def Spc (ns : List Pit) (j : Nat) : Prop := ∀ i, 1 ≤ i → i < j → ¬ 12 < pk ns (i + 1) - pk ns i
def InR (ns : List Pit) (j : Nat) : Prop := ∀ i, i < j → inB (pk ns i) (loK i) (hiK i) = true
theorem Asc.next {ns : List Pit} {j : Nat} (h : Asc ns j) (hn : ¬ pk ns (j + 1) < pk ns j) : Asc ns (j + 1) := fun i hi => by
  rcases Nat.lt_succ_iff_lt_or_eq.1 hi with h3 | rfl
  · exact h i h3
  · exact hn
theorem Spc.next {ns : List Pit} {j : Nat} (h : Spc ns j) (hn : ¬ 12 < pk ns (j + 1) - pk ns j) : Spc ns (j + 1) := fun i h1 hi => by
  rcases Nat.lt_succ_iff_lt_or_eq.1 hi with h3 | rfl
  · exact h i h1 h3
  · exact hn
theorem InR.next {ns : List Pit} {j : Nat} (h : InR ns j) (hn : inB (pk ns j) (loK j) (hiK j) = true) : InR ns (j + 1) := fun i hi => by
  rcases Nat.lt_succ_iff_lt_or_eq.1 hi with h3 | rfl
  · exact h i h3
  · exact hn
theorem c_StackFault (v : Value) (ns : List Pit) (w : World) (h : Rd w v 3 ns.length (pitCells ns)) :
    Calls Try.prog 10 #[v] w fun e w' => e = .returned (.int .i64 (stackF ns)) ∧ Below w.heap.size w w' := by
  have h' := Lib.hid h
  cases hv : arePits ns 4 4
  · have HF := Lib.hid (stackF_1 hv)
    go_enter Try.func10, Try.ntmps10
    go_wp2_with fail
    (go_at_call 39; (with_reducible refine (c_arePitches _ ns 4 4 _ h'.out).mono ?_); rintro e wq ⟨rfl, hbq⟩; rw [hv])
    go_wp2
    go_ret
    exact ⟨ret_int HF.out.symm, hbq⟩
  · have HAP := Lib.hid hv
    have hlen : ns.length = 4 := by have := (arePits_iff.1 hv).1; omega
    have hle1 : ns.length ≤ 4 := by omega
    have hle2 : 4 ≤ ns.length := by omega
    obtain ⟨_, A, c, rfl, hnc, hcm, hA⟩ := h
    unfold maxLen at hcm
    have HLen := Lib.hid hlen
    clear hlen hA
    go_enter Try.func10, Try.ntmps10
    go_wp2_with fail
    (go_at_call 39; (with_reducible refine (c_arePitches _ ns 4 4 _ h'.out).mono ?_); rintro e W0 ⟨rfl, hb0⟩; rw [hv])
    have HB0 := Lib.hid hb0
    have HR := Lib.hid (h'.out.below (Nat.le_refl _) hb0)
    obtain ⟨_, A0, c0, he0, _, _, hA0⟩ := HR.out
    cases he0
    have HAA := Lib.hid hA0
    clear hv hA0
    go_wp2_with fail
    go_loopw [3] (fun i wr => ∃ j : Nat, j ≤ 3 ∧ i = .int .i64 ((j : Int) + 1) ∧ Below W0.heap.size W0 wr ∧ Asc ns j) (fun i _ => 4 - (intOf i).toNat)
    case atStart => exact ⟨0, by omega, rfl, Below.refl _ _, fun i hi => absurd hi (by omega)⟩
    case round =>
      obtain ⟨j, hj, rfl, hbl, hok⟩ := hrel
      have HOK := Lib.hid hok
      have hz := hbl.size
      clear hok
      by_cases hlt : j < 3
      · obtain ⟨b1, off, rfl, hcc⟩ := HAA.out (by omega)
        obtain ⟨⟨xs, xa, xo⟩, ⟨ys, ya, yo⟩, -, -, hpx, hpy, ⟨p0, p1, p2⟩, ⟨q0, q1, q2⟩⟩ := pit_pair (fun j u hu => below_cell hbl (hcc j u hu)) j (by omega)
        dsimp only at p0 p1 p2 q0 q1 q2
        obtain ⟨X, hX⟩ : ∃ X, keyOf ⟨xs, xa, xo⟩ = X := ⟨_, rfl⟩
        obtain ⟨Y, hY⟩ : ∃ Y, keyOf ⟨ys, ya, yo⟩ = Y := ⟨_, rfl⟩
        have hXb := keyOf_bd ⟨xs, xa, xo⟩
        have hYb := keyOf_bd ⟨ys, ya, yo⟩
        rw [hX] at hpx hXb
        rw [hY] at hpy hYb
        have HXK := Lib.hid (fun w => show Calls Try.prog 13 #[.agg #[.int .i64 xs, .int .i64 xa, .int .i64 xo]] w fun e w' => e = .returned (.int .i64 X) ∧ Below w.heap.size w w' by have := c_PitchKey ⟨xs, xa, xo⟩ w; rw [hX] at this; exact this)
        have HYK := Lib.hid (fun w => show Calls Try.prog 13 #[.agg #[.int .i64 ys, .int .i64 ya, .int .i64 yo]] w fun e w' => e = .returned (.int .i64 Y) ∧ Below w.heap.size w w' by have := c_PitchKey ⟨ys, ya, yo⟩ w; rw [hY] at this; exact this)
        have HPX := Lib.hid hpx
        have HPY := Lib.hid hpy
        obtain ⟨hXb1, hXb2⟩ := hXb
        obtain ⟨hYb1, hYb2⟩ := hYb
        have hj1 : (0 : Int) ≤ (j : Int) := by omega
        have hj2 : (j : Int) + 1 < (ns.length : Int) := by omega
        clear hcc hpx hpy hX hY
        by_cases hc : X < Y
        · have HF := Lib.hid (stackF_2 HAP.out hlt (by rw [HPX.out, HPY.out]; exact hc))
          go_wp2_with fail
          (refine wp_region_more_lit (by kernel_rfl) (by kernel_rfl) ?_; (repeat (go_big_quiet_step ((first | (go_at_call 13; with_reducible exact Calls.more_of (HXK.out _)) | (go_at_call 13; with_reducible exact Calls.more_of (HYK.out _)))))); refine wpQuiet_nil ?_; intro wq hwq; have hbq := below_of_more hwq; clear hwq; have hzq := hbq.size; (try simp only [size_alloc', size_setCell', size_drew', size_drewN'] at hzq); (try (refine keep_heap (b := w.heap.size) hbq ?_ ?_; (first | omega | (simp only [size_alloc', size_setCell', size_drew', size_drewN']; omega)); intro hkq; simp only [heap_alloc_get, heap_setCell_get, heap_drew_get, heap_drewN_get, size_alloc', size_setCell', size_drew', size_drewN', nat_simp1, nat_simp2, nat_simp3, nat_simp4, nat_simp5, if_true, if_false, *] at hkq; obtain ⟨_, _⟩ := blk_facts hkq)); skip)
          go_wp2
          go_ret
          exact ⟨ret_int HF.out.symm, HB0.out.trans ((hbl.trans (hbq.mono hz)).mono HB0.out.size)⟩
        · have HN := Lib.hid (HOK.out.next (by rw [HPX.out, HPY.out]; exact hc))
          go_wp2_with fail
          (refine wp_region_more_lit (by kernel_rfl) (by kernel_rfl) ?_; (repeat (go_big_quiet_step ((first | (go_at_call 13; with_reducible exact Calls.more_of (HXK.out _)) | (go_at_call 13; with_reducible exact Calls.more_of (HYK.out _)))))); refine wpQuiet_nil ?_; intro wq hwq; have hbq := below_of_more hwq; clear hwq; have hzq := hbq.size; (try simp only [size_alloc', size_setCell', size_drew', size_drewN'] at hzq); (try (refine keep_heap (b := w.heap.size) hbq ?_ ?_; (first | omega | (simp only [size_alloc', size_setCell', size_drew', size_drewN']; omega)); intro hkq; simp only [heap_alloc_get, heap_setCell_get, heap_drew_get, heap_drewN_get, size_alloc', size_setCell', size_drew', size_drewN', nat_simp1, nat_simp2, nat_simp3, nat_simp4, nat_simp5, if_true, if_false, *] at hkq; obtain ⟨_, _⟩ := blk_facts hkq)); skip)
          go_wp2
          go_roundw
          case rel => exact ⟨j + 1, by omega, by go_num, by (repeat' (first | (with_reducible exact Below.refl _ _) | (with_reducible refine Below.setCell ?_ ?_ _) | (with_reducible refine Below.alloc ?_ ?_ _) | (with_reducible refine Below.drew ?_) | (with_reducible refine below_drewN ?_ _) | (with_reducible refine Below.trans ?_ (Below.mono (by with_reducible assumption) ?_)) | omega | (simp only [size_alloc', size_setCell', size_drew', size_drewN'] at *; omega))), HN.out⟩
          case measure => simp [intOf]; omega
      · have H2 := Lib.hid (show Asc ns 3 from fun i hi => HOK.out i (by omega))
        have HB0 := Lib.hid (HB0.out.trans (hbl.mono HB0.out.size))
        have HR := Lib.hid (HR.out.below (Nat.le_refl _) hbl)
        clear HAA
        obtain ⟨_, A0, c0, he0, _, _, hA0⟩ := HR.out
        cases he0
        have HAA := Lib.hid hA0
        clear hA0
        clear HOK hbl
        obtain ⟨W0, rfl⟩ : ∃ W0 : World, W0 = wr := ⟨_, rfl⟩
        go_wp2_with fail
        go_loopw [4] (fun i wr => ∃ j : Nat, 1 ≤ j ∧ j ≤ 3 ∧ i = .int .i64 ((j : Int) + 1) ∧ Below W0.heap.size W0 wr ∧ Spc ns j) (fun i _ => 4 - (intOf i).toNat)
        case atStart => exact ⟨1, by omega, by omega, rfl, Below.refl _ _, fun i _ hi => absurd hi (by omega)⟩
        case round =>
          obtain ⟨j, hj1', hj, rfl, hbl, hok⟩ := hrel
          have HOK := Lib.hid hok
          have hz := hbl.size
          clear hok
          by_cases hlt : j < 3
          · obtain ⟨b1, off, rfl, hcc⟩ := HAA.out (by omega)
            obtain ⟨⟨xs, xa, xo⟩, ⟨ys, ya, yo⟩, -, -, hpx, hpy, ⟨p0, p1, p2⟩, ⟨q0, q1, q2⟩⟩ := pit_pair (fun j u hu => below_cell hbl (hcc j u hu)) j (by omega)
            dsimp only at p0 p1 p2 q0 q1 q2
            obtain ⟨X, hX⟩ : ∃ X, keyOf ⟨xs, xa, xo⟩ = X := ⟨_, rfl⟩
            obtain ⟨Y, hY⟩ : ∃ Y, keyOf ⟨ys, ya, yo⟩ = Y := ⟨_, rfl⟩
            have hXb := keyOf_bd ⟨xs, xa, xo⟩
            have hYb := keyOf_bd ⟨ys, ya, yo⟩
            rw [hX] at hpx hXb
            rw [hY] at hpy hYb
            have HXK := Lib.hid (fun w => show Calls Try.prog 13 #[.agg #[.int .i64 xs, .int .i64 xa, .int .i64 xo]] w fun e w' => e = .returned (.int .i64 X) ∧ Below w.heap.size w w' by have := c_PitchKey ⟨xs, xa, xo⟩ w; rw [hX] at this; exact this)
            have HYK := Lib.hid (fun w => show Calls Try.prog 13 #[.agg #[.int .i64 ys, .int .i64 ya, .int .i64 yo]] w fun e w' => e = .returned (.int .i64 Y) ∧ Below w.heap.size w w' by have := c_PitchKey ⟨ys, ya, yo⟩ w; rw [hY] at this; exact this)
            have HPX := Lib.hid hpx
            have HPY := Lib.hid hpy
            obtain ⟨hXb1, hXb2⟩ := hXb
            obtain ⟨hYb1, hYb2⟩ := hYb
            have hj1 : (0 : Int) ≤ (j : Int) := by omega
            have hj2 : (j : Int) + 1 < (ns.length : Int) := by omega
            clear hcc hpx hpy hX hY
            by_cases hc : 12 < X - Y
            · have HF := Lib.hid (stackF_3 HAP.out H2.out ⟨hj1', hlt⟩ (by rw [HPX.out, HPY.out]; exact hc))
              go_wp2_with fail
              (refine wp_region_more_lit (by kernel_rfl) (by kernel_rfl) ?_; (repeat (go_big_quiet_step ((first | (go_at_call 13; with_reducible exact Calls.more_of (HXK.out _)) | (go_at_call 13; with_reducible exact Calls.more_of (HYK.out _)))))); refine wpQuiet_nil ?_; intro wq hwq; have hbq := below_of_more hwq; clear hwq; have hzq := hbq.size; (try simp only [size_alloc', size_setCell', size_drew', size_drewN'] at hzq); (try (refine keep_heap (b := w.heap.size) hbq ?_ ?_; (first | omega | (simp only [size_alloc', size_setCell', size_drew', size_drewN']; omega)); intro hkq; simp only [heap_alloc_get, heap_setCell_get, heap_drew_get, heap_drewN_get, size_alloc', size_setCell', size_drew', size_drewN', nat_simp1, nat_simp2, nat_simp3, nat_simp4, nat_simp5, if_true, if_false, *] at hkq; obtain ⟨_, _⟩ := blk_facts hkq)); skip)
              go_wp2
              go_ret
              exact ⟨ret_int HF.out.symm, HB0.out.trans ((hbl.trans (hbq.mono hz)).mono HB0.out.size)⟩
            · have HN := Lib.hid (HOK.out.next (by rw [HPX.out, HPY.out]; exact hc))
              go_wp2_with fail
              (refine wp_region_more_lit (by kernel_rfl) (by kernel_rfl) ?_; (repeat (go_big_quiet_step ((first | (go_at_call 13; with_reducible exact Calls.more_of (HXK.out _)) | (go_at_call 13; with_reducible exact Calls.more_of (HYK.out _)))))); refine wpQuiet_nil ?_; intro wq hwq; have hbq := below_of_more hwq; clear hwq; have hzq := hbq.size; (try simp only [size_alloc', size_setCell', size_drew', size_drewN'] at hzq); (try (refine keep_heap (b := w.heap.size) hbq ?_ ?_; (first | omega | (simp only [size_alloc', size_setCell', size_drew', size_drewN']; omega)); intro hkq; simp only [heap_alloc_get, heap_setCell_get, heap_drew_get, heap_drewN_get, size_alloc', size_setCell', size_drew', size_drewN', nat_simp1, nat_simp2, nat_simp3, nat_simp4, nat_simp5, if_true, if_false, *] at hkq; obtain ⟨_, _⟩ := blk_facts hkq)); skip)
              go_wp2
              go_roundw
              case rel => exact ⟨j + 1, by omega, by omega, by go_num, by (repeat' (first | (with_reducible exact Below.refl _ _) | (with_reducible refine Below.setCell ?_ ?_ _) | (with_reducible refine Below.alloc ?_ ?_ _) | (with_reducible refine Below.drew ?_) | (with_reducible refine below_drewN ?_ _) | (with_reducible refine Below.trans ?_ (Below.mono (by with_reducible assumption) ?_)) | omega | (simp only [size_alloc', size_setCell', size_drew', size_drewN'] at *; omega))), HN.out⟩
              case measure => simp [intOf]; omega
          · have H3 := Lib.hid (show Spc ns 3 from fun i h1 hi => HOK.out i h1 (by omega))
            have HB0 := Lib.hid (HB0.out.trans (hbl.mono HB0.out.size))
            have HR := Lib.hid (HR.out.below (Nat.le_refl _) hbl)
            clear HAA
            obtain ⟨_, A0, c0, he0, _, _, hA0⟩ := HR.out
            cases he0
            have HAA := Lib.hid hA0
            clear hA0
            clear HOK hbl
            obtain ⟨W0, rfl⟩ : ∃ W0 : World, W0 = wr := ⟨_, rfl⟩
            go_wp2_with fail
            go_loopw [47] (fun i wr => ∃ j : Nat, j ≤ 4 ∧ i = .int .i64 j ∧ Below W0.heap.size W0 wr ∧ InR ns j) (fun i _ => 4 - (intOf i).toNat)
            case atStart => exact ⟨0, by omega, rfl, Below.refl _ _, fun i hi => absurd hi (by omega)⟩
            case round =>
              obtain ⟨j, hj, rfl, hbl, hok⟩ := hrel
              have HOK := Lib.hid hok
              have hz := hbl.size
              clear hok
              by_cases hlt : j < 4
              · obtain ⟨b1, off, rfl, hcc⟩ := HAA.out (by omega)
                obtain ⟨p0, p1, p2⟩ := pit_at (fun j u hu => below_cell hbl (hcc j u hu)) j (by omega)
                have HPX := Lib.hid (pk_get (ns := ns) (i := j) (by omega))
                have hj1 : (0 : Int) ≤ (j : Int) := by omega
                have hj2 : (j : Int) < (ns.length : Int) := by omega
                generalize ns[j] = x at *
                obtain ⟨xs, xa, xo⟩ := x
                clear hcc
                dsimp only at p0 p1 p2
                cases hc : inB (keyOf ⟨xs, xa, xo⟩) (loK j) (hiK j)
                · have HF := Lib.hid (stackF_4 HAP.out H2.out H3.out hlt (by rw [HPX.out]; exact hc))
                  go_wp2_with fail
                  (go_at_call 40; (with_reducible refine (c_voiceRange j hlt _).mono ?_); rintro e wq ⟨rfl, hbq⟩; have hzq := hbq.size; (try simp only [size_alloc', size_setCell', size_drew', size_drewN'] at hzq); (try (refine keep_heap (b := wr.heap.size) hbq ?_ ?_; (first | omega | (simp only [size_alloc', size_setCell', size_drew', size_drewN']; omega)); intro hkq; simp only [heap_alloc_get, heap_setCell_get, heap_drew_get, heap_drewN_get, size_alloc', size_setCell', size_drew', size_drewN', nat_simp1, nat_simp2, nat_simp3, nat_simp4, nat_simp5, if_true, if_false, *] at hkq; obtain ⟨_, _⟩ := blk_facts hkq)); skip)
                  go_wp2_with fail
                  (go_at_call 13; (with_reducible refine (c_PitchKey ⟨xs, xa, xo⟩ _).mono ?_); rintro e w2 ⟨rfl, hbq⟩; have hzq := hbq.size; (try simp only [size_alloc', size_setCell', size_drew', size_drewN'] at hzq); (try (refine keep_heap (b := wr.heap.size) hbq ?_ ?_; (first | omega | (simp only [size_alloc', size_setCell', size_drew', size_drewN']; omega)); intro hkq; simp only [heap_alloc_get, heap_setCell_get, heap_drew_get, heap_drewN_get, size_alloc', size_setCell', size_drew', size_drewN', nat_simp1, nat_simp2, nat_simp3, nat_simp4, nat_simp5, if_true, if_false, *] at hkq; obtain ⟨_, _⟩ := blk_facts hkq)); skip)
                  go_wp2_with (go_at_call 41; refine (c_within _ _ _ _).mono ?_; rintro e w' ⟨rfl, rfl⟩)
                  go_ret
                  exact ⟨ret_int HF.out.symm, HB0.out.trans (Below.mono (by (repeat' (first | (with_reducible exact Below.refl _ _) | (with_reducible refine Below.setCell ?_ ?_ _) | (with_reducible refine Below.alloc ?_ ?_ _) | (with_reducible refine Below.drew ?_) | (with_reducible refine below_drewN ?_ _) | (with_reducible refine Below.trans ?_ (Below.mono (by with_reducible assumption) ?_)) | omega | (simp only [size_alloc', size_setCell', size_drew', size_drewN'] at *; omega)))) HB0.out.size)⟩
                · have HN := Lib.hid (HOK.out.next (by rw [HPX.out]; exact hc))
                  go_wp2_with fail
                  (go_at_call 40; (with_reducible refine (c_voiceRange j hlt _).mono ?_); rintro e wq ⟨rfl, hbq⟩; have hzq := hbq.size; (try simp only [size_alloc', size_setCell', size_drew', size_drewN'] at hzq); (try (refine keep_heap (b := wr.heap.size) hbq ?_ ?_; (first | omega | (simp only [size_alloc', size_setCell', size_drew', size_drewN']; omega)); intro hkq; simp only [heap_alloc_get, heap_setCell_get, heap_drew_get, heap_drewN_get, size_alloc', size_setCell', size_drew', size_drewN', nat_simp1, nat_simp2, nat_simp3, nat_simp4, nat_simp5, if_true, if_false, *] at hkq; obtain ⟨_, _⟩ := blk_facts hkq)); skip)
                  go_wp2_with fail
                  (go_at_call 13; (with_reducible refine (c_PitchKey ⟨xs, xa, xo⟩ _).mono ?_); rintro e w2 ⟨rfl, hbq⟩; have hzq := hbq.size; (try simp only [size_alloc', size_setCell', size_drew', size_drewN'] at hzq); (try (refine keep_heap (b := wr.heap.size) hbq ?_ ?_; (first | omega | (simp only [size_alloc', size_setCell', size_drew', size_drewN']; omega)); intro hkq; simp only [heap_alloc_get, heap_setCell_get, heap_drew_get, heap_drewN_get, size_alloc', size_setCell', size_drew', size_drewN', nat_simp1, nat_simp2, nat_simp3, nat_simp4, nat_simp5, if_true, if_false, *] at hkq; obtain ⟨_, _⟩ := blk_facts hkq)); skip)
                  go_wp2_with (go_at_call 41; refine (c_within _ _ _ _).mono ?_; rintro e w' ⟨rfl, rfl⟩)
                  go_roundw
                  case rel => exact ⟨j + 1, by omega, by go_num, by (repeat' (first | (with_reducible exact Below.refl _ _) | (with_reducible refine Below.setCell ?_ ?_ _) | (with_reducible refine Below.alloc ?_ ?_ _) | (with_reducible refine Below.drew ?_) | (with_reducible refine below_drewN ?_ _) | (with_reducible refine Below.trans ?_ (Below.mono (by with_reducible assumption) ?_)) | omega | (simp only [size_alloc', size_setCell', size_drew', size_drewN'] at *; omega))), HN.out⟩
                  case measure => simp [intOf]; omega
              · have HF := Lib.hid (stackF_0 HAP.out H2.out H3.out (fun i hi => HOK.out i (by omega)))
                go_wp2
                go_ret
                exact ⟨ret_int HF.out.symm, HB0.out.trans (hbl.mono HB0.out.size)⟩
theorem tab_cell {W : World} {b j : Nat} {T : TypeId} (hj : j < 4) (x0 x1 x2 x3 : Int) (h : W.heap[b]? = some (.cells #[.int .i64 x0, .int .i64 x1, .int .i64 x2, .int .i64 x3] T (0, 0))) :
    W.cell? ⟨b, j, none⟩ = some (.int .i64 (if j = 0 then x0 else if j = 1 then x1 else if j = 2 then x2 else x3)) := by
  rw [cell_of_row W b j _ _ _ h]
  have h4 : j = 0 ∨ j = 1 ∨ j = 2 ∨ j = 3 := by omega
  rcases h4 with rfl | rfl | rfl | rfl <;> rfl
theorem c_sStackFault (v : Value) (ns : List Pit) (w : World) (h : Rd w v 3 ns.length (pitCells ns)) :
    Calls Try.prog 11 #[v] w fun e w' => e = .returned (.int .i64 (stackF ns)) ∧ Below w.heap.size w w' := by
  have h' := Lib.hid h
  obtain ⟨_, A, c, rfl, hnc, hcm, hA⟩ := h
  unfold maxLen at hcm
  clear hA
  go_enter Try.func11, Try.ntmps11
  go_wp2_with fail
  obtain ⟨W0, hW0⟩ : ∃ W0 : World, W0 = (w.alloc (.cells #[.int .i64 28, .int .i64 36, .int .i64 43, .int .i64 48] 3)).alloc (.cells #[.int .i64 48, .int .i64 55, .int .i64 62, .int .i64 67] 3) := ⟨_, rfl⟩
  rw [← hW0]
  have HB0 := Lib.hid (show Below w.heap.size w W0 by rw [hW0]; (repeat' (first | (with_reducible exact Below.refl _ _) | (with_reducible refine Below.setCell ?_ ?_ _) | (with_reducible refine Below.alloc ?_ ?_ _) | (with_reducible refine Below.drew ?_) | (with_reducible refine below_drewN ?_ _) | (with_reducible refine Below.trans ?_ (Below.mono (by with_reducible assumption) ?_)) | omega | (simp only [size_alloc', size_setCell', size_drew', size_drewN'] at *; omega))))
  have HL0 := Lib.hid (show W0.heap[w.heap.size]? = some (.cells #[.int .i64 28, .int .i64 36, .int .i64 43, .int .i64 48] 3 (0, 0)) by rw [hW0]; (simp only [heap_alloc_get, heap_setCell_get, heap_drew_get, heap_drewN_get, size_alloc', size_setCell', size_drew', size_drewN', nat_simp1, nat_simp2, nat_simp3, nat_simp4, nat_simp5, if_true, if_false, Option.map_some, *]; first | done | rfl | simp))
  have HH0 := Lib.hid (show W0.heap[w.heap.size + 1]? = some (.cells #[.int .i64 48, .int .i64 55, .int .i64 62, .int .i64 67] 3 (0, 0)) by rw [hW0]; (simp only [heap_alloc_get, heap_setCell_get, heap_drew_get, heap_drewN_get, size_alloc', size_setCell', size_drew', size_drewN', nat_simp1, nat_simp2, nat_simp3, nat_simp4, nat_simp5, if_true, if_false, Option.map_some, *]; first | done | rfl | simp))
  clear hW0
  have HR := Lib.hid (h'.out.below (Nat.le_refl _) HB0.out)
  obtain ⟨_, A0, c0, he0, _, _, hA0⟩ := HR.out
  cases he0
  have HAA := Lib.hid hA0
  clear hA0
  go_loopw [5] (fun i wr => ∃ k : Nat, k ≤ ns.length ∧ i = .int .i64 k ∧ Below W0.heap.size W0 wr ∧ ∀ i (h : i < ns.length), i < k → pitchValid ns[i] = true) (fun i _ => ns.length - (intOf i).toNat)
  case atStart => exact ⟨0, Nat.zero_le _, rfl, Below.refl _ _, fun i _ hi => absurd hi (by omega)⟩
  case round =>
    obtain ⟨k, hk, rfl, hbl, hok⟩ := hrel
    have HOK := Lib.hid hok
    have hz := hbl.size
    clear hok
    by_cases hlt : k < ns.length
    · obtain ⟨b1, off, rfl, hcc⟩ := HAA.out (by omega)
      obtain ⟨p0, p1, p2⟩ := pit_at (fun j u hu => below_cell hbl (hcc j u hu)) k hlt
      have HBad := Lib.hid (fun hv => stackF_1 (arePits_bad (a := 4) (b := 4) hlt hv))
      have HSt := Lib.hid (fun (hv : pitchValid ns[k] = true) => show ∀ i (h : i < ns.length), i < k + 1 → pitchValid ns[i] = true from fun i h hi => by
        rcases Nat.lt_succ_iff_lt_or_eq.1 hi with h3 | rfl
        · exact HOK.out i h h3
        · exact hv)
      have hk1 : (0 : Int) ≤ (k : Int) := by omega
      have hk2 : (k : Int) < (ns.length : Int) := by omega
      generalize ns[k] = x at *
      obtain ⟨xs, xa, xo⟩ := x
      clear hcc
      cases hv : pitchValid ⟨xs, xa, xo⟩
      · have HF := Lib.hid (HBad.out hv)
        go_wp2_with (go_at_call 42; (with_reducible refine (c_sPitchValid ⟨xs, xa, xo⟩ _).mono ?_); rintro e wq ⟨rfl, hbq⟩; have hzq := hbq.size; (try simp only [size_alloc', size_setCell', size_drew', size_drewN'] at hzq); skip)
        go_ret
        exact ⟨ret_int HF.out.symm, HB0.out.trans (Below.mono (by (repeat' (first | (with_reducible exact Below.refl _ _) | (with_reducible refine Below.setCell ?_ ?_ _) | (with_reducible refine Below.alloc ?_ ?_ _) | (with_reducible refine Below.drew ?_) | (with_reducible refine below_drewN ?_ _) | (with_reducible refine Below.trans ?_ (Below.mono (by with_reducible assumption) ?_)) | omega | (simp only [size_alloc', size_setCell', size_drew', size_drewN'] at *; omega)))) HB0.out.size)⟩
      · have HF := Lib.hid (HSt.out hv)
        go_wp2_with (go_at_call 42; (with_reducible refine (c_sPitchValid ⟨xs, xa, xo⟩ _).mono ?_); rintro e wq ⟨rfl, hbq⟩; have hzq := hbq.size; (try simp only [size_alloc', size_setCell', size_drew', size_drewN'] at hzq); skip)
        go_roundw
        case rel => exact ⟨k + 1, by omega, by go_num, by (repeat' (first | (with_reducible exact Below.refl _ _) | (with_reducible refine Below.setCell ?_ ?_ _) | (with_reducible refine Below.alloc ?_ ?_ _) | (with_reducible refine Below.drew ?_) | (with_reducible refine below_drewN ?_ _) | (with_reducible refine Below.trans ?_ (Below.mono (by with_reducible assumption) ?_)) | omega | (simp only [size_alloc', size_setCell', size_drew', size_drewN'] at *; omega))), HF.out⟩
        case measure => simp [intOf]; omega
    · by_cases hl4 : ns.length = 4
      · have HAP := Lib.hid (show arePits ns 4 4 = true from arePits_iff.2 ⟨by omega, fun i h => HOK.out i h (by omega)⟩)
        have hle1 : ns.length ≤ 4 := by omega
        have hle2 : 4 ≤ ns.length := by omega
        have hne4 : ((ns.length : Int) != 4) = false := by simp; omega
        have HL0 := Lib.hid (below_heap hbl HL0.out)
        have HH0 := Lib.hid (below_heap hbl HH0.out)
        clear hl4
        have HB0 := Lib.hid (HB0.out.trans (hbl.mono HB0.out.size))
        have HR := Lib.hid (HR.out.below (Nat.le_refl _) hbl)
        clear HAA
        obtain ⟨_, A0, c0, he0, _, _, hA0⟩ := HR.out
        cases he0
        have HAA := Lib.hid hA0
        clear hA0
        clear HOK hbl
        obtain ⟨W0, rfl⟩ : ∃ W0 : World, W0 = wr := ⟨_, rfl⟩
        go_wp2_with fail
        clear hne4
        go_loopw [6] (fun i wr => ∃ j : Nat, j ≤ 3 ∧ i = .int .i64 ((j : Int) + 1) ∧ Below W0.heap.size W0 wr ∧ Asc ns j) (fun i _ => 4 - (intOf i).toNat)
        case atStart => exact ⟨0, by omega, rfl, Below.refl _ _, fun i hi => absurd hi (by omega)⟩
        case round =>
          obtain ⟨j, hj, rfl, hbl, hok⟩ := hrel
          have HOK := Lib.hid hok
          have hz := hbl.size
          clear hok
          by_cases hlt : j < 3
          · obtain ⟨b1, off, rfl, hcc⟩ := HAA.out (by omega)
            obtain ⟨⟨xs, xa, xo⟩, ⟨ys, ya, yo⟩, -, -, hpx, hpy, ⟨p0, p1, p2⟩, ⟨q0, q1, q2⟩⟩ := pit_pair (fun j u hu => below_cell hbl (hcc j u hu)) j (by omega)
            dsimp only at p0 p1 p2 q0 q1 q2
            obtain ⟨X, hX⟩ : ∃ X, keyOf ⟨xs, xa, xo⟩ = X := ⟨_, rfl⟩
            obtain ⟨Y, hY⟩ : ∃ Y, keyOf ⟨ys, ya, yo⟩ = Y := ⟨_, rfl⟩
            have hXb := keyOf_bd ⟨xs, xa, xo⟩
            have hYb := keyOf_bd ⟨ys, ya, yo⟩
            rw [hX] at hpx hXb
            rw [hY] at hpy hYb
            have HXK := Lib.hid (fun w => show Calls Try.prog 43 #[.agg #[.int .i64 xs, .int .i64 xa, .int .i64 xo]] w fun e w' => e = .returned (.int .i64 X) ∧ Below w.heap.size w w' by have := c_sPitchKey ⟨xs, xa, xo⟩ w; rw [hX] at this; exact this)
            have HYK := Lib.hid (fun w => show Calls Try.prog 43 #[.agg #[.int .i64 ys, .int .i64 ya, .int .i64 yo]] w fun e w' => e = .returned (.int .i64 Y) ∧ Below w.heap.size w w' by have := c_sPitchKey ⟨ys, ya, yo⟩ w; rw [hY] at this; exact this)
            have HPX := Lib.hid hpx
            have HPY := Lib.hid hpy
            obtain ⟨hXb1, hXb2⟩ := hXb
            obtain ⟨hYb1, hYb2⟩ := hYb
            have hj1 : (0 : Int) ≤ (j : Int) := by omega
            have hj2 : (j : Int) + 1 < (ns.length : Int) := by omega
            clear hcc hpx hpy hX hY
            by_cases hc : X < Y
            · have HF := Lib.hid (stackF_2 HAP.out hlt (by rw [HPX.out, HPY.out]; exact hc))
              go_wp2_with fail
              (refine wp_region_more_lit (by kernel_rfl) (by kernel_rfl) ?_; (repeat (go_big_quiet_step ((first | (go_at_call 43; with_reducible exact Calls.more_of (HXK.out _)) | (go_at_call 43; with_reducible exact Calls.more_of (HYK.out _)))))); refine wpQuiet_nil ?_; intro wq hwq; have hbq := below_of_more hwq; clear hwq; have hzq := hbq.size; (try simp only [size_alloc', size_setCell', size_drew', size_drewN'] at hzq); (try (refine keep_heap (b := w.heap.size) hbq ?_ ?_; (first | omega | (simp only [size_alloc', size_setCell', size_drew', size_drewN']; omega)); intro hkq; simp only [heap_alloc_get, heap_setCell_get, heap_drew_get, heap_drewN_get, size_alloc', size_setCell', size_drew', size_drewN', nat_simp1, nat_simp2, nat_simp3, nat_simp4, nat_simp5, if_true, if_false, *] at hkq; obtain ⟨_, _⟩ := blk_facts hkq)); skip)
              go_wp2
              go_ret
              exact ⟨ret_int HF.out.symm, HB0.out.trans ((hbl.trans (hbq.mono hz)).mono HB0.out.size)⟩
            · have HN := Lib.hid (HOK.out.next (by rw [HPX.out, HPY.out]; exact hc))
              go_wp2_with fail
              (refine wp_region_more_lit (by kernel_rfl) (by kernel_rfl) ?_; (repeat (go_big_quiet_step ((first | (go_at_call 43; with_reducible exact Calls.more_of (HXK.out _)) | (go_at_call 43; with_reducible exact Calls.more_of (HYK.out _)))))); refine wpQuiet_nil ?_; intro wq hwq; have hbq := below_of_more hwq; clear hwq; have hzq := hbq.size; (try simp only [size_alloc', size_setCell', size_drew', size_drewN'] at hzq); (try (refine keep_heap (b := w.heap.size) hbq ?_ ?_; (first | omega | (simp only [size_alloc', size_setCell', size_drew', size_drewN']; omega)); intro hkq; simp only [heap_alloc_get, heap_setCell_get, heap_drew_get, heap_drewN_get, size_alloc', size_setCell', size_drew', size_drewN', nat_simp1, nat_simp2, nat_simp3, nat_simp4, nat_simp5, if_true, if_false, *] at hkq; obtain ⟨_, _⟩ := blk_facts hkq)); skip)
              go_wp2
              go_roundw
              case rel => exact ⟨j + 1, by omega, by go_num, by (repeat' (first | (with_reducible exact Below.refl _ _) | (with_reducible refine Below.setCell ?_ ?_ _) | (with_reducible refine Below.alloc ?_ ?_ _) | (with_reducible refine Below.drew ?_) | (with_reducible refine below_drewN ?_ _) | (with_reducible refine Below.trans ?_ (Below.mono (by with_reducible assumption) ?_)) | omega | (simp only [size_alloc', size_setCell', size_drew', size_drewN'] at *; omega))), HN.out⟩
              case measure => simp [intOf]; omega
          · have H2 := Lib.hid (show Asc ns 3 from fun i hi => HOK.out i (by omega))
            have HL0 := Lib.hid (below_heap hbl HL0.out)
            have HH0 := Lib.hid (below_heap hbl HH0.out)
            have HB0 := Lib.hid (HB0.out.trans (hbl.mono HB0.out.size))
            have HR := Lib.hid (HR.out.below (Nat.le_refl _) hbl)
            clear HAA
            obtain ⟨_, A0, c0, he0, _, _, hA0⟩ := HR.out
            cases he0
            have HAA := Lib.hid hA0
            clear hA0
            clear HOK hbl
            obtain ⟨W0, rfl⟩ : ∃ W0 : World, W0 = wr := ⟨_, rfl⟩
            go_wp2_with fail
            go_loopw [7] (fun i wr => ∃ j : Nat, 1 ≤ j ∧ j ≤ 3 ∧ i = .int .i64 ((j : Int) + 1) ∧ Below W0.heap.size W0 wr ∧ Spc ns j) (fun i _ => 4 - (intOf i).toNat)
            case atStart => exact ⟨1, by omega, by omega, rfl, Below.refl _ _, fun i _ hi => absurd hi (by omega)⟩
            case round =>
              obtain ⟨j, hj1', hj, rfl, hbl, hok⟩ := hrel
              have HOK := Lib.hid hok
              have hz := hbl.size
              clear hok
              by_cases hlt : j < 3
              · obtain ⟨b1, off, rfl, hcc⟩ := HAA.out (by omega)
                obtain ⟨⟨xs, xa, xo⟩, ⟨ys, ya, yo⟩, -, -, hpx, hpy, ⟨p0, p1, p2⟩, ⟨q0, q1, q2⟩⟩ := pit_pair (fun j u hu => below_cell hbl (hcc j u hu)) j (by omega)
                dsimp only at p0 p1 p2 q0 q1 q2
                obtain ⟨X, hX⟩ : ∃ X, keyOf ⟨xs, xa, xo⟩ = X := ⟨_, rfl⟩
                obtain ⟨Y, hY⟩ : ∃ Y, keyOf ⟨ys, ya, yo⟩ = Y := ⟨_, rfl⟩
                have hXb := keyOf_bd ⟨xs, xa, xo⟩
                have hYb := keyOf_bd ⟨ys, ya, yo⟩
                rw [hX] at hpx hXb
                rw [hY] at hpy hYb
                have HXK := Lib.hid (fun w => show Calls Try.prog 43 #[.agg #[.int .i64 xs, .int .i64 xa, .int .i64 xo]] w fun e w' => e = .returned (.int .i64 X) ∧ Below w.heap.size w w' by have := c_sPitchKey ⟨xs, xa, xo⟩ w; rw [hX] at this; exact this)
                have HYK := Lib.hid (fun w => show Calls Try.prog 43 #[.agg #[.int .i64 ys, .int .i64 ya, .int .i64 yo]] w fun e w' => e = .returned (.int .i64 Y) ∧ Below w.heap.size w w' by have := c_sPitchKey ⟨ys, ya, yo⟩ w; rw [hY] at this; exact this)
                have HPX := Lib.hid hpx
                have HPY := Lib.hid hpy
                obtain ⟨hXb1, hXb2⟩ := hXb
                obtain ⟨hYb1, hYb2⟩ := hYb
                have hj1 : (0 : Int) ≤ (j : Int) := by omega
                have hj2 : (j : Int) + 1 < (ns.length : Int) := by omega
                clear hcc hpx hpy hX hY
                by_cases hc : 12 < X - Y
                · have HF := Lib.hid (stackF_3 HAP.out H2.out ⟨hj1', hlt⟩ (by rw [HPX.out, HPY.out]; exact hc))
                  go_wp2_with fail
                  (refine wp_region_more_lit (by kernel_rfl) (by kernel_rfl) ?_; (repeat (go_big_quiet_step ((first | (go_at_call 43; with_reducible exact Calls.more_of (HXK.out _)) | (go_at_call 43; with_reducible exact Calls.more_of (HYK.out _)))))); refine wpQuiet_nil ?_; intro wq hwq; have hbq := below_of_more hwq; clear hwq; have hzq := hbq.size; (try simp only [size_alloc', size_setCell', size_drew', size_drewN'] at hzq); (try (refine keep_heap (b := w.heap.size) hbq ?_ ?_; (first | omega | (simp only [size_alloc', size_setCell', size_drew', size_drewN']; omega)); intro hkq; simp only [heap_alloc_get, heap_setCell_get, heap_drew_get, heap_drewN_get, size_alloc', size_setCell', size_drew', size_drewN', nat_simp1, nat_simp2, nat_simp3, nat_simp4, nat_simp5, if_true, if_false, *] at hkq; obtain ⟨_, _⟩ := blk_facts hkq)); skip)
                  go_wp2
                  go_ret
                  exact ⟨ret_int HF.out.symm, HB0.out.trans ((hbl.trans (hbq.mono hz)).mono HB0.out.size)⟩
                · have HN := Lib.hid (HOK.out.next (by rw [HPX.out, HPY.out]; exact hc))
                  go_wp2_with fail
                  (refine wp_region_more_lit (by kernel_rfl) (by kernel_rfl) ?_; (repeat (go_big_quiet_step ((first | (go_at_call 43; with_reducible exact Calls.more_of (HXK.out _)) | (go_at_call 43; with_reducible exact Calls.more_of (HYK.out _)))))); refine wpQuiet_nil ?_; intro wq hwq; have hbq := below_of_more hwq; clear hwq; have hzq := hbq.size; (try simp only [size_alloc', size_setCell', size_drew', size_drewN'] at hzq); (try (refine keep_heap (b := w.heap.size) hbq ?_ ?_; (first | omega | (simp only [size_alloc', size_setCell', size_drew', size_drewN']; omega)); intro hkq; simp only [heap_alloc_get, heap_setCell_get, heap_drew_get, heap_drewN_get, size_alloc', size_setCell', size_drew', size_drewN', nat_simp1, nat_simp2, nat_simp3, nat_simp4, nat_simp5, if_true, if_false, *] at hkq; obtain ⟨_, _⟩ := blk_facts hkq)); skip)
                  go_wp2
                  go_roundw
                  case rel => exact ⟨j + 1, by omega, by omega, by go_num, by (repeat' (first | (with_reducible exact Below.refl _ _) | (with_reducible refine Below.setCell ?_ ?_ _) | (with_reducible refine Below.alloc ?_ ?_ _) | (with_reducible refine Below.drew ?_) | (with_reducible refine below_drewN ?_ _) | (with_reducible refine Below.trans ?_ (Below.mono (by with_reducible assumption) ?_)) | omega | (simp only [size_alloc', size_setCell', size_drew', size_drewN'] at *; omega))), HN.out⟩
                  case measure => simp [intOf]; omega
              · have H3 := Lib.hid (show Spc ns 3 from fun i h1 hi => HOK.out i h1 (by omega))
                have HL0 := Lib.hid (below_heap hbl HL0.out)
                have HH0 := Lib.hid (below_heap hbl HH0.out)
                have HB0 := Lib.hid (HB0.out.trans (hbl.mono HB0.out.size))
                have HR := Lib.hid (HR.out.below (Nat.le_refl _) hbl)
                clear HAA
                obtain ⟨_, A0, c0, he0, _, _, hA0⟩ := HR.out
                cases he0
                have HAA := Lib.hid hA0
                clear hA0
                clear HOK hbl
                obtain ⟨W0, rfl⟩ : ∃ W0 : World, W0 = wr := ⟨_, rfl⟩
                go_wp2_with fail
                go_loopw [8] (fun i wr => ∃ j : Nat, j ≤ 4 ∧ i = .int .i64 j ∧ Below W0.heap.size W0 wr ∧ InR ns j) (fun i _ => 4 - (intOf i).toNat)
                case atStart => exact ⟨0, by omega, rfl, Below.refl _ _, fun i hi => absurd hi (by omega)⟩
                case round =>
                  obtain ⟨j, hj, rfl, hbl, hok⟩ := hrel
                  have HOK := Lib.hid hok
                  have hz := hbl.size
                  clear hok
                  by_cases hlt : j < 4
                  · obtain ⟨b1, off, rfl, hcc⟩ := HAA.out (by omega)
                    obtain ⟨p0, p1, p2⟩ := pit_at (fun j u hu => below_cell hbl (hcc j u hu)) j (by omega)
                    have hlo : wr.cell? ⟨w.heap.size, j, none⟩ = some (.int .i64 (loK j)) := tab_cell hlt 28 36 43 48 (below_heap hbl HL0.out)
                    have hhi : wr.cell? ⟨w.heap.size + 1, j, none⟩ = some (.int .i64 (hiK j)) := tab_cell hlt 48 55 62 67 (below_heap hbl HH0.out)
                    have HPX := Lib.hid (pk_get (ns := ns) (i := j) (by omega))
                    have hj1 : (0 : Int) ≤ (j : Int) := by omega
                    have hj2 : (j : Int) < (ns.length : Int) := by omega
                    have hj3 : (j : Int) < 4 := by omega
                    generalize ns[j] = x at *
                    obtain ⟨xs, xa, xo⟩ := x
                    clear hcc
                    dsimp only at p0 p1 p2
                    cases hc : inB (keyOf ⟨xs, xa, xo⟩) (loK j) (hiK j)
                    · have HF := Lib.hid (stackF_4 HAP.out H2.out H3.out hlt (by rw [HPX.out]; exact hc))
                      go_wp2_with fail
                      (refine wp_region_more_lit (by kernel_rfl) (by kernel_rfl) ?_; (repeat (go_big_quiet_step ((first | (go_at_call 43; with_reducible exact Calls.more_of (c_sPitchKey ⟨xs, xa, xo⟩ _)) | (go_at_call 44; with_reducible exact Calls.more_same (c_l1In _ _ _ _)))))); refine wpQuiet_nil ?_; intro wq hwq; have hbq := below_of_more hwq; clear hwq; have hzq := hbq.size; (try simp only [size_alloc', size_setCell', size_drew', size_drewN'] at hzq); (try (refine keep_heap (b := w.heap.size) hbq ?_ ?_; (first | omega | (simp only [size_alloc', size_setCell', size_drew', size_drewN']; omega)); intro hkq; simp only [heap_alloc_get, heap_setCell_get, heap_drew_get, heap_drewN_get, size_alloc', size_setCell', size_drew', size_drewN', nat_simp1, nat_simp2, nat_simp3, nat_simp4, nat_simp5, if_true, if_false, *] at hkq; obtain ⟨_, _⟩ := blk_facts hkq)); skip)
                      rw [hc]
                      go_wp2
                      go_ret
                      exact ⟨ret_int HF.out.symm, HB0.out.trans ((hbl.trans (hbq.mono hz)).mono HB0.out.size)⟩
                    · have HN := Lib.hid (HOK.out.next (by rw [HPX.out]; exact hc))
                      go_wp2_with fail
                      (refine wp_region_more_lit (by kernel_rfl) (by kernel_rfl) ?_; (repeat (go_big_quiet_step ((first | (go_at_call 43; with_reducible exact Calls.more_of (c_sPitchKey ⟨xs, xa, xo⟩ _)) | (go_at_call 44; with_reducible exact Calls.more_same (c_l1In _ _ _ _)))))); refine wpQuiet_nil ?_; intro wq hwq; have hbq := below_of_more hwq; clear hwq; have hzq := hbq.size; (try simp only [size_alloc', size_setCell', size_drew', size_drewN'] at hzq); (try (refine keep_heap (b := w.heap.size) hbq ?_ ?_; (first | omega | (simp only [size_alloc', size_setCell', size_drew', size_drewN']; omega)); intro hkq; simp only [heap_alloc_get, heap_setCell_get, heap_drew_get, heap_drewN_get, size_alloc', size_setCell', size_drew', size_drewN', nat_simp1, nat_simp2, nat_simp3, nat_simp4, nat_simp5, if_true, if_false, *] at hkq; obtain ⟨_, _⟩ := blk_facts hkq)); skip)
                      rw [hc]
                      go_wp2
                      go_roundw
                      case rel => exact ⟨j + 1, by omega, by go_num, by (repeat' (first | (with_reducible exact Below.refl _ _) | (with_reducible refine Below.setCell ?_ ?_ _) | (with_reducible refine Below.alloc ?_ ?_ _) | (with_reducible refine Below.drew ?_) | (with_reducible refine below_drewN ?_ _) | (with_reducible refine Below.trans ?_ (Below.mono (by with_reducible assumption) ?_)) | omega | (simp only [size_alloc', size_setCell', size_drew', size_drewN'] at *; omega))), HN.out⟩
                      case measure => simp [intOf]; omega
                  · have HF := Lib.hid (stackF_0 HAP.out H2.out H3.out (fun i hi => HOK.out i (by omega)))
                    go_wp2
                    go_ret
                    exact ⟨ret_int HF.out.symm, HB0.out.trans (hbl.mono HB0.out.size)⟩
      · have HF := Lib.hid (show stackF ns = 1 from stackF_1 (by
          cases ha : arePits ns 4 4
          · rfl
          · have := (arePits_iff.1 ha).1; omega))
        have hne4 : ((ns.length : Int) != 4) = true := by simp; omega
        clear hl4
        go_wp2
        go_ret
        exact ⟨ret_int HF.out.symm, HB0.out.trans (hbl.mono HB0.out.size)⟩
end Go.Proofs.Ytlhekgjckjcbhaa
