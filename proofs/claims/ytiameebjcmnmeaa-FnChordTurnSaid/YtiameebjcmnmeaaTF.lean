/- The walk of FnChordOf. Conditions: none. -/
import Derived.Test.YtiameebjcmnmeaaTE
import Derived.Test.YtiameebjcmnmeaaTA
namespace Go.Proofs.Ytiameebjcmnmeaa
open Go.RowKit
set_option linter.unusedSimpArgs false
set_option linter.unusedVariables false
set_option maxHeartbeats 16000000
theorem run_eql_pit (s a o : Int) (w : World) :
    (binOp .eql 32 (.agg #[.int .i64 s, .int .i64 a, .int .i64 o]) (.agg #[.int .i64 s, .int .i64 a, .int .i64 o])).run Try.prog w = .ok (.bool true) w := by
  simp [go_sem]
theorem co_some {p : Pit} {kind : Int} {t : List Pit} (w : World) (h : chordOf p kind = some t) {e : Ending} {w' : World} (hp : ChordPost (chordOf p kind) w e w') :
    ∃ v, e = .returned (.tuple #[v, .bool true]) ∧ w'.ownsRow w.heap.size 32 3 v t.length (pitCells t) ∧ Below w.heap.size w w' := by
  rw [h] at hp
  obtain ⟨v, h1, h2, _, h4⟩ := hp
  exact ⟨v, h1, h2, h4⟩
theorem co_none {p : Pit} {kind : Int} (w : World) (h : chordOf p kind = none) {e : Ending} {w' : World} (hp : ChordPost (chordOf p kind) w e w') :
    ∃ v, e = .returned (.tuple #[v, .bool false]) ∧ w'.ownsRow w.heap.size 32 3 v 0 (pitCells []) ∧ Below w.heap.size w w' := by
  rw [h] at hp
  obtain ⟨v, h1, h2, _, h4⟩ := hp
  exact ⟨v, h1, h2, h4⟩
theorem c_samePitches_nil (u v : Value) (w : World) (ha : Rd w u 3 0 (pitCells [])) (hb : Rd w v 3 0 (pitCells [])) :
    Calls Try.prog 12 #[u, v] w fun e w' => e = .returned (.bool true) ∧ Below w.heap.size w w' := c_samePitches_eq u v [] w ha hb
set_option maxRecDepth 100000 in
theorem walk_FnChordOf (w : World) (v : Value) (bs : List Int) (h : Rd w v 1 bs.length (byteCells bs)) (hb : ∀ x ∈ bs, 0 ≤ x ∧ x ≤ 255) :
    Calls Try.prog 4 #[v] w fun e w' => e = .returned (.bool true) ∧ Below w.heap.size w w' := by
  have h' := Lib.hid h
  obtain ⟨_, A, c, rfl, hnc, hcm, hA⟩ := h
  unfold maxLen at hcm
  clear hA
  have HBB := Lib.hid hb
  clear hb
  by_cases hlen : (bs.length : Int) ≤ 1048576
  · have hln : ¬ (1048576 < (bs.length : Int)) := by omega
    go_enter Try.func4, Try.ntmps4
    go_wp2_with fail
    (go_at_call 19; (with_reducible refine (c_DrawChordOf _ bs _ h'.out HBB.out).mono ?_); rintro e w1 ⟨⟨s, a, o⟩, kind, rfl, hsm, hb1⟩)
    have H5 := Lib.hid (heap_alloc_new w1 (.cells #[.int .i64 s, .int .i64 a, .int .i64 o] 32))
    have S := hb1.alloc hb1.size (.cells #[.int .i64 s, .int .i64 a, .int .i64 o] 32)
    clear hsm
    cases ho : chordOf ⟨s, a, o⟩ kind with
    | none =>
      have HO := Lib.hid ho
      clear ho
      go_wp2_with fail
      (go_at_call 20; (with_reducible refine (c_ChordOf ⟨s, a, o⟩ kind _).mono ?_); rintro e w2 hpost; obtain ⟨v2, rfl, ho2, hb2⟩ := co_none _ HO.out hpost)
      have S := S.trans (hb2.mono S.size)
      have HX2 := Lib.hid (Rd.of_own ho2)
      have HP2 := Lib.hid (below_heap hb2 H5.out)
      clear ho2 hpost
      obtain ⟨_, Ax, cx, rfl, hnx, hcx, hAx⟩ := HX2.out
      unfold maxLen at hcx
      clear hAx
      obtain ⟨_, _⟩ := blk_facts HP2.out
      go_wp2_with fail
      (go_at_call 21; (with_reducible refine (c_sChordOf ⟨s, a, o⟩ kind _).mono ?_); rintro e w3 hpost; obtain ⟨v3, rfl, ho3, hb3⟩ := co_none _ HO.out hpost)
      have S := S.trans (hb3.mono S.size)
      have HW3 := Lib.hid (Rd.of_own ho3)
      have HX3 := Lib.hid (HX2.out.below (Nat.le_refl _) hb3)
      have HP3 := Lib.hid (below_heap hb3 HP2.out)
      clear ho3 hpost
      go_wp2_with fail
      (go_at_call 12; (with_reducible refine (c_samePitches_nil _ _ _ HX3.out HW3.out).mono ?_); rintro e w4 ⟨rfl, hb4⟩)
      have S := S.trans (hb4.mono S.size)
      have HX4 := Lib.hid (HX3.out.below (Nat.le_refl _) hb4)
      have HP4 := Lib.hid (below_heap hb4 HP3.out)
      clear hb1 hb2 hb3 hb4
      go_wp2_with fail
      (go_at_call 14; (with_reducible refine (c_alive _).mono ?_); rintro e wz ⟨rfl, hbz⟩; have S := S.trans (hbz.mono S.size))
      go_wp2
      go_ret
      exact ⟨rfl, S⟩
    | some t =>
      have HO := Lib.hid ho
      have h34 := chord_len34 ho
      have hT := Lib.hid (chord_thirds ho)
      have HNm := Lib.hid (name_chord ho)
      have HZr := Lib.hid (chord_zero ho)
      clear ho
      go_wp2_with fail
      (go_at_call 20; (with_reducible refine (c_ChordOf ⟨s, a, o⟩ kind _).mono ?_); rintro e w2 hpost; obtain ⟨v2, rfl, ho2, hb2⟩ := co_some _ HO.out hpost)
      have S := S.trans (hb2.mono S.size)
      have HX2 := Lib.hid (Rd.of_own ho2)
      have HP2 := Lib.hid (below_heap hb2 H5.out)
      clear ho2 hpost
      obtain ⟨_, Ax, cx, rfl, hnx, hcx, hAx⟩ := HX2.out
      unfold maxLen at hcx
      clear hAx
      obtain ⟨_, _⟩ := blk_facts HP2.out
      go_wp2_with fail
      (go_at_call 21; (with_reducible refine (c_sChordOf ⟨s, a, o⟩ kind _).mono ?_); rintro e w3 hpost; obtain ⟨v3, rfl, ho3, hb3⟩ := co_some _ HO.out hpost)
      have S := S.trans (hb3.mono S.size)
      have HW3 := Lib.hid (Rd.of_own ho3)
      have HX3 := Lib.hid (HX2.out.below (Nat.le_refl _) hb3)
      have HP3 := Lib.hid (below_heap hb3 HP2.out)
      clear ho3 hpost
      go_wp2_with fail
      (go_at_call 12; (with_reducible refine (c_samePitches_eq _ _ t _ HX3.out HW3.out).mono ?_); rintro e w4 ⟨rfl, hb4⟩)
      have S := S.trans (hb4.mono S.size)
      have HX4 := Lib.hid (HX3.out.below (Nat.le_refl _) hb4)
      have HP4 := Lib.hid (below_heap hb4 HP3.out)
      clear hb1 hb2 hb3 hb4
      obtain ⟨_, Ax4, cx4, he4, _, _, hAx4⟩ := HX4.out
      cases he4
      have HAX := Lib.hid hAx4
      have HS := Lib.hid S
      clear hAx4 S
      go_wp2_with fail
      go_loopw [9] (fun i wr => ∃ k : Nat, k + 1 ≤ t.length ∧ i = .int .i64 ((k : Int) + 1) ∧ Below w4.heap.size w4 wr) (fun i _ => t.length - (intOf i).toNat)
      case atStart => exact ⟨0, by omega, rfl, Below.refl _ _⟩
      case round =>
        obtain ⟨k, hk, rfl, hbl⟩ := hrel
        have hz := hbl.size
        by_cases hlt : k + 1 < t.length
        · obtain ⟨b1, off, rfl, hcc⟩ := HAX.out (by omega)
          obtain ⟨p0, p1, p2⟩ := pit_at (fun j u hu => below_cell hbl (hcc j u hu)) (k + 1) hlt
          obtain ⟨q0, q1, q2⟩ := pit_at (fun j u hu => below_cell hbl (hcc j u hu)) k (by omega)
          have hth := hT.out k hlt
          have hbdk := keyOf_bd t[k]
          have hbdp := pitPlace_bd t[k]
          have hk1 : (0 : Int) ≤ (k : Int) := by omega
          have hk2 : (k : Int) + 1 < (t.length : Int) := by omega
          generalize t[k + 1] = x at *
          generalize t[k] = y at *
          obtain ⟨xs, xa, xo⟩ := x
          obtain ⟨ys, ya, yo⟩ := y
          dsimp only at p0 p1 p2 q0 q1 q2
          clear hcc
          obtain ⟨X, hX⟩ : ∃ X, keyOf ⟨xs, xa, xo⟩ = X := ⟨_, rfl⟩
          obtain ⟨Y, hY⟩ : ∃ X, keyOf ⟨ys, ya, yo⟩ = X := ⟨_, rfl⟩
          obtain ⟨XP, hXP⟩ : ∃ X, pitPlace ⟨xs, xa, xo⟩ = X := ⟨_, rfl⟩
          obtain ⟨YP, hYP⟩ : ∃ X, pitPlace ⟨ys, ya, yo⟩ = X := ⟨_, rfl⟩
          rw [hX, hY, hXP, hYP] at hth
          rw [hY] at hbdk
          rw [hYP] at hbdp
          obtain ⟨hbk1, hbk2⟩ := hbdk
          obtain ⟨hbp1, hbp2⟩ := hbdp
          obtain ⟨hpl, hky⟩ := hth
          have hpl2 : XP = YP + 2 := by omega
          rw [hpl2] at hXP
          have HYK := Lib.hid (fun w => show Calls Try.prog 22 #[.agg #[.int .i64 ys, .int .i64 ya, .int .i64 yo]] w fun e w' => e = .returned (.int .i64 Y) ∧ Below w.heap.size w w' by have := c_PitchKey ⟨ys, ya, yo⟩ w; rw [hY] at this; exact this)
          have HXP := Lib.hid (fun w => show Calls Try.prog 23 #[.agg #[.int .i64 xs, .int .i64 xa, .int .i64 xo]] w fun e w' => e = .returned (.int .i64 (YP + 2)) ∧ Below w.heap.size w w' by have := c_PitchPlace ⟨xs, xa, xo⟩ w; rw [hXP] at this; exact this)
          have HYP := Lib.hid (fun w => show Calls Try.prog 23 #[.agg #[.int .i64 ys, .int .i64 ya, .int .i64 yo]] w fun e w' => e = .returned (.int .i64 YP) ∧ Below w.heap.size w w' by have := c_PitchPlace ⟨ys, ya, yo⟩ w; rw [hYP] at this; exact this)
          clear hY hXP hYP hpl hpl2
          rcases hky with hky | hky
          · obtain rfl : X = Y + 3 := by omega
            clear hky
            have HXK := Lib.hid (fun w => show Calls Try.prog 22 #[.agg #[.int .i64 xs, .int .i64 xa, .int .i64 xo]] w fun e w' => e = .returned (.int .i64 (Y + 3)) ∧ Below w.heap.size w w' by have := c_PitchKey ⟨xs, xa, xo⟩ w; rw [hX] at this; exact this)
            have hd : Y + 3 - Y = 3 := by omega
            have hpd : YP + 2 - YP = 2 := by omega
            go_wp2_with fail
            (refine wp_region_more_lit (by kernel_rfl) (by kernel_rfl) ?_; (repeat (go_big_quiet_step ((first | (go_at_call 22; with_reducible exact Calls.more_of (HXK.out _)) | (go_at_call 22; with_reducible exact Calls.more_of (HYK.out _)))))); refine wpQuiet_nil ?_; intro wq hwq; have hbq := below_of_more hwq; clear hwq; have hzq := hbq.size; (try simp only [size_alloc', size_setCell', size_drew', size_drewN'] at hzq); (try (refine keep_heap (b := w.heap.size) hbq ?_ ?_; (first | omega | (simp only [size_alloc', size_setCell', size_drew', size_drewN']; omega)); intro hkq; simp only [heap_alloc_get, heap_setCell_get, heap_drew_get, heap_drewN_get, size_alloc', size_setCell', size_drew', size_drewN', nat_simp1, nat_simp2, nat_simp3, nat_simp4, nat_simp5, if_true, if_false, *] at hkq; obtain ⟨_, _⟩ := blk_facts hkq)); skip)
            have p0 := below_cell hbq p0
            have p1 := below_cell hbq p1
            have p2 := below_cell hbq p2
            have q0 := below_cell hbq q0
            have q1 := below_cell hbq q1
            have q2 := below_cell hbq q2
            have hbl := hbl.trans (hbq.mono hz)
            have hz := hbl.size
            clear hbq
            go_wp2_with fail
            (refine wp_region_more_lit (by kernel_rfl) (by kernel_rfl) ?_; (repeat (go_big_quiet_step ((first | (go_at_call 23; with_reducible exact Calls.more_of (HXP.out _)) | (go_at_call 23; with_reducible exact Calls.more_of (HYP.out _)))))); refine wpQuiet_nil ?_; intro wq hwq; have hbq := below_of_more hwq; clear hwq; have hzq := hbq.size; (try simp only [size_alloc', size_setCell', size_drew', size_drewN'] at hzq); (try (refine keep_heap (b := w.heap.size) hbq ?_ ?_; (first | omega | (simp only [size_alloc', size_setCell', size_drew', size_drewN']; omega)); intro hkq; simp only [heap_alloc_get, heap_setCell_get, heap_drew_get, heap_drewN_get, size_alloc', size_setCell', size_drew', size_drewN', nat_simp1, nat_simp2, nat_simp3, nat_simp4, nat_simp5, if_true, if_false, *] at hkq; obtain ⟨_, _⟩ := blk_facts hkq)); skip)
            go_wp2_with fail
            go_roundw
            case rel => exact ⟨k + 1, by omega, by go_num, hbl.trans (hbq.mono hz)⟩
            case measure => simp [intOf]; omega
          · obtain rfl : X = Y + 4 := by omega
            clear hky
            have HXK := Lib.hid (fun w => show Calls Try.prog 22 #[.agg #[.int .i64 xs, .int .i64 xa, .int .i64 xo]] w fun e w' => e = .returned (.int .i64 (Y + 4)) ∧ Below w.heap.size w w' by have := c_PitchKey ⟨xs, xa, xo⟩ w; rw [hX] at this; exact this)
            have hd : Y + 4 - Y = 4 := by omega
            have hpd : YP + 2 - YP = 2 := by omega
            go_wp2_with fail
            (refine wp_region_more_lit (by kernel_rfl) (by kernel_rfl) ?_; (repeat (go_big_quiet_step ((first | (go_at_call 22; with_reducible exact Calls.more_of (HXK.out _)) | (go_at_call 22; with_reducible exact Calls.more_of (HYK.out _)))))); refine wpQuiet_nil ?_; intro wq hwq; have hbq := below_of_more hwq; clear hwq; have hzq := hbq.size; (try simp only [size_alloc', size_setCell', size_drew', size_drewN'] at hzq); (try (refine keep_heap (b := w.heap.size) hbq ?_ ?_; (first | omega | (simp only [size_alloc', size_setCell', size_drew', size_drewN']; omega)); intro hkq; simp only [heap_alloc_get, heap_setCell_get, heap_drew_get, heap_drewN_get, size_alloc', size_setCell', size_drew', size_drewN', nat_simp1, nat_simp2, nat_simp3, nat_simp4, nat_simp5, if_true, if_false, *] at hkq; obtain ⟨_, _⟩ := blk_facts hkq)); skip)
            have p0 := below_cell hbq p0
            have p1 := below_cell hbq p1
            have p2 := below_cell hbq p2
            have q0 := below_cell hbq q0
            have q1 := below_cell hbq q1
            have q2 := below_cell hbq q2
            have hbl := hbl.trans (hbq.mono hz)
            have hz := hbl.size
            clear hbq
            go_wp2_with fail
            (refine wp_region_more_lit (by kernel_rfl) (by kernel_rfl) ?_; (repeat (go_big_quiet_step ((first | (go_at_call 23; with_reducible exact Calls.more_of (HXP.out _)) | (go_at_call 23; with_reducible exact Calls.more_of (HYP.out _)))))); refine wpQuiet_nil ?_; intro wq hwq; have hbq := below_of_more hwq; clear hwq; have hzq := hbq.size; (try simp only [size_alloc', size_setCell', size_drew', size_drewN'] at hzq); (try (refine keep_heap (b := w.heap.size) hbq ?_ ?_; (first | omega | (simp only [size_alloc', size_setCell', size_drew', size_drewN']; omega)); intro hkq; simp only [heap_alloc_get, heap_setCell_get, heap_drew_get, heap_drewN_get, size_alloc', size_setCell', size_drew', size_drewN', nat_simp1, nat_simp2, nat_simp3, nat_simp4, nat_simp5, if_true, if_false, *] at hkq; obtain ⟨_, _⟩ := blk_facts hkq)); skip)
            go_wp2_with fail
            go_roundw
            case rel => exact ⟨k + 1, by omega, by go_num, hbl.trans (hbq.mono hz)⟩
            case measure => simp [intOf]; omega
        · have HX5 := Lib.hid (HX4.out.below (Nat.le_refl _) hbl)
          have HP5 := Lib.hid (below_heap hbl HP4.out)
          have S := HS.out.trans (hbl.mono HS.out.size)
          have HNC := Lib.hid (fun v w (h : Rd w v 3 t.length (pitCells t)) => show Calls Try.prog 17 #[v] w fun e w' => e = .returned (.tuple #[.agg #[.int .i64 s, .int .i64 a, .int .i64 4], .int .i64 kind, .int .i64 0, .bool true]) ∧ Below w.heap.size w w' by have := c_NameChord v t w h; rwa [HNm.out] at this)
          go_wp2_with fail
          (go_at_call 17; (with_reducible refine (HNC.out _ _ HX5.out).mono ?_); rintro e w6 ⟨rfl, hb6⟩; have S := S.trans (hb6.mono S.size))
          have S := S.alloc S.size (.cells #[.int .i64 s, .int .i64 a, .int .i64 4] 32)
          have hP6 := below_heap (bel1 w6 (.cells #[.int .i64 s, .int .i64 a, .int .i64 4] 32)) (below_heap hb6 HP5.out)
          obtain ⟨_, _⟩ := blk_facts hP6
          have h0 : 0 < t.length := by omega
          obtain ⟨b1, off, rfl, hcc⟩ := HAX.out h0
          obtain ⟨c0, c1, c2⟩ := pit_at (fun j u hu => below_cell (bel1 w6 (.cells #[.int .i64 s, .int .i64 a, .int .i64 4] 32)) (below_cell hb6 (below_cell hbl (hcc j u hu)))) 0 h0
          rw [HZr.out h0] at c0 c1 c2
          dsimp only at c0 c1 c2
          simp only [Nat.zero_mul, Nat.add_zero] at c0 c1 c2
          have hi0 : (0 : Int) < (t.length : Int) := by omega
          have heq := run_eql_pit s a o
          clear hcc
          go_wp2_with fail
          (refine wp_region_more_lit (by kernel_rfl) (by kernel_rfl) ?_; (repeat (go_big_quiet_step (fail))); refine wpQuiet_nil ?_; intro wq hwq; have hbq := below_of_more hwq; clear hwq; have hzq := hbq.size; (try simp only [size_alloc', size_setCell', size_drew', size_drewN'] at hzq); (try (refine keep_heap (b := w.heap.size) hbq ?_ ?_; (first | omega | (simp only [size_alloc', size_setCell', size_drew', size_drewN']; omega)); intro hkq; simp only [heap_alloc_get, heap_setCell_get, heap_drew_get, heap_drewN_get, size_alloc', size_setCell', size_drew', size_drewN', nat_simp1, nat_simp2, nat_simp3, nat_simp4, nat_simp5, if_true, if_false, *] at hkq; obtain ⟨_, _⟩ := blk_facts hkq)); skip)
          clear heq
          go_wp2
          go_ret
          exact ⟨rfl, S.trans (hbq.mono S.size)⟩
  · have hln : 1048576 < (bs.length : Int) := by omega
    go_enter Try.func4, Try.ntmps4
    go_wp2
    go_ret
    exact ⟨rfl, Below.refl _ _⟩
end Go.Proofs.Ytiameebjcmnmeaa
