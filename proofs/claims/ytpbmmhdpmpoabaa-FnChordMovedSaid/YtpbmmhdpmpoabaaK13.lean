/- The walk of FnChordMoved. Conditions: none. -/
import Derived.Test.YtpbmmhdpmpoabaaK12
import Derived.Test.YtpbmmhdpmpoabaaK11
namespace Go.Proofs.Ytpbmmhdpmpoabaa
open Go.RowKit
set_option linter.unusedSimpArgs false
set_option linter.unusedVariables false
set_option maxHeartbeats 16000000
theorem cp_parts {o : Option (List Pit)} {w : World} {e : Ending} {w' : World} (h : ChordPost o w e w') : ∃ v, e = .returned (.tuple #[v, .bool o.isSome]) ∧ w'.ownsRow w.heap.size 34 3 v (o.getD []).length (pitCells (o.getD [])) ∧ Below w.heap.size w w' := by
  obtain ⟨v, h1, h2, _, h4⟩ := h
  exact ⟨v, h1, h2, h4⟩
set_option maxRecDepth 100000 in
theorem walk_FnChordMoved (w : World) (v : Value) (bs : List Int) (h : Rd w v 1 bs.length (byteCells bs)) (hb : ∀ x ∈ bs, 0 ≤ x ∧ x ≤ 255) (v' : Value) (bs' : List Int) (h' : Rd w v' 1 bs'.length (byteCells bs')) (hb' : ∀ x ∈ bs', 0 ≤ x ∧ x ≤ 255) :
    Calls Try.prog 12 #[v, v'] w fun e w' => e = .returned (.bool true) ∧ Below w.heap.size w w' := by
  have H := Lib.hid h
  have H' := Lib.hid h'
  have HBB := Lib.hid hb
  have HBB' := Lib.hid hb'
  obtain ⟨_, A, c, rfl, hnc, hcm, hA⟩ := h
  obtain ⟨_, A', c', rfl, hnc', hcm', hA'⟩ := h'
  unfold maxLen at hcm hcm'
  clear hA hA' hb hb'
  by_cases hlen : (bs.length : Int) ≤ 1048576
  · have hln : ¬ (1048576 < (bs.length : Int)) := by omega
    by_cases hlen' : (bs'.length : Int) ≤ 1048576
    · have hln' : ¬ (1048576 < (bs'.length : Int)) := by omega
      go_enter Try.func12, Try.ntmps12
      go_wp2_with fail
      (go_at_call 43; (with_reducible refine (c_DrawChordOf _ bs _ H.out HBB.out).mono ?_); rintro e w1 ⟨⟨s, a, o⟩, kind, rfl, hsm, hb1⟩)
      have h5 := heap_alloc_new w1 (.cells #[.int .i64 s, .int .i64 a, .int .i64 o] 34)
      have H5 := Lib.hid h5
      have S := hb1.alloc hb1.size (.cells #[.int .i64 s, .int .i64 a, .int .i64 o] 34)
      have T := Below.refl (w1.alloc (.cells #[.int .i64 s, .int .i64 a, .int .i64 o] 34)).heap.size (w1.alloc (.cells #[.int .i64 s, .int .i64 a, .int .i64 o] 34))
      have hs1 : w1.heap.size < (w1.alloc (.cells #[.int .i64 s, .int .i64 a, .int .i64 o] 34)).heap.size := by simp
      obtain ⟨R, hR⟩ : ∃ R, chordOf ⟨s, a, o⟩ kind = R := ⟨_, rfl⟩
      have HR := Lib.hid hR
      clear h5 hR
      go_wp2_with fail
      (go_at_call 42; (with_reducible refine (c_ChordOf ⟨s, a, o⟩ kind _).mono ?_); rintro e w2 hpost; rw [HR.out] at hpost; obtain ⟨v2, rfl, ho2, hb2⟩ := cp_parts hpost)
      have T := T.trans (hb2.mono T.size)
      have HX2 := Lib.hid (Rd.of_own ho2)
      obtain ⟨_, Ax, cx, rfl, hnx, hcx, hAx⟩ := HX2.out
      unfold maxLen at hcx
      have HAX := Lib.hid hAx
      clear hAx
      have U := Below.refl w2.heap.size w2
      obtain ⟨_, _⟩ := blk_facts (below_heap T H5.out)
      clear ho2 hpost
      go_wp2_with fail
      (go_at_call 40; (with_reducible refine (c_sChordOf ⟨s, a, o⟩ kind _).mono ?_); rintro e w3 hpost; rw [HR.out] at hpost; obtain ⟨v3, rfl, ho3, hb3⟩ := cp_parts hpost)
      have T := T.trans (hb3.mono T.size)
      have U := U.trans (hb3.mono U.size)
      have HW3 := Lib.hid (Rd.of_own ho3)
      clear ho3 hpost
      go_wp2_with fail
      (go_at_call 33; (with_reducible refine (c_samePitches_eq _ _ (R.getD []) _ (HX2.out.below (Nat.le_refl _) U) HW3.out).mono ?_); rintro e w4 ⟨rfl, hb4⟩)
      have T := T.trans (hb4.mono T.size)
      have U := U.trans (hb4.mono U.size)
      have HD' := Lib.hid (H'.out.below (Nat.le_refl _) (S.trans (T.mono S.size)))
      have hbb : (R.isSome != R.isSome) = false := by simp
      go_wp2_with fail
      (go_at_call 44; (with_reducible refine (c_DrawAddInterval _ bs' _ HD'.out HBB'.out).mono ?_); rintro e w5 ⟨⟨ds, da, do_⟩, ⟨is, ih⟩, rfl, hb5⟩)
      have T := T.trans (hb5.mono T.size)
      have U := U.trans (hb5.mono U.size)
      have h5 := below_heap T H5.out
      have T6 := (T.alloc T.size (.cells #[.int .i64 ds, .int .i64 da, .int .i64 do_] 34)).alloc (by have := T.size; simp only [size_alloc'] at *; omega) (.cells #[.int .i64 is, .int .i64 ih] 59)
      have U6 := (U.alloc U.size (.cells #[.int .i64 ds, .int .i64 da, .int .i64 do_] 34)).alloc (by have := U.size; simp only [size_alloc'] at *; omega) (.cells #[.int .i64 is, .int .i64 ih] 59)
      obtain ⟨_, _⟩ := blk_facts (below_heap T6 H5.out)
      obtain ⟨w6, hw6⟩ : ∃ w6 : World, w6 = (w5.alloc (.cells #[.int .i64 ds, .int .i64 da, .int .i64 do_] 34)).alloc (.cells #[.int .i64 is, .int .i64 ih] 59) := ⟨_, rfl⟩
      have h12 : w6.heap[w5.heap.size + 1]? = some (.cells #[.int .i64 is, .int .i64 ih] 59 (0, 0)) := by
        have := heap_alloc_new (w5.alloc (.cells #[.int .i64 ds, .int .i64 da, .int .i64 do_] 34)) (.cells #[.int .i64 is, .int .i64 ih] 59)
        rw [size_alloc'] at this
        rw [hw6]; exact this
      have hs6 : w6.heap.size = w5.heap.size + 1 + 1 := by rw [hw6]; simp
      have H12 := Lib.hid h12
      have S6 := Lib.hid (show Below w.heap.size w w6 by rw [hw6]; exact S.trans (T6.mono S.size))
      have U6' := Lib.hid (show Below w2.heap.size w2 w6 by rw [hw6]; exact U6)
      go_wp2_with fail
      rw [← hw6]
      clear hw6 h12 T6 U6 h5 T U
      rcases addVal_cases (addIv ⟨s, a, o⟩ ⟨is, ih⟩) with ⟨⟨q1, q2, q3⟩, hq⟩ | hq
      · have HQ := Lib.hid hq
        have HW := Lib.hid (fun w => show Calls Try.prog 45 #[.agg #[.int .i64 s, .int .i64 a, .int .i64 o], .agg #[.int .i64 is, .int .i64 ih]] w fun e w' => e = .returned (.tuple #[.agg #[.int .i64 q1, .int .i64 q2, .int .i64 q3], .bool true]) ∧ Below w.heap.size w w' by
          have := c_AddInterval ⟨s, a, o⟩ ⟨is, ih⟩ w
          rw [hq] at this
          exact this)
        clear hq
        (go_at_call 45; (with_reducible refine (HW.out _).mono ?_); rintro e w7 ⟨rfl, hb7⟩)
        have hs7 := hb7.size
        obtain ⟨R2, hR2⟩ : ∃ R2, chordOf ⟨q1, q2, q3⟩ kind = R2 := ⟨_, rfl⟩
        have HR2 := Lib.hid hR2
        have S7 := Lib.hid (S6.out.trans ((hb7.alloc hb7.size (.cells #[.int .i64 q1, .int .i64 q2, .int .i64 q3] 34)).mono S6.out.size))
        have U7 := Lib.hid (U6'.out.trans ((hb7.alloc hb7.size (.cells #[.int .i64 q1, .int .i64 q2, .int .i64 q3] 34)).mono U6'.out.size))
        have V7 := Lib.hid (hb7.alloc hb7.size (.cells #[.int .i64 q1, .int .i64 q2, .int .i64 q3] 34))
        clear hR2 hb7
        go_wp2_with fail
        (go_at_call 42; (with_reducible refine (c_ChordOf ⟨q1, q2, q3⟩ kind _).mono ?_); rintro e w8 hpost; rw [HR2.out] at hpost; obtain ⟨v8, rfl, ho8, hb8⟩ := cp_parts hpost)
        have HY8 := Lib.hid (Rd.of_own ho8)
        obtain ⟨_, Ay, cy, rfl, hny, hcy, hAy⟩ := HY8.out
        unfold maxLen at hcy
        have HAY := Lib.hid hAy
        have S8 := Lib.hid (S7.out.trans (hb8.mono S7.out.size))
        have U8 := Lib.hid (U7.out.trans (hb8.mono U7.out.size))
        have V8 := Lib.hid (V7.out.trans (hb8.mono V7.out.size))
        clear hAy ho8 hb8 hpost
        cases R with
        | none =>
          simp only [Option.isSome_none, Option.getD_none, List.length_nil] at *
          go_wp2_with fail
          go_loopw [17] (fun i wr => i = .int .i64 0 ∧ wr = w8) (fun _ _ => 0)
          case atStart => exact ⟨rfl, rfl⟩
          case round =>
            obtain ⟨rfl, rfl⟩ := hrel
            go_wp2_with fail
            all_goals
              (go_at_call 19; (with_reducible refine (c_alive _).mono ?_); rintro e wz ⟨rfl, hbz⟩)
              go_wp2
              go_ret
              exact ⟨rfl, S8.out.trans (hbz.mono S8.out.size)⟩
        | some x =>
          cases R2 with
          | none =>
            simp only [Option.isSome_some, Option.getD_some, Option.isSome_none, Option.getD_none, List.length_nil] at *
            go_wp2_with fail
            go_loopw [17] (fun i wr => i = .int .i64 0 ∧ wr = w8) (fun _ _ => 0)
            case atStart => exact ⟨rfl, rfl⟩
            case round =>
              obtain ⟨rfl, rfl⟩ := hrel
              go_wp2_with fail
              all_goals
                (go_at_call 19; (with_reducible refine (c_alive _).mono ?_); rintro e wz ⟨rfl, hbz⟩)
                go_wp2
                go_ret
                exact ⟨rfl, S8.out.trans (hbz.mono S8.out.size)⟩
          | some y =>
            obtain ⟨hxy, hget⟩ := chord_moved HR.out HQ.out HR2.out
            have HGET := Lib.hid hget
            have hxy1 : x.length ≤ y.length := by omega
            have hxy2 : y.length ≤ x.length := by omega
            have HAXx := Lib.hid (show 0 < x.length → ∃ b off, Ax = some ⟨b, off, none⟩ ∧ ∀ j u, (pitCells x)[j]? = some u → w2.cell? ⟨b, off + j, none⟩ = some u from HAX.out)
            have HAYy := Lib.hid (show 0 < y.length → ∃ b off, Ay = some ⟨b, off, none⟩ ∧ ∀ j u, (pitCells y)[j]? = some u → w8.cell? ⟨b, off + j, none⟩ = some u from HAY.out)
            clear hget hxy
            simp only [Option.isSome_some, Option.getD_some] at *
            go_wp2_with fail
            go_loopw [17] (fun i wr => ∃ k : Nat, k ≤ x.length ∧ i = .int .i64 k ∧ Below w8.heap.size w8 wr) (fun i _ => x.length - (intOf i).toNat)
            case atStart => exact ⟨0, Nat.zero_le _, rfl, Below.refl _ _⟩
            case round =>
              obtain ⟨k, hk, rfl, hbl⟩ := hrel
              have hz := hbl.size
              by_cases hlt : k < x.length
              · have hlt2 : k < y.length := by omega
                obtain ⟨bx, ox, rfl, hcx'⟩ := HAXx.out (by omega)
                obtain ⟨by1, oy, rfl, hcy'⟩ := HAYy.out (by omega)
                obtain ⟨p0, p1, p2⟩ := pit_at (fun j u hu => below_cell hbl (below_cell U8.out (hcx' j u hu))) k hlt
                obtain ⟨y0, y1, y2⟩ := pit_at (fun j u hu => below_cell hbl (hcy' j u hu)) k hlt2
                have HAdd := Lib.hid (HGET.out k hlt hlt2)
                have h12r := below_heap hbl (below_heap V8.out H12.out)
                have hk1 : (0 : Int) ≤ (k : Int) := by omega
                have hk2 : (k : Int) < (x.length : Int) := by omega
                have hk3 : (k : Int) < (y.length : Int) := by omega
                have hk4 : ¬ (y.length : Int) ≤ (k : Int) := by omega
                have hk5 : ((y.length : Int) ≤ (k : Int)) = False := eq_false (by omega)
                generalize x[k] = xk at *
                generalize y[k] = yk at *
                obtain ⟨xs, xa, xo⟩ := xk
                obtain ⟨ys, ya, yo⟩ := yk
                dsimp only at p0 p1 p2 y0 y1 y2
                have HW2 := Lib.hid (fun w => show Calls Try.prog 45 #[.agg #[.int .i64 xs, .int .i64 xa, .int .i64 xo], .agg #[.int .i64 is, .int .i64 ih]] w fun e w' => e = .returned (.tuple #[.agg #[.int .i64 ys, .int .i64 ya, .int .i64 yo], .bool true]) ∧ Below w.heap.size w w' by
                  have := c_AddInterval ⟨xs, xa, xo⟩ ⟨is, ih⟩ w
                  rw [HAdd.out] at this
                  exact this)
                have hpz0 := below_cell (bel1 wr (.cells #[.int .i64 0, .int .i64 0, .int .i64 0] 34)) p0
                have hpz1 := below_cell (bel1 wr (.cells #[.int .i64 0, .int .i64 0, .int .i64 0] 34)) p1
                have hpz2 := below_cell (bel1 wr (.cells #[.int .i64 0, .int .i64 0, .int .i64 0] 34)) p2
                have h12z := below_heap (bel1 wr (.cells #[.int .i64 0, .int .i64 0, .int .i64 0] 34)) h12r
                obtain ⟨_, _⟩ := blk_facts h12r
                obtain ⟨_, _⟩ := blk_facts h12z
                have Y0 := Lib.hid y0
                have Y1 := Lib.hid y1
                have Y2 := Lib.hid y2
                clear hcx' hcy' h12r h12z y0 y1 y2
                go_wp2_with fail
                go_region_law (first | (go_simp; (go_at_call 45; (with_reducible refine (HW2.out _).mono ?_); rintro e w9 ⟨rfl, hbq⟩; have hzq := hbq.size; (try simp only [size_alloc', size_setCell', size_drew', size_drewN'] at hzq); (try (refine keep_heap (b := wr.heap.size) hbq ?_ ?_; (first | omega | (simp only [size_alloc', size_setCell', size_drew', size_drewN']; omega)); intro hkq; simp only [heap_alloc_get, heap_setCell_get, heap_drew_get, heap_drewN_get, size_alloc', size_setCell', size_drew', size_drewN', nat_simp1, nat_simp2, nat_simp3, nat_simp4, nat_simp5, if_true, if_false, *] at hkq; obtain ⟨_, _⟩ := blk_facts hkq)); skip)))
                all_goals
                  first
                  | (have hh7 : w9.heap[wr.heap.size]? = some (.cells #[.int .i64 0, .int .i64 0, .int .i64 0] 34 (0, 0)) := by assumption
                     have hbr : Below wr.heap.size wr w9 := by (repeat' (first | (with_reducible exact Below.refl _ _) | (with_reducible refine Below.setCell ?_ ?_ _) | (with_reducible refine Below.alloc ?_ ?_ _) | (with_reducible refine Below.drew ?_) | (with_reducible refine below_drewN ?_ _) | (with_reducible refine Below.trans ?_ (Below.mono (by with_reducible assumption) ?_)) | omega | (simp only [size_alloc', size_setCell', size_drew', size_drewN'] at *; omega)))
                     have hbF := below_store3 (o := 0) hbr (Nat.le_refl wr.heap.size) (.int .i64 ys) (.int .i64 ya) (.int .i64 yo)
                     simp only [Nat.zero_add] at hbF
                     obtain ⟨wF, hwF⟩ : ∃ wF : World, wF = ((w9.setCell ⟨wr.heap.size, 0, none⟩ (.int .i64 ys)).setCell ⟨wr.heap.size, 1, none⟩ (.int .i64 ya)).setCell ⟨wr.heap.size, 2, none⟩ (.int .i64 yo) := ⟨_, rfl⟩
                     have hhF : wF.heap[wr.heap.size]? = some (.cells #[.int .i64 ys, .int .i64 ya, .int .i64 yo] 34 (0, 0)) := by
                       rw [hwF]
                       simp only [heap_setCell_get, if_true, hh7, Option.map_some]
                       rfl
                     rw [← hwF] at hbF ⊢
                     clear hwF
                     have y0 := below_cell hbF Y0.out
                     have y1 := below_cell hbF Y1.out
                     have y2 := below_cell hbF Y2.out
                     obtain ⟨_, _⟩ := blk_facts hhF
                     have hnq : ∀ w, (binOp .neq 34 (.agg #[.int .i64 ys, .int .i64 ya, .int .i64 yo]) (.agg #[.int .i64 ys, .int .i64 ya, .int .i64 yo])).run Try.prog w = .ok (.bool false) w := fun w => by
                       have := run_neq_pit ys ya yo ys ya yo w
                       rwa [show pitEq ⟨ys, ya, yo⟩ ⟨ys, ya, yo⟩ = true from pitEq_iff.2 rfl] at this
                     (try simp only [List.getElem_toArray, List.getElem_cons_succ, List.getElem_cons_zero])
                     (try go_frame)
                     go_wp2_with fail
                     (refine wp_region_more_lit (by kernel_rfl) (by kernel_rfl) ?_; (repeat (go_big_quiet_step (fail))); refine wpQuiet_nil ?_; intro wq hwq; have hbq := below_of_more hwq; clear hwq; have hzq := hbq.size; (try simp only [size_alloc', size_setCell', size_drew', size_drewN'] at hzq); (try (refine keep_heap (b := w.heap.size) hbq ?_ ?_; (first | omega | (simp only [size_alloc', size_setCell', size_drew', size_drewN']; omega)); intro hkq; simp only [heap_alloc_get, heap_setCell_get, heap_drew_get, heap_drewN_get, size_alloc', size_setCell', size_drew', size_drewN', nat_simp1, nat_simp2, nat_simp3, nat_simp4, nat_simp5, if_true, if_false, *] at hkq; obtain ⟨_, _⟩ := blk_facts hkq)); skip)
                     clear hnq
                     go_wp2
                     go_roundw
                     case rel => exact ⟨k + 1, by omega, by go_num, hbl.trans (Below.mono (hbF.trans (hbq.mono hbF.size)) hz)⟩
                     case measure => simp [intOf]; omega
                     done)
                  | (have hbr : Below wr.heap.size wr w9 := by (repeat' (first | (with_reducible exact Below.refl _ _) | (with_reducible refine Below.setCell ?_ ?_ _) | (with_reducible refine Below.alloc ?_ ?_ _) | (with_reducible refine Below.drew ?_) | (with_reducible refine below_drewN ?_ _) | (with_reducible refine Below.trans ?_ (Below.mono (by with_reducible assumption) ?_)) | omega | (simp only [size_alloc', size_setCell', size_drew', size_drewN'] at *; omega)))
                     have hbF := hbr.alloc hbr.size (.cells #[.int .i64 ys, .int .i64 ya, .int .i64 yo] 34)
                     have hhF := heap_alloc_new w9 (.cells #[.int .i64 ys, .int .i64 ya, .int .i64 yo] 34)
                     obtain ⟨wF, hwF⟩ : ∃ wF : World, wF = w9.alloc (.cells #[.int .i64 ys, .int .i64 ya, .int .i64 yo] 34) := ⟨_, rfl⟩
                     rw [← hwF] at hbF hhF ⊢
                     clear hwF
                     have y0 := below_cell hbF Y0.out
                     have y1 := below_cell hbF Y1.out
                     have y2 := below_cell hbF Y2.out
                     obtain ⟨_, _⟩ := blk_facts hhF
                     have hnq : ∀ w, (binOp .neq 34 (.agg #[.int .i64 ys, .int .i64 ya, .int .i64 yo]) (.agg #[.int .i64 ys, .int .i64 ya, .int .i64 yo])).run Try.prog w = .ok (.bool false) w := fun w => by
                       have := run_neq_pit ys ya yo ys ya yo w
                       rwa [show pitEq ⟨ys, ya, yo⟩ ⟨ys, ya, yo⟩ = true from pitEq_iff.2 rfl] at this
                     (try simp only [List.getElem_toArray, List.getElem_cons_succ, List.getElem_cons_zero])
                     (try go_frame)
                     go_wp2_with fail
                     (refine wp_region_more_lit (by kernel_rfl) (by kernel_rfl) ?_; (repeat (go_big_quiet_step (fail))); refine wpQuiet_nil ?_; intro wq hwq; have hbq := below_of_more hwq; clear hwq; have hzq := hbq.size; (try simp only [size_alloc', size_setCell', size_drew', size_drewN'] at hzq); (try (refine keep_heap (b := w.heap.size) hbq ?_ ?_; (first | omega | (simp only [size_alloc', size_setCell', size_drew', size_drewN']; omega)); intro hkq; simp only [heap_alloc_get, heap_setCell_get, heap_drew_get, heap_drewN_get, size_alloc', size_setCell', size_drew', size_drewN', nat_simp1, nat_simp2, nat_simp3, nat_simp4, nat_simp5, if_true, if_false, *] at hkq; obtain ⟨_, _⟩ := blk_facts hkq)); skip)
                     clear hnq
                     go_wp2
                     go_roundw
                     case rel => exact ⟨k + 1, by omega, by go_num, hbl.trans (Below.mono (hbF.trans (hbq.mono hbF.size)) hz)⟩
                     case measure => simp [intOf]; omega
                     done)
              · go_wp2_with fail
                (go_at_call 19; (with_reducible refine (c_alive _).mono ?_); rintro e wz ⟨rfl, hbz⟩)
                go_wp2
                go_ret
                exact ⟨rfl, S8.out.trans (Below.mono (hbl.trans (hbz.mono hz)) S8.out.size)⟩
      · have HW := Lib.hid (fun w => show Calls Try.prog 45 #[.agg #[.int .i64 s, .int .i64 a, .int .i64 o], .agg #[.int .i64 is, .int .i64 ih]] w fun e w' => e = .returned (.tuple #[.agg #[.int .i64 0, .int .i64 0, .int .i64 0], .bool false]) ∧ Below w.heap.size w w' by
          have := c_AddInterval ⟨s, a, o⟩ ⟨is, ih⟩ w
          rw [hq] at this
          exact this)
        clear hq
        (go_at_call 45; (with_reducible refine (HW.out _).mono ?_); rintro e w7 ⟨rfl, hb7⟩)
        have hs7 := hb7.size
        obtain ⟨R2, hR2⟩ : ∃ R2, chordOf ⟨0, 0, 0⟩ kind = R2 := ⟨_, rfl⟩
        have HR2 := Lib.hid hR2
        have S7 := Lib.hid (S6.out.trans ((hb7.alloc hb7.size (.cells #[.int .i64 0, .int .i64 0, .int .i64 0] 34)).mono S6.out.size))
        have U7 := Lib.hid (U6'.out.trans ((hb7.alloc hb7.size (.cells #[.int .i64 0, .int .i64 0, .int .i64 0] 34)).mono U6'.out.size))
        have V7 := Lib.hid (hb7.alloc hb7.size (.cells #[.int .i64 0, .int .i64 0, .int .i64 0] 34))
        clear hR2 hb7
        go_wp2_with fail
        (go_at_call 42; (with_reducible refine (c_ChordOf ⟨0, 0, 0⟩ kind _).mono ?_); rintro e w8 hpost; rw [HR2.out] at hpost; obtain ⟨v8, rfl, ho8, hb8⟩ := cp_parts hpost)
        have HY8 := Lib.hid (Rd.of_own ho8)
        obtain ⟨_, Ay, cy, rfl, hny, hcy, hAy⟩ := HY8.out
        unfold maxLen at hcy
        have HAY := Lib.hid hAy
        have S8 := Lib.hid (S7.out.trans (hb8.mono S7.out.size))
        have U8 := Lib.hid (U7.out.trans (hb8.mono U7.out.size))
        have V8 := Lib.hid (V7.out.trans (hb8.mono V7.out.size))
        clear hAy ho8 hb8 hpost
        cases R with
        | none =>
          simp only [Option.isSome_none, Option.getD_none, List.length_nil] at *
          go_wp2_with fail
          go_loopw [17] (fun i wr => i = .int .i64 0 ∧ wr = w8) (fun _ _ => 0)
          case atStart => exact ⟨rfl, rfl⟩
          case round =>
            obtain ⟨rfl, rfl⟩ := hrel
            go_wp2_with fail
            all_goals
              (go_at_call 19; (with_reducible refine (c_alive _).mono ?_); rintro e wz ⟨rfl, hbz⟩)
              go_wp2
              go_ret
              exact ⟨rfl, S8.out.trans (hbz.mono S8.out.size)⟩
        | some x =>
          simp only [Option.isSome_some, Option.getD_some] at *
          go_wp2_with fail
          go_loopw [17] (fun i wr => i = .int .i64 0 ∧ wr = w8) (fun _ _ => 0)
          case atStart => exact ⟨rfl, rfl⟩
          case round =>
            obtain ⟨rfl, rfl⟩ := hrel
            go_wp2_with fail
            all_goals
              (go_at_call 19; (with_reducible refine (c_alive _).mono ?_); rintro e wz ⟨rfl, hbz⟩)
              go_wp2
              go_ret
              exact ⟨rfl, S8.out.trans (hbz.mono S8.out.size)⟩
    · have hln' : 1048576 < (bs'.length : Int) := by omega
      go_enter Try.func12, Try.ntmps12
      go_wp2
      go_ret
      exact ⟨rfl, Below.refl _ _⟩
  · have hln : 1048576 < (bs.length : Int) := by omega
    go_enter Try.func12, Try.ntmps12
    go_wp2
    go_ret
    exact ⟨rfl, Below.refl _ _⟩
end Go.Proofs.Ytpbmmhdpmpoabaa
