/- The walk of FnChordTurn. Conditions: none. -/
import Derived.Test.YtiameebjcmnmeaaTF
namespace Go.Proofs.Ytiameebjcmnmeaa
open Go.RowKit
set_option linter.unusedSimpArgs false
set_option linter.unusedVariables false
set_option maxHeartbeats 16000000
theorem turn_name {root : Pit} {kind : Int} {t : List Pit} (h : chordOf root kind = some t) (ho : root.octave ≠ 8) : ∃ tl, t = root :: tl ∧ tl.length ≤ 3 ∧ 2 ≤ tl.length ∧
    nameV (tl ++ [⟨root.step, root.alter, root.octave + 1⟩]) = .tuple #[.agg #[.int .i64 root.step, .int .i64 root.alter, .int .i64 4], .int .i64 kind, .int .i64 1, .bool true] := by
  have h34 := chord_len34 h
  obtain ⟨hv, hk⟩ := chord_dom h
  have v1 := pitchValid_iff.1 hv
  obtain ⟨up, hup⟩ : ∃ up, (⟨root.step, root.alter, root.octave + 1⟩ : Pit) = up := ⟨_, rfl⟩
  have hvu : pitchValid up = true := by
    subst hup
    exact pitchValid_iff.2 ⟨v1.1, v1.2.1, v1.2.2.1, v1.2.2.2.1, by dsimp only; omega, by dsimp only; omega⟩
  have hku : keyOf up = keyOf root + 12 := by
    unfold keyOf
    rw [if_pos hvu, if_pos hv]
    subst hup
    dsimp only
    omega
  have hcu : up.step = root.step ∧ up.alter = root.alter := by subst hup; exact ⟨rfl, rfl⟩
  rw [hup]
  have hz := chord_zero h (by omega)
  have hget := chord_get h
  have hpos := halves_pos hk
  have hlen := chord_len h
  have hval := chord_valid h
  cases t with
  | nil => simp at h34
  | cons p tl =>
    have hp : p = root := hz
    subst hp
    refine ⟨tl, rfl, by simp at h34; omega, by simp at h34; omega, ?_⟩
    have hl2 : 2 ≤ tl.length := by simp at h34; omega
    have hl3 : tl.length ≤ 3 := by simp at h34; omega
    have hap : arePits (tl ++ [up]) 1 12 = true := by
      unfold arePits
      rw [Bool.and_eq_true, inB_iff, List.all_eq_true]
      refine ⟨by simp; omega, fun q hq => ?_⟩
      rcases List.mem_append.1 hq with hq | hq
      · exact hval q (List.mem_cons_of_mem _ hq)
      · rw [List.mem_singleton.1 hq]; exact hvu
    have hsm : sameT (p :: tl) (tl ++ [up]) = true := by
      rw [sameT_iff]
      constructor
      · intro q hq
        rcases List.mem_cons.1 hq with rfl | hq
        · exact hasT_iff.2 ⟨up, by simp, hcu⟩
        · exact hasT_iff.2 ⟨q, by simp [hq], rfl, rfl⟩
      · intro q hq
        rcases List.mem_append.1 hq with hq | hq
        · exact hasT_iff.2 ⟨q, by simp [hq], rfl, rfl⟩
        · rw [List.mem_singleton.1 hq]
          exact hasT_iff.2 ⟨p, by simp, hcu.1.symm, hcu.2.symm⟩
    have h1lt : 1 < (p :: tl).length := by simp; omega
    have h0' : (tl ++ [up])[0]'(by simp) = (p :: tl)[1] := by
      rw [List.getElem_append_left (by omega)]
      rfl
    have hlow : lowP (tl ++ [up]) = (p :: tl)[1] := by
      rw [lowP_first (by simp) (fun j hj => ?_), h0']
      rw [h0', (hget 1 h1lt).2.2]
      by_cases hjl : j < tl.length
      · rw [List.getElem_append_left hjl]
        have e : tl[j] = (p :: tl)[j + 1]'(by simp; omega) := rfl
        rw [e, (hget (j + 1) (by simp; omega)).2.2]
        have := (hpos (j + 1) (by rw [← hlen]; simp; omega)).2.2 (by omega)
        omega
      · have e : (tl ++ [up])[j] = up := by
          rw [List.getElem_append_right (by omega)]
          simp
        rw [e, hku]
        have := (hpos 1 (by rw [← hlen]; exact h1lt)).2.1
        omega
    refine name_of (n := 1) h hap hsm h1lt ?_
    rw [hlow]
    exact clsB_iff.2 ⟨rfl, rfl⟩
theorem co_cons {p : Pit} {kind : Int} {tl : List Pit} (w : World) (h : chordOf p kind = some (p :: tl)) {e : Ending} {w' : World} (hp : ChordPost (chordOf p kind) w e w') :
    ∃ v, e = .returned (.tuple #[v, .bool true]) ∧ w'.ownsRow w.heap.size 32 3 v (tl.length + 1) (pitCells (p :: tl)) ∧ Below w.heap.size w w' := by
  rw [h] at hp
  obtain ⟨v, h1, h2, _, h4⟩ := hp
  exact ⟨v, h1, h2, h4⟩
theorem c_samePitches_cons (u v : Value) (p : Pit) (tl : List Pit) (w : World) (ha : Rd w u 3 (tl.length + 1) (pitCells (p :: tl))) (hb : Rd w v 3 (tl.length + 1) (pitCells (p :: tl))) :
    Calls Try.prog 12 #[u, v] w fun e w' => e = .returned (.bool true) ∧ Below w.heap.size w w' := c_samePitches_eq u v (p :: tl) w ha hb
set_option maxRecDepth 100000 in
theorem walk_FnChordTurn (w : World) (v : Value) (bs : List Int) (h : Rd w v 1 bs.length (byteCells bs)) (hb : ∀ x ∈ bs, 0 ≤ x ∧ x ≤ 255) :
    Calls Try.prog 5 #[v] w fun e w' => e = .returned (.bool true) ∧ Below w.heap.size w w' := by
  have h' := Lib.hid h
  obtain ⟨_, A, c, rfl, hnc, hcm, hA⟩ := h
  unfold maxLen at hcm
  clear hA
  have HBB := Lib.hid hb
  clear hb
  by_cases hlen : (bs.length : Int) ≤ 1048576
  · have hln : ¬ (1048576 < (bs.length : Int)) := by omega
    go_enter Try.func5, Try.ntmps5
    go_wp2_with fail
    (go_at_call 19; (with_reducible refine (c_DrawChordOf _ bs _ h'.out HBB.out).mono ?_); rintro e w1 ⟨⟨s, a, o⟩, kind, rfl, hsm, hb1⟩)
    have H5 := Lib.hid (heap_alloc_new w1 (.cells #[.int .i64 s, .int .i64 a, .int .i64 o] 32))
    have S := hb1.alloc hb1.size (.cells #[.int .i64 s, .int .i64 a, .int .i64 o] 32)
    clear hsm
    cases ho : chordOf ⟨s, a, o⟩ kind with
    | none =>
      have HO := Lib.hid ho
      clear ho
      go_wp2_with fail
      (go_at_call 20; (with_reducible refine (c_ChordOf ⟨s, a, o⟩ kind _).mono ?_); rintro e w2 hpost; obtain ⟨v2, rfl, ho2, hb2⟩ := co_none _ HO.out hpost)
      have S := S.trans (hb2.mono S.size)
      have HX2 := Lib.hid (Rd.of_own ho2)
      have HP2 := Lib.hid (below_heap hb2 H5.out)
      clear ho2 hpost
      obtain ⟨_, Ax, cx, rfl, hnx, hcx, hAx⟩ := HX2.out
      unfold maxLen at hcx
      clear hAx
      obtain ⟨_, _⟩ := blk_facts HP2.out
      go_wp2_with fail
      (go_at_call 21; (with_reducible refine (c_sChordOf ⟨s, a, o⟩ kind _).mono ?_); rintro e w3 hpost; obtain ⟨v3, rfl, ho3, hb3⟩ := co_none _ HO.out hpost)
      have S := S.trans (hb3.mono S.size)
      have HW3 := Lib.hid (Rd.of_own ho3)
      have HX3 := Lib.hid (HX2.out.below (Nat.le_refl _) hb3)
      have HP3 := Lib.hid (below_heap hb3 HP2.out)
      clear ho3 hpost
      go_wp2_with fail
      (go_at_call 12; (with_reducible refine (c_samePitches_nil _ _ _ HX3.out HW3.out).mono ?_); rintro e w4 ⟨rfl, hb4⟩)
      have S := S.trans (hb4.mono S.size)
      have HX4 := Lib.hid (HX3.out.below (Nat.le_refl _) hb4)
      have HP4 := Lib.hid (below_heap hb4 HP3.out)
      clear hb1 hb2 hb3 hb4
      go_wp2_with fail
      (go_at_call 14; (with_reducible refine (c_alive _).mono ?_); rintro e wz ⟨rfl, hbz⟩; have S := S.trans (hbz.mono S.size))
      go_wp2
      go_ret
      exact ⟨rfl, S⟩
    | some t =>
      by_cases ho8 : o = 8
      · have HO := Lib.hid ho
        have e8 : (o == 8) = true := by simpa using ho8
        clear ho8
        clear ho
        go_wp2_with fail
        (go_at_call 20; (with_reducible refine (c_ChordOf ⟨s, a, o⟩ kind _).mono ?_); rintro e w2 hpost; obtain ⟨v2, rfl, ho2, hb2⟩ := co_some _ HO.out hpost)
        have S := S.trans (hb2.mono S.size)
        have HX2 := Lib.hid (Rd.of_own ho2)
        have HP2 := Lib.hid (below_heap hb2 H5.out)
        clear ho2 hpost
        obtain ⟨_, Ax, cx, rfl, hnx, hcx, hAx⟩ := HX2.out
        unfold maxLen at hcx
        clear hAx
        obtain ⟨_, _⟩ := blk_facts HP2.out
        go_wp2_with fail
        (go_at_call 21; (with_reducible refine (c_sChordOf ⟨s, a, o⟩ kind _).mono ?_); rintro e w3 hpost; obtain ⟨v3, rfl, ho3, hb3⟩ := co_some _ HO.out hpost)
        have S := S.trans (hb3.mono S.size)
        have HW3 := Lib.hid (Rd.of_own ho3)
        have HX3 := Lib.hid (HX2.out.below (Nat.le_refl _) hb3)
        have HP3 := Lib.hid (below_heap hb3 HP2.out)
        clear ho3 hpost
        go_wp2_with fail
        (go_at_call 12; (with_reducible refine (c_samePitches_eq _ _ t _ HX3.out HW3.out).mono ?_); rintro e w4 ⟨rfl, hb4⟩)
        have S := S.trans (hb4.mono S.size)
        have HX4 := Lib.hid (HX3.out.below (Nat.le_refl _) hb4)
        have HP4 := Lib.hid (below_heap hb4 HP3.out)
        clear hb1 hb2 hb3 hb4
        obtain ⟨_, _⟩ := blk_facts HP4.out
        go_wp2_with fail
        (go_at_call 14; (with_reducible refine (c_alive _).mono ?_); rintro e wz ⟨rfl, hbz⟩; have S := S.trans (hbz.mono S.size))
        go_wp2
        go_ret
        exact ⟨rfl, S⟩
      · have hov := pitchValid_iff.1 (chord_dom ho).1
        have ho0 : 0 ≤ o := hov.2.2.2.2.1
        have ho1 : o ≤ 8 := hov.2.2.2.2.2
        have e8 : (o == 8) = false := by simpa using ho8
        obtain ⟨tl, rfl, htl3, htl2, hnm⟩ := turn_name ho ho8
        have HO := Lib.hid ho
        have HNm := Lib.hid (fun v w (h : Rd w v 3 (tl.length + 1) (pitCells (tl ++ [⟨s, a, o + 1⟩]))) => show Calls Try.prog 17 #[v] w fun e w' => e = .returned (.tuple #[.agg #[.int .i64 s, .int .i64 a, .int .i64 4], .int .i64 kind, .int .i64 1, .bool true]) ∧ Below w.heap.size w w' by have := c_NameChord v (tl ++ [⟨s, a, o + 1⟩]) w (by rw [List.length_append]; exact h); rwa [hnm] at this)
        clear ho hov hnm
        go_wp2_with fail
        (go_at_call 20; (with_reducible refine (c_ChordOf ⟨s, a, o⟩ kind _).mono ?_); rintro e w2 hpost; obtain ⟨v2, rfl, ho2, hb2⟩ := co_cons _ HO.out hpost)
        have S := S.trans (hb2.mono S.size)
        have HX2 := Lib.hid (Rd.of_own ho2)
        have HP2 := Lib.hid (below_heap hb2 H5.out)
        clear ho2 hpost
        obtain ⟨_, Ax, cx, rfl, hnx, hcx, hAx⟩ := HX2.out
        unfold maxLen at hcx
        clear hAx
        obtain ⟨_, _⟩ := blk_facts HP2.out
        go_wp2_with fail
        (go_at_call 21; (with_reducible refine (c_sChordOf ⟨s, a, o⟩ kind _).mono ?_); rintro e w3 hpost; obtain ⟨v3, rfl, ho3, hb3⟩ := co_cons _ HO.out hpost)
        have S := S.trans (hb3.mono S.size)
        have HW3 := Lib.hid (Rd.of_own ho3)
        have HX3 := Lib.hid (HX2.out.below (Nat.le_refl _) hb3)
        have HP3 := Lib.hid (below_heap hb3 HP2.out)
        clear ho3 hpost
        go_wp2_with fail
        (go_at_call 12; (with_reducible refine (c_samePitches_cons _ _ ⟨s, a, o⟩ tl _ HX3.out HW3.out).mono ?_); rintro e w4 ⟨rfl, hb4⟩)
        have S := S.trans (hb4.mono S.size)
        have HX4 := Lib.hid (HX3.out.below (Nat.le_refl _) hb4)
        have HP4 := Lib.hid (below_heap hb4 HP3.out)
        clear hb1 hb2 hb3 hb4
        obtain ⟨_, Ax4, cx4, he4, _, _, hAx4⟩ := HX4.out
        cases he4
        obtain ⟨b1, off, rfl, hcc⟩ := hAx4 (by omega)
        have HCC := Lib.hid hcc
        have hP4 := HP4.out
        obtain ⟨_, _⟩ := blk_facts hP4
        have hS4 : w.heap.size ≤ w4.heap.size := S.size
        have htl1 : (1 : Int) ≤ (tl.length : Int) := by omega
        have HOa := Lib.hid (own_new w4 32 3)
        have HCt := Lib.hid (show ∀ j u, (pitCells tl)[j]? = some u → (w4.alloc (.cells #[] 32)).cell? ⟨b1, off + 3 + j, none⟩ = some u from fun j u hu => by
          refine below_cell (bel1 w4 _) ?_
          rw [Nat.add_assoc]
          refine hcc (3 + j) u ?_
          show (cellsOf Pit.cells (_ :: tl))[3 + j]? = some u
          rw [cellsOf_cons, List.getElem?_append_right (by rw [Pit.cells_len]; omega), Pit.cells_len, show 3 + j - 3 = j by omega]
          exact hu)
        have h1s : ∀ u ∈ pitCells tl, u.oneCell' = true := fun u hu => by
          obtain ⟨q, _, hq⟩ := List.mem_flatMap.1 (show u ∈ List.flatMap Pit.cells tl from hu)
          exact pit_one q u hq
        have H1S := Lib.hid h1s
        clear hcc hAx4 h1s
        go_wp2_with (at_builtin; go_loud (refine wp_appl (by rfl) (.tmp 52) (.tmp 54) 25 32 rfl _ 3 24 Try.underlying25 info_pit rfl (by decide) (by decide) w4.heap.size w4.heap.size 0 0 _ rfl HOa.out b1 (off + 3) (cx - 1) tl.length (pitCells tl) rfl (cellsOf_len Pit.cells 3 Pit.cells_len tl) HCt.out H1S.out (by omega) (by simp only [size_alloc']; omega) ?_))
        intro g5 cap5 w5 hown5 hgr5 hat5 hlt5
        have HB5 := Lib.hid (bel_app (bel1 w4 _) HOa.out hgr5 (Nat.le_refl _) (by simp only [size_alloc']; omega))
        try simp only [Nat.zero_add, List.nil_append] at hown5
        have HO5 := Lib.hid hown5
        have hz5 := HB5.out.size
        have hg5 := (hown5.lt g5 rfl).1
        have hp0 := hgr5.size
        try simp only [size_alloc'] at hp0
        obtain ⟨c0, c1, c2⟩ := pit_at (ns := ⟨s, a, o⟩ :: tl) (fun j u hu => below_cell HB5.out (HCC.out j u hu)) 0 (by simp)
        simp only [List.getElem_cons_zero, Nat.zero_mul, Nat.add_zero] at c0 c1 c2
        have hi0 : (0 : Int) < (tl.length : Int) + 1 := by omega
        have S := S.trans (HB5.out.mono S.size)
        have HP5 := Lib.hid (below_heap HB5.out HP4.out)
        have HOb := Lib.hid ((HO5.out.alloc (.cells #[.int .i64 s, .int .i64 a, .int .i64 (o + 1)] 32)).alloc (.cells #[.int .i64 s, .int .i64 a, .int .i64 (o + 1)] 32))
        have S6 := (S.alloc S.size (.cells #[.int .i64 s, .int .i64 a, .int .i64 (o + 1)] 32)).alloc (by rw [size_alloc']; have := S.size; omega) (.cells #[.int .i64 s, .int .i64 a, .int .i64 (o + 1)] 32)
        have hbb : Below w5.heap.size w5 ((w5.alloc (.cells #[.int .i64 s, .int .i64 a, .int .i64 (o + 1)] 32)).alloc (.cells #[.int .i64 s, .int .i64 a, .int .i64 (o + 1)] 32)) := by (repeat' (first | (with_reducible exact Below.refl _ _) | (with_reducible refine Below.setCell ?_ ?_ _) | (with_reducible refine Below.alloc ?_ ?_ _) | (with_reducible refine Below.drew ?_) | (with_reducible refine below_drewN ?_ _) | (with_reducible refine Below.trans ?_ (Below.mono (by with_reducible assumption) ?_)) | omega | (simp only [size_alloc', size_setCell', size_drew', size_drewN'] at *; omega)))
        have HPb := Lib.hid (below_heap hbb HP5.out)
        have HC := Lib.hid (cells_newP (w5.alloc (.cells #[.int .i64 s, .int .i64 a, .int .i64 (o + 1)] 32)) s a (o + 1))
        rw [size_alloc'] at HC
        have SS := Lib.hid S6
        have hP4l : w1.heap.size < w4.heap.size := (Array.getElem?_eq_some_iff.1 hP4).1
        clear hown5 hgr5 hat5 hbb S S6 hP4
        go_wp2_with (at_builtin; go_loud (refine wp_appl (by rfl) (.tmp 63) (.tmp 65) 25 32 rfl _ 3 24 Try.underlying25 info_pit rfl (by decide) (by decide) w4.heap.size g5 cap5 tl.length _ rfl HOb.out (w5.heap.size + 1) 0 1 1 (Pit.cells ⟨s, a, o + 1⟩) rfl rfl HC.out (pit_one _) (by omega) (by simp only [size_alloc']; omega) ?_))
        intro g6 cap6 w6 hown6 hgr6 hat6 hlt6
        have HB6 := Lib.hid (bel_app SS.out HOb.out hgr6 hS4 (by simp only [size_alloc']; omega))
        have HP6 := Lib.hid (heap_appA hgr6 HPb.out (by omega))
        have HO6 := Lib.hid (show Rd w6 (.slice (some ⟨g6, 0, none⟩) (tl.length + 1) cap6) 3 (tl.length + 1) (pitCells (tl ++ [⟨s, a, o + 1⟩])) by
          rw [pits_snoc]
          exact Rd.of_own hown6)
        clear hown6 hgr6 hat6
        go_wp2_with fail
        (go_at_call 17; (with_reducible refine (HNm.out _ _ HO6.out).mono ?_); rintro e w7 ⟨rfl, hb7⟩)
        have S := HB6.out.trans (hb7.mono HB6.out.size)
        have S := S.alloc S.size (.cells #[.int .i64 s, .int .i64 a, .int .i64 4] 32)
        have hP7 := below_heap (bel1 w7 (.cells #[.int .i64 s, .int .i64 a, .int .i64 4] 32)) (below_heap hb7 HP6.out)
        obtain ⟨_, _⟩ := blk_facts hP7
        go_wp2_with fail
        go_ret
        exact ⟨rfl, S⟩
  · have hln : 1048576 < (bs.length : Int) := by omega
    go_enter Try.func5, Try.ntmps5
    go_wp2
    go_ret
    exact ⟨rfl, Below.refl _ _⟩
end Go.Proofs.Ytiameebjcmnmeaa
