/- The walk of FnNameChord. Conditions: none. -/
import Derived.Test.YtiameebjcmnmeaaTC
namespace Go.Proofs.Ytiameebjcmnmeaa
open Go.RowKit
set_option linter.unusedSimpArgs false
set_option linter.unusedVariables false
set_option maxHeartbeats 16000000
theorem chord_pits {root : Pit} {kind : Int} {t : List Pit} (h : chordOf root kind = some t) : arePits t 0 12 = true :=
  arePits_iff.2 ⟨by have := chordOf_len h; omega, fun i hi => (chord_tone h i hi).2⟩
theorem nameV_cases (l : List Pit) : nameV l = .tuple #[.agg #[.int .i64 0, .int .i64 0, .int .i64 0], .int .i64 (-1), .int .i64 (-1), .bool false] ∨
    ∃ (s a : Int) (kind n : Nat) (t : List Pit), nameV l = .tuple #[.agg #[.int .i64 s, .int .i64 a, .int .i64 4], .int .i64 kind, .int .i64 n, .bool true] ∧ chordOf ⟨s, a, 4⟩ (kind : Int) = some t ∧ sameT t l = true ∧ n < t.length ∧ arePits l 1 12 = true ∧ keyCls t = keyCls l := by
  cases hj : nameJ l with
  | none =>
    left
    unfold nameV
    rw [hj]
    rfl
  | some j =>
    right
    obtain ⟨ha, hlt, hh⟩ := nameJ_inv hj
    have hk : j / 9 < l.length := by omega
    have hT : tonesJ l j = chordOf (rt l[j / 9]) ((j % 9 : Nat) : Int) := by
      unfold tonesJ
      rw [List.getD, List.getElem?_eq_getElem hk]
      rfl
    cases ht : chordOf (rt l[j / 9]) ((j % 9 : Nat) : Int) with
    | none =>
      unfold hitB at hh
      rw [hT, ht] at hh
      cases hh
    | some t =>
      have hs : sameT t l = true := by
        unfold hitB at hh
        rw [hT, ht] at hh
        exact hh
      obtain ⟨n, hn, hc⟩ := hit_low (by omega) hs
      refine ⟨l[j / 9].step, l[j / 9].alter, j % 9, n, t, ?_, ht, hs, hn, ha, keyCls_same (chord_pits ht) (by omega) ha (by omega) hs⟩
      unfold nameV
      rw [hj]
      dsimp only
      rw [hT, ht, List.getD, List.getElem?_eq_getElem hk]
      show yesName l[j / 9] (j % 9) (atI t (lowP l)) = _
      rw [atI_eq ht hn hc]
      rfl
theorem c_DrawNameChord (v : Value) (bs : List Int) (w : World) (h : Rd w v 1 bs.length (byteCells bs)) (hb : ∀ x ∈ bs, 0 ≤ x ∧ x ≤ 255) :
    Calls Try.prog 29 #[v] w fun e w' => ∃ (u : Value) (ns : List Pit), e = .returned u ∧ Rd w' u 3 ns.length (pitCells ns) ∧ ns.length ≤ 13 ∧ Below w.heap.size w w' := by
  go_enter Try.func29, Try.ntmps29
  go_wp2_with fail
  (go_at_call 34; (with_reducible refine (c_open _ _ _ (h) hb).mono ?_); rintro e w1 ⟨g, rfl, hg, hr1, hbq⟩; have hzq := hbq.size; (try simp only [size_alloc', size_setCell', size_drew', size_drewN'] at hzq hg); (try (refine keep_heap (b := w.heap.size) hbq ?_ ?_; (first | omega | (simp only [size_alloc', size_setCell', size_drew', size_drewN']; omega)); intro hkq; simp only [heap_alloc_get, heap_setCell_get, heap_drew_get, heap_drewN_get, size_alloc', size_setCell', size_drew', size_drewN', nat_simp1, nat_simp2, nat_simp3, nat_simp4, nat_simp5, if_true, if_false, *] at hkq; obtain ⟨_, _⟩ := blk_facts hkq)); (try (refine ne_cps (a := w.heap.size) (b := w1.heap.size) ?_ ?_; omega; intro _ _)); (try (refine ne_cps (a := w.heap.size) (b := w1.heap.size + 1) ?_ ?_; omega; intro _ _)); (try (refine ne_cps (a := w.heap.size) (b := w1.heap.size + 1 + 1) ?_ ?_; omega; intro _ _)); skip)
  have hr2 : Rdr w1 g (100 + 80) := hr1.mono (by omega)
  clear hr1
  go_wp2_with fail
  (go_at_call 62; (with_reducible refine (c_l20Chord g 100 _ ?_).mono ?_); (focus (repeat' (first | (with_reducible assumption) | (with_reducible refine Rdr.alloc ?_ _) | (with_reducible refine Rdr.setCell ?_ ?_ _) | (with_reducible refine Rdr.drewN ?_ _) | (with_reducible refine Rdr.drew ?_) | (show _ < _; first | omega | (simp only [size_alloc', size_setCell', size_drew', size_drewN'] at *; omega))))); rintro e w2 ⟨u, ns, rfl, hrd, hln, hrq, hgq⟩; have hsq := hgq.size; (try simp only [size_alloc', size_setCell', size_drew', size_drewN'] at hsq); skip)
  have hbel : Below w.heap.size w w2 := below_of_kp hbq hgq (by omega) (by omega)
  go_wp2_with fail
  go_ret
  exact ⟨u, ns, rfl, hrd, hln, hbel⟩
set_option maxRecDepth 100000 in
theorem walk_FnNameChord (w : World) (v : Value) (bs : List Int) (h : Rd w v 1 bs.length (byteCells bs)) (hb : ∀ x ∈ bs, 0 ≤ x ∧ x ≤ 255) :
    Calls Try.prog 7 #[v] w fun e w' => e = .returned (.bool true) ∧ Below w.heap.size w w' := by
  have h' := Lib.hid h
  obtain ⟨_, A, c, rfl, hnc, hcm, hA⟩ := h
  unfold maxLen at hcm
  clear hA
  have HBB := Lib.hid hb
  clear hb
  by_cases hlen : (bs.length : Int) ≤ 1048576
  · have hln : ¬ (1048576 < (bs.length : Int)) := by omega
    go_enter Try.func7, Try.ntmps7
    go_wp2_with fail
    (go_at_call 29; (with_reducible refine (c_DrawNameChord _ bs _ h'.out HBB.out).mono ?_); rintro e w1 ⟨u, ns, rfl, hrd, hn13, hb1⟩)
    have S := hb1
    have HN := Lib.hid hrd
    obtain ⟨_, An, cn, rfl, hncn, hcn, _⟩ := HN.out
    unfold maxLen at hcn
    clear hrd hn13
    rcases nameV_cases ns with hform | ⟨s, a, kind, n, t, hform, hch, hsame, hnt, hap, hkey⟩
    · have HI := Lib.hid (fun v w (h : Rd w v 3 ns.length (pitCells ns)) => show Calls Try.prog 17 #[v] w fun e w' => e = .returned (.tuple #[.agg #[.int .i64 0, .int .i64 0, .int .i64 0], .int .i64 (-1), .int .i64 (-1), .bool false]) ∧ Below w.heap.size w w' by have := c_NameChord v ns w h; rwa [hform] at this)
      have HS := Lib.hid (fun v w (h : Rd w v 3 ns.length (pitCells ns)) => show Calls Try.prog 25 #[v] w fun e w' => e = .returned (.tuple #[.agg #[.int .i64 0, .int .i64 0, .int .i64 0], .int .i64 (-1), .int .i64 (-1), .bool false]) ∧ Below w.heap.size w w' by have := c_sNameChord v ns w h; rwa [hform] at this)
      clear hform
      go_wp2_with fail
      (go_at_call 17; (with_reducible refine (HI.out _ _ HN.out).mono ?_); rintro e w2 ⟨rfl, hb2⟩; have S := S.trans (hb2.mono S.size))
      have HX := Lib.hid (heap_alloc_new w2 (.cells #[.int .i64 0, .int .i64 0, .int .i64 0] 32))
      have HN2 := Lib.hid ((HN.out.below (Nat.le_refl _) hb2).alloc (.cells #[.int .i64 0, .int .i64 0, .int .i64 0] 32))
      have S := S.alloc S.size (.cells #[.int .i64 0, .int .i64 0, .int .i64 0] 32)
      go_wp2_with fail
      (go_at_call 25; (with_reducible refine (HS.out _ _ HN2.out).mono ?_); rintro e w3 ⟨rfl, hb3⟩; have S := S.trans (hb3.mono S.size))
      have HX3 := below_heap (bel1 w3 (.cells #[.int .i64 0, .int .i64 0, .int .i64 0] 32)) (below_heap hb3 HX.out)
      have S := S.alloc S.size (.cells #[.int .i64 0, .int .i64 0, .int .i64 0] 32)
      obtain ⟨_, _⟩ := blk_facts HX3
      clear HX
      go_wp2_with fail
      (go_at_call 14; (with_reducible refine (c_alive _).mono ?_); rintro e wz ⟨rfl, hbz⟩; have S := S.trans (hbz.mono S.size))
      go_wp2
      go_ret
      exact ⟨rfl, S⟩
    · have HI := Lib.hid (fun v w (h : Rd w v 3 ns.length (pitCells ns)) => show Calls Try.prog 17 #[v] w fun e w' => e = .returned (.tuple #[.agg #[.int .i64 s, .int .i64 a, .int .i64 4], .int .i64 kind, .int .i64 n, .bool true]) ∧ Below w.heap.size w w' by have := c_NameChord v ns w h; rwa [hform] at this)
      have HS := Lib.hid (fun v w (h : Rd w v 3 ns.length (pitCells ns)) => show Calls Try.prog 25 #[v] w fun e w' => e = .returned (.tuple #[.agg #[.int .i64 s, .int .i64 a, .int .i64 4], .int .i64 kind, .int .i64 n, .bool true]) ∧ Below w.heap.size w w' by have := c_sNameChord v ns w h; rwa [hform] at this)
      have HC := Lib.hid (fun w => (c_ChordOf ⟨s, a, 4⟩ (kind : Int) w).mono (fun e w' hp => show ∃ v, e = .returned (.tuple #[v, .bool true]) ∧ w'.ownsRow w.heap.size 32 3 v t.length (pitCells t) ∧ t.length ≤ 4 ∧ Below w.heap.size w w' by unfold ChordPost at hp; rw [hch] at hp; exact hp))
      have HSame := Lib.hid (show ∀ x ∈ ns, hasT t x = true from fun x hx => by
        unfold sameT at hsame
        rw [Bool.and_eq_true] at hsame
        exact List.all_eq_true.1 hsame.2 x hx)
      have HKey := Lib.hid hkey
      have hnt' : (n : Int) < (t.length : Int) := by omega
      clear hform hch hsame hap hkey hnt
      go_wp2_with fail
      (go_at_call 17; (with_reducible refine (HI.out _ _ HN.out).mono ?_); rintro e w2 ⟨rfl, hb2⟩; have S := S.trans (hb2.mono S.size))
      have HX := Lib.hid (heap_alloc_new w2 (.cells #[.int .i64 s, .int .i64 a, .int .i64 4] 32))
      have HN2 := Lib.hid ((HN.out.below (Nat.le_refl _) hb2).alloc (.cells #[.int .i64 s, .int .i64 a, .int .i64 4] 32))
      have S := S.alloc S.size (.cells #[.int .i64 s, .int .i64 a, .int .i64 4] 32)
      go_wp2_with fail
      (go_at_call 25; (with_reducible refine (HS.out _ _ HN2.out).mono ?_); rintro e w3 ⟨rfl, hb3⟩; have S := S.trans (hb3.mono S.size))
      have HX3 := below_heap (bel1 w3 (.cells #[.int .i64 s, .int .i64 a, .int .i64 4] 32)) (below_heap hb3 HX.out)
      have HN3 := Lib.hid ((HN2.out.below (Nat.le_refl _) hb3).alloc (.cells #[.int .i64 s, .int .i64 a, .int .i64 4] 32))
      have S := S.alloc S.size (.cells #[.int .i64 s, .int .i64 a, .int .i64 4] 32)
      obtain ⟨_, _⟩ := blk_facts HX3
      clear HX
      go_wp2_with fail
      (go_at_call 20; (with_reducible refine (HC.out _).mono ?_); rintro e w4 ⟨v4, rfl, ho4, hl4, hb4⟩; have S := S.trans (hb4.mono S.size))
      have HT4 := Lib.hid (Rd.of_own ho4)
      have HN4 := Lib.hid (HN3.out.below (Nat.le_refl _) hb4)
      obtain ⟨_, At, ct, rfl, hntc, hctm, hAt⟩ := HT4.out
      unfold maxLen at hctm
      have HTT := Lib.hid hAt
      obtain ⟨_, A9, c9, he9, _, _, hA9⟩ := HN4.out
      cases he9
      have HNN := Lib.hid hA9
      have HSS := Lib.hid S
      clear hAt hA9 ho4 hb4 hb3 hb2 hb1 HX3 HI HS S
      go_wp2_with fail
      go_loopw [14] (fun i wr => ∃ k : Nat, k ≤ ns.length ∧ i = .int .i64 k ∧ Below w4.heap.size w4 wr) (fun i _ => ns.length - (intOf i).toNat)
      case atStart => exact ⟨0, Nat.zero_le _, rfl, Below.refl _ _⟩
      case round =>
        obtain ⟨k, hk, rfl, hbo⟩ := hrel
        have hzo := hbo.size
        by_cases hlt : k < ns.length
        · obtain ⟨b1, off, rfl, hcc⟩ := HNN.out (by omega)
          obtain ⟨p0, p1, p2⟩ := pit_at (fun j u hu => below_cell hbo (hcc j u hu)) k hlt
          have HIn := Lib.hid (HSame.out ns[k] (List.getElem_mem hlt))
          have hk1 : (0 : Int) ≤ (k : Int) := by omega
          have hk2 : (k : Int) < (ns.length : Int) := by omega
          obtain ⟨x, hx⟩ : ∃ x, ns[k] = x := ⟨_, rfl⟩
          rw [hx] at p0 p1 p2 HIn
          clear hx hcc
          obtain ⟨xs, xa, xo⟩ := x
          dsimp only at p0 p1 p2
          have HP0 := Lib.hid p0
          have HP1 := Lib.hid p1
          have HB := Lib.hid hbo
          clear p0 p1 p2 hbo
          obtain ⟨wo, rfl⟩ : ∃ wo : World, wo = wr := ⟨_, rfl⟩
          go_wp2_with fail
          go_loopw [15, 16] (fun f i wr => ∃ j : Nat, j ≤ t.length ∧ i = .int .i64 j ∧ f = .bool (hasT (t.take j) ⟨xs, xa, xo⟩) ∧ Below wo.heap.size wo wr) (fun _ i _ => t.length - (intOf i).toNat)
          case atStart => exact ⟨0, Nat.zero_le _, rfl, rfl, Below.refl _ _⟩
          case round =>
            obtain ⟨j, hj, rfl, rfl, hbl⟩ := hrel
            have hzz := hbl.size
            by_cases hltj : j < t.length
            · obtain ⟨bt, offt, rfl, hct⟩ := HTT.out (by omega)
              obtain ⟨q0, q1, q2⟩ := pit_at (fun j u hu => below_cell hbl (below_cell HB.out (hct j u hu))) j hltj
              have p0 := below_cell hbl HP0.out
              have p1 := below_cell hbl HP1.out
              have HTk := Lib.hid (hasT_take_succ t j hltj ⟨xs, xa, xo⟩)
              have hj1 : (0 : Int) ≤ (j : Int) := by omega
              have hj2 : (j : Int) < (t.length : Int) := by omega
              obtain ⟨y, hy⟩ : ∃ y, t[j] = y := ⟨_, rfl⟩
              rw [hy] at q0 q1 q2 HTk
              clear hy hct
              obtain ⟨ys, ya, yo⟩ := y
              dsimp only at q0 q1 q2 HTk
              cases hf : hasT (t.take j) ⟨xs, xa, xo⟩
              · by_cases h1 : ys = xs
                · have e1 : (ys == xs) = true := by simpa using h1
                  by_cases h2 : ya = xa
                  · have e2 : (ya == xa) = true := by simpa using h2
                    have HN := Lib.hid (show hasT (t.take (j + 1)) ⟨xs, xa, xo⟩ = true by rw [HTk.out, hf, decide_eq_true h1, decide_eq_true h2]; rfl)
                    go_wp2_with fail
                    (refine wp_region_more_lit (by kernel_rfl) (by kernel_rfl) ?_; (repeat (go_big_quiet_step (fail))); refine wpQuiet_nil ?_; intro wq hwq; have hbq := below_of_more hwq; clear hwq; have hzq := hbq.size; (try simp only [size_alloc', size_setCell', size_drew', size_drewN'] at hzq); (try (refine keep_heap (b := w.heap.size) hbq ?_ ?_; (first | omega | (simp only [size_alloc', size_setCell', size_drew', size_drewN']; omega)); intro hkq; simp only [heap_alloc_get, heap_setCell_get, heap_drew_get, heap_drewN_get, size_alloc', size_setCell', size_drew', size_drewN', nat_simp1, nat_simp2, nat_simp3, nat_simp4, nat_simp5, if_true, if_false, *] at hkq; obtain ⟨_, _⟩ := blk_facts hkq)); skip)
                    go_wp2_with fail
                    go_roundw
                    case rel => exact ⟨j + 1, by omega, by go_num, by rw [HN.out], hbl.trans (hbq.mono hzz)⟩
                    case measure => simp [intOf]; omega
                  · have e2 : (ya == xa) = false := by simpa using h2
                    have HN := Lib.hid (show hasT (t.take (j + 1)) ⟨xs, xa, xo⟩ = false by rw [HTk.out, hf, decide_eq_true h1, decide_eq_false h2]; rfl)
                    go_wp2_with fail
                    (refine wp_region_more_lit (by kernel_rfl) (by kernel_rfl) ?_; (repeat (go_big_quiet_step (fail))); refine wpQuiet_nil ?_; intro wq hwq; have hbq := below_of_more hwq; clear hwq; have hzq := hbq.size; (try simp only [size_alloc', size_setCell', size_drew', size_drewN'] at hzq); (try (refine keep_heap (b := w.heap.size) hbq ?_ ?_; (first | omega | (simp only [size_alloc', size_setCell', size_drew', size_drewN']; omega)); intro hkq; simp only [heap_alloc_get, heap_setCell_get, heap_drew_get, heap_drewN_get, size_alloc', size_setCell', size_drew', size_drewN', nat_simp1, nat_simp2, nat_simp3, nat_simp4, nat_simp5, if_true, if_false, *] at hkq; obtain ⟨_, _⟩ := blk_facts hkq)); skip)
                    go_wp2_with fail
                    go_roundw
                    case rel => exact ⟨j + 1, by omega, by go_num, by rw [HN.out], hbl.trans (hbq.mono hzz)⟩
                    case measure => simp [intOf]; omega
                · have e1 : (ys == xs) = false := by simpa using h1
                  have HN := Lib.hid (show hasT (t.take (j + 1)) ⟨xs, xa, xo⟩ = false by rw [HTk.out, hf, decide_eq_false h1]; rfl)
                  go_wp2_with fail
                  (refine wp_region_more_lit (by kernel_rfl) (by kernel_rfl) ?_; (repeat (go_big_quiet_step (fail))); refine wpQuiet_nil ?_; intro wq hwq; have hbq := below_of_more hwq; clear hwq; have hzq := hbq.size; (try simp only [size_alloc', size_setCell', size_drew', size_drewN'] at hzq); (try (refine keep_heap (b := w.heap.size) hbq ?_ ?_; (first | omega | (simp only [size_alloc', size_setCell', size_drew', size_drewN']; omega)); intro hkq; simp only [heap_alloc_get, heap_setCell_get, heap_drew_get, heap_drewN_get, size_alloc', size_setCell', size_drew', size_drewN', nat_simp1, nat_simp2, nat_simp3, nat_simp4, nat_simp5, if_true, if_false, *] at hkq; obtain ⟨_, _⟩ := blk_facts hkq)); skip)
                  go_wp2_with fail
                  go_roundw
                  case rel => exact ⟨j + 1, by omega, by go_num, by rw [HN.out], hbl.trans (hbq.mono hzz)⟩
                  case measure => simp [intOf]; omega
              · have HN := Lib.hid (show hasT (t.take (j + 1)) ⟨xs, xa, xo⟩ = true by rw [HTk.out, hf]; rfl)
                go_wp2_with fail
                (refine wp_region_more_lit (by kernel_rfl) (by kernel_rfl) ?_; (repeat (go_big_quiet_step (fail))); refine wpQuiet_nil ?_; intro wq hwq; have hbq := below_of_more hwq; clear hwq; have hzq := hbq.size; (try simp only [size_alloc', size_setCell', size_drew', size_drewN'] at hzq); (try (refine keep_heap (b := w.heap.size) hbq ?_ ?_; (first | omega | (simp only [size_alloc', size_setCell', size_drew', size_drewN']; omega)); intro hkq; simp only [heap_alloc_get, heap_setCell_get, heap_drew_get, heap_drewN_get, size_alloc', size_setCell', size_drew', size_drewN', nat_simp1, nat_simp2, nat_simp3, nat_simp4, nat_simp5, if_true, if_false, *] at hkq; obtain ⟨_, _⟩ := blk_facts hkq)); skip)
                go_wp2_with fail
                go_roundw
                case rel => exact ⟨j + 1, by omega, by go_num, by rw [HN.out], hbl.trans (hbq.mono hzz)⟩
                case measure => simp [intOf]; omega
            · have hke : j = t.length := by omega
              have hall : hasT (t.take j) ⟨xs, xa, xo⟩ = true := by rw [hke, List.take_length]; exact HIn.out
              rw [hall]
              clear hall
              go_wp2_with fail
              go_roundw
              case rel => exact ⟨k + 1, by omega, by go_num, HB.out.trans (hbl.mono hzo)⟩
              case measure => simp [intOf]; omega
        · have HT5 := Lib.hid (HT4.out.below (Nat.le_refl _) hbo)
          have HN5 := Lib.hid (HN4.out.below (Nat.le_refl _) hbo)
          have S := HSS.out.trans (hbo.mono HSS.out.size)
          go_wp2_with fail
          (go_at_call 31; (with_reducible refine (c_KeyClasses _ t _ HT5.out).mono ?_); rintro e w6 hpost; obtain ⟨v6, rfl, hk6, hb6⟩ := hpost; have S := S.trans (hb6.mono S.size))
          have HK6 := Lib.hid (Rd.of_own hk6)
          have HN6 := Lib.hid (HN5.out.below (Nat.le_refl _) hb6)
          clear hk6
          go_wp2_with fail
          (go_at_call 31; (with_reducible refine (c_KeyClasses _ ns _ HN6.out).mono ?_); rintro e w7 hpost; obtain ⟨v7, rfl, hk7, hb7⟩ := hpost; have S := S.trans (hb7.mono S.size))
          have HK7 := Lib.hid (Rd.of_own hk7)
          have HK67 := Lib.hid (HK6.out.below (Nat.le_refl _) hb7)
          rw [HKey.out] at HK67
          clear hk7
          go_wp2_with fail
          (go_at_call 30; (with_reducible refine (c_sameInts_eq _ _ (keyCls ns) _ HK67.out HK7.out).mono ?_); rintro e w8 ⟨rfl, hb8⟩; have S := S.trans (hb8.mono S.size))
          go_wp2
          go_ret
          exact ⟨rfl, S⟩
  · have hln : 1048576 < (bs.length : Int) := by omega
    go_enter Try.func7, Try.ntmps7
    go_wp2
    go_ret
    exact ⟨rfl, Below.refl _ _⟩
end Go.Proofs.Ytiameebjcmnmeaa
