/- The program's NameChord. Conditions: none. -/
import Derived.Test.YtiameebjcmnmeaaT9
namespace Go.Proofs.Ytiameebjcmnmeaa
open Go.RowKit
set_option linter.unusedSimpArgs false
set_option linter.unusedVariables false
set_option maxHeartbeats 16000000
set_option maxRecDepth 100000 in
theorem c_NameChord (v : Value) (ns : List Pit) (w : World) (h : Rd w v 3 ns.length (pitCells ns)) :
    Calls Try.prog 17 #[v] w fun e w' => e = .returned (nameV ns) ∧ Below w.heap.size w w' := by
  have H := Lib.hid h
  obtain ⟨_, A, c, rfl, hnc, hcm, hA⟩ := h
  unfold maxLen at hcm
  have HAA := Lib.hid hA
  clear hA
  cases hl : arePits ns 1 12
  · have HV := Lib.hid (nameV_bad hl)
    go_enter Try.func17, Try.ntmps17
    go_wp2_with fail
    (go_at_call 47; (with_reducible refine (c_arePitches _ ns 1 12 _ (H.out.alloc _)).mono ?_); rintro e w1 ⟨rfl, hbq⟩; have hzq := hbq.size; (try simp only [size_alloc', size_setCell', size_drew', size_drewN'] at hzq); (try (refine keep_heap (b := w.heap.size) hbq ?_ ?_; (first | omega | (simp only [size_alloc', size_setCell', size_drew', size_drewN']; omega)); intro hkq; simp only [heap_alloc_get, heap_setCell_get, heap_drew_get, heap_drewN_get, size_alloc', size_setCell', size_drew', size_drewN', nat_simp1, nat_simp2, nat_simp3, nat_simp4, nat_simp5, if_true, if_false, *] at hkq; obtain ⟨_, _⟩ := blk_facts hkq)); skip)
    rw [hl]
    go_wp2_with fail
    exact bodyPost_ret (v := noName) (by simp [noName, results, Try.results17, go_sem, *]) rfl ⟨by rw [HV.out], by (repeat' (first | (with_reducible exact Below.refl _ _) | (with_reducible refine Below.setCell ?_ ?_ _) | (with_reducible refine Below.alloc ?_ ?_ _) | (with_reducible refine Below.drew ?_) | (with_reducible refine below_drewN ?_ _) | (with_reducible refine Below.trans ?_ (Below.mono (by with_reducible assumption) ?_)) | omega | (simp only [size_alloc', size_setCell', size_drew', size_drewN'] at *; omega)))⟩
  · have HL := Lib.hid hl
    have h0 : 0 < ns.length := by have := (arePits_iff.1 hl).1; omega
    have hn12 : ns.length ≤ 12 := by have := (arePits_iff.1 hl).1; omega
    have HVal := Lib.hid (arePits_mem hl)
    obtain ⟨⟨ls, la, lo⟩, hlow⟩ : ∃ p, lowP ns = p := ⟨_, rfl⟩
    have HLow := Lib.hid (fun v w (h : Rd w v 3 ns.length (pitCells ns)) => show Calls Try.prog 50 #[v] w fun e w' => e = .returned (.agg #[.int .i64 ls, .int .i64 la, .int .i64 lo]) ∧ Below w.heap.size w w' by have := c_lowest v ns w h h0; rw [hlow] at this; exact this)
    have HLP := Lib.hid hlow
    clear hlow
    go_enter Try.func17, Try.ntmps17
    go_wp2_with fail
    (go_at_call 47; (with_reducible refine (c_arePitches _ ns 1 12 _ (H.out.alloc _)).mono ?_); rintro e w1 ⟨rfl, hbq⟩; have hzq := hbq.size; (try simp only [size_alloc', size_setCell', size_drew', size_drewN'] at hzq); (try (refine keep_heap (b := w.heap.size) hbq ?_ ?_; (first | omega | (simp only [size_alloc', size_setCell', size_drew', size_drewN']; omega)); intro hkq; simp only [heap_alloc_get, heap_setCell_get, heap_drew_get, heap_drewN_get, size_alloc', size_setCell', size_drew', size_drewN', nat_simp1, nat_simp2, nat_simp3, nat_simp4, nat_simp5, if_true, if_false, *] at hkq; obtain ⟨_, _⟩ := blk_facts hkq)); skip)
    rw [hl]
    have HZ1 := Lib.hid (show w1.heap[w.heap.size]? = some (.cells #[.int .i64 0, .int .i64 0, .int .i64 0] 32 (0, 0)) by assumption)
    have HB1 := Lib.hid (show Below w.heap.size w w1 by (repeat' (first | (with_reducible exact Below.refl _ _) | (with_reducible refine Below.setCell ?_ ?_ _) | (with_reducible refine Below.alloc ?_ ?_ _) | (with_reducible refine Below.drew ?_) | (with_reducible refine below_drewN ?_ _) | (with_reducible refine Below.trans ?_ (Below.mono (by with_reducible assumption) ?_)) | omega | (simp only [size_alloc', size_setCell', size_drew', size_drewN'] at *; omega))))
    clear hbq
    clear hl
    go_wp2_with fail
    go_loopw [20] (fun i wr => ∃ k : Nat, k ≤ ns.length ∧ i = .int .i64 k ∧ (∀ j, j < 9 * k → hitB ns j = false) ∧ wr.heap[w.heap.size]? = some (.cells #[.int .i64 0, .int .i64 0, .int .i64 0] 32 (0, 0)) ∧ Below w.heap.size w wr) (fun i _ => ns.length - (intOf i).toNat)
    case atStart => exact ⟨0, Nat.zero_le _, rfl, fun j hj => absurd hj (by omega), HZ1.out, HB1.out⟩
    case round =>
      obtain ⟨k, hk, rfl, hno, hZ, hbl⟩ := hrel
      have HNO := Lib.hid hno
      have HZ := Lib.hid hZ
      have hz := hbl.size
      clear hno hZ
      by_cases hlt : k < ns.length
      · obtain ⟨b1, off, rfl, hcc⟩ := HAA.out (by omega)
        obtain ⟨p0, p1, p2⟩ := pit_at (fun j u hu => (hbl.cell (World.block_lt_of_cell? w _ (hcc j u hu))).trans (hcc j u hu)) k hlt
        have HMiss := Lib.hid (fun kind (hk8 : kind ≤ 8) h => hitB_miss (l := ns) hlt hk8 h)
        have HAt := Lib.hid (fun kind t n (hk8 : kind ≤ 8) hno ht hs hn hc => nameV_at (l := ns) (t := t) (n := n) HL.out hlt hk8 hno ht hs hn hc)
        have hk1 : (0 : Int) ≤ (k : Int) := by omega
        have hk2 : (k : Int) < (ns.length : Int) := by omega
        generalize ns[k] = x at *
        obtain ⟨xs, xa, xo⟩ := x
        dsimp only [rt] at p0 p1 p2 HMiss HAt
        rw [HLP.out] at HAt
        clear hcc
        have hnew := heap_alloc_new (wr.alloc (.cells #[.int .i64 xs, .int .i64 xa, .int .i64 xo] 32)) (.cells #[.int .i64 xs, .int .i64 xa, .int .i64 4] 32)
        rw [size_alloc'] at hnew
        have HR8 := Lib.hid hnew
        have HZ8 := Lib.hid (below_heap (bel1 (wr.alloc (.cells #[.int .i64 xs, .int .i64 xa, .int .i64 xo] 32)) (.cells #[.int .i64 xs, .int .i64 xa, .int .i64 4] 32)) (below_heap (bel1 wr (.cells #[.int .i64 xs, .int .i64 xa, .int .i64 xo] 32)) HZ.out))
        have HB8 := Lib.hid (show Below w.heap.size w ((wr.alloc (.cells #[.int .i64 xs, .int .i64 xa, .int .i64 xo] 32)).alloc (.cells #[.int .i64 xs, .int .i64 xa, .int .i64 4] 32)) by (repeat' (first | (with_reducible exact Below.refl _ _) | (with_reducible refine Below.setCell ?_ ?_ _) | (with_reducible refine Below.alloc ?_ ?_ _) | (with_reducible refine Below.drew ?_) | (with_reducible refine below_drewN ?_ _) | (with_reducible refine Below.trans ?_ (Below.mono (by with_reducible assumption) ?_)) | omega | (simp only [size_alloc', size_setCell', size_drew', size_drewN'] at *; omega))))
        clear hnew hbl HZ
        obtain ⟨wo, rfl⟩ : ∃ wo : World, wo = wr := ⟨_, rfl⟩
        go_wp2_with fail
        go_loopw [9] (fun i wy => ∃ kind : Nat, kind ≤ 9 ∧ i = .int .i64 kind ∧ (∀ j, j < 9 * k + kind → hitB ns j = false) ∧ wy.heap[w.heap.size]? = some (.cells #[.int .i64 0, .int .i64 0, .int .i64 0] 32 (0, 0)) ∧
          wy.heap[wo.heap.size + 1]? = some (.cells #[.int .i64 xs, .int .i64 xa, .int .i64 4] 32 (0, 0)) ∧ Below w.heap.size w wy ∧ wo.heap.size + 1 < wy.heap.size) (fun i _ => 9 - (intOf i).toNat)
        case atStart => exact ⟨0, by omega, rfl, HNO.out, HZ8.out, HR8.out, HB8.out, by simp⟩
        case round =>
          clear HNO HZ8 HR8 HB8 p0 p1 p2
          obtain ⟨kind, hkd, rfl, hno, hZ, hR, hbl, hz8⟩ := hrel
          have HNO := Lib.hid hno
          have HZ := Lib.hid hZ
          have HR8 := Lib.hid hR
          have hzy := hbl.size
          obtain ⟨_, _⟩ := blk_facts hR
          clear hno hZ hR
          by_cases hlt9 : kind < 9
          · have hkd9 : (kind : Int) ≤ 8 := by omega
            have hk8 : kind ≤ 8 := by omega
            have HC := Lib.hid (fun w => c_ChordOf ⟨xs, xa, 4⟩ (kind : Int) w)
            cases ho : chordOf ⟨xs, xa, 4⟩ (kind : Int) with
            | none =>
              have HMISS := Lib.hid (HMiss.out kind hk8 (fun t ht => by rw [ho] at ht; cases ht))
              rw [ho] at HC
              clear ho
              go_wp2_with fail
              (go_at_call 20; (with_reducible refine (HC.out _).mono ?_); rintro e w2 ⟨v2, rfl, ho2, hl2, hb2⟩)
              have HZ := Lib.hid (below_heap hb2 HZ.out)
              have HR8 := Lib.hid (below_heap hb2 HR8.out)
              have hbl := hbl.trans (hb2.mono hzy)
              have hz8 : wo.heap.size + 1 < w2.heap.size := by have := hb2.size; omega
              clear ho2
              have HN2 := Lib.hid (hitB_next HNO.out HMISS.out)
              go_wp2_with fail
              go_roundw
              case rel => exact ⟨kind + 1, by omega, by go_num, HN2.out, HZ.out, HR8.out, hbl, hz8⟩
              case measure => simp [intOf]; omega
            | some t =>
              have HO := Lib.hid ho
              have ht4 := chordOf_len ho
              have HTV := Lib.hid (chord_valid ho)
              rw [ho] at HC
              go_wp2_with fail
              (go_at_call 20; (with_reducible refine (HC.out _).mono ?_); rintro e w2 ⟨v2, rfl, ho2, hl2, hb2⟩)
              have HZ := Lib.hid (below_heap hb2 HZ.out)
              have HR8 := Lib.hid (below_heap hb2 HR8.out)
              have hbl := hbl.trans (hb2.mono hzy)
              have hz8 : wo.heap.size + 1 < w2.heap.size := by have := hb2.size; omega
              have hzy := hbl.size
              have HT := Lib.hid (show Rd w2 v2 3 t.length (pitCells t) from Rd.of_own ho2)
              have HN := Lib.hid (H.out.below (Nat.le_refl _) hbl)
              clear ho2 hb2 hl2
              go_wp2_with fail
              (go_at_call 48; (with_reducible refine (c_sameTones _ _ t ns _ HT.out HN.out (by omega) (by omega) (valid_wf HTV.out) (valid_wf HVal.out)).mono ?_); rintro e w3 ⟨rfl, hb3⟩)
              have HZ := Lib.hid (below_heap hb3 HZ.out)
              have HR8 := Lib.hid (below_heap hb3 HR8.out)
              have HT := Lib.hid (HT.out.below (Nat.le_refl _) hb3)
              have hbl := hbl.trans (hb3.mono hzy)
              have hz8 : wo.heap.size + 1 < w3.heap.size := by have := hb3.size; omega
              have hzy := hbl.size
              cases hs : sameT t ns
              · have HMISS := Lib.hid (HMiss.out kind hk8 (fun t' ht => by have := HO.out.symm.trans ht; cases this; exact hs))
                clear ho hb3
                have HN2 := Lib.hid (hitB_next HNO.out HMISS.out)
                go_wp2_with fail
                go_roundw
                case rel => exact ⟨kind + 1, by omega, by go_num, HN2.out, HZ.out, HR8.out, hbl, hz8⟩
                case measure => simp [intOf]; omega
              · have HHit := Lib.hid (hit_low h0 hs)
                rw [HLP.out] at HHit
                have HYes := Lib.hid (fun n hn hc => HAt.out kind t n hk8 HNO.out HO.out hs hn hc)
                obtain ⟨_, At, ct, rfl, hnt, hct, hAt⟩ := HT.out
                unfold maxLen at hct
                have HTT := Lib.hid hAt
                clear hAt hb3 ho hs
                go_wp2_with fail
                go_loopw [49] (fun i wz => ∃ n : Nat, n ≤ t.length ∧ i = .int .i64 n ∧ (∀ m (hm : m < t.length), m < n → clsB t[m] ⟨ls, la, lo⟩ = false) ∧ wz.heap[w.heap.size]? = some (.cells #[.int .i64 0, .int .i64 0, .int .i64 0] 32 (0, 0)) ∧
                  wz.heap[wo.heap.size + 1]? = some (.cells #[.int .i64 xs, .int .i64 xa, .int .i64 4] 32 (0, 0)) ∧ Below w.heap.size w wz ∧ Below w3.heap.size w3 wz) (fun i _ => t.length - (intOf i).toNat)
                case atStart => exact ⟨0, Nat.zero_le _, rfl, fun m _ hm => absurd hm (by omega), HZ.out, HR8.out, hbl, Below.refl _ _⟩
                case round =>
                  clear HZ HR8 hbl
                  obtain ⟨n, hn, rfl, hnc, hZ, hR, hbl, hbt⟩ := hrel
                  have HNC := Lib.hid hnc
                  have HZ := Lib.hid hZ
                  have HR8 := Lib.hid hR
                  have hzz := hbl.size
                  have hzt := hbt.size
                  clear hnc hZ hR
                  by_cases hltn : n < t.length
                  · obtain ⟨bt, offt, rfl, hct⟩ := HTT.out (by omega)
                    obtain ⟨q0, q1, q2⟩ := pit_at (fun j u hu => below_cell hbt (hct j u hu)) n hltn
                    have HY1 := Lib.hid (HYes.out n hltn)
                    have HNx := Lib.hid (show clsB t[n] ⟨ls, la, lo⟩ = false → ∀ m (hm : m < t.length), m < n + 1 → clsB t[m] ⟨ls, la, lo⟩ = false from fun hf m hm hlt => by
                      rcases Nat.lt_succ_iff_lt_or_eq.1 hlt with h | rfl
                      · exact HNC.out m hm h
                      · exact hf)
                    have hn1 : (0 : Int) ≤ (n : Int) := by omega
                    have hn2 : (n : Int) < (t.length : Int) := by omega
                    obtain ⟨y, hy⟩ : ∃ y, t[n] = y := ⟨_, rfl⟩
                    rw [hy] at q0 q1 q2 HY1 HNx
                    clear hy hct
                    obtain ⟨ys, ya, yo⟩ := y
                    dsimp only at q0 q1 q2
                    have HZ9 := Lib.hid (below_heap (bel1 wr (.cells #[.int .i64 ys, .int .i64 ya, .int .i64 yo] 32)) HZ.out)
                    have HR9 := Lib.hid (below_heap (bel1 wr (.cells #[.int .i64 ys, .int .i64 ya, .int .i64 yo] 32)) HR8.out)
                    have HB9 := Lib.hid (hbl.alloc hzz (.cells #[.int .i64 ys, .int .i64 ya, .int .i64 yo] 32))
                    have HB9t := Lib.hid (hbt.alloc hzt (.cells #[.int .i64 ys, .int .i64 ya, .int .i64 yo] 32))
                    have HN9 := Lib.hid (H.out.below (Nat.le_refl _) HB9.out)
                    go_wp2_with fail
                    (go_at_call 49; (with_reducible refine (c_toneOf ⟨ys, ya, yo⟩ _).mono ?_); rintro e w4 ⟨rfl, hb4⟩)
                    have HN4 := Lib.hid (HN9.out.below (Nat.le_refl _) hb4)
                    go_wp2_with fail
                    (go_at_call 50; (with_reducible refine (HLow.out _ _ HN4.out).mono ?_); rintro e w5 ⟨rfl, hb5⟩)
                    go_wp2_with fail
                    (go_at_call 49; (with_reducible refine (c_toneOf ⟨ls, la, lo⟩ _).mono ?_); rintro e w6 ⟨rfl, hb6⟩)
                    have HZ6 := Lib.hid (below_heap hb6 (below_heap hb5 (below_heap hb4 HZ9.out)))
                    have HR6 := Lib.hid (below_heap hb6 (below_heap hb5 (below_heap hb4 HR9.out)))
                    have hb96 := hb4.trans ((hb5.trans (hb6.mono hb5.size)).mono hb4.size)
                    have HB6 := Lib.hid (HB9.out.trans (hb96.mono HB9.out.size))
                    have HB6t := Lib.hid (HB9t.out.trans (hb96.mono HB9t.out.size))
                    have hz6 : wo.heap.size + 1 < w6.heap.size := by have := HB6t.out.size; omega
                    clear hb4 hb5 hb6 hb96 HB9 HB9t
                    by_cases h1 : ys = ls
                    · have e1 : (ys == ls) = true := by simpa using h1
                      by_cases h2 : ya = la
                      · have e2 : (ya == la) = true := by simpa using h2
                        have HV := Lib.hid (HY1.out (clsB_iff.2 ⟨h1, h2⟩))
                        have hZ := HZ6.out
                        have hR := HR6.out
                        obtain ⟨_, _⟩ := blk_facts hZ
                        obtain ⟨_, _⟩ := blk_facts hR
                        go_wp2_with fail
                        exact bodyPost_ret (v := .tuple #[.agg #[.int .i64 xs, .int .i64 xa, .int .i64 4], .int .i64 kind, .int .i64 n, .bool true]) (by simp [results, Try.results17, go_sem, *]) rfl ⟨by rw [HV.out]; rfl, by have := HB6.out; (repeat' (first | (with_reducible exact Below.refl _ _) | (with_reducible refine Below.setCell ?_ ?_ _) | (with_reducible refine Below.alloc ?_ ?_ _) | (with_reducible refine Below.drew ?_) | (with_reducible refine below_drewN ?_ _) | (with_reducible refine Below.trans ?_ (Below.mono (by with_reducible assumption) ?_)) | omega | (simp only [size_alloc', size_setCell', size_drew', size_drewN'] at *; omega)))⟩
                      · have e2 : (ya == la) = false := by simpa using h2
                        have HN2 := Lib.hid (HNx.out (by unfold clsB; simp [h2]))
                        go_wp2_with fail
                        go_roundw
                        case rel => exact ⟨n + 1, by omega, by go_num, HN2.out, HZ6.out, HR6.out, HB6.out, HB6t.out⟩
                        case measure => simp [intOf]; omega
                    · have e1 : (ys == ls) = false := by simpa using h1
                      have HN2 := Lib.hid (HNx.out (by unfold clsB; simp [h1]))
                      go_wp2_with fail
                      go_roundw
                      case rel => exact ⟨n + 1, by omega, by go_num, HN2.out, HZ6.out, HR6.out, HB6.out, HB6t.out⟩
                      case measure => simp [intOf]; omega
                  · obtain ⟨m, hm, hc⟩ := HHit.out
                    rw [HNC.out m hm (by omega)] at hc
                    cases hc
          · have hk9 : kind = 9 := by omega
            have HN2 := Lib.hid (show ∀ j, j < 9 * (k + 1) → hitB ns j = false from fun j hj => HNO.out j (by omega))
            go_wp2_with fail
            go_roundw
            case rel => exact ⟨k + 1, by omega, by go_num, HN2.out, HZ.out, hbl⟩
            case measure => simp [intOf]; omega
      · have hke : k = ns.length := by omega
        have HV := Lib.hid (nameV_none (l := ns) (by rw [← hke]; exact HNO.out))
        have hZ := HZ.out
        obtain ⟨_, _⟩ := blk_facts hZ
        go_wp2_with fail
        exact bodyPost_ret (v := noName) (by simp [noName, results, Try.results17, go_sem, *]) rfl ⟨by rw [HV.out], by (repeat' (first | (with_reducible exact Below.refl _ _) | (with_reducible refine Below.setCell ?_ ?_ _) | (with_reducible refine Below.alloc ?_ ?_ _) | (with_reducible refine Below.drew ?_) | (with_reducible refine below_drewN ?_ _) | (with_reducible refine Below.trans ?_ (Below.mono (by with_reducible assumption) ?_)) | omega | (simp only [size_alloc', size_setCell', size_drew', size_drewN'] at *; omega)))⟩
end Go.Proofs.Ytiameebjcmnmeaa
