/- The reference's NameChord. Conditions: none. -/
import Derived.Test.YtiameebjcmnmeaaTA
namespace Go.Proofs.Ytiameebjcmnmeaa
open Go.RowKit
set_option linter.unusedSimpArgs false
set_option linter.unusedVariables false
set_option maxHeartbeats 16000000
theorem all_pits {ns : List Pit} (h : ∀ j (hj : j < ns.length), pitchValid ns[j] = true) (h1 : 1 ≤ ns.length) (h2 : ns.length ≤ 12) : arePits ns 1 12 = true := arePits_iff.2 ⟨by omega, h⟩
theorem not_pits {ns : List Pit} {j : Nat} (hj : j < ns.length) (hv : pitchValid ns[j] = false) : arePits ns 1 12 = false := by
  cases ha : arePits ns 1 12
  · rfl
  · have := (arePits_iff.1 ha).2 j hj
    rw [hv] at this
    cases this
theorem not_pits_len {ns : List Pit} (h : ns.length < 1 ∨ 12 < ns.length) : arePits ns 1 12 = false := by
  cases ha : arePits ns 1 12
  · rfl
  · have := (arePits_iff.1 ha).1
    omega
set_option maxRecDepth 100000 in
theorem c_sNameChord (v : Value) (ns : List Pit) (w : World) (h : Rd w v 3 ns.length (pitCells ns)) :
    Calls Try.prog 25 #[v] w fun e w' => e = .returned (nameV ns) ∧ Below w.heap.size w w' := by
  have H := Lib.hid h
  obtain ⟨_, A, c, rfl, hnc, hcm, hA⟩ := h
  unfold maxLen at hcm
  have HAA := Lib.hid hA
  clear hA
  have HZ0 := Lib.hid (heap_alloc_new w (.cells #[.int .i64 0, .int .i64 0, .int .i64 0] 32))
  go_enter Try.func25, Try.ntmps25
  go_wp2_with fail
  go_loopw [6, 7] (fun lo i wr => ∃ (k L : Nat), k ≤ ns.length ∧ i = .int .i64 k ∧ lo = .int .i64 L ∧ lowTo ns k = L ∧ (∀ j (hj : j < ns.length), j < k → pitchValid ns[j] = true) ∧ wr.heap[w.heap.size]? = some (.cells #[.int .i64 0, .int .i64 0, .int .i64 0] 32 (0, 0)) ∧ Below w.heap.size w wr) (fun _ i _ => ns.length - (intOf i).toNat)
  case atStart => exact ⟨0, 0, Nat.zero_le _, rfl, rfl, rfl, fun j _ hj => absurd hj (by omega), HZ0.out, bel1 _ _⟩
  case round =>
    obtain ⟨k, L, hk, rfl, rfl, hL, hva, hZ, hbl⟩ := hrel
    have HVA := Lib.hid hva
    have HZ := Lib.hid hZ
    have HL := Lib.hid hL
    have hz := hbl.size
    clear hva hZ hL
    by_cases hlt : k < ns.length
    · obtain ⟨b1, off, rfl, hcc⟩ := HAA.out (by omega)
      have hLk : L ≤ k := by rw [← HL.out]; exact lowTo_le ns k
      have hLlt : L < ns.length := by omega
      obtain ⟨p0, p1, p2⟩ := pit_at (fun j u hu => (hbl.cell (World.block_lt_of_cell? w _ (hcc j u hu))).trans (hcc j u hu)) k hlt
      obtain ⟨q0, q1, q2⟩ := pit_at (fun j u hu => (hbl.cell (World.block_lt_of_cell? w _ (hcc j u hu))).trans (hcc j u hu)) L hLlt
      have hS := lowTo_succ ns k hlt (by rw [HL.out]; exact hLlt)
      have hk1 : (0 : Int) ≤ (k : Int) := by omega
      have hk2 : (k : Int) < (ns.length : Int) := by omega
      have hL1 : (0 : Int) ≤ (L : Int) := by omega
      have hL2 : (L : Int) < (ns.length : Int) := by omega
      have HBad := Lib.hid (fun hv => nameV_bad (not_pits (ns := ns) hlt hv))
      have HOk := Lib.hid (show pitchValid ns[k] = true → ∀ j (hj : j < ns.length), j < k + 1 → pitchValid ns[j] = true from fun hv j hj hlt => by
        rcases Nat.lt_succ_iff_lt_or_eq.1 hlt with h | rfl
        · exact HVA.out j hj h
        · exact hv)
      have HS := Lib.hid (show lowTo ns (k + 1) = if keyOf ns[k] < keyOf ns[L] then k else L by
        rw [hS]
        have e := HL.out
        subst e
        rfl)
      clear hS
      obtain ⟨x, hx⟩ : ∃ x, ns[k] = x := ⟨_, rfl⟩
      obtain ⟨y, hy⟩ : ∃ x, ns[L] = x := ⟨_, rfl⟩
      rw [hx] at p0 p1 p2 HBad HOk HS
      rw [hy] at q0 q1 q2 HS
      clear hx hy hcc
      obtain ⟨xs, xa, xo⟩ := x
      obtain ⟨ys, ya, yo⟩ := y
      dsimp only at p0 p1 p2 q0 q1 q2
      obtain ⟨X, hXk⟩ : ∃ X, keyOf ⟨xs, xa, xo⟩ = X := ⟨_, rfl⟩
      obtain ⟨Y, hYk⟩ : ∃ X, keyOf ⟨ys, ya, yo⟩ = X := ⟨_, rfl⟩
      rw [hXk, hYk] at HS
      have HXK := Lib.hid (fun w => show Calls Try.prog 58 #[.agg #[.int .i64 xs, .int .i64 xa, .int .i64 xo]] w fun e w' => e = .returned (.int .i64 X) ∧ Below w.heap.size w w' by have := c_sPitchKey ⟨xs, xa, xo⟩ w; rw [hXk] at this; exact this)
      have HYK := Lib.hid (fun w => show Calls Try.prog 58 #[.agg #[.int .i64 ys, .int .i64 ya, .int .i64 yo]] w fun e w' => e = .returned (.int .i64 Y) ∧ Below w.heap.size w w' by have := c_sPitchKey ⟨ys, ya, yo⟩ w; rw [hYk] at this; exact this)
      clear hXk hYk
      cases hv : pitchValid ⟨xs, xa, xo⟩
      · have HV := Lib.hid (HBad.out hv)
        go_wp2_with fail
        (go_at_call 54; (with_reducible refine (c_sPitchValid ⟨xs, xa, xo⟩ _).mono ?_); rintro e w2 ⟨rfl, hb2⟩)
        rw [hv]
        have HZ := Lib.hid (below_heap hb2 HZ.out)
        have hbl := hbl.trans (hb2.mono hz)
        have hz := hbl.size
        have hZ := HZ.out
        obtain ⟨_, _⟩ := blk_facts hZ
        go_wp2_with fail
        exact bodyPost_ret (v := noName) (by simp [noName, results, Try.results25, go_sem, *]) rfl ⟨by rw [HV.out], by (repeat' (first | (with_reducible exact Below.refl _ _) | (with_reducible refine Below.setCell ?_ ?_ _) | (with_reducible refine Below.alloc ?_ ?_ _) | (with_reducible refine Below.drew ?_) | (with_reducible refine below_drewN ?_ _) | (with_reducible refine Below.trans ?_ (Below.mono (by with_reducible assumption) ?_)) | omega | (simp only [size_alloc', size_setCell', size_drew', size_drewN'] at *; omega)))⟩
      · have HOK := Lib.hid (HOk.out hv)
        go_wp2_with fail
        (go_at_call 54; (with_reducible refine (c_sPitchValid ⟨xs, xa, xo⟩ _).mono ?_); rintro e w2 ⟨rfl, hb2⟩)
        rw [hv]
        have HZ := Lib.hid (below_heap hb2 HZ.out)
        have hbl := hbl.trans (hb2.mono hz)
        have hz := hbl.size
        have p0 := below_cell hb2 p0
        have p1 := below_cell hb2 p1
        have p2 := below_cell hb2 p2
        have q0 := below_cell hb2 q0
        have q1 := below_cell hb2 q1
        have q2 := below_cell hb2 q2
        clear hb2
        by_cases hc : X < Y
        · have HS2 := Lib.hid (show lowTo ns (k + 1) = k by rw [HS.out, if_pos hc])
          go_wp2_with fail
          (refine wp_region_more_lit (by kernel_rfl) (by kernel_rfl) ?_; (repeat (go_big_quiet_step ((first | (go_at_call 58; with_reducible exact Calls.more_of (HXK.out _)) | (go_at_call 58; with_reducible exact Calls.more_of (HYK.out _)))))); refine wpQuiet_nil ?_; intro wq hwq; have hbq := below_of_more hwq; clear hwq; have hzq := hbq.size; (try simp only [size_alloc', size_setCell', size_drew', size_drewN'] at hzq); (try (refine keep_heap (b := w.heap.size) hbq ?_ ?_; (first | omega | (simp only [size_alloc', size_setCell', size_drew', size_drewN']; omega)); intro hkq; simp only [heap_alloc_get, heap_setCell_get, heap_drew_get, heap_drewN_get, size_alloc', size_setCell', size_drew', size_drewN', nat_simp1, nat_simp2, nat_simp3, nat_simp4, nat_simp5, if_true, if_false, *] at hkq; obtain ⟨_, _⟩ := blk_facts hkq)); skip)
          go_wp2_with fail
          go_roundw
          case rel => exact ⟨k + 1, k, by omega, by go_num, rfl, HS2.out, HOK.out, below_heap hbq HZ.out, hbl.trans (hbq.mono hz)⟩
          case measure => simp [intOf]; omega
        · have HS2 := Lib.hid (show lowTo ns (k + 1) = L by rw [HS.out, if_neg hc])
          go_wp2_with fail
          (refine wp_region_more_lit (by kernel_rfl) (by kernel_rfl) ?_; (repeat (go_big_quiet_step ((first | (go_at_call 58; with_reducible exact Calls.more_of (HXK.out _)) | (go_at_call 58; with_reducible exact Calls.more_of (HYK.out _)))))); refine wpQuiet_nil ?_; intro wq hwq; have hbq := below_of_more hwq; clear hwq; have hzq := hbq.size; (try simp only [size_alloc', size_setCell', size_drew', size_drewN'] at hzq); (try (refine keep_heap (b := w.heap.size) hbq ?_ ?_; (first | omega | (simp only [size_alloc', size_setCell', size_drew', size_drewN']; omega)); intro hkq; simp only [heap_alloc_get, heap_setCell_get, heap_drew_get, heap_drewN_get, size_alloc', size_setCell', size_drew', size_drewN', nat_simp1, nat_simp2, nat_simp3, nat_simp4, nat_simp5, if_true, if_false, *] at hkq; obtain ⟨_, _⟩ := blk_facts hkq)); skip)
          go_wp2_with fail
          go_roundw
          case rel => exact ⟨k + 1, L, by omega, by go_num, rfl, HS2.out, HOK.out, below_heap hbq HZ.out, hbl.trans (hbq.mono hz)⟩
          case measure => simp [intOf]; omega
    · have hke : k = ns.length := by omega
      have HVall := Lib.hid (show ∀ j (hj : j < ns.length), pitchValid ns[j] = true from fun j hj => HVA.out j hj (by omega))
      have HL := Lib.hid (show lowTo ns ns.length = L by rw [← hke]; exact HL.out)
      clear HVA HZ0
      have HB0 := Lib.hid hbl
      have HZs := Lib.hid HZ.out
      clear hke
      by_cases hn1 : ns.length < 1
      · have HV := Lib.hid (nameV_bad (not_pits_len (ns := ns) (.inl hn1)))
        go_wp2_with fail
        go_loopw [8] (fun i wr => i = .int .i64 0 ∧ wr.heap[w.heap.size]? = some (.cells #[.int .i64 0, .int .i64 0, .int .i64 0] 32 (0, 0)) ∧ Below w.heap.size w wr) (fun _ _ => 0)
        case atStart => exact ⟨rfl, HZs.out, HB0.out⟩
        case round =>
          clear HZ hbl hz
          obtain ⟨rfl, hZ, hbl⟩ := hrel
          have HZ := Lib.hid hZ
          have hz := hbl.size
          have hn1' : ¬ (0 : Int) < (ns.length : Int) := by omega
          clear hZ
          have hZ := HZ.out
          obtain ⟨_, _⟩ := blk_facts hZ
          go_wp2_with fail
          exact bodyPost_ret (v := noName) (by simp [noName, results, Try.results25, go_sem, *]) rfl ⟨by rw [HV.out], by (repeat' (first | (with_reducible exact Below.refl _ _) | (with_reducible refine Below.setCell ?_ ?_ _) | (with_reducible refine Below.alloc ?_ ?_ _) | (with_reducible refine Below.drew ?_) | (with_reducible refine below_drewN ?_ _) | (with_reducible refine Below.trans ?_ (Below.mono (by with_reducible assumption) ?_)) | omega | (simp only [size_alloc', size_setCell', size_drew', size_drewN'] at *; omega)))⟩
      · by_cases hn12 : ns.length ≤ 12
        · have hap := all_pits HVall.out (by omega) hn12
          have hn1' : (ns.length : Int) ≤ 12 := by omega
          have h0 : 0 < ns.length := by omega
          have HLlt := Lib.hid (show L < ns.length by rw [← HL.out]; exact lowTo_lt h0 (Nat.le_refl _))
          obtain ⟨⟨ls, la, lo⟩, hlow⟩ : ∃ p, lowP ns = p := ⟨_, rfl⟩
          have HLow := Lib.hid (show ns[L]'HLlt.out = ⟨ls, la, lo⟩ by
            rw [← hlow, lowP_get h0]
            have e := HL.out
            subst e
            rfl)
          have HAP := Lib.hid hap
          have HLP := Lib.hid hlow
          clear hap hlow
          go_wp2_with fail
          go_loopw [8] (fun i wr => ∃ k : Nat, k ≤ ns.length ∧ i = .int .i64 k ∧ (∀ j, j < 9 * k → hitB ns j = false) ∧ wr.heap[w.heap.size]? = some (.cells #[.int .i64 0, .int .i64 0, .int .i64 0] 32 (0, 0)) ∧ Below w.heap.size w wr) (fun i _ => ns.length - (intOf i).toNat)
          case atStart => exact ⟨0, Nat.zero_le _, rfl, fun j hj => absurd hj (by omega), HZs.out, HB0.out⟩
          case round =>
            clear HZ hbl hz hlt
            obtain ⟨k, hk, rfl, hno, hZ, hbl⟩ := hrel
            have HNO := Lib.hid hno
            have HZ := Lib.hid hZ
            have hz := hbl.size
            clear hno hZ
            by_cases hlt : k < ns.length
            · obtain ⟨b1, off, rfl, hcc⟩ := HAA.out (by omega)
              obtain ⟨p0, p1, p2⟩ := pit_at (fun j u hu => (hbl.cell (World.block_lt_of_cell? w _ (hcc j u hu))).trans (hcc j u hu)) k hlt
              have HMiss := Lib.hid (fun kind (hk8 : kind ≤ 8) h => hitB_miss (l := ns) hlt hk8 h)
              have HAt := Lib.hid (fun kind t n (hk8 : kind ≤ 8) hno ht hs hn hc => nameV_at (l := ns) (t := t) (n := n) HAP.out hlt hk8 hno ht hs hn hc)
              have hk1 : (0 : Int) ≤ (k : Int) := by omega
              have hk2 : (k : Int) < (ns.length : Int) := by omega
              obtain ⟨x, hx⟩ : ∃ x, ns[k] = x := ⟨_, rfl⟩
              rw [hx] at p0 p1 p2 HMiss HAt
              clear hx hcc
              obtain ⟨xs, xa, xo⟩ := x
              dsimp only [rt] at p0 p1 p2 HMiss HAt
              rw [HLP.out] at HAt
              have a0 := below_cell (bel1 wr (.cells #[.int .i64 xs, .int .i64 xa, .int .i64 4] 32)) p0
              have a1 := below_cell (bel1 wr (.cells #[.int .i64 xs, .int .i64 xa, .int .i64 4] 32)) p1
              have b0 := below_cell (bel1 wr (.cells #[.int .i64 0, .int .i64 0, .int .i64 0] 32)) p0
              have b1' := below_cell (bel1 wr (.cells #[.int .i64 0, .int .i64 0, .int .i64 0] 32)) p1
              have hnew := heap_alloc_new wr (.cells #[.int .i64 xs, .int .i64 xa, .int .i64 4] 32)
              have HR8 := Lib.hid hnew
              have HZ8 := Lib.hid (below_heap (bel1 wr (.cells #[.int .i64 xs, .int .i64 xa, .int .i64 4] 32)) HZ.out)
              have HB8 := Lib.hid (show Below w.heap.size w (wr.alloc (.cells #[.int .i64 xs, .int .i64 xa, .int .i64 4] 32)) by (repeat' (first | (with_reducible exact Below.refl _ _) | (with_reducible refine Below.setCell ?_ ?_ _) | (with_reducible refine Below.alloc ?_ ?_ _) | (with_reducible refine Below.drew ?_) | (with_reducible refine below_drewN ?_ _) | (with_reducible refine Below.trans ?_ (Below.mono (by with_reducible assumption) ?_)) | omega | (simp only [size_alloc', size_setCell', size_drew', size_drewN'] at *; omega))))
              clear hnew hbl HZ
              obtain ⟨wo, rfl⟩ : ∃ wo : World, wo = wr := ⟨_, rfl⟩
              go_upto_region 12 with (fail)
              go_cut [9] (fun s9 wx => s9 = .pointer (some ⟨wo.heap.size, 0, none⟩) ∧ wx.heap[w.heap.size]? = some (.cells #[.int .i64 0, .int .i64 0, .int .i64 0] 32 (0, 0)) ∧ wx.heap[wo.heap.size]? = some (.cells #[.int .i64 xs, .int .i64 xa, .int .i64 4] 32 (0, 0)) ∧ Below w.heap.size w wx)
              case first =>
                go_region_law (fail)
                all_goals
                  go_wp2_with fail
                  go_meet
                  exact ⟨rfl, HZ8.out, HR8.out, HB8.out.drew⟩
              case rest =>
                obtain ⟨rfl, hZ8, hR8, hB8⟩ := hcut
                have HZ8 := Lib.hid hZ8
                have HR8 := Lib.hid hR8
                have HB8 := Lib.hid hB8
                clear a0 a1 b0 b1' p0 p1 p2 hZ8 hR8 hB8
                go_wp2_with fail
                go_loopw [10] (fun i wy => ∃ kind : Nat, kind ≤ 9 ∧ i = .int .i64 kind ∧ (∀ j, j < 9 * k + kind → hitB ns j = false) ∧ wy.heap[w.heap.size]? = some (.cells #[.int .i64 0, .int .i64 0, .int .i64 0] 32 (0, 0)) ∧
                  wy.heap[wo.heap.size]? = some (.cells #[.int .i64 xs, .int .i64 xa, .int .i64 4] 32 (0, 0)) ∧ Below w.heap.size w wy) (fun i _ => 9 - (intOf i).toNat)
                case atStart => exact ⟨0, by omega, rfl, HNO.out, HZ8.out, HR8.out, HB8.out⟩
                case round =>
                  clear HNO HZ8 HR8 HB8
                  obtain ⟨kind, hkd, rfl, hno, hZ, hR, hbl⟩ := hrel
                  have HNO := Lib.hid hno
                  have HZ := Lib.hid hZ
                  have HR := Lib.hid hR
                  have hzy := hbl.size
                  obtain ⟨_, _⟩ := blk_facts hR
                  clear hno hZ hR
                  by_cases hlt9 : kind < 9
                  · have hkd9 : (kind : Int) ≤ 8 := by omega
                    have hk8 : kind ≤ 8 := by omega
                    obtain ⟨t, ht⟩ : ∃ t, (chordOf ⟨xs, xa, 4⟩ (kind : Int)).getD [] = t := ⟨_, rfl⟩
                    obtain ⟨b, hb⟩ : ∃ b, (chordOf ⟨xs, xa, 4⟩ (kind : Int)).isSome = b := ⟨_, rfl⟩
                    have HC := Lib.hid (fun w => (c_sChordOf ⟨xs, xa, 4⟩ (kind : Int) w).mono (fun e w' hp => show ∃ v, e = .returned (.tuple #[v, .bool b]) ∧ w'.ownsRow w.heap.size 32 3 v t.length (pitCells t) ∧ t.length ≤ 4 ∧ Below w.heap.size w w' by unfold ChordPost at hp; rw [ht, hb] at hp; exact hp))
                    have HSome := Lib.hid (show b = true → chordOf ⟨xs, xa, 4⟩ (kind : Int) = some t by
                      cases ho : chordOf ⟨xs, xa, 4⟩ (kind : Int) with
                      | none => intro hbt; rw [ho] at hb; rw [← hb] at hbt; cases hbt
                      | some t' => intro _; rw [ho] at ht; exact congrArg some ht)
                    have HMISS := Lib.hid (show (b && ns.all (hasT t) && t.all (hasT ns)) = false → hitB ns (9 * k + kind) = false from fun hf => HMiss.out kind hk8 (fun t' ht' => by
                      rw [ht'] at hb ht
                      have e : t' = t := ht
                      subst e
                      rw [← hb] at hf
                      unfold sameT
                      rw [Bool.and_comm]
                      exact hf))
                    clear ht hb
                    go_wp2_with fail
                    (go_at_call 21; (with_reducible refine (HC.out _).mono ?_); rintro e w1 ⟨v1, rfl, ho1, ht4, hb1⟩)
                    have HZ := Lib.hid (below_heap hb1 HZ.out)
                    have HR := Lib.hid (below_heap hb1 HR.out)
                    have hbl := hbl.trans (hb1.mono hzy)
                    have hzy := hbl.size
                    have HT1 := Lib.hid (Rd.of_own ho1)
                    obtain ⟨_, At, ct, rfl, hnt, hct, hAt⟩ := HT1.out
                    unfold maxLen at hct
                    have HTT := Lib.hid hAt
                    clear hAt hb1 ho1
                    go_wp2_with fail
                    go_loopw [12, 13] (fun o i wr => ∃ j : Nat, j ≤ ns.length ∧ i = .int .i64 j ∧ o = .bool (b && (ns.take j).all (hasT t)) ∧ wr.heap[w.heap.size]? = some (.cells #[.int .i64 0, .int .i64 0, .int .i64 0] 32 (0, 0)) ∧
                      wr.heap[wo.heap.size]? = some (.cells #[.int .i64 xs, .int .i64 xa, .int .i64 4] 32 (0, 0)) ∧ Below w.heap.size w wr ∧ Below w1.heap.size w1 wr) (fun _ i _ => ns.length - (intOf i).toNat)
                    case atStart => exact ⟨0, Nat.zero_le _, rfl, by simp, HZ.out, HR.out, hbl, Below.refl _ _⟩
                    case round =>
                      clear HZ HR hbl hzy
                      obtain ⟨j, hj, rfl, rfl, hZ, hR, hbl, hbt⟩ := hrel
                      have HZ := Lib.hid hZ
                      have HR := Lib.hid hR
                      have hzz := hbl.size
                      have hzt := hbt.size
                      clear hZ hR
                      by_cases hltj : j < ns.length
                      · obtain ⟨bn, offn, he, hccn⟩ := HAA.out (by omega)
                        cases he
                        obtain ⟨q0, q1, q2⟩ := pit_at (fun j u hu => (hbl.cell (World.block_lt_of_cell? w _ (hccn j u hu))).trans (hccn j u hu)) j hltj
                        have HTk := Lib.hid (all_take_succ (hasT t) ns j hltj)
                        have HRt := Lib.hid (HT1.out.below (Nat.le_refl _) hbt)
                        have hj1 : (0 : Int) ≤ (j : Int) := by omega
                        have hj2 : (j : Int) < (ns.length : Int) := by omega
                        obtain ⟨y, hy⟩ : ∃ y, ns[j] = y := ⟨_, rfl⟩
                        rw [hy] at q0 q1 q2 HTk
                        clear hy
                        obtain ⟨ys, ya, yo⟩ := y
                        dsimp only at q0 q1 q2 HTk
                        clear hccn
                        cases ho : (b && (ns.take j).all (hasT t))
                        · have HN := Lib.hid (show (b && (ns.take (j + 1)).all (hasT t)) = false by rw [HTk.out, ← Bool.and_assoc, ho]; rfl)
                          go_wp2_with fail
                          go_roundw
                          case rel => exact ⟨j + 1, by omega, by go_num, by rw [HN.out], HZ.out, HR.out, hbl, hbt⟩
                          case measure => simp [intOf]; omega
                        · have HN := Lib.hid (show (b && (ns.take (j + 1)).all (hasT t)) = hasT t ⟨ys, ya, yo⟩ by rw [HTk.out, ← Bool.and_assoc, ho]; rfl)
                          go_wp2_with fail
                          (go_at_call 59; (with_reducible refine (c_l10Has _ t ⟨ys, ya, yo⟩ _ HRt.out).mono ?_); rintro e w4 ⟨rfl, hb4⟩)
                          go_wp2_with fail
                          go_roundw
                          case rel => exact ⟨j + 1, by omega, by go_num, by rw [HN.out], below_heap hb4 HZ.out, below_heap hb4 HR.out, hbl.trans (hb4.mono hzz), hbt.trans (hb4.mono hzt)⟩
                          case measure => simp [intOf]; omega
                      · have hke : j = ns.length := by omega
                        rw [hke, List.take_length]
                        obtain ⟨first, hfirst⟩ : ∃ f, (b && ns.all (hasT t)) = f := ⟨_, rfl⟩
                        rw [hfirst]
                        have HFirst := Lib.hid hfirst
                        clear hfirst hke
                        go_wp2_with fail
                        go_loopw [12, 14, 15] (fun o a i wr => ∃ j : Nat, j ≤ t.length ∧ i = .int .i64 j ∧ o = .bool (first && (t.take j).all (hasT ns)) ∧ a = .int .i64 (atTo t ⟨ls, la, lo⟩ j) ∧ wr.heap[w.heap.size]? = some (.cells #[.int .i64 0, .int .i64 0, .int .i64 0] 32 (0, 0)) ∧
                          wr.heap[wo.heap.size]? = some (.cells #[.int .i64 xs, .int .i64 xa, .int .i64 4] 32 (0, 0)) ∧ Below w.heap.size w wr ∧ Below w1.heap.size w1 wr) (fun _ _ i _ => t.length - (intOf i).toNat)
                        case atStart => exact ⟨0, Nat.zero_le _, rfl, by simp, rfl, HZ.out, HR.out, hbl, hbt⟩
                        case round =>
                          clear HZ HR hbl hbt hzz hzt
                          obtain ⟨j, hj, rfl, rfl, rfl, hZ, hR, hbl, hbt⟩ := hrel
                          have HZ := Lib.hid hZ
                          have HR := Lib.hid hR
                          have hzz := hbl.size
                          have hzt := hbt.size
                          clear hZ hR
                          by_cases hltj : j < t.length
                          · obtain ⟨b2, off2, rfl, hcc2⟩ := HTT.out (by omega)
                            obtain ⟨q0, q1, q2⟩ := pit_at (fun j u hu => below_cell hbt (hcc2 j u hu)) j hltj
                            have HTk := Lib.hid (all_take_succ (hasT ns) t j hltj)
                            have HAt := Lib.hid (atTo_succ (p := ⟨ls, la, lo⟩) hltj)
                            have HRn := Lib.hid (H.out.below (Nat.le_refl _) hbl)
                            obtain ⟨bn, offn, he, hccn⟩ := HAA.out (by omega)
                            cases he
                            obtain ⟨r0, r1, r2⟩ := pit_at (fun j u hu => (hbl.cell (World.block_lt_of_cell? w _ (hccn j u hu))).trans (hccn j u hu)) L HLlt.out
                            rw [HLow.out] at r0 r1 r2
                            have hj1 : (0 : Int) ≤ (j : Int) := by omega
                            have hj2 : (j : Int) < (t.length : Int) := by omega
                            have hL1 : (0 : Int) ≤ (L : Int) := by omega
                            have hL2 : (L : Int) < (ns.length : Int) := by have := HLlt.out; omega
                            generalize t[j] = y at *
                            obtain ⟨ys, ya, yo⟩ := y
                            dsimp only at q0 q1 q2 r0 r1 r2 HTk
                            have HCl := Lib.hid (fun w => c_l10Class ⟨ys, ya, yo⟩ ⟨ls, la, lo⟩ w)
                            clear hcc2 hccn
                            cases ho : (first && (t.take j).all (hasT ns))
                            · have HN := Lib.hid (show (first && (t.take (j + 1)).all (hasT ns)) = false by rw [HTk.out, ← Bool.and_assoc, ho]; rfl)
                              cases hc : (decide (ys = ls) && decide (ya = la))
                              · have HA1 := Lib.hid (show atTo t ⟨ls, la, lo⟩ (j + 1) = atTo t ⟨ls, la, lo⟩ j by rw [HAt.out]; unfold clsB; dsimp only; rw [hc]; rfl)
                                try dsimp only at HCl
                                rw [hc] at HCl
                                go_wp2_with fail
                                (refine wp_region_more_lit (by kernel_rfl) (by kernel_rfl) ?_; (repeat (go_big_quiet_step ((go_at_call 60; with_reducible exact Calls.more_of (HCl.out _))))); refine wpQuiet_nil ?_; intro wq hwq; have hbq := below_of_more hwq; clear hwq; have hzq := hbq.size; (try simp only [size_alloc', size_setCell', size_drew', size_drewN'] at hzq); (try (refine keep_heap (b := w.heap.size) hbq ?_ ?_; (first | omega | (simp only [size_alloc', size_setCell', size_drew', size_drewN']; omega)); intro hkq; simp only [heap_alloc_get, heap_setCell_get, heap_drew_get, heap_drewN_get, size_alloc', size_setCell', size_drew', size_drewN', nat_simp1, nat_simp2, nat_simp3, nat_simp4, nat_simp5, if_true, if_false, *] at hkq; obtain ⟨_, _⟩ := blk_facts hkq)); skip)
                                go_wp2_with fail
                                go_roundw
                                case rel => exact ⟨j + 1, by omega, by go_num, by rw [HN.out], by rw [HA1.out], below_heap hbq HZ.out, below_heap hbq HR.out, hbl.trans (hbq.mono hzz), hbt.trans (hbq.mono hzt)⟩
                                case measure => simp [intOf]; omega
                              · have HA1 := Lib.hid (show atTo t ⟨ls, la, lo⟩ (j + 1) = (j : Int) by rw [HAt.out]; unfold clsB; dsimp only; rw [hc]; rfl)
                                try dsimp only at HCl
                                rw [hc] at HCl
                                go_wp2_with fail
                                (refine wp_region_more_lit (by kernel_rfl) (by kernel_rfl) ?_; (repeat (go_big_quiet_step ((go_at_call 60; with_reducible exact Calls.more_of (HCl.out _))))); refine wpQuiet_nil ?_; intro wq hwq; have hbq := below_of_more hwq; clear hwq; have hzq := hbq.size; (try simp only [size_alloc', size_setCell', size_drew', size_drewN'] at hzq); (try (refine keep_heap (b := w.heap.size) hbq ?_ ?_; (first | omega | (simp only [size_alloc', size_setCell', size_drew', size_drewN']; omega)); intro hkq; simp only [heap_alloc_get, heap_setCell_get, heap_drew_get, heap_drewN_get, size_alloc', size_setCell', size_drew', size_drewN', nat_simp1, nat_simp2, nat_simp3, nat_simp4, nat_simp5, if_true, if_false, *] at hkq; obtain ⟨_, _⟩ := blk_facts hkq)); skip)
                                go_wp2_with fail
                                go_roundw
                                case rel => exact ⟨j + 1, by omega, by go_num, by rw [HN.out], by rw [HA1.out], below_heap hbq HZ.out, below_heap hbq HR.out, hbl.trans (hbq.mono hzz), hbt.trans (hbq.mono hzt)⟩
                                case measure => simp [intOf]; omega
                            · have HN := Lib.hid (show (first && (t.take (j + 1)).all (hasT ns)) = hasT ns ⟨ys, ya, yo⟩ by rw [HTk.out, ← Bool.and_assoc, ho]; rfl)
                              go_wp2_with fail
                              (go_at_call 59; (with_reducible refine (c_l10Has _ ns ⟨ys, ya, yo⟩ _ HRn.out).mono ?_); rintro e w4 ⟨rfl, hb4⟩)
                              have q0 := below_cell hb4 q0
                              have q1 := below_cell hb4 q1
                              have q2 := below_cell hb4 q2
                              have r0 := below_cell hb4 r0
                              have r1 := below_cell hb4 r1
                              have r2 := below_cell hb4 r2
                              have HZ := Lib.hid (below_heap hb4 HZ.out)
                              have HR := Lib.hid (below_heap hb4 HR.out)
                              have hbl := hbl.trans (hb4.mono hzz)
                              have hbt := hbt.trans (hb4.mono hzt)
                              have hzz := hbl.size
                              have hzt := hbt.size
                              cases hc : (decide (ys = ls) && decide (ya = la))
                              · have HA1 := Lib.hid (show atTo t ⟨ls, la, lo⟩ (j + 1) = atTo t ⟨ls, la, lo⟩ j by rw [HAt.out]; unfold clsB; dsimp only; rw [hc]; rfl)
                                try dsimp only at HCl
                                rw [hc] at HCl
                                clear hb4
                                go_wp2_with fail
                                (refine wp_region_more_lit (by kernel_rfl) (by kernel_rfl) ?_; (repeat (go_big_quiet_step ((go_at_call 60; with_reducible exact Calls.more_of (HCl.out _))))); refine wpQuiet_nil ?_; intro wq hwq; have hbq := below_of_more hwq; clear hwq; have hzq := hbq.size; (try simp only [size_alloc', size_setCell', size_drew', size_drewN'] at hzq); (try (refine keep_heap (b := w.heap.size) hbq ?_ ?_; (first | omega | (simp only [size_alloc', size_setCell', size_drew', size_drewN']; omega)); intro hkq; simp only [heap_alloc_get, heap_setCell_get, heap_drew_get, heap_drewN_get, size_alloc', size_setCell', size_drew', size_drewN', nat_simp1, nat_simp2, nat_simp3, nat_simp4, nat_simp5, if_true, if_false, *] at hkq; obtain ⟨_, _⟩ := blk_facts hkq)); skip)
                                go_wp2_with fail
                                go_roundw
                                case rel => exact ⟨j + 1, by omega, by go_num, by rw [HN.out], by rw [HA1.out], below_heap hbq HZ.out, below_heap hbq HR.out, hbl.trans (hbq.mono hzz), hbt.trans (hbq.mono hzt)⟩
                                case measure => simp [intOf]; omega
                              · have HA1 := Lib.hid (show atTo t ⟨ls, la, lo⟩ (j + 1) = (j : Int) by rw [HAt.out]; unfold clsB; dsimp only; rw [hc]; rfl)
                                try dsimp only at HCl
                                rw [hc] at HCl
                                clear hb4
                                go_wp2_with fail
                                (refine wp_region_more_lit (by kernel_rfl) (by kernel_rfl) ?_; (repeat (go_big_quiet_step ((go_at_call 60; with_reducible exact Calls.more_of (HCl.out _))))); refine wpQuiet_nil ?_; intro wq hwq; have hbq := below_of_more hwq; clear hwq; have hzq := hbq.size; (try simp only [size_alloc', size_setCell', size_drew', size_drewN'] at hzq); (try (refine keep_heap (b := w.heap.size) hbq ?_ ?_; (first | omega | (simp only [size_alloc', size_setCell', size_drew', size_drewN']; omega)); intro hkq; simp only [heap_alloc_get, heap_setCell_get, heap_drew_get, heap_drewN_get, size_alloc', size_setCell', size_drew', size_drewN', nat_simp1, nat_simp2, nat_simp3, nat_simp4, nat_simp5, if_true, if_false, *] at hkq; obtain ⟨_, _⟩ := blk_facts hkq)); skip)
                                go_wp2_with fail
                                go_roundw
                                case rel => exact ⟨j + 1, by omega, by go_num, by rw [HN.out], by rw [HA1.out], below_heap hbq HZ.out, below_heap hbq HR.out, hbl.trans (hbq.mono hzz), hbt.trans (hbq.mono hzt)⟩
                                case measure => simp [intOf]; omega
                          · have hke : j = t.length := by omega
                            rw [hke, List.take_length]
                            cases hb : (first && t.all (hasT ns))
                            · have HMS := Lib.hid (HMISS.out (by rw [HFirst.out]; exact hb))
                              have HN2 := Lib.hid (hitB_next HNO.out HMS.out)
                              clear hke
                              go_wp2_with fail
                              go_roundw
                              case rel => exact ⟨kind + 1, by omega, by go_num, HN2.out, HZ.out, HR.out, hbl⟩
                              case measure => simp [intOf]; omega
                            · have hbb : b = true ∧ sameT t ns = true := by
                                rw [← HFirst.out] at hb
                                unfold sameT
                                revert hb
                                cases b <;> cases ns.all (hasT t) <;> cases t.all (hasT ns) <;> simp
                              obtain ⟨n, hn, hc⟩ := hit_low h0 hbb.2
                              rw [HLP.out] at hc
                              have hA := atTo_eq hn hc (chord_only (HSome.out hbb.1) hn hc)
                              have HV := Lib.hid (HAt.out kind t n hk8 HNO.out (HSome.out hbb.1) hbb.2 hn hc)
                              rw [hA]
                              have hZ := HZ.out
                              have hR := HR.out
                              obtain ⟨_, _⟩ := blk_facts hZ
                              obtain ⟨_, _⟩ := blk_facts hR
                              clear hke hb hbb hA hc hbt
                              go_wp2_with fail
                              exact bodyPost_ret (v := .tuple #[.agg #[.int .i64 xs, .int .i64 xa, .int .i64 4], .int .i64 kind, .int .i64 n, .bool true]) (by simp [results, Try.results25, go_sem, *]) rfl ⟨by rw [HV.out]; rfl, by (repeat' (first | (with_reducible exact Below.refl _ _) | (with_reducible refine Below.setCell ?_ ?_ _) | (with_reducible refine Below.alloc ?_ ?_ _) | (with_reducible refine Below.drew ?_) | (with_reducible refine below_drewN ?_ _) | (with_reducible refine Below.trans ?_ (Below.mono (by with_reducible assumption) ?_)) | omega | (simp only [size_alloc', size_setCell', size_drew', size_drewN'] at *; omega)))⟩
                  · have hk9 : kind = 9 := by omega
                    have HN2 := Lib.hid (show ∀ j, j < 9 * (k + 1) → hitB ns j = false from fun j hj => HNO.out j (by omega))
                    go_wp2_with fail
                    go_roundw
                    case rel => exact ⟨k + 1, by omega, by go_num, HN2.out, HZ.out, hbl⟩
                    case measure => simp [intOf]; omega
            · have hke : k = ns.length := by omega
              have HV := Lib.hid (nameV_none (l := ns) (by rw [← hke]; exact HNO.out))
              have hZ := HZ.out
              obtain ⟨_, _⟩ := blk_facts hZ
              go_wp2_with fail
              exact bodyPost_ret (v := noName) (by simp [noName, results, Try.results25, go_sem, *]) rfl ⟨by rw [HV.out], by (repeat' (first | (with_reducible exact Below.refl _ _) | (with_reducible refine Below.setCell ?_ ?_ _) | (with_reducible refine Below.alloc ?_ ?_ _) | (with_reducible refine Below.drew ?_) | (with_reducible refine below_drewN ?_ _) | (with_reducible refine Below.trans ?_ (Below.mono (by with_reducible assumption) ?_)) | omega | (simp only [size_alloc', size_setCell', size_drew', size_drewN'] at *; omega)))⟩
        · have HV := Lib.hid (nameV_bad (not_pits_len (ns := ns) (.inr (by omega))))
          have hn1' : ¬ (ns.length : Int) ≤ 12 := by omega
          go_wp2_with fail
          go_loopw [8] (fun i wr => i = .int .i64 0 ∧ wr.heap[w.heap.size]? = some (.cells #[.int .i64 0, .int .i64 0, .int .i64 0] 32 (0, 0)) ∧ Below w.heap.size w wr) (fun _ _ => 0)
          case atStart => exact ⟨rfl, HZs.out, HB0.out⟩
          case round =>
            clear HZ hbl hz
            obtain ⟨rfl, hZ, hbl⟩ := hrel
            have HZ := Lib.hid hZ
            have hz := hbl.size
            clear hZ
            have hZ := HZ.out
            obtain ⟨_, _⟩ := blk_facts hZ
            go_wp2_with fail
            exact bodyPost_ret (v := noName) (by simp [noName, results, Try.results25, go_sem, *]) rfl ⟨by rw [HV.out], by (repeat' (first | (with_reducible exact Below.refl _ _) | (with_reducible refine Below.setCell ?_ ?_ _) | (with_reducible refine Below.alloc ?_ ?_ _) | (with_reducible refine Below.drew ?_) | (with_reducible refine below_drewN ?_ _) | (with_reducible refine Below.trans ?_ (Below.mono (by with_reducible assumption) ?_)) | omega | (simp only [size_alloc', size_setCell', size_drew', size_drewN'] at *; omega)))⟩
end Go.Proofs.Ytiameebjcmnmeaa
