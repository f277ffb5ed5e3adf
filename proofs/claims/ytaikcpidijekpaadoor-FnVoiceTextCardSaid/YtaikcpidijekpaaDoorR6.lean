/- Comparing voices in the laws. Conditions: none. -/
import Derived.Test.YtaikcpidijekpaaDoorR4
namespace Go.Proofs.YtaikcpidijekpaaDoor
open Go.RowKit
set_option linter.unusedSimpArgs false
set_option linter.unusedVariables false
set_option maxHeartbeats 4000000
theorem c_sameVoice (u v : Value) (la lb : List Nt) (w : World) (ha : Rd w u 6 la.length (ntCells la)) (hb : Rd w v 6 lb.length (ntCells lb)) :
    Calls Tryd.prog 28 #[u, v] w fun e w' => e = .returned (.bool (allEq la lb)) ∧ Below w.heap.size w w' := by
  obtain ⟨_, A1, c1, rfl, hn1, hm1, hA1⟩ := ha
  obtain ⟨_, A2, c2, rfl, hn2, hm2, hA2⟩ := hb
  unfold maxLen at hm1 hm2
  by_cases hl : la.length = lb.length
  · have hl' := Lib.hid hl
    have hle : la.length ≤ lb.length := by omega
    have hle' : lb.length ≤ la.length := by omega
    have hln : ((la.length : Int) != (lb.length : Int)) = false := by simp; omega
    clear hl
    go_enter Tryd.func28, Tryd.ntmps28
    go_wp2
    go_loopw [5] (fun i wr => ∃ k : Nat, k ≤ la.length ∧ i = .int .i64 k ∧ Below w.heap.size w wr ∧ ∀ i (h1 : i < la.length) (h2 : i < lb.length), i < k → ntEq la[i] lb[i] = true) (fun i _ => la.length - (intOf i).toNat)
    case atStart => exact ⟨0, Nat.zero_le _, rfl, Below.refl _ _, fun i _ _ hi => absurd hi (by omega)⟩
    case round =>
      obtain ⟨k, hk, rfl, hbl, hok⟩ := hrel
      have hz := hbl.size
      have HOK := Lib.hid hok
      clear hok
      by_cases hlt : k < la.length
      · have hlt2 : k < lb.length := by omega
        obtain ⟨b1, f1, rfl, hc1⟩ := hA1 (by omega)
        obtain ⟨b2, f2, rfl, hc2⟩ := hA2 (by omega)
        obtain ⟨p0, p1, p2, p3, p4, p5⟩ := nt_at (rd_later hbl hc1) k hlt
        obtain ⟨q0, q1, q2, q3, q4, q5⟩ := nt_at (rd_later hbl hc2) k hlt2
        have HE := Lib.hid (ne_at hlt hlt2)
        have HS := Lib.hid (show ntEq la[k] lb[k] = true → ∀ i (h1 : i < la.length) (h2 : i < lb.length), i < k + 1 → ntEq la[i] lb[i] = true by
          intro he i h1 h2 hi
          rcases Nat.lt_succ_iff_lt_or_eq.1 hi with h3 | rfl
          · exact HOK.out i h1 h2 h3
          · exact he)
        generalize la[k] = x at *
        generalize lb[k] = y at *
        clear hA1 hA2 hc1 hc2
        obtain ⟨xr, ⟨xs, xa, xo⟩, xt, xd⟩ := x
        obtain ⟨yr, ⟨ys, ya, yo⟩, yt, yd⟩ := y
        have hnq := run_neq_nt xr xs xa xo xt xd yr ys ya yo yt yd
        have hk1 : (0 : Int) ≤ (k : Int) := by omega
        have hk2 : (k : Int) < (la.length : Int) := by omega
        have hk3 : (k : Int) < (lb.length : Int) := by omega
        cases hxy : ntEq ⟨xr, ⟨xs, xa, xo⟩, xt, xd⟩ ⟨yr, ⟨ys, ya, yo⟩, yt, yd⟩
        · have HF := Lib.hid (HE.out hxy)
          rw [hxy] at hnq
          go_wp2_with fail
          (refine wp_region_more_lit (by kernel_rfl) (by kernel_rfl) ?_; (repeat (go_big_quiet_step (fail))); refine wpQuiet_nil ?_; intro wq hwq; have hbq := below_of_more hwq; clear hwq; have hzq := hbq.size; (try simp only [size_alloc', size_setCell', size_drew', size_drewN'] at hzq); (try (refine keep_heap (b := w.heap.size) hbq ?_ ?_; (first | omega | (simp only [size_alloc', size_setCell', size_drew', size_drewN']; omega)); intro hkq; simp only [heap_alloc_get, heap_setCell_get, heap_drew_get, heap_drewN_get, size_alloc', size_setCell', size_drew', size_drewN', nat_simp1, nat_simp2, nat_simp3, nat_simp4, nat_simp5, if_true, if_false, *] at hkq; obtain ⟨_, _⟩ := blk_facts hkq)); skip)
          clear hnq
          go_wp2
          go_ret
          exact ⟨ret_bool HF.out.symm, by (repeat' (first | (with_reducible exact Below.refl _ _) | (with_reducible refine Below.setCell ?_ ?_ _) | (with_reducible refine Below.alloc ?_ ?_ _) | (with_reducible refine Below.drew ?_) | (with_reducible refine below_drewN ?_ _) | (with_reducible refine Below.trans ?_ (Below.mono (by with_reducible assumption) ?_)) | omega | (simp only [size_alloc', size_setCell', size_drew', size_drewN'] at *; omega)))⟩
        · have HF := Lib.hid (HS.out hxy)
          rw [hxy] at hnq
          go_wp2_with fail
          (refine wp_region_more_lit (by kernel_rfl) (by kernel_rfl) ?_; (repeat (go_big_quiet_step (fail))); refine wpQuiet_nil ?_; intro wq hwq; have hbq := below_of_more hwq; clear hwq; have hzq := hbq.size; (try simp only [size_alloc', size_setCell', size_drew', size_drewN'] at hzq); (try (refine keep_heap (b := w.heap.size) hbq ?_ ?_; (first | omega | (simp only [size_alloc', size_setCell', size_drew', size_drewN']; omega)); intro hkq; simp only [heap_alloc_get, heap_setCell_get, heap_drew_get, heap_drewN_get, size_alloc', size_setCell', size_drew', size_drewN', nat_simp1, nat_simp2, nat_simp3, nat_simp4, nat_simp5, if_true, if_false, *] at hkq; obtain ⟨_, _⟩ := blk_facts hkq)); skip)
          clear hnq
          go_wp2
          go_roundw
          case rel => exact ⟨k + 1, by omega, by go_num, by (repeat' (first | (with_reducible exact Below.refl _ _) | (with_reducible refine Below.setCell ?_ ?_ _) | (with_reducible refine Below.alloc ?_ ?_ _) | (with_reducible refine Below.drew ?_) | (with_reducible refine below_drewN ?_ _) | (with_reducible refine Below.trans ?_ (Below.mono (by with_reducible assumption) ?_)) | omega | (simp only [size_alloc', size_setCell', size_drew', size_drewN'] at *; omega))), HF.out⟩
          case measure => simp [intOf]; omega
      · clear hA1 hA2
        go_wp2
        go_ret
        exact ⟨ret_bool (eq_all hl'.out (fun i h1 h2 => HOK.out i h1 h2 (by omega))).symm, hbl⟩
  · have hln : ((la.length : Int) != (lb.length : Int)) = true := by simp; omega
    clear hA1 hA2
    go_enter Tryd.func28, Tryd.ntmps28
    go_wp2
    go_ret
    exact ⟨ret_bool (by simp only [allEq]; symm; simp; intro e; exact hl (by rw [e])), Below.refl _ _⟩
theorem c_sameVoice_eq (u v : Value) (l : List Nt) (w : World) (ha : Rd w u 6 l.length (ntCells l)) (hb : Rd w v 6 l.length (ntCells l)) :
    Calls Tryd.prog 28 #[u, v] w fun e w' => e = .returned (.bool true) ∧ Below w.heap.size w w' := by
  have h := c_sameVoice u v l l w ha hb
  rwa [show allEq l l = true from decide_eq_true rfl] at h
end Go.Proofs.YtaikcpidijekpaaDoor
