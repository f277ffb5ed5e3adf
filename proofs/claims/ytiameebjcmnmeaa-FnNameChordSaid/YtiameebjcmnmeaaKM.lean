/- Int slices marked, held, compared. Conditions: lengths up to 2^20. -/
import Derived.Test.YtiameebjcmnmeaaKI
import Derived.Test.YtiameebjcmnmeaaI1
import Derived.Test.YtiameebjcmnmeaaD0
namespace Go.Proofs.Ytiameebjcmnmeaa
open Go.RowKit
set_option linter.unusedSimpArgs false
set_option linter.unusedVariables false
set_option maxHeartbeats 8000000
theorem c_sameInts (u v : Value) (la lb : List Int) (w : World) (ha : Rd w u 1 la.length (intCells la)) (hb : Rd w v 1 lb.length (intCells lb)) :
    Calls Try.prog 30 #[u, v] w fun e w' => e = .returned (.bool (decide (la = lb))) ∧ Below w.heap.size w w' := by
  obtain ⟨_, A1, c1, rfl, hn1, hm1, hA1⟩ := ha
  obtain ⟨_, A2, c2, rfl, hn2, hm2, hA2⟩ := hb
  unfold maxLen at hm1 hm2
  by_cases hl : la.length = lb.length
  · have hl' := Lib.hid hl
    have hle : la.length ≤ lb.length := by omega
    have hle' : lb.length ≤ la.length := by omega
    have hln : ((la.length : Int) != (lb.length : Int)) = false := by simp; omega
    clear hl
    go_enter Try.func30, Try.ntmps30
    go_wp2
    go_loopw [5] (fun i wr => ∃ k : Nat, k ≤ la.length ∧ i = .int .i64 k ∧ Below w.heap.size w wr ∧ ∀ i (h1 : i < la.length) (h2 : i < lb.length), i < k → la[i] = lb[i]) (fun i _ => la.length - (intOf i).toNat)
    case atStart => exact ⟨0, Nat.zero_le _, rfl, Below.refl _ _, fun i _ _ hi => absurd hi (by omega)⟩
    case round =>
      obtain ⟨k, hk, rfl, hbl, hok⟩ := hrel
      have HOK := Lib.hid hok
      clear hok
      by_cases hlt : k < la.length
      · have hlt2 : k < lb.length := by omega
        obtain ⟨b1, f1, rfl, hc1⟩ := hA1 (by omega)
        obtain ⟨b2, f2, rfl, hc2⟩ := hA2 (by omega)
        have p0 := int_at (rd_later hbl hc1) k hlt
        have q0 := int_at (rd_later hbl hc2) k hlt2
        have HE := Lib.hid (show la[k] ≠ lb[k] → decide (la = lb) = false by
          intro hne; simp only [decide_eq_false_iff_not]; intro e; subst e; exact hne rfl)
        have HS := Lib.hid (show la[k] = lb[k] → ∀ i (h1 : i < la.length) (h2 : i < lb.length), i < k + 1 → la[i] = lb[i] by
          intro he i h1 h2 hi
          rcases Nat.lt_succ_iff_lt_or_eq.1 hi with h3 | rfl
          · exact HOK.out i h1 h2 h3
          · exact he)
        have hi1 : (0 : Int) ≤ (k : Int) := by omega
        have hi2 : (k : Int) < (la.length : Int) := by omega
        have hi3 : (k : Int) < (lb.length : Int) := by omega
        generalize la[k] = x at *
        generalize lb[k] = y at *
        clear hA1 hA2 hc1 hc2
        by_cases hxy : x = y
        · have HF := Lib.hid (HS.out hxy)
          subst hxy
          go_wp2_with fail
          go_quiet (fail)
          go_wp2
          go_roundw
          case rel => exact ⟨k + 1, by omega, by go_num, by (repeat' (first | (with_reducible exact Below.refl _ _) | (with_reducible refine Below.setCell ?_ ?_ _) | (with_reducible refine Below.alloc ?_ ?_ _) | (with_reducible refine Below.drew ?_) | (with_reducible refine below_drewN ?_ _) | (with_reducible refine Below.trans ?_ (Below.mono (by with_reducible assumption) ?_)) | omega | (simp only [size_alloc', size_setCell', size_drew', size_drewN'] at *; omega))), HF.out⟩
          case measure => simp [intOf]; omega
        · have HF := Lib.hid (HE.out hxy)
          have hb : (x != y) = true := by simpa using hxy
          go_wp2_with fail
          go_quiet (fail)
          go_wp2
          go_ret
          exact ⟨ret_bool HF.out.symm, by (repeat' (first | (with_reducible exact Below.refl _ _) | (with_reducible refine Below.setCell ?_ ?_ _) | (with_reducible refine Below.alloc ?_ ?_ _) | (with_reducible refine Below.drew ?_) | (with_reducible refine below_drewN ?_ _) | (with_reducible refine Below.trans ?_ (Below.mono (by with_reducible assumption) ?_)) | omega | (simp only [size_alloc', size_setCell', size_drew', size_drewN'] at *; omega)))⟩
      · clear hA1 hA2
        go_wp2
        go_ret
        exact ⟨ret_bool (by symm; simp only [decide_eq_true_eq]; exact List.ext_getElem hl'.out (fun i h1 h2 => HOK.out i h1 h2 (by omega))), hbl⟩
  · have hln : ((la.length : Int) != (lb.length : Int)) = true := by simp; omega
    clear hA1 hA2
    go_enter Try.func30, Try.ntmps30
    go_wp2
    go_ret
    exact ⟨ret_bool (by symm; simp only [decide_eq_false_iff_not]; intro e; exact hl (by rw [e])), Below.refl _ _⟩
theorem c_sameInts_eq (u v : Value) (l : List Int) (w : World) (ha : Rd w u 1 l.length (intCells l)) (hb : Rd w v 1 l.length (intCells l)) :
    Calls Try.prog 30 #[u, v] w fun e w' => e = .returned (.bool true) ∧ Below w.heap.size w w' := by
  have h := c_sameInts u v l l w ha hb
  rwa [decide_eq_true (rfl : l = l)] at h
end Go.Proofs.Ytiameebjcmnmeaa
