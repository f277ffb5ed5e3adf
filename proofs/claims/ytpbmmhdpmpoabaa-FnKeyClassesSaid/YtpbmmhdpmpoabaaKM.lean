/- Int slices marked, held, compared. Conditions: lengths up to 2^20. -/
import Derived.Test.YtpbmmhdpmpoabaaKI
import Derived.Test.YtpbmmhdpmpoabaaI1
import Derived.Test.YtpbmmhdpmpoabaaD0
namespace Go.Proofs.Ytpbmmhdpmpoabaa
open Go.RowKit
set_option linter.unusedSimpArgs false
set_option linter.unusedVariables false
set_option maxHeartbeats 8000000
def mkInts (m : Int) (n : Nat) : List Int := (List.range n).map fun (i : Nat) => m + (i : Int)
theorem mkInts_len (m : Int) (n : Nat) : (mkInts m n).length = n := by simp [mkInts]
theorem mkInts_succ (m : Int) (n : Nat) : intCells (mkInts m (n + 1)) = intCells (mkInts m n) ++ [.int .i64 (m + n)] := by
  unfold mkInts
  rw [List.range_succ, List.map_append, intCells_app]
  rfl
theorem mkInts_get (m : Int) (n k : Nat) (h : k < (mkInts m n).length) : (mkInts m n)[k] = m + k := by simp [mkInts]
def Marked (base E size : Nat) (v : Value) (n : Nat) (xs : List Value) (m : Int) (w : World) (e : Ending) (w' : World) : Prop :=
  e = .returned (.int .i64 m) ∧ w'.ownsRow base E size v n xs ∧ w.grownBy w' v.ownBlock
theorem c_markIntS (base : Nat) (v : Value) (n : Nat) (xs : List Value) (m : Int) (w : World) (h : w.ownsRow base 3 1 v n xs) (hn : n ≤ 1048576) (hm0 : 0 ≤ m) (hm1 : m ≤ 10000000000000) :
    Calls Try.prog 28 #[v, .int .i64 m] w (Marked base 3 1 v n (intCells (mkInts m n)) (m + n) w) := by
  rcases h.2 with ⟨rfl, rfl⟩ | ⟨g, cap, cur0, rfl, hbg, hg0, hnc, hcm, hsz0, htk0⟩
  · go_enter Try.func28, Try.ntmps28
    go_wp2
    go_loop [1, 5] (fun t i => i = .int .i64 0 ∧ t = .int .i64 m) (fun _ _ => 0)
    case atStart => exact ⟨rfl, rfl⟩
    case round =>
      obtain ⟨rfl, rfl⟩ := hrel
      go_wp2
      go_ret
      exact ⟨by simp, ⟨by simp [mkInts, cellsOf], .inl ⟨rfl, rfl⟩⟩, World.grownBy.refl _ _⟩
  · have HG := Lib.hid hg0
    have HS0 := Lib.hid hsz0
    clear hg0 hsz0 htk0 h
    unfold maxLen at hcm
    go_enter Try.func28, Try.ntmps28
    go_wp2
    go_loopw [1, 5] (fun t i wr => ∃ (k : Nat) (M : Int) (cur : Array Value), k ≤ n ∧ i = .int .i64 k ∧ t = .int .i64 M ∧ M = m + k ∧ wr.heap[g]? = some (.cells cur 3 (0, 0)) ∧ cur.size = cap * 1 ∧ cur.toList.take k = intCells (mkInts m k) ∧ w.grownBy wr (some g)) (fun _ i _ => n - (intOf i).toNat)
    case atStart => exact ⟨0, m, cur0, Nat.zero_le _, rfl, rfl, by simp, HG.out, HS0.out, by simp [mkInts, cellsOf], World.grownBy.refl _ _⟩
    case round =>
      obtain ⟨k, M, cur, hk, rfl, rfl, hM, hcur, hsz, htk, hkp⟩ := hrel
      have M0 : 0 ≤ M := by omega
      have M1 : M ≤ 10000000000000 + 1048576 := by omega
      have HM := Lib.hid hM
      have HS := Lib.hid hsz
      have HT := Lib.hid htk
      have HC := Lib.hid hcur
      clear hM hsz htk
      by_cases hlt : k < n
      · have f0 := (cell_of_row wr g k cur 3 (0, 0) hcur).trans (Array.getElem?_eq_getElem (show k < cur.size by rw [HS.out]; omega))
        have hfr := (blk_facts hcur).2
        generalize cur[k]'_ = u0 at f0
        obtain ⟨cur', hc', hs', ht'⟩ := store1 hcur k (.int .i64 M) (by rw [HS.out]; omega)
        have H1 := Lib.hid hc'
        have H2 := Lib.hid hs'
        have H3 := Lib.hid ht'
        have H4 := Lib.hid (kp_setCell hkp (p := ⟨g, k, none⟩) (.inl rfl) (.int .i64 M))
        clear hcur hc' hs' ht'
        go_wp2
        go_roundw
        case rel => exact ⟨k + 1, _, cur', by omega, by go_num, rfl, by have := HM.out; omega, H1.out, H2.out.trans HS.out, by rw [H3.out, HT.out, mkInts_succ, HM.out], H4.out⟩
        case measure => simp [intOf]; omega
      · clear hcur
        go_wp2
        go_ret
        have hke : k = n := by omega
        subst hke
        exact ⟨ret_int HM.out, ⟨by rw [intCells_lenA, mkInts_len, Nat.mul_one], .inr ⟨g, cap, cur, rfl, hbg, HC.out, hnc, by unfold maxLen; omega, HS.out, by rw [Nat.mul_one]; exact HT.out⟩⟩, hkp⟩
theorem c_heldIntS (v : Value) (n : Nat) (m : Int) (w : World) (h : Rd w v 1 n (intCells (mkInts m n))) (hn : n ≤ 1048576) (hm0 : 0 ≤ m) (hm1 : m ≤ 1000000000) :
    Calls Try.prog 29 #[v, .int .i64 m] w fun e w' => e = .returned (.int .i64 (m + n)) ∧ w = w' := by
  obtain ⟨_, A, c, rfl, hnc, hcm, hA⟩ := h
  unfold maxLen at hcm
  go_enter Try.func29, Try.ntmps29
  go_wp2
  go_loop [1, 5] (fun t i => ∃ (k : Nat) (M : Int), k ≤ n ∧ i = .int .i64 k ∧ t = .int .i64 M ∧ M = m + k) (fun _ i => n - (intOf i).toNat)
  case atStart => exact ⟨0, m, Nat.zero_le _, rfl, rfl, by simp⟩
  case round =>
    obtain ⟨k, M, hk, rfl, rfl, hM⟩ := hrel
    have M0 : 0 ≤ M := by omega
    have M1 : M ≤ 1000000000 + 1048576 := by omega
    have HM := Lib.hid hM
    clear hM
    by_cases hlt : k < n
    · obtain ⟨b, off, rfl, hcc⟩ := hA (by omega)
      have c0 := int_at hcc k (by rw [mkInts_len]; exact hlt)
      rw [mkInts_get, ← HM.out] at c0
      clear hA hcc
      go_wp2
      go_round
      case rel => exact ⟨k + 1, _, by omega, by go_num, rfl, by have := HM.out; omega⟩
      case measure => simp [intOf]; omega
    · clear hA
      go_wp2
      go_ret
      have hke : k = n := by omega
      subst hke
      exact ⟨ret_int HM.out, rfl⟩
theorem c_sameInts (u v : Value) (la lb : List Int) (w : World) (ha : Rd w u 1 la.length (intCells la)) (hb : Rd w v 1 lb.length (intCells lb)) :
    Calls Try.prog 31 #[u, v] w fun e w' => e = .returned (.bool (decide (la = lb))) ∧ Below w.heap.size w w' := by
  obtain ⟨_, A1, c1, rfl, hn1, hm1, hA1⟩ := ha
  obtain ⟨_, A2, c2, rfl, hn2, hm2, hA2⟩ := hb
  unfold maxLen at hm1 hm2
  by_cases hl : la.length = lb.length
  · have hl' := Lib.hid hl
    have hle : la.length ≤ lb.length := by omega
    have hle' : lb.length ≤ la.length := by omega
    have hln : ((la.length : Int) != (lb.length : Int)) = false := by simp; omega
    clear hl
    go_enter Try.func31, Try.ntmps31
    go_wp2
    go_loopw [5] (fun i wr => ∃ k : Nat, k ≤ la.length ∧ i = .int .i64 k ∧ Below w.heap.size w wr ∧ ∀ i (h1 : i < la.length) (h2 : i < lb.length), i < k → la[i] = lb[i]) (fun i _ => la.length - (intOf i).toNat)
    case atStart => exact ⟨0, Nat.zero_le _, rfl, Below.refl _ _, fun i _ _ hi => absurd hi (by omega)⟩
    case round =>
      obtain ⟨k, hk, rfl, hbl, hok⟩ := hrel
      have HOK := Lib.hid hok
      clear hok
      by_cases hlt : k < la.length
      · have hlt2 : k < lb.length := by omega
        obtain ⟨b1, f1, rfl, hc1⟩ := hA1 (by omega)
        obtain ⟨b2, f2, rfl, hc2⟩ := hA2 (by omega)
        have p0 := int_at (rd_later hbl hc1) k hlt
        have q0 := int_at (rd_later hbl hc2) k hlt2
        have HE := Lib.hid (show la[k] ≠ lb[k] → decide (la = lb) = false by
          intro hne; simp only [decide_eq_false_iff_not]; intro e; subst e; exact hne rfl)
        have HS := Lib.hid (show la[k] = lb[k] → ∀ i (h1 : i < la.length) (h2 : i < lb.length), i < k + 1 → la[i] = lb[i] by
          intro he i h1 h2 hi
          rcases Nat.lt_succ_iff_lt_or_eq.1 hi with h3 | rfl
          · exact HOK.out i h1 h2 h3
          · exact he)
        have hi1 : (0 : Int) ≤ (k : Int) := by omega
        have hi2 : (k : Int) < (la.length : Int) := by omega
        have hi3 : (k : Int) < (lb.length : Int) := by omega
        generalize la[k] = x at *
        generalize lb[k] = y at *
        clear hA1 hA2 hc1 hc2
        by_cases hxy : x = y
        · have HF := Lib.hid (HS.out hxy)
          subst hxy
          go_wp2_with fail
          go_quiet (fail)
          go_wp2
          go_roundw
          case rel => exact ⟨k + 1, by omega, by go_num, by (repeat' (first | (with_reducible exact Below.refl _ _) | (with_reducible refine Below.setCell ?_ ?_ _) | (with_reducible refine Below.alloc ?_ ?_ _) | (with_reducible refine Below.drew ?_) | (with_reducible refine below_drewN ?_ _) | (with_reducible refine Below.trans ?_ (Below.mono (by with_reducible assumption) ?_)) | omega | (simp only [size_alloc', size_setCell', size_drew', size_drewN'] at *; omega))), HF.out⟩
          case measure => simp [intOf]; omega
        · have HF := Lib.hid (HE.out hxy)
          have hb : (x != y) = true := by simpa using hxy
          go_wp2_with fail
          go_quiet (fail)
          go_wp2
          go_ret
          exact ⟨ret_bool HF.out.symm, by (repeat' (first | (with_reducible exact Below.refl _ _) | (with_reducible refine Below.setCell ?_ ?_ _) | (with_reducible refine Below.alloc ?_ ?_ _) | (with_reducible refine Below.drew ?_) | (with_reducible refine below_drewN ?_ _) | (with_reducible refine Below.trans ?_ (Below.mono (by with_reducible assumption) ?_)) | omega | (simp only [size_alloc', size_setCell', size_drew', size_drewN'] at *; omega)))⟩
      · clear hA1 hA2
        go_wp2
        go_ret
        exact ⟨ret_bool (by symm; simp only [decide_eq_true_eq]; exact List.ext_getElem hl'.out (fun i h1 h2 => HOK.out i h1 h2 (by omega))), hbl⟩
  · have hln : ((la.length : Int) != (lb.length : Int)) = true := by simp; omega
    clear hA1 hA2
    go_enter Try.func31, Try.ntmps31
    go_wp2
    go_ret
    exact ⟨ret_bool (by symm; simp only [decide_eq_false_iff_not]; intro e; exact hl (by rw [e])), Below.refl _ _⟩
theorem c_sameInts_eq (u v : Value) (l : List Int) (w : World) (ha : Rd w u 1 l.length (intCells l)) (hb : Rd w v 1 l.length (intCells l)) :
    Calls Try.prog 31 #[u, v] w fun e w' => e = .returned (.bool true) ∧ Below w.heap.size w w' := by
  have h := c_sameInts u v l l w ha hb
  rwa [decide_eq_true (rfl : l = l)] at h
end Go.Proofs.Ytpbmmhdpmpoabaa
