/- Contracts of the functions that read voices, and of those that compare them. Conditions: none. -/
import Derived.Test.YtaikcpidijekpaaDoorB4
namespace Go.Proofs.YtaikcpidijekpaaDoor
open Go.RowKit
set_option linter.unusedSimpArgs false
set_option linter.unusedVariables false
set_option maxHeartbeats 1000000

/-- The cells of a slice that came in, in a later world. -/
theorem rd_later {w wr : World} {b off : Nat} {xs : List Value} (hbl : Below w.heap.size w wr) (hcc : ∀ j u, xs[j]? = some u → w.cell? ⟨b, off + j, none⟩ = some u) :
    ∀ j u, xs[j]? = some u → wr.cell? ⟨b, off + j, none⟩ = some u := fun j u hu => below_cell hbl (hcc j u hu)

theorem c_szNoteS (A : Option Addr) (n c : Nat) (left : Int) (w : World) (hn : n ≤ 9223372036854775807) (h0 : 0 ≤ left) (h1 : left ≤ 1048576) (h : (n : Int) ≤ left) :
    Calls Tryd.prog 20 #[.slice A n c, .int .i64 left] w fun e w' => e = .returned (.int .i64 (left - n)) ∧ w = w' := by
  go_enter Tryd.func20, Tryd.ntmps20
  go_wp2
  go_ret
  exact ⟨rfl, rfl⟩
theorem c_szNoteS_no (A : Option Addr) (n c : Nat) (left : Int) (w : World) (hn : n ≤ 9223372036854775807) (h0 : 0 ≤ left) (h1 : left ≤ 1048576) (h : ¬ (n : Int) ≤ left) :
    Calls Tryd.prog 20 #[.slice A n c, .int .i64 left] w fun e w' => e = .returned (.int .i64 (-1)) ∧ w = w' := by
  go_enter Tryd.func20, Tryd.ntmps20
  go_wp2
  go_ret
  exact ⟨rfl, rfl⟩
def allEq (a b : List Nt) : Bool := decide (a = b)
theorem ne_at {a b : List Nt} {k : Nat} (h1 : k < a.length) (h2 : k < b.length) (h : ntEq a[k] b[k] = false) : allEq a b = false := by
  simp only [allEq, decide_eq_false_iff_not]
  intro e
  subst e
  rw [ntEq_iff.2 rfl] at h
  cases h
theorem eq_all {a b : List Nt} (hl : a.length = b.length) (h : ∀ i (h1 : i < a.length) (h2 : i < b.length), ntEq a[i] b[i] = true) : allEq a b = true := by
  simp only [allEq, decide_eq_true_eq]
  exact List.ext_getElem hl fun i h1 h2 => ntEq_iff.1 (h i h1 h2)
set_option maxHeartbeats 4000000 in
theorem c_eqNoteS (u v : Value) (la lb : List Nt) (w : World) (ha : Rd w u 6 la.length (ntCells la)) (hb : Rd w v 6 lb.length (ntCells lb)) :
    Calls Tryd.prog 24 #[u, v] w fun e w' => e = .returned (.bool (allEq la lb)) ∧ Below w.heap.size w w' := by
  obtain ⟨_, A1, c1, rfl, hn1, hm1, hA1⟩ := ha
  obtain ⟨_, A2, c2, rfl, hn2, hm2, hA2⟩ := hb
  unfold maxLen at hm1 hm2
  by_cases hl : la.length = lb.length
  · have hl' := Lib.hid hl
    have hle : la.length ≤ lb.length := by omega
    have hle' : lb.length ≤ la.length := by omega
    have hln : ((la.length : Int) != (lb.length : Int)) = false := by simp; omega
    clear hl
    go_enter Tryd.func24, Tryd.ntmps24
    go_wp2
    go_loopw [5] (fun i wr => ∃ k : Nat, k ≤ la.length ∧ i = .int .i64 k ∧ Below w.heap.size w wr ∧ ∀ i (h1 : i < la.length) (h2 : i < lb.length), i < k → ntEq la[i] lb[i] = true) (fun i _ => la.length - (intOf i).toNat)
    case atStart => exact ⟨0, Nat.zero_le _, rfl, Below.refl _ _, fun i _ _ hi => absurd hi (by omega)⟩
    case round =>
      obtain ⟨k, hk, rfl, hbl, hok⟩ := hrel
      have hz := hbl.size
      have HOK := Lib.hid hok
      clear hok
      by_cases hlt : k < la.length
      · have hlt2 : k < lb.length := by omega
        obtain ⟨b1, f1, rfl, hc1⟩ := hA1 (by omega)
        obtain ⟨b2, f2, rfl, hc2⟩ := hA2 (by omega)
        obtain ⟨p0, p1, p2, p3, p4, p5⟩ := nt_at (rd_later hbl hc1) k hlt
        obtain ⟨q0, q1, q2, q3, q4, q5⟩ := nt_at (rd_later hbl hc2) k hlt2
        have HE := Lib.hid (ne_at hlt hlt2)
        have HS := Lib.hid (show ntEq la[k] lb[k] = true → ∀ i (h1 : i < la.length) (h2 : i < lb.length), i < k + 1 → ntEq la[i] lb[i] = true by
          intro he i h1 h2 hi
          rcases Nat.lt_succ_iff_lt_or_eq.1 hi with h3 | rfl
          · exact HOK.out i h1 h2 h3
          · exact he)
        generalize la[k] = x at *
        generalize lb[k] = y at *
        clear hA1 hA2 hc1 hc2
        obtain ⟨xr, ⟨xs, xa, xo⟩, xt, xd⟩ := x
        obtain ⟨yr, ⟨ys, ya, yo⟩, yt, yd⟩ := y
        cases hxy : ntEq ⟨xr, ⟨xs, xa, xo⟩, xt, xd⟩ ⟨yr, ⟨ys, ya, yo⟩, yt, yd⟩
        · have HF := Lib.hid (HE.out hxy)
          go_wp2_with fail
          (refine wp_region_more_lit (by kernel_rfl) (by kernel_rfl) ?_; (repeat (go_big_quiet_step ((go_at_call 18; with_reducible exact Calls.more_of (c_eqNote ⟨xr, ⟨xs, xa, xo⟩, xt, xd⟩ ⟨yr, ⟨ys, ya, yo⟩, yt, yd⟩ _))))); refine wpQuiet_nil ?_; intro wq hwq; have hbq := below_of_more hwq; clear hwq; have hzq := hbq.size; (try simp only [size_alloc', size_setCell', size_drew', size_drewN'] at hzq); (try (refine keep_heap (b := w.heap.size) hbq ?_ ?_; (first | omega | (simp only [size_alloc', size_setCell', size_drew', size_drewN']; omega)); intro hkq; simp only [heap_alloc_get, heap_setCell_get, heap_drew_get, heap_drewN_get, size_alloc', size_setCell', size_drew', size_drewN', nat_simp1, nat_simp2, nat_simp3, nat_simp4, nat_simp5, if_true, if_false, *] at hkq; obtain ⟨_, _⟩ := blk_facts hkq)); skip)
          go_wp2
          go_ret
          exact ⟨ret_bool HF.out.symm, by (repeat' (first | (with_reducible exact Below.refl _ _) | (with_reducible refine Below.setCell ?_ ?_ _) | (with_reducible refine Below.alloc ?_ ?_ _) | (with_reducible refine Below.drew ?_) | (with_reducible refine below_drewN ?_ _) | (with_reducible refine Below.trans ?_ (Below.mono (by with_reducible assumption) ?_)) | omega | (simp only [size_alloc', size_setCell', size_drew', size_drewN'] at *; omega)))⟩
        · have HF := Lib.hid (HS.out hxy)
          go_wp2_with fail
          (refine wp_region_more_lit (by kernel_rfl) (by kernel_rfl) ?_; (repeat (go_big_quiet_step ((go_at_call 18; with_reducible exact Calls.more_of (c_eqNote ⟨xr, ⟨xs, xa, xo⟩, xt, xd⟩ ⟨yr, ⟨ys, ya, yo⟩, yt, yd⟩ _))))); refine wpQuiet_nil ?_; intro wq hwq; have hbq := below_of_more hwq; clear hwq; have hzq := hbq.size; (try simp only [size_alloc', size_setCell', size_drew', size_drewN'] at hzq); (try (refine keep_heap (b := w.heap.size) hbq ?_ ?_; (first | omega | (simp only [size_alloc', size_setCell', size_drew', size_drewN']; omega)); intro hkq; simp only [heap_alloc_get, heap_setCell_get, heap_drew_get, heap_drewN_get, size_alloc', size_setCell', size_drew', size_drewN', nat_simp1, nat_simp2, nat_simp3, nat_simp4, nat_simp5, if_true, if_false, *] at hkq; obtain ⟨_, _⟩ := blk_facts hkq)); skip)
          go_wp2
          go_roundw
          case rel => exact ⟨k + 1, by omega, by go_num, by (repeat' (first | (with_reducible exact Below.refl _ _) | (with_reducible refine Below.setCell ?_ ?_ _) | (with_reducible refine Below.alloc ?_ ?_ _) | (with_reducible refine Below.drew ?_) | (with_reducible refine below_drewN ?_ _) | (with_reducible refine Below.trans ?_ (Below.mono (by with_reducible assumption) ?_)) | omega | (simp only [size_alloc', size_setCell', size_drew', size_drewN'] at *; omega))), HF.out⟩
          case measure => simp [intOf]; omega
      · clear hA1 hA2
        go_wp2
        go_ret
        exact ⟨ret_bool (eq_all hl'.out (fun i h1 h2 => HOK.out i h1 h2 (by omega))).symm, hbl⟩
  · have hln : ((la.length : Int) != (lb.length : Int)) = true := by simp; omega
    clear hA1 hA2
    go_enter Tryd.func24, Tryd.ntmps24
    go_wp2
    go_ret
    exact ⟨ret_bool (by simp only [allEq]; symm; simp; intro e; exact hl (by rw [e])), Below.refl _ _⟩
theorem run_neq_nt (xr : Bool) (xs xa xo xt : Int) (xd yr : Bool) (ys ya yo yt : Int) (yd : Bool) (w : World) :
    (binOp .neq 29 (.agg #[.bool xr, .int .i64 xs, .int .i64 xa, .int .i64 xo, .int .i64 xt, .bool xd]) (.agg #[.bool yr, .int .i64 ys, .int .i64 ya, .int .i64 yo, .int .i64 yt, .bool yd])).run Tryd.prog w =
      .ok (.bool (!ntEq ⟨xr, ⟨xs, xa, xo⟩, xt, xd⟩ ⟨yr, ⟨ys, ya, yo⟩, yt, yd⟩)) w := by
  by_cases h1 : xr = yr
  · by_cases h2 : xs = ys
    · by_cases h3 : xa = ya
      · by_cases h4 : xo = yo
        · by_cases h5 : xt = yt
          · by_cases h6 : xd = yd <;> simp [go_sem, ntEq, pitEq, h1, h2, h3, h4, h5, h6]
          · simp [go_sem, ntEq, pitEq, h1, h2, h3, h4, h5]
        · simp [go_sem, ntEq, pitEq, h1, h2, h3, h4]
      · simp [go_sem, ntEq, pitEq, h1, h2, h3]
    · simp [go_sem, ntEq, pitEq, h1, h2]
  · simp [go_sem, ntEq, pitEq, h1]
end Go.Proofs.YtaikcpidijekpaaDoor
