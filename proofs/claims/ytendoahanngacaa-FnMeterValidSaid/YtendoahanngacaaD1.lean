/- Drawing: the reader is opened; meters. Conditions: none. -/
import Derived.Test.YtendoahanngacaaD0
import Derived.Test.YtendoahanngacaaB2
namespace Go.Proofs.Ytendoahanngacaa
open Go.RowKit
set_option linter.unusedSimpArgs false
set_option linter.unusedVariables false
set_option maxHeartbeats 2000000

theorem byte_at {w : World} {b off : Nat} {bs : List Int} (hc : ∀ j u, (byteCells bs)[j]? = some u → w.cell? ⟨b, off + j, none⟩ = some u) (j : Nat) (hj : j < bs.length) :
    w.cell? ⟨b, off + j, none⟩ = some (.int .u8 bs[j]) := by
  have := cellsOf_get (fun b => [Value.int .u8 b]) 1 (fun _ => rfl) bs j 0 (by omega) hj
  exact hc j _ (by simpa using this)

/-- A reader of the call's own. -/
def Opened (w : World) (e : Ending) (w' : World) : Prop :=
  ∃ g, e = .returned (.pointer (some ⟨g, 0, none⟩)) ∧ w.heap.size ≤ g ∧ Rdr w' g 1000000 ∧ Below w.heap.size w w'
theorem opened_of {w : World} {A : Option Addr} {n c : Nat} {bs : List Int} (hn : n ≤ bs.length) (h2 : n ≤ 2000) (hb : ∀ x ∈ bs, 0 ≤ x ∧ x ≤ 255)
    (hA : 0 < n → ∃ b off, A = some ⟨b, off, none⟩ ∧ ∀ j u, (byteCells bs)[j]? = some u → w.cell? ⟨b, off + j, none⟩ = some u) :
    Opened w (.returned (.pointer (some ⟨w.heap.size, 0, none⟩))) (w.alloc (.cells #[.slice A n c, .int .i64 0] 78)) := by
  refine ⟨w.heap.size, rfl, Nat.le_refl _, ⟨A, n, c, 0, bs.take n, heap_alloc_new w _, by simp; omega, h2, by omega, fun x hx => hb x (List.mem_of_mem_take hx), fun h0 => ?_⟩, bel1 _ _⟩
  obtain ⟨b, off, rfl, hc⟩ := hA h0
  have hbl : b < w.heap.size := World.block_lt_of_cell? w _ (byte_at hc 0 (by omega))
  refine ⟨b, off, rfl, hbl, fun j hj => ?_⟩
  have hj' : j < n := by simp at hj; omega
  rw [World.cell?_alloc_lt _ _ _ hbl, List.getElem_take]
  exact byte_at hc j (by omega)

theorem c_open (v : Value) (bs : List Int) (w : World) (h : Rd w v 1 bs.length (byteCells bs)) (hb : ∀ x ∈ bs, 0 ≤ x ∧ x ≤ 255) :
    Calls Try.prog 49 #[v] w (Opened w) := by
  obtain ⟨_, A, c, rfl, hnc, hcm, hA⟩ := h
  unfold maxLen at hcm
  by_cases h2 : bs.length ≤ 2000
  · have hfin := Lib.hid (opened_of (c := c) (Nat.le_refl _) h2 hb hA)
    clear hA
    go_enter Try.func49, Try.ntmps49
    go_wp2
    go_ret
    exact hfin.out
  · obtain ⟨b, off, rfl, hcc⟩ := hA (by omega)
    have hfin := Lib.hid (opened_of (n := 2000) (c := c) (by omega) (Nat.le_refl _) hb (fun _ => ⟨b, off, rfl, hcc⟩))
    clear hcc hA
    go_enter Try.func49, Try.ntmps49
    go_wp2
    go_ret
    exact hfin.out
/-- A number is drawn once in n calls. -/
def PickedB (g m : Nat) (w : World) (e : Ending) (w' : World) : Prop := ∃ x : Bool, e = .returned (.bool x) ∧ Rdr w' g m ∧ w.grownBy w' (some g)
theorem c_odd (g m : Nat) (n : Int) (w : World) (h : Rdr w g (m + 1)) (hn : n ≤ 1000000) (hn' : -1000000 ≤ n) :
    Calls Try.prog 60 #[.pointer (some ⟨g, 0, none⟩), .int .i64 n] w (PickedB g m w) := by
  by_cases h0 : 0 < n
  · have h0' : decide (0 < n) = true := by simpa using h0
    go_enter Try.func60, Try.ntmps60
    go_wp2_with fail
    (go_at_call 51; (with_reducible refine (c_pick g (m) _ _ ?_ (by omega) (by omega)).mono ?_); (focus (repeat' (first | (with_reducible assumption) | (with_reducible refine Rdr.alloc ?_ _) | (with_reducible refine Rdr.setCell ?_ ?_ _) | (with_reducible refine Rdr.drewN ?_ _) | (with_reducible refine Rdr.drew ?_) | (show _ < _; first | omega | (simp only [size_alloc', size_setCell', size_drew', size_drewN'] at *; omega))))); rintro e wq ⟨xq, rfl, hxq, hyq, hzq, hrq, hgq⟩; have hsq := hgq.size; (try simp only [size_alloc', size_setCell', size_drew', size_drewN'] at hsq); skip)
    go_wp2
    go_ret
    exact ⟨_, rfl, hrq, hgq⟩
  · have h0' : decide (0 < n) = false := by simpa using h0
    go_enter Try.func60, Try.ntmps60
    go_wp2
    go_ret
    exact ⟨_, rfl, h.mono (by omega), World.grownBy.refl _ _⟩
def DrewMet (g m : Nat) (w : World) (e : Ending) (w' : World) : Prop := ∃ mt : Met, e = .returned mt.v ∧ mt.Good ∧ Rdr w' g m ∧ w.grownBy w' (some g)
theorem list_I64 {l : List Int} (h : l.all (fun x => decide (-1000000 ≤ x) && decide (x ≤ 1000000)) = true) {y : Int} (hy : y ∈ l) : I64 y := by
  have := List.all_eq_true.1 h y hy
  simp at this
  unfold I64; omega
theorem c_l20Meter (g m : Nat) (n : Int) (w : World) (h : Rdr w g (m + 5)) (hn : n ≤ 1000000) (hn' : -1000000 ≤ n) :
    Calls Try.prog 48 #[.pointer (some ⟨g, 0, none⟩), .int .i64 n] w (DrewMet g m w) := by
  have hg := h.lt
  go_enter Try.func48, Try.ntmps48
  go_wp2_with fail
  (go_at_call 51; (with_reducible refine (c_pick g (m+4) _ _ ?_ (by omega) (by omega)).mono ?_); (focus (repeat' (first | (with_reducible assumption) | (with_reducible refine Rdr.alloc ?_ _) | (with_reducible refine Rdr.setCell ?_ ?_ _) | (with_reducible refine Rdr.drewN ?_ _) | (with_reducible refine Rdr.drew ?_) | (show _ < _; first | omega | (simp only [size_alloc', size_setCell', size_drew', size_drewN'] at *; omega))))); rintro e w1 ⟨x1, rfl, hx1, hy1, hz1, hrq, hgq⟩; have hsq := hgq.size; (try simp only [size_alloc', size_setCell', size_drew', size_drewN'] at hsq); (try (refine keep_heap_g (b := w.heap.size) hgq ?_ ?_ ?_; (first | omega | (simp only [size_alloc', size_setCell', size_drew', size_drewN']; omega)); omega; intro hkq; simp only [heap_alloc_get, heap_setCell_get, heap_drew_get, heap_drewN_get, size_alloc', size_setCell', size_drew', size_drewN', nat_simp1, nat_simp2, nat_simp3, nat_simp4, nat_simp5, if_true, if_false, Option.map_some, *] at hkq; obtain ⟨_, _⟩ := blk_facts hkq)); (try (refine ne_cps (a := w.heap.size) (b := w1.heap.size) ?_ ?_; omega; intro _ _)); (try (refine ne_cps (a := w.heap.size) (b := w1.heap.size + 1) ?_ ?_; omega; intro _ _)); (try (refine ne_cps (a := w.heap.size) (b := w1.heap.size + 1 + 1) ?_ ?_; omega; intro _ _)); skip)
  go_wp2_with fail
  (go_at_call 51; (with_reducible refine (c_pick g (m+3) _ _ ?_ (by omega) (by omega)).mono ?_); (focus (repeat' (first | (with_reducible assumption) | (with_reducible refine Rdr.alloc ?_ _) | (with_reducible refine Rdr.setCell ?_ ?_ _) | (with_reducible refine Rdr.drewN ?_ _) | (with_reducible refine Rdr.drew ?_) | (show _ < _; first | omega | (simp only [size_alloc', size_setCell', size_drew', size_drewN'] at *; omega))))); rintro e w2 ⟨x2, rfl, hx2, hy2, hz2, hrq, hgq⟩; have hsq := hgq.size; (try simp only [size_alloc', size_setCell', size_drew', size_drewN'] at hsq); (try (refine keep_heap_g (b := w.heap.size) hgq ?_ ?_ ?_; (first | omega | (simp only [size_alloc', size_setCell', size_drew', size_drewN']; omega)); omega; intro hkq; simp only [heap_alloc_get, heap_setCell_get, heap_drew_get, heap_drewN_get, size_alloc', size_setCell', size_drew', size_drewN', nat_simp1, nat_simp2, nat_simp3, nat_simp4, nat_simp5, if_true, if_false, Option.map_some, *] at hkq; obtain ⟨_, _⟩ := blk_facts hkq)); (try (refine keep_heap_g (b := w1.heap.size) hgq ?_ ?_ ?_; (first | omega | (simp only [size_alloc', size_setCell', size_drew', size_drewN']; omega)); omega; intro hkq; simp only [heap_alloc_get, heap_setCell_get, heap_drew_get, heap_drewN_get, size_alloc', size_setCell', size_drew', size_drewN', nat_simp1, nat_simp2, nat_simp3, nat_simp4, nat_simp5, if_true, if_false, Option.map_some, *] at hkq)); (try (refine ne_cps (a := w.heap.size) (b := w2.heap.size) ?_ ?_; omega; intro _ _)); (try (refine ne_cps (a := w.heap.size) (b := w2.heap.size + 1) ?_ ?_; omega; intro _ _)); (try (refine ne_cps (a := w.heap.size) (b := w2.heap.size + 1 + 1) ?_ ?_; omega; intro _ _)); (try (refine ne_cps (a := w1.heap.size) (b := w2.heap.size) ?_ ?_; omega; intro _ _)); (try (refine ne_cps (a := w1.heap.size) (b := w2.heap.size + 1) ?_ ?_; omega; intro _ _)); (try (refine ne_cps (a := w1.heap.size) (b := w2.heap.size + 1 + 1) ?_ ?_; omega; intro _ _)); skip)
  have hx1' := hy1 (by omega)
  have hx2' := hy2 (by omega)
  obtain ⟨y2, hc2, hm2⟩ := at_list [2, 4, 4, 8, 16] (W := w2) (b := w1.heap.size) (by assumption) x2 hx2 (by simpa using hx2')
  have hi2 := list_I64 (by decide) hm2
  have hi1 : I64 (1 + x1) := by unfold I64; omega
  go_wp2_with fail
  (go_at_call 60; (with_reducible refine (c_odd g (m+2) _ _ ?_ hn hn').mono ?_); (focus (repeat' (first | (with_reducible assumption) | (with_reducible refine Rdr.alloc ?_ _) | (with_reducible refine Rdr.setCell ?_ ?_ _) | (with_reducible refine Rdr.drewN ?_ _) | (with_reducible refine Rdr.drew ?_) | (show _ < _; first | omega | (simp only [size_alloc', size_setCell', size_drew', size_drewN'] at *; omega))))); rintro e w3 ⟨b3, rfl, hrq, hgq⟩; have hsq := hgq.size; (try simp only [size_alloc', size_setCell', size_drew', size_drewN'] at hsq); (try (refine keep_heap_g (b := w.heap.size) hgq ?_ ?_ ?_; (first | omega | (simp only [size_alloc', size_setCell', size_drew', size_drewN']; omega)); omega; intro hkq; simp only [heap_alloc_get, heap_setCell_get, heap_drew_get, heap_drewN_get, size_alloc', size_setCell', size_drew', size_drewN', nat_simp1, nat_simp2, nat_simp3, nat_simp4, nat_simp5, if_true, if_false, Option.map_some, *] at hkq; obtain ⟨_, _⟩ := blk_facts hkq)); (try (refine keep_heap_g (b := w2.heap.size) hgq ?_ ?_ ?_; (first | omega | (simp only [size_alloc', size_setCell', size_drew', size_drewN']; omega)); omega; intro hkq; simp only [heap_alloc_get, heap_setCell_get, heap_drew_get, heap_drewN_get, size_alloc', size_setCell', size_drew', size_drewN', nat_simp1, nat_simp2, nat_simp3, nat_simp4, nat_simp5, if_true, if_false, Option.map_some, *] at hkq; obtain ⟨_, _⟩ := blk_facts hkq)); (try (refine ne_cps (a := w.heap.size) (b := w3.heap.size) ?_ ?_; omega; intro _ _)); (try (refine ne_cps (a := w.heap.size) (b := w3.heap.size + 1) ?_ ?_; omega; intro _ _)); (try (refine ne_cps (a := w.heap.size) (b := w3.heap.size + 1 + 1) ?_ ?_; omega; intro _ _)); (try (refine ne_cps (a := w2.heap.size) (b := w3.heap.size) ?_ ?_; omega; intro _ _)); (try (refine ne_cps (a := w2.heap.size) (b := w3.heap.size + 1) ?_ ?_; omega; intro _ _)); (try (refine ne_cps (a := w2.heap.size) (b := w3.heap.size + 1 + 1) ?_ ?_; omega; intro _ _)); skip)
  cases b3
  · go_wp2_with fail
    (refine bodyPost_ret (results_cell_row rfl _ _ (w.heap.size) 25 #[.int .i64 (1 + x1), .int .i64 y2] (0, 0) _ rfl ?_ Try.underlying25 rfl (by kernel_rfl)) rfl ?_)
    · (simp only [heap_alloc_get, heap_setCell_get, heap_drew_get, heap_drewN_get, size_alloc', size_setCell', size_drew', size_drewN', nat_simp1, nat_simp2, nat_simp3, nat_simp4, nat_simp5, if_true, if_false, Option.map_some, *]; first | done | rfl | simp)
    · exact ⟨⟨_, _⟩, rfl, ⟨hi1, hi2⟩, by refine Rdr.mono (m := m + 2) ?_ (by omega); (repeat' (first | (with_reducible assumption) | (with_reducible refine Rdr.alloc ?_ _) | (with_reducible refine Rdr.setCell ?_ ?_ _) | (with_reducible refine Rdr.drewN ?_ _) | (with_reducible refine Rdr.drew ?_) | (show _ < _; first | omega | (simp only [size_alloc', size_setCell', size_drew', size_drewN'] at *; omega)))), by (repeat' (first | (with_reducible exact World.grownBy.refl _ _) | (with_reducible refine kp_setCell ?_ ?_ _) | (with_reducible refine kp_alloc ?_ _) | (with_reducible refine kp_drew ?_) | (with_reducible refine kp_drewN ?_ _) | (with_reducible refine kp_trans ?_ (by with_reducible assumption)) | (show _ ∨ _; first | (left; omega) | (right; omega) | (right; simp only [size_alloc', size_setCell', size_drew', size_drewN'] at *; omega)) | (with_reducible refine kp_below ?_ (by with_reducible assumption))))⟩
  · go_wp2_with fail
    (go_at_call 51; (with_reducible refine (c_pick g (m+1) _ _ ?_ (by omega) (by omega)).mono ?_); (focus (repeat' (first | (with_reducible assumption) | (with_reducible refine Rdr.alloc ?_ _) | (with_reducible refine Rdr.setCell ?_ ?_ _) | (with_reducible refine Rdr.drewN ?_ _) | (with_reducible refine Rdr.drew ?_) | (show _ < _; first | omega | (simp only [size_alloc', size_setCell', size_drew', size_drewN'] at *; omega))))); rintro e w4 ⟨x4, rfl, hx4, hy4, hz4, hrq, hgq⟩; have hsq := hgq.size; (try simp only [size_alloc', size_setCell', size_drew', size_drewN'] at hsq); (try (refine keep_heap_g (b := w.heap.size) hgq ?_ ?_ ?_; (first | omega | (simp only [size_alloc', size_setCell', size_drew', size_drewN']; omega)); omega; intro hkq; simp only [heap_alloc_get, heap_setCell_get, heap_drew_get, heap_drewN_get, size_alloc', size_setCell', size_drew', size_drewN', nat_simp1, nat_simp2, nat_simp3, nat_simp4, nat_simp5, if_true, if_false, Option.map_some, *] at hkq; obtain ⟨_, _⟩ := blk_facts hkq)); (try (refine keep_heap_g (b := w2.heap.size) hgq ?_ ?_ ?_; (first | omega | (simp only [size_alloc', size_setCell', size_drew', size_drewN']; omega)); omega; intro hkq; simp only [heap_alloc_get, heap_setCell_get, heap_drew_get, heap_drewN_get, size_alloc', size_setCell', size_drew', size_drewN', nat_simp1, nat_simp2, nat_simp3, nat_simp4, nat_simp5, if_true, if_false, Option.map_some, *] at hkq; obtain ⟨_, _⟩ := blk_facts hkq)); (try (refine ne_cps (a := w.heap.size) (b := w4.heap.size) ?_ ?_; omega; intro _ _)); (try (refine ne_cps (a := w.heap.size) (b := w4.heap.size + 1) ?_ ?_; omega; intro _ _)); (try (refine ne_cps (a := w.heap.size) (b := w4.heap.size + 1 + 1) ?_ ?_; omega; intro _ _)); (try (refine ne_cps (a := w2.heap.size) (b := w4.heap.size) ?_ ?_; omega; intro _ _)); (try (refine ne_cps (a := w2.heap.size) (b := w4.heap.size + 1) ?_ ?_; omega; intro _ _)); (try (refine ne_cps (a := w2.heap.size) (b := w4.heap.size + 1 + 1) ?_ ?_; omega; intro _ _)); skip)
    have hx4' := hy4 (by omega)
    have h01 : x4 = 0 ∨ x4 = 1 := by omega
    rcases h01 with rfl | rfl
    · go_wp2_with fail
      (go_at_call 51; (with_reducible refine (c_pick g (m) _ _ ?_ (by omega) (by omega)).mono ?_); (focus (repeat' (first | (with_reducible assumption) | (with_reducible refine Rdr.alloc ?_ _) | (with_reducible refine Rdr.setCell ?_ ?_ _) | (with_reducible refine Rdr.drewN ?_ _) | (with_reducible refine Rdr.drew ?_) | (show _ < _; first | omega | (simp only [size_alloc', size_setCell', size_drew', size_drewN'] at *; omega))))); rintro e w5 ⟨x5, rfl, hx5, hy5, hz5, hrq, hgq⟩; have hsq := hgq.size; (try simp only [size_alloc', size_setCell', size_drew', size_drewN'] at hsq); (try (refine keep_heap_g (b := w.heap.size) hgq ?_ ?_ ?_; (first | omega | (simp only [size_alloc', size_setCell', size_drew', size_drewN']; omega)); omega; intro hkq; simp only [heap_alloc_get, heap_setCell_get, heap_drew_get, heap_drewN_get, size_alloc', size_setCell', size_drew', size_drewN', nat_simp1, nat_simp2, nat_simp3, nat_simp4, nat_simp5, if_true, if_false, Option.map_some, *] at hkq; obtain ⟨_, _⟩ := blk_facts hkq)); (try (refine keep_heap_g (b := w2.heap.size) hgq ?_ ?_ ?_; (first | omega | (simp only [size_alloc', size_setCell', size_drew', size_drewN']; omega)); omega; intro hkq; simp only [heap_alloc_get, heap_setCell_get, heap_drew_get, heap_drewN_get, size_alloc', size_setCell', size_drew', size_drewN', nat_simp1, nat_simp2, nat_simp3, nat_simp4, nat_simp5, if_true, if_false, Option.map_some, *] at hkq; obtain ⟨_, _⟩ := blk_facts hkq)); (try (refine keep_heap_g (b := w4.heap.size) hgq ?_ ?_ ?_; (first | omega | (simp only [size_alloc', size_setCell', size_drew', size_drewN']; omega)); omega; intro hkq; simp only [heap_alloc_get, heap_setCell_get, heap_drew_get, heap_drewN_get, size_alloc', size_setCell', size_drew', size_drewN', nat_simp1, nat_simp2, nat_simp3, nat_simp4, nat_simp5, if_true, if_false, Option.map_some, *] at hkq)); (try (refine ne_cps (a := w.heap.size) (b := w5.heap.size) ?_ ?_; omega; intro _ _)); (try (refine ne_cps (a := w.heap.size) (b := w5.heap.size + 1) ?_ ?_; omega; intro _ _)); (try (refine ne_cps (a := w.heap.size) (b := w5.heap.size + 1 + 1) ?_ ?_; omega; intro _ _)); (try (refine ne_cps (a := w2.heap.size) (b := w5.heap.size) ?_ ?_; omega; intro _ _)); (try (refine ne_cps (a := w2.heap.size) (b := w5.heap.size + 1) ?_ ?_; omega; intro _ _)); (try (refine ne_cps (a := w2.heap.size) (b := w5.heap.size + 1 + 1) ?_ ?_; omega; intro _ _)); (try (refine ne_cps (a := w4.heap.size) (b := w5.heap.size) ?_ ?_; omega; intro _ _)); (try (refine ne_cps (a := w4.heap.size) (b := w5.heap.size + 1) ?_ ?_; omega; intro _ _)); (try (refine ne_cps (a := w4.heap.size) (b := w5.heap.size + 1 + 1) ?_ ?_; omega; intro _ _)); skip)
      have hx5' := hy5 (by omega)
      obtain ⟨y5, hc5, hm5⟩ := at_list [0, 13] (W := w5) (b := w4.heap.size) (by assumption) x5 hx5 (by simpa using hx5')
      have hi5 := list_I64 (by decide) hm5
      go_wp2_with fail
      (refine bodyPost_ret (results_cell_row rfl _ _ (w.heap.size) 25 #[.int .i64 y5, .int .i64 y2] (0, 0) _ rfl ?_ Try.underlying25 rfl (by kernel_rfl)) rfl ?_)
      · (simp only [heap_alloc_get, heap_setCell_get, heap_drew_get, heap_drewN_get, size_alloc', size_setCell', size_drew', size_drewN', nat_simp1, nat_simp2, nat_simp3, nat_simp4, nat_simp5, if_true, if_false, Option.map_some, *]; first | done | rfl | simp)
      · exact ⟨⟨_, _⟩, rfl, ⟨hi5, hi2⟩, by (repeat' (first | (with_reducible assumption) | (with_reducible refine Rdr.alloc ?_ _) | (with_reducible refine Rdr.setCell ?_ ?_ _) | (with_reducible refine Rdr.drewN ?_ _) | (with_reducible refine Rdr.drew ?_) | (show _ < _; first | omega | (simp only [size_alloc', size_setCell', size_drew', size_drewN'] at *; omega)))), by (repeat' (first | (with_reducible exact World.grownBy.refl _ _) | (with_reducible refine kp_setCell ?_ ?_ _) | (with_reducible refine kp_alloc ?_ _) | (with_reducible refine kp_drew ?_) | (with_reducible refine kp_drewN ?_ _) | (with_reducible refine kp_trans ?_ (by with_reducible assumption)) | (show _ ∨ _; first | (left; omega) | (right; omega) | (right; simp only [size_alloc', size_setCell', size_drew', size_drewN'] at *; omega)) | (with_reducible refine kp_below ?_ (by with_reducible assumption))))⟩
    · go_wp2_with fail
      (go_at_call 51; (with_reducible refine (c_pick g (m) _ _ ?_ (by omega) (by omega)).mono ?_); (focus (repeat' (first | (with_reducible assumption) | (with_reducible refine Rdr.alloc ?_ _) | (with_reducible refine Rdr.setCell ?_ ?_ _) | (with_reducible refine Rdr.drewN ?_ _) | (with_reducible refine Rdr.drew ?_) | (show _ < _; first | omega | (simp only [size_alloc', size_setCell', size_drew', size_drewN'] at *; omega))))); rintro e w5 ⟨x5, rfl, hx5, hy5, hz5, hrq, hgq⟩; have hsq := hgq.size; (try simp only [size_alloc', size_setCell', size_drew', size_drewN'] at hsq); (try (refine keep_heap_g (b := w.heap.size) hgq ?_ ?_ ?_; (first | omega | (simp only [size_alloc', size_setCell', size_drew', size_drewN']; omega)); omega; intro hkq; simp only [heap_alloc_get, heap_setCell_get, heap_drew_get, heap_drewN_get, size_alloc', size_setCell', size_drew', size_drewN', nat_simp1, nat_simp2, nat_simp3, nat_simp4, nat_simp5, if_true, if_false, Option.map_some, *] at hkq; obtain ⟨_, _⟩ := blk_facts hkq)); (try (refine keep_heap_g (b := w2.heap.size) hgq ?_ ?_ ?_; (first | omega | (simp only [size_alloc', size_setCell', size_drew', size_drewN']; omega)); omega; intro hkq; simp only [heap_alloc_get, heap_setCell_get, heap_drew_get, heap_drewN_get, size_alloc', size_setCell', size_drew', size_drewN', nat_simp1, nat_simp2, nat_simp3, nat_simp4, nat_simp5, if_true, if_false, Option.map_some, *] at hkq; obtain ⟨_, _⟩ := blk_facts hkq)); (try (refine keep_heap_g (b := w4.heap.size) hgq ?_ ?_ ?_; (first | omega | (simp only [size_alloc', size_setCell', size_drew', size_drewN']; omega)); omega; intro hkq; simp only [heap_alloc_get, heap_setCell_get, heap_drew_get, heap_drewN_get, size_alloc', size_setCell', size_drew', size_drewN', nat_simp1, nat_simp2, nat_simp3, nat_simp4, nat_simp5, if_true, if_false, Option.map_some, *] at hkq)); (try (refine ne_cps (a := w.heap.size) (b := w5.heap.size) ?_ ?_; omega; intro _ _)); (try (refine ne_cps (a := w.heap.size) (b := w5.heap.size + 1) ?_ ?_; omega; intro _ _)); (try (refine ne_cps (a := w.heap.size) (b := w5.heap.size + 1 + 1) ?_ ?_; omega; intro _ _)); (try (refine ne_cps (a := w2.heap.size) (b := w5.heap.size) ?_ ?_; omega; intro _ _)); (try (refine ne_cps (a := w2.heap.size) (b := w5.heap.size + 1) ?_ ?_; omega; intro _ _)); (try (refine ne_cps (a := w2.heap.size) (b := w5.heap.size + 1 + 1) ?_ ?_; omega; intro _ _)); (try (refine ne_cps (a := w4.heap.size) (b := w5.heap.size) ?_ ?_; omega; intro _ _)); (try (refine ne_cps (a := w4.heap.size) (b := w5.heap.size + 1) ?_ ?_; omega; intro _ _)); (try (refine ne_cps (a := w4.heap.size) (b := w5.heap.size + 1 + 1) ?_ ?_; omega; intro _ _)); skip)
      have hx5' := hy5 (by omega)
      obtain ⟨y5, hc5, hm5⟩ := at_list [1, 3, 32] (W := w5) (b := w4.heap.size) (by assumption) x5 hx5 (by simpa using hx5')
      have hi5 := list_I64 (by decide) hm5
      go_wp2_with fail
      (refine bodyPost_ret (results_cell_row rfl _ _ (w.heap.size) 25 #[.int .i64 (1 + x1), .int .i64 y5] (0, 0) _ rfl ?_ Try.underlying25 rfl (by kernel_rfl)) rfl ?_)
      · (simp only [heap_alloc_get, heap_setCell_get, heap_drew_get, heap_drewN_get, size_alloc', size_setCell', size_drew', size_drewN', nat_simp1, nat_simp2, nat_simp3, nat_simp4, nat_simp5, if_true, if_false, Option.map_some, *]; first | done | rfl | simp)
      · exact ⟨⟨_, _⟩, rfl, ⟨hi1, hi5⟩, by (repeat' (first | (with_reducible assumption) | (with_reducible refine Rdr.alloc ?_ _) | (with_reducible refine Rdr.setCell ?_ ?_ _) | (with_reducible refine Rdr.drewN ?_ _) | (with_reducible refine Rdr.drew ?_) | (show _ < _; first | omega | (simp only [size_alloc', size_setCell', size_drew', size_drewN'] at *; omega)))), by (repeat' (first | (with_reducible exact World.grownBy.refl _ _) | (with_reducible refine kp_setCell ?_ ?_ _) | (with_reducible refine kp_alloc ?_ _) | (with_reducible refine kp_drew ?_) | (with_reducible refine kp_drewN ?_ _) | (with_reducible refine kp_trans ?_ (by with_reducible assumption)) | (show _ ∨ _; first | (left; omega) | (right; omega) | (right; simp only [size_alloc', size_setCell', size_drew', size_drewN'] at *; omega)) | (with_reducible refine kp_below ?_ (by with_reducible assumption))))⟩
end Go.Proofs.Ytendoahanngacaa
