/- Drawing a key. Conditions: none. -/
import Derived.Test.YtiameebjcmnmeaaD1
namespace Go.Proofs.Ytiameebjcmnmeaa
open Go.RowKit
set_option linter.unusedSimpArgs false
set_option linter.unusedVariables false
set_option maxHeartbeats 16000000
def DrewInt (g m : Nat) (w : World) (e : Ending) (w' : World) : Prop := ∃ x : Int, e = .returned (.int .i64 x) ∧ -1000 ≤ x ∧ x ≤ 1000 ∧ Rdr w' g m ∧ w.grownBy w' (some g)
theorem c_l20Fifths (g m : Nat) (n : Int) (w : World) (h : Rdr w g (m + 4)) (hn : n ≤ 1000000) (hn' : -1000000 ≤ n) :
    Calls Try.prog 35 #[.pointer (some ⟨g, 0, none⟩), .int .i64 n] w (DrewInt g m w) := by
  have hg := h.lt
  go_enter Try.func35, Try.ntmps35
  go_wp2_with fail
  (go_at_call 63; (with_reducible refine (c_odd g (m+3) _ _ ?_ hn hn').mono ?_); (focus (repeat' (first | (with_reducible assumption) | (with_reducible refine Rdr.alloc ?_ _) | (with_reducible refine Rdr.setCell ?_ ?_ _) | (with_reducible refine Rdr.drewN ?_ _) | (with_reducible refine Rdr.drew ?_) | (show _ < _; first | omega | (simp only [size_alloc', size_setCell', size_drew', size_drewN'] at *; omega))))); rintro e w1 ⟨b1, rfl, hrq, hgq⟩; have hsq := hgq.size; (try simp only [size_alloc', size_setCell', size_drew', size_drewN'] at hsq); skip)
  have HK1 := Lib.hid hgq
  clear hgq
  cases b1
  · have h2 : Rdr w1 g ((m + 2) + 1) := hrq
    clear hrq
    go_wp2_with fail
    (go_at_call 36; (with_reducible refine (c_pick g (m+2) _ _ ?_ (by omega) (by omega)).mono ?_); (focus (repeat' (first | (with_reducible assumption) | (with_reducible refine Rdr.alloc ?_ _) | (with_reducible refine Rdr.setCell ?_ ?_ _) | (with_reducible refine Rdr.drewN ?_ _) | (with_reducible refine Rdr.drew ?_) | (show _ < _; first | omega | (simp only [size_alloc', size_setCell', size_drew', size_drewN'] at *; omega))))); rintro e w2 ⟨x2, rfl, hx2, hy2, hz2, hrq, hgq⟩; have hsq := hgq.size; (try simp only [size_alloc', size_setCell', size_drew', size_drewN'] at hsq); skip)
    have hx2' := hy2 (by omega)
    have HK2 := Lib.hid (kp_trans HK1.out hgq)
    have h3 : Rdr w2 g ((m + 1) + 1) := hrq
    clear hgq hrq hy2
    go_wp2_with fail
    (go_at_call 36; (with_reducible refine (c_pick g (m+1) _ _ ?_ (by omega) (by omega)).mono ?_); (focus (repeat' (first | (with_reducible assumption) | (with_reducible refine Rdr.alloc ?_ _) | (with_reducible refine Rdr.setCell ?_ ?_ _) | (with_reducible refine Rdr.drewN ?_ _) | (with_reducible refine Rdr.drew ?_) | (show _ < _; first | omega | (simp only [size_alloc', size_setCell', size_drew', size_drewN'] at *; omega))))); rintro e w3 ⟨x3, rfl, hx3, hy3, hz3, hrq, hgq⟩; have hsq := hgq.size; (try simp only [size_alloc', size_setCell', size_drew', size_drewN'] at hsq); skip)
    have hx3' := hy3 (by omega)
    have HK3 := Lib.hid (kp_trans HK2.out hgq)
    have h4 : Rdr w3 g (m + 1) := hrq
    clear hgq hrq hy3
    go_wp2_with fail
    (go_at_call 36; (with_reducible refine (c_pick g (m) _ _ ?_ (by omega) (by omega)).mono ?_); (focus (repeat' (first | (with_reducible assumption) | (with_reducible refine Rdr.alloc ?_ _) | (with_reducible refine Rdr.setCell ?_ ?_ _) | (with_reducible refine Rdr.drewN ?_ _) | (with_reducible refine Rdr.drew ?_) | (show _ < _; first | omega | (simp only [size_alloc', size_setCell', size_drew', size_drewN'] at *; omega))))); rintro e w4 ⟨x4, rfl, hx4, hy4, hz4, hrq, hgq⟩; have hsq := hgq.size; (try simp only [size_alloc', size_setCell', size_drew', size_drewN'] at hsq); (try (refine keep_heap_g (b := w3.heap.size) hgq ?_ ?_ ?_; (first | omega | (simp only [size_alloc', size_setCell', size_drew', size_drewN']; omega)); omega; intro hkq; simp only [heap_alloc_get, heap_setCell_get, heap_drew_get, heap_drewN_get, size_alloc', size_setCell', size_drew', size_drewN', nat_simp1, nat_simp2, nat_simp3, nat_simp4, nat_simp5, if_true, if_false, Option.map_some, *] at hkq)); (try (refine ne_cps (a := w3.heap.size) (b := w4.heap.size) ?_ ?_; omega; intro _ _)); (try (refine ne_cps (a := w3.heap.size) (b := w4.heap.size + 1) ?_ ?_; omega; intro _ _)); (try (refine ne_cps (a := w3.heap.size) (b := w4.heap.size + 1 + 1) ?_ ?_; omega; intro _ _)); skip)
    have hx4' := hy4 (by omega)
    obtain ⟨y4, hc4, hm4⟩ := at_list [x2 - 7, 0, x3 - 2] (W := w4) (b := w3.heap.size) (by assumption) x4 hx4 (by simpa using hx4')
    have hyb : -1000 ≤ y4 ∧ y4 ≤ 1000 := by
      simp only [List.mem_cons, List.not_mem_nil, or_false] at hm4
      omega
    obtain ⟨hyb1, hyb2⟩ := hyb
    have HK4 := Lib.hid (kp_trans (kp_alloc HK3.out _) hgq)
    clear hm4
    go_wp2_with fail
    go_ret
    exact ⟨y4, rfl, hyb1, hyb2, hrq, HK4.out⟩
  · have h2 : Rdr w1 g ((m + 2) + 1) := hrq
    clear hrq
    go_wp2_with fail
    (go_at_call 36; (with_reducible refine (c_pick g (m+2) _ _ ?_ (by omega) (by omega)).mono ?_); (focus (repeat' (first | (with_reducible assumption) | (with_reducible refine Rdr.alloc ?_ _) | (with_reducible refine Rdr.setCell ?_ ?_ _) | (with_reducible refine Rdr.drewN ?_ _) | (with_reducible refine Rdr.drew ?_) | (show _ < _; first | omega | (simp only [size_alloc', size_setCell', size_drew', size_drewN'] at *; omega))))); rintro e w2 ⟨x2, rfl, hx2, hy2, hz2, hrq, hgq⟩; have hsq := hgq.size; (try simp only [size_alloc', size_setCell', size_drew', size_drewN'] at hsq); (try (refine keep_heap_g (b := w1.heap.size) hgq ?_ ?_ ?_; (first | omega | (simp only [size_alloc', size_setCell', size_drew', size_drewN']; omega)); omega; intro hkq; simp only [heap_alloc_get, heap_setCell_get, heap_drew_get, heap_drewN_get, size_alloc', size_setCell', size_drew', size_drewN', nat_simp1, nat_simp2, nat_simp3, nat_simp4, nat_simp5, if_true, if_false, Option.map_some, *] at hkq)); (try (refine ne_cps (a := w1.heap.size) (b := w2.heap.size) ?_ ?_; omega; intro _ _)); (try (refine ne_cps (a := w1.heap.size) (b := w2.heap.size + 1) ?_ ?_; omega; intro _ _)); (try (refine ne_cps (a := w1.heap.size) (b := w2.heap.size + 1 + 1) ?_ ?_; omega; intro _ _)); skip)
    have hx2' := hy2 (by omega)
    obtain ⟨y4, hc4, hm4⟩ := at_list [-8, 8] (W := w2) (b := w1.heap.size) (by assumption) x2 hx2 (by simpa using hx2')
    have hyb : -1000 ≤ y4 ∧ y4 ≤ 1000 := by
      simp only [List.mem_cons, List.not_mem_nil, or_false] at hm4
      omega
    obtain ⟨hyb1, hyb2⟩ := hyb
    have HK2 := Lib.hid (kp_trans (kp_alloc HK1.out _) hgq)
    clear hm4
    go_wp2_with fail
    go_ret
    exact ⟨y4, rfl, hyb1, hyb2, hrq.mono (by omega), HK2.out⟩
end Go.Proofs.Ytiameebjcmnmeaa
