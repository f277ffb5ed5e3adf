/- One section: sizes, copies, comparing, validity on both sides. Conditions: none. -/
import Derived.Test.YtlhekgjckjcbhaaI1
namespace Go.Proofs.Ytlhekgjckjcbhaa
open Go.RowKit
set_option linter.unusedSimpArgs false
set_option linter.unusedVariables false
set_option maxHeartbeats 4000000

def endOk (b t : Int) (n : Nat) : Bool := inB b 0 12 && inB t 1 4 && (n == 0 || (n : Int) == t)
def secOk (b t : Int) (l : List Int) : Bool := endOk b t l.length && l.all (fun d => inB d 0 12)
theorem all_no {l : List Int} {k : Nat} (hk : k < l.length) (h : inB l[k] 0 12 = false) (b t : Int) : secOk b t l = false := by
  have : l.all (fun d => inB d 0 12) = false := by
    rw [← Bool.not_eq_true, List.all_eq_true]
    intro ha
    rw [ha _ (List.getElem_mem hk)] at h
    cases h
  unfold secOk
  rw [this, Bool.and_false]
theorem all_yes {l : List Int} (h : ∀ i (hi : i < l.length), inB l[i] 0 12 = true) (b t : Int) : secOk b t l = endOk b t l.length := by
  have : l.all (fun d => inB d 0 12) = true := by
    rw [List.all_eq_true]
    intro x hx
    obtain ⟨i, hi, rfl⟩ := List.getElem_of_mem hx
    exact h i hi
  unfold secOk
  rw [this, Bool.and_true]
theorem c_szIntS (v : Value) (n left : Nat) (xs : List Value) (w : World) (h : Rd w v 1 n xs) (hl : left ≤ 1048576) :
    Calls Try.prog 75 #[v, .int .i64 left] w fun e w' => e = .returned (.int .i64 (if n ≤ left then ((left - n : Nat) : Int) else -1)) ∧ w = w' := by
  obtain ⟨_, A, c, rfl, hnc, hcm, hA⟩ := h
  unfold maxLen at hcm
  clear hA
  by_cases hn : n ≤ left
  · rw [if_pos hn]
    go_enter Try.func75, Try.ntmps75
    go_wp2
    go_ret
    exact ⟨ret_int (by omega), rfl⟩
  · rw [if_neg hn]
    go_enter Try.func75, Try.ntmps75
    go_wp2
    go_ret
    exact ⟨rfl, rfl⟩
theorem c_szSection (b t : Int) (v : Value) (n left : Nat) (xs : List Value) (w : World) (h : Rd w v 1 n xs) (hl : left ≤ 1048576) :
    Calls Try.prog 55 #[.agg #[.int .i64 b, .int .i64 t, v], .int .i64 left] w fun e w' => e = .returned (.int .i64 (if n ≤ left then ((left - n : Nat) : Int) else -1)) ∧ Below w.heap.size w w' := by
  have h' := Lib.hid h
  obtain ⟨_, A, c, rfl, hnc, hcm, hA⟩ := h
  clear hA
  by_cases hn : n ≤ left
  · have HN := Lib.hid (show (if n ≤ left then ((left - n : Nat) : Int) else -1) = ((left - n : Nat) : Int) from if_pos hn)
    rw [HN.out]
    go_enter Try.func55, Try.ntmps55
    go_wp2_with fail
    (go_at_call 75; (with_reducible refine (c_szIntS _ n left xs _ (h'.out.alloc _) hl).mono ?_); rintro e w2 ⟨rfl, rfl⟩; rw [HN.out])
    go_wp2
    go_ret
    exact ⟨rfl, by (repeat' (first | (with_reducible exact Below.refl _ _) | (with_reducible refine Below.setCell ?_ ?_ _) | (with_reducible refine Below.alloc ?_ ?_ _) | (with_reducible refine Below.drew ?_) | (with_reducible refine below_drewN ?_ _) | (with_reducible refine Below.trans ?_ (Below.mono (by with_reducible assumption) ?_)) | omega | (simp only [size_alloc', size_setCell', size_drew', size_drewN'] at *; omega)))⟩
  · have HN := Lib.hid (show (if n ≤ left then ((left - n : Nat) : Int) else -1) = -1 from if_neg hn)
    rw [HN.out]
    go_enter Try.func55, Try.ntmps55
    go_wp2_with fail
    (go_at_call 75; (with_reducible refine (c_szIntS _ n left xs _ (h'.out.alloc _) hl).mono ?_); rintro e w2 ⟨rfl, rfl⟩; rw [HN.out])
    go_wp2
    go_ret
    exact ⟨rfl, by (repeat' (first | (with_reducible exact Below.refl _ _) | (with_reducible refine Below.setCell ?_ ?_ _) | (with_reducible refine Below.alloc ?_ ?_ _) | (with_reducible refine Below.drew ?_) | (with_reducible refine below_drewN ?_ _) | (with_reducible refine Below.trans ?_ (Below.mono (by with_reducible assumption) ?_)) | omega | (simp only [size_alloc', size_setCell', size_drew', size_drewN'] at *; omega)))⟩
theorem c_eqSection (b t : Int) (u v : Value) (l : List Int) (w : World) (ha : Rd w u 1 l.length (intCells l)) (hb : Rd w v 1 l.length (intCells l)) :
    Calls Try.prog 62 #[.agg #[.int .i64 b, .int .i64 t, u], .agg #[.int .i64 b, .int .i64 t, v]] w fun e w' => e = .returned (.bool true) ∧ Below w.heap.size w w' := by
  have ha' := Lib.hid ha
  have hb' := Lib.hid hb
  obtain ⟨_, A1, c1, rfl, hnc1, hcm1, hA1⟩ := ha
  obtain ⟨_, A2, c2, rfl, hnc2, hcm2, hA2⟩ := hb
  clear hA1 hA2
  have hE : decide (l = l) = true := by simp
  go_enter Try.func62, Try.ntmps62
  go_wp2_with (go_at_call 77; (with_reducible refine (c_eqIntS _ _ l l _ ((ha'.out.alloc _).alloc _) ((hb'.out.alloc _).alloc _)).mono ?_); rintro e wq ⟨rfl, hbq⟩; have hzq := hbq.size; (try simp only [size_alloc', size_setCell', size_drew', size_drewN'] at hzq); (try (refine keep_heap (b := w.heap.size) hbq ?_ ?_; (first | omega | (simp only [size_alloc', size_setCell', size_drew', size_drewN']; omega)); intro hkq; simp only [heap_alloc_get, heap_setCell_get, heap_drew_get, heap_drewN_get, size_alloc', size_setCell', size_drew', size_drewN', nat_simp1, nat_simp2, nat_simp3, nat_simp4, nat_simp5, if_true, if_false, *] at hkq; obtain ⟨_, _⟩ := blk_facts hkq)); (try (refine keep_heap (b := w.heap.size + 1) hbq ?_ ?_; (first | omega | (simp only [size_alloc', size_setCell', size_drew', size_drewN']; omega)); intro hkq; simp only [heap_alloc_get, heap_setCell_get, heap_drew_get, heap_drewN_get, size_alloc', size_setCell', size_drew', size_drewN', nat_simp1, nat_simp2, nat_simp3, nat_simp4, nat_simp5, if_true, if_false, *] at hkq; obtain ⟨_, _⟩ := blk_facts hkq)); (try (refine keep_heap (b := w.heap.size + 1 + 1) hbq ?_ ?_; (first | omega | (simp only [size_alloc', size_setCell', size_drew', size_drewN']; omega)); intro hkq; simp only [heap_alloc_get, heap_setCell_get, heap_drew_get, heap_drewN_get, size_alloc', size_setCell', size_drew', size_drewN', nat_simp1, nat_simp2, nat_simp3, nat_simp4, nat_simp5, if_true, if_false, *] at hkq; obtain ⟨_, _⟩ := blk_facts hkq)); (try (refine keep_heap (b := w.heap.size + 1 + 1 + 1) hbq ?_ ?_; (first | omega | (simp only [size_alloc', size_setCell', size_drew', size_drewN']; omega)); intro hkq; simp only [heap_alloc_get, heap_setCell_get, heap_drew_get, heap_drewN_get, size_alloc', size_setCell', size_drew', size_drewN', nat_simp1, nat_simp2, nat_simp3, nat_simp4, nat_simp5, if_true, if_false, *] at hkq; obtain ⟨_, _⟩ := blk_facts hkq)); skip)
  go_ret
  exact ⟨rfl, by (repeat' (first | (with_reducible exact Below.refl _ _) | (with_reducible refine Below.setCell ?_ ?_ _) | (with_reducible refine Below.alloc ?_ ?_ _) | (with_reducible refine Below.drew ?_) | (with_reducible refine below_drewN ?_ _) | (with_reducible refine Below.trans ?_ (Below.mono (by with_reducible assumption) ?_)) | omega | (simp only [size_alloc', size_setCell', size_drew', size_drewN'] at *; omega)))⟩
end Go.Proofs.Ytlhekgjckjcbhaa
