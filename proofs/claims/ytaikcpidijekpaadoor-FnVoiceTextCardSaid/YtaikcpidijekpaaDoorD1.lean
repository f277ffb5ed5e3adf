/- Drawing: the reader is opened; meters. Conditions: none. -/
import Derived.Test.YtaikcpidijekpaaDoorD0
import Derived.Test.YtaikcpidijekpaaDoorB2
namespace Go.Proofs.YtaikcpidijekpaaDoor
open Go.RowKit
set_option linter.unusedSimpArgs false
set_option linter.unusedVariables false
set_option maxHeartbeats 2000000

theorem byte_at {w : World} {b off : Nat} {bs : List Int} (hc : ∀ j u, (byteCells bs)[j]? = some u → w.cell? ⟨b, off + j, none⟩ = some u) (j : Nat) (hj : j < bs.length) :
    w.cell? ⟨b, off + j, none⟩ = some (.int .u8 bs[j]) := by
  have := cellsOf_get (fun b => [Value.int .u8 b]) 1 (fun _ => rfl) bs j 0 (by omega) hj
  exact hc j _ (by simpa using this)

/-- A reader of the call's own. -/
def Opened (w : World) (e : Ending) (w' : World) : Prop :=
  ∃ g, e = .returned (.pointer (some ⟨g, 0, none⟩)) ∧ w.heap.size ≤ g ∧ Rdr w' g 1000000 ∧ Below w.heap.size w w'
theorem opened_of {w : World} {A : Option Addr} {n c : Nat} {bs : List Int} (hn : n ≤ bs.length) (h2 : n ≤ 2000) (hb : ∀ x ∈ bs, 0 ≤ x ∧ x ≤ 255)
    (hA : 0 < n → ∃ b off, A = some ⟨b, off, none⟩ ∧ ∀ j u, (byteCells bs)[j]? = some u → w.cell? ⟨b, off + j, none⟩ = some u) :
    Opened w (.returned (.pointer (some ⟨w.heap.size, 0, none⟩))) (w.alloc (.cells #[.slice A n c, .int .i64 0] 82)) := by
  refine ⟨w.heap.size, rfl, Nat.le_refl _, ⟨A, n, c, 0, bs.take n, heap_alloc_new w _, by simp; omega, h2, by omega, fun x hx => hb x (List.mem_of_mem_take hx), fun h0 => ?_⟩, bel1 _ _⟩
  obtain ⟨b, off, rfl, hc⟩ := hA h0
  have hbl : b < w.heap.size := World.block_lt_of_cell? w _ (byte_at hc 0 (by omega))
  refine ⟨b, off, rfl, hbl, fun j hj => ?_⟩
  have hj' : j < n := by simp at hj; omega
  rw [World.cell?_alloc_lt _ _ _ hbl, List.getElem_take]
  exact byte_at hc j (by omega)

theorem c_open (v : Value) (bs : List Int) (w : World) (h : Rd w v 1 bs.length (byteCells bs)) (hb : ∀ x ∈ bs, 0 ≤ x ∧ x ≤ 255) :
    Calls Tryd.prog 38 #[v] w (Opened w) := by
  obtain ⟨_, A, c, rfl, hnc, hcm, hA⟩ := h
  unfold maxLen at hcm
  by_cases h2 : bs.length ≤ 2000
  · have hfin := Lib.hid (opened_of (c := c) (Nat.le_refl _) h2 hb hA)
    clear hA
    go_enter Tryd.func38, Tryd.ntmps38
    go_wp2
    go_ret
    exact hfin.out
  · obtain ⟨b, off, rfl, hcc⟩ := hA (by omega)
    have hfin := Lib.hid (opened_of (n := 2000) (c := c) (by omega) (Nat.le_refl _) hb (fun _ => ⟨b, off, rfl, hcc⟩))
    clear hcc hA
    go_enter Tryd.func38, Tryd.ntmps38
    go_wp2
    go_ret
    exact hfin.out
theorem list_I64 {l : List Int} (h : l.all (fun x => decide (-1000000 ≤ x) && decide (x ≤ 1000000)) = true) {y : Int} (hy : y ∈ l) : I64 y := by
  have := List.all_eq_true.1 h y hy
  simp at this
  unfold I64; omega
/-- A number is drawn once in n calls. -/
def PickedB (g m : Nat) (w : World) (e : Ending) (w' : World) : Prop := ∃ x : Bool, e = .returned (.bool x) ∧ Rdr w' g m ∧ w.grownBy w' (some g)
theorem c_odd (g m : Nat) (n : Int) (w : World) (h : Rdr w g (m + 1)) (hn : n ≤ 1000000) (hn' : -1000000 ≤ n) :
    Calls Tryd.prog 50 #[.pointer (some ⟨g, 0, none⟩), .int .i64 n] w (PickedB g m w) := by
  by_cases h0 : 0 < n
  · have h0' : decide (0 < n) = true := by simpa using h0
    go_enter Tryd.func50, Tryd.ntmps50
    go_wp2_with fail
    (go_at_call 40; (with_reducible refine (c_pick g (m) _ _ ?_ (by omega) (by omega)).mono ?_); (focus (repeat' (first | (with_reducible assumption) | (with_reducible refine Rdr.alloc ?_ _) | (with_reducible refine Rdr.setCell ?_ ?_ _) | (with_reducible refine Rdr.drewN ?_ _) | (with_reducible refine Rdr.drew ?_) | (show _ < _; first | omega | (simp only [size_alloc', size_setCell', size_drew', size_drewN'] at *; omega))))); rintro e wq ⟨xq, rfl, hxq, hyq, hzq, hrq, hgq⟩; have hsq := hgq.size; (try simp only [size_alloc', size_setCell', size_drew', size_drewN'] at hsq); skip)
    go_wp2
    go_ret
    exact ⟨_, rfl, hrq, hgq⟩
  · have h0' : decide (0 < n) = false := by simpa using h0
    go_enter Tryd.func50, Tryd.ntmps50
    go_wp2
    go_ret
    exact ⟨_, rfl, h.mono (by omega), World.grownBy.refl _ _⟩
theorem c_alive (w : World) : Calls Tryd.prog 15 #[] w fun e w' => e = .returned (.bool true) ∧ Below w.heap.size w w' := by
  go_enter Tryd.func15, Tryd.ntmps15
  go_wp2_with (go_at_call 43; (with_reducible refine (c_PitchKey ⟨5, 0, 4⟩ _).mono ?_); rintro e wq ⟨rfl, hbq⟩; have hzq := hbq.size; (try simp only [size_alloc', size_setCell', size_drew', size_drewN'] at hzq); (try (refine keep_heap (b := w.heap.size) hbq ?_ ?_; (first | omega | (simp only [size_alloc', size_setCell', size_drew', size_drewN']; omega)); intro hkq; simp only [heap_alloc_get, heap_setCell_get, heap_drew_get, heap_drewN_get, size_alloc', size_setCell', size_drew', size_drewN', nat_simp1, nat_simp2, nat_simp3, nat_simp4, nat_simp5, if_true, if_false, *] at hkq; obtain ⟨_, _⟩ := blk_facts hkq)); (try (refine keep_heap (b := w.heap.size + 1) hbq ?_ ?_; (first | omega | (simp only [size_alloc', size_setCell', size_drew', size_drewN']; omega)); intro hkq; simp only [heap_alloc_get, heap_setCell_get, heap_drew_get, heap_drewN_get, size_alloc', size_setCell', size_drew', size_drewN', nat_simp1, nat_simp2, nat_simp3, nat_simp4, nat_simp5, if_true, if_false, *] at hkq; obtain ⟨_, _⟩ := blk_facts hkq)); (try (refine keep_heap (b := w.heap.size + 1 + 1) hbq ?_ ?_; (first | omega | (simp only [size_alloc', size_setCell', size_drew', size_drewN']; omega)); intro hkq; simp only [heap_alloc_get, heap_setCell_get, heap_drew_get, heap_drewN_get, size_alloc', size_setCell', size_drew', size_drewN', nat_simp1, nat_simp2, nat_simp3, nat_simp4, nat_simp5, if_true, if_false, *] at hkq; obtain ⟨_, _⟩ := blk_facts hkq)); (try (refine keep_heap (b := w.heap.size + 1 + 1 + 1) hbq ?_ ?_; (first | omega | (simp only [size_alloc', size_setCell', size_drew', size_drewN']; omega)); intro hkq; simp only [heap_alloc_get, heap_setCell_get, heap_drew_get, heap_drewN_get, size_alloc', size_setCell', size_drew', size_drewN', nat_simp1, nat_simp2, nat_simp3, nat_simp4, nat_simp5, if_true, if_false, *] at hkq; obtain ⟨_, _⟩ := blk_facts hkq)); skip)
  go_ret
  exact ⟨ret_bool (by decide), by (repeat' (first | (with_reducible exact Below.refl _ _) | (with_reducible refine Below.setCell ?_ ?_ _) | (with_reducible refine Below.alloc ?_ ?_ _) | (with_reducible refine Below.drew ?_) | (with_reducible refine below_drewN ?_ _) | (with_reducible refine Below.trans ?_ (Below.mono (by with_reducible assumption) ?_)) | omega | (simp only [size_alloc', size_setCell', size_drew', size_drewN'] at *; omega)))⟩
end Go.Proofs.YtaikcpidijekpaaDoor
