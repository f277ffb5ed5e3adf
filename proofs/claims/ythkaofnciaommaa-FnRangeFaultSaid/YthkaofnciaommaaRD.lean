/- The draws of FnSoundOf and FnRangeFault. Conditions: none. -/
import Derived.Test.YthkaofnciaommaaRC
namespace Go.Proofs.Ythkaofnciaommaa
open Go.RowKit
set_option linter.unusedSimpArgs false
set_option linter.unusedVariables false
set_option maxHeartbeats 4000000
theorem c_DrawSoundOf (v : Value) (bs : List Int) (w : World) (h : Rd w v 1 bs.length (byteCells bs)) (hb : ∀ x ∈ bs, 0 ≤ x ∧ x ≤ 255) :
    Calls Try.prog 34 #[v] w (DWrite w) := by
  go_enter Try.func34, Try.ntmps34
  go_wp2_with fail
  (go_at_call 30; (with_reducible refine (c_DrawWriteFor v bs _ (h.alloc _) hb).mono ?_); rintro e w1 ⟨v1, ns, ⟨a, b, c, d⟩, rfl, hov, hl, hb1⟩)
  have HOV := Lib.hid hov
  clear hov
  have hz1 := hb1.size
  have hb0 : Below w.heap.size w w1 := (bel1 w _).trans (hb1.mono (by simp))
  have hZ0 := below_heap hb1 (heap_alloc_new w (.cells #[.int .i64 0, .int .i64 0, .int .i64 0, .int .i64 0] 29))
  obtain ⟨_, _⟩ := blk_facts hZ0
  simp only [size_alloc'] at hz1
  have hZ : ((((w1.setCell ⟨w.heap.size, 0, none⟩ (.int .i64 a)).setCell ⟨w.heap.size, 1, none⟩ (.int .i64 b)).setCell ⟨w.heap.size, 2, none⟩ (.int .i64 c)).setCell ⟨w.heap.size, 3, none⟩ (.int .i64 d)).heap[w.heap.size]? = some (.cells #[.int .i64 a, .int .i64 b, .int .i64 c, .int .i64 d] 29 (0, 0)) := by (simp only [heap_alloc_get, heap_setCell_get, heap_drew_get, heap_drewN_get, size_alloc', size_setCell', size_drew', size_drewN', nat_simp1, nat_simp2, nat_simp3, nat_simp4, nat_simp5, if_true, if_false, Option.map_some, *]; first | done | rfl | simp)
  obtain ⟨_, _⟩ := blk_facts hZ
  go_wp2_with fail
  exact bodyPost_ret (v := .tuple #[.agg #[.int .i64 a, .int .i64 b, .int .i64 c, .int .i64 d], v1]) (by simp [results, Try.results34, go_sem, *]) rfl ⟨v1, ns, ⟨a, b, c, d⟩, rfl,
    own_monoA (own_setB (own_setB (own_setB (own_setB HOV.out (p := ⟨w.heap.size, 0, none⟩) (by simp) _) (p := ⟨w.heap.size, 1, none⟩) (by simp) _) (p := ⟨w.heap.size, 2, none⟩) (by simp) _) (p := ⟨w.heap.size, 3, none⟩) (by simp) _) (by simp), hl,
    Below.setCell (Below.setCell (Below.setCell (Below.setCell hb0 (Nat.le_refl w.heap.size) _) (Nat.le_refl w.heap.size) _) (Nat.le_refl w.heap.size) _) (Nat.le_refl w.heap.size) _⟩
theorem c_DrawRangeFault (v : Value) (bs : List Int) (w : World) (h : Rd w v 1 bs.length (byteCells bs)) (hb : ∀ x ∈ bs, 0 ≤ x ∧ x ≤ 255) :
    Calls Try.prog 23 #[v] w (DWrite w) := by
  go_enter Try.func23, Try.ntmps23
  go_wp2_with fail
  (go_at_call 30; (with_reducible refine (c_DrawWriteFor v bs _ (h.alloc _) hb).mono ?_); rintro e w1 ⟨v1, ns, ⟨a, b, c, d⟩, rfl, hov, hl, hb1⟩)
  have HOV := Lib.hid hov
  clear hov
  have hz1 := hb1.size
  have hb0 : Below w.heap.size w w1 := (bel1 w _).trans (hb1.mono (by simp))
  have hZ0 := below_heap hb1 (heap_alloc_new w (.cells #[.int .i64 0, .int .i64 0, .int .i64 0, .int .i64 0] 29))
  obtain ⟨_, _⟩ := blk_facts hZ0
  simp only [size_alloc'] at hz1
  have hZ : ((((w1.setCell ⟨w.heap.size, 0, none⟩ (.int .i64 a)).setCell ⟨w.heap.size, 1, none⟩ (.int .i64 b)).setCell ⟨w.heap.size, 2, none⟩ (.int .i64 c)).setCell ⟨w.heap.size, 3, none⟩ (.int .i64 d)).heap[w.heap.size]? = some (.cells #[.int .i64 a, .int .i64 b, .int .i64 c, .int .i64 d] 29 (0, 0)) := by (simp only [heap_alloc_get, heap_setCell_get, heap_drew_get, heap_drewN_get, size_alloc', size_setCell', size_drew', size_drewN', nat_simp1, nat_simp2, nat_simp3, nat_simp4, nat_simp5, if_true, if_false, Option.map_some, *]; first | done | rfl | simp)
  obtain ⟨_, _⟩ := blk_facts hZ
  go_wp2_with fail
  exact bodyPost_ret (v := .tuple #[.agg #[.int .i64 a, .int .i64 b, .int .i64 c, .int .i64 d], v1]) (by simp [results, Try.results23, go_sem, *]) rfl ⟨v1, ns, ⟨a, b, c, d⟩, rfl,
    own_monoA (own_setB (own_setB (own_setB (own_setB HOV.out (p := ⟨w.heap.size, 0, none⟩) (by simp) _) (p := ⟨w.heap.size, 1, none⟩) (by simp) _) (p := ⟨w.heap.size, 2, none⟩) (by simp) _) (p := ⟨w.heap.size, 3, none⟩) (by simp) _) (by simp), hl,
    Below.setCell (Below.setCell (Below.setCell (Below.setCell hb0 (Nat.le_refl w.heap.size) _) (Nat.le_refl w.heap.size) _) (Nat.le_refl w.heap.size) _) (Nat.le_refl w.heap.size) _⟩
end Go.Proofs.Ythkaofnciaommaa
