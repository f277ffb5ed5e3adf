/- What the laws on writing for an instrument draw. Conditions: none. -/
import Derived.Test.YthkaofnciaommaaR7
import Derived.Deep.RegionLaw
namespace Go.Proofs.Ythkaofnciaommaa
open Go.RowKit
set_option linter.unusedSimpArgs false
set_option linter.unusedVariables false
set_option maxHeartbeats 8000000
def DWrite (w : World) (e : Ending) (w' : World) : Prop :=
  ∃ v ns i, e = .returned (.tuple #[Ins.v i, v]) ∧ w'.ownsRow w.heap.size 50 6 v (ns : List Nt).length (ntCells ns) ∧ ns.length ≤ 61 ∧ Below w.heap.size w w'
theorem c_DrawWriteFor (v : Value) (bs : List Int) (w : World) (h : Rd w v 1 bs.length (byteCells bs)) (hb : ∀ x ∈ bs, 0 ≤ x ∧ x ≤ 255) :
    Calls Try.prog 30 #[v] w (DWrite w) := by
  go_enter Try.func30, Try.ntmps30
  go_wp2_with fail
  (go_at_call 46; (with_reducible refine (c_open _ _ _ (h.alloc _) hb).mono ?_); rintro e w1 ⟨g, rfl, hg, hr1, hbq⟩; have hzq := hbq.size; (try simp only [size_alloc', size_setCell', size_drew', size_drewN'] at hzq hg); (try (refine keep_heap (b := w.heap.size) hbq ?_ ?_; (first | omega | (simp only [size_alloc', size_setCell', size_drew', size_drewN']; omega)); intro hkq; simp only [heap_alloc_get, heap_setCell_get, heap_drew_get, heap_drewN_get, size_alloc', size_setCell', size_drew', size_drewN', nat_simp1, nat_simp2, nat_simp3, nat_simp4, nat_simp5, if_true, if_false, *] at hkq; obtain ⟨_, _⟩ := blk_facts hkq)); (try (refine ne_cps (a := w.heap.size) (b := w1.heap.size) ?_ ?_; omega; intro _ _)); (try (refine ne_cps (a := w.heap.size) (b := w1.heap.size + 1) ?_ ?_; omega; intro _ _)); (try (refine ne_cps (a := w.heap.size) (b := w1.heap.size + 1 + 1) ?_ ?_; omega; intro _ _)); skip)
  have hr2 := hr1.mono (m' := 200 + 18) (by omega)
  clear hr1
  go_wp2_with fail
  (go_at_call 45; (with_reducible refine (c_l20Instrument g 200 _ _ ?_ (by omega) (by omega)).mono ?_); (focus (repeat' (first | (with_reducible assumption) | (with_reducible refine Rdr.alloc ?_ _) | (with_reducible refine Rdr.setCell ?_ ?_ _) | (with_reducible refine Rdr.drewN ?_ _) | (with_reducible refine Rdr.drew ?_) | (show _ < _; first | omega | (simp only [size_alloc', size_setCell', size_drew', size_drewN'] at *; omega))))); rintro e w2 ⟨⟨a, b, c, d⟩, rfl, hrq, hgq⟩; have hsq := hgq.size; (try simp only [size_alloc', size_setCell', size_drew', size_drewN'] at hsq); (try (refine keep_heap_g (b := w.heap.size) hgq ?_ ?_ ?_; (first | omega | (simp only [size_alloc', size_setCell', size_drew', size_drewN']; omega)); omega; intro hkq; simp only [heap_alloc_get, heap_setCell_get, heap_drew_get, heap_drewN_get, size_alloc', size_setCell', size_drew', size_drewN', nat_simp1, nat_simp2, nat_simp3, nat_simp4, nat_simp5, if_true, if_false, Option.map_some, *] at hkq; obtain ⟨_, _⟩ := blk_facts hkq)); (try (refine ne_cps (a := w.heap.size) (b := w2.heap.size) ?_ ?_; omega; intro _ _)); (try (refine ne_cps (a := w.heap.size) (b := w2.heap.size + 1) ?_ ?_; omega; intro _ _)); (try (refine ne_cps (a := w.heap.size) (b := w2.heap.size + 1 + 1) ?_ ?_; omega; intro _ _)); skip)
  have hb2 : Below (w.heap.size + 1) (w.alloc (.cells #[.int .i64 0, .int .i64 0, .int .i64 0, .int .i64 0] 29)) w2 := below_of_kp (hbq.mono (by simp)) hgq (by omega) (by omega)
  have hg1 : g < w1.heap.size := hr2.lt
  have hr3 : Rdr w2 g (0 + 200) := hrq
  go_upto_region 3 with fail
  go_cut [3] (fun s3 wx => ∃ (ns : List Nt), ns.length ≤ 61 ∧ wx.ownsRow (w.heap.size + 1) 50 6 s3 ns.length (ntCells ns) ∧ Below w.heap.size w wx ∧ wx.heap[w.heap.size]? = some (.cells #[.int .i64 a, .int .i64 b, .int .i64 c, .int .i64 d] 29 (0, 0)))
  case first =>
    go_region_law (first | (go_simp; (go_at_call 54; (with_reducible refine (c_l20Voice g 0 _ _ ?_ (by omega) (by omega)).mono ?_); (focus (repeat' (first | (with_reducible assumption) | (with_reducible refine Rdr.alloc ?_ _) | (with_reducible refine Rdr.setCell ?_ ?_ _) | (with_reducible refine Rdr.drewN ?_ _) | (with_reducible refine Rdr.drew ?_) | (show _ < _; first | omega | (simp only [size_alloc', size_setCell', size_drew', size_drewN'] at *; omega))))); rintro e w4 ⟨v4, ns, rfl, hov, hl2, hsm, hrq, hgq⟩; have hsq := hgq.size; (try simp only [size_alloc', size_setCell', size_drew', size_drewN'] at hsq); (try (refine keep_heap_g (b := w.heap.size) hgq ?_ ?_ ?_; (first | omega | (simp only [size_alloc', size_setCell', size_drew', size_drewN']; omega)); omega; intro hkq; simp only [heap_alloc_get, heap_setCell_get, heap_drew_get, heap_drewN_get, size_alloc', size_setCell', size_drew', size_drewN', nat_simp1, nat_simp2, nat_simp3, nat_simp4, nat_simp5, if_true, if_false, Option.map_some, *] at hkq; obtain ⟨_, _⟩ := blk_facts hkq)); (try (refine keep_heap_g (b := w2.heap.size) hgq ?_ ?_ ?_; (first | omega | (simp only [size_alloc', size_setCell', size_drew', size_drewN']; omega)); omega; intro hkq; simp only [heap_alloc_get, heap_setCell_get, heap_drew_get, heap_drewN_get, size_alloc', size_setCell', size_drew', size_drewN', nat_simp1, nat_simp2, nat_simp3, nat_simp4, nat_simp5, if_true, if_false, Option.map_some, *] at hkq; obtain ⟨_, _⟩ := blk_facts hkq)); (try (refine ne_cps (a := w.heap.size) (b := w4.heap.size) ?_ ?_; omega; intro _ _)); (try (refine ne_cps (a := w.heap.size) (b := w4.heap.size + 1) ?_ ?_; omega; intro _ _)); (try (refine ne_cps (a := w.heap.size) (b := w4.heap.size + 1 + 1) ?_ ?_; omega; intro _ _)); (try (refine ne_cps (a := w2.heap.size) (b := w4.heap.size) ?_ ?_; omega; intro _ _)); (try (refine ne_cps (a := w2.heap.size) (b := w4.heap.size + 1) ?_ ?_; omega; intro _ _)); (try (refine ne_cps (a := w2.heap.size) (b := w4.heap.size + 1 + 1) ?_ ?_; omega; intro _ _)); skip)))
    all_goals
      have hz4 := hgq.size
      have hz2 := hb2.size
      have hg2 : w2.heap.size ≤ w4.heap.size := by (try simp only [size_alloc', size_drew', size_drewN', size_setCell'] at hz4); omega
      have hz2' : w.heap.size + 1 ≤ w2.heap.size := by simpa using hz2
      have hb0 : Below w.heap.size w w2 := (bel1 w _).trans (hb2.mono (by omega))
      have hb4 : Below w.heap.size w w4 := below_of_kp ((hb0.alloc (by omega) (.cells #[.int .i64 a, .int .i64 b, .int .i64 c, .int .i64 d] 29)).drew) hgq (by omega) (by first | omega | (simp; omega))
      go_wp2_with fail
      go_meet
      exact ⟨ns, hl2, own_setB (own_setB (own_setB (own_setB (own_monoA hov (by (try simp only [size_alloc', size_drew', size_drewN', size_setCell']); omega)) (p := ⟨w.heap.size, 0, none⟩) (Nat.lt_succ_self _) _) (p := ⟨w.heap.size, 1, none⟩) (Nat.lt_succ_self _) _) (p := ⟨w.heap.size, 2, none⟩) (Nat.lt_succ_self _) _) (p := ⟨w.heap.size, 3, none⟩) (Nat.lt_succ_self _) _, by
        exact Below.setCell (Below.setCell (Below.setCell (Below.setCell hb4 (Nat.le_refl w.heap.size) _) (Nat.le_refl w.heap.size) _) (Nat.le_refl w.heap.size) _) (Nat.le_refl w.heap.size) _, by (simp only [heap_alloc_get, heap_setCell_get, heap_drew_get, heap_drewN_get, size_alloc', size_setCell', size_drew', size_drewN', nat_simp1, nat_simp2, nat_simp3, nat_simp4, nat_simp5, if_true, if_false, Option.map_some, *]; first | done | rfl | simp)⟩
  case rest =>
    obtain ⟨ns, hl2, hown, hbe, hZ⟩ := hcut
    have HO := Lib.hid hown
    clear hown
    obtain ⟨_, _⟩ := blk_facts hZ
    go_wp2_with fail
    exact bodyPost_ret (v := .tuple #[.agg #[.int .i64 a, .int .i64 b, .int .i64 c, .int .i64 d], u3]) (by simp [results, Try.results30, go_sem, *]) rfl ⟨u3, ns, ⟨a, b, c, d⟩, rfl, own_monoA HO.out (by omega), hl2, hbe⟩
end Go.Proofs.Ythkaofnciaommaa
