/- What the laws on moving voices draw. Conditions: none. -/
import Derived.Test.YthkaofnciaommaaR6
import Derived.Test.YthkaofnciaommaaR5
import Derived.Test.YthkaofnciaommaaNB
namespace Go.Proofs.Ythkaofnciaommaa
open Go.RowKit
set_option linter.unusedSimpArgs false
set_option linter.unusedVariables false
set_option maxHeartbeats 4000000
theorem own_setB {base e size n : Nat} {v : Value} {xs : List Value} {W : World} (h : W.ownsRow base e size v n xs) {p : Addr} (hp : p.block < base) (u : Value) : (W.setCell p u).ownsRow base e size v n xs :=
  h.kept (row := some p.block) ⟨rfl, rfl, rfl, by simp [World.setCell], fun i hi hn => Below.heap_setCell W p u i (fun hh => hn (by rw [hh]))⟩ (by
    cases hv : v.ownBlock with
    | none => exact .inl rfl
    | some k =>
      right
      intro hk
      cases hk
      have := (h.lt p.block hv).1
      omega)
def DShift (w : World) (e : Ending) (w' : World) : Prop :=
  ∃ v ns i, e = .returned (.tuple #[v, Iv.v i]) ∧ w'.ownsRow w.heap.size 50 6 v (ns : List Nt).length (ntCells ns) ∧ ns.length ≤ 61 ∧ Below w.heap.size w w'
theorem c_DrawShiftVoice (v : Value) (bs : List Int) (w : World) (h : Rd w v 1 bs.length (byteCells bs)) (hb : ∀ x ∈ bs, 0 ≤ x ∧ x ≤ 255) :
    Calls Try.prog 35 #[v] w (DShift w) := by
  go_enter Try.func35, Try.ntmps35
  go_wp2_with fail
  (go_at_call 46; (with_reducible refine (c_open _ _ _ (h.alloc _) hb).mono ?_); rintro e w1 ⟨g, rfl, hg, hr1, hbq⟩; have hzq := hbq.size; (try simp only [size_alloc', size_setCell', size_drew', size_drewN'] at hzq hg); (try (refine keep_heap (b := w.heap.size) hbq ?_ ?_; (first | omega | (simp only [size_alloc', size_setCell', size_drew', size_drewN']; omega)); intro hkq; simp only [heap_alloc_get, heap_setCell_get, heap_drew_get, heap_drewN_get, size_alloc', size_setCell', size_drew', size_drewN', nat_simp1, nat_simp2, nat_simp3, nat_simp4, nat_simp5, if_true, if_false, *] at hkq; obtain ⟨_, _⟩ := blk_facts hkq)); (try (refine ne_cps (a := w.heap.size) (b := w1.heap.size) ?_ ?_; omega; intro _ _)); (try (refine ne_cps (a := w.heap.size) (b := w1.heap.size + 1) ?_ ?_; omega; intro _ _)); (try (refine ne_cps (a := w.heap.size) (b := w1.heap.size + 1 + 1) ?_ ?_; omega; intro _ _)); skip)
  have hr2 := hr1.mono (m' := 7 + 200) (by omega)
  clear hr1
  go_wp2_with fail
  (go_at_call 54; (with_reducible refine (c_l20Voice g 7 _ _ ?_ (by omega) (by omega)).mono ?_); (focus (repeat' (first | (with_reducible assumption) | (with_reducible refine Rdr.alloc ?_ _) | (with_reducible refine Rdr.setCell ?_ ?_ _) | (with_reducible refine Rdr.drewN ?_ _) | (with_reducible refine Rdr.drew ?_) | (show _ < _; first | omega | (simp only [size_alloc', size_setCell', size_drew', size_drewN'] at *; omega))))); rintro e w2 ⟨v2, ns, rfl, hov, hl2, hsm, hrq, hgq⟩; have hsq := hgq.size; (try simp only [size_alloc', size_setCell', size_drew', size_drewN'] at hsq); (try (refine keep_heap_g (b := w.heap.size) hgq ?_ ?_ ?_; (first | omega | (simp only [size_alloc', size_setCell', size_drew', size_drewN']; omega)); omega; intro hkq; simp only [heap_alloc_get, heap_setCell_get, heap_drew_get, heap_drewN_get, size_alloc', size_setCell', size_drew', size_drewN', nat_simp1, nat_simp2, nat_simp3, nat_simp4, nat_simp5, if_true, if_false, Option.map_some, *] at hkq; obtain ⟨_, _⟩ := blk_facts hkq)); (try (refine ne_cps (a := w.heap.size) (b := w2.heap.size) ?_ ?_; omega; intro _ _)); (try (refine ne_cps (a := w.heap.size) (b := w2.heap.size + 1) ?_ ?_; omega; intro _ _)); (try (refine ne_cps (a := w.heap.size) (b := w2.heap.size + 1 + 1) ?_ ?_; omega; intro _ _)); skip)
  have HOV := Lib.hid hov
  have hb2 : Below (w.heap.size + 1) (w.alloc (.cells #[.int .i64 0, .int .i64 0] 27)) w2 := below_of_kp (hbq.mono (by simp)) hgq (by omega) (by omega)
  clear hov hsm
  have hr3 : Rdr w2 g (0 + 7) := hrq.mono (by omega)
  clear hrq
  have hw12 : w1.heap.size ≤ w2.heap.size := hgq.size
  have hg1 : g < w1.heap.size := hr2.lt
  go_wp2_with fail
  (go_at_call 56; (with_reducible refine (c_l20Way g 0 _ _ ?_ (by omega) (by omega)).mono ?_); (focus (repeat' (first | (with_reducible assumption) | (with_reducible refine Rdr.alloc ?_ _) | (with_reducible refine Rdr.setCell ?_ ?_ _) | (with_reducible refine Rdr.drewN ?_ _) | (with_reducible refine Rdr.drew ?_) | (show _ < _; first | omega | (simp only [size_alloc', size_setCell', size_drew', size_drewN'] at *; omega))))); rintro e w3 ⟨⟨a, b⟩, rfl, hia, hib, hrq, hgq⟩; have hsq := hgq.size; (try simp only [size_alloc', size_setCell', size_drew', size_drewN'] at hsq); (try (refine keep_heap_g (b := w.heap.size) hgq ?_ ?_ ?_; (first | omega | (simp only [size_alloc', size_setCell', size_drew', size_drewN']; omega)); omega; intro hkq; simp only [heap_alloc_get, heap_setCell_get, heap_drew_get, heap_drewN_get, size_alloc', size_setCell', size_drew', size_drewN', nat_simp1, nat_simp2, nat_simp3, nat_simp4, nat_simp5, if_true, if_false, Option.map_some, *] at hkq; obtain ⟨_, _⟩ := blk_facts hkq)); (try (refine ne_cps (a := w.heap.size) (b := w3.heap.size) ?_ ?_; omega; intro _ _)); (try (refine ne_cps (a := w.heap.size) (b := w3.heap.size + 1) ?_ ?_; omega; intro _ _)); (try (refine ne_cps (a := w.heap.size) (b := w3.heap.size + 1 + 1) ?_ ?_; omega; intro _ _)); skip)
  have HO3 := Lib.hid (pick_own HOV.out hgq hg1)
  have hb3 := below_of_kp hb2 hgq (by omega) (by omega)
  have hz3 := hgq.size
  go_wp2_with fail
  have hZ : ((w3.setCell ⟨w.heap.size, 0, none⟩ (.int .i64 a)).setCell ⟨w.heap.size, 1, none⟩ (.int .i64 b)).heap[w.heap.size]? = some (.cells #[.int .i64 a, .int .i64 b] 27 (0, 0)) := by (simp only [heap_alloc_get, heap_setCell_get, heap_drew_get, heap_drewN_get, size_alloc', size_setCell', size_drew', size_drewN', nat_simp1, nat_simp2, nat_simp3, nat_simp4, nat_simp5, if_true, if_false, Option.map_some, *]; first | done | rfl | simp)
  obtain ⟨_, _⟩ := blk_facts hZ
  exact bodyPost_ret (v := .tuple #[v2, .agg #[.int .i64 a, .int .i64 b]]) (by simp [results, Try.results35, go_sem, *]) rfl
    ⟨v2, ns, ⟨a, b⟩, rfl, own_monoA (own_setB (own_setB HO3.out (p := ⟨w.heap.size, 0, none⟩) (by show w.heap.size < w1.heap.size; omega) _) (p := ⟨w.heap.size, 1, none⟩) (by show w.heap.size < w1.heap.size; omega) _) (by omega), hl2, by
      have hb4 : Below w.heap.size w w3 := (bel1 w _).trans (hb3.mono (by omega))
      exact Below.setCell (Below.setCell hb4 (by show w.heap.size ≤ w.heap.size; omega) _) (by show w.heap.size ≤ w.heap.size; omega) _⟩
end Go.Proofs.Ythkaofnciaommaa
