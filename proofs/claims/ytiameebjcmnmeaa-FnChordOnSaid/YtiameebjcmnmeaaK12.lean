/- Chords moved: the plain law; draws of a root and a kind, of a pitch and a way; the walk of FnChordMoved. Conditions: none. -/
import Derived.Test.YtiameebjcmnmeaaK10
import Derived.Test.YtiameebjcmnmeaaR2
namespace Go.Proofs.Ytiameebjcmnmeaa
open Go.RowKit
set_option linter.unusedSimpArgs false
set_option linter.unusedVariables false
set_option maxHeartbeats 16000000
theorem pitchW_some {pl k : Int} {q : Pit} (h : pitchW pl k = some q) : pitchValid q = true ∧ pitPlace q = pl ∧ keyOf q = k := by
  unfold pitchW at h
  split at h
  · cases h
  · split at h
    · rename_i hn hv
      cases h
      refine ⟨hv, ?_, ?_⟩
      · unfold pitPlace
        rw [if_pos hv]
        dsimp only
        omega
      · rw [key_nat hv]
        dsimp only
        rw [show 7 * (pl / 7) + pl % 7 = pl by omega]
        omega
    · cases h
theorem pitchW_of {q : Pit} (h : pitchValid q = true) : pitchW (pitPlace q) (keyOf q) = some q := by
  have hk := key_nat h
  obtain ⟨s, a, o⟩ := q
  have hb := pitchValid_iff.1 h
  dsimp only at hb hk
  have hp : pitPlace ⟨s, a, o⟩ = 7 * o + s := by unfold pitPlace; rw [if_pos h]
  have e1 : (7 * o + s) % 7 = s := by omega
  have e2 : (7 * o + s) / 7 = o := by omega
  have e3 : keyOf ⟨s, a, o⟩ - natural (7 * o + s) = a := by omega
  unfold pitchW
  rw [hp, if_neg (by omega), e1, e2, e3, if_pos h]
theorem addIv_some {p q : Pit} {i : Iv} (h : addIv p i = some q) : pitchValid p = true ∧ ivValid i = true ∧ pitchValid q = true ∧ pitPlace q = pitPlace p + i.steps ∧ keyOf q = keyOf p + i.halves := by
  unfold addIv at h
  split at h
  · rename_i hv
    obtain ⟨h1, h2, h3⟩ := pitchW_some h
    exact ⟨hv.1, hv.2, h1, h2, h3⟩
  · cases h
theorem addIv_comm {p q t r : Pit} {i j : Iv} (h1 : addIv p i = some q) (h2 : addIv p j = some t) (h3 : addIv t i = some r) : addIv q j = some r := by
  obtain ⟨a1, a2, a3, a4, a5⟩ := addIv_some h1
  obtain ⟨b1, b2, b3, b4, b5⟩ := addIv_some h2
  obtain ⟨c1, c2, c3, c4, c5⟩ := addIv_some h3
  unfold addIv
  rw [if_pos ⟨a3, b2⟩, show pitPlace q + j.steps = pitPlace r by omega, show keyOf q + j.halves = keyOf r by omega]
  exact pitchW_of c3
theorem chordTo_get {root : Pit} {hs : List Int} : ∀ {k : Nat} {out : List Pit}, chordTo root hs k = some out → ∀ j (hj : j < out.length), addIv root ⟨2 * (j : Int), hs.getD j 0⟩ = some out[j]
  | 0, out, h => by simp only [chordTo, Option.some.injEq] at h; subst h; intro j hj; simp at hj
  | k + 1, out, h => by
    simp only [chordTo] at h
    cases h1 : chordTo root hs k with
    | none => rw [h1] at h; cases h
    | some o =>
      rw [h1] at h
      cases h2 : addIv root ⟨2 * (k : Int), hs.getD k 0⟩ with
      | none => simp only [h2, Option.bind_some, Option.map_none] at h; cases h
      | some p =>
        simp only [h2, Option.bind_some, Option.map_some, Option.some.injEq] at h
        subst h
        have hl := chordTo_len h1
        intro j hj
        by_cases hjl : j < o.length
        · rw [List.getElem_append_left hjl]
          exact chordTo_get h1 j hjl
        · have : j = o.length := by simp at hj; omega
          subst this
          simp
          rw [hl]
          simpa using h2
theorem chordOf_some {root : Pit} {kind : Int} {out : List Pit} (h : chordOf root kind = some out) : chordTo root (halvesOf kind) (halvesOf kind).length = some out := by
  unfold chordOf at h
  split at h
  · exact h
  · cases h
theorem chord_moved {root tt : Pit} {kind : Int} {by_ : Iv} {x y : List Pit} (h1 : chordOf root kind = some x) (h2 : addIv root by_ = some tt) (h3 : chordOf tt kind = some y) :
    x.length = y.length ∧ ∀ k (hk : k < x.length) (hk' : k < y.length), addIv x[k] by_ = some y[k] := by
  have e1 := chordOf_some h1
  have e3 := chordOf_some h3
  exact ⟨(chordTo_len e1).trans (chordTo_len e3).symm, fun k hk hk' => addIv_comm (chordTo_get e1 k hk) h2 (chordTo_get e3 k hk')⟩
theorem c_DrawChordOf (v : Value) (bs : List Int) (w : World) (h : Rd w v 1 bs.length (byteCells bs)) (hb : ∀ x ∈ bs, 0 ≤ x ∧ x ≤ 255) :
    Calls Try.prog 19 #[v] w fun e w' => ∃ (p : Pit) (kind : Int), e = .returned (.tuple #[p.v, .int .i64 kind]) ∧ p.Small ∧ Below w.heap.size w w' := by
  go_enter Try.func19, Try.ntmps19
  go_wp2_with fail
  (go_at_call 34; (with_reducible refine (c_open _ _ _ (h.alloc _) hb).mono ?_); rintro e w1 ⟨g, rfl, hg, hr1, hbq⟩; have hzq := hbq.size; (try simp only [size_alloc', size_setCell', size_drew', size_drewN'] at hzq hg); (try (refine keep_heap (b := w.heap.size) hbq ?_ ?_; (first | omega | (simp only [size_alloc', size_setCell', size_drew', size_drewN']; omega)); intro hkq; simp only [heap_alloc_get, heap_setCell_get, heap_drew_get, heap_drewN_get, size_alloc', size_setCell', size_drew', size_drewN', nat_simp1, nat_simp2, nat_simp3, nat_simp4, nat_simp5, if_true, if_false, *] at hkq; obtain ⟨_, _⟩ := blk_facts hkq)); (try (refine ne_cps (a := w.heap.size) (b := w1.heap.size) ?_ ?_; omega; intro _ _)); (try (refine ne_cps (a := w.heap.size) (b := w1.heap.size + 1) ?_ ?_; omega; intro _ _)); (try (refine ne_cps (a := w.heap.size) (b := w1.heap.size + 1 + 1) ?_ ?_; omega; intro _ _)); skip)
  have hr2 : Rdr w1 g ((1 + 100) + 11) := hr1.mono (by omega)
  clear hr1
  go_wp2_with fail
  (go_at_call 51; (with_reducible refine (c_l20Pitch g (1+100) _ _ ?_ (by omega) (by omega)).mono ?_); (focus (repeat' (first | (with_reducible assumption) | (with_reducible refine Rdr.alloc ?_ _) | (with_reducible refine Rdr.setCell ?_ ?_ _) | (with_reducible refine Rdr.drewN ?_ _) | (with_reducible refine Rdr.drew ?_) | (show _ < _; first | omega | (simp only [size_alloc', size_setCell', size_drew', size_drewN'] at *; omega))))); rintro e w2 ⟨⟨ps, pa, po⟩, rfl, hps, hrq, hgq⟩; have hsq := hgq.size; (try simp only [size_alloc', size_setCell', size_drew', size_drewN'] at hsq); (try (refine keep_heap_g (b := w.heap.size) hgq ?_ ?_ ?_; (first | omega | (simp only [size_alloc', size_setCell', size_drew', size_drewN']; omega)); omega; intro hkq; simp only [heap_alloc_get, heap_setCell_get, heap_drew_get, heap_drewN_get, size_alloc', size_setCell', size_drew', size_drewN', nat_simp1, nat_simp2, nat_simp3, nat_simp4, nat_simp5, if_true, if_false, Option.map_some, *] at hkq; obtain ⟨_, _⟩ := blk_facts hkq)); (try (refine ne_cps (a := w.heap.size) (b := w2.heap.size) ?_ ?_; omega; intro _ _)); (try (refine ne_cps (a := w.heap.size) (b := w2.heap.size + 1) ?_ ?_; omega; intro _ _)); (try (refine ne_cps (a := w.heap.size) (b := w2.heap.size + 1 + 1) ?_ ?_; omega; intro _ _)); skip)
  have HK2 := Lib.hid hgq
  have h3 : Rdr w2 g (100 + 1) := hrq.mono (by omega)
  clear hgq hrq
  go_wp2_with fail
  (go_at_call 36; (with_reducible refine (c_pick g (100) _ _ ?_ (by omega) (by omega)).mono ?_); (focus (repeat' (first | (with_reducible assumption) | (with_reducible refine Rdr.alloc ?_ _) | (with_reducible refine Rdr.setCell ?_ ?_ _) | (with_reducible refine Rdr.drewN ?_ _) | (with_reducible refine Rdr.drew ?_) | (show _ < _; first | omega | (simp only [size_alloc', size_setCell', size_drew', size_drewN'] at *; omega))))); rintro e w3 ⟨x3, rfl, hx3, hy3, hz3, hrq, hgq⟩; have hsq := hgq.size; (try simp only [size_alloc', size_setCell', size_drew', size_drewN'] at hsq); (try (refine keep_heap_g (b := w.heap.size) hgq ?_ ?_ ?_; (first | omega | (simp only [size_alloc', size_setCell', size_drew', size_drewN']; omega)); omega; intro hkq; simp only [heap_alloc_get, heap_setCell_get, heap_drew_get, heap_drewN_get, size_alloc', size_setCell', size_drew', size_drewN', nat_simp1, nat_simp2, nat_simp3, nat_simp4, nat_simp5, if_true, if_false, Option.map_some, *] at hkq; obtain ⟨_, _⟩ := blk_facts hkq)); (try (refine ne_cps (a := w.heap.size) (b := w3.heap.size) ?_ ?_; omega; intro _ _)); (try (refine ne_cps (a := w.heap.size) (b := w3.heap.size + 1) ?_ ?_; omega; intro _ _)); (try (refine ne_cps (a := w.heap.size) (b := w3.heap.size + 1 + 1) ?_ ?_; omega; intro _ _)); skip)
  have hx3' := hy3 (by omega)
  have hbel : Below w.heap.size w w3 := below_of_kp (below_of_kp (show Below w.heap.size w w1 by (repeat' (first | (with_reducible exact Below.refl _ _) | (with_reducible refine Below.setCell ?_ ?_ _) | (with_reducible refine Below.alloc ?_ ?_ _) | (with_reducible refine Below.drew ?_) | (with_reducible refine below_drewN ?_ _) | (with_reducible refine Below.trans ?_ (Below.mono (by with_reducible assumption) ?_)) | omega | (simp only [size_alloc', size_setCell', size_drew', size_drewN'] at *; omega)))) HK2.out (by omega) (by omega)) hgq (by omega) (by omega)
  go_wp2_with fail
  exact bodyPost_ret (v := .tuple #[.agg #[.int .i64 ps, .int .i64 pa, .int .i64 po], .int .i64 (x3 - 1)]) (by simp [results, Try.results19, go_sem, *]) rfl ⟨⟨ps, pa, po⟩, x3 - 1, rfl, hps, ((hbel.setCell (p := ⟨w.heap.size, 0, none⟩) (Nat.le_refl _) _).setCell (p := ⟨w.heap.size, 1, none⟩) (Nat.le_refl _) _).setCell (p := ⟨w.heap.size, 2, none⟩) (Nat.le_refl _) _⟩
end Go.Proofs.Ytiameebjcmnmeaa
