/- DrawBeatAt; the walk of FnBeatAt. Conditions: none. -/
import Derived.Test.YtlhekgjckjcbhaaD2
import Derived.Test.YtlhekgjckjcbhaaRM
namespace Go.Proofs.Ytlhekgjckjcbhaa
open Go.RowKit
set_option linter.unusedSimpArgs false
set_option linter.unusedVariables false
set_option maxHeartbeats 16000000
set_option maxRecDepth 100000
def DBeat (w : World) (e : Ending) (w' : World) : Prop := ∃ (mt : Met) (t : Int), e = .returned (.tuple #[mt.v, .int .i64 t]) ∧ I64 t ∧ Below w.heap.size w w'
def JBeat (W0 : World) (g rb : Nat) (a b : Int) (i : Nat) (v : Value) (W : World) : Prop :=
  match i with
  | 0 => v = .agg #[.int .i64 a, .int .i64 b]
  | 1 => v = .pointer (some ⟨g, 0, none⟩)
  | 2 => IntIn (fun x => 0 ≤ x ∧ x < 256) v
  | 3 => IntIn (fun x => 0 ≤ x ∧ x < 2000) v
  | 4 => v = .pointer (some ⟨g, 0, none⟩)
  | 5 => IntIn (fun x => 0 ≤ x ∧ x < 256) v
  | 6 => RowAt W0.heap.size 3 I64 4 v W
  | 7 => RowAt W0.heap.size 3 (fun x => 0 ≤ x ∧ x < 4) 6 v W
  | 8 => v = .pointer (some ⟨g, 0, none⟩)
  | 9 => IntIn (fun x => 0 ≤ x ∧ x < 6) v
  | 10 => ElAt W0.heap.size (fun x => 0 ≤ x ∧ x < 4) v W
  | 11 => IntIn (fun x => 0 ≤ x ∧ x < 4) v
  | 12 => ElAt W0.heap.size I64 v W
  | 13 => IntIn I64 v
  | 14 => W.heap[rb]? = some (.cells #[.int .i64 a, .int .i64 b] 35 (0, 0))
  | 15 => IntIn I64 v
  | _ => True
theorem JBeat.mv {W0 : World} {g rb : Nat} {a b : Int} (hg : g < W0.heap.size) (hr : rb < W0.heap.size) (hne : g ≠ rb) {X : Nat → Prop} {W W' : World} (hm : Mv X W W') (hX : ∀ b, X b → b = g ∨ b = rb) (h14 : X rb → W'.heap[rb]? = some (.cells #[.int .i64 a, .int .i64 b] 35 (0, 0))) :
    ∀ j u, JBeat W0 g rb a b j u W → JBeat W0 g rb a b j u W' := by
  have hX' : ∀ b, X b → b < W0.heap.size := fun b hb => by rcases hX b hb with rfl | rfl <;> assumption
  intro j u h
  unfold JBeat at *
  split at h
  case h_7 => exact RowAt.mv h hm hX'
  case h_8 => exact RowAt.mv h hm hX'
  case h_11 => exact ElAt.mv h hm hX'
  case h_13 => exact ElAt.mv h hm hX'
  case h_15 =>
    by_cases hx : X rb
    · exact h14 hx
    · exact hm.heap h hx
  all_goals exact h
theorem c_DrawBeatAt (v : Value) (bs : List Int) (w : World) (h : Rd w v 1 bs.length (byteCells bs)) (hb : ∀ x ∈ bs, 0 ≤ x ∧ x ≤ 255) :
    Calls Try.prog 17 #[v] w (DBeat w) := by
  go_enter Try.func17, Try.ntmps17
  go_wp2_with fail
  (go_at_call 38; (with_reducible refine (c_open _ _ _ (h.alloc _) hb).mono ?_); rintro e w1 ⟨g, rfl, hg, hr1, hbq⟩; have hzq := hbq.size; (try simp only [size_alloc', size_setCell', size_drew', size_drewN'] at hzq hg); (try (refine keep_heap (b := w.heap.size) hbq ?_ ?_; (first | omega | (simp only [size_alloc', size_setCell', size_drew', size_drewN']; omega)); intro hkq; simp only [heap_alloc_get, heap_setCell_get, heap_drew_get, heap_drewN_get, size_alloc', size_setCell', size_drew', size_drewN', nat_simp1, nat_simp2, nat_simp3, nat_simp4, nat_simp5, if_true, if_false, *] at hkq; obtain ⟨_, _⟩ := blk_facts hkq)); (try (refine ne_cps (a := w.heap.size) (b := w1.heap.size) ?_ ?_; omega; intro _ _)); (try (refine ne_cps (a := w.heap.size) (b := w1.heap.size + 1) ?_ ?_; omega; intro _ _)); (try (refine ne_cps (a := w.heap.size) (b := w1.heap.size + 1 + 1) ?_ ?_; omega; intro _ _)); skip)
  have hr2 := hr1.mono (m' := 3 + 5) (by omega)
  clear hr1
  go_wp2_with fail
  (go_at_call 51; (with_reducible refine (c_l20Meter g 3 _ _ ?_ (by omega) (by omega)).mono ?_); (focus (repeat' (first | (with_reducible assumption) | (with_reducible refine Rdr.alloc ?_ _) | (with_reducible refine Rdr.setCell ?_ ?_ _) | (with_reducible refine Rdr.drewN ?_ _) | (with_reducible refine Rdr.drew ?_) | (show _ < _; first | omega | (simp only [size_alloc', size_setCell', size_drew', size_drewN'] at *; omega))))); rintro e w2 ⟨⟨a, b⟩, rfl, hia, hrq, hgq⟩; have hsq := hgq.size; (try simp only [size_alloc', size_setCell', size_drew', size_drewN'] at hsq); (try (refine keep_heap_g (b := w.heap.size) hgq ?_ ?_ ?_; (first | omega | (simp only [size_alloc', size_setCell', size_drew', size_drewN']; omega)); omega; intro hkq; simp only [heap_alloc_get, heap_setCell_get, heap_drew_get, heap_drewN_get, size_alloc', size_setCell', size_drew', size_drewN', nat_simp1, nat_simp2, nat_simp3, nat_simp4, nat_simp5, if_true, if_false, Option.map_some, *] at hkq; obtain ⟨_, _⟩ := blk_facts hkq)); (try (refine ne_cps (a := w.heap.size) (b := w2.heap.size) ?_ ?_; omega; intro _ _)); (try (refine ne_cps (a := w.heap.size) (b := w2.heap.size + 1) ?_ ?_; omega; intro _ _)); (try (refine ne_cps (a := w.heap.size) (b := w2.heap.size + 1 + 1) ?_ ?_; omega; intro _ _)); skip)
  have hb2 : Below (w.heap.size + 1) (w.alloc (.cells #[.int .i64 0, .int .i64 0] 35)) w2 := below_of_kp (hbq.mono (by simp)) hgq (by omega) (by omega)
  have hg1 : g < w1.heap.size := hr2.lt
  have hr3 : Rdr w2 g (2 + 1) := hrq
  clear hrq hr2
  go_upto_region 3 with fail
  have hX2 := heap_alloc_new w2 (.cells #[.int .i64 a, .int .i64 b] 35)
  have hX0 := below_heap (bel1 w2 (.cells #[.int .i64 a, .int .i64 b] 35)) (show w2.heap[w.heap.size]? = some (.cells #[.int .i64 0, .int .i64 0] 35 (0, 0)) by assumption)
  have hzz : w.heap.size < w2.heap.size := by have := hb2.size; omega
  have hw12 : w1.heap.size ≤ w2.heap.size := hgq.size
  have hb0 : Below w.heap.size w (w2.alloc (.cells #[.int .i64 a, .int .i64 b] 35)) := ((bel1 w _).trans (hb2.mono (by omega))).alloc (by omega) _
  have hr4 := hr3.alloc (.cells #[.int .i64 a, .int .i64 b] 35)
  have hsz := size_alloc' w2 (.cells #[.int .i64 a, .int .i64 b] 35)
  generalize hW0 : w2.alloc (.cells #[.int .i64 a, .int .i64 b] 35) = W0 at *
  have hgn : g ≠ w.heap.size := by intro e; subst e; omega
  have HS := Lib.hid (fun (W W' : World) (hk : W.grownBy W' (some g)) => JBeat.mv (W0 := W0) (g := g) (rb := w.heap.size) (a := a) (b := b) (by omega) (by omega) hgn (Mv.of_kp hk) (fun b hb => .inl hb) (fun hb => absurd hb.symm hgn))
  have hX2n : ¬ (w2.heap.size = g ∨ w2.heap.size = w.heap.size) := by omega
  have hXm : ∀ k, k = g → k = g ∨ k = w.heap.size := fun _ h => .inl h
  have HX2 := Lib.hid hX2
  have HX0 := Lib.hid hX0
  clear hX2 hX0
  refine wp_region_rg ?F (fun c W => (0 < c → Rdr W g c) ∧ Mv (fun k => k = g ∨ k = w.heap.size) W0 W ∧ ∃ p q, W.heap[w.heap.size]? = some (.cells #[.int .i64 p, .int .i64 q] 35 (0, 0))) (JBeat W0 g w.heap.size a b) (fun i => match i with | 2 => 1 | 5 => 1 | 9 => 1 | _ => 0) (fun i => i == 14) 0 ?hF (by kernel_rfl) (by kernel_rfl) (by kernel_rfl) (by kernel_rfl) ?_ ?_ ?_
  case hF =>
    intro vs
    simp [fillA, Act.put]
    rfl
  · exact ⟨fun _ => (hr4.mono (Nat.le_of_eq (by kernel_rfl))).drew, Mv.drew _, 0, 0, HX0.out⟩
  · refine RGAll.plain rfl ?_ ?_
    · intro vs W m hm0 ⟨hR, hM, p, q, hC⟩ hdep K hK
      obtain ⟨_, _⟩ := blk_facts (hM.heap HX2.out hX2n)
      go_wp2_with fail
      exact ⟨_, rfl, ⟨hR, hM, p, q, hC⟩, rfl, fun _ _ h => h⟩
    refine RGAll.plain rfl ?_ ?_
    · intro vs W m hm0 ⟨hR, hM, p, q, hC⟩ hdep K hK
      go_wp2_with fail
      exact ⟨_, rfl, ⟨hR, hM, p, q, hC⟩, rfl, fun _ _ h => h⟩
    refine RGAll.plain rfl ?_ ?_
    · intro vs W m hm0 ⟨hR, hM, p, q, hC⟩ hdep K hK
      have e1 : vs 1 = .pointer (some ⟨g, 0, none⟩) := depOf hdep 1 (by kernel_rfl)
      simp only [e1] at hK ⊢
      have hR' : Rdr W g (m + 1) := hR (Nat.succ_pos m)
      clear hdep
      go_wp2_with fail
      (go_at_call 47; (with_reducible refine (c_pick g (m) _ _ ?_ (by omega) (by omega)).mono ?_); (focus (repeat' (first | (with_reducible assumption) | (with_reducible refine Rdr.alloc ?_ _) | (with_reducible refine Rdr.setCell ?_ ?_ _) | (with_reducible refine Rdr.drewN ?_ _) | (with_reducible refine Rdr.drew ?_) | (show _ < _; first | omega | (simp only [size_alloc', size_setCell', size_drew', size_drewN'] at *; omega))))); rintro e w4 ⟨x4, rfl, hx4, hy4, hz4, hrq, hgq⟩; have hsq := hgq.size; (try simp only [size_alloc', size_setCell', size_drew', size_drewN'] at hsq); skip)
      go_wp2_with fail
      exact ⟨_, rfl, ⟨fun _ => hrq, hM.trans ((Mv.of_kp hgq).mono hXm), p, q, (Mv.of_kp hgq).heap hC (fun e => hgn e.symm)⟩, ⟨x4, rfl, hx4, hy4 (by omega)⟩, HS.out _ _ hgq⟩
    refine RGAll.plain rfl ?_ ?_
    · intro vs W m hm0 ⟨hR, hM, p, q, hC⟩ hdep K hK
      obtain ⟨x, e2, h1, h2⟩ := depOf hdep 2 (by kernel_rfl)
      simp only [e2] at hK ⊢
      go_wp2_with fail
      exact ⟨_, rfl, ⟨hR, hM, p, q, hC⟩, ⟨_, rfl, by omega, by omega⟩, fun _ _ h => h⟩
    refine RGAll.plain rfl ?_ ?_
    · intro vs W m hm0 ⟨hR, hM, p, q, hC⟩ hdep K hK
      go_wp2_with fail
      exact ⟨_, rfl, ⟨hR, hM, p, q, hC⟩, rfl, fun _ _ h => h⟩
    refine RGAll.plain rfl ?_ ?_
    · intro vs W m hm0 ⟨hR, hM, p, q, hC⟩ hdep K hK
      have e1 : vs 4 = .pointer (some ⟨g, 0, none⟩) := depOf hdep 4 (by kernel_rfl)
      simp only [e1] at hK ⊢
      have hR' : Rdr W g (m + 1) := hR (Nat.succ_pos m)
      clear hdep
      go_wp2_with fail
      (go_at_call 47; (with_reducible refine (c_pick g (m) _ _ ?_ (by omega) (by omega)).mono ?_); (focus (repeat' (first | (with_reducible assumption) | (with_reducible refine Rdr.alloc ?_ _) | (with_reducible refine Rdr.setCell ?_ ?_ _) | (with_reducible refine Rdr.drewN ?_ _) | (with_reducible refine Rdr.drew ?_) | (show _ < _; first | omega | (simp only [size_alloc', size_setCell', size_drew', size_drewN'] at *; omega))))); rintro e w4 ⟨x4, rfl, hx4, hy4, hz4, hrq, hgq⟩; have hsq := hgq.size; (try simp only [size_alloc', size_setCell', size_drew', size_drewN'] at hsq); skip)
      go_wp2_with fail
      exact ⟨_, rfl, ⟨fun _ => hrq, hM.trans ((Mv.of_kp hgq).mono hXm), p, q, (Mv.of_kp hgq).heap hC (fun e => hgn e.symm)⟩, ⟨x4, rfl, hx4, hy4 (by omega)⟩, HS.out _ _ hgq⟩
    refine RGAll.plain rfl ?_ ?_
    · intro vs W m hm0 ⟨hR, hM, p, q, hC⟩ hdep K hK
      obtain ⟨x, e3, h1, h2⟩ := depOf hdep 3 (by kernel_rfl)
      obtain ⟨y, e5, h3, h4⟩ := depOf hdep 5 (by kernel_rfl)
      simp only [e3, e5] at hK ⊢
      clear hdep
      go_wp2_with fail
      exact ⟨_, rfl, ⟨fun h => Rdr.alloc (hR h) _, hM.trans (Mv.alloc _ _), p, q, below_heap (bel1 _ _) hC⟩, RowAt.new (hM.size) [x, y, -1, 9223372036854775807] rfl (by intro z hz; simp only [List.mem_cons, List.not_mem_nil, or_false] at hz; unfold I64; omega), HS.out _ _ (kp_alloc (World.grownBy.refl _ _) _)⟩
    refine RGAll.plain rfl ?_ ?_
    · intro vs W m hm0 ⟨hR, hM, p, q, hC⟩ hdep K hK
      clear hdep
      go_wp2_with fail
      exact ⟨_, rfl, ⟨fun h => Rdr.alloc (hR h) _, hM.trans (Mv.alloc _ _), p, q, below_heap (bel1 _ _) hC⟩, RowAt.new (hM.size) [0, 0, 1, 1, 2, 3] rfl (by decide), HS.out _ _ (kp_alloc (World.grownBy.refl _ _) _)⟩
    refine RGAll.plain rfl ?_ ?_
    · intro vs W m hm0 ⟨hR, hM, p, q, hC⟩ hdep K hK
      go_wp2_with fail
      exact ⟨_, rfl, ⟨hR, hM, p, q, hC⟩, rfl, fun _ _ h => h⟩
    refine RGAll.plain rfl ?_ ?_
    · intro vs W m hm0 ⟨hR, hM, p, q, hC⟩ hdep K hK
      have e1 : vs 8 = .pointer (some ⟨g, 0, none⟩) := depOf hdep 8 (by kernel_rfl)
      simp only [e1] at hK ⊢
      have hR' : Rdr W g (m + 1) := hR (Nat.succ_pos m)
      clear hdep
      go_wp2_with fail
      (go_at_call 47; (with_reducible refine (c_pick g (m) _ _ ?_ (by omega) (by omega)).mono ?_); (focus (repeat' (first | (with_reducible assumption) | (with_reducible refine Rdr.alloc ?_ _) | (with_reducible refine Rdr.setCell ?_ ?_ _) | (with_reducible refine Rdr.drewN ?_ _) | (with_reducible refine Rdr.drew ?_) | (show _ < _; first | omega | (simp only [size_alloc', size_setCell', size_drew', size_drewN'] at *; omega))))); rintro e w4 ⟨x4, rfl, hx4, hy4, hz4, hrq, hgq⟩; have hsq := hgq.size; (try simp only [size_alloc', size_setCell', size_drew', size_drewN'] at hsq); skip)
      go_wp2_with fail
      exact ⟨_, rfl, ⟨fun _ => hrq, hM.trans ((Mv.of_kp hgq).mono hXm), p, q, (Mv.of_kp hgq).heap hC (fun e => hgn e.symm)⟩, ⟨x4, rfl, hx4, hy4 (by omega)⟩, HS.out _ _ hgq⟩
    refine RGAll.plain rfl ?_ ?_
    · intro vs W m hm0 ⟨hR, hM, p, q, hC⟩ hdep K hK
      obtain ⟨x, e9, h1, h2⟩ := depOf hdep 9 (by kernel_rfl)
      obtain ⟨bb, y, e7, h3, h4, h5⟩ := RowAt.el (depOf hdep 7 (by kernel_rfl)) x h1 (by simpa using h2)
      simp only [e9, e7] at hK ⊢
      clear hdep
      go_wp2_with fail
      exact ⟨_, rfl, ⟨hR, hM, p, q, hC⟩, ⟨bb, _, y, rfl, h3, h4, h5⟩, fun _ _ h => h⟩
    refine RGAll.plain rfl ?_ ?_
    · intro vs W m hm0 ⟨hR, hM, p, q, hC⟩ hdep K hK
      obtain ⟨bb, k, y, e10, h3, h4, h5⟩ := depOf hdep 10 (by kernel_rfl)
      simp only [e10] at hK ⊢
      clear hdep
      go_wp2_with fail
      exact ⟨_, rfl, ⟨hR, hM, p, q, hC⟩, ⟨y, rfl, h5⟩, fun _ _ h => h⟩
    refine RGAll.plain rfl ?_ ?_
    · intro vs W m hm0 ⟨hR, hM, p, q, hC⟩ hdep K hK
      obtain ⟨x, e11, h1, h2⟩ := depOf hdep 11 (by kernel_rfl)
      obtain ⟨bb, y, e6, h3, h4, h5⟩ := RowAt.el (depOf hdep 6 (by kernel_rfl)) x h1 (by simpa using h2)
      simp only [e11, e6] at hK ⊢
      clear hdep
      go_wp2_with fail
      exact ⟨_, rfl, ⟨hR, hM, p, q, hC⟩, ⟨bb, _, y, rfl, h3, h4, h5⟩, fun _ _ h => h⟩
    refine RGAll.plain rfl ?_ ?_
    · intro vs W m hm0 ⟨hR, hM, p, q, hC⟩ hdep K hK
      obtain ⟨bb, k, y, e10, h3, h4, h5⟩ := depOf hdep 12 (by kernel_rfl)
      simp only [e10] at hK ⊢
      clear hdep
      go_wp2_with fail
      exact ⟨_, rfl, ⟨hR, hM, p, q, hC⟩, ⟨y, rfl, h5⟩, fun _ _ h => h⟩
    refine RGAll.plain rfl ?_ ?_
    · intro vs W m hm0 ⟨hR, hM, p, q, hC⟩ hdep K hK
      have e0 : vs 0 = .agg #[.int .i64 a, .int .i64 b] := depOf hdep 0 (by kernel_rfl)
      simp only [e0] at hK ⊢
      obtain ⟨_, _⟩ := blk_facts hC
      clear hdep
      go_wp2_with fail
      have hS := ((Mv.setCell (X := (· = w.heap.size)) W (p := ⟨w.heap.size, 0, none⟩) rfl (.int .i64 a)).trans (Mv.setCell (X := (· = w.heap.size)) _ (p := ⟨w.heap.size, 1, none⟩) rfl (.int .i64 b)))
      have hH : ((W.setCell ⟨w.heap.size, 0, none⟩ (.int .i64 a)).setCell ⟨w.heap.size, 1, none⟩ (.int .i64 b)).heap[w.heap.size]? = some (.cells #[.int .i64 a, .int .i64 b] 35 (0, 0)) := by (simp only [heap_alloc_get, heap_setCell_get, heap_drew_get, heap_drewN_get, size_alloc', size_setCell', size_drew', size_drewN', nat_simp1, nat_simp2, nat_simp3, nat_simp4, nat_simp5, if_true, if_false, Option.map_some, *]; first | done | rfl | simp)
      exact ⟨undef, rfl, ⟨fun h => absurd h (by have := hm0 rfl; omega), hM.trans (hS.mono fun _ h => .inr h), a, b, hH⟩, hH, JBeat.mv (by omega) (by omega) hgn hS (fun b hb => .inr hb) (fun _ => hH)⟩
    refine RGAll.plain rfl ?_ RGAll.nil
    intro vs W m hm0 ⟨hR, hM, p, q, hC⟩ hdep K hK
    obtain ⟨x, e13, h1⟩ := depOf hdep 13 (by kernel_rfl)
    simp only [e13] at hK ⊢
    clear hdep
    go_wp2_with fail
    exact ⟨_, rfl, ⟨hR, hM, p, q, hC⟩, ⟨x, rfl, h1⟩, fun _ _ h => h⟩
  · intro vs W ⟨hR, hM, p, q, hC⟩ hJ
    obtain ⟨x, e15, h1⟩ := hJ 15 (by decide)
    have hH : W.heap[w.heap.size]? = some (.cells #[.int .i64 a, .int .i64 b] 35 (0, 0)) := hJ 14 (by decide)
    obtain ⟨_, _⟩ := blk_facts hH
    clear hJ
    generalize vs 15 = v15 at *
    subst e15
    go_wp2_with fail
    exact bodyPost_ret (v := .tuple #[.agg #[.int .i64 a, .int .i64 b], .int .i64 x]) (by simp [results, Try.results17, go_sem, *]) rfl ⟨⟨a, b⟩, x, rfl, h1, hM.below hb0 (fun k hk => by rcases hk with rfl | rfl <;> omega) (by omega)⟩
theorem beat_law {b u t : Int} (hv : beatOk ⟨b, u⟩ t = true) (ht : I64 t) : ∃ n q c1 c2 c3 : Int, barTicks ⟨b, u⟩ = n ∧ beat1 ⟨b, u⟩ t = c1 ∧ beat2 ⟨b, u⟩ t = c2 ∧ beat3 ⟨b, u⟩ t = c3 ∧ n / b = q ∧ 1 ≤ b ∧ b ≤ 12 ∧ 12 ≤ n ∧ n ≤ 1152 ∧ 12 ≤ q ∧ q ≤ 96 ∧
    0 ≤ c1 ∧ 0 ≤ c2 ∧ 0 ≤ c3 ∧ c2 < b ∧ c3 < q ∧ 0 ≤ c1 * n ∧ c1 * n ≤ 9223372036854775807 ∧ 0 ≤ c2 * q ∧ c2 * q ≤ 1152 ∧ c1 * n + c2 * q ≤ 9223372036854775807 ∧ c1 ≤ 9223372036854775807 ∧ c1 * n + c2 * q + c3 = t := by
  have hm : meterValid ⟨b, u⟩ = true := by unfold beatOk at hv; exact (Bool.and_eq_true _ _ ▸ hv).1
  have h0 : 0 ≤ t := by unfold beatOk at hv; exact of_decide_eq_true (Bool.and_eq_true _ _ ▸ hv).2
  obtain ⟨k1, k2, k3, k4, k5, k6⟩ := bar_bd hm
  obtain ⟨m1, m2, -⟩ := meterValid_iff.1 hm
  dsimp only at k3 k4 k5 m1 m2
  unfold beat1 beat2 beat3 I64 at *
  rw [if_pos hv, if_pos hv, if_pos hv]
  dsimp only
  generalize 192 / u = q at *
  rw [k5] at k1 k2 ⊢
  have hN : 0 < b * q := by omega
  have e1 : t % (b * q) % q = t % q := Int.emod_emod_of_dvd t (Int.dvd_mul_left b q)
  have r0 := Int.emod_nonneg t (show b * q ≠ 0 by omega)
  have r1 := Int.emod_lt_of_pos t hN
  have d1 : t / (b * q) * (b * q) + t % (b * q) = t := by rw [Int.mul_comm]; exact Int.mul_ediv_add_emod t (b * q)
  have d2 : t % (b * q) / q * q + t % (b * q) % q = t % (b * q) := by rw [Int.mul_comm]; exact Int.mul_ediv_add_emod _ q
  have s0 := Int.emod_nonneg t (show q ≠ 0 by omega)
  have s1 := Int.emod_lt_of_pos t (show 0 < q by omega)
  have c10 : 0 ≤ t / (b * q) := Int.ediv_nonneg h0 (by omega)
  have c1t : t / (b * q) ≤ t := Int.ediv_le_self _ h0
  have c20 : 0 ≤ t % (b * q) / q := Int.ediv_nonneg r0 (by omega)
  have c21 : t % (b * q) / q < b := Int.ediv_lt_of_lt_mul (by omega) r1
  have p1 : 0 ≤ t / (b * q) * (b * q) := Int.mul_nonneg c10 (by omega)
  have p2 : 0 ≤ t % (b * q) / q * q := Int.mul_nonneg c20 (by omega)
  refine ⟨b * q, q, _, _, _, rfl, rfl, rfl, rfl, Int.mul_ediv_cancel_left q (by omega), m1, m2, k1, k2, k3, k4, c10, c20, s0, c21, s1, p1, ?_, p2, ?_, ?_, ?_, ?_⟩
  all_goals omega
theorem walk_FnBeatAt (w : World) (v : Value) (bs : List Int) (h : Rd w v 1 bs.length (byteCells bs)) (hb : ∀ x ∈ bs, 0 ≤ x ∧ x ≤ 255) :
    Calls Try.prog 5 #[v] w fun e w' => e = .returned (.bool true) ∧ Below w.heap.size w w' := by
  have h' := Lib.hid h
  obtain ⟨_, A, c, rfl, hnc, hcm, hA⟩ := h
  unfold maxLen at hcm
  clear hA
  by_cases hlen : bs.length ≤ 1048576
  · go_enter Try.func5, Try.ntmps5
    go_wp2_with fail
    (go_at_call 17; (with_reducible refine (c_DrawBeatAt _ bs _ h'.out hb).mono ?_); rintro e w1 ⟨⟨mb, mu⟩, t, rfl, ht, hb1⟩)
    have hz1 := hb1.size
    have HT := Lib.hid ht
    cases hv : beatOk ⟨mb, mu⟩ t
    · have e1 : beat1 ⟨mb, mu⟩ t = -1 := by simp [beat1, hv]
      have e2 : beat2 ⟨mb, mu⟩ t = -1 := by simp [beat2, hv]
      have e3 : beat3 ⟨mb, mu⟩ t = -1 := by simp [beat3, hv]
      go_wp2_with (first | (go_at_call 18; (with_reducible refine (c_BeatAt ⟨mb, mu⟩ t _ HT.out).mono ?_); rintro e wq ⟨rfl, hbq⟩; have hzq := hbq.size; (try simp only [size_alloc', size_setCell', size_drew', size_drewN'] at hzq); (try (refine keep_heap (b := w1.heap.size) hbq ?_ ?_; (first | omega | (simp only [size_alloc', size_setCell', size_drew', size_drewN']; omega)); intro hkq; simp only [heap_alloc_get, heap_setCell_get, heap_drew_get, heap_drewN_get, size_alloc', size_setCell', size_drew', size_drewN', nat_simp1, nat_simp2, nat_simp3, nat_simp4, nat_simp5, if_true, if_false, *] at hkq; obtain ⟨_, _⟩ := blk_facts hkq)); skip) | (go_at_call 19; (with_reducible refine (c_sBeatAt ⟨mb, mu⟩ t _ HT.out).mono ?_); rintro e wq ⟨rfl, hbq⟩; have hzq := hbq.size; (try simp only [size_alloc', size_setCell', size_drew', size_drewN'] at hzq); (try (refine keep_heap (b := w1.heap.size) hbq ?_ ?_; (first | omega | (simp only [size_alloc', size_setCell', size_drew', size_drewN']; omega)); intro hkq; simp only [heap_alloc_get, heap_setCell_get, heap_drew_get, heap_drewN_get, size_alloc', size_setCell', size_drew', size_drewN', nat_simp1, nat_simp2, nat_simp3, nat_simp4, nat_simp5, if_true, if_false, *] at hkq; obtain ⟨_, _⟩ := blk_facts hkq)); skip) | (go_at_call 12; (with_reducible refine (c_alive _).mono ?_); rintro e wq ⟨rfl, hbq⟩; have hzq := hbq.size; (try simp only [size_alloc', size_setCell', size_drew', size_drewN'] at hzq); (try (refine keep_heap (b := w1.heap.size) hbq ?_ ?_; (first | omega | (simp only [size_alloc', size_setCell', size_drew', size_drewN']; omega)); intro hkq; simp only [heap_alloc_get, heap_setCell_get, heap_drew_get, heap_drewN_get, size_alloc', size_setCell', size_drew', size_drewN', nat_simp1, nat_simp2, nat_simp3, nat_simp4, nat_simp5, if_true, if_false, *] at hkq; obtain ⟨_, _⟩ := blk_facts hkq)); skip))
      go_ret
      exact ⟨rfl, by (repeat' (first | (with_reducible exact Below.refl _ _) | (with_reducible refine Below.setCell ?_ ?_ _) | (with_reducible refine Below.alloc ?_ ?_ _) | (with_reducible refine Below.drew ?_) | (with_reducible refine below_drewN ?_ _) | (with_reducible refine Below.trans ?_ (Below.mono (by with_reducible assumption) ?_)) | omega | (simp only [size_alloc', size_setCell', size_drew', size_drewN'] at *; omega)))⟩
    · obtain ⟨n, q, c1, c2, c3, e0, e1, e2, e3, eq, b1, b2, n1, n2, q1, q2, f1, f2, f3, f4, f5, p1, p2, p3, p4, p5, p6, hE⟩ := beat_law hv ht
      have hE' : (c1 * n + c2 * q + c3 == t) = true := by simpa using hE
      unfold I64 at ht
      obtain ⟨t1, t2⟩ := ht
      have p7 : c1 * n + c2 * q + c3 ≤ 9223372036854775807 := by rw [hE]; exact t2
      have HE := Lib.hid hE
      clear hE
      go_wp2_with (first | (go_at_call 18; (with_reducible refine (c_BeatAt ⟨mb, mu⟩ t _ HT.out).mono ?_); rintro e wq ⟨rfl, hbq⟩; have hzq := hbq.size; (try simp only [size_alloc', size_setCell', size_drew', size_drewN'] at hzq); (try (refine keep_heap (b := w1.heap.size) hbq ?_ ?_; (first | omega | (simp only [size_alloc', size_setCell', size_drew', size_drewN']; omega)); intro hkq; simp only [heap_alloc_get, heap_setCell_get, heap_drew_get, heap_drewN_get, size_alloc', size_setCell', size_drew', size_drewN', nat_simp1, nat_simp2, nat_simp3, nat_simp4, nat_simp5, if_true, if_false, *] at hkq; obtain ⟨_, _⟩ := blk_facts hkq)); skip) | (go_at_call 19; (with_reducible refine (c_sBeatAt ⟨mb, mu⟩ t _ HT.out).mono ?_); rintro e wq ⟨rfl, hbq⟩; have hzq := hbq.size; (try simp only [size_alloc', size_setCell', size_drew', size_drewN'] at hzq); (try (refine keep_heap (b := w1.heap.size) hbq ?_ ?_; (first | omega | (simp only [size_alloc', size_setCell', size_drew', size_drewN']; omega)); intro hkq; simp only [heap_alloc_get, heap_setCell_get, heap_drew_get, heap_drewN_get, size_alloc', size_setCell', size_drew', size_drewN', nat_simp1, nat_simp2, nat_simp3, nat_simp4, nat_simp5, if_true, if_false, *] at hkq; obtain ⟨_, _⟩ := blk_facts hkq)); skip) | (go_at_call 20; (with_reducible refine (c_BarTicks ⟨mb, mu⟩ _).mono ?_); rintro e wq ⟨rfl, hbq⟩; have hzq := hbq.size; (try simp only [size_alloc', size_setCell', size_drew', size_drewN'] at hzq); (try (refine keep_heap (b := w1.heap.size) hbq ?_ ?_; (first | omega | (simp only [size_alloc', size_setCell', size_drew', size_drewN']; omega)); intro hkq; simp only [heap_alloc_get, heap_setCell_get, heap_drew_get, heap_drewN_get, size_alloc', size_setCell', size_drew', size_drewN', nat_simp1, nat_simp2, nat_simp3, nat_simp4, nat_simp5, if_true, if_false, *] at hkq; obtain ⟨_, _⟩ := blk_facts hkq)); skip))
      go_ret
      exact ⟨ret_bool (by first | rfl | simpa using HE.out), by (repeat' (first | (with_reducible exact Below.refl _ _) | (with_reducible refine Below.setCell ?_ ?_ _) | (with_reducible refine Below.alloc ?_ ?_ _) | (with_reducible refine Below.drew ?_) | (with_reducible refine below_drewN ?_ _) | (with_reducible refine Below.trans ?_ (Below.mono (by with_reducible assumption) ?_)) | omega | (simp only [size_alloc', size_setCell', size_drew', size_drewN'] at *; omega)))⟩
  · go_enter Try.func5, Try.ntmps5
    go_wp2_with fail
    go_ret
    exact ⟨rfl, Below.refl _ _⟩
end Go.Proofs.Ytlhekgjckjcbhaa
