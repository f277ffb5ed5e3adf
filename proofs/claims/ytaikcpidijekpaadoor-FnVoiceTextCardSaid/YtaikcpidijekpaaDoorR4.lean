/- Drawing a voice. Conditions: none. -/
import Derived.Test.YtaikcpidijekpaaDoorR1
import Derived.Test.YtaikcpidijekpaaDoorNQ
namespace Go.Proofs.YtaikcpidijekpaaDoor
open Go.RowKit
set_option linter.unusedSimpArgs false
set_option linter.unusedVariables false
set_option maxHeartbeats 8000000

def DrewNts (g m : Nat) (w : World) (e : Ending) (w' : World) : Prop :=
  ∃ v ns, e = .returned v ∧ w'.ownsRow w.heap.size 29 6 v (ns : List Nt).length (ntCells ns) ∧ ns.length ≤ 61 ∧ (∀ n ∈ ns, n.Small) ∧ Rdr w' g m ∧ w.grownBy w' (some g)
theorem own_set {W : World} {base e size g n cap m i : Nat} {xs : List Value} {u : Value} (h : W.ownsRow base e size (.slice (some ⟨g, 0, none⟩) n cap) m xs) : (W.setCell ⟨g, i, none⟩ u).ownsRow base e size (.slice (some ⟨g, 0, none⟩) n cap) m (xs.set i u) := by
  refine ⟨by rw [List.length_set]; exact h.1, ?_⟩
  rcases h.2 with ⟨hc, _⟩ | ⟨g2, cap2, cur, hv, hb, hg, h1, h2, hs, ht⟩
  · cases hc
  · cases hv
    refine .inr ⟨g, cap, cur.setIfInBounds i u, rfl, hb, ?_, h1, h2, by simpa using hs, ?_⟩
    · simp [heap_setCell_get, hg]
    · rw [Array.toList_setIfInBounds, List.take_set, ht]
theorem set_tie (l : List Nt) (n : Nt) (b : Bool) : (ntCells (l ++ [n])).set (l.length * 6 + 5) (.bool b) = ntCells (l ++ [{ n with tied := b }]) := by
  have hl : (ntCells l).length = l.length * 6 := cellsOf_len Nt.cells 6 Nt.cells_len l
  rw [nts_snoc, nts_snoc, List.set_append_right _ _ (by omega), hl]
  congr 1
  rw [show l.length * 6 + 5 - l.length * 6 = 5 by omega]
  rfl
theorem frozen_own {W : World} {base e size g n cap m : Nat} {xs : List Value} (h : W.ownsRow base e size (.slice (some ⟨g, 0, none⟩) n cap) m xs) : ∀ o, W.frozen? ⟨g, o, none⟩ = false := by
  rcases h.2 with ⟨hc, _⟩ | ⟨g2, cap2, cur, hv, _, hg, _⟩
  · cases hc
  · cases hv
    exact (blk_facts hg).2
theorem nts_last (l : List Nt) (n : Nt) {W : World} {g : Nat} (h : ∀ j u, (ntCells (l ++ [n]))[j]? = some u → W.cell? ⟨g, 0 + j, none⟩ = some u) :
    W.cell? ⟨g, l.length * 6, none⟩ = some (.bool n.rest) ∧ W.cell? ⟨g, l.length * 6 + 1, none⟩ = some (.int .i64 n.tone.step) ∧ W.cell? ⟨g, l.length * 6 + 2, none⟩ = some (.int .i64 n.tone.alter) ∧
    W.cell? ⟨g, l.length * 6 + 3, none⟩ = some (.int .i64 n.tone.octave) ∧ W.cell? ⟨g, l.length * 6 + 4, none⟩ = some (.int .i64 n.ticks) ∧ W.cell? ⟨g, l.length * 6 + 5, none⟩ = some (.bool n.tied) := by
  have hk : l.length < (l ++ [n]).length := by simp
  have := nt_at h l.length hk
  simpa using this
theorem rdr_app {W W' : World} {g gv m : Nat} (h : Rdr W g m) (hk : W.grownBy W' (some gv)) (hg : g < gv) : Rdr W' g m :=
  h.keep fun k hk' => hk.block k (Nat.lt_of_le_of_lt hk' h.lt) (by intro hh; cases hh; omega)
theorem kp_app {a W W' : World} {g gv : Nat} (ha : a.grownBy W (some g)) (hk : W.grownBy W' (some gv)) (hg : a.heap.size ≤ gv) : a.grownBy W' (some g) :=
  ⟨hk.os.trans ha.os, hk.tape.trans ha.tape, hk.output.trans ha.output, Nat.le_trans ha.size hk.size, fun i hi hne =>
    (hk.block i (Nat.lt_of_lt_of_le hi ha.size) (by intro hh; cases hh; omega)).trans (ha.block i hi hne)⟩
theorem small_snoc {l : List Nt} {n : Nt} (h : ∀ a ∈ l, a.Small) (hn : n.Small) : ∀ a ∈ l ++ [n], a.Small := by
  intro a ha
  rcases List.mem_append.1 ha with h1 | h1
  · exact h a h1
  · simp at h1; subst h1; exact hn
theorem pick_own {W W' : World} {base e size n g : Nat} {v : Value} {xs : List Value} (h : W.ownsRow base e size v n xs) (hk : W.grownBy W' (some g)) (hg : g < base) : W'.ownsRow base e size v n xs :=
  h.kept hk (by
    cases hv : v.ownBlock with
    | none => exact .inl rfl
    | some k =>
      right
      intro hk
      cases hk
      have := (h.lt g hv).1
      omega)
def lenOf : Value → Nat | .slice _ n _ => n | _ => 0
theorem small12 : Nt.Small ⟨false, ⟨0, 0, 0⟩, 12, true⟩ := by unfold Nt.Small Pit.Small Sml; dsimp only; omega
theorem small12' : Nt.Small ⟨true, ⟨0, 0, 0⟩, 12, false⟩ := by unfold Nt.Small Pit.Small Sml; dsimp only; omega
theorem nil_or_snoc (ns : List Nt) : ns = [] ∨ ∃ l n, ns = l ++ [n] := by
  rcases List.eq_nil_or_concat ns with h | ⟨l, n, h⟩
  · exact .inl h
  · exact .inr ⟨l, n, by rw [h, List.concat_eq_append]⟩
theorem c_l20Voice (g m : Nat) (n : Int) (w : World) (h : Rdr w g (m + 200)) (hn : n ≤ 1000000) (hn' : -1000000 ≤ n) :
    Calls Tryd.prog 53 #[.pointer (some ⟨g, 0, none⟩), .int .i64 n] w (DrewNts g m w) := by
  have hg := h.lt
  have HO0 := Lib.hid (own_new w 29 6)
  go_enter Tryd.func53, Tryd.ntmps53
  go_wp2_with fail
  (go_at_call 40; (with_reducible refine (c_pick g (m+199) _ _ ?_ (by omega) (by omega)).mono ?_); (focus (repeat' (first | (with_reducible assumption) | (with_reducible refine Rdr.alloc ?_ _) | (with_reducible refine Rdr.setCell ?_ ?_ _) | (with_reducible refine Rdr.drewN ?_ _) | (with_reducible refine Rdr.drew ?_) | (show _ < _; first | omega | (simp only [size_alloc', size_setCell', size_drew', size_drewN'] at *; omega))))); rintro e w1 ⟨x1, rfl, hx1, hy1, hz1, hrq, hgq⟩; have hsq := hgq.size; (try simp only [size_alloc', size_setCell', size_drew', size_drewN'] at hsq); skip)
  have hx1' := hy1 (by omega)
  clear hy1
  have HO1 := Lib.hid (pick_own HO0.out hgq hg)
  have hK1 : w.grownBy w1 (some g) := by (repeat' (first | (with_reducible exact World.grownBy.refl _ _) | (with_reducible refine kp_setCell ?_ ?_ _) | (with_reducible refine kp_alloc ?_ _) | (with_reducible refine kp_drew ?_) | (with_reducible refine kp_drewN ?_ _) | (with_reducible refine kp_trans ?_ (by with_reducible assumption)) | (show _ ∨ _; first | (left; omega) | (right; omega) | (right; simp only [size_alloc', size_setCell', size_drew', size_drewN'] at *; omega)) | (with_reducible refine kp_below ?_ (by with_reducible assumption))))
  have hz1 := hK1.size
  obtain ⟨k1, hk1⟩ := Int.eq_ofNat_of_zero_le hx1
  subst hk1
  have HR1 := Lib.hid hrq
  have HK1 := Lib.hid hK1
  clear hrq hK1 hgq h
  go_wp2_with fail
  go_loopw [5, 6] (fun s5 s6 wr => ∃ (j gv cap k : Nat) (ns : List Nt), j ≤ 8 ∧ s6 = .int .i64 j ∧ k + j ≤ 8 ∧ s5 = .slice (some ⟨gv, 0, none⟩) k cap ∧ ns.length = k ∧ (∀ n ∈ ns, n.Small) ∧ wr.ownsRow w.heap.size 29 6 (.slice (some ⟨gv, 0, none⟩) k cap) k (ntCells ns) ∧
    Rdr wr g (m + 39 + 20 * j) ∧ w.grownBy wr (some g)) (fun _ s6 _ => (intOf s6).toNat)
  case atStart => exact ⟨k1, _, _, 0, [], by omega, rfl, by omega, rfl, rfl, by simp, HO1.out, by have := HR1.out; exact this.mono (by omega), HK1.out⟩
  case round =>
    obtain ⟨j, gv, cap, k, ns, hj, rfl, hkj, rfl, hlen, hsm, hown, hrd, hgk⟩ := hrel
    have hz := hgk.size
    have hgb := (hown.lt gv rfl).1
    have hgw := (hown.lt gv rfl).2
    have HSM := Lib.hid hsm
    have HOW := Lib.hid hown
    have HGK := Lib.hid hgk
    have HLN := Lib.hid hlen
    clear hsm hown hlen
    by_cases hj0 : 0 < j
    · obtain ⟨i, rfl⟩ : ∃ i, j = i + 1 := ⟨j - 1, by omega⟩
      have hrd' : Rdr wr g ((m + 41 + 20 * i) + 18) := hrd.mono (by omega)
      clear hrd
      go_wp2_with fail
      (go_at_call 39; (with_reducible refine (c_l20Note g (m+41+20*i) 0 _ ?_ (by omega) (by omega)).mono ?_); (focus (repeat' (first | (with_reducible assumption) | (with_reducible refine Rdr.alloc ?_ _) | (with_reducible refine Rdr.setCell ?_ ?_ _) | (with_reducible refine Rdr.drewN ?_ _) | (with_reducible refine Rdr.drew ?_) | (show _ < _; first | omega | (simp only [size_alloc', size_setCell', size_drew', size_drewN'] at *; omega))))); rintro e w2 ⟨⟨nr, ⟨na, nb, nc⟩, nt, nd⟩, rfl, hns2, hrq, hgq⟩; have hsq := hgq.size; (try simp only [size_alloc', size_setCell', size_drew', size_drewN'] at hsq); skip)
      have HO2 := Lib.hid (pick_own HOW.out hgq hg)
      have HK2 := Lib.hid (kp_trans hgk hgq)
      have HS2 := Lib.hid hns2
      clear hns2
      rcases nil_or_snoc ns with rfl | ⟨l, ⟨lr, ⟨la, lb, lc⟩, lt, ld⟩, rfl⟩
      · obtain rfl : k = 0 := by simpa using HLN.out.symm
        have HRa := Lib.hid (hrq.alloc (.cells #[.bool nr, .int .i64 na, .int .i64 nb, .int .i64 nc, .int .i64 nt, .bool nd] 29))
        have HKa := Lib.hid (kp_alloc HK2.out (.cells #[.bool nr, .int .i64 na, .int .i64 nb, .int .i64 nc, .int .i64 nt, .bool nd] 29))
        have HOa := Lib.hid (HO2.out.alloc (.cells #[.bool nr, .int .i64 na, .int .i64 nb, .int .i64 nc, .int .i64 nt, .bool nd] 29))
        clear hrq hgq hgk
        have HC := Lib.hid (show ∀ j u, (Nt.cells ⟨nr, ⟨na, nb, nc⟩, nt, nd⟩)[j]? = some u → ((w2.alloc (.cells #[.bool nr, .int .i64 na, .int .i64 nb, .int .i64 nc, .int .i64 nt, .bool nd] 29)).alloc (.cells #[.bool nr, .int .i64 na, .int .i64 nb, .int .i64 nc, .int .i64 nt, .bool nd] 29)).cell? ⟨w2.heap.size + 1, 0 + j, none⟩ = some u by
          have := cells_newL (w2.alloc (.cells #[.bool nr, .int .i64 na, .int .i64 nb, .int .i64 nc, .int .i64 nt, .bool nd] 29)) #[.bool nr, .int .i64 na, .int .i64 nb, .int .i64 nc, .int .i64 nt, .bool nd] 29
          try simp only [size_alloc', size_setCell'] at this
          exact this)
        go_wp2_with (at_builtin; refine wp_appl (by rfl) (.tmp 50) (.tmp 52) 45 29 rfl _ 6 48 Tryd.underlying45 info_nt rfl (by decide) (by decide) w.heap.size gv cap (0) _ rfl (HOa.out.alloc _) (w2.heap.size + 1) 0 1 1 (Nt.cells ⟨nr, ⟨na, nb, nc⟩, nt, nd⟩) rfl rfl HC.out (nt_one _) (by omega) ?c2 ?_)
        case c2 => simp only [size_alloc', size_setCell']; omega
        intro g5 cap5 w5 hown5 hgr5 hat5 hlt5
        have HO5 := Lib.hid (show w5.ownsRow w.heap.size 29 6 (.slice (some ⟨g5, 0, none⟩) (0 + 1) cap5) (0 + 1) (ntCells (([] : List Nt) ++ [⟨nr, ⟨na, nb, nc⟩, nt, nd⟩])) by rw [nts_snoc]; exact hown5)
        have HR5 := Lib.hid (rdr_app (HRa.out.alloc _) hgr5 (by omega))
        have HK5 := Lib.hid (kp_app (kp_alloc HKa.out _) hgr5 (by omega))
        clear hown5 hgr5 hat5
        go_wp2_with fail
        go_roundw
        case rel => exact ⟨i, g5, cap5, 0 + 1, ([] : List Nt) ++ [⟨nr, ⟨na, nb, nc⟩, nt, nd⟩], by omega, by go_num, by omega, rfl, by simp, small_snoc (by exact HSM.out) HS2.out, HO5.out, HR5.out.mono (by omega), HK5.out⟩
        case measure => simp [intOf]
      · obtain rfl : k = l.length + 1 := by simpa using HLN.out.symm
        have HRa := Lib.hid (hrq.alloc (.cells #[.bool nr, .int .i64 na, .int .i64 nb, .int .i64 nc, .int .i64 nt, .bool nd] 29))
        have HKa := Lib.hid (kp_alloc HK2.out (.cells #[.bool nr, .int .i64 na, .int .i64 nb, .int .i64 nc, .int .i64 nt, .bool nd] 29))
        have HOa := Lib.hid (HO2.out.alloc (.cells #[.bool nr, .int .i64 na, .int .i64 nb, .int .i64 nc, .int .i64 nt, .bool nd] 29))
        obtain ⟨c0, c1, c2, c3, c4, c5⟩ := nts_last l _ (own_cells HOa.out)
        have hfa := frozen_own HOa.out
        have hgb2 : gv < w2.heap.size := by have := hgq.size; omega
        have hl8 : l.length ≤ 8 := by omega
        dsimp only at c0 c1 c2 c3 c4 c5
        clear hgk
        cases lr
        · have hrd3 : Rdr (w2.alloc (.cells #[.bool nr, .int .i64 na, .int .i64 nb, .int .i64 nc, .int .i64 nt, .bool nd] 29)) g ((m + 40 + 20 * i) + 1) := HRa.out.mono (by omega)
          clear hrq
          go_wp2_with fail
          (go_at_call 40; (with_reducible refine (c_pick g (m+40+20*i) _ _ ?_ (by omega) (by omega)).mono ?_); (focus (repeat' (first | (with_reducible assumption) | (with_reducible refine Rdr.alloc ?_ _) | (with_reducible refine Rdr.setCell ?_ ?_ _) | (with_reducible refine Rdr.drewN ?_ _) | (with_reducible refine Rdr.drew ?_) | (show _ < _; first | omega | (simp only [size_alloc', size_setCell', size_drew', size_drewN'] at *; omega))))); rintro e w3 ⟨x3, rfl, hx3, hy3, hz3, hrq, hgq⟩; have hsq := hgq.size; (try simp only [size_alloc', size_setCell', size_drew', size_drewN'] at hsq); (try (refine keep_heap_g (b := w2.heap.size) hgq ?_ ?_ ?_; (first | omega | (simp only [size_alloc', size_setCell', size_drew', size_drewN']; omega)); omega; intro hkq; simp only [heap_alloc_get, heap_setCell_get, heap_drew_get, heap_drewN_get, size_alloc', size_setCell', size_drew', size_drewN', nat_simp1, nat_simp2, nat_simp3, nat_simp4, nat_simp5, if_true, if_false, Option.map_some, *] at hkq; obtain ⟨_, _⟩ := blk_facts hkq)); (try (refine ne_cps (a := w2.heap.size) (b := w3.heap.size) ?_ ?_; omega; intro _ _)); (try (refine ne_cps (a := w2.heap.size) (b := w3.heap.size + 1) ?_ ?_; omega; intro _ _)); (try (refine ne_cps (a := w2.heap.size) (b := w3.heap.size + 1 + 1) ?_ ?_; omega; intro _ _)); skip)
          have hx3' := hy3 (by omega)
          clear hy3 hrd3
          have HO3 := Lib.hid (pick_own HOa.out hgq hg)
          have HK3 := Lib.hid (kp_trans HKa.out hgq)
          have HR3 := Lib.hid hrq
          clear hfa c0 c1 c2 c3 c4 c5
          by_cases hx0 : x3 = 0
          · subst hx0
            have hB3 : w3.heap[w2.heap.size]? = some (.cells #[.bool nr, .int .i64 na, .int .i64 nb, .int .i64 nc, .int .i64 nt, .bool nd] 29 (0, 0)) := by assumption
            obtain ⟨c0, c1, c2, c3, c4, c5⟩ := nts_last l _ (own_cells HO3.out)
            have hfa := frozen_own HO3.out
            have hng1 : (gv = w2.heap.size) = False := eq_false (by omega)
            have hng2 : (w2.heap.size = gv) = False := eq_false (by omega)
            dsimp only at c0 c1 c2 c3 c4 c5
            have hrd4 : Rdr w3 g ((m + 39 + 20 * i) + 1) := HR3.out.mono (by omega)
            go_wp2_with fail
            (go_at_call 40; (with_reducible refine (c_pick g (m+39+20*i) _ _ ?_ (by omega) (by omega)).mono ?_); (focus (repeat' (first | (with_reducible assumption) | (with_reducible refine Rdr.alloc ?_ _) | (with_reducible refine Rdr.setCell ?_ ?_ _) | (with_reducible refine Rdr.drewN ?_ _) | (with_reducible refine Rdr.drew ?_) | (show _ < _; first | omega | (simp only [size_alloc', size_setCell', size_drew', size_drewN'] at *; omega))))); rintro e w4 ⟨x4, rfl, hx4, hy4, hz4, hrq, hgq⟩; have hsq := hgq.size; (try simp only [size_alloc', size_setCell', size_drew', size_drewN'] at hsq); (try (refine keep_heap_g (b := w2.heap.size) hgq ?_ ?_ ?_; (first | omega | (simp only [size_alloc', size_setCell', size_drew', size_drewN']; omega)); omega; intro hkq; simp only [heap_alloc_get, heap_setCell_get, heap_drew_get, heap_drewN_get, size_alloc', size_setCell', size_drew', size_drewN', nat_simp1, nat_simp2, nat_simp3, nat_simp4, nat_simp5, if_true, if_false, Option.map_some, *] at hkq; obtain ⟨_, _⟩ := blk_facts hkq)); (try (refine ne_cps (a := w2.heap.size) (b := w4.heap.size) ?_ ?_; omega; intro _ _)); (try (refine ne_cps (a := w2.heap.size) (b := w4.heap.size + 1) ?_ ?_; omega; intro _ _)); (try (refine ne_cps (a := w2.heap.size) (b := w4.heap.size + 1 + 1) ?_ ?_; omega; intro _ _)); skip)
            have hx4' := hy4 (by omega)
            have HO4 := Lib.hid (pick_own (own_setN (own_setN (own_setN (own_setN HO3.out (a := ⟨w2.heap.size, 0, none⟩) (by show w2.heap.size ≠ gv; omega) (.bool false)) (a := ⟨w2.heap.size, 1, none⟩) (by show w2.heap.size ≠ gv; omega) (.int .i64 la)) (a := ⟨w2.heap.size, 2, none⟩) (by show w2.heap.size ≠ gv; omega) (.int .i64 lb)) (a := ⟨w2.heap.size, 3, none⟩) (by show w2.heap.size ≠ gv; omega) (.int .i64 lc)) hgq hg)
            have hzw4 := hgq.size
            simp only [size_setCell'] at hzw4
            have HK4 := Lib.hid (show w.grownBy w4 (some g) from kp_trans (kp_setCell (kp_setCell (kp_setCell (kp_setCell HK3.out (p := ⟨w2.heap.size, 0, none⟩) (.inr (by show w.heap.size ≤ w2.heap.size; omega)) _) (p := ⟨w2.heap.size, 1, none⟩) (.inr (by show w.heap.size ≤ w2.heap.size; omega)) _) (p := ⟨w2.heap.size, 2, none⟩) (.inr (by show w.heap.size ≤ w2.heap.size; omega)) _) (p := ⟨w2.heap.size, 3, none⟩) (.inr (by show w.heap.size ≤ w2.heap.size; omega)) _) hgq)
            have HR4 := Lib.hid hrq
            have hgv4 : gv < w4.heap.size := by omega
            have HNS := Lib.hid (show Nt.Small ⟨false, ⟨la, lb, lc⟩, nt, nd⟩ from ⟨(HSM.out ⟨false, ⟨la, lb, lc⟩, lt, ld⟩ (by simp)).1, HS2.out.2⟩)
            have HLS := Lib.hid (show ∀ b : Bool, ∀ n ∈ l ++ [⟨false, ⟨la, lb, lc⟩, lt, b⟩], n.Small from fun b => small_snoc (fun n hn => HSM.out n (by simp [hn])) (HSM.out ⟨false, ⟨la, lb, lc⟩, lt, ld⟩ (by simp)))
            obtain ⟨d0, d1, d2, d3, d4, d5⟩ := nts_last l _ (own_cells HO4.out)
            have hfa4 := frozen_own HO4.out
            dsimp only at d0 d1 d2 d3 d4 d5
            clear hrd4 c0 c1 c2 c3 c4 c5 hfa
            have HOT := Lib.hid (fun b : Bool => show (w4.setCell ⟨gv, l.length * 6 + 5, none⟩ (.bool b)).ownsRow w.heap.size 29 6 (.slice (some ⟨gv, 0, none⟩) (l.length + 1) cap) (l.length + 1) (ntCells (l ++ [⟨false, ⟨la, lb, lc⟩, lt, b⟩])) by
              have := own_set (i := l.length * 6 + 5) (u := .bool b) HO4.out
              rwa [set_tie] at this)
            have HOb := Lib.hid (HOT.out (decide (0 < x4)))
            have HRb := Lib.hid (HR4.out.setCell (p := ⟨gv, l.length * 6 + 5, none⟩) (by show g < gv; omega) (.bool (decide (0 < x4))))
            have HKb := Lib.hid (kp_setCell HK4.out (p := ⟨gv, l.length * 6 + 5, none⟩) (.inr (by show w.heap.size ≤ gv; omega)) (.bool (decide (0 < x4))))
            have HC := Lib.hid (show ∀ j u, (Nt.cells ⟨false, ⟨la, lb, lc⟩, nt, nd⟩)[j]? = some u → ((w4.setCell ⟨gv, l.length * 6 + 5, none⟩ (.bool (decide (0 < x4)))).alloc (.cells #[.bool false, .int .i64 la, .int .i64 lb, .int .i64 lc, .int .i64 nt, .bool nd] 29)).cell? ⟨w4.heap.size, 0 + j, none⟩ = some u by
              have := cells_newL (w4.setCell ⟨gv, l.length * 6 + 5, none⟩ (.bool (decide (0 < x4)))) #[.bool false, .int .i64 la, .int .i64 lb, .int .i64 lc, .int .i64 nt, .bool nd] 29
              try simp only [size_alloc', size_setCell'] at this
              exact this)
            go_wp2_with (at_builtin; refine wp_appl (by rfl) (.tmp 50) (.tmp 52) 45 29 rfl _ 6 48 Tryd.underlying45 info_nt rfl (by decide) (by decide) w.heap.size gv cap ((l.length + 1)) _ rfl (HOb.out.alloc _) (w4.heap.size) 0 1 1 (Nt.cells ⟨false, ⟨la, lb, lc⟩, nt, nd⟩) rfl rfl HC.out (nt_one _) (by omega) ?c2 ?_)
            case c2 => simp only [size_alloc', size_setCell']; omega
            intro g5 cap5 w5 hown5 hgr5 hat5 hlt5
            have HO5 := Lib.hid (show w5.ownsRow w.heap.size 29 6 (.slice (some ⟨g5, 0, none⟩) ((l.length + 1) + 1) cap5) ((l.length + 1) + 1) (ntCells ((l ++ [⟨false, ⟨la, lb, lc⟩, lt, decide (0 < x4)⟩]) ++ [⟨false, ⟨la, lb, lc⟩, nt, nd⟩])) by rw [nts_snoc]; exact hown5)
            have HR5 := Lib.hid (rdr_app (HRb.out.alloc _) hgr5 (by omega))
            have HK5 := Lib.hid (kp_app (kp_alloc HKb.out _) hgr5 (by omega))
            clear hown5 hgr5 hat5
            go_wp2_with fail
            go_roundw
            case rel => exact ⟨i, g5, cap5, (l.length + 1) + 1, (l ++ [⟨false, ⟨la, lb, lc⟩, lt, decide (0 < x4)⟩]) ++ [⟨false, ⟨la, lb, lc⟩, nt, nd⟩], by omega, by go_num, by omega, rfl, by simp, small_snoc (by exact (HLS.out (decide (0 < x4)))) HNS.out, HO5.out, HR5.out.mono (by omega), HK5.out⟩
            case measure => simp [intOf]
          · have HC := Lib.hid (show ∀ j u, (Nt.cells ⟨nr, ⟨na, nb, nc⟩, nt, nd⟩)[j]? = some u → ((w3).alloc (.cells #[.bool nr, .int .i64 na, .int .i64 nb, .int .i64 nc, .int .i64 nt, .bool nd] 29)).cell? ⟨w3.heap.size, 0 + j, none⟩ = some u by
              have := cells_newL (w3) #[.bool nr, .int .i64 na, .int .i64 nb, .int .i64 nc, .int .i64 nt, .bool nd] 29
              try simp only [size_alloc', size_setCell'] at this
              exact this)
            go_wp2_with (at_builtin; refine wp_appl (by rfl) (.tmp 50) (.tmp 52) 45 29 rfl _ 6 48 Tryd.underlying45 info_nt rfl (by decide) (by decide) w.heap.size gv cap ((l.length + 1)) _ rfl (HO3.out.alloc _) (w3.heap.size) 0 1 1 (Nt.cells ⟨nr, ⟨na, nb, nc⟩, nt, nd⟩) rfl rfl HC.out (nt_one _) (by omega) ?c2 ?_)
            case c2 => simp only [size_alloc', size_setCell']; omega
            intro g5 cap5 w5 hown5 hgr5 hat5 hlt5
            have HO5 := Lib.hid (show w5.ownsRow w.heap.size 29 6 (.slice (some ⟨g5, 0, none⟩) ((l.length + 1) + 1) cap5) ((l.length + 1) + 1) (ntCells ((l ++ [⟨false, ⟨la, lb, lc⟩, lt, ld⟩]) ++ [⟨nr, ⟨na, nb, nc⟩, nt, nd⟩])) by rw [nts_snoc]; exact hown5)
            have HR5 := Lib.hid (rdr_app (HR3.out.alloc _) hgr5 (by omega))
            have HK5 := Lib.hid (kp_app (kp_alloc HK3.out _) hgr5 (by omega))
            clear hown5 hgr5 hat5
            go_wp2_with fail
            go_roundw
            case rel => exact ⟨i, g5, cap5, (l.length + 1) + 1, (l ++ [⟨false, ⟨la, lb, lc⟩, lt, ld⟩]) ++ [⟨nr, ⟨na, nb, nc⟩, nt, nd⟩], by omega, by go_num, by omega, rfl, by simp, small_snoc (by exact HSM.out) HS2.out, HO5.out, HR5.out.mono (by omega), HK5.out⟩
            case measure => simp [intOf]
        · clear hrq hgq
          have HC := Lib.hid (show ∀ j u, (Nt.cells ⟨nr, ⟨na, nb, nc⟩, nt, nd⟩)[j]? = some u → ((w2.alloc (.cells #[.bool nr, .int .i64 na, .int .i64 nb, .int .i64 nc, .int .i64 nt, .bool nd] 29)).alloc (.cells #[.bool nr, .int .i64 na, .int .i64 nb, .int .i64 nc, .int .i64 nt, .bool nd] 29)).cell? ⟨w2.heap.size + 1, 0 + j, none⟩ = some u by
            have := cells_newL (w2.alloc (.cells #[.bool nr, .int .i64 na, .int .i64 nb, .int .i64 nc, .int .i64 nt, .bool nd] 29)) #[.bool nr, .int .i64 na, .int .i64 nb, .int .i64 nc, .int .i64 nt, .bool nd] 29
            try simp only [size_alloc', size_setCell'] at this
            exact this)
          go_wp2_with (at_builtin; refine wp_appl (by rfl) (.tmp 50) (.tmp 52) 45 29 rfl _ 6 48 Tryd.underlying45 info_nt rfl (by decide) (by decide) w.heap.size gv cap ((l.length + 1)) _ rfl (HOa.out.alloc _) (w2.heap.size + 1) 0 1 1 (Nt.cells ⟨nr, ⟨na, nb, nc⟩, nt, nd⟩) rfl rfl HC.out (nt_one _) (by omega) ?c2 ?_)
          case c2 => simp only [size_alloc', size_setCell']; omega
          intro g5 cap5 w5 hown5 hgr5 hat5 hlt5
          have HO5 := Lib.hid (show w5.ownsRow w.heap.size 29 6 (.slice (some ⟨g5, 0, none⟩) ((l.length + 1) + 1) cap5) ((l.length + 1) + 1) (ntCells ((l ++ [⟨true, ⟨la, lb, lc⟩, lt, ld⟩]) ++ [⟨nr, ⟨na, nb, nc⟩, nt, nd⟩])) by rw [nts_snoc]; exact hown5)
          have HR5 := Lib.hid (rdr_app (HRa.out.alloc _) hgr5 (by omega))
          have HK5 := Lib.hid (kp_app (kp_alloc HKa.out _) hgr5 (by omega))
          clear hown5 hgr5 hat5
          go_wp2_with fail
          go_roundw
          case rel => exact ⟨i, g5, cap5, (l.length + 1) + 1, (l ++ [⟨true, ⟨la, lb, lc⟩, lt, ld⟩]) ++ [⟨nr, ⟨na, nb, nc⟩, nt, nd⟩], by omega, by go_num, by omega, rfl, by simp, small_snoc (by exact HSM.out) HS2.out, HO5.out, HR5.out.mono (by omega), HK5.out⟩
          case measure => simp [intOf]
    · have hrd' : Rdr wr g ((m + 38) + 1) := hrd.mono (by omega)
      clear hrd
      have hk9 : k ≤ 8 := by omega
      go_wp2_with fail
      (go_at_call 50; (with_reducible refine (c_odd g (m+38) _ _ ?_ hn hn').mono ?_); (focus (repeat' (first | (with_reducible assumption) | (with_reducible refine Rdr.alloc ?_ _) | (with_reducible refine Rdr.setCell ?_ ?_ _) | (with_reducible refine Rdr.drewN ?_ _) | (with_reducible refine Rdr.drew ?_) | (show _ < _; first | omega | (simp only [size_alloc', size_setCell', size_drew', size_drewN'] at *; omega))))); rintro e w2 ⟨b2, rfl, hrq, hgq⟩; have hsq := hgq.size; (try simp only [size_alloc', size_setCell', size_drew', size_drewN'] at hsq); skip)
      have HO2 := Lib.hid (pick_own HOW.out hgq hg)
      have HK2 := Lib.hid (kp_trans hgk hgq)
      cases b2
      · go_wp2
        go_ret
        exact ⟨.slice (some ⟨gv, 0, none⟩) k cap, ns, rfl, own_lenA HO2.out HLN.out.symm, by rw [HLN.out]; omega, HSM.out, hrq.mono (by omega), HK2.out⟩
      · go_wp2_with fail
        (go_at_call 40; (with_reducible refine (c_pick g (m+37) _ _ ?_ (by omega) (by omega)).mono ?_); (focus (repeat' (first | (with_reducible assumption) | (with_reducible refine Rdr.alloc ?_ _) | (with_reducible refine Rdr.setCell ?_ ?_ _) | (with_reducible refine Rdr.drewN ?_ _) | (with_reducible refine Rdr.drew ?_) | (show _ < _; first | omega | (simp only [size_alloc', size_setCell', size_drew', size_drewN'] at *; omega))))); rintro e w3 ⟨x3, rfl, hx3, hy3, hz3, hrq, hgq⟩; have hsq := hgq.size; (try simp only [size_alloc', size_setCell', size_drew', size_drewN'] at hsq); skip)
        have HO3 := Lib.hid (pick_own HO2.out hgq hg)
        have HK3 := Lib.hid (kp_trans HK2.out hgq)
        have hx3' := hy3 (by omega)
        clear hy3
        have h3 : x3 = 0 ∨ x3 = 1 ∨ x3 = 2 := by omega
        rcases h3 with rfl | rfl | rfl
        · have hrd3 : Rdr w3 g ((m + 19) + 18) := hrq.mono (by omega)
          clear hrq
          go_wp2_with fail
          (go_at_call 39; (with_reducible refine (c_l20Note g (m+19) 1 _ ?_ (by omega) (by omega)).mono ?_); (focus (repeat' (first | (with_reducible assumption) | (with_reducible refine Rdr.alloc ?_ _) | (with_reducible refine Rdr.setCell ?_ ?_ _) | (with_reducible refine Rdr.drewN ?_ _) | (with_reducible refine Rdr.drew ?_) | (show _ < _; first | omega | (simp only [size_alloc', size_setCell', size_drew', size_drewN'] at *; omega))))); rintro e w4 ⟨⟨nr, ⟨na, nb, nc⟩, nt, nd⟩, rfl, hns4, hrq, hgq⟩; have hsq := hgq.size; (try simp only [size_alloc', size_setCell', size_drew', size_drewN'] at hsq); skip)
          have HO4 := Lib.hid (pick_own HO3.out hgq hg)
          have HK4 := Lib.hid (kp_trans HK3.out hgq)
          have HR4 := Lib.hid hrq
          have HS4 := Lib.hid hns4
          have hgv4 : gv < w4.heap.size := (HO4.out.lt gv rfl).2
          have hz4 := HK4.out.size
          clear hns4 hrq hgq
          have HC := Lib.hid (show ∀ j u, (Nt.cells ⟨nr, ⟨na, nb, nc⟩, nt, nd⟩)[j]? = some u → ((w4).alloc (.cells #[.bool nr, .int .i64 na, .int .i64 nb, .int .i64 nc, .int .i64 nt, .bool nd] 29)).cell? ⟨w4.heap.size, 0 + j, none⟩ = some u by
            have := cells_newL (w4) #[.bool nr, .int .i64 na, .int .i64 nb, .int .i64 nc, .int .i64 nt, .bool nd] 29
            try simp only [size_alloc', size_setCell'] at this
            exact this)
          go_wp2_with (at_builtin; refine wp_appl (by rfl) (.tmp 68) (.tmp 71) 45 29 rfl _ 6 48 Tryd.underlying45 info_nt rfl (by decide) (by decide) w.heap.size gv cap (k) _ rfl (HO4.out.alloc _) (w4.heap.size) 0 1 1 (Nt.cells ⟨nr, ⟨na, nb, nc⟩, nt, nd⟩) rfl rfl HC.out (nt_one _) (by omega) ?c2 ?_)
          case c2 => simp only [size_alloc', size_setCell']; omega
          intro g5 cap5 w5 hown5 hgr5 hat5 hlt5
          have HO5 := Lib.hid (show w5.ownsRow w.heap.size 29 6 (.slice (some ⟨g5, 0, none⟩) (k + 1) cap5) (k + 1) (ntCells (ns ++ [⟨nr, ⟨na, nb, nc⟩, nt, nd⟩])) by rw [nts_snoc]; exact hown5)
          have HR5 := Lib.hid (rdr_app (HR4.out.alloc _) hgr5 (by omega))
          have HK5 := Lib.hid (kp_app (kp_alloc HK4.out _) hgr5 (by omega))
          clear hown5 hgr5 hat5
          go_wp2
          go_ret
          exact ⟨.slice (some ⟨g5, 0, none⟩) (k + 1) cap5, ns ++ [⟨nr, ⟨na, nb, nc⟩, nt, nd⟩], rfl, own_lenA HO5.out (by simp [HLN.out]), by simp [HLN.out]; omega, small_snoc HSM.out HS4.out, HR5.out.mono (by omega), HK5.out⟩
        · have HR3 := Lib.hid hrq
          have hgv4 : gv < w3.heap.size := (HO3.out.lt gv rfl).2
          have hz4 := HK3.out.size
          clear hrq hgq
          have HC := Lib.hid (show ∀ j u, (Nt.cells ⟨false, ⟨0, 0, 0⟩, 12, true⟩)[j]? = some u → ((w3).alloc (.cells #[.bool false, .int .i64 0, .int .i64 0, .int .i64 0, .int .i64 12, .bool true] 29)).cell? ⟨w3.heap.size, 0 + j, none⟩ = some u by
            have := cells_newL (w3) #[.bool false, .int .i64 0, .int .i64 0, .int .i64 0, .int .i64 12, .bool true] 29
            try simp only [size_alloc', size_setCell'] at this
            exact this)
          go_wp2_with (at_builtin; refine wp_appl (by rfl) (.tmp 75) (.tmp 77) 45 29 rfl _ 6 48 Tryd.underlying45 info_nt rfl (by decide) (by decide) w.heap.size gv cap (k) _ rfl (HO3.out.alloc _) (w3.heap.size) 0 1 1 (Nt.cells ⟨false, ⟨0, 0, 0⟩, 12, true⟩) rfl rfl HC.out (nt_one _) (by omega) ?c2 ?_)
          case c2 => simp only [size_alloc', size_setCell']; omega
          intro g5 cap5 w5 hown5 hgr5 hat5 hlt5
          have HO5 := Lib.hid (show w5.ownsRow w.heap.size 29 6 (.slice (some ⟨g5, 0, none⟩) (k + 1) cap5) (k + 1) (ntCells (ns ++ [⟨false, ⟨0, 0, 0⟩, 12, true⟩])) by rw [nts_snoc]; exact hown5)
          have HR5 := Lib.hid (rdr_app (HR3.out.alloc _) hgr5 (by omega))
          have HK5 := Lib.hid (kp_app (kp_alloc HK3.out _) hgr5 (by omega))
          clear hown5 hgr5 hat5
          go_wp2
          go_ret
          exact ⟨.slice (some ⟨g5, 0, none⟩) (k + 1) cap5, ns ++ [⟨false, ⟨0, 0, 0⟩, 12, true⟩], rfl, own_lenA HO5.out (by simp [HLN.out]), by simp [HLN.out]; omega, small_snoc HSM.out small12, HR5.out.mono (by omega), HK5.out⟩
        · have HR3 := Lib.hid hrq
          clear hrq hgq
          go_wp2_with fail
          go_loopw [5] (fun s5 wr => ∃ (gv cap k : Nat) (ns : List Nt), k ≤ 61 ∧ s5 = .slice (some ⟨gv, 0, none⟩) k cap ∧ ns.length = k ∧ (∀ n ∈ ns, n.Small) ∧ wr.ownsRow w.heap.size 29 6 (.slice (some ⟨gv, 0, none⟩) k cap) k (ntCells ns) ∧
            Rdr wr g m ∧ w.grownBy wr (some g)) (fun s5 _ => 61 - lenOf s5)
          case atStart => exact ⟨_, _, _, ns, by omega, rfl, HLN.out, HSM.out, HO3.out, HR3.out.mono (by omega), HK3.out⟩
          case round =>
            obtain ⟨gv, cap, k, ns, hk61, rfl, hlen, hsm, hown, hrd, hgk⟩ := hrel
            have hz4 := hgk.size
            have hgb := (hown.lt gv rfl).1
            have hgv4 := (hown.lt gv rfl).2
            have HSM := Lib.hid hsm
            have HOW := Lib.hid hown
            have HGK := Lib.hid hgk
            have HLN := Lib.hid hlen
            have HRD := Lib.hid hrd
            clear hsm hown hlen hrd hgk
            by_cases hk60 : k ≤ 60
            · have HC := Lib.hid (show ∀ j u, (Nt.cells ⟨true, ⟨0, 0, 0⟩, 12, false⟩)[j]? = some u → ((wr).alloc (.cells #[.bool true, .int .i64 0, .int .i64 0, .int .i64 0, .int .i64 12, .bool false] 29)).cell? ⟨wr.heap.size, 0 + j, none⟩ = some u by
                have := cells_newL (wr) #[.bool true, .int .i64 0, .int .i64 0, .int .i64 0, .int .i64 12, .bool false] 29
                try simp only [size_alloc', size_setCell'] at this
                exact this)
              go_wp2_with (at_builtin; refine wp_appl (by rfl) (.tmp 62) (.tmp 64) 45 29 rfl _ 6 48 Tryd.underlying45 info_nt rfl (by decide) (by decide) w.heap.size gv cap (k) _ rfl (HOW.out.alloc _) (wr.heap.size) 0 1 1 (Nt.cells ⟨true, ⟨0, 0, 0⟩, 12, false⟩) rfl rfl HC.out (nt_one _) (by omega) ?c2 ?_)
              case c2 => simp only [size_alloc', size_setCell']; omega
              intro g5 cap5 w5 hown5 hgr5 hat5 hlt5
              have HO5 := Lib.hid (show w5.ownsRow w.heap.size 29 6 (.slice (some ⟨g5, 0, none⟩) (k + 1) cap5) (k + 1) (ntCells (ns ++ [⟨true, ⟨0, 0, 0⟩, 12, false⟩])) by rw [nts_snoc]; exact hown5)
              have HR5 := Lib.hid (rdr_app (HRD.out.alloc _) hgr5 (by omega))
              have HK5 := Lib.hid (kp_app (kp_alloc HGK.out _) hgr5 (by omega))
              clear hown5 hgr5 hat5
              go_wp2_with fail
              go_roundw
              case rel => exact ⟨g5, cap5, k + 1, ns ++ [⟨true, ⟨0, 0, 0⟩, 12, false⟩], by omega, rfl, by simp [HLN.out], small_snoc HSM.out small12', HO5.out, HR5.out, HK5.out⟩
              case measure => simp [lenOf]; omega
            · go_wp2
              go_ret
              exact ⟨.slice (some ⟨gv, 0, none⟩) k cap, ns, rfl, own_lenA HOW.out HLN.out.symm, by rw [HLN.out]; omega, HSM.out, HRD.out, HGK.out⟩
end Go.Proofs.YtaikcpidijekpaaDoor
