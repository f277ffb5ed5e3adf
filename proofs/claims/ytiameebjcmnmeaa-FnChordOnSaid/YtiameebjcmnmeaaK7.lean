/- Chords of the program. Conditions: none. -/
import Derived.Test.YtiameebjcmnmeaaK6
namespace Go.Proofs.Ytiameebjcmnmeaa
open Go.RowKit
set_option linter.unusedSimpArgs false
set_option linter.unusedVariables false
set_option maxHeartbeats 16000000
def ChordPost (o : Option (List Pit)) (w : World) (e : Ending) (w' : World) : Prop :=
  ∃ v, e = .returned (.tuple #[v, .bool o.isSome]) ∧ w'.ownsRow w.heap.size 32 3 v (o.getD []).length (pitCells (o.getD [])) ∧ (o.getD []).length ≤ 4 ∧ Below w.heap.size w w'
theorem own_ints {W : World} {base : Nat} {e : TypeId} {v : Value} {l : List Int} (h : W.ownsRow base e 1 v l.length (intCells l)) (hl : 0 < l.length) :
    ∃ (g cap : Nat) (cur : Array Value), v = .slice (some ⟨g, 0, none⟩) l.length cap ∧ base ≤ g ∧ g < W.heap.size ∧ W.heap[g]? = some (.cells cur e (0, 0)) ∧ l.length ≤ cap ∧ cap ≤ maxLen ∧ ∀ j (hj : j < l.length), cur[j]? = some (.int .i64 l[j]) := by
  rcases h.2 with ⟨_, h0⟩ | ⟨g, cap, cur, hv, hb, hg, h1, h2, hs, ht⟩
  · omega
  · refine ⟨g, cap, cur, hv, hb, (Array.getElem?_eq_some_iff.1 hg).1, hg, h1, h2, fun j hj => ?_⟩
    have h3 : (intCells l)[j]? = some (.int .i64 l[j]) := by rw [intCells_at, List.getElem?_eq_getElem hj]; rfl
    rw [← ht, List.getElem?_take] at h3
    split at h3
    · rw [← Array.getElem?_toList]; exact h3
    · cases h3
theorem chord_none {root : Pit} {kind : Int} (h : ¬ (pitchValid root = true ∧ inB kind 0 8 = true)) : chordOf root kind = none := by unfold chordOf; rw [if_neg h]
set_option maxRecDepth 100000 in
theorem c_ChordOf (p : Pit) (kind : Int) (w : World) :
    Calls Try.prog 20 #[p.v, .int .i64 kind] w (ChordPost (chordOf p kind) w) := by
  obtain ⟨s, a, o⟩ := p
  cases hv : pitchValid ⟨s, a, o⟩
  · have HV := Lib.hid (chord_none (root := ⟨s, a, o⟩) (kind := kind) (by rw [hv]; simp))
    go_enter Try.func20, Try.ntmps20
    go_wp2_with fail
    (go_at_call 44; (with_reducible refine (c_PitchValid ⟨s, a, o⟩ _).mono ?_); rintro e wq ⟨rfl, hbq⟩; have hzq := hbq.size; (try simp only [size_alloc', size_setCell', size_drew', size_drewN'] at hzq); (try (refine keep_heap (b := w.heap.size) hbq ?_ ?_; (first | omega | (simp only [size_alloc', size_setCell', size_drew', size_drewN']; omega)); intro hkq; simp only [heap_alloc_get, heap_setCell_get, heap_drew_get, heap_drewN_get, size_alloc', size_setCell', size_drew', size_drewN', nat_simp1, nat_simp2, nat_simp3, nat_simp4, nat_simp5, if_true, if_false, *] at hkq; obtain ⟨_, _⟩ := blk_facts hkq)); skip)
    go_wp2
    go_ret2
    rw [HV.out]
    exact ⟨_, rfl, ⟨rfl, .inl ⟨rfl, rfl⟩⟩, by simp, by (repeat' (first | (with_reducible exact Below.refl _ _) | (with_reducible refine Below.setCell ?_ ?_ _) | (with_reducible refine Below.alloc ?_ ?_ _) | (with_reducible refine Below.drew ?_) | (with_reducible refine below_drewN ?_ _) | (with_reducible refine Below.trans ?_ (Below.mono (by with_reducible assumption) ?_)) | omega | (simp only [size_alloc', size_setCell', size_drew', size_drewN'] at *; omega)))⟩
  · cases hk : inB kind 0 8
    · have HV := Lib.hid (chord_none (root := ⟨s, a, o⟩) (kind := kind) (by rw [hk]; simp))
      go_enter Try.func20, Try.ntmps20
      go_wp2_with fail
      (go_at_call 44; (with_reducible refine (c_PitchValid ⟨s, a, o⟩ _).mono ?_); rintro e wq ⟨rfl, hbq⟩; have hzq := hbq.size; (try simp only [size_alloc', size_setCell', size_drew', size_drewN'] at hzq); (try (refine keep_heap (b := w.heap.size) hbq ?_ ?_; (first | omega | (simp only [size_alloc', size_setCell', size_drew', size_drewN']; omega)); intro hkq; simp only [heap_alloc_get, heap_setCell_get, heap_drew_get, heap_drewN_get, size_alloc', size_setCell', size_drew', size_drewN', nat_simp1, nat_simp2, nat_simp3, nat_simp4, nat_simp5, if_true, if_false, *] at hkq; obtain ⟨_, _⟩ := blk_facts hkq)); skip)
      go_wp2_with (go_at_call 38; refine (c_within _ _ _ _).mono ?_; rintro e w' ⟨rfl, rfl⟩; rw [hk])
      go_ret2
      rw [HV.out]
      exact ⟨_, rfl, ⟨rfl, .inl ⟨rfl, rfl⟩⟩, by simp, by (repeat' (first | (with_reducible exact Below.refl _ _) | (with_reducible refine Below.setCell ?_ ?_ _) | (with_reducible refine Below.alloc ?_ ?_ _) | (with_reducible refine Below.drew ?_) | (with_reducible refine below_drewN ?_ _) | (with_reducible refine Below.trans ?_ (Below.mono (by with_reducible assumption) ?_)) | omega | (simp only [size_alloc', size_setCell', size_drew', size_drewN'] at *; omega)))⟩
    · obtain ⟨n, rfl⟩ := Int.eq_ofNat_of_zero_le (inB_iff.1 hk).1
      have hn8 : n ≤ 8 := by have := (inB_iff.1 hk).2; omega
      obtain ⟨hs, hhs⟩ : ∃ hs, halvesOf (n : Int) = hs := ⟨_, rfl⟩
      have hlen : hs.length = if (n : Int) < 4 then 3 else 4 := by rw [← hhs]; exact halvesOf_len hk
      have hl4 : hs.length ≤ 4 := by rw [hlen]; split <;> omega
      have hl0 : 0 < hs.length := by rw [hlen]; split <;> omega
      have HV := Lib.hid (show chordOf ⟨s, a, o⟩ (n : Int) = chordTo ⟨s, a, o⟩ hs hs.length by unfold chordOf; rw [if_pos ⟨hv, hk⟩, hhs])
      have HPost := Lib.hid (show ∀ r, chordTo ⟨s, a, o⟩ hs hs.length = r → ∀ e w', ChordPost r w e w' → ChordPost (chordOf ⟨s, a, o⟩ (n : Int)) w e w' from fun r hr e w' hp => by rw [HV.out, hr]; exact hp)
      have HCH := Lib.hid (fun w => show Calls Try.prog 52 #[.int .i64 (n : Int)] w (IntsOf hs w) by rw [← hhs]; exact c_chordHalves n hn8 w)
      clear hlen hhs
      go_enter Try.func20, Try.ntmps20
      go_wp2_with fail
      (go_at_call 44; (with_reducible refine (c_PitchValid ⟨s, a, o⟩ _).mono ?_); rintro e w1 ⟨rfl, hbq⟩; have hzq := hbq.size; (try simp only [size_alloc', size_setCell', size_drew', size_drewN'] at hzq); (try (refine keep_heap (b := w.heap.size) hbq ?_ ?_; (first | omega | (simp only [size_alloc', size_setCell', size_drew', size_drewN']; omega)); intro hkq; simp only [heap_alloc_get, heap_setCell_get, heap_drew_get, heap_drewN_get, size_alloc', size_setCell', size_drew', size_drewN', nat_simp1, nat_simp2, nat_simp3, nat_simp4, nat_simp5, if_true, if_false, *] at hkq; obtain ⟨_, _⟩ := blk_facts hkq)); skip)
      have hX1 : w1.heap[w.heap.size]? = some (.cells #[.int .i64 s, .int .i64 a, .int .i64 o] 32 (0, 0)) := by assumption
      have hB1 : Below w.heap.size w w1 := by (repeat' (first | (with_reducible exact Below.refl _ _) | (with_reducible refine Below.setCell ?_ ?_ _) | (with_reducible refine Below.alloc ?_ ?_ _) | (with_reducible refine Below.drew ?_) | (with_reducible refine below_drewN ?_ _) | (with_reducible refine Below.trans ?_ (Below.mono (by with_reducible assumption) ?_)) | omega | (simp only [size_alloc', size_setCell', size_drew', size_drewN'] at *; omega)))
      have hlt1 : w.heap.size < w1.heap.size := (Array.getElem?_eq_some_iff.1 hX1).1
      have HX1 := Lib.hid (below_heap (bel1 w1 (.cells #[] 32)) hX1)
      have HO1 := Lib.hid (own_new w1 32 3)
      have HB1 := Lib.hid (hB1.alloc (by omega) (.cells #[] 32))
      have HLT1 := Lib.hid hlt1
      clear hX1 hB1 hbq
      go_wp2_with (go_at_call 38; refine (c_within _ _ _ _).mono ?_; rintro e w' ⟨rfl, rfl⟩; rw [hk])
      (go_at_call 52; (with_reducible refine (HCH.out _).mono ?_); rintro e W0 ⟨v, rfl, hov, hb0⟩)
      have hz0 := hb0.size
      rw [size_alloc'] at hz0
      obtain ⟨bh, caph, cur, rfl, hbh1, hbh2, hbh, hcn, hcm, hcur⟩ := own_ints hov hl0
      rw [size_alloc'] at hbh1
      unfold maxLen at hcm
      have HX0 := Lib.hid (below_heap hb0 HX1.out)
      have HO0 := Lib.hid (own_monoA (own_belA HO1.out hb0) (show w.heap.size + 1 ≤ w1.heap.size from HLT1.out))
      have HB0 := Lib.hid (HB1.out.trans (hb0.mono HB1.out.size))
      have HBH := Lib.hid hbh
      have HCUR := Lib.hid hcur
      clear hov hb0 hbh hcur hv
      go_wp2_with fail
      go_loopw [6, 23] (fun o' j wr => ∃ (k g cap : Nat) (out : List Pit), k ≤ hs.length ∧ j = .int .i64 k ∧ o' = .slice (some ⟨g, 0, none⟩) k cap ∧ (g = w1.heap.size ∨ W0.heap.size ≤ g) ∧ chordTo ⟨s, a, o⟩ hs k = some out ∧
        wr.ownsRow (w.heap.size + 1) 32 3 (.slice (some ⟨g, 0, none⟩) k cap) k (pitCells out) ∧ wr.heap[w.heap.size]? = some (.cells #[.int .i64 s, .int .i64 a, .int .i64 o] 32 (0, 0)) ∧
        wr.heap[bh]? = some (.cells cur 3 (0, 0)) ∧ Below w.heap.size w wr ∧ W0.heap.size ≤ wr.heap.size) (fun _ j _ => hs.length - (intOf j).toNat)
      case atStart => exact ⟨0, _, _, [], Nat.zero_le _, rfl, rfl, .inl rfl, rfl, HO0.out, HX0.out, HBH.out, HB0.out, Nat.le_refl _⟩
      case round =>
        obtain ⟨k, g, cap, out, hk4, rfl, rfl, hgw, hsh, hown, hX, hH, hbl, hz0r⟩ := hrel
        have hz := hbl.size
        have hgb := (hown.lt g rfl).1
        have hgl := (hown.lt g rfl).2
        have HSh := Lib.hid hsh
        have HO := Lib.hid hown
        have HX := Lib.hid hX
        have HH := Lib.hid hH
        have hlt1 := HLT1.out
        clear hsh hown
        by_cases hlt : k < hs.length
        · obtain ⟨h, hh⟩ : ∃ h, hs.getD k 0 = h := ⟨_, rfl⟩
          have hcell : wr.cell? ⟨bh, k, none⟩ = some (.int .i64 h) := by
            rw [cell_of_row wr bh k _ _ _ hH, HCUR.out k hlt, ← hh]
            simp [List.getD, hlt]
          have HFail := Lib.hid (fun hn => chordTo_fail (root := ⟨s, a, o⟩) (hs := hs) (k := k) hn hlt)
          have HStep := Lib.hid (fun (q : Pit) hq => chordTo_step (root := ⟨s, a, o⟩) (hs := hs) (k := k) (p := q) HSh.out hq)
          rw [hh] at HFail HStep
          obtain ⟨_, _⟩ := blk_facts hX
          have hk1 : (0 : Int) ≤ (k : Int) := by omega
          have hk2 : (k : Int) < (hs.length : Int) := by omega
          have hk3 : (k : Int) ≤ 4 := by omega
          clear hX hH hh
          rcases addVal_cases (addIv ⟨s, a, o⟩ ⟨2 * (k : Int), h⟩) with ⟨⟨q1, q2, q3⟩, hq⟩ | hq
          · have HSt := Lib.hid (HStep.out ⟨q1, q2, q3⟩ hq)
            have HW := Lib.hid (fun w => show Calls Try.prog 53 #[.agg #[.int .i64 s, .int .i64 a, .int .i64 o], .agg #[.int .i64 (2 * (k : Int)), .int .i64 h]] w fun e w' => e = .returned (.tuple #[.agg #[.int .i64 q1, .int .i64 q2, .int .i64 q3], .bool true]) ∧ Below w.heap.size w w' by
              have := c_AddInterval ⟨s, a, o⟩ ⟨2 * (k : Int), h⟩ w
              rw [hq] at this
              exact this)
            clear hq
            go_wp2_with fail
            (go_at_call 53; (with_reducible refine (HW.out _).mono ?_); rintro e w3 ⟨rfl, hb3⟩)
            have hz3 := hb3.size
            have HO3 := Lib.hid ((own_belA HO.out hb3).alloc (.cells #[.int .i64 q1, .int .i64 q2, .int .i64 q3] 32))
            have HOb := Lib.hid (HO3.out.alloc (.cells #[.int .i64 q1, .int .i64 q2, .int .i64 q3] 32))
            have HBb := Lib.hid (((hbl.trans (hb3.mono hz)).alloc (by omega) (.cells #[.int .i64 q1, .int .i64 q2, .int .i64 q3] 32)).alloc (by rw [size_alloc']; omega) (.cells #[.int .i64 q1, .int .i64 q2, .int .i64 q3] 32))
            have HXb := Lib.hid (below_heap (bel1 _ (.cells #[.int .i64 q1, .int .i64 q2, .int .i64 q3] 32)) (below_heap (bel1 _ (.cells #[.int .i64 q1, .int .i64 q2, .int .i64 q3] 32)) (below_heap hb3 HX.out)))
            have HHb := Lib.hid (below_heap (bel1 _ (.cells #[.int .i64 q1, .int .i64 q2, .int .i64 q3] 32)) (below_heap (bel1 _ (.cells #[.int .i64 q1, .int .i64 q2, .int .i64 q3] 32)) (below_heap hb3 HH.out)))
            have HC := Lib.hid (cells_newP (w3.alloc (.cells #[.int .i64 q1, .int .i64 q2, .int .i64 q3] 32)) q1 q2 q3)
            rw [size_alloc'] at HC
            go_wp2_with (at_builtin; go_loud (refine wp_appl (by rfl) (.tmp 39) (.tmp 41) 25 32 rfl _ 3 24 Try.underlying25 info_pit rfl (by decide) (by decide) (w.heap.size + 1) g cap k _ rfl HOb.out (w3.heap.size + 1) 0 1 1 (Pit.cells ⟨q1, q2, q3⟩) rfl rfl HC.out (pit_one _) (by omega) (by simp only [size_alloc']; omega) ?_))
            intro g4 cap4 w4 hown4 hgr4 hat4 hlt4
            have HO4 := Lib.hid hown4
            have HX4 := Lib.hid (heap_appA hgr4 HXb.out (by omega))
            have HH4 := Lib.hid (heap_appA hgr4 HHb.out (by omega))
            have HB4 := Lib.hid (bel_app HBb.out HOb.out hgr4 (by omega) (by simp only [size_alloc']; omega))
            have hz4 := hgr4.size
            simp only [size_alloc'] at hz4 hat4
            have hgw4 : g4 = w1.heap.size ∨ W0.heap.size ≤ g4 := by omega
            clear hown4 hgr4 hat4
            go_wp2_with fail
            go_roundw
            case rel => exact ⟨k + 1, g4, cap4, out ++ [⟨q1, q2, q3⟩], by omega, by go_num, rfl, hgw4, HSt.out, by rw [pits_snoc]; exact HO4.out, HX4.out, HH4.out, HB4.out, by omega⟩
            case measure => simp [intOf]; omega
          · have HE := Lib.hid (HFail.out hq)
            have HW := Lib.hid (fun w => show Calls Try.prog 53 #[.agg #[.int .i64 s, .int .i64 a, .int .i64 o], .agg #[.int .i64 (2 * (k : Int)), .int .i64 h]] w fun e w' => e = .returned (.tuple #[.agg #[.int .i64 0, .int .i64 0, .int .i64 0], .bool false]) ∧ Below w.heap.size w w' by
              have := c_AddInterval ⟨s, a, o⟩ ⟨2 * (k : Int), h⟩ w
              rw [hq] at this
              exact this)
            clear hq
            go_wp2_with fail
            (go_at_call 53; (with_reducible refine (HW.out _).mono ?_); rintro e w3 ⟨rfl, hb3⟩)
            have HB3 := Lib.hid ((hbl.trans (hb3.mono hz)).alloc (by have := hb3.size; omega) (.cells #[.int .i64 0, .int .i64 0, .int .i64 0] 32))
            go_wp2_with fail
            go_ret2
            exact HPost.out _ HE.out _ _ ⟨_, rfl, ⟨rfl, .inl ⟨rfl, rfl⟩⟩, by simp, HB3.out⟩
        · have hke : k = hs.length := by omega
          subst hke
          go_wp2_with fail
          go_ret2
          refine HPost.out _ HSh.out _ _ ⟨.slice (some ⟨g, 0, none⟩) hs.length cap, rfl, ?_, ?_, hbl⟩
          · show wr.ownsRow _ _ _ _ out.length (pitCells out)
            rw [chordTo_len HSh.out]
            exact own_monoA HO.out (by omega)
          · show out.length ≤ 4
            rw [chordTo_len HSh.out]
            exact hl4
end Go.Proofs.Ytiameebjcmnmeaa
