/- The walk of FnChordOn. Conditions: none. -/
import Derived.Test.YtiameebjcmnmeaaTE
import Derived.Test.YtiameebjcmnmeaaTA
import Derived.Test.YtiameebjcmnmeaaT4
import Derived.Test.YtiameebjcmnmeaaF0
namespace Go.Proofs.Ytiameebjcmnmeaa
open Go.RowKit
set_option linter.unusedSimpArgs false
set_option linter.unusedVariables false
set_option maxHeartbeats 16000000
theorem chordOn_get {f : Int} {m : Bool} {d : Int} {s : Bool} (hf : inB f (-7) 7 = true) (hd : inB d 0 6 = true) (k : Nat) (hk : k < (chordOn f m d s).length) : (chordOn f m d s)[k] = keyPit f (28 + tonicK f m + d + 2 * (k : Int)) := by
  have e : chordOn f m d s = scaleTo f m d 2 (if s then 4 else 3) := by unfold chordOn; rw [if_pos ⟨hf, hd⟩]
  simp only [e]
  unfold scaleTo
  simp
theorem chordOn_len {f : Int} {m : Bool} {d : Int} {s : Bool} (hf : inB f (-7) 7 = true) (hd : inB d 0 6 = true) : (chordOn f m d s).length = if s then 4 else 3 := by
  unfold chordOn
  rw [if_pos ⟨hf, hd⟩, scaleTo_len]
theorem keyPit_in {f pl : Int} (hf : inB f (-7) 7 = true) (h0 : 28 ≤ pl) (h1 : pl ≤ 60) : inKey f (keyPit f pl) = true := by
  have := alterK_bd f (pl % 7)
  unfold inKey
  rw [hf, Bool.and_eq_true, Bool.and_eq_true]
  refine ⟨⟨rfl, ?_⟩, ?_⟩
  · unfold keyPit
    refine pitchValid_iff.2 ⟨?_, ?_, ?_, ?_, ?_, ?_⟩ <;> dsimp only <;> omega
  · unfold keyPit
    simp
theorem chordOn_valid {f : Int} {m : Bool} {d : Int} {s : Bool} (hf : inB f (-7) 7 = true) (hd : inB d 0 6 = true) : arePits (chordOn f m d s) 1 12 = true := by
  have hl := chordOn_len (m := m) (s := s) hf hd
  refine arePits_iff.2 ⟨by rw [hl]; cases s <;> simp, fun i hi => ?_⟩
  have h4 : i < 4 := by rw [hl] at hi; cases s <;> simp at hi <;> omega
  rw [chordOn_get hf hd i hi]
  have ht := tonicK_bd f m
  have hd' := inB_iff.1 hd
  have := keyPit_in (f := f) (pl := 28 + tonicK f m + d + 2 * (i : Int)) hf (by omega) (by omega)
  unfold inKey at this
  rw [Bool.and_eq_true, Bool.and_eq_true] at this
  exact this.1.2
theorem chordOn_deg {f : Int} {m : Bool} {d d' : Int} {s s' : Bool} (hf : inB f (-7) 7 = true) (hd : inB d 0 6 = true) (hd' : inB d' 0 6 = true) (h : sameT (chordOn f m d s) (chordOn f m d' s') = true) : d = d' := by
  rw [sameT_iff] at h
  have l1 := chordOn_len (m := m) (s := s) hf hd
  have l2 := chordOn_len (m := m) (s := s') hf hd'
  have b1 : 3 ≤ (chordOn f m d s).length ∧ (chordOn f m d s).length ≤ 4 := by rw [l1]; cases s <;> simp
  have b2 : 3 ≤ (chordOn f m d' s').length ∧ (chordOn f m d' s').length ≤ 4 := by rw [l2]; cases s' <;> simp
  obtain ⟨q, hq, e, _⟩ := hasT_iff.1 (h.1 _ (List.getElem_mem (show 0 < (chordOn f m d s).length by omega)))
  obtain ⟨i, hi, rfl⟩ := List.getElem_of_mem hq
  obtain ⟨q, hq, e', _⟩ := hasT_iff.1 (h.2 _ (List.getElem_mem (show 0 < (chordOn f m d' s').length by omega)))
  obtain ⟨j, hj, rfl⟩ := List.getElem_of_mem hq
  rw [chordOn_get hf hd, chordOn_get hf hd'] at e e'
  unfold keyPit at e e'
  dsimp only at e e'
  have i4 : i = 0 ∨ i = 1 ∨ i = 2 ∨ i = 3 := by omega
  have j4 : j = 0 ∨ j = 1 ∨ j = 2 ∨ j = 3 := by omega
  have hb := inB_iff.1 hd
  have hb' := inB_iff.1 hd'
  have ht := tonicK_bd f m
  generalize tonicK f m = T at *
  rcases i4 with rfl | rfl | rfl | rfl <;> rcases j4 with rfl | rfl | rfl | rfl <;> omega
theorem degF_chordOn {f : Int} {m : Bool} {d : Int} {s : Bool} (hf : inB f (-7) 7 = true) (hd : inB d 0 6 = true) : degF f m (chordOn f m d s) = d := by
  obtain ⟨n, rfl⟩ := Int.eq_ofNat_of_zero_le (inB_iff.1 hd).1
  have hn : n < 7 := by have := (inB_iff.1 hd).2; omega
  rw [degF_yes hf (chordOn_valid hf hd)]
  refine first7_hit hn (fun d' hd' => ?_) ?_
  · have hi : inB (d' : Int) 0 6 = true := inB_iff.2 (by omega)
    unfold degAt
    cases h1 : sameT (chordOn f m (n : Int) s) (chordOn f m (d' : Int) false)
    · cases h2 : sameT (chordOn f m (n : Int) s) (chordOn f m (d' : Int) true)
      · rfl
      · have := chordOn_deg hf hd hi h2
        omega
    · have := chordOn_deg hf hd hi h1
      omega
  · unfold degAt
    cases s
    · rw [sameT_refl]; rfl
    · rw [sameT_refl]; simp
set_option maxRecDepth 100000 in
theorem chordOn_hits {f : Int} (hf : inB f (-7) 7 = true) : ∀ (m s : Bool) (d : Nat), d < 7 → (List.range 9).any (hitB (chordOn f m (d : Int) s)) = true := by
  rcases key_cases hf with rfl | rfl | rfl | rfl | rfl | rfl | rfl | rfl | rfl | rfl | rfl | rfl | rfl | rfl | rfl <;> decide
theorem chordOn_named {f : Int} {m : Bool} {d : Int} {s : Bool} (hf : inB f (-7) 7 = true) (hd : inB d 0 6 = true) : ∃ (a b : Int) (kind n : Nat), nameV (chordOn f m d s) = .tuple #[.agg #[.int .i64 a, .int .i64 b, .int .i64 4], .int .i64 kind, .int .i64 n, .bool true] := by
  obtain ⟨n, rfl⟩ := Int.eq_ofNat_of_zero_le (inB_iff.1 hd).1
  have hn : n < 7 := by have := (inB_iff.1 hd).2; omega
  have h := chordOn_hits hf m s n hn
  rw [List.any_eq_true] at h
  obtain ⟨j, hj, hh⟩ := h
  have hl := chordOn_len (m := m) (s := s) hf hd
  have h1 : 1 ≤ (chordOn f m (n : Int) s).length := by rw [hl]; cases s <;> simp
  have := List.mem_range.1 hj
  exact nameV_named (chordOn_valid hf hd) (by omega) hh
theorem c_InKey (f : Int) (p : Pit) (w : World) (hk : inKey f p = true) :
    Calls Try.prog 16 #[.int .i64 f, p.v] w fun e w' => e = .returned (.bool true) ∧ Below w.heap.size w w' := by
  obtain ⟨s, a, o⟩ := p
  unfold inKey at hk
  rw [Bool.and_eq_true, Bool.and_eq_true, decide_eq_true_eq] at hk
  obtain ⟨⟨hf, hv⟩, ha⟩ := hk
  obtain ⟨x, hx⟩ : ∃ x, alterK f s = x := ⟨_, rfl⟩
  dsimp only at ha
  rw [hx] at ha
  subst ha
  have hs : 0 ≤ s ∧ s ≤ 6 := by
    have := hv
    unfold pitchValid at this
    simp only [Bool.and_eq_true, inB_iff] at this
    exact this.1.1
  obtain ⟨hs0, hs6⟩ := hs
  have HKA := Lib.hid (fun w => show Calls Try.prog 46 #[.int .i64 f, .int .i64 s] w fun e w' => e = .returned (.int .i64 a) ∧ Below w.heap.size w w' by have := c_KeyAlter f s w hf hs0 hs6; rw [hx] at this; exact this)
  have HK := Lib.hid (fun w => show Calls Try.prog 37 #[.int .i64 f] w fun e w' => e = .returned (.bool true) ∧ w = w' by have := c_isKey f w; rw [hf] at this; exact this)
  have HP := Lib.hid (fun w => show Calls Try.prog 44 #[.agg #[.int .i64 s, .int .i64 a, .int .i64 o]] w fun e w' => e = .returned (.bool true) ∧ Below w.heap.size w w' by have := c_PitchValid ⟨s, a, o⟩ w; rw [hv] at this; exact this)
  clear hx hf hv
  go_enter Try.func16, Try.ntmps16
  go_wp2_with fail
  (refine wp_region_more_lit (by kernel_rfl) (by kernel_rfl) ?_; (repeat (go_big_quiet_step ((first | (go_at_call 37; with_reducible exact Calls.more_same (HK.out _)) | (go_at_call 44; with_reducible exact Calls.more_of (HP.out _)) | (go_at_call 46; with_reducible exact Calls.more_of (HKA.out _)))))); refine wpQuiet_nil ?_; intro wq hwq; have hbq := below_of_more hwq; clear hwq; have hzq := hbq.size; (try simp only [size_alloc', size_setCell', size_drew', size_drewN'] at hzq); (try (refine keep_heap (b := w.heap.size) hbq ?_ ?_; (first | omega | (simp only [size_alloc', size_setCell', size_drew', size_drewN']; omega)); intro hkq; simp only [heap_alloc_get, heap_setCell_get, heap_drew_get, heap_drewN_get, size_alloc', size_setCell', size_drew', size_drewN', nat_simp1, nat_simp2, nat_simp3, nat_simp4, nat_simp5, if_true, if_false, *] at hkq; obtain ⟨_, _⟩ := blk_facts hkq)); skip)
  go_wp2
  go_ret
  exact ⟨by simp, by (repeat' (first | (with_reducible exact Below.refl _ _) | (with_reducible refine Below.setCell ?_ ?_ _) | (with_reducible refine Below.alloc ?_ ?_ _) | (with_reducible refine Below.drew ?_) | (with_reducible refine below_drewN ?_ _) | (with_reducible refine Below.trans ?_ (Below.mono (by with_reducible assumption) ?_)) | omega | (simp only [size_alloc', size_setCell', size_drew', size_drewN'] at *; omega)))⟩
theorem c_DegreeOf_in (f : Int) (m : Bool) (p : Pit) (w : World) (hk : inKey f p = true) :
    Calls Try.prog 15 #[.int .i64 f, .bool m, p.v] w fun e w' => e = .returned (.tuple #[.int .i64 ((p.step - (28 + tonicK f m)) % 7), .int .i64 0]) ∧ Below w.heap.size w w' := by
  obtain ⟨s, a, o⟩ := p
  unfold inKey at hk
  rw [Bool.and_eq_true, Bool.and_eq_true, decide_eq_true_eq] at hk
  obtain ⟨⟨hf, hv⟩, ha⟩ := hk
  obtain ⟨x, hx⟩ : ∃ x, alterK f s = x := ⟨_, rfl⟩
  dsimp only at ha
  rw [hx] at ha
  subst ha
  have hs := pitchValid_iff.1 hv
  dsimp only at hs
  obtain ⟨hs0, hs6, hs1, hs2, -, -⟩ := hs
  obtain ⟨ht0, ht6⟩ := tonicK_bd f m
  have HKA := Lib.hid (fun w => show Calls Try.prog 46 #[.int .i64 f, .int .i64 s] w fun e w' => e = .returned (.int .i64 a) ∧ Below w.heap.size w w' by have := c_KeyAlter f s w hf hs0 hs6; rw [hx] at this; exact this)
  have HK := Lib.hid (fun w => show Calls Try.prog 37 #[.int .i64 f] w fun e w' => e = .returned (.bool true) ∧ w = w' by have := c_isKey f w; rw [hf] at this; exact this)
  have HP := Lib.hid (fun w => show Calls Try.prog 44 #[.agg #[.int .i64 s, .int .i64 a, .int .i64 o]] w fun e w' => e = .returned (.bool true) ∧ Below w.heap.size w w' by have := c_PitchValid ⟨s, a, o⟩ w; rw [hv] at this; exact this)
  have HT := Lib.hid (fun w => c_tonicPlace f m w hf)
  generalize tonicK f m = T at *
  have haa : a - a = 0 := by omega
  have hab : -2 ≤ a := hs1
  have hab2 : a ≤ 2 := hs2
  clear hx hf hv
  go_enter Try.func15, Try.ntmps15
  go_wp2_with fail
  (go_at_call 37; (with_reducible refine (HK.out _).mono ?_); rintro e w1 ⟨rfl, rfl⟩)
  go_wp2_with fail
  (go_at_call 44; (with_reducible refine (HP.out _).mono ?_); rintro e w2 ⟨rfl, hbq⟩; have hzq := hbq.size; (try simp only [size_alloc', size_setCell', size_drew', size_drewN'] at hzq); (try (refine keep_heap (b := w.heap.size) hbq ?_ ?_; (first | omega | (simp only [size_alloc', size_setCell', size_drew', size_drewN']; omega)); intro hkq; simp only [heap_alloc_get, heap_setCell_get, heap_drew_get, heap_drewN_get, size_alloc', size_setCell', size_drew', size_drewN', nat_simp1, nat_simp2, nat_simp3, nat_simp4, nat_simp5, if_true, if_false, *] at hkq; obtain ⟨_, _⟩ := blk_facts hkq)); skip)
  go_wp2_with fail
  (refine wp_region_more_lit (by kernel_rfl) (by kernel_rfl) ?_; (repeat (go_big_quiet_step ((first | (go_at_call 46; with_reducible exact Calls.more_of (HKA.out _)) | (go_at_call 45; with_reducible exact Calls.more_same (c_modulo _ _ _ (by omega) (by omega) (by omega) (by omega))) | (go_at_call 40; with_reducible exact Calls.more_of (HT.out _)) | (go_at_call 40; with_reducible exact Calls.more_same (HT.out _)))))); refine wpQuiet_nil ?_; intro wq hwq; have hbq := below_of_more hwq; clear hwq; have hzq := hbq.size; (try simp only [size_alloc', size_setCell', size_drew', size_drewN'] at hzq); (try (refine keep_heap (b := w.heap.size) hbq ?_ ?_; (first | omega | (simp only [size_alloc', size_setCell', size_drew', size_drewN']; omega)); intro hkq; simp only [heap_alloc_get, heap_setCell_get, heap_drew_get, heap_drewN_get, size_alloc', size_setCell', size_drew', size_drewN', nat_simp1, nat_simp2, nat_simp3, nat_simp4, nat_simp5, if_true, if_false, *] at hkq; obtain ⟨_, _⟩ := blk_facts hkq)); skip)
  go_wp2
  go_ret2
  exact ⟨rfl, by (repeat' (first | (with_reducible exact Below.refl _ _) | (with_reducible refine Below.setCell ?_ ?_ _) | (with_reducible refine Below.alloc ?_ ?_ _) | (with_reducible refine Below.drew ?_) | (with_reducible refine below_drewN ?_ _) | (with_reducible refine Below.trans ?_ (Below.mono (by with_reducible assumption) ?_)) | omega | (simp only [size_alloc', size_setCell', size_drew', size_drewN'] at *; omega)))⟩
theorem c_DrawChordOn (v : Value) (bs : List Int) (w : World) (h : Rd w v 1 bs.length (byteCells bs)) (hb : ∀ x ∈ bs, 0 ≤ x ∧ x ≤ 255) :
    Calls Try.prog 10 #[v] w fun e w' => ∃ (f : Int) (m : Bool) (d : Int) (s : Bool), e = .returned (.tuple #[.int .i64 f, .bool m, .int .i64 d, .bool s]) ∧ Below w.heap.size w w' := by
  go_enter Try.func10, Try.ntmps10
  go_wp2_with fail
  (go_at_call 34; (with_reducible refine (c_open _ _ _ (h) hb).mono ?_); rintro e w1 ⟨g, rfl, hg, hr1, hbq⟩; have hzq := hbq.size; (try simp only [size_alloc', size_setCell', size_drew', size_drewN'] at hzq hg); (try (refine keep_heap (b := w.heap.size) hbq ?_ ?_; (first | omega | (simp only [size_alloc', size_setCell', size_drew', size_drewN']; omega)); intro hkq; simp only [heap_alloc_get, heap_setCell_get, heap_drew_get, heap_drewN_get, size_alloc', size_setCell', size_drew', size_drewN', nat_simp1, nat_simp2, nat_simp3, nat_simp4, nat_simp5, if_true, if_false, *] at hkq; obtain ⟨_, _⟩ := blk_facts hkq)); (try (refine ne_cps (a := w.heap.size) (b := w1.heap.size) ?_ ?_; omega; intro _ _)); (try (refine ne_cps (a := w.heap.size) (b := w1.heap.size + 1) ?_ ?_; omega; intro _ _)); (try (refine ne_cps (a := w.heap.size) (b := w1.heap.size + 1 + 1) ?_ ?_; omega; intro _ _)); skip)
  have HB1 := Lib.hid hbq
  have hr2 : Rdr w1 g ((1 + 150) + 4) := hr1.mono (by omega)
  clear hr1 hbq
  go_wp2_with fail
  (go_at_call 35; (with_reducible refine (c_l20Fifths g (1+150) _ _ ?_ (by omega) (by omega)).mono ?_); (focus (repeat' (first | (with_reducible assumption) | (with_reducible refine Rdr.alloc ?_ _) | (with_reducible refine Rdr.setCell ?_ ?_ _) | (with_reducible refine Rdr.drewN ?_ _) | (with_reducible refine Rdr.drew ?_) | (show _ < _; first | omega | (simp only [size_alloc', size_setCell', size_drew', size_drewN'] at *; omega))))); rintro e w2 ⟨f, rfl, hf1, hf2, hrq, hgq⟩; have hsq := hgq.size; (try simp only [size_alloc', size_setCell', size_drew', size_drewN'] at hsq); skip)
  have HK2 := Lib.hid hgq
  clear hgq
  have h3 : Rdr w2 g (150 + 1) := hrq.mono (by omega)
  clear hrq
  go_wp2_with fail
  (go_at_call 36; (with_reducible refine (c_pick g (150) _ _ ?_ (by omega) (by omega)).mono ?_); (focus (repeat' (first | (with_reducible assumption) | (with_reducible refine Rdr.alloc ?_ _) | (with_reducible refine Rdr.setCell ?_ ?_ _) | (with_reducible refine Rdr.drewN ?_ _) | (with_reducible refine Rdr.drew ?_) | (show _ < _; first | omega | (simp only [size_alloc', size_setCell', size_drew', size_drewN'] at *; omega))))); rintro e w3 ⟨x3, rfl, hx3, hy3, hz3, hrq, hgq⟩; have hsq := hgq.size; (try simp only [size_alloc', size_setCell', size_drew', size_drewN'] at hsq); skip)
  have HK3 := Lib.hid (kp_trans HK2.out hgq)
  have h4 : Rdr w3 g (149 + 1) := hrq
  clear hgq hrq hy3
  go_wp2_with fail
  (go_at_call 36; (with_reducible refine (c_pick g (149) _ _ ?_ (by omega) (by omega)).mono ?_); (focus (repeat' (first | (with_reducible assumption) | (with_reducible refine Rdr.alloc ?_ _) | (with_reducible refine Rdr.setCell ?_ ?_ _) | (with_reducible refine Rdr.drewN ?_ _) | (with_reducible refine Rdr.drew ?_) | (show _ < _; first | omega | (simp only [size_alloc', size_setCell', size_drew', size_drewN'] at *; omega))))); rintro e w4 ⟨x4, rfl, hx4, hy4, hz4, hrq, hgq⟩; have hsq := hgq.size; (try simp only [size_alloc', size_setCell', size_drew', size_drewN'] at hsq); skip)
  have HK4 := Lib.hid (kp_trans HK3.out hgq)
  have hx4' := hy4 (by omega)
  have h5 : Rdr w4 g (148 + 1) := hrq
  clear hgq hrq hy4
  go_wp2_with fail
  (go_at_call 36; (with_reducible refine (c_pick g (148) _ _ ?_ (by omega) (by omega)).mono ?_); (focus (repeat' (first | (with_reducible assumption) | (with_reducible refine Rdr.alloc ?_ _) | (with_reducible refine Rdr.setCell ?_ ?_ _) | (with_reducible refine Rdr.drewN ?_ _) | (with_reducible refine Rdr.drew ?_) | (show _ < _; first | omega | (simp only [size_alloc', size_setCell', size_drew', size_drewN'] at *; omega))))); rintro e w5 ⟨x5, rfl, hx5, hy5, hz5, hrq, hgq⟩; have hsq := hgq.size; (try simp only [size_alloc', size_setCell', size_drew', size_drewN'] at hsq); skip)
  have HK5 := Lib.hid (kp_trans HK4.out hgq)
  have hx5' := hy5 (by omega)
  have h6 : Rdr w5 g (147 + 1) := hrq
  clear hgq hrq hy5
  go_wp2_with fail
  (go_at_call 36; (with_reducible refine (c_pick g (147) _ _ ?_ (by omega) (by omega)).mono ?_); (focus (repeat' (first | (with_reducible assumption) | (with_reducible refine Rdr.alloc ?_ _) | (with_reducible refine Rdr.setCell ?_ ?_ _) | (with_reducible refine Rdr.drewN ?_ _) | (with_reducible refine Rdr.drew ?_) | (show _ < _; first | omega | (simp only [size_alloc', size_setCell', size_drew', size_drewN'] at *; omega))))); rintro e w6 ⟨x6, rfl, hx6, hy6, hz6, hrq, hgq⟩; have hsq := hgq.size; (try simp only [size_alloc', size_setCell', size_drew', size_drewN'] at hsq); skip)
  have HK6 := Lib.hid (kp_trans HK5.out hgq)
  clear hgq hrq hy6
  go_wp2_with fail
  exact bodyPost_ret (v := .tuple #[.int .i64 f, .bool (x3 == 0), .int .i64 (x4 - x5 / 8), .bool (x6 == 0)]) (by simp [results, Try.results10, go_sem, *]) rfl ⟨f, _, _, _, rfl, below_of_kp HB1.out HK6.out (by omega) HB1.out.size⟩
set_option maxRecDepth 100000 in
theorem walk_FnChordOn (w : World) (v : Value) (bs : List Int) (h : Rd w v 1 bs.length (byteCells bs)) (hb : ∀ x ∈ bs, 0 ≤ x ∧ x ≤ 255) :
    Calls Try.prog 3 #[v] w fun e w' => e = .returned (.bool true) ∧ Below w.heap.size w w' := by
  have h' := Lib.hid h
  obtain ⟨_, A, c, rfl, hnc, hcm, hA⟩ := h
  unfold maxLen at hcm
  clear hA
  have HBB := Lib.hid hb
  clear hb
  by_cases hlen : (bs.length : Int) ≤ 1048576
  · have hln : ¬ (1048576 < (bs.length : Int)) := by omega
    go_enter Try.func3, Try.ntmps3
    go_wp2_with fail
    (go_at_call 10; (with_reducible refine (c_DrawChordOn _ bs _ h'.out HBB.out).mono ?_); rintro e w1 ⟨f, m, d, s, rfl, hb1⟩)
    have S := hb1
    obtain ⟨t, ht⟩ : ∃ t, chordOn f m d s = t := ⟨_, rfl⟩
    have HTE := Lib.hid ht
    go_wp2_with fail
    (go_at_call 11; (with_reducible refine (c_ChordOn f m d s _).mono ?_); rintro e w2 hpost; rw [ht] at hpost; obtain ⟨v2, rfl, ho2, hb2⟩ := hpost; have S := S.trans (hb2.mono S.size))
    have HX2 := Lib.hid (Rd.of_own ho2)
    clear ho2
    obtain ⟨_, Ax, cx, rfl, hnx, hcx, hAx⟩ := HX2.out
    unfold maxLen at hcx
    clear hAx
    go_wp2_with fail
    (go_at_call 13; (with_reducible refine (c_sChordOn f m d s _).mono ?_); rintro e w3 hpost; rw [ht] at hpost; obtain ⟨v3, rfl, ho3, hb3⟩ := hpost; have S := S.trans (hb3.mono S.size))
    have HW3 := Lib.hid (Rd.of_own ho3)
    have HX3 := Lib.hid (HX2.out.below (Nat.le_refl _) hb3)
    clear ho3
    go_wp2_with fail
    (go_at_call 12; (with_reducible refine (c_samePitches_eq _ _ t _ HX3.out HW3.out).mono ?_); rintro e w4 ⟨rfl, hb4⟩; have S := S.trans (hb4.mono S.size))
    have HX4 := Lib.hid (HX3.out.below (Nat.le_refl _) hb4)
    clear hb1 hb2 hb3 hb4
    by_cases hn : t.length < 1
    · have hn0 : t.length = 0 := by omega
      have hn0' : ((t.length : Int) == 0) = true := by simp [hn0]
      clear hn0 ht
      go_wp2_with fail
      (go_at_call 14; (with_reducible refine (c_alive _).mono ?_); rintro e wz ⟨rfl, hbz⟩; have S := S.trans (hbz.mono S.size))
      go_wp2
      go_ret
      exact ⟨rfl, S⟩
    · have hfd : inB f (-7) 7 = true ∧ inB d 0 6 = true := by
        by_cases hc : inB f (-7) 7 = true ∧ inB d 0 6 = true
        · exact hc
        · have e : chordOn f m d s = [] := by unfold chordOn; rw [if_neg hc]
          rw [ht] at e
          rw [e] at hn
          simp at hn
      obtain ⟨hf, hd⟩ := hfd
      have hl := chordOn_len (m := m) (s := s) hf hd
      obtain ⟨na, nb, nk, nn, hnm⟩ := chordOn_named (m := m) (s := s) hf hd
      have hdeg := degF_chordOn (m := m) (s := s) hf hd
      have hget := chordOn_get (m := m) (s := s) hf hd
      simp only [ht] at hl hnm hdeg hget
      obtain ⟨hd0, hd6⟩ := inB_iff.1 hd
      obtain ⟨ht0, ht6⟩ := tonicK_bd f m
      have HNC := Lib.hid (fun v w (h : Rd w v 3 t.length (pitCells t)) => show Calls Try.prog 17 #[v] w fun e w' => e = .returned (.tuple #[.agg #[.int .i64 na, .int .i64 nb, .int .i64 4], .int .i64 nk, .int .i64 nn, .bool true]) ∧ Below w.heap.size w w' by have := c_NameChord v t w h; rwa [hnm] at this)
      have HDC := Lib.hid (fun v w (h : Rd w v 3 t.length (pitCells t)) => show Calls Try.prog 18 #[.int .i64 f, .bool m, v] w fun e w' => e = .returned (.int .i64 d) ∧ Below w.heap.size w w' by have := c_DegreeOfChord f m v t w h; rwa [hdeg] at this)
      have HGet := Lib.hid hget
      have HIn := Lib.hid (fun (k : Nat) (hk : k < 4) => keyPit_in (f := f) (pl := 28 + tonicK f m + d + 2 * (k : Int)) hf (by omega) (by omega))
      have HDg := Lib.hid (fun k p (hk : (k : Nat) < 4) (hp : p = keyPit f (28 + tonicK f m + d + 2 * (k : Int))) w => show Calls Try.prog 15 #[.int .i64 f, .bool m, p.v] w fun e w' => e = .returned (.tuple #[.int .i64 ((d + 2 * (k : Int)) % 7), .int .i64 0]) ∧ Below w.heap.size w w' by
        have := c_DegreeOf_in f m p w (by rw [hp]; exact HIn.out k hk)
        rwa [show (p.step - (28 + tonicK f m)) % 7 = (d + 2 * (k : Int)) % 7 by rw [hp]; unfold keyPit; dsimp only; omega] at this)
      have h4 : t.length ≤ 4 := by rw [hl]; cases s <;> simp
      have h3 : 3 ≤ t.length := by rw [hl]; cases s <;> simp
      have HL := Lib.hid hl
      have hn0' : ((t.length : Int) == 0) = false := beq_eq_false_iff_ne.2 (by omega)
      obtain ⟨_, Ax4, cx4, he4, _, _, hAx4⟩ := HX4.out
      cases he4
      have HAX := Lib.hid hAx4
      have HS := Lib.hid S
      clear hAx4 S hnm hdeg hn hl hget
      go_wp2_with fail
      go_loopw [8] (fun i wr => ∃ k : Nat, k ≤ t.length ∧ i = .int .i64 k ∧ Below w4.heap.size w4 wr) (fun i _ => t.length - (intOf i).toNat)
      case atStart => exact ⟨0, by omega, rfl, Below.refl _ _⟩
      case round =>
        obtain ⟨k, hk, rfl, hbl⟩ := hrel
        have hz := hbl.size
        by_cases hlt : k < t.length
        · obtain ⟨b1, off, rfl, hcc⟩ := HAX.out (by omega)
          obtain ⟨p0, p1, p2⟩ := pit_at (fun j u hu => below_cell hbl (hcc j u hu)) k hlt
          have hp := HGet.out k hlt
          have hk1 : (0 : Int) ≤ (k : Int) := by omega
          have hk2 : (k : Int) < (t.length : Int) := by omega
          have hk4 : (k : Int) < 4 := by omega
          generalize t[k] = x at *
          obtain ⟨xs, xa, xo⟩ := x
          dsimp only at p0 p1 p2
          have HD := Lib.hid (HDg.out k ⟨xs, xa, xo⟩ (by omega) hp)
          have HK := Lib.hid (fun w => c_InKey f ⟨xs, xa, xo⟩ w (by rw [hp]; exact HIn.out k (by omega)))
          clear hcc hp
          go_wp2_with fail
          (go_at_call 15; (with_reducible refine (HD.out _).mono ?_); rintro e w5 ⟨rfl, hb5⟩)
          have p0 := below_cell hb5 p0
          have p1 := below_cell hb5 p1
          have p2 := below_cell hb5 p2
          have hbl := hbl.trans (hb5.mono hz)
          have hz := hbl.size
          clear hb5
          go_wp2_with fail
          (go_at_call 16; (with_reducible refine (HK.out _).mono ?_); rintro e w6 ⟨rfl, hb6⟩)
          have hbl := hbl.trans (hb6.mono hz)
          clear p0 p1 p2
          go_wp2_with fail
          go_roundw
          case rel => exact ⟨k + 1, by omega, by go_num, hbl⟩
          case measure => simp [intOf]; omega
        · have HX5 := Lib.hid (HX4.out.below (Nat.le_refl _) hbl)
          have S := HS.out.trans (hbl.mono HS.out.size)
          cases s
          · have hl3 : ((t.length : Int) == 3) = true := by have := HL.out; simp at this; simp [this]
            go_wp2_with fail
            (go_at_call 17; (with_reducible refine (HNC.out _ _ HX5.out).mono ?_); rintro e w6 ⟨rfl, hb6⟩; have S := S.trans (hb6.mono S.size))
            have S := S.alloc S.size (.cells #[.int .i64 na, .int .i64 nb, .int .i64 4] 32)
            have HX6 := Lib.hid ((HX5.out.below (Nat.le_refl _) hb6).alloc (.cells #[.int .i64 na, .int .i64 nb, .int .i64 4] 32))
            go_wp2_with fail
            (go_at_call 18; (with_reducible refine (HDC.out _ _ HX6.out).mono ?_); rintro e w7 ⟨rfl, hb7⟩; have S := S.trans (hb7.mono S.size))
            go_wp2
            go_ret
            exact ⟨rfl, S⟩
          · have hl4 : ((t.length : Int) == 4) = true := by have := HL.out; simp at this; simp [this]
            go_wp2_with fail
            (go_at_call 17; (with_reducible refine (HNC.out _ _ HX5.out).mono ?_); rintro e w6 ⟨rfl, hb6⟩; have S := S.trans (hb6.mono S.size))
            have S := S.alloc S.size (.cells #[.int .i64 na, .int .i64 nb, .int .i64 4] 32)
            have HX6 := Lib.hid ((HX5.out.below (Nat.le_refl _) hb6).alloc (.cells #[.int .i64 na, .int .i64 nb, .int .i64 4] 32))
            go_wp2_with fail
            (go_at_call 18; (with_reducible refine (HDC.out _ _ HX6.out).mono ?_); rintro e w7 ⟨rfl, hb7⟩; have S := S.trans (hb7.mono S.size))
            go_wp2
            go_ret
            exact ⟨rfl, S⟩
  · have hln : 1048576 < (bs.length : Int) := by omega
    go_enter Try.func3, Try.ntmps3
    go_wp2
    go_ret
    exact ⟨rfl, Below.refl _ _⟩
end Go.Proofs.Ytiameebjcmnmeaa
