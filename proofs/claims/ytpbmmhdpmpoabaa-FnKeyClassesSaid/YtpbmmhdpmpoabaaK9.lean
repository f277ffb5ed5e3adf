/- Drawing a key; minor keys are major keys: the walk of FnMinorMajor. Conditions: none. -/
import Derived.Test.YtpbmmhdpmpoabaaK8
import Derived.Test.YtpbmmhdpmpoabaaD1
namespace Go.Proofs.Ytpbmmhdpmpoabaa
open Go.RowKit
set_option linter.unusedSimpArgs false
set_option linter.unusedVariables false
set_option maxHeartbeats 16000000
def DrewInt (g m : Nat) (w : World) (e : Ending) (w' : World) : Prop := ∃ x : Int, e = .returned (.int .i64 x) ∧ -1000 ≤ x ∧ x ≤ 1000 ∧ Rdr w' g m ∧ w.grownBy w' (some g)
theorem c_l20Fifths (g m : Nat) (n : Int) (w : World) (h : Rdr w g (m + 4)) (hn : n ≤ 1000000) (hn' : -1000000 ≤ n) :
    Calls Try.prog 63 #[.pointer (some ⟨g, 0, none⟩), .int .i64 n] w (DrewInt g m w) := by
  have hg := h.lt
  go_enter Try.func63, Try.ntmps63
  go_wp2_with fail
  (go_at_call 80; (with_reducible refine (c_odd g (m+3) _ _ ?_ hn hn').mono ?_); (focus (repeat' (first | (with_reducible assumption) | (with_reducible refine Rdr.alloc ?_ _) | (with_reducible refine Rdr.setCell ?_ ?_ _) | (with_reducible refine Rdr.drewN ?_ _) | (with_reducible refine Rdr.drew ?_) | (show _ < _; first | omega | (simp only [size_alloc', size_setCell', size_drew', size_drewN'] at *; omega))))); rintro e w1 ⟨b1, rfl, hrq, hgq⟩; have hsq := hgq.size; (try simp only [size_alloc', size_setCell', size_drew', size_drewN'] at hsq); skip)
  have HK1 := Lib.hid hgq
  clear hgq
  cases b1
  · have h2 : Rdr w1 g ((m + 2) + 1) := hrq
    clear hrq
    go_wp2_with fail
    (go_at_call 59; (with_reducible refine (c_pick g (m+2) _ _ ?_ (by omega) (by omega)).mono ?_); (focus (repeat' (first | (with_reducible assumption) | (with_reducible refine Rdr.alloc ?_ _) | (with_reducible refine Rdr.setCell ?_ ?_ _) | (with_reducible refine Rdr.drewN ?_ _) | (with_reducible refine Rdr.drew ?_) | (show _ < _; first | omega | (simp only [size_alloc', size_setCell', size_drew', size_drewN'] at *; omega))))); rintro e w2 ⟨x2, rfl, hx2, hy2, hz2, hrq, hgq⟩; have hsq := hgq.size; (try simp only [size_alloc', size_setCell', size_drew', size_drewN'] at hsq); skip)
    have hx2' := hy2 (by omega)
    have HK2 := Lib.hid (kp_trans HK1.out hgq)
    have h3 : Rdr w2 g ((m + 1) + 1) := hrq
    clear hgq hrq hy2
    go_wp2_with fail
    (go_at_call 59; (with_reducible refine (c_pick g (m+1) _ _ ?_ (by omega) (by omega)).mono ?_); (focus (repeat' (first | (with_reducible assumption) | (with_reducible refine Rdr.alloc ?_ _) | (with_reducible refine Rdr.setCell ?_ ?_ _) | (with_reducible refine Rdr.drewN ?_ _) | (with_reducible refine Rdr.drew ?_) | (show _ < _; first | omega | (simp only [size_alloc', size_setCell', size_drew', size_drewN'] at *; omega))))); rintro e w3 ⟨x3, rfl, hx3, hy3, hz3, hrq, hgq⟩; have hsq := hgq.size; (try simp only [size_alloc', size_setCell', size_drew', size_drewN'] at hsq); skip)
    have hx3' := hy3 (by omega)
    have HK3 := Lib.hid (kp_trans HK2.out hgq)
    have h4 : Rdr w3 g (m + 1) := hrq
    clear hgq hrq hy3
    go_wp2_with fail
    (go_at_call 59; (with_reducible refine (c_pick g (m) _ _ ?_ (by omega) (by omega)).mono ?_); (focus (repeat' (first | (with_reducible assumption) | (with_reducible refine Rdr.alloc ?_ _) | (with_reducible refine Rdr.setCell ?_ ?_ _) | (with_reducible refine Rdr.drewN ?_ _) | (with_reducible refine Rdr.drew ?_) | (show _ < _; first | omega | (simp only [size_alloc', size_setCell', size_drew', size_drewN'] at *; omega))))); rintro e w4 ⟨x4, rfl, hx4, hy4, hz4, hrq, hgq⟩; have hsq := hgq.size; (try simp only [size_alloc', size_setCell', size_drew', size_drewN'] at hsq); (try (refine keep_heap_g (b := w3.heap.size) hgq ?_ ?_ ?_; (first | omega | (simp only [size_alloc', size_setCell', size_drew', size_drewN']; omega)); omega; intro hkq; simp only [heap_alloc_get, heap_setCell_get, heap_drew_get, heap_drewN_get, size_alloc', size_setCell', size_drew', size_drewN', nat_simp1, nat_simp2, nat_simp3, nat_simp4, nat_simp5, if_true, if_false, Option.map_some, *] at hkq)); (try (refine ne_cps (a := w3.heap.size) (b := w4.heap.size) ?_ ?_; omega; intro _ _)); (try (refine ne_cps (a := w3.heap.size) (b := w4.heap.size + 1) ?_ ?_; omega; intro _ _)); (try (refine ne_cps (a := w3.heap.size) (b := w4.heap.size + 1 + 1) ?_ ?_; omega; intro _ _)); skip)
    have hx4' := hy4 (by omega)
    obtain ⟨y4, hc4, hm4⟩ := at_list [x2 - 7, 0, x3 - 2] (W := w4) (b := w3.heap.size) (by assumption) x4 hx4 (by simpa using hx4')
    have hyb : -1000 ≤ y4 ∧ y4 ≤ 1000 := by
      simp only [List.mem_cons, List.not_mem_nil, or_false] at hm4
      omega
    obtain ⟨hyb1, hyb2⟩ := hyb
    have HK4 := Lib.hid (kp_trans (kp_alloc HK3.out _) hgq)
    clear hm4
    go_wp2_with fail
    go_ret
    exact ⟨y4, rfl, hyb1, hyb2, hrq, HK4.out⟩
  · have h2 : Rdr w1 g ((m + 2) + 1) := hrq
    clear hrq
    go_wp2_with fail
    (go_at_call 59; (with_reducible refine (c_pick g (m+2) _ _ ?_ (by omega) (by omega)).mono ?_); (focus (repeat' (first | (with_reducible assumption) | (with_reducible refine Rdr.alloc ?_ _) | (with_reducible refine Rdr.setCell ?_ ?_ _) | (with_reducible refine Rdr.drewN ?_ _) | (with_reducible refine Rdr.drew ?_) | (show _ < _; first | omega | (simp only [size_alloc', size_setCell', size_drew', size_drewN'] at *; omega))))); rintro e w2 ⟨x2, rfl, hx2, hy2, hz2, hrq, hgq⟩; have hsq := hgq.size; (try simp only [size_alloc', size_setCell', size_drew', size_drewN'] at hsq); (try (refine keep_heap_g (b := w1.heap.size) hgq ?_ ?_ ?_; (first | omega | (simp only [size_alloc', size_setCell', size_drew', size_drewN']; omega)); omega; intro hkq; simp only [heap_alloc_get, heap_setCell_get, heap_drew_get, heap_drewN_get, size_alloc', size_setCell', size_drew', size_drewN', nat_simp1, nat_simp2, nat_simp3, nat_simp4, nat_simp5, if_true, if_false, Option.map_some, *] at hkq)); (try (refine ne_cps (a := w1.heap.size) (b := w2.heap.size) ?_ ?_; omega; intro _ _)); (try (refine ne_cps (a := w1.heap.size) (b := w2.heap.size + 1) ?_ ?_; omega; intro _ _)); (try (refine ne_cps (a := w1.heap.size) (b := w2.heap.size + 1 + 1) ?_ ?_; omega; intro _ _)); skip)
    have hx2' := hy2 (by omega)
    obtain ⟨y4, hc4, hm4⟩ := at_list [-8, 8] (W := w2) (b := w1.heap.size) (by assumption) x2 hx2 (by simpa using hx2')
    have hyb : -1000 ≤ y4 ∧ y4 ≤ 1000 := by
      simp only [List.mem_cons, List.not_mem_nil, or_false] at hm4
      omega
    obtain ⟨hyb1, hyb2⟩ := hyb
    have HK2 := Lib.hid (kp_trans (kp_alloc HK1.out _) hgq)
    clear hm4
    go_wp2_with fail
    go_ret
    exact ⟨y4, rfl, hyb1, hyb2, hrq.mono (by omega), HK2.out⟩
theorem c_DrawKeyScale (v : Value) (bs : List Int) (w : World) (h : Rd w v 1 bs.length (byteCells bs)) (hb : ∀ x ∈ bs, 0 ≤ x ∧ x ≤ 255) :
    Calls Try.prog 32 #[v] w fun e w' => ∃ (f : Int) (m : Bool), e = .returned (.tuple #[.int .i64 f, .bool m]) ∧ -1000 ≤ f ∧ f ≤ 1000 ∧ Below w.heap.size w w' := by
  go_enter Try.func32, Try.ntmps32
  go_wp2_with fail
  (go_at_call 54; (with_reducible refine (c_open _ _ _ (h) hb).mono ?_); rintro e w1 ⟨g, rfl, hg, hr1, hbq⟩; have hzq := hbq.size; (try simp only [size_alloc', size_setCell', size_drew', size_drewN'] at hzq hg); (try (refine keep_heap (b := w.heap.size) hbq ?_ ?_; (first | omega | (simp only [size_alloc', size_setCell', size_drew', size_drewN']; omega)); intro hkq; simp only [heap_alloc_get, heap_setCell_get, heap_drew_get, heap_drewN_get, size_alloc', size_setCell', size_drew', size_drewN', nat_simp1, nat_simp2, nat_simp3, nat_simp4, nat_simp5, if_true, if_false, *] at hkq; obtain ⟨_, _⟩ := blk_facts hkq)); (try (refine ne_cps (a := w.heap.size) (b := w1.heap.size) ?_ ?_; omega; intro _ _)); (try (refine ne_cps (a := w.heap.size) (b := w1.heap.size + 1) ?_ ?_; omega; intro _ _)); (try (refine ne_cps (a := w.heap.size) (b := w1.heap.size + 1 + 1) ?_ ?_; omega; intro _ _)); skip)
  have HB1 := Lib.hid hbq
  have hr2 : Rdr w1 g ((1 + 100) + 4) := hr1.mono (by omega)
  clear hr1 hbq
  go_wp2_with fail
  (go_at_call 63; (with_reducible refine (c_l20Fifths g (1+100) _ _ ?_ (by omega) (by omega)).mono ?_); (focus (repeat' (first | (with_reducible assumption) | (with_reducible refine Rdr.alloc ?_ _) | (with_reducible refine Rdr.setCell ?_ ?_ _) | (with_reducible refine Rdr.drewN ?_ _) | (with_reducible refine Rdr.drew ?_) | (show _ < _; first | omega | (simp only [size_alloc', size_setCell', size_drew', size_drewN'] at *; omega))))); rintro e w2 ⟨f, rfl, hf1, hf2, hrq, hgq⟩; have hsq := hgq.size; (try simp only [size_alloc', size_setCell', size_drew', size_drewN'] at hsq); skip)
  have HK2 := Lib.hid hgq
  clear hgq
  have h3 : Rdr w2 g (100 + 1) := hrq.mono (by omega)
  clear hrq
  go_wp2_with fail
  (go_at_call 59; (with_reducible refine (c_pick g (100) _ _ ?_ (by omega) (by omega)).mono ?_); (focus (repeat' (first | (with_reducible assumption) | (with_reducible refine Rdr.alloc ?_ _) | (with_reducible refine Rdr.setCell ?_ ?_ _) | (with_reducible refine Rdr.drewN ?_ _) | (with_reducible refine Rdr.drew ?_) | (show _ < _; first | omega | (simp only [size_alloc', size_setCell', size_drew', size_drewN'] at *; omega))))); rintro e w3 ⟨x3, rfl, hx3, hy3, hz3, hrq, hgq⟩; have hsq := hgq.size; (try simp only [size_alloc', size_setCell', size_drew', size_drewN'] at hsq); skip)
  have hx3' := hy3 (by omega)
  have HK3 := Lib.hid (kp_trans HK2.out hgq)
  go_wp2_with fail
  go_ret2
  exact ⟨f, _, rfl, hf1, hf2, below_of_kp HB1.out HK3.out (by omega) HB1.out.size⟩
theorem c_InKey (f : Int) (p : Pit) (w : World) (hk : inKey f p = true) :
    Calls Try.prog 36 #[.int .i64 f, p.v] w fun e w' => e = .returned (.bool true) ∧ Below w.heap.size w w' := by
  obtain ⟨s, a, o⟩ := p
  unfold inKey at hk
  rw [Bool.and_eq_true, Bool.and_eq_true, decide_eq_true_eq] at hk
  obtain ⟨⟨hf, hv⟩, ha⟩ := hk
  obtain ⟨x, hx⟩ : ∃ x, alterK f s = x := ⟨_, rfl⟩
  dsimp only at ha
  rw [hx] at ha
  subst ha
  have hs : 0 ≤ s ∧ s ≤ 6 := by
    have := hv
    unfold pitchValid at this
    simp only [Bool.and_eq_true, inB_iff] at this
    exact this.1.1
  obtain ⟨hs0, hs6⟩ := hs
  have HKA := Lib.hid (fun w => show Calls Try.prog 69 #[.int .i64 f, .int .i64 s] w fun e w' => e = .returned (.int .i64 a) ∧ Below w.heap.size w w' by have := c_KeyAlter f s w hf hs0 hs6; rw [hx] at this; exact this)
  have HK := Lib.hid (fun w => show Calls Try.prog 64 #[.int .i64 f] w fun e w' => e = .returned (.bool true) ∧ w = w' by have := c_isKey f w; rw [hf] at this; exact this)
  have HP := Lib.hid (fun w => show Calls Try.prog 55 #[.agg #[.int .i64 s, .int .i64 a, .int .i64 o]] w fun e w' => e = .returned (.bool true) ∧ Below w.heap.size w w' by have := c_PitchValid ⟨s, a, o⟩ w; rw [hv] at this; exact this)
  clear hx hf hv
  go_enter Try.func36, Try.ntmps36
  go_wp2_with fail
  (refine wp_region_more_lit (by kernel_rfl) (by kernel_rfl) ?_; (repeat (go_big_quiet_step ((first | (go_at_call 64; with_reducible exact Calls.more_same (HK.out _)) | (go_at_call 55; with_reducible exact Calls.more_of (HP.out _)) | (go_at_call 69; with_reducible exact Calls.more_of (HKA.out _)))))); refine wpQuiet_nil ?_; intro wq hwq; have hbq := below_of_more hwq; clear hwq; have hzq := hbq.size; (try simp only [size_alloc', size_setCell', size_drew', size_drewN'] at hzq); (try (refine keep_heap (b := w.heap.size) hbq ?_ ?_; (first | omega | (simp only [size_alloc', size_setCell', size_drew', size_drewN']; omega)); intro hkq; simp only [heap_alloc_get, heap_setCell_get, heap_drew_get, heap_drewN_get, size_alloc', size_setCell', size_drew', size_drewN', nat_simp1, nat_simp2, nat_simp3, nat_simp4, nat_simp5, if_true, if_false, *] at hkq; obtain ⟨_, _⟩ := blk_facts hkq)); skip)
  go_wp2
  go_ret
  exact ⟨by simp, by (repeat' (first | (with_reducible exact Below.refl _ _) | (with_reducible refine Below.setCell ?_ ?_ _) | (with_reducible refine Below.alloc ?_ ?_ _) | (with_reducible refine Below.drew ?_) | (with_reducible refine below_drewN ?_ _) | (with_reducible refine Below.trans ?_ (Below.mono (by with_reducible assumption) ?_)) | omega | (simp only [size_alloc', size_setCell', size_drew', size_drewN'] at *; omega)))⟩
theorem keyScale_len {f : Int} (h : inB f (-7) 7 = true) (m : Bool) : (keyScale f m).length = 8 := by
  unfold keyScale; rw [if_pos h, scaleTo_len]
theorem keyScale_no {f : Int} (h : inB f (-7) 7 = false) (m : Bool) : keyScale f m = [] := by
  unfold keyScale; rw [if_neg (by rw [h]; simp)]
set_option maxRecDepth 100000 in
theorem walk_FnMinorMajor (w : World) (v : Value) (bs : List Int) (h : Rd w v 1 bs.length (byteCells bs)) (hb : ∀ x ∈ bs, 0 ≤ x ∧ x ≤ 255) :
    Calls Try.prog 9 #[v] w fun e w' => e = .returned (.bool true) ∧ Below w.heap.size w w' := by
  have h' := Lib.hid h
  obtain ⟨_, A, c, rfl, hnc, hcm, hA⟩ := h
  unfold maxLen at hcm
  clear hA
  have HBB := Lib.hid hb
  clear hb
  by_cases hlen : (bs.length : Int) ≤ 1048576
  · have hln : ¬ (1048576 < (bs.length : Int)) := by omega
    go_enter Try.func9, Try.ntmps9
    go_wp2_with fail
    (go_at_call 32; (with_reducible refine (c_DrawKeyScale _ bs _ h'.out HBB.out).mono ?_); rintro e w1 ⟨f, m, rfl, hf1, hf2, hb1⟩)
    have S := hb1
    go_wp2_with fail
    (go_at_call 34; (with_reducible refine (c_KeyScale f m _).mono ?_); rintro e w2 ⟨v2, rfl, ho2, hb2⟩; have S := S.trans (hb2.mono S.size))
    have HR2 := Lib.hid (Rd.of_own ho2)
    clear ho2
    go_wp2_with fail
    (go_at_call 35; (with_reducible refine (c_sKeyScale f m _).mono ?_); rintro e w3 ⟨v3, rfl, ho3, hb3⟩; have S := S.trans (hb3.mono S.size))
    have HR3 := Lib.hid (Rd.of_own ho3)
    have HQ3 := Lib.hid (HR2.out.below (Nat.le_refl _) hb3)
    clear ho3
    go_wp2_with fail
    (go_at_call 33; (with_reducible refine (c_samePitches_eq _ _ (keyScale f m) _ HQ3.out HR3.out).mono ?_); rintro e w4 ⟨rfl, hb4⟩; have S := S.trans (hb4.mono S.size))
    go_wp2_with fail
    (go_at_call 34; (with_reducible refine (c_KeyScale f false _).mono ?_); rintro e w5 ⟨v5, rfl, ho5, hb5⟩; have S := S.trans (hb5.mono S.size))
    have HR5 := Lib.hid (Rd.of_own ho5)
    clear ho5
    go_wp2_with fail
    (go_at_call 34; (with_reducible refine (c_KeyScale f true _).mono ?_); rintro e w6 ⟨v6, rfl, ho6, hb6⟩; have S := S.trans (hb6.mono S.size))
    have HR6 := Lib.hid (Rd.of_own ho6)
    have HQ5 := Lib.hid (HR5.out.below (Nat.le_refl _) hb6)
    clear ho6
    cases hf : inB f (-7) 7
    · have hla := Lib.hid (keyScale_no hf false)
      have hlb := Lib.hid (keyScale_no hf true)
      obtain ⟨_, A5, c5, rfl, hn5, hm5, _⟩ := HQ5.out
      obtain ⟨_, A6, c6, rfl, hn6, hm6, _⟩ := HR6.out
      unfold maxLen at hm5 hm6
      rw [hla.out, hlb.out]
      simp only [List.length_nil]
      clear hf
      go_wp2_with fail
      (go_at_call 19; (with_reducible refine (c_alive _).mono ?_); rintro e w7 ⟨rfl, hb7⟩; have S := S.trans (hb7.mono S.size))
      go_wp2
      go_ret
      exact ⟨rfl, S⟩
    · obtain ⟨hcls, hall, hdiff⟩ := minorMajor hf
      have hla := keyScale_len hf false
      have hlb := keyScale_len hf true
      obtain ⟨Xa, hXa⟩ : ∃ X, keyScale f false = X := ⟨_, rfl⟩
      obtain ⟨Xb, hXb⟩ : ∃ X, keyScale f true = X := ⟨_, rfl⟩
      rw [hXa, hXb] at hcls hdiff
      rw [hXb] at hall hlb HR6
      rw [hXa] at hla HQ5
      have HALL := Lib.hid (show ∀ i (h : i < Xb.length), inKey f Xb[i] = true from fun i h => (List.all_eq_true.1 hall) _ (List.getElem_mem h))
      have HCLS := Lib.hid hcls
      have HDIFF := Lib.hid hdiff
      have HLA := Lib.hid hla
      have HLB := Lib.hid hlb
      obtain ⟨_, A5, c5, rfl, hn5, hm5, hA5⟩ := HQ5.out
      obtain ⟨_, A6, c6, rfl, hn6, hm6, hA6⟩ := HR6.out
      unfold maxLen at hm5 hm6
      obtain ⟨b5, o5, rfl, hc5⟩ := hA5 (by omega)
      obtain ⟨b6, o6, rfl, hc6⟩ := hA6 (by omega)
      have HC5 := Lib.hid hc5
      have HC6 := Lib.hid hc6
      have HS := Lib.hid S
      have hla0 : ((Xa.length : Int) == 0) = false := by simp only [beq_eq_false_iff_ne, ne_eq]; omega
      have hla1 : 8 ≤ Xa.length := by omega
      have hlb1 : 8 ≤ Xb.length := by omega
      have hlb2 : Xb.length ≤ 8 := by omega
      clear hA5 hA6 hc5 hc6 hall hcls hdiff hla hlb hXa hXb
      go_wp2_with fail
      go_loopw [7] (fun i wr => ∃ k : Nat, k ≤ Xb.length ∧ i = .int .i64 k ∧ Below w6.heap.size w6 wr) (fun i _ => Xb.length - (intOf i).toNat)
      case atStart => exact ⟨0, Nat.zero_le _, rfl, Below.refl _ _⟩
      case round =>
        obtain ⟨k, hk, rfl, hbl⟩ := hrel
        have hz := hbl.size
        by_cases hlt : k < Xb.length
        · obtain ⟨p0, p1, p2⟩ := pit_at (fun j u hu => below_cell hbl (HC6.out j u hu)) k hlt
          have HIK := Lib.hid (HALL.out k hlt)
          have hk1 : (0 : Int) ≤ (k : Int) := by omega
          have hk2 : (k : Int) < (Xb.length : Int) := by omega
          generalize Xb[k] = x at *
          obtain ⟨xs, xa, xo⟩ := x
          dsimp only at p0 p1 p2
          go_wp2_with fail
          (go_at_call 36; (with_reducible refine (c_InKey f ⟨xs, xa, xo⟩ _ HIK.out).mono ?_); rintro e wq ⟨rfl, hbq⟩)
          go_wp2_with fail
          go_roundw
          case rel => exact ⟨k + 1, by omega, by go_num, hbl.trans (hbq.mono hz)⟩
          case measure => simp [intOf]; omega
        · obtain ⟨p0, p1, p2⟩ := pit_at (fun j u hu => below_cell hbl (HC6.out j u hu)) 0 (by omega)
          obtain ⟨q0, q1, q2⟩ := pit_at (fun j u hu => below_cell hbl (HC5.out j u hu)) 0 (by omega)
          have HPB := Lib.hid (pk_get (ns := Xb) (i := 0) (by omega))
          have HPA := Lib.hid (pk_get (ns := Xa) (i := 0) (by omega))
          generalize Xb[0] = x at *
          generalize Xa[0] = y at *
          obtain ⟨xs, xa, xo⟩ := x
          obtain ⟨ys, ya, yo⟩ := y
          simp only [Nat.zero_mul, Nat.add_zero, Nat.zero_add] at p0 p1 p2 q0 q1 q2
          obtain ⟨X, hX⟩ : ∃ X, keyOf ⟨xs, xa, xo⟩ = X := ⟨_, rfl⟩
          obtain ⟨Y, hY⟩ : ∃ Y, keyOf ⟨ys, ya, yo⟩ = Y := ⟨_, rfl⟩
          have hXb := keyOf_bd ⟨xs, xa, xo⟩
          have hYb := keyOf_bd ⟨ys, ya, yo⟩
          rw [hX] at hXb HPB
          rw [hY] at hYb HPA
          obtain ⟨hX1, hX2⟩ := hXb
          obtain ⟨hY1, hY2⟩ := hYb
          obtain ⟨D, hD⟩ : ∃ D, X - Y = D := ⟨_, rfl⟩
          have hD9 : D = 9 ∨ D = -3 := by have := HDIFF.out; rw [HPB.out, HPA.out] at this; omega
          have HXK := Lib.hid (fun w => show Calls Try.prog 20 #[.agg #[.int .i64 xs, .int .i64 xa, .int .i64 xo]] w fun e w' => e = .returned (.int .i64 X) ∧ Below w.heap.size w w' by have := c_PitchKey ⟨xs, xa, xo⟩ w; rw [hX] at this; exact this)
          have HYK := Lib.hid (fun w => show Calls Try.prog 20 #[.agg #[.int .i64 ys, .int .i64 ya, .int .i64 yo]] w fun e w' => e = .returned (.int .i64 Y) ∧ Below w.heap.size w w' by have := c_PitchKey ⟨ys, ya, yo⟩ w; rw [hY] at this; exact this)
          clear hX hY
          have hl5 : (0 : Int) < (Xa.length : Int) := by omega
          have hl6 : (0 : Int) < (Xb.length : Int) := by omega
          have hl5n : 0 < Xa.length := by omega
          have hl6n : 0 < Xb.length := by omega
          obtain ⟨wo, rfl⟩ : ∃ wo : World, wo = wr := ⟨_, rfl⟩
          have HBO := Lib.hid hbl
          clear hbl
          go_wp2_with fail
          (refine wp_region_more_lit (by kernel_rfl) (by kernel_rfl) ?_; (repeat (go_big_quiet_step ((first | (go_at_call 20; with_reducible exact Calls.more_of (HXK.out _)) | (go_at_call 20; with_reducible exact Calls.more_of (HYK.out _)))))); refine wpQuiet_nil ?_; intro wq hwq; have hbq := below_of_more hwq; clear hwq; have hzq := hbq.size; (try simp only [size_alloc', size_setCell', size_drew', size_drewN'] at hzq); (try (refine keep_heap (b := w.heap.size) hbq ?_ ?_; (first | omega | (simp only [size_alloc', size_setCell', size_drew', size_drewN']; omega)); intro hkq; simp only [heap_alloc_get, heap_setCell_get, heap_drew_get, heap_drewN_get, size_alloc', size_setCell', size_drew', size_drewN', nat_simp1, nat_simp2, nat_simp3, nat_simp4, nat_simp5, if_true, if_false, *] at hkq; obtain ⟨_, _⟩ := blk_facts hkq)); skip)
          have HBQ := Lib.hid (HBO.out.trans (hbq.mono hz))
          have HA7 := Lib.hid (HQ5.out.below (Nat.le_refl _) HBQ.out)
          have HB7 := Lib.hid (HR6.out.below (Nat.le_refl _) HBQ.out)
          have S := HS.out.trans (HBQ.out.mono HS.out.size)
          go_wp2_with fail
          (go_at_call 25; (with_reducible refine (c_KeyClasses _ Xa _ HA7.out).mono ?_); rintro e w8 ⟨v8, rfl, ho8, hb8⟩; have S := S.trans (hb8.mono S.size))
          have HR8 := Lib.hid (Rd.of_own ho8)
          have HB8 := Lib.hid (HB7.out.below (Nat.le_refl _) hb8)
          clear ho8
          go_wp2_with fail
          (go_at_call 25; (with_reducible refine (c_KeyClasses _ Xb _ HB8.out).mono ?_); rintro e w9 hpost; rw [← HCLS.out] at hpost; obtain ⟨v9, rfl, ho9, hb9⟩ := hpost; have S := S.trans (hb9.mono S.size))
          have HR9 := Lib.hid (Rd.of_own ho9)
          have HQ9 := Lib.hid (HR8.out.below (Nat.le_refl _) hb9)
          clear ho9
          go_wp2_with fail
          (go_at_call 31; (with_reducible refine (c_sameInts_eq _ _ (keyCls Xa) _ HQ9.out HR9.out).mono ?_); rintro e w10 ⟨rfl, hb10⟩; have S := S.trans (hb10.mono S.size))
          rcases hD9 with rfl | rfl
          all_goals
            go_wp2
            go_ret
            exact ⟨rfl, S⟩
  · have hln : 1048576 < (bs.length : Int) := by omega
    go_enter Try.func9, Try.ntmps9
    go_wp2
    go_ret
    exact ⟨rfl, Below.refl _ _⟩
end Go.Proofs.Ytpbmmhdpmpoabaa
