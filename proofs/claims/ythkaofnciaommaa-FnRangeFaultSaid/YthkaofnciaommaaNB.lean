/- RangeFault on both sides, and the walk of its exact law. Conditions: none. -/
import Derived.Test.YthkaofnciaommaaN9
namespace Go.Proofs.Ythkaofnciaommaa
open Go.RowKit
set_option linter.unusedSimpArgs false
set_option linter.unusedVariables false
set_option maxHeartbeats 8000000

def faultAt (i : Ins) (n : Nt) : Bool := !n.rest && !inB (keyOf n.tone) i.low i.high
def faultV (i : Ins) (ns : List Nt) : Int := if insValid i = true ∧ voiceValid ns = true then (match ns.findIdx? (faultAt i) with | some k => (k : Int) | none => -1) else -1
theorem fault_no {i : Ins} {ns : List Nt} (h : ¬ (insValid i = true ∧ voiceValid ns = true)) : faultV i ns = -1 := if_neg h
theorem fault_hit {i : Ins} {ns : List Nt} (h1 : insValid i = true) (h2 : voiceValid ns = true) {k : Nat} (hk : k < ns.length) (hp : ∀ j (hj : j < ns.length), j < k → faultAt i ns[j] = false) (h : faultAt i ns[k] = true) : faultV i ns = k := by
  unfold faultV
  rw [if_pos ⟨h1, h2⟩, List.findIdx?_eq_some_iff_getElem.2 ⟨hk, h, fun j hj => by rw [hp j (by omega) hj]; exact Bool.false_ne_true⟩]
theorem fault_none {i : Ins} {ns : List Nt} (h1 : insValid i = true) (h2 : voiceValid ns = true) (hp : ∀ j (hj : j < ns.length), j < ns.length → faultAt i ns[j] = false) : faultV i ns = -1 := by
  unfold faultV
  rw [if_pos ⟨h1, h2⟩, List.findIdx?_eq_none_iff.2 fun x hx => by
    obtain ⟨j, hj, rfl⟩ := List.getElem_of_mem hx
    exact hp j hj hj]
theorem c_sRangeFault (s h l m : Int) (v : Value) (ns : List Nt) (w : World) (hr : Rd w v 6 ns.length (ntCells ns)) :
    Calls Try.prog 19 #[.agg #[.int .i64 s, .int .i64 h, .int .i64 l, .int .i64 m], v] w fun e w' => e = .returned (.int .i64 (faultV ⟨s, h, l, m⟩ ns)) ∧ Below w.heap.size w w' := by
  have HRw := Lib.hid hr
  obtain ⟨_, A, c, rfl, hnc, hcm, hA⟩ := hr
  have HAA := Lib.hid hA
  clear hA
  unfold maxLen at hcm
  go_enter Try.func19, Try.ntmps19
  go_wp2
  go_loopw [5] (fun j wr => ∃ k : Nat, k ≤ ns.length ∧ j = .int .i64 k ∧ wr.heap[w.heap.size]? = some (.cells #[.int .i64 s, .int .i64 h, .int .i64 l, .int .i64 m] 29 (0, 0)) ∧ Below w.heap.size w wr ∧ (0 < k → insValid ⟨s, h, l, m⟩ = true ∧ voiceValid ns = true) ∧ ∀ j (hj : j < ns.length), j < k → faultAt ⟨s, h, l, m⟩ ns[j] = false) (fun j _ => ns.length - (intOf j).toNat)
  case atStart => exact ⟨0, Nat.zero_le _, rfl, heap_alloc_new _ _, by (repeat' (first | (with_reducible exact Below.refl _ _) | (with_reducible refine Below.setCell ?_ ?_ _) | (with_reducible refine Below.alloc ?_ ?_ _) | (with_reducible refine Below.drew ?_) | (with_reducible refine below_drewN ?_ _) | (with_reducible refine Below.trans ?_ (Below.mono (by with_reducible assumption) ?_)) | omega | (simp only [size_alloc', size_setCell', size_drew', size_drewN'] at *; omega))), fun h0 => absurd h0 (by omega), fun j _ hj => absurd hj (by omega)⟩
  case round =>
    obtain ⟨k, hk, rfl, hX, hbl, hv0, hok⟩ := hrel
    have HV0 := Lib.hid hv0
    have HOK := Lib.hid hok
    clear hv0 hok
    have hz := hbl.size
    have hXl : w.heap.size < wr.heap.size := (Array.getElem?_eq_some_iff.1 hX).1
    obtain ⟨_, _⟩ := blk_facts hX
    by_cases hlt : k < ns.length
    · cases h1 : insValid ⟨s, h, l, m⟩
      · have HV := Lib.hid (fault_no (i := ⟨s, h, l, m⟩) (ns := ns) (by rw [h1]; simp))
        go_wp2_with fail
        (go_at_call 13; (with_reducible refine (c_sInstrumentValid s h l m _).mono ?_); rintro e wq ⟨rfl, hbq⟩; have hzq := hbq.size; (try simp only [size_alloc', size_setCell', size_drew', size_drewN'] at hzq); (try (refine keep_heap (b := w.heap.size) hbq ?_ ?_; (first | omega | (simp only [size_alloc', size_setCell', size_drew', size_drewN']; omega)); intro hkq; simp only [heap_alloc_get, heap_setCell_get, heap_drew_get, heap_drewN_get, size_alloc', size_setCell', size_drew', size_drewN', nat_simp1, nat_simp2, nat_simp3, nat_simp4, nat_simp5, if_true, if_false, *] at hkq; obtain ⟨_, _⟩ := blk_facts hkq)); skip)
        rw [h1]
        go_wp2
        go_ret
        exact ⟨ret_int HV.out.symm, by (repeat' (first | (with_reducible exact Below.refl _ _) | (with_reducible refine Below.setCell ?_ ?_ _) | (with_reducible refine Below.alloc ?_ ?_ _) | (with_reducible refine Below.drew ?_) | (with_reducible refine below_drewN ?_ _) | (with_reducible refine Below.trans ?_ (Below.mono (by with_reducible assumption) ?_)) | omega | (simp only [size_alloc', size_setCell', size_drew', size_drewN'] at *; omega)))⟩
      · cases h2 : voiceValid ns
        · have HV := Lib.hid (fault_no (i := ⟨s, h, l, m⟩) (ns := ns) (by rw [h2]; simp))
          go_wp2_with fail
          (go_at_call 13; (with_reducible refine (c_sInstrumentValid s h l m _).mono ?_); rintro e wq ⟨rfl, hbq⟩; have hzq := hbq.size; (try simp only [size_alloc', size_setCell', size_drew', size_drewN'] at hzq); (try (refine keep_heap (b := w.heap.size) hbq ?_ ?_; (first | omega | (simp only [size_alloc', size_setCell', size_drew', size_drewN']; omega)); intro hkq; simp only [heap_alloc_get, heap_setCell_get, heap_drew_get, heap_drewN_get, size_alloc', size_setCell', size_drew', size_drewN', nat_simp1, nat_simp2, nat_simp3, nat_simp4, nat_simp5, if_true, if_false, *] at hkq; obtain ⟨_, _⟩ := blk_facts hkq)); skip)
          rw [h1]
          have hB1 : Below w.heap.size w wq := by (repeat' (first | (with_reducible exact Below.refl _ _) | (with_reducible refine Below.setCell ?_ ?_ _) | (with_reducible refine Below.alloc ?_ ?_ _) | (with_reducible refine Below.drew ?_) | (with_reducible refine below_drewN ?_ _) | (with_reducible refine Below.trans ?_ (Below.mono (by with_reducible assumption) ?_)) | omega | (simp only [size_alloc', size_setCell', size_drew', size_drewN'] at *; omega)))
          go_wp2_with fail
          (go_at_call 24; (with_reducible refine (c_sVoiceValid _ ns _ (HRw.out.below (Nat.le_refl _) hB1)).mono ?_); rintro e w2 ⟨rfl, hbq⟩; have hzq := hbq.size; (try simp only [size_alloc', size_setCell', size_drew', size_drewN'] at hzq); (try (refine keep_heap (b := w.heap.size) hbq ?_ ?_; (first | omega | (simp only [size_alloc', size_setCell', size_drew', size_drewN']; omega)); intro hkq; simp only [heap_alloc_get, heap_setCell_get, heap_drew_get, heap_drewN_get, size_alloc', size_setCell', size_drew', size_drewN', nat_simp1, nat_simp2, nat_simp3, nat_simp4, nat_simp5, if_true, if_false, *] at hkq; obtain ⟨_, _⟩ := blk_facts hkq)); skip)
          rw [h2]
          go_wp2
          go_ret
          exact ⟨ret_int HV.out.symm, by (repeat' (first | (with_reducible exact Below.refl _ _) | (with_reducible refine Below.setCell ?_ ?_ _) | (with_reducible refine Below.alloc ?_ ?_ _) | (with_reducible refine Below.drew ?_) | (with_reducible refine below_drewN ?_ _) | (with_reducible refine Below.trans ?_ (Below.mono (by with_reducible assumption) ?_)) | omega | (simp only [size_alloc', size_setCell', size_drew', size_drewN'] at *; omega)))⟩
        · obtain ⟨b, off, rfl, hcc⟩ := HAA.out (by omega)
          go_wp2_with fail
          (go_at_call 13; (with_reducible refine (c_sInstrumentValid s h l m _).mono ?_); rintro e wq ⟨rfl, hbq⟩; have hzq := hbq.size; (try simp only [size_alloc', size_setCell', size_drew', size_drewN'] at hzq); (try (refine keep_heap (b := w.heap.size) hbq ?_ ?_; (first | omega | (simp only [size_alloc', size_setCell', size_drew', size_drewN']; omega)); intro hkq; simp only [heap_alloc_get, heap_setCell_get, heap_drew_get, heap_drewN_get, size_alloc', size_setCell', size_drew', size_drewN', nat_simp1, nat_simp2, nat_simp3, nat_simp4, nat_simp5, if_true, if_false, *] at hkq; obtain ⟨_, _⟩ := blk_facts hkq)); skip)
          rw [h1]
          have hB1 : Below w.heap.size w wq := by (repeat' (first | (with_reducible exact Below.refl _ _) | (with_reducible refine Below.setCell ?_ ?_ _) | (with_reducible refine Below.alloc ?_ ?_ _) | (with_reducible refine Below.drew ?_) | (with_reducible refine below_drewN ?_ _) | (with_reducible refine Below.trans ?_ (Below.mono (by with_reducible assumption) ?_)) | omega | (simp only [size_alloc', size_setCell', size_drew', size_drewN'] at *; omega)))
          go_wp2_with fail
          (go_at_call 24; (with_reducible refine (c_sVoiceValid _ ns _ (HRw.out.below (Nat.le_refl _) hB1)).mono ?_); rintro e w2 ⟨rfl, hbq⟩; have hzq := hbq.size; (try simp only [size_alloc', size_setCell', size_drew', size_drewN'] at hzq); (try (refine keep_heap (b := w.heap.size) hbq ?_ ?_; (first | omega | (simp only [size_alloc', size_setCell', size_drew', size_drewN']; omega)); intro hkq; simp only [heap_alloc_get, heap_setCell_get, heap_drew_get, heap_drewN_get, size_alloc', size_setCell', size_drew', size_drewN', nat_simp1, nat_simp2, nat_simp3, nat_simp4, nat_simp5, if_true, if_false, *] at hkq; obtain ⟨_, _⟩ := blk_facts hkq)); skip)
          rw [h2]
          have hB2 : Below w.heap.size w w2 := by (repeat' (first | (with_reducible exact Below.refl _ _) | (with_reducible refine Below.setCell ?_ ?_ _) | (with_reducible refine Below.alloc ?_ ?_ _) | (with_reducible refine Below.drew ?_) | (with_reducible refine below_drewN ?_ _) | (with_reducible refine Below.trans ?_ (Below.mono (by with_reducible assumption) ?_)) | omega | (simp only [size_alloc', size_setCell', size_drew', size_drewN'] at *; omega)))
          obtain ⟨c0, c1, c2, c3, c4, c5⟩ := nt_at (rd_later hB2 hcc) k hlt
          have HB2 := Lib.hid hB2
          clear hcc
          have hk1 : (0 : Int) ≤ (k : Int) := by omega
          have hk2 : (k : Int) < (ns.length : Int) := by omega
          cases hf : faultAt ⟨s, h, l, m⟩ ns[k]
          · have HS := Lib.hid (show ∀ j (hj : j < ns.length), j < k + 1 → faultAt ⟨s, h, l, m⟩ ns[j] = false from fun j hj hjk => by
              rcases Nat.lt_succ_iff_lt_or_eq.1 hjk with h3 | rfl
              · exact HOK.out j hj h3
              · exact hf)
            generalize ns[k] = n0 at *
            obtain ⟨r0, ⟨s0, a0, o0⟩, t0, td0⟩ := n0
            cases r0
            · have hin : inB (keyOf ⟨s0, a0, o0⟩) l m = true := by simpa [faultAt] using hf
              have hbd := keyOf_bd ⟨s0, a0, o0⟩
              clear hf
              go_wp2_with fail
              (refine wp_region_more_lit (by kernel_rfl) (by kernel_rfl) ?_; (repeat (go_big_quiet_step ((first | (go_at_call 47; with_reducible exact Calls.more_of (c_sPitchKey ⟨s0, a0, o0⟩ _)) | (go_at_call 42; with_reducible exact Calls.more_same (c_l1In _ _ _ _)))))); refine wpQuiet_nil ?_; intro wq hwq; have hbq := below_of_more hwq; clear hwq; have hzq := hbq.size; (try simp only [size_alloc', size_setCell', size_drew', size_drewN'] at hzq); (try (refine keep_heap (b := w.heap.size) hbq ?_ ?_; (first | omega | (simp only [size_alloc', size_setCell', size_drew', size_drewN']; omega)); intro hkq; simp only [heap_alloc_get, heap_setCell_get, heap_drew_get, heap_drewN_get, size_alloc', size_setCell', size_drew', size_drewN', nat_simp1, nat_simp2, nat_simp3, nat_simp4, nat_simp5, if_true, if_false, *] at hkq; obtain ⟨_, _⟩ := blk_facts hkq)); skip)
              rw [hin]
              go_wp2
              go_roundw
              case rel => exact ⟨k + 1, by omega, by go_num, hkq, by (repeat' (first | (with_reducible exact Below.refl _ _) | (with_reducible refine Below.setCell ?_ ?_ _) | (with_reducible refine Below.alloc ?_ ?_ _) | (with_reducible refine Below.drew ?_) | (with_reducible refine below_drewN ?_ _) | (with_reducible refine Below.trans ?_ (Below.mono (by with_reducible assumption) ?_)) | omega | (simp only [size_alloc', size_setCell', size_drew', size_drewN'] at *; omega))), by simp [h1, h2], HS.out⟩
              case measure => simp [intOf]; omega
            · clear hf
              go_wp2_with fail
              (refine wp_region_more_lit (by kernel_rfl) (by kernel_rfl) ?_; (repeat (go_big_quiet_step (fail))); refine wpQuiet_nil ?_; intro wq hwq; have hbq := below_of_more hwq; clear hwq; have hzq := hbq.size; (try simp only [size_alloc', size_setCell', size_drew', size_drewN'] at hzq); (try (refine keep_heap (b := w.heap.size) hbq ?_ ?_; (first | omega | (simp only [size_alloc', size_setCell', size_drew', size_drewN']; omega)); intro hkq; simp only [heap_alloc_get, heap_setCell_get, heap_drew_get, heap_drewN_get, size_alloc', size_setCell', size_drew', size_drewN', nat_simp1, nat_simp2, nat_simp3, nat_simp4, nat_simp5, if_true, if_false, *] at hkq; obtain ⟨_, _⟩ := blk_facts hkq)); skip)
              go_wp2
              go_roundw
              case rel => exact ⟨k + 1, by omega, by go_num, hkq, by (repeat' (first | (with_reducible exact Below.refl _ _) | (with_reducible refine Below.setCell ?_ ?_ _) | (with_reducible refine Below.alloc ?_ ?_ _) | (with_reducible refine Below.drew ?_) | (with_reducible refine below_drewN ?_ _) | (with_reducible refine Below.trans ?_ (Below.mono (by with_reducible assumption) ?_)) | omega | (simp only [size_alloc', size_setCell', size_drew', size_drewN'] at *; omega))), by simp [h1, h2], HS.out⟩
              case measure => simp [intOf]; omega
          · have HV := Lib.hid (fault_hit h1 h2 hlt HOK.out hf)
            generalize ns[k] = n0 at *
            obtain ⟨r0, ⟨s0, a0, o0⟩, t0, td0⟩ := n0
            cases r0
            · have hin : inB (keyOf ⟨s0, a0, o0⟩) l m = false := by simpa [faultAt] using hf
              clear hf
              go_wp2_with fail
              (refine wp_region_more_lit (by kernel_rfl) (by kernel_rfl) ?_; (repeat (go_big_quiet_step ((first | (go_at_call 47; with_reducible exact Calls.more_of (c_sPitchKey ⟨s0, a0, o0⟩ _)) | (go_at_call 42; with_reducible exact Calls.more_same (c_l1In _ _ _ _)))))); refine wpQuiet_nil ?_; intro wq hwq; have hbq := below_of_more hwq; clear hwq; have hzq := hbq.size; (try simp only [size_alloc', size_setCell', size_drew', size_drewN'] at hzq); (try (refine keep_heap (b := w.heap.size) hbq ?_ ?_; (first | omega | (simp only [size_alloc', size_setCell', size_drew', size_drewN']; omega)); intro hkq; simp only [heap_alloc_get, heap_setCell_get, heap_drew_get, heap_drewN_get, size_alloc', size_setCell', size_drew', size_drewN', nat_simp1, nat_simp2, nat_simp3, nat_simp4, nat_simp5, if_true, if_false, *] at hkq; obtain ⟨_, _⟩ := blk_facts hkq)); skip)
              rw [hin]
              go_wp2
              go_ret
              exact ⟨ret_int HV.out.symm, by (repeat' (first | (with_reducible exact Below.refl _ _) | (with_reducible refine Below.setCell ?_ ?_ _) | (with_reducible refine Below.alloc ?_ ?_ _) | (with_reducible refine Below.drew ?_) | (with_reducible refine below_drewN ?_ _) | (with_reducible refine Below.trans ?_ (Below.mono (by with_reducible assumption) ?_)) | omega | (simp only [size_alloc', size_setCell', size_drew', size_drewN'] at *; omega)))⟩
            · simp [faultAt] at hf
    · have HV := Lib.hid (show faultV ⟨s, h, l, m⟩ ns = -1 by
        by_cases hh : insValid ⟨s, h, l, m⟩ = true ∧ voiceValid ns = true
        · exact fault_none hh.1 hh.2 fun j hj _ => HOK.out j hj (by omega)
        · exact fault_no hh)
      go_wp2
      go_ret
      exact ⟨ret_int HV.out.symm, by (repeat' (first | (with_reducible exact Below.refl _ _) | (with_reducible refine Below.setCell ?_ ?_ _) | (with_reducible refine Below.alloc ?_ ?_ _) | (with_reducible refine Below.drew ?_) | (with_reducible refine below_drewN ?_ _) | (with_reducible refine Below.trans ?_ (Below.mono (by with_reducible assumption) ?_)) | omega | (simp only [size_alloc', size_setCell', size_drew', size_drewN'] at *; omega)))⟩
theorem c_RangeFault (s h l m : Int) (v : Value) (ns : List Nt) (w : World) (hr : Rd w v 6 ns.length (ntCells ns)) :
    Calls Try.prog 21 #[.agg #[.int .i64 s, .int .i64 h, .int .i64 l, .int .i64 m], v] w fun e w' => e = .returned (.int .i64 (faultV ⟨s, h, l, m⟩ ns)) ∧ Below w.heap.size w w' := by
  have HRw := Lib.hid hr
  obtain ⟨_, A, c, rfl, hnc, hcm, hA⟩ := hr
  have HAA := Lib.hid hA
  clear hA
  unfold maxLen at hcm
  cases h1 : insValid ⟨s, h, l, m⟩
  · have HV := Lib.hid (fault_no (i := ⟨s, h, l, m⟩) (ns := ns) (by rw [h1]; simp))
    rw [HV.out]
    go_enter Try.func21, Try.ntmps21
    go_wp2_with (go_at_call 15; (with_reducible refine (c_InstrumentValid s h l m _).mono ?_); rintro e wq ⟨rfl, hbq⟩; have hzq := hbq.size; (try simp only [size_alloc', size_setCell', size_drew', size_drewN'] at hzq); (try (refine keep_heap (b := w.heap.size) hbq ?_ ?_; (first | omega | (simp only [size_alloc', size_setCell', size_drew', size_drewN']; omega)); intro hkq; simp only [heap_alloc_get, heap_setCell_get, heap_drew_get, heap_drewN_get, size_alloc', size_setCell', size_drew', size_drewN', nat_simp1, nat_simp2, nat_simp3, nat_simp4, nat_simp5, if_true, if_false, *] at hkq; obtain ⟨_, _⟩ := blk_facts hkq)); skip)
    go_ret
    exact ⟨rfl, by (repeat' (first | (with_reducible exact Below.refl _ _) | (with_reducible refine Below.setCell ?_ ?_ _) | (with_reducible refine Below.alloc ?_ ?_ _) | (with_reducible refine Below.drew ?_) | (with_reducible refine below_drewN ?_ _) | (with_reducible refine Below.trans ?_ (Below.mono (by with_reducible assumption) ?_)) | omega | (simp only [size_alloc', size_setCell', size_drew', size_drewN'] at *; omega)))⟩
  · cases h2 : voiceValid ns
    · have HV := Lib.hid (fault_no (i := ⟨s, h, l, m⟩) (ns := ns) (by rw [h2]; simp))
      rw [HV.out]
      go_enter Try.func21, Try.ntmps21
      go_wp2_with fail
      (go_at_call 15; (with_reducible refine (c_InstrumentValid s h l m _).mono ?_); rintro e wq ⟨rfl, hbq⟩; have hzq := hbq.size; (try simp only [size_alloc', size_setCell', size_drew', size_drewN'] at hzq); (try (refine keep_heap (b := w.heap.size) hbq ?_ ?_; (first | omega | (simp only [size_alloc', size_setCell', size_drew', size_drewN']; omega)); intro hkq; simp only [heap_alloc_get, heap_setCell_get, heap_drew_get, heap_drewN_get, size_alloc', size_setCell', size_drew', size_drewN', nat_simp1, nat_simp2, nat_simp3, nat_simp4, nat_simp5, if_true, if_false, *] at hkq; obtain ⟨_, _⟩ := blk_facts hkq)); skip)
      have hB1 : Below w.heap.size w wq := by (repeat' (first | (with_reducible exact Below.refl _ _) | (with_reducible refine Below.setCell ?_ ?_ _) | (with_reducible refine Below.alloc ?_ ?_ _) | (with_reducible refine Below.drew ?_) | (with_reducible refine below_drewN ?_ _) | (with_reducible refine Below.trans ?_ (Below.mono (by with_reducible assumption) ?_)) | omega | (simp only [size_alloc', size_setCell', size_drew', size_drewN'] at *; omega)))
      go_wp2_with fail
      (go_at_call 39; (with_reducible refine (c_VoiceValid _ ns _ (HRw.out.below (Nat.le_refl _) hB1)).mono ?_); rintro e w2 ⟨rfl, hbq⟩; have hzq := hbq.size; (try simp only [size_alloc', size_setCell', size_drew', size_drewN'] at hzq); (try (refine keep_heap (b := w.heap.size) hbq ?_ ?_; (first | omega | (simp only [size_alloc', size_setCell', size_drew', size_drewN']; omega)); intro hkq; simp only [heap_alloc_get, heap_setCell_get, heap_drew_get, heap_drewN_get, size_alloc', size_setCell', size_drew', size_drewN', nat_simp1, nat_simp2, nat_simp3, nat_simp4, nat_simp5, if_true, if_false, *] at hkq; obtain ⟨_, _⟩ := blk_facts hkq)); skip)
      go_wp2
      go_ret
      exact ⟨rfl, by (repeat' (first | (with_reducible exact Below.refl _ _) | (with_reducible refine Below.setCell ?_ ?_ _) | (with_reducible refine Below.alloc ?_ ?_ _) | (with_reducible refine Below.drew ?_) | (with_reducible refine below_drewN ?_ _) | (with_reducible refine Below.trans ?_ (Below.mono (by with_reducible assumption) ?_)) | omega | (simp only [size_alloc', size_setCell', size_drew', size_drewN'] at *; omega)))⟩
    · go_enter Try.func21, Try.ntmps21
      go_wp2_with fail
      (go_at_call 15; (with_reducible refine (c_InstrumentValid s h l m _).mono ?_); rintro e wq ⟨rfl, hbq⟩; have hzq := hbq.size; (try simp only [size_alloc', size_setCell', size_drew', size_drewN'] at hzq); (try (refine keep_heap (b := w.heap.size) hbq ?_ ?_; (first | omega | (simp only [size_alloc', size_setCell', size_drew', size_drewN']; omega)); intro hkq; simp only [heap_alloc_get, heap_setCell_get, heap_drew_get, heap_drewN_get, size_alloc', size_setCell', size_drew', size_drewN', nat_simp1, nat_simp2, nat_simp3, nat_simp4, nat_simp5, if_true, if_false, *] at hkq; obtain ⟨_, _⟩ := blk_facts hkq)); skip)
      have hB1 : Below w.heap.size w wq := by (repeat' (first | (with_reducible exact Below.refl _ _) | (with_reducible refine Below.setCell ?_ ?_ _) | (with_reducible refine Below.alloc ?_ ?_ _) | (with_reducible refine Below.drew ?_) | (with_reducible refine below_drewN ?_ _) | (with_reducible refine Below.trans ?_ (Below.mono (by with_reducible assumption) ?_)) | omega | (simp only [size_alloc', size_setCell', size_drew', size_drewN'] at *; omega)))
      go_wp2_with fail
      (go_at_call 39; (with_reducible refine (c_VoiceValid _ ns _ (HRw.out.below (Nat.le_refl _) hB1)).mono ?_); rintro e w2 ⟨rfl, hbq⟩; have hzq := hbq.size; (try simp only [size_alloc', size_setCell', size_drew', size_drewN'] at hzq); (try (refine keep_heap (b := w.heap.size) hbq ?_ ?_; (first | omega | (simp only [size_alloc', size_setCell', size_drew', size_drewN']; omega)); intro hkq; simp only [heap_alloc_get, heap_setCell_get, heap_drew_get, heap_drewN_get, size_alloc', size_setCell', size_drew', size_drewN', nat_simp1, nat_simp2, nat_simp3, nat_simp4, nat_simp5, if_true, if_false, *] at hkq; obtain ⟨_, _⟩ := blk_facts hkq)); skip)
      have hB2 : Below w.heap.size w w2 := by (repeat' (first | (with_reducible exact Below.refl _ _) | (with_reducible refine Below.setCell ?_ ?_ _) | (with_reducible refine Below.alloc ?_ ?_ _) | (with_reducible refine Below.drew ?_) | (with_reducible refine below_drewN ?_ _) | (with_reducible refine Below.trans ?_ (Below.mono (by with_reducible assumption) ?_)) | omega | (simp only [size_alloc', size_setCell', size_drew', size_drewN'] at *; omega)))
      have HB2 := Lib.hid hB2
      have HX2 := Lib.hid hkq
      have HVA := Lib.hid (show insValid ⟨s, h, l, m⟩ = true ∧ voiceValid ns = true from ⟨h1, h2⟩)
      go_wp2
      clear h1 h2
      go_loopw [17] (fun j wr => ∃ k : Nat, k ≤ ns.length ∧ j = .int .i64 k ∧ wr.heap[w.heap.size]? = some (.cells #[.int .i64 s, .int .i64 h, .int .i64 l, .int .i64 m] 29 (0, 0)) ∧ Below w.heap.size w wr ∧ ∀ j (hj : j < ns.length), j < k → faultAt ⟨s, h, l, m⟩ ns[j] = false) (fun j _ => ns.length - (intOf j).toNat)
      case atStart => exact ⟨0, Nat.zero_le _, rfl, HX2.out, HB2.out, fun j _ hj => absurd hj (by omega)⟩
      case round =>
        obtain ⟨k, hk, rfl, hX, hbl, hok⟩ := hrel
        have HOK := Lib.hid hok
        clear hok
        have hz := hbl.size
        have hXl : w.heap.size < wr.heap.size := (Array.getElem?_eq_some_iff.1 hX).1
        obtain ⟨_, _⟩ := blk_facts hX
        by_cases hlt : k < ns.length
        · obtain ⟨b, off, rfl, hcc⟩ := HAA.out (by omega)
          obtain ⟨c0, c1, c2, c3, c4, c5⟩ := nt_at (rd_later hbl hcc) k hlt
          clear hcc
          have hne1 : (w.heap.size = wr.heap.size) = False := eq_false (by omega)
          have hne2 : (wr.heap.size = w.heap.size) = False := eq_false (by omega)
          cases hf : faultAt ⟨s, h, l, m⟩ ns[k]
          · have HS := Lib.hid (show ∀ j (hj : j < ns.length), j < k + 1 → faultAt ⟨s, h, l, m⟩ ns[j] = false from fun j hj hjk => by
              rcases Nat.lt_succ_iff_lt_or_eq.1 hjk with h3 | rfl
              · exact HOK.out j hj h3
              · exact hf)
            generalize ns[k] = n0 at *
            obtain ⟨r0, ⟨s0, a0, o0⟩, t0, td0⟩ := n0
            cases r0
            · have hin : inB (keyOf ⟨s0, a0, o0⟩) l m = true := by simpa [faultAt] using hf
              clear hf
              go_wp2_with fail
              (refine wp_region_more_lit (by kernel_rfl) (by kernel_rfl) ?_; (repeat (go_big_quiet_step ((first | (go_at_call 25; with_reducible exact Calls.more_of (c_PitchKey ⟨s0, a0, o0⟩ _)) | (go_at_call 49; with_reducible exact Calls.more_same (c_within _ _ _ _)))))); refine wpQuiet_nil ?_; intro wq hwq; have hbq := below_of_more hwq; clear hwq; have hzq := hbq.size; (try simp only [size_alloc', size_setCell', size_drew', size_drewN'] at hzq); (try (refine keep_heap (b := w.heap.size) hbq ?_ ?_; (first | omega | (simp only [size_alloc', size_setCell', size_drew', size_drewN']; omega)); intro hkq; simp only [heap_alloc_get, heap_setCell_get, heap_drew_get, heap_drewN_get, size_alloc', size_setCell', size_drew', size_drewN', nat_simp1, nat_simp2, nat_simp3, nat_simp4, nat_simp5, if_true, if_false, *] at hkq; obtain ⟨_, _⟩ := blk_facts hkq)); skip)
              rw [hin]
              go_wp2
              go_roundw
              case rel => exact ⟨k + 1, by omega, by go_num, hkq, by (repeat' (first | (with_reducible exact Below.refl _ _) | (with_reducible refine Below.setCell ?_ ?_ _) | (with_reducible refine Below.alloc ?_ ?_ _) | (with_reducible refine Below.drew ?_) | (with_reducible refine below_drewN ?_ _) | (with_reducible refine Below.trans ?_ (Below.mono (by with_reducible assumption) ?_)) | omega | (simp only [size_alloc', size_setCell', size_drew', size_drewN'] at *; omega))), HS.out⟩
              case measure => simp [intOf]; omega
            · clear hf
              go_wp2_with fail
              (refine wp_region_more_lit (by kernel_rfl) (by kernel_rfl) ?_; (repeat (go_big_quiet_step (fail))); refine wpQuiet_nil ?_; intro wq hwq; have hbq := below_of_more hwq; clear hwq; have hzq := hbq.size; (try simp only [size_alloc', size_setCell', size_drew', size_drewN'] at hzq); (try (refine keep_heap (b := w.heap.size) hbq ?_ ?_; (first | omega | (simp only [size_alloc', size_setCell', size_drew', size_drewN']; omega)); intro hkq; simp only [heap_alloc_get, heap_setCell_get, heap_drew_get, heap_drewN_get, size_alloc', size_setCell', size_drew', size_drewN', nat_simp1, nat_simp2, nat_simp3, nat_simp4, nat_simp5, if_true, if_false, *] at hkq; obtain ⟨_, _⟩ := blk_facts hkq)); skip)
              go_wp2
              go_roundw
              case rel => exact ⟨k + 1, by omega, by go_num, hkq, by (repeat' (first | (with_reducible exact Below.refl _ _) | (with_reducible refine Below.setCell ?_ ?_ _) | (with_reducible refine Below.alloc ?_ ?_ _) | (with_reducible refine Below.drew ?_) | (with_reducible refine below_drewN ?_ _) | (with_reducible refine Below.trans ?_ (Below.mono (by with_reducible assumption) ?_)) | omega | (simp only [size_alloc', size_setCell', size_drew', size_drewN'] at *; omega))), HS.out⟩
              case measure => simp [intOf]; omega
          · have HV := Lib.hid (fault_hit HVA.out.1 HVA.out.2 hlt HOK.out hf)
            generalize ns[k] = n0 at *
            obtain ⟨r0, ⟨s0, a0, o0⟩, t0, td0⟩ := n0
            cases r0
            · have hin : inB (keyOf ⟨s0, a0, o0⟩) l m = false := by simpa [faultAt] using hf
              clear hf
              go_wp2_with fail
              (refine wp_region_more_lit (by kernel_rfl) (by kernel_rfl) ?_; (repeat (go_big_quiet_step ((first | (go_at_call 25; with_reducible exact Calls.more_of (c_PitchKey ⟨s0, a0, o0⟩ _)) | (go_at_call 49; with_reducible exact Calls.more_same (c_within _ _ _ _)))))); refine wpQuiet_nil ?_; intro wq hwq; have hbq := below_of_more hwq; clear hwq; have hzq := hbq.size; (try simp only [size_alloc', size_setCell', size_drew', size_drewN'] at hzq); (try (refine keep_heap (b := w.heap.size) hbq ?_ ?_; (first | omega | (simp only [size_alloc', size_setCell', size_drew', size_drewN']; omega)); intro hkq; simp only [heap_alloc_get, heap_setCell_get, heap_drew_get, heap_drewN_get, size_alloc', size_setCell', size_drew', size_drewN', nat_simp1, nat_simp2, nat_simp3, nat_simp4, nat_simp5, if_true, if_false, *] at hkq; obtain ⟨_, _⟩ := blk_facts hkq)); skip)
              rw [hin]
              go_wp2
              go_ret
              exact ⟨ret_int HV.out.symm, by (repeat' (first | (with_reducible exact Below.refl _ _) | (with_reducible refine Below.setCell ?_ ?_ _) | (with_reducible refine Below.alloc ?_ ?_ _) | (with_reducible refine Below.drew ?_) | (with_reducible refine below_drewN ?_ _) | (with_reducible refine Below.trans ?_ (Below.mono (by with_reducible assumption) ?_)) | omega | (simp only [size_alloc', size_setCell', size_drew', size_drewN'] at *; omega)))⟩
            · simp [faultAt] at hf
        · have HV := Lib.hid (show faultV ⟨s, h, l, m⟩ ns = -1 from fault_none HVA.out.1 HVA.out.2 fun j hj _ => HOK.out j hj (by omega))
          go_wp2
          go_ret
          exact ⟨ret_int HV.out.symm, by (repeat' (first | (with_reducible exact Below.refl _ _) | (with_reducible refine Below.setCell ?_ ?_ _) | (with_reducible refine Below.alloc ?_ ?_ _) | (with_reducible refine Below.drew ?_) | (with_reducible refine below_drewN ?_ _) | (with_reducible refine Below.trans ?_ (Below.mono (by with_reducible assumption) ?_)) | omega | (simp only [size_alloc', size_setCell', size_drew', size_drewN'] at *; omega)))⟩
theorem walk_FnExactRangeFault (w : World) (i : Ins) (hi : i.Good) (v : Value) (ns : List Nt) (hr : Rd w v 6 ns.length (ntCells ns)) (hgd : ∀ a ∈ ns, a.Good) :
    Calls Try.prog 5 #[i.v, v] w fun e w' => e = .returned (.bool true) ∧ Below w.heap.size w w' := by
  obtain ⟨s, h, l, m⟩ := i
  have HRw := Lib.hid hr
  obtain ⟨_, A, c, rfl, hnc, hcm, hA⟩ := hr
  unfold maxLen at hcm
  clear hA
  by_cases hlen : (ns.length : Int) ≤ 1048576
  · go_enter Try.func5, Try.ntmps5
    go_wp2_with fail
    (go_at_call 18; (with_reducible refine (c_szNoteS A _ c 1048576 _ (by omega) (by omega) (by omega) hlen).mono ?_); rintro e wA ⟨rfl, hwA⟩)
    have hA0 : wA.heap[w.heap.size]? = some (.cells #[.int .i64 s, .int .i64 h, .int .i64 l, .int .i64 m] 25 (0, 0)) := by rw [← hwA]; exact heap_alloc_new _ _
    have hzA : wA.heap.size = w.heap.size + 1 := by rw [← hwA, size_alloc']
    have S0 : Below w.heap.size w wA := by rw [← hwA]; exact bel1 _ _
    have HR := Lib.hid (show Rd wA (.slice A ns.length c) 6 ns.length (ntCells ns) from HRw.out.below (Nat.le_refl _) S0)
    clear hwA HRw
    have S2 := Below.refl wA.heap.size wA
    obtain ⟨_, _⟩ := blk_facts hA0
    have HA0 := Lib.hid hA0
    clear hA0
    have hn : ns.length ≤ 1048576 := by omega
    have hsz0 : ¬ ((1048576 : Int) - ns.length < 0) := by omega
    go_wp2_with fail
    (go_at_call 14; (with_reducible refine (c_toInstrument s h l m _).mono ?_); rintro e w1 ⟨rfl, hb1⟩; have S2 := S2.trans (hb1.mono S2.size))
    go_wp2_with fail
    (go_at_call 20; (with_reducible refine (c_toNoteS _ ns _ (HR.out.below (Nat.le_refl _) S2) hn).mono ?_); rintro e w2 ⟨v2, rfl, ho2, hb2⟩; have S2 := S2.trans (hb2.mono S2.size))
    have HR2 := Lib.hid (Rd.of_own ho2)
    clear ho2
    go_wp2_with fail
    (go_at_call 19; (with_reducible refine (c_sRangeFault s h l m _ ns _ HR2.out).mono ?_); rintro e w3 ⟨rfl, hb3⟩; have S2 := S2.trans (hb3.mono S2.size))
    go_wp2_with fail
    (go_at_call 20; (with_reducible refine (c_toNoteS _ ns _ (HR.out.below (Nat.le_refl _) S2) hn).mono ?_); rintro e w4 ⟨v4, rfl, ho4, hb4⟩; have S2 := S2.trans (hb4.mono S2.size))
    have HR4 := Lib.hid (Rd.of_own ho4)
    clear ho4
    have h4 := below_heap S2 HA0.out
    obtain ⟨_, _⟩ := blk_facts h4
    clear h4
    go_wp2_with fail
    (go_at_call 14; (with_reducible refine (c_toInstrument s h l m _).mono ?_); rintro e w5 ⟨rfl, hb5⟩; have S2 := S2.trans (hb5.mono S2.size))
    have HR5 := Lib.hid (HR4.out.below (Nat.le_refl _) hb5)
    go_wp2_with fail
    (go_at_call 21; (with_reducible refine (c_RangeFault s h l m _ ns _ HR5.out).mono ?_); rintro e w6 ⟨rfl, hb6⟩; have S2 := S2.trans (hb6.mono S2.size))
    have HR6 := Lib.hid (HR5.out.below (Nat.le_refl _) hb6)
    go_wp2_with fail
    (go_at_call 20; (with_reducible refine (c_toNoteS _ ns _ (HR.out.below (Nat.le_refl _) S2) hn).mono ?_); rintro e w7 ⟨v7, rfl, ho7, hb7⟩; have S2 := S2.trans (hb7.mono S2.size))
    have HR6 := Lib.hid (HR6.out.below (Nat.le_refl _) hb7)
    have HR7 := Lib.hid (Rd.of_own ho7)
    clear ho7
    go_wp2_with fail
    (go_at_call 22; (with_reducible refine (c_eqNoteS_eq _ _ ns _ HR6.out HR7.out).mono ?_); rintro e w8 ⟨rfl, hb8⟩; have S2 := S2.trans (hb8.mono S2.size))
    go_wp2_with fail
    go_ret
    exact ⟨rfl, S0.trans (S2.mono (by omega))⟩
  · go_enter Try.func5, Try.ntmps5
    go_wp2_with fail
    (go_at_call 18; (with_reducible refine (c_szNoteS_no A _ c 1048576 _ (by omega) (by omega) (by omega) (by omega)).mono ?_); rintro e wA ⟨rfl, hwA⟩)
    have S0 : Below w.heap.size w wA := by rw [← hwA]; exact bel1 _ _
    clear hwA
    go_wp2
    go_ret
    exact ⟨rfl, S0⟩
end Go.Proofs.Ythkaofnciaommaa
