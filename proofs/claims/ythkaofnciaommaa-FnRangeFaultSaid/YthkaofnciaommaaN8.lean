/- WriteFor and SoundOf on both sides. Conditions: none. -/
import Derived.Test.YthkaofnciaommaaN7
namespace Go.Proofs.Ythkaofnciaommaa
open Go.RowKit
set_option linter.unusedSimpArgs false
set_option linter.unusedVariables false
set_option maxHeartbeats 8000000

def writeV (i : Ins) (ns : List Nt) : Option (List Nt) := if insValid i = true then shiftV ns ⟨i.steps, i.halves⟩ else none
def soundV (i : Ins) (ns : List Nt) : Option (List Nt) := if insValid i = true then shiftV ns (backIv ⟨i.steps, i.halves⟩) else none
theorem ShiftPost.up {o : Option (List Nt)} {w w1 : World} {v : Value} {w' : World} (ho : w'.ownsRow w1.heap.size 50 6 v (o.getD []).length (ntCells (o.getD []))) (hl : (o.getD []).length ≤ 60) (hs : w.heap.size ≤ w1.heap.size) (hb : Below w.heap.size w w') :
    ShiftPost o w (.returned (.tuple #[v, .bool o.isSome])) w' := ⟨v, rfl, own_monoA ho hs, hl, hb⟩
theorem c_WriteFor (s h l m : Int) (v : Value) (ns : List Nt) (w : World) (hr : Rd w v 6 ns.length (ntCells ns)) :
    Calls Try.prog 27 #[.agg #[.int .i64 s, .int .i64 h, .int .i64 l, .int .i64 m], v] w (ShiftPost (writeV ⟨s, h, l, m⟩ ns) w) := by
  cases h1 : insValid ⟨s, h, l, m⟩
  · have HV := Lib.hid (show writeV ⟨s, h, l, m⟩ ns = none by unfold writeV; rw [h1]; rfl)
    rw [HV.out]
    go_enter Try.func27, Try.ntmps27
    go_wp2_with (go_at_call 15; (with_reducible refine (c_InstrumentValid s h l m _).mono ?_); rintro e wq ⟨rfl, hbq⟩; have hzq := hbq.size; (try simp only [size_alloc', size_setCell', size_drew', size_drewN'] at hzq); (try (refine keep_heap (b := w.heap.size) hbq ?_ ?_; (first | omega | (simp only [size_alloc', size_setCell', size_drew', size_drewN']; omega)); intro hkq; simp only [heap_alloc_get, heap_setCell_get, heap_drew_get, heap_drewN_get, size_alloc', size_setCell', size_drew', size_drewN', nat_simp1, nat_simp2, nat_simp3, nat_simp4, nat_simp5, if_true, if_false, *] at hkq; obtain ⟨_, _⟩ := blk_facts hkq)); skip)
    go_ret2
    exact ⟨_, rfl, ⟨rfl, .inl ⟨rfl, rfl⟩⟩, by simp, by (repeat' (first | (with_reducible exact Below.refl _ _) | (with_reducible refine Below.setCell ?_ ?_ _) | (with_reducible refine Below.alloc ?_ ?_ _) | (with_reducible refine Below.drew ?_) | (with_reducible refine below_drewN ?_ _) | (with_reducible refine Below.trans ?_ (Below.mono (by with_reducible assumption) ?_)) | omega | (simp only [size_alloc', size_setCell', size_drew', size_drewN'] at *; omega)))⟩
  · have HV := Lib.hid (show writeV ⟨s, h, l, m⟩ ns = shiftV ns ⟨s, h⟩ by unfold writeV; rw [if_pos h1])
    rw [HV.out]
    go_enter Try.func27, Try.ntmps27
    go_wp2_with fail
    (go_at_call 15; (with_reducible refine (c_InstrumentValid s h l m _).mono ?_); rintro e wq ⟨rfl, hbq⟩; have hzq := hbq.size; (try simp only [size_alloc', size_setCell', size_drew', size_drewN'] at hzq); (try (refine keep_heap (b := w.heap.size) hbq ?_ ?_; (first | omega | (simp only [size_alloc', size_setCell', size_drew', size_drewN']; omega)); intro hkq; simp only [heap_alloc_get, heap_setCell_get, heap_drew_get, heap_drewN_get, size_alloc', size_setCell', size_drew', size_drewN', nat_simp1, nat_simp2, nat_simp3, nat_simp4, nat_simp5, if_true, if_false, *] at hkq; obtain ⟨_, _⟩ := blk_facts hkq)); skip)
    have hB2 : Below w.heap.size w wq := by (repeat' (first | (with_reducible exact Below.refl _ _) | (with_reducible refine Below.setCell ?_ ?_ _) | (with_reducible refine Below.alloc ?_ ?_ _) | (with_reducible refine Below.drew ?_) | (with_reducible refine below_drewN ?_ _) | (with_reducible refine Below.trans ?_ (Below.mono (by with_reducible assumption) ?_)) | omega | (simp only [size_alloc', size_setCell', size_drew', size_drewN'] at *; omega)))
    go_wp2_with fail
    (go_at_call 36; (with_reducible refine (c_ShiftVoice _ ns ⟨s, h⟩ _ (hr.below (Nat.le_refl _) hB2)).mono ?_); rintro e w3 ⟨v3, rfl, ho3, hl3, hb3⟩)
    have HO3 := Lib.hid ho3
    have HL3 := Lib.hid hl3
    clear ho3 hl3
    go_wp2
    go_ret2
    exact ShiftPost.up HO3.out HL3.out hB2.size (hB2.trans (hb3.mono hB2.size))
theorem c_sWriteFor (s h l m : Int) (v : Value) (ns : List Nt) (w : World) (hr : Rd w v 6 ns.length (ntCells ns)) :
    Calls Try.prog 26 #[.agg #[.int .i64 s, .int .i64 h, .int .i64 l, .int .i64 m], v] w (ShiftPost (writeV ⟨s, h, l, m⟩ ns) w) := by
  cases h1 : insValid ⟨s, h, l, m⟩
  · have HV := Lib.hid (show writeV ⟨s, h, l, m⟩ ns = none by unfold writeV; rw [h1]; rfl)
    rw [HV.out]
    go_enter Try.func26, Try.ntmps26
    go_wp2_with (go_at_call 13; (with_reducible refine (c_sInstrumentValid s h l m _).mono ?_); rintro e wq ⟨rfl, hbq⟩; have hzq := hbq.size; (try simp only [size_alloc', size_setCell', size_drew', size_drewN'] at hzq); (try (refine keep_heap (b := w.heap.size) hbq ?_ ?_; (first | omega | (simp only [size_alloc', size_setCell', size_drew', size_drewN']; omega)); intro hkq; simp only [heap_alloc_get, heap_setCell_get, heap_drew_get, heap_drewN_get, size_alloc', size_setCell', size_drew', size_drewN', nat_simp1, nat_simp2, nat_simp3, nat_simp4, nat_simp5, if_true, if_false, *] at hkq; obtain ⟨_, _⟩ := blk_facts hkq)); skip)
    go_ret2
    exact ⟨_, rfl, own_monoA (own_new wq 50 6) (by have := hbq.size; simp only [size_alloc'] at this; omega), by simp, by (repeat' (first | (with_reducible exact Below.refl _ _) | (with_reducible refine Below.setCell ?_ ?_ _) | (with_reducible refine Below.alloc ?_ ?_ _) | (with_reducible refine Below.drew ?_) | (with_reducible refine below_drewN ?_ _) | (with_reducible refine Below.trans ?_ (Below.mono (by with_reducible assumption) ?_)) | omega | (simp only [size_alloc', size_setCell', size_drew', size_drewN'] at *; omega)))⟩
  · have HV := Lib.hid (show writeV ⟨s, h, l, m⟩ ns = shiftV ns ⟨s, h⟩ by unfold writeV; rw [if_pos h1])
    rw [HV.out]
    go_enter Try.func26, Try.ntmps26
    go_wp2_with fail
    (go_at_call 13; (with_reducible refine (c_sInstrumentValid s h l m _).mono ?_); rintro e wq ⟨rfl, hbq⟩; have hzq := hbq.size; (try simp only [size_alloc', size_setCell', size_drew', size_drewN'] at hzq); (try (refine keep_heap (b := w.heap.size) hbq ?_ ?_; (first | omega | (simp only [size_alloc', size_setCell', size_drew', size_drewN']; omega)); intro hkq; simp only [heap_alloc_get, heap_setCell_get, heap_drew_get, heap_drewN_get, size_alloc', size_setCell', size_drew', size_drewN', nat_simp1, nat_simp2, nat_simp3, nat_simp4, nat_simp5, if_true, if_false, *] at hkq; obtain ⟨_, _⟩ := blk_facts hkq)); skip)
    have hB2 : Below w.heap.size w wq := by (repeat' (first | (with_reducible exact Below.refl _ _) | (with_reducible refine Below.setCell ?_ ?_ _) | (with_reducible refine Below.alloc ?_ ?_ _) | (with_reducible refine Below.drew ?_) | (with_reducible refine below_drewN ?_ _) | (with_reducible refine Below.trans ?_ (Below.mono (by with_reducible assumption) ?_)) | omega | (simp only [size_alloc', size_setCell', size_drew', size_drewN'] at *; omega)))
    go_wp2_with fail
    (go_at_call 37; (with_reducible refine (c_sShiftVoice _ ns ⟨s, h⟩ _ (hr.below (Nat.le_refl _) hB2)).mono ?_); rintro e w3 ⟨v3, rfl, ho3, hl3, hb3⟩)
    have HO3 := Lib.hid ho3
    have HL3 := Lib.hid hl3
    clear ho3 hl3
    go_wp2
    go_ret2
    exact ShiftPost.up HO3.out HL3.out hB2.size (hB2.trans (hb3.mono hB2.size))
theorem c_SoundOf (s h l m : Int) (v : Value) (ns : List Nt) (w : World) (hr : Rd w v 6 ns.length (ntCells ns)) :
    Calls Try.prog 32 #[.agg #[.int .i64 s, .int .i64 h, .int .i64 l, .int .i64 m], v] w (ShiftPost (soundV ⟨s, h, l, m⟩ ns) w) := by
  cases h1 : insValid ⟨s, h, l, m⟩
  · have HV := Lib.hid (show soundV ⟨s, h, l, m⟩ ns = none by unfold soundV; rw [h1]; rfl)
    rw [HV.out]
    go_enter Try.func32, Try.ntmps32
    go_wp2_with (go_at_call 15; (with_reducible refine (c_InstrumentValid s h l m _).mono ?_); rintro e wq ⟨rfl, hbq⟩; have hzq := hbq.size; (try simp only [size_alloc', size_setCell', size_drew', size_drewN'] at hzq); (try (refine keep_heap (b := w.heap.size) hbq ?_ ?_; (first | omega | (simp only [size_alloc', size_setCell', size_drew', size_drewN']; omega)); intro hkq; simp only [heap_alloc_get, heap_setCell_get, heap_drew_get, heap_drewN_get, size_alloc', size_setCell', size_drew', size_drewN', nat_simp1, nat_simp2, nat_simp3, nat_simp4, nat_simp5, if_true, if_false, *] at hkq; obtain ⟨_, _⟩ := blk_facts hkq)); skip)
    go_ret2
    exact ⟨_, rfl, ⟨rfl, .inl ⟨rfl, rfl⟩⟩, by simp, by (repeat' (first | (with_reducible exact Below.refl _ _) | (with_reducible refine Below.setCell ?_ ?_ _) | (with_reducible refine Below.alloc ?_ ?_ _) | (with_reducible refine Below.drew ?_) | (with_reducible refine below_drewN ?_ _) | (with_reducible refine Below.trans ?_ (Below.mono (by with_reducible assumption) ?_)) | omega | (simp only [size_alloc', size_setCell', size_drew', size_drewN'] at *; omega)))⟩
  · have HV := Lib.hid (show soundV ⟨s, h, l, m⟩ ns = shiftV ns (backIv ⟨s, h⟩) by unfold soundV; rw [if_pos h1])
    rw [HV.out]
    go_enter Try.func32, Try.ntmps32
    go_wp2_with fail
    (go_at_call 15; (with_reducible refine (c_InstrumentValid s h l m _).mono ?_); rintro e wq ⟨rfl, hbq⟩; have hzq := hbq.size; (try simp only [size_alloc', size_setCell', size_drew', size_drewN'] at hzq); (try (refine keep_heap (b := w.heap.size) hbq ?_ ?_; (first | omega | (simp only [size_alloc', size_setCell', size_drew', size_drewN']; omega)); intro hkq; simp only [heap_alloc_get, heap_setCell_get, heap_drew_get, heap_drewN_get, size_alloc', size_setCell', size_drew', size_drewN', nat_simp1, nat_simp2, nat_simp3, nat_simp4, nat_simp5, if_true, if_false, *] at hkq; obtain ⟨_, _⟩ := blk_facts hkq)); skip)
    have hB1 : Below w.heap.size w wq := by (repeat' (first | (with_reducible exact Below.refl _ _) | (with_reducible refine Below.setCell ?_ ?_ _) | (with_reducible refine Below.alloc ?_ ?_ _) | (with_reducible refine Below.drew ?_) | (with_reducible refine below_drewN ?_ _) | (with_reducible refine Below.trans ?_ (Below.mono (by with_reducible assumption) ?_)) | omega | (simp only [size_alloc', size_setCell', size_drew', size_drewN'] at *; omega)))
    go_wp2_with fail
    (go_at_call 38; (with_reducible refine (c_IntervalBack s h _).mono ?_); rintro e w2 ⟨rfl, hbq⟩; have hzq := hbq.size; (try simp only [size_alloc', size_setCell', size_drew', size_drewN'] at hzq); (try (refine keep_heap (b := w.heap.size) hbq ?_ ?_; (first | omega | (simp only [size_alloc', size_setCell', size_drew', size_drewN']; omega)); intro hkq; simp only [heap_alloc_get, heap_setCell_get, heap_drew_get, heap_drewN_get, size_alloc', size_setCell', size_drew', size_drewN', nat_simp1, nat_simp2, nat_simp3, nat_simp4, nat_simp5, if_true, if_false, *] at hkq; obtain ⟨_, _⟩ := blk_facts hkq)); skip)
    have hB2 := hB1.trans (hbq.mono hB1.size)
    go_wp2_with fail
    (go_at_call 36; (with_reducible refine (c_ShiftVoice _ ns (backIv ⟨s, h⟩) _ (hr.below (Nat.le_refl _) hB2)).mono ?_); rintro e w3 ⟨v3, rfl, ho3, hl3, hb3⟩)
    have HO3 := Lib.hid ho3
    have HL3 := Lib.hid hl3
    clear ho3 hl3
    go_wp2
    go_ret2
    exact ShiftPost.up HO3.out HL3.out hB2.size (hB2.trans (hb3.mono hB2.size))
theorem c_sSoundOf (s h l m : Int) (v : Value) (ns : List Nt) (w : World) (hr : Rd w v 6 ns.length (ntCells ns)) :
    Calls Try.prog 33 #[.agg #[.int .i64 s, .int .i64 h, .int .i64 l, .int .i64 m], v] w (ShiftPost (soundV ⟨s, h, l, m⟩ ns) w) := by
  cases h1 : insValid ⟨s, h, l, m⟩
  · have HV := Lib.hid (show soundV ⟨s, h, l, m⟩ ns = none by unfold soundV; rw [h1]; rfl)
    rw [HV.out]
    go_enter Try.func33, Try.ntmps33
    go_wp2_with (go_at_call 13; (with_reducible refine (c_sInstrumentValid s h l m _).mono ?_); rintro e wq ⟨rfl, hbq⟩; have hzq := hbq.size; (try simp only [size_alloc', size_setCell', size_drew', size_drewN'] at hzq); (try (refine keep_heap (b := w.heap.size) hbq ?_ ?_; (first | omega | (simp only [size_alloc', size_setCell', size_drew', size_drewN']; omega)); intro hkq; simp only [heap_alloc_get, heap_setCell_get, heap_drew_get, heap_drewN_get, size_alloc', size_setCell', size_drew', size_drewN', nat_simp1, nat_simp2, nat_simp3, nat_simp4, nat_simp5, if_true, if_false, *] at hkq; obtain ⟨_, _⟩ := blk_facts hkq)); skip)
    go_ret2
    exact ⟨_, rfl, own_monoA (own_new wq 50 6) (by have := hbq.size; simp only [size_alloc'] at this; omega), by simp, by (repeat' (first | (with_reducible exact Below.refl _ _) | (with_reducible refine Below.setCell ?_ ?_ _) | (with_reducible refine Below.alloc ?_ ?_ _) | (with_reducible refine Below.drew ?_) | (with_reducible refine below_drewN ?_ _) | (with_reducible refine Below.trans ?_ (Below.mono (by with_reducible assumption) ?_)) | omega | (simp only [size_alloc', size_setCell', size_drew', size_drewN'] at *; omega)))⟩
  · have HV := Lib.hid (show soundV ⟨s, h, l, m⟩ ns = shiftV ns (backIv ⟨s, h⟩) by unfold soundV; rw [if_pos h1])
    rw [HV.out]
    go_enter Try.func33, Try.ntmps33
    go_wp2_with fail
    (go_at_call 13; (with_reducible refine (c_sInstrumentValid s h l m _).mono ?_); rintro e wq ⟨rfl, hbq⟩; have hzq := hbq.size; (try simp only [size_alloc', size_setCell', size_drew', size_drewN'] at hzq); (try (refine keep_heap (b := w.heap.size) hbq ?_ ?_; (first | omega | (simp only [size_alloc', size_setCell', size_drew', size_drewN']; omega)); intro hkq; simp only [heap_alloc_get, heap_setCell_get, heap_drew_get, heap_drewN_get, size_alloc', size_setCell', size_drew', size_drewN', nat_simp1, nat_simp2, nat_simp3, nat_simp4, nat_simp5, if_true, if_false, *] at hkq; obtain ⟨_, _⟩ := blk_facts hkq)); skip)
    have hB1 : Below w.heap.size w wq := by (repeat' (first | (with_reducible exact Below.refl _ _) | (with_reducible refine Below.setCell ?_ ?_ _) | (with_reducible refine Below.alloc ?_ ?_ _) | (with_reducible refine Below.drew ?_) | (with_reducible refine below_drewN ?_ _) | (with_reducible refine Below.trans ?_ (Below.mono (by with_reducible assumption) ?_)) | omega | (simp only [size_alloc', size_setCell', size_drew', size_drewN'] at *; omega)))
    go_wp2_with fail
    (go_at_call 55; (with_reducible refine (c_sIntervalBack s h _).mono ?_); rintro e w2 ⟨rfl, hbq⟩; have hzq := hbq.size; (try simp only [size_alloc', size_setCell', size_drew', size_drewN'] at hzq); (try (refine keep_heap (b := w.heap.size) hbq ?_ ?_; (first | omega | (simp only [size_alloc', size_setCell', size_drew', size_drewN']; omega)); intro hkq; simp only [heap_alloc_get, heap_setCell_get, heap_drew_get, heap_drewN_get, size_alloc', size_setCell', size_drew', size_drewN', nat_simp1, nat_simp2, nat_simp3, nat_simp4, nat_simp5, if_true, if_false, *] at hkq; obtain ⟨_, _⟩ := blk_facts hkq)); skip)
    have hB2 := hB1.trans (hbq.mono hB1.size)
    go_wp2_with fail
    (go_at_call 37; (with_reducible refine (c_sShiftVoice _ ns (backIv ⟨s, h⟩) _ (hr.below (Nat.le_refl _) hB2)).mono ?_); rintro e w3 ⟨v3, rfl, ho3, hl3, hb3⟩)
    have HO3 := Lib.hid ho3
    have HL3 := Lib.hid hl3
    clear ho3 hl3
    go_wp2
    go_ret2
    exact ShiftPost.up HO3.out HL3.out hB2.size (hB2.trans (hb3.mono hB2.size))
end Go.Proofs.Ythkaofnciaommaa
